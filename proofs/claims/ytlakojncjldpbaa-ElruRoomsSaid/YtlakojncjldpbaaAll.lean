/- All slots of a list: a range over a function. -/
import Derived.Test.YtlakojncjldpbaaSeg
import Derived.Test.YtlakojncjldpbaaNews
import Derived.RangeFuncNested
import Derived.RangeFuncBound
import Derived.RangeFuncCalls
import Derived.RangeFuncLeaves
import Derived.RangeFuncBox
import Derived.Shelf.Abstract
import Derived.Shelf.RegionOpen
import Derived.OwnWalkIn
import Derived.TacticsInMore
import Derived.LoopNIn
import Derived.LoopIn
import Derived.Maps.AppendAt
namespace Go.Proofs.Ytlakojncjldpbaa
open Go.RowKit Go.Shelf Hop
set_option linter.unusedVariables false
set_option linter.unusedSimpArgs false
set_option maxRecDepth 100000
attribute [local go_sem] Oper.semAt_some
theorem grown_of_below {w w' : World} (h : Below w.heap.size w w') : w.grownBy w' none := ⟨h.os, h.tape, h.output, h.size, fun k hk _ => h.block k hk⟩
/-- How many are still to come, told by the next one. -/
def cm : List Int → Int → Nat
  | [], _ => 0
  | x :: r, y => if x = y then r.length + 1 else cm r y
def comes (c : List Int) (v : Value) : Nat := cm c (intOf v)
theorem comes_of (c pre rest : List Int) (hc : c = pre ++ rest) (hnd : c.Nodup) (h0 : ∀ x ∈ c, x ≠ 0) : comes c (.int .i32 (hdD 0 rest)) = rest.length := by
  subst hc
  show cm (pre ++ rest) (hdD 0 rest) = rest.length
  induction pre with
  | nil =>
    cases rest with
    | nil => rfl
    | cons y r => simp [cm, hdD]
  | cons z p ih =>
    have hz : z ≠ hdD 0 rest := by
      intro e
      cases rest with
      | nil => exact h0 z (by simp) e
      | cons y r => exact (List.nodup_cons.1 hnd).1 (by rw [show z = y from e]; simp)
    simp only [List.cons_append, cm, if_neg hz]
    exact ih (List.nodup_cons.1 hnd).2 (fun x hx => h0 x (List.mem_cons_of_mem _ hx))
theorem kslots1 (args : Array Value) (W : World) : (callFunc 230 args).run Try.prog W = .ok (.enter 230 args) W := by kernel_rfl
/-- What a round keeps: what lay below, and the iterator's own block. -/
def Kept1 (n₀ pl Bl : Nat) (A B : World) : Prop := Below n₀ A B ∧ (Blk A Bl [P0 pl] 155 → Blk B Bl [P0 pl] 155)
section
variable (pl pa bl ba : Nat) (S : List Sl) (ls : List Li) (f nx li : Value)
set_option maxHeartbeats 2000000 in
theorem slots1_in (t : Nat) (c : List Int) (n₀ : Nat) (W0 : World) (l Bl Bt : Nat) (hn : S.length < 1000000) (hls : ls.length < 100) (ht : t < ls.length) (htag : t < 50) (hs : seg S t 0 c 0) (hnd : c.Nodup) (hf : (lg ls t).front = hdD 0 c)
    (h0 : n₀ ≤ W0.heap.size) (J Jx : List Int → World → Prop) (hJ : AbidesFrom W0.heap.size J)
    (hY : ∀ pre x W, J pre W → pre.length < c.length → YieldAt Fence.wide 2 Try.prog l #[.int .i32 x] W fun e W' =>
      (e = .returned (.bool true) ∧ J (pre ++ [x]) W' ∧ Kept1 n₀ pl Bl W W') ∨ (e = .returned (.bool false) ∧ Jx (pre ++ [x]) W'))
    (hR : LRep W0 pl pa bl ba S ls f nx li) (hlow : pl < n₀ ∧ pa < n₀ ∧ bl < n₀ ∧ ba < n₀) (hBl : Blk W0 Bl [P0 pl] 155) (hBt : Blk W0 Bt [.int .i64 t] 3) (hJ0 : J [] W0) :
    CallsIn Fence.wide 3 Try.prog 230 #[.func (.yield l) #[] #[], P0 Bl, P0 Bt] W0 fun e W' => (∃ v, e = .returned v) ∧ ((∃ ys, ys = c ∧ J ys W') ∨ (∃ pre, pre <+: c ∧ Jx pre W')) := by
  have c0 := hBl.cell 0
  have c1 := hBt.cell 0
  simp only [List.getElem?_cons_zero] at c0 c1
  have hne0 : ∀ x ∈ c, x ≠ 0 := fun x hx => isT_ne0 (seg_mem hs hx).1
  have FR := (front_yes pl pa bl ba S ls f nx li t W0 (by omega) ht hR)
  rw [hf] at FR
  have HFR := Go.Lib.hid FR
  have HJ := Go.Lib.hid hJ
  have HNE := Go.Lib.hid hne0
  have HY := Go.Lib.hid hY
  clear FR hJ hne0 hf hY
  refine callsIn_of_wp Try.func230 rfl trivial ?_ rfl
  simp only [Try.ntmps230, List.size_toArray, List.length_cons, List.length_nil, Nat.reduceAdd, Nat.reduceSub, Array.replicate_succ, Array.replicate_zero, List.push_toArray, List.append_toArray, List.nil_append, List.cons_append]
  gi_wp2_with (refine ⟨trivial, ?_⟩; gi_at_call 220; refine (callsIn_wide.2 HFR.out).mono ?_; rintro e w' ⟨rfl, rfl⟩)
  gi_loopw [4] (fun v wr => ∃ (pre rest : List Int), v = .int .i32 (hdD 0 rest) ∧ Hid (c = pre ++ rest) ∧ Blk wr Bl [P0 pl] 155 ∧ Below n₀ W0 wr ∧ W0.heap.size ≤ wr.heap.size ∧ J pre wr) (fun v wr => comes c v)
  case atStart => exact ⟨[], c, rfl, rfl, hBl, Below.refl _ _, Nat.le_refl _, hJ0⟩
  case round =>
    obtain ⟨pre, rest, rfl, hx, b1, hb, hsz, hJs⟩ := hrel
    have c0' := b1.cell 0
    simp only [List.getElem?_cons_zero] at c0'
    have HB := Go.Lib.hid hb
    cases rest with
    | nil =>
      have hx0 : pre = c := by have := hx.out; simpa using this.symm
      have HX0 := Go.Lib.hid hx0
      clear hx0 hb
      rw [show hdD 0 [] = 0 from rfl]
      gi_wp2
      refine ⟨fun _ h => (by cases h), ?_⟩
      gi_wp2
      go_end0
      exact ⟨⟨_, rfl⟩, .inl ⟨pre, HX0.out, hJs⟩⟩
    | cons x rest =>
      have hlt : pre.length < c.length := by rw [hx.out]; simp
      have hxc : x ∈ c := by rw [hx.out]; simp
      have hm := seg_mem hs hxc
      have hx0 : (x != 0) = true := by simpa using HNE.out x hxc
      have hx00 : x ≠ 0 := HNE.out x hxc
      have hnext : (ndT S x).next = hdD 0 rest := by
        have q := hs
        rw [hx.out, seg_append] at q
        exact q.2.1.2.2.2
      have hil := isT_lt hm.1
      obtain ⟨fn, tmps, assign, body, hy, hRd⟩ := HY.out pre x wr hJs hlt
      have HHR := Go.Lib.hid hRd
      have HN := Go.Lib.hid hnext
      have HM := Go.Lib.hid hm
      have hile : x ≤ 2147483647 := by omega
      have HXC := Go.Lib.hid hx00
      clear hRd hnext hm hil hb hxc hx00
      rw [show hdD 0 (x :: rest) = x from rfl]
      gi_wp2
      refine HHR.out.mono ?_
      rintro e W3 (⟨rfl, hJ3, hk3⟩ | ⟨rfl, hJx3⟩)
      · have hb3 := HB.out.trans hk3.1
        have hR3 : LRep W3 pl pa bl ba S ls f nx li := ⟨hR.hl.of_heap (hb3.block _ hlow.1), hR.ha.of_heap (hb3.block _ hlow.2.1), hR.bl.of_heap (hb3.block _ hlow.2.2.1), hR.ba.of_heap (hb3.block _ hlow.2.2.2)⟩
        have b13 : Blk W3 Bl [P0 pl] 155 := hk3.2 b1
        have c03 := b13.cell 0
        simp only [List.getElem?_cons_zero] at c03
        have AF := after_yes pl pa bl ba S ls f nx li x W3 hile hn hR3 (by rw [HM.out.2]; omega)
        rw [HN.out] at AF
        have HAF := Go.Lib.hid AF
        have HB3 := Go.Lib.hid hb3
        have HSZ := Go.Lib.hid (Nat.le_trans hsz hk3.1.size)
        clear AF hb3 hk3 c0'
        gi_wp2_with (refine ⟨trivial, ?_⟩; gi_at_call 231; refine (callsIn_wide.2 HAF.out).mono ?_; rintro e w4 ⟨rfl, hb4⟩; have HB4 := Go.Lib.hid hb4; clear hb4)
        go_roundw
        case rel =>
          refine ⟨pre ++ [x], rest, rfl, Go.Lib.hid (by have := hx.out; simpa using this), b13.keep HB4.out, HB3.out.trans (HB4.out.mono (Nat.le_trans h0 HSZ.out)), Nat.le_trans HSZ.out HB4.out.size, HJ.out _ _ _ none hJ3 (grown_of_below HB4.out) (fun r e => by cases e)⟩
        case measure =>
          rw [comes_of c (pre ++ [x]) rest (by have := hx.out; simpa using this) hnd HNE.out]
          have q := comes_of c pre (x :: rest) hx.out hnd HNE.out
          rw [show hdD 0 (x :: rest) = x from rfl] at q
          rw [q]
          simp
      · gi_wp2
        go_end0
        exact ⟨⟨_, rfl⟩, .inr ⟨pre ++ [x], ⟨rest, by have := hx.out; simpa using this.symm⟩, hJx3⟩⟩
set_option maxHeartbeats 800000 in
theorem slots_any (t : Nat) (w : World) :
    Calls Try.prog 201 #[P0 pl, .int .i64 t] w fun e w' => e = .returned (.func (.func 230) #[] #[P0 w.heap.size, P0 (w.heap.size + 1)]) ∧ w' = (w.alloc (.cells #[P0 pl] 155)).alloc (.cells #[.int .i64 t] 3) := by
  go_enter Try.func201, Try.ntmps201
  go_wp2
  go_ret
  exact ⟨rfl, rfl⟩
set_option maxHeartbeats 2000000 in
theorem all_any (t : Nat) (c : List Int) (w : World) (hn : S.length < 1000000) (hls : ls.length < 100) (ht : t < ls.length) (htag : t < 50) (hs : seg S t 0 c 0) (hnd : c.Nodup) (hf : (lg ls t).front = hdD 0 c) (hlen : c.length < 1000000)
    (hR : LRep w pl pa bl ba S ls f nx li) :
    Calls Try.prog 169 #[P0 pl, .int .i64 t] w fun e w' => ∃ v, e = .returned v ∧ Row w' 21 1 v c.length (c.map (Value.int .i32)) ∧ (∀ b, v.ownBlock = some b → w.heap.size ≤ b) ∧ Below w.heap.size w w' := by
  refine callsIn_wide (n := 4).1 ?_
  obtain ⟨i0, hi, hz0, hz1, hz2⟩ := info_parts i32_info
  have hro : Fence.wide.round = none := rfl
  have l0 := hR.hl.lt
  have l1 := hR.ha.lt
  have l2 := hR.bl.lt
  have l3 := hR.ba.lt
  refine callsIn_of_wp_marks Try.func169 rfl trivial ?_ hro
  simp only [Try.ntmps169, List.size_toArray, List.length_cons, List.length_nil, Nat.reduceAdd, Nat.reduceSub, Array.replicate_succ, Array.replicate_zero, List.push_toArray, List.append_toArray, List.nil_append, List.cons_append]
  gi_wp2_with (refine ⟨trivial, ?_⟩; gi_at_call 201; refine (callsIn_wide.2 (slots_any pl t _)).mono ?_; rintro e w' ⟨rfl, rfl⟩)
  obtain ⟨W0, hW0⟩ : ∃ W0, W0 = ((w.alloc (.cells #[.slice none 0 0] 161)).alloc (.cells #[P0 pl] 155)).alloc (.cells #[.int .i64 t] 3) := ⟨_, rfl⟩
  have hB0 : Below w.heap.size w W0 := by
    rw [hW0]
    exact (((Below.refl _ w).alloc (Nat.le_refl _) _).alloc (by simp) _).alloc (by simp; omega) _
  have bO : Boxed W0 w.heap.size 161 (.slice none 0 0) := by
    rw [hW0]
    exact ((Boxed.new w 161 (.slice none 0 0)).alloc _).alloc _
  have bL : Blk W0 (w.heap.size + 1) [P0 pl] 155 := by
    rw [hW0]
    exact (Blk.new1 w _ [P0 pl] 155).alloc _
  have bT : Blk W0 (w.heap.size + 1 + 1) [.int .i64 t] 3 := by
    rw [hW0]
    exact Blk.new2 w _ _ [.int .i64 t] 3
  have zW : W0.heap.size = w.heap.size + 3 := by rw [hW0]; simp
  rw [← hW0]
  have R0 := hR.keep hB0
  have HSEQ : SeqStopsK Fence.wide 3 Try.prog 230 #[P0 (w.heap.size + 1), P0 (w.heap.size + 1 + 1)] (fun x : Int => #[Value.int .i32 x]) (Kept1 w.heap.size pl (w.heap.size + 1)) (fun ys => ys = c) (fun pre => pre <+: c) c.length W0 := by
    intro l J Jx W hW hJ hJx hY h0
    exact slots1_in pl pa bl ba S ls f nx li t c w.heap.size W l (w.heap.size + 1) (w.heap.size + 1 + 1) hn hls ht htag hs hnd hf (by have := hW.size; omega) J Jx hJ hY (R0.keep hW) ⟨l0, l1, l2, l3⟩ (bL.keep hW) (bT.keep hW) h0
  clear hW0
  refine wpIn_rangeFunc_ownG hro (by decide : 1 ≤ 4) (gf := 230) (lb := #[P0 (w.heap.size + 1), P0 (w.heap.size + 1 + 1)]) rfl trivial (enters_of Try.func230 (by kernel_rfl) rfl)
    HSEQ (fun {A B C} h k => ⟨h.1.trans k.1, fun q => k.2 (h.2 q)⟩)
    (fun W l o o' hl h hc hw => ⟨belowK_b (by omega : w.heap.size ≤ W0.heap.size) W l o o' hl h hc hw, fun q => q.of_heap (World.putObj_heap_other (fun e => by subst e; omega))⟩) (Below.refl _ _) (fun _ => rfl)
    (fun pre W => (∃ v, Boxed W w.heap.size 161 v ∧ W.ownsRow w.heap.size 21 1 v pre.length (pre.map (Value.int .i32)) ∧ True) ∧ Below w.heap.size w W)
    (fun _ _ _ => False)
    (OwnFrom.and (Own.from (holdsRow_own w.heap.size w.heap.size 161 21 1 (fun pre : List Int => pre.length) (fun pre : List Int => pre.map (Value.int .i32)) (fun _ _ => True)) _) (ownFrom_below (Nat.le_refl _) (by omega)))
    (fun _ _ _ _ _ hs _ _ => hs)
    ⟨⟨_, bO, World.ownsRow_nil _ _ _ _, trivial⟩, hB0⟩
    (fun x => { tmps := #[P0 pl, .int .i64 t, undef, undef, .slice none 0 0, .pointer (some ⟨w.heap.size, 0, none⟩), .int .i32 x, P0 pl, .int .i64 t, .func (.func 230) #[] #[P0 (w.heap.size + 1), P0 (w.heap.size + 1 + 1)], .int .i32 x, undef, undef, undef, undef, undef], defers := [] }) ?assign ?body ?done ?stop
  case assign =>
    intro l x W K hK
    gi_wp2
    exact hK
  case body =>
    rintro l pre x W ⟨⟨v, hv, hrow, _⟩, hB⟩ hlt
    have hc := hv.cell
    have hbl : ∀ W', W'.heap[w.heap.size + 1]? = W.heap[w.heap.size + 1]? → (Blk W (w.heap.size + 1) [P0 pl] 155 → Blk W' (w.heap.size + 1) [P0 pl] 155) := fun W' e q => q.of_heap e
    gi_wp2_with (gi_at_builtin; refine wpListIn_append_own _ rfl _ _ 161 rfl w.heap.size 21 i0 (.int .i32 0) 1 4 Try.underlying161 hi hz0 hz1 hz2 rfl (by decide) _ _ _ rfl (hrow.alloc _) ⟨W.heap.size, 0, none⟩ 1 1 [.int .i32 x] rfl rfl (cell_one_new _ _ _) (by simp [Value.oneCell']) (by unfold maxLen; omega) (by omega) (by have := hB.size; simp; omega) ?_; intro v' w1 hown' hgrow _; obtain ⟨g', cap', rfl⟩ := ownsRow_succ hown'; obtain ⟨hv1, hv2, hr2, hk2, hb2⟩ := hv.appended (by decide) hrow hB.size (Nat.le_refl _) hown' hgrow; have hc1 := hv1.cell; have hf1 := hv1.frozen)
    refine ⟨hk2.from _, ⟨hb2, ?_⟩, ⟨_, hv2, by simpa using hr2, trivial⟩, hB.trans hb2⟩
    intro q
    have hne : w.heap.size + 1 < W.heap.size := q.lt
    have e1 : w1.heap[w.heap.size + 1]? = W.heap[w.heap.size + 1]? := by
      rw [hgrow.block _ (by simp; omega) (fun e => ?_), Below.heap_alloc _ _ _ hne]
      rcases hrow.2 with ⟨rfl, _⟩ | ⟨g, cap, cur, rfl, _, hgb, _⟩
      · cases e
      · have e2 : w.heap.size + 1 = g := Option.some.inj e
        subst e2
        unfold Blk at q
        rw [q] at hgb
        injection hgb with hgb
        injection hgb with _ h2 _
        exact absurd h2 (by decide)
    refine Blk.set_ne (a := ⟨w.heap.size, 0, none⟩) (q.of_heap e1) (by show w.heap.size + 1 ≠ w.heap.size; omega) _
  case done =>
    rintro D ys W hD rfl ⟨⟨v, hv, hrow, _⟩, hB⟩ hK
    have hc := hv.cell
    gi_wp2
    refine ⟨by simp, .inl ⟨_, _, rfl, run_takeDeferred hK, ?_⟩⟩
    have hrow' := ownsRow_putObj hrow (.deferred none) hK rfl
    refine ⟨_, results_tmp rfl _ _ _, v, rfl, ?_, ?_, hB.trans (belowK_b (w := w) (Nat.le_refl _) W D _ _ (by omega) hK rfl rfl)⟩
    · refine ⟨by simp, ?_⟩
      rcases hrow'.2 with q | ⟨g, cap, cur, h1, h2, h3, h4, h5, h6, h7⟩
      · exact .inl q
      · refine .inr ⟨g, cap, cur.toList, h1, ?_, h4, h5, by simp [h6], h7⟩
        unfold Blk
        simpa using h3
    · intro b hb
      rcases hrow'.2 with ⟨q, _⟩ | ⟨g, cap, cur, h1, h2, h3, h4, h5, h6, h7⟩
      · rw [q] at hb; cases hb
      · rw [h1] at hb
        have e : g = b := by simpa [Value.ownBlock] using hb
        omega
  case stop =>
    rintro D c pre W _ _ h _
    exact h.elim
end
end Go.Proofs.Ytlakojncjldpbaa
