/- script.Parse: the walk. -/
import Derived.Test.YtddihnnodegkmaaGreatDoorSc8
import Derived.BigRegionIn
namespace Go.Proofs.YtddihnnodegkmaaGreatDoor
open Go.RowKit Go.Shelf Hop
set_option linter.unusedVariables false
set_option linter.unusedSimpArgs false
set_option maxRecDepth 100000
attribute [local go_sem] Oper.semAt_some
def okL (l : ByteArray) : Bool := (lineF (rdF l)).toList == l.toList
theorem op_info : (Tryz.prog.info? 25).map (fun i => (i.zero, i.size, i.bytes)) = some (some (.agg #[.int .i64 0, .int .u64 0, .int .u64 0, .int .i64 0]), 4, 32) := by kernel_rfl
def sLine : ByteArray := ⟨#[108, 105, 110, 101]⟩
theorem Book.refl (n₀ B Z : Nat) (W : World) : Book n₀ B Z W W := ⟨fun _ _ _ h _ => h, rfl, fun _ _ _ => rfl, Nat.le_refl _⟩
theorem Book.of_fr {own : Nat → Prop} {n₀ B Z : Nat} {W W' : World} (h : Fr own W W') (hZ : Z < W.heap.size) (ho : ∀ k, own k → k < W.heap.size → n₀ ≤ k ∧ k ≠ Z ∧ ∀ o, W.heap[k]? = some o → o.isCells = true) : Book n₀ B Z W W' :=
  ⟨fun k o _ hk hc => by
      have hl := (Array.getElem?_eq_some_iff.1 hk).1
      rw [h.block k hl (fun hq => by rw [(ho k hq hl).2.2 o hk] at hc; cases hc)]; exact hk,
    h.block Z hZ (fun hq => (ho Z hq hZ).2.1 rfl), fun k hk hl => h.block k hl (fun hq => by have := (ho k hq hl).1; omega), h.size⟩
/-- Parse's own blocks: its results, its operations, its number. -/
structure PB (n₀ : Nat) (w W : World) (k : Nat) (L : List Op4) : Prop where
  b2 : Blk W n₀ [.slice none 0 0] 22
  b3 : Blk W (n₀ + 1) [.nilIface] 31
  b4 : ∃ v, Boxed W (n₀ + 1 + 1) 22 v ∧ W.ownsRow (n₀ + 5) 25 4 v k (L.flatMap cOp)
  b5 : Blk W (n₀ + 1 + 1 + 1) [.int .i64 k] 3
  lo : Below n₀ w W
  big : n₀ + 5 ≤ W.heap.size
theorem Turn.blk {n₀ Z b : Nat} {A B : World} {cs : List Value} {T : Nat} (h : Turn n₀ Z A B) (hb : Blk A b cs T) (hn : b ≠ Z) : Blk B b cs T := h.cells b _ hn hb rfl
theorem Turn.row {n₀ Z base k s : Nat} {A B : World} {xs : List Value} {T : Nat} {v : Value} (h : Turn n₀ Z A B) (hr : A.ownsRow base T s v k xs) (hn : Z < base) : B.ownsRow base T s v k xs := by
  refine ⟨hr.1, ?_⟩
  rcases hr.2 with h1 | ⟨g, cap, cur, h1, h2, h3, h4⟩
  · exact .inl h1
  · exact .inr ⟨g, cap, cur, h1, h2, h.cells g _ (by omega) h3 rfl, h4⟩
theorem Turn.below {n₀ Z : Nat} {A B w : World} (h : Turn n₀ Z A B) (hw : Below n₀ w A) (hn : n₀ ≤ w.heap.size) : Below n₀ w B :=
  ⟨h.os.trans hw.os, h.tape.trans hw.tape, h.output.trans hw.output, Nat.le_trans hw.size h.size, fun k hk => by
    rw [h.low k hk (by have := hw.size; omega)]; exact hw.block k hk⟩
theorem PB.turn {n₀ k : Nat} {w A B : World} {L : List Op4} (h : PB n₀ w A k L) (ht : Turn n₀ (n₀ + 1 + 1 + 1 + 1) A B) (hn : n₀ ≤ w.heap.size) : PB n₀ w B k L := by
  obtain ⟨v, h1, h2⟩ := h.b4
  exact ⟨ht.blk h.b2 (by omega), ht.blk h.b3 (by omega), ⟨v, ht.blk (cs := [v]) h1 (by omega), ht.row h2 (by omega)⟩, ht.blk h.b5 (by omega), ht.below h.lo hn, Nat.le_trans h.big ht.size⟩
/-- The answer to a line that is no operation's. -/
structure XB (n₀ : Nat) (w W : World) (k : Nat) : Prop where
  b2 : Blk W n₀ [.slice none 0 0] 22
  b3 : ∃ b, n₀ + 5 ≤ b ∧ Blk W (n₀ + 1) [.iface 56 (.pointer (some ⟨b, 0, none⟩))] 31 ∧ Blk W b [.string sLine, .int .i64 k, .iface 40 (.int .i64 3)] 58
  lo : Below n₀ w W
theorem XB.turn {n₀ k : Nat} {w A B : World} (h : XB n₀ w A k) (ht : Turn n₀ (n₀ + 1 + 1 + 1 + 1) A B) (hn : n₀ ≤ w.heap.size) : XB n₀ w B k := by
  obtain ⟨b, h1, h2, h3⟩ := h.b3
  exact ⟨ht.blk h.b2 (by omega), ⟨b, h1, ht.blk h2 (by omega), ht.blk h3 (by omega)⟩, ht.below h.lo hn⟩
theorem fr_grown {w w' : World} {r : Option Nat} (h : w.grownBy w' r) : Fr (fun k => some k = r) w w' := ⟨h.os, h.tape, h.output, h.size, fun k hk hn => h.block k hk hn⟩
theorem fr_below {own : Nat → Prop} {n₀ : Nat} {w W W' : World} (h : Below n₀ w W) (hn : n₀ ≤ w.heap.size) (f : Fr own W W') (ho : ∀ k, own k → n₀ ≤ k) : Below n₀ w W' :=
  ⟨f.os.trans h.os, f.tape.trans h.tape, f.output.trans h.output, Nat.le_trans h.size f.size, fun k hk => by
    rw [f.block k (by have := h.size; omega) (fun hq => by have := ho k hq; omega)]; exact h.block k hk⟩
theorem pb_more {n₀ B k : Nat} {w W w1 w2 : World} {L : List Op4} {v v' : Value} {Y : Op4} {o1 o2 : Obj} (hn : n₀ ≤ w.heap.size) (hP : PB n₀ w W k L) (hv : Boxed W (n₀ + 1 + 1) 22 v)
    (hr : W.ownsRow (n₀ + 5) 25 4 v k (L.flatMap cOp)) (F1 : Fr (fun k => k = n₀ + 1 + 1 + 1) W w1) (x5 : Blk w1 (n₀ + 1 + 1 + 1) [.int .i64 ((k : Int) + 1)] 3)
    (hg : ((w1.alloc o1).alloc o2).grownBy w2 v.ownBlock) (ho : w2.ownsRow (n₀ + 5) 25 4 v' (k + 1) (L.flatMap cOp ++ cOp Y)) :
    Book n₀ B (n₀ + 1 + 1 + 1 + 1) W (w2.setCell ⟨n₀ + 1 + 1, 0, none⟩ v') ∧ PB n₀ w (w2.setCell ⟨n₀ + 1 + 1, 0, none⟩ v') (k + 1) (L ++ [Y]) := by
  have hown : ∀ k, some k = v.ownBlock → n₀ + 5 ≤ k ∧ ∀ o, W.heap[k]? = some o → o.isCells = true := by
    intro q hq
    rcases hr.2 with ⟨h1, _⟩ | ⟨g, cap, cur, h1, h2, h3, _⟩
    · rw [h1] at hq; cases hq
    · rw [h1] at hq
      have e : q = g := by simpa [Value.ownBlock] using hq
      subst e
      exact ⟨h2, fun o ho => by rw [h3] at ho; cases ho; rfl⟩
  have big := hP.big
  have s1 := F1.size
  have F13 : Fr (fun q => q = n₀ + 1 + 1 ∨ some q = v.ownBlock) w1 (w2.setCell ⟨n₀ + 1 + 1, 0, none⟩ v') :=
    ((((Fr.refl _ w1).alloc o1).alloc o2).trans (fr_grown hg) (fun i hi => .inl (.inr hi))).setCell (.inl (.inl rfl)) _
  have F : Fr (fun q => q = n₀ + 1 + 1 ∨ q = n₀ + 1 + 1 + 1 ∨ some q = v.ownBlock) W (w2.setCell ⟨n₀ + 1 + 1, 0, none⟩ v') :=
    (F1.mono (fun i hi => .inr (.inl hi))).trans F13 (fun i hi => hi.elim (fun h => .inl (.inl h)) (fun h => .inl (.inr (.inr h))))
  have hv2 : Boxed w2 (n₀ + 1 + 1) 22 v := by
    have q : Boxed w1 (n₀ + 1 + 1) 22 v := F1.blk (cs := [v]) (by omega) hv
    exact ((q.alloc o1).alloc o2).kept hg (fun e => by have := (hown _ e).1; omega)
  have no : ∀ j, j < n₀ + 5 → j ≠ n₀ + 1 + 1 → j ≠ n₀ + 1 + 1 + 1 → ¬ (j = n₀ + 1 + 1 ∨ j = n₀ + 1 + 1 + 1 ∨ some j = v.ownBlock) := fun j h1 h2 h3 h => by
    rcases h with h | h | h
    · exact h2 h
    · exact h3 h
    · have := (hown _ h).1; omega
  refine ⟨Book.of_fr F (by omega) ?_, F.blk (no _ (by omega) (by omega) (by omega)) hP.b2, F.blk (no _ (by omega) (by omega) (by omega)) hP.b3, ⟨v', hv2.set v', ?_⟩, ?_, fr_below hP.lo hn F ?_, ?_⟩
  · rintro j (rfl | rfl | h) hj
    · exact ⟨by omega, by omega, fun o ho => by rw [show W.heap[n₀ + 1 + 1]? = _ from hv] at ho; cases ho; rfl⟩
    · exact ⟨by omega, by omega, fun o ho => by rw [show W.heap[n₀ + 1 + 1 + 1]? = _ from hP.b5] at ho; cases ho; rfl⟩
    · exact ⟨by have := (hown _ h).1; omega, by have := (hown _ h).1; omega, (hown _ h).2⟩
  · rw [List.flatMap_append]
    have e : [Y].flatMap cOp = cOp Y := by simp
    rw [e]
    refine ⟨ho.1, ?_⟩
    rcases ho.2 with q | ⟨g, cap, cur, q1, q2, q3, q4⟩
    · exact .inl q
    · exact .inr ⟨g, cap, cur, q1, q2, (Below.heap_setCell _ _ _ _ (by show g ≠ n₀ + 1 + 1; omega)).trans q3, q4⟩
  · exact F13.blk (fun h => by rcases h with h | h; · omega
                               · have := (hown _ h).1; omega) x5
  · rintro j (rfl | rfl | h)
    · omega
    · omega
    · have := (hown _ h).1; omega
  · exact Nat.le_trans hP.big F.size
theorem xb_end {n₀ B b k : Nat} {w W W' : World} (hn : n₀ ≤ w.heap.size) (hP : ∃ L, PB n₀ w W k L) (F : Fr (fun q => q = n₀ ∨ q = n₀ + 1 ∨ q = n₀ + 1 + 1 + 1) W W') (c2 : Blk W' n₀ [.slice none 0 0] 22)
    (c3 : n₀ + 5 ≤ b ∧ Blk W' (n₀ + 1) [.iface 56 (.pointer (some ⟨b, 0, none⟩))] 31 ∧ Blk W' b [.string sLine, .int .i64 ((k : Int) + 1), .iface 40 (.int .i64 3)] 58) :
    Book n₀ B (n₀ + 1 + 1 + 1 + 1) W W' ∧ XB n₀ w W' (k + 1) := by
  obtain ⟨L, hP⟩ := hP
  have big := hP.big
  refine ⟨Book.of_fr F (by omega) ?_, c2, ⟨b, by exact_mod_cast c3⟩, fr_below hP.lo hn F ?_⟩
  · rintro j (rfl | rfl | rfl) hj
    · exact ⟨by omega, by omega, fun o ho => by rw [show W.heap[j]? = _ from hP.b2] at ho; cases ho; rfl⟩
    · exact ⟨by omega, by omega, fun o ho => by rw [show W.heap[n₀ + 1]? = _ from hP.b3] at ho; cases ho; rfl⟩
    · exact ⟨by omega, by omega, fun o ho => by rw [show W.heap[n₀ + 1 + 1 + 1]? = _ from hP.b5] at ho; cases ho; rfl⟩
  · rintro j (rfl | rfl | rfl) <;> omega
theorem row_alloc {w : World} {base k s T : Nat} {v : Value} {xs : List Value} (h : w.ownsRow base T s v k xs) (o : Obj) : (w.alloc o).ownsRow base T s v k xs := by
  refine ⟨h.1, ?_⟩
  rcases h.2 with q | ⟨g, cap, cur, q1, q2, q3, q4⟩
  · exact .inl q
  · exact .inr ⟨g, cap, cur, q1, q2, (Below.heap_alloc _ _ _ (Array.getElem?_eq_some_iff.1 q3).1).trans q3, q4⟩
theorem cells_new0 (w : World) (cs : List Value) (T : Nat) (j : Nat) (u : Value) (h : cs[j]? = some u) : (w.alloc (.cells cs.toArray T)).cell? (Addr.add ⟨w.heap.size, 0, none⟩ j) = some u := by
  have q := (Blk.new0 w cs T).cell j
  have e : Addr.add ⟨w.heap.size, 0, none⟩ j = ⟨w.heap.size, j, none⟩ := by simp [Addr.add]; try omega
  rw [e]
  exact q.trans h
theorem cells_new1 (w : World) (X : Obj) (cs : List Value) (T : Nat) (j : Nat) (u : Value) (h : cs[j]? = some u) : ((w.alloc X).alloc (.cells cs.toArray T)).cell? (Addr.add ⟨w.heap.size + 1, 0, none⟩ j) = some u := by
  have q := (Blk.new1 w X cs T).cell j
  have e : Addr.add ⟨w.heap.size + 1, 0, none⟩ j = ⟨w.heap.size + 1, j, none⟩ := by simp [Addr.add]; try omega
  rw [e]
  exact q.trans h
theorem xb_go {n₀ B k : Nat} {w W U : World} (hn : n₀ ≤ w.heap.size) (hP : ∃ L, PB n₀ w W k L) (F : Fr (fun q => q = n₀ + 1 + 1 + 1) W U) (e2 : Blk U n₀ [.slice none 0 0] 22) (e3 : Blk U (n₀ + 1) [.nilIface] 31) :
    Book n₀ B (n₀ + 1 + 1 + 1 + 1) W (((U.setCell ⟨n₀, 0, none⟩ (.slice none 0 0)).setCell ⟨n₀ + 1, 0, none⟩ (.iface 56 (.pointer (some ⟨U.heap.size, 0, none⟩)))).alloc (.cells #[.string ⟨#[108, 105, 110, 101]⟩, .int .i64 ((k : Int) + 1), .iface 40 (.int .i64 3)] 58)).drew ∧
    XB n₀ w (((U.setCell ⟨n₀, 0, none⟩ (.slice none 0 0)).setCell ⟨n₀ + 1, 0, none⟩ (.iface 56 (.pointer (some ⟨U.heap.size, 0, none⟩)))).alloc (.cells #[.string ⟨#[108, 105, 110, 101]⟩, .int .i64 ((k : Int) + 1), .iface 40 (.int .i64 3)] 58)).drew (k + 1) := by
  have big : n₀ + 5 ≤ U.heap.size := by obtain ⟨L, h⟩ := hP; exact Nat.le_trans h.big F.size
  refine xb_end (b := U.heap.size) hn hP ?_ ?_ ⟨big, ?_, ?_⟩
  · exact (((((F.mono (fun i hi => .inr (.inr hi))).setCell (.inl (.inl rfl)) _).setCell (.inl (.inr (.inl rfl))) _).alloc _).drew)
  · exact (((e2.set 0 _).set_ne (by show n₀ ≠ n₀ + 1; omega) _).alloc _).drew
  · exact ((((e3.set_ne (by show n₀ + 1 ≠ n₀; omega) _).set 0 _).alloc _).drew)
  · have q := Blk.new0 ((U.setCell ⟨n₀, 0, none⟩ (.slice none 0 0)).setCell ⟨n₀ + 1, 0, none⟩ (.iface 56 (.pointer (some ⟨U.heap.size, 0, none⟩)))) [.string ⟨#[108, 105, 110, 101]⟩, .int .i64 ((k : Int) + 1), .iface 40 (.int .i64 3)] 58
    rw [show ((U.setCell ⟨n₀, 0, none⟩ (.slice none 0 0)).setCell ⟨n₀ + 1, 0, none⟩ (.iface 56 (.pointer (some ⟨U.heap.size, 0, none⟩)))).heap.size = U.heap.size by simp [World.setCell]] at q
    exact q.drew
theorem fr_put {own : Nat → Prop} {w W : World} {l : Nat} (o : Obj) (h : Fr own w W) (hl : own l) : Fr own w (W.putObj l o) :=
  h.trans (own' := fun k => k = l) ⟨rfl, rfl, rfl, by simp, fun k hk hn => World.putObj_heap_other hn⟩ (fun i e => by subst e; exact .inl hl)
/-- What Parse says of a text. -/
def Said (s : ByteArray) (w' : World) (n₀ : Nat) (v ev : Value) : Prop :=
  ((∀ l ∈ lnF s.size s, okL l = true) ∧ ev = .nilIface ∧ w'.ownsRow (n₀ + 5) 25 4 v (lnF s.size s).length (((lnF s.size s).map rdF).flatMap cOp)) ∨
  (∃ p x r b, lnF s.size s = p ++ x :: r ∧ (∀ l ∈ p, okL l = true) ∧ okL x = false ∧ v = .slice none 0 0 ∧ ev = .iface 56 (.pointer (some ⟨b, 0, none⟩)) ∧ n₀ + 5 ≤ b ∧ Blk w' b [.string sLine, .int .i64 ((p.length : Int) + 1), .iface 40 (.int .i64 3)] 58)
set_option maxHeartbeats 6400000 in
theorem parse_any (s : ByteArray) (w : World) (hs : s.size ≤ 100000) (hln : ∀ l ∈ lnF s.size s, l.size ≤ 100000) (hnum : (lnF s.size s).length ≤ 100000) (h : Env w) :
    Calls Tryz.prog 10 #[.string s] w fun e w' => ∃ v ev, e = .returned (.tuple #[v, ev]) ∧ Said s w' w.heap.size v ev ∧ Below w.heap.size w w' := by
  refine callsIn_wide (n := 4).1 ?_
  have hro : Fence.wide.round = none := rfl
  have h5 := h.size
  have HE := Go.Lib.hid h
  clear h
  refine callsIn_of_wp_marks Tryz.func10 rfl trivial ?_ hro
  simp only [Tryz.ntmps10, List.size_toArray, List.length_cons, List.length_nil, Nat.reduceAdd, Nat.reduceSub, Array.replicate_succ, Array.replicate_zero, List.push_toArray, List.append_toArray, List.nil_append, List.cons_append]
  gi_wp2_with (refine ⟨trivial, ?_⟩; gi_at_call 20; refine (callsIn_wide.2 (lines_any s _)).mono ?_; rintro e w' ⟨rfl, rfl⟩)
  obtain ⟨W0, hW0⟩ : ∃ W0, W0 = ((((w.alloc (.cells #[.slice none 0 0] 22)).alloc (.cells #[.nilIface] 31)).alloc (.cells #[.slice none 0 0] 22)).alloc (.cells #[.int .i64 0] 3)).alloc (.cells #[.string s] 9) := ⟨_, rfl⟩
  have zW : W0.heap.size = w.heap.size + 1 + 1 + 1 + 1 + 1 := by rw [hW0]; simp
  have hB0 : Below w.heap.size w W0 := by
    rw [hW0]
    exact (((((Below.refl _ w).alloc (Nat.le_refl _) _).alloc (by simp) _).alloc (by simp; omega) _).alloc (by simp; omega) _).alloc (by simp; omega) _
  have bZ : Blk W0 (w.heap.size + 1 + 1 + 1 + 1) [.string s] 9 := by
    have q := Blk.new0 ((((w.alloc (.cells #[.slice none 0 0] 22)).alloc (.cells #[.nilIface] 31)).alloc (.cells #[.slice none 0 0] 22)).alloc (.cells #[.int .i64 0] 3)) [.string s] 9
    rw [hW0]
    simpa using q
  have hP0 : PB w.heap.size w W0 0 [] := by
    rw [hW0]
    refine ⟨(((((Blk.new0 w [.slice none 0 0] 22).alloc _).alloc _).alloc _).alloc _), ((((Blk.new1 w _ [.nilIface] 31).alloc _).alloc _).alloc _), ⟨.slice none 0 0, ((Blk.new2 w _ _ [.slice none 0 0] 22).alloc _).alloc _, World.ownsRow_nil _ _ _ _⟩, ?_, by rw [← hW0]; exact hB0, by simp⟩
    have q := Blk.new2 (w.alloc (.cells #[.slice none 0 0] 22)) (.cells #[.nilIface] 31) (.cells #[.slice none 0 0] 22) [.int .i64 0] 3
    rw [World.size_alloc] at q
    exact q.alloc _
  rw [← hW0]
  have hEW := HE.out.keep hB0
  clear hW0
  refine range_over hro (by decide : 1 ≤ 4) (gf := 32) (lb := #[.pointer (some ⟨w.heap.size + 1 + 1 + 1 + 1, 0, none⟩)]) rfl trivial (enters_of Tryz.func32 (by kernel_rfl) rfl)
    (lines1_iter s w.heap.size (w.heap.size + 1 + 1 + 1 + 1) W0 hs h5 (by omega) bZ hEW) (by omega) (by omega) (by omega)
    (fun pre W => (∀ l ∈ pre, okL l = true) ∧ PB w.heap.size w W pre.length (pre.map rdF))
    (fun pre W => ∃ p x, pre = p ++ [x] ∧ (∀ l ∈ p, okL l = true) ∧ okL x = false ∧ XB w.heap.size w W (p.length + 1))
    (fun _ _ _ ht h => ⟨h.1, h.2.turn ht (Nat.le_refl _)⟩) (fun _ _ _ ht ⟨p, x, h1, h2, h3, h4⟩ => ⟨p, x, h1, h2, h3, h4.turn ht (Nat.le_refl _)⟩)
    ⟨by simp, hP0⟩
    (fun x => { tmps := #[.string s, undef, .pointer (some ⟨w.heap.size, 0, none⟩), .pointer (some ⟨w.heap.size + 1, 0, none⟩), .pointer (some ⟨w.heap.size + 1 + 1, 0, none⟩), .pointer (some ⟨w.heap.size + 1 + 1 + 1, 0, none⟩), .string x, undef, undef, .string s, .func (.func 32) #[] #[.pointer (some ⟨w.heap.size + 1 + 1 + 1 + 1, 0, none⟩)], .string x, undef, undef, undef, undef, undef, undef, undef, undef, undef, undef, undef, undef, undef, undef, undef, undef, undef, undef, undef], defers := [] }) ?assign ?body ?done ?stop
  case assign =>
    intro l x W K hK
    gi_wp2
    exact hK
  case body =>
    rintro l pre x W ⟨hok, hP⟩ hlt hpx
    have hxs : x.size ≤ 100000 := hln x (hpx.subset (by simp))
    obtain ⟨v, hv, hrow⟩ := hP.b4
    have hsz := hP.big
    have HPB := Go.Lib.hid hP
    have HOK := Go.Lib.hid hok
    have c5 := hP.b5.cell 0
    have f5 := hP.b5.frozen 0
    simp only [List.getElem?_cons_zero] at c5
    have l5 := hP.b5.lt
    have e5 : (pre.length : Int) + 1 ≤ 9223372036854775807 := by omega
    have HV := Go.Lib.hid hv
    have HROW := Go.Lib.hid hrow
    obtain ⟨V, hV⟩ : ∃ V, V = W.setCell ⟨w.heap.size + 1 + 1 + 1, 0, none⟩ (.int .i64 (pre.length + 1)) := ⟨_, rfl⟩
    have FV : Fr (fun k => k = w.heap.size + 1 + 1 + 1) W V := by rw [hV]; exact (Fr.refl (fun k => k = w.heap.size + 1 + 1 + 1) W).setEq rfl _
    have v5 : Blk V (w.heap.size + 1 + 1 + 1) [.int .i64 (pre.length + 1)] 3 := by rw [hV]; exact hP.b5.set 0 _
    have EV : Env V := HE.out.low (n₀ := w.heap.size) (fun k hk => by rw [FV.block k (by omega) (by omega)]; exact hP.lo.block k hk) h5
    have HR : Hid (Calls Tryz.prog 21 #[.string x] V fun e w' => e = .returned (.tuple #[vOp (rdF x), .bool (okL x)]) ∧ Below V.heap.size V w') := Go.Lib.hid (read_any x V hxs EV)
    have HV5 := Go.Lib.hid v5
    have HFV := Go.Lib.hid FV
    have HVE := Go.Lib.hid hV
    clear hP hok hv hrow hpx hV FV v5 EV hln
    generalize eY : rdF x = Y at *
    have EY := Go.Lib.hid eY
    clear eY
    cases ho : okL x
    · rw [ho] at HR
      have HO := Go.Lib.hid ho
      clear ho
      gi_wp2_with fail
      refine ⟨trivial, ?_⟩
      gi_at_call 21
      rw [← HVE.out]
      refine (callsIn_wide.2 HR.out).mono ?_
      rintro e w1 ⟨rfl, hb1⟩
      have F1 : Fr (fun k => k = w.heap.size + 1 + 1 + 1) W w1 := HFV.out.and_below hb1
      have x5 := HV5.out.keep hb1
      have x2 := F1.blk (by omega) HPB.out.b2
      have x3 := F1.blk (by omega) HPB.out.b3
      have x4 : Boxed w1 (w.heap.size + 1 + 1) 22 v := F1.blk (cs := [v]) (by omega) HV.out
      have xr : w1.ownsRow (w.heap.size + 5) 25 4 v pre.length ((pre.map rdF).flatMap cOp) := by
        refine ⟨HROW.out.1, ?_⟩
        rcases HROW.out.2 with q | ⟨g, cap, cur, q1, q2, q3, q4⟩
        · exact .inl q
        · exact .inr ⟨g, cap, cur, q1, q2, F1.blk (cs := cur.toList) (by omega) (by unfold Blk; simpa using q3), q4⟩
      have z1 := F1.size
      have HF1 := Go.Lib.hid F1
      have HB1 := Go.Lib.hid hb1
      have X5 := Go.Lib.hid x5
      have X2 := Go.Lib.hid x2
      have X3 := Go.Lib.hid x3
      have X4 := Go.Lib.hid x4
      have XR := Go.Lib.hid xr
      have e2 := x2.alloc (.cells #[.int .i64 Y.kind, .int .u64 Y.key, .int .u64 Y.val, .int .i64 Y.n] 25)
      have e3 := x3.alloc (.cells #[.int .i64 Y.kind, .int .u64 Y.key, .int .u64 Y.val, .int .i64 Y.n] 25)
      have e5' := x5.alloc (.cells #[.int .i64 Y.kind, .int .u64 Y.key, .int .u64 Y.val, .int .i64 Y.n] 25)
      obtain ⟨U, hU⟩ : ∃ U, U = w1.alloc (.cells #[.int .i64 Y.kind, .int .u64 Y.key, .int .u64 Y.val, .int .i64 Y.n] 25) := ⟨_, rfl⟩
      clear hb1 c5 f5 l5 e5 F1 x5 x2 x3 x4 xr
      gi_wp2_with fail
      rw [← hU]
      rw [← hU] at e2 e3 e5'
      have FU : Fr (fun k => k = w.heap.size + 1 + 1 + 1) W U := by rw [hU]; exact HF1.out.alloc _
      have zU : W.heap.size ≤ U.heap.size := FU.size
      have E2 := Go.Lib.hid e2
      have E3 := Go.Lib.hid e3
      have HFU := Go.Lib.hid FU
      have c2 := e2.cell 0
      have f2 := e2.frozen 0
      have l2 := e2.lt
      have c3 := e3.cell 0
      have f3 := e3.frozen 0
      have l3 := e3.lt
      have c5 := e5'.cell 0
      have l5 := e5'.lt
      simp only [List.getElem?_cons_zero] at c2 c3 c5
      clear hU e2 e3 e5' FU
      gi_region
      all_goals
        gi_wp2
        obtain ⟨q1, q2⟩ := xb_go (B := W0.heap.size) (Nat.le_refl _) ⟨_, HPB.out⟩ HFU.out E2.out E3.out
        exact ⟨q1, pre, x, rfl, HOK.out, HO.out, q2⟩
    rw [ho] at HR
    have HO := Go.Lib.hid ho
    clear ho
    gi_wp2_with fail
    refine ⟨trivial, ?_⟩
    gi_at_call 21
    rw [← HVE.out]
    refine (callsIn_wide.2 HR.out).mono ?_
    rintro e w1 ⟨rfl, hb1⟩
    have F1 : Fr (fun k => k = w.heap.size + 1 + 1 + 1) W w1 := HFV.out.and_below hb1
    have x5 := HV5.out.keep hb1
    have x2 := F1.blk (by omega) HPB.out.b2
    have x3 := F1.blk (by omega) HPB.out.b3
    have x4 : Boxed w1 (w.heap.size + 1 + 1) 22 v := F1.blk (cs := [v]) (by omega) HV.out
    have xr : w1.ownsRow (w.heap.size + 5) 25 4 v pre.length ((pre.map rdF).flatMap cOp) := by
      refine ⟨HROW.out.1, ?_⟩
      rcases HROW.out.2 with q | ⟨g, cap, cur, q1, q2, q3, q4⟩
      · exact .inl q
      · exact .inr ⟨g, cap, cur, q1, q2, F1.blk (cs := cur.toList) (by omega) (by unfold Blk; simpa using q3), q4⟩
    have z1 := F1.size
    have HF1 := Go.Lib.hid F1
    have HB1 := Go.Lib.hid hb1
    have X5 := Go.Lib.hid x5
    have X2 := Go.Lib.hid x2
    have X3 := Go.Lib.hid x3
    have X4 := Go.Lib.hid x4
    have XR := Go.Lib.hid xr
    have hc := (x4.alloc (.cells #[.int .i64 Y.kind, .int .u64 Y.key, .int .u64 Y.val, .int .i64 Y.n] 25)).cell
    clear hb1 c5 f5 l5 e5 F1 x5 x2 x3 x4 xr
    obtain ⟨i0, hi, hz0, hz1, hz2⟩ := info_parts op_info
    have hl6 : pre.length + 1 ≤ 100001 := by omega
    gi_wp2_with (gi_at_builtin; refine wpListIn_append_own _ rfl _ _ 22 rfl (w.heap.size + 5) 25 i0 (.agg #[.int .i64 0, .int .u64 0, .int .u64 0, .int .i64 0]) 4 32 Tryz.underlying22 hi hz0 hz1 hz2 rfl (by decide) _ _ _ rfl (((row_alloc (row_alloc XR.out _)) _)) ⟨w1.heap.size + 1, 0, none⟩ 1 1 (cOp Y) rfl rfl (cells_new1 _ _ _ _) (by simp [Value.oneCell']) (by unfold maxLen; omega) (by omega) (by simp; omega) ?_; intro v' w2 hown' hgrow _; obtain ⟨g', cap', rfl⟩ := ownsRow_succ hown'; (have hv2 := ((X4.out.alloc (.cells #[.int .i64 Y.kind, .int .u64 Y.key, .int .u64 Y.val, .int .i64 Y.n] 25)).alloc (.cells #[.int .i64 Y.kind, .int .u64 Y.key, .int .u64 Y.val, .int .i64 Y.n] 25)).kept hgrow (Boxed.not_row X4.out (by decide) XR.out)); have hc1 := hv2.cell; have hf1 := hv2.frozen; (have hl1 := hv2.lt); have HG := Go.Lib.hid hgrow; have HO' := Go.Lib.hid hown'; clear hv2 hgrow hown')
    obtain ⟨q1, q2⟩ := pb_more (B := W0.heap.size) (Nat.le_refl _) HPB.out HV.out HROW.out HF1.out X5.out HG.out HO'.out
    refine ⟨q1, ?_, ?_⟩
    · intro y hy
      rcases List.mem_append.1 hy with h | h
      · exact HOK.out y h
      · have e : y = x := by simpa using h
        rw [e]; exact HO.out
    · rw [List.map_append]
      have e : [x].map rdF = [Y] := by rw [List.map_cons, EY.out, List.map_nil]
      rw [e, List.length_append]
      exact q2
  case done =>
    rintro ys W rfl ⟨hok, hP⟩ hK
    obtain ⟨v, hv, hrow⟩ := hP.b4
    obtain ⟨va, vn, vc, rfl⟩ : ∃ va vn vc, v = .slice va vn vc := by
      rcases hrow.2 with ⟨h1, _⟩ | ⟨g, cap, cur, h1, _⟩
      · exact ⟨_, _, _, h1⟩
      · exact ⟨_, _, _, h1⟩
    have c4 := hv.cell
    have HP := Go.Lib.hid hP
    have HROW := Go.Lib.hid hrow
    have HOK := Go.Lib.hid hok
    have c2 := hP.b2.cell 0
    have f2 := hP.b2.frozen 0
    have c3 := hP.b3.cell 0
    have f3 := hP.b3.frozen 0
    simp only [List.getElem?_cons_zero] at c2 c3
    have l2 := hP.b2.lt
    have l3 := hP.b3.lt
    have hbig := hP.big
    clear hP hv hrow hok
    gi_wp2
    have hP := HP.out
    have hrow := HROW.out
    obtain ⟨V, hV⟩ : ∃ V, V = (W.setCell ⟨w.heap.size, 0, none⟩ (.slice va vn vc)).setCell ⟨w.heap.size + 1, 0, none⟩ .nilIface := ⟨_, rfl⟩
    have F0 : Fr (fun q => q = w.heap.size ∨ q = w.heap.size + 1 ∨ q = W0.heap.size) W V := by
      rw [hV]; exact ((Fr.refl _ W).setCell (.inl (.inl rfl)) _).setCell (.inl (.inr (.inl rfl))) _
    have hKV : V.heap[W0.heap.size]? = some (.deferred (some [])) := by
      rw [hV, Below.heap_setCell _ _ _ _ (by show W0.heap.size ≠ w.heap.size + 1; omega), Below.heap_setCell _ _ _ _ (by show W0.heap.size ≠ w.heap.size; omega)]; exact hK
    have d2 : Blk V w.heap.size [.slice va vn vc] 22 := by rw [hV]; exact (hP.b2.set 0 _).set_ne (by show w.heap.size ≠ w.heap.size + 1; omega) _
    have d3 : Blk V (w.heap.size + 1) [.nilIface] 31 := by rw [hV]; exact (hP.b3.set_ne (by show w.heap.size + 1 ≠ w.heap.size; omega) _).set 0 _
    have hrV : V.ownsRow (w.heap.size + 5) 25 4 (.slice va vn vc) (lnF s.size s).length (((lnF s.size s).map rdF).flatMap cOp) := by
      refine ⟨hrow.1, ?_⟩
      rcases hrow.2 with q | ⟨g, cap, cur, q1, q2, q3, q4⟩
      · exact .inl q
      · refine .inr ⟨g, cap, cur, q1, q2, ?_, q4⟩
        rw [hV, Below.heap_setCell _ _ _ _ (by show g ≠ w.heap.size + 1; omega), Below.heap_setCell _ _ _ _ (by show g ≠ w.heap.size; omega)]
        exact q3
    rw [← hV]
    have hX : ∀ j, j ≠ W0.heap.size → (V.putObj W0.heap.size (.deferred none)).heap[j]? = V.heap[j]? := fun j hj => World.putObj_heap_other hj
    have p2 := (d2.of_heap (hX _ (by omega))).cell 0
    have p3 := (d3.of_heap (hX _ (by omega))).cell 0
    simp only [List.getElem?_cons_zero] at p2 p3
    refine ⟨by simp, .inl ⟨_, _, rfl, run_takeDeferred hKV, ?_⟩⟩
    refine ⟨.tuple #[.slice va vn vc, .nilIface], ?_, _, _, rfl, .inl ⟨HOK.out, rfl, ownsRow_putObj hrV (.deferred none) hKV rfl⟩, ?_⟩
    · simp [results, Tryz.results10, go_sem, p2, p3]
    · refine fr_below hP.lo (Nat.le_refl _) (fr_put _ F0 (.inr (.inr rfl))) ?_
      rintro j (rfl | rfl | rfl) <;> omega
  case stop =>
    rintro pre W ⟨r, hr⟩ ⟨p, x, rfl, hok, hx, hX⟩ hK
    gi_wp2
    obtain ⟨b, hb, e3, eb⟩ := hX.b3
    have hXX : ∀ j, j ≠ W0.heap.size → (W.putObj W0.heap.size (.deferred none)).heap[j]? = W.heap[j]? := fun j hj => World.putObj_heap_other hj
    have hbne : b ≠ W0.heap.size := by
      rintro rfl
      rw [show W.heap[W0.heap.size]? = _ from eb] at hK
      cases hK
    have p2 := (hX.b2.of_heap (hXX _ (by omega))).cell 0
    have p3 := (e3.of_heap (hXX _ (by omega))).cell 0
    simp only [List.getElem?_cons_zero] at p2 p3
    refine ⟨by simp, .inl ⟨_, _, rfl, run_takeDeferred hK, ?_⟩⟩
    refine ⟨.tuple #[.slice none 0 0, .iface 56 (.pointer (some ⟨b, 0, none⟩))], ?_, _, _, rfl, .inr ⟨p, x, r, b, by rw [← hr, List.append_assoc]; rfl, hok, hx, rfl, rfl, hb, by have q := eb.of_heap (hXX _ hbne); exact_mod_cast q⟩, ?_⟩
    · simp [results, Tryz.results10, go_sem, p2, p3]
    · refine fr_below hX.lo (Nat.le_refl _) (fr_put (own := fun j => j = W0.heap.size) _ (Fr.refl _ W) rfl) ?_
      rintro j rfl
      omega
end Go.Proofs.YtddihnnodegkmaaGreatDoor
