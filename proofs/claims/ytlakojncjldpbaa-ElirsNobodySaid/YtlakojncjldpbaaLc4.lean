/- The cache of low inter-reference recency: its keys, the last one first, as an iterator. -/
import Derived.Test.YtlakojncjldpbaaLc3
namespace Go.Proofs.Ytlakojncjldpbaa
open Go.RowKit Go.Shelf Hop
set_option linter.unusedVariables false
set_option linter.unusedSimpArgs false
set_option maxRecDepth 100000
attribute [local go_sem] Oper.semAt_some
abbrev K64 := { x : Int // 0 ≤ x ∧ x < 18446744073709551616 }
def kv (L : List K64) : List Int := L.map Subtype.val
theorem k64_ex : ∀ (l : List Int), (∀ k ∈ l, 0 ≤ k ∧ k < 18446744073709551616) → ∃ L : List K64, kv L = l := by
  intro l
  induction l with
  | nil => intro _; exact ⟨[], rfl⟩
  | cons k r ih =>
    intro h
    obtain ⟨L, e⟩ := ih (fun x hx => h x (List.mem_cons_of_mem _ hx))
    exact ⟨⟨k, h k (by simp)⟩ :: L, by unfold kv at *; rw [List.map_cons, e]⟩
theorem kback1 (args : Array Value) (W : World) : (callFunc 225 args).run Try.prog W = .ok (.enter 225 args) W := by kernel_rfl
/-- What a round keeps: the iterator's own block, and its list. -/
def Kept2 (B : Nat) (v : Value) (l : List Int) (X Y : World) : Prop := Blk X B [v] 26 ∧ KL X v l → Blk Y B [v] 26 ∧ KL Y v l
theorem kept2_trans {B : Nat} {v : Value} {l : List Int} {X Y Z : World} (h : Kept2 B v l X Y) (k : Kept2 B v l Y Z) : Kept2 B v l X Z := fun q => k (h q)
theorem kept2_fr {B : Nat} {v : Value} {l : List Int} {X Y : World} {own : Nat → Prop} (f : Fr own X Y) (hn : ∀ b cs T, Blk X b cs T → (T = 26 ∨ T = 31) → ¬ own b) : Kept2 B v l X Y := by
  rintro ⟨h1, h2⟩
  refine ⟨f.blk (hn _ _ _ h1 (.inl rfl)) h1, Row.frame h2 f (fun b hb => ?_)⟩
  obtain ⟨_, cs, h'⟩ := Row.lt h2 hb
  exact hn _ _ _ h' (.inr rfl)
theorem kept2_putObj {B : Nat} {v : Value} {l : List Int} (W : World) (r : Nat) (o o' : Obj) (h : W.heap[r]? = some o) (hc : o.isCells = false) : Kept2 B v l W (W.putObj r o') := by
  have key : ∀ b cs T, Blk W b cs T → (W.putObj r o').heap[b]? = W.heap[b]? := by
    intro b cs T hb
    refine World.putObj_heap_other (fun e => ?_)
    subst e
    unfold Blk at hb
    rw [h] at hb
    injection hb with hb
    subst hb
    cases hc
  rintro ⟨h1, h2⟩
  refine ⟨h1.of_heap (key _ _ _ h1), h2.1, ?_⟩
  rcases h2.2 with q | ⟨g, cap, cs, q1, q2, q3⟩
  · exact .inl q
  · exact .inr ⟨g, cap, cs, q1, q2.of_heap (key _ _ _ q2), q3⟩
set_option maxHeartbeats 2000000 in
theorem back1_in (L : List K64) (W0 : World) (l B : Nat) (v : Value) (hlen : L.length < 100000)
    (J Jx : List K64 → World → Prop) (hJ : AbidesFrom W0.heap.size J)
    (hY : ∀ pre x W, J pre W → pre.length < L.length → YieldAt Fence.wide 2 Try.prog l #[.int .u64 x.1] W fun e W' =>
      (e = .returned (.bool true) ∧ J (pre ++ [x]) W' ∧ Kept2 B v (kv L) W W') ∨ (e = .returned (.bool false) ∧ Jx (pre ++ [x]) W'))
    (hB : Blk W0 B [v] 26) (hv : KL W0 v (kv L)) (hJ0 : J [] W0) :
    CallsIn Fence.wide 3 Try.prog 225 #[.func (.yield l) #[] #[], P0 B] W0 fun e W' => (∃ v, e = .returned v) ∧ ((∃ ys, ys = L.reverse ∧ J ys W') ∨ (∃ pre, pre <+: L.reverse ∧ Jx pre W')) := by
  obtain ⟨a, cap, rfl⟩ := hv.form
  have el : (kv L).length = L.length := List.length_map _
  rw [el] at hB hv hY
  have HY := Go.Lib.hid hY
  have HV := Go.Lib.hid hv
  have HB := Go.Lib.hid hB
  have c0 := hB.cell 0
  simp only [List.getElem?_cons_zero] at c0
  clear hY hJ hv hB el
  refine callsIn_of_wp Try.func225 rfl trivial ?_ rfl
  simp only [Try.ntmps225, List.size_toArray, List.length_cons, List.length_nil, Nat.reduceAdd, Nat.reduceSub, Array.replicate_succ, Array.replicate_zero, List.push_toArray, List.append_toArray, List.nil_append, List.cons_append]
  gi_wp2
  gi_loopw [3] (fun i wr => ∃ (rest pre : List K64), i = .int .i64 ((rest.length : Int) - 1) ∧ Hid (L = rest ++ pre.reverse) ∧ Hid (Blk wr B [.slice a L.length cap] 26) ∧ Hid (KL wr (.slice a L.length cap) (kv L)) ∧ J pre wr) (fun i wr => (intOf i + 1).toNat)
  case atStart => exact ⟨L, [], rfl, Go.Lib.hid (by simp), HB, HV, hJ0⟩
  case round =>
    obtain ⟨rest, pre, rfl, hx, hb, hkv, hJs⟩ := hrel
    rcases List.eq_nil_or_concat rest with rfl | ⟨rest, x, rfl⟩
    · have hp : pre = L.reverse := by have := hx.out; simp at this; rw [this]; simp
      have HP := Go.Lib.hid hp
      clear hp
      gi_wp2
      go_end0
      exact ⟨⟨_, rfl⟩, .inl ⟨pre, HP.out, hJs⟩⟩
    · have e1 : (((rest.concat x).length : Int) - 1) = (rest.length : Int) := by simp
      rw [e1]
      have hL : L = rest ++ x :: pre.reverse := by have := hx.out; simpa using this
      have hll : L.length = rest.length + 1 + pre.length := by rw [hL]; simp; omega
      have hjl : rest.length < (kv L).length := by unfold kv; rw [List.length_map]; omega
      obtain ⟨g, y, rfl, hc1, hc2, hcell, htk, hget⟩ := hkv.out.get hjl
      have hy1 : y = x.1 := by
        have : (kv L)[rest.length]? = some x.1 := by unfold kv; rw [hL]; simp
        rw [this] at hget
        exact (Option.some.inj hget).symm
      subst hy1
      have gl := (hkv.out.lt (b := g) rfl).1
      have c1 := hb.out.cell 0
      simp only [List.getElem?_cons_zero] at c1
      have bl := hb.out.lt
      have hlt : pre.length < L.length := by omega
      obtain ⟨fn, tmps, assign, body, hy, hRd⟩ := HY.out pre x wr hJs hlt
      have HHR := Go.Lib.hid hRd
      have HX := Go.Lib.hid hL
      have hli : rest.length < L.length := by omega
      have hrl : rest.length < 100000 := by omega
      clear hRd hL hll hjl hc1 htk hget hlt
      gi_wp2
      refine HHR.out.mono ?_
      rintro e W3 (⟨rfl, hJ3, hk3⟩ | ⟨rfl, hJx3⟩)
      · obtain ⟨k1, k2⟩ := hk3 ⟨hb.out, hkv.out⟩
        have HK1 := Go.Lib.hid k1
        have HK2 := Go.Lib.hid k2
        clear k1 k2 hk3 c1 hcell
        gi_wp2
        go_roundw
        case rel => exact ⟨rest, pre ++ [x], by go_num, Go.Lib.hid (by rw [HX.out]; simp), HK1, HK2, hJ3⟩
        case measure => simp [intOf]
      · gi_wp2
        refine bodyPost_ret (results_none rfl _ _ _) rfl ?_
        exact ⟨⟨_, rfl⟩, .inr ⟨pre ++ [x], ⟨rest.reverse, by rw [HX.out]; simp⟩, hJx3⟩⟩
set_option maxHeartbeats 1600000 in
theorem backwards_ca {px : Nat} {O : Nat → Prop} {s : LS} {p1 p2 : Nat} (w : World) (H : Lca w px O s p1 p2) :
    Calls Try.prog 192 #[P0 px] w fun e w' => ∃ v B, e = .returned (.func (.func 225) #[] #[P0 B]) ∧ w.heap.size ≤ B ∧ Blk w' B [v] 26 ∧ KL w' v (keysL s.s) ∧ Below w.heap.size w w' := by
  obtain ⟨ps, pq, O1, O2, H, rfl⟩ := H
  have HK := Go.Lib.hid (keys_l w H.st)
  have c0 := H.x.cell 0
  simp only [List.getElem?_cons_zero, List.getElem?_cons_succ] at c0
  have lx := H.x.lt
  have HH := Go.Lib.hid H
  clear H
  go_enter Try.func192, Try.ntmps192
  go_wp2_with fail
  refine HK.out.mono ?_
  rintro e w1 ⟨v, rfl, hk, ho, hb⟩
  obtain ⟨a, cap, rfl⟩ := hk.form
  have HB := Go.Lib.hid hb
  have HKK := Go.Lib.hid hk
  clear hk ho hb
  go_wp2_with fail
  go_ret
  refine ⟨_, _, rfl, HB.out.size, Blk.new0 w1 [_] 26, HKK.out.keep ((Below.refl _ _).alloc (Nat.le_refl _) _), HB.out.alloc HB.out.size _⟩
end Go.Proofs.Ytlakojncjldpbaa
