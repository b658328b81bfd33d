/- A list of keys without one, by the library. -/
import Derived.Test.YtlakojncjldpbaaGreatLq1
import Derived.Test.YtlakojncjldpbaaGreatShD
namespace Go.Proofs.YtlakojncjldpbaaGreat
open Go.RowKit Hop
set_option linter.unusedVariables false
set_option linter.unusedSimpArgs false
set_option maxRecDepth 100000
theorem sqwo1_any (k x : Int) (b : Nat) (w : World) (h : w.cell? ⟨b, 0, none⟩ = some (.int .u64 k)) :
    Calls Tryz.prog 120 #[.int .u64 x, .pointer (some ⟨b, 0, none⟩)] w fun e w' => e = .returned (.bool (x == k)) ∧ w = w' := by
  go_enter Tryz.func120, Tryz.ntmps120
  go_wp2_with fail
  go_ret
  exact ⟨rfl, rfl⟩
theorem idxf_nil (a : Option Addr) (c : Nat) (fv : Value) (w : World) :
    Calls Tryz.prog 156 #[.slice a 0 c, fv] w fun e w' => e = .returned (.int .i64 (-1)) ∧ w = w' := by
  go_enter Tryz.func156, Tryz.ntmps156
  go_wp2_with fail
  go_loop [8] (fun i => i = .int .i64 0) (fun i => 0)
  case atStart => rfl
  case round =>
    obtain rfl := hrel
    go_wp2_with fail
    go_ret
    exact ⟨rfl, rfl⟩
theorem delf_nil (fv : Value) (w : World) (a : Option Addr) (c : Nat) :
    Calls Tryz.prog 119 #[.slice a 0 c, fv] w fun e w' => e = .returned (.slice a 0 c) ∧ w = w' := by
  have HI := Go.Lib.hid (idxf_nil a c fv w)
  go_enter Tryz.func119, Tryz.ntmps119
  go_wp2_with fail
  refine HI.out.mono ?_
  rintro e w1 ⟨rfl, rfl⟩
  go_wp2_with fail
  go_ret
  exact ⟨rfl, rfl⟩
theorem putRow_heap {w : World} {q g : Nat} {d : Array Int} {i : Nat} (h : i ≠ g) : (Go.Sort.putRow (Value.int .u64) (Go.Sort.ahead w q) g 0 d).heap[i]? = w.heap[i]? := by
  show (w.heap.modify g _)[i]? = _
  rw [Array.getElem?_modify, if_neg (fun e => h e.symm)]
theorem putRow_blk {w : World} {q g : Nat} {d : Array Int} {cs : List Value} {E : Nat} (h : Blk w g cs E) : Blk (Go.Sort.putRow (Value.int .u64) (Go.Sort.ahead w q) g 0 d) g (Go.Sort.putCells (Value.int .u64) 0 d cs.toArray).toList E := by
  show (w.heap.modify g _)[g]? = _
  rw [Array.getElem?_modify, if_pos rfl]
  have h' : w.heap[g]? = some (.cells cs.toArray E) := h
  rw [h']
  rfl
theorem put_take (d : List Int) (cs : List Value) (m : Nat) (hm : m ≤ d.length) (hl : d.length ≤ cs.length) : (Go.Sort.putCells (Value.int .u64) 0 d.toArray cs.toArray).toList.take m = (d.take m).map (Value.int .u64) := by
  apply List.ext_getElem?
  intro j
  rw [List.getElem?_take, List.getElem?_map, List.getElem?_take]
  by_cases hj : j < m
  · rw [if_pos hj, if_pos hj]
    unfold Go.Sort.putCells
    rw [Array.getElem?_toList, Array.getElem?_mapIdx]
    have e1 : cs.toArray[j]? = some (cs[j]'(by omega)) := by simp
    rw [e1, List.getElem?_eq_getElem (show j < d.length by omega)]
    simp
    rw [if_pos (by omega), List.getElem?_eq_getElem (by omega)]
    rfl
  · rw [if_neg hj, if_neg hj]; rfl
theorem wo_kept (L : List Int) (k : Int) : (L.filter fun x => !(x == k)) = wo L k := by
  unfold wo
  apply List.filter_congr
  intro x _
  by_cases h : x = k <;> simp [h]
theorem below_put {B g q : Nat} {w w1 : World} {d : Array Int} (h : Below B w w1) (hg : B ≤ g) : Below B w (Go.Sort.putRow (Value.int .u64) (Go.Sort.ahead w1 q) g 0 d) :=
  ⟨h.os, h.tape, h.output, (by have := h.size; simpa using this), fun k hk => by rw [putRow_heap (by omega)]; exact h.block k hk⟩
theorem delf_any (b : Nat) (v : Value) (L : List Int) (k : Int) (w : World) (n₀ : Nat) (hsm : L.length < 100000) (h : KL w v L) (ho : ∀ g, v.ownBlock = some g → n₀ ≤ g ∧ g ≠ b) (hb : Blk w b [.int .u64 k] 32) :
    Calls Tryz.prog 119 #[v, .func (.func 120) #[] #[.pointer (some ⟨b, 0, none⟩)]] w fun e w' => ∃ v', e = .returned v' ∧ KL w' v' (wo L k) ∧ (∀ g, v'.ownBlock = some g → n₀ ≤ g) ∧ Below n₀ w w' := by
  rcases h.2 with ⟨rfl, hn⟩ | ⟨g, cap, cs, rfl, hblk, h1, h2, h3, h4⟩
  · have e : L = [] := List.length_eq_zero_iff.1 hn
    subst e
    refine (delf_nil _ w none 0).mono ?_
    rintro e w' ⟨rfl, rfl⟩
    exact ⟨_, rfl, KL.nil _, (fun g hg => by cases hg), Below.refl _ _⟩
  · have hg := ho g rfl
    have hlc : L.length ≤ cs.length := by omega
    have hin : ∀ (W : World) (x : Int), Blk W b [.int .u64 k] 32 → FnGives Tryz.prog 120 #[.pointer (some ⟨b, 0, none⟩)] #[Value.int .u64 x] (.bool (x == k)) W := fun W x hW =>
      (sqwo1_any k x b W (hW.cell 0)).mono (by rintro e w' ⟨rfl, rfl⟩; exact ⟨rfl, 0, rfl⟩)
    have hlt := hblk.lt
    have q := Tryz.slices_DeleteFunc (α := Int) (Value.int .u64) (fun x => rfl) (fun x => x == k) 120 #[.pointer (some ⟨b, 0, none⟩)] (enters_of Tryz.func120 (by kernel_rfl) rfl) 0 (fun w => (Tryz.zeroValue32 w)) g 0 cap L.toArray w
      (fun W x hW => hin W x (hb.keep hW))
      (fun n os dk x _ => hin _ x (by
        have h1 : Blk (Go.Sort.putRow (Value.int .u64) (Go.Sort.ahead w n) g 0 dk) b [.int .u64 k] 32 := by
          show _ = _
          rw [putRow_heap (by omega)]
          exact hb
        show (Go.Sort.grow _ os).heap[b]? = _
        rw [Go.Sort.heap_grow_old _ _ h1.lt]
        exact h1))
      (fun j hj => by
        have hj' : j < L.length := by simpa using hj
        have c := hblk.cell j
        have e1 : cs[j]? = some (Value.int .u64 L[j]) := by
          have := congrArg (fun l => l[j]?) h4
          simp only [Nat.mul_one] at this
          rw [List.getElem?_take, if_pos hj', List.getElem?_map, List.getElem?_eq_getElem hj'] at this
          exact this
        rw [e1] at c
        refine ⟨?_, ?_⟩
        · rw [Nat.zero_add, c]
          congr 2
          exact (getElem!_pos L.toArray j hj).symm
        · rw [Nat.zero_add]; exact hblk.frozen j)
      (by simp; omega) (by simp; omega)
    simp only [List.size_toArray] at q
    refine q.mono ?_
    rintro e w' ⟨rfl, qn, rfl⟩
    rw [wo_kept]
    have hwo := wo_len L k
    refine ⟨_, rfl, ?_, (fun g' hg' => by
      have e : g = g' := by simpa [Value.ownBlock] using hg'
      omega), below_put (Below.refl _ _) hg.1⟩
    refine ⟨by simp, .inr ⟨g, cap, _, rfl, putRow_blk hblk, by omega, h2, ?_, ?_⟩⟩
    · simp [Go.Sort.putCells]; omega
    · rw [Nat.mul_one, put_take _ cs _ (by simp) (by simp; omega)]
      simp
set_option maxHeartbeats 800000 in
theorem sqwo_any (v : Value) (L : List Int) (k : Int) (w : World) (hsm : L.length < 100000) (h : KL w v L) :
    Calls Tryz.prog 64 #[v, .int .u64 k] w fun e w' => ∃ v', e = .returned v' ∧ LNew w w' v' (wo L k) := by
  have B0 := (Below.refl w.heap.size w).alloc (Nat.le_refl _) (.cells #[.int .u64 k] 32)
  have HC := Go.Lib.hid (slclone_any v L (w.alloc (.cells #[.int .u64 k] 32)) hsm (h.keep B0))
  have HD := Go.Lib.hid (fun v1 w1 (hk : KL w1 v1 L) ho hb => delf_any w.heap.size v1 L k w1 w.heap.size hsm hk ho hb)
  have HB0 := Go.Lib.hid B0
  have HZ := Go.Lib.hid (Blk.new0 w [.int .u64 k] 32)
  clear h B0
  go_enter Tryz.func64, Tryz.ntmps64
  go_wp2_with fail
  refine HC.out.mono ?_
  rintro e w1 ⟨v1, rfl, hk1, ho1, hb1⟩
  have HB1 := Go.Lib.hid (HB0.out.trans (hb1.mono HB0.out.size))
  have HK := Go.Lib.hid (HD.out v1 w1 hk1 (fun g hg => by have := ho1 g hg; simp at this; omega) (HZ.out.keep hb1))
  clear hk1 ho1 hb1 HC HD
  go_wp2_with fail
  refine HK.out.mono ?_
  rintro e w2 ⟨v2, rfl, hk2, ho2, hb2⟩
  have HN : Hid (LNew w w2 v2 (wo L k)) := Go.Lib.hid ⟨hk2, ho2, HB1.out.trans hb2⟩
  clear hk2 ho2 hb2
  go_wp2_with fail
  go_ret
  exact ⟨_, rfl, HN.out⟩
end Go.Proofs.YtlakojncjldpbaaGreat
