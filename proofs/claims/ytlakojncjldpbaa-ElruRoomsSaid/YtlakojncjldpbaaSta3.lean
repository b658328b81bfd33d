/- A store, told by its queues alone: New, Keys. -/
import Derived.Test.YtlakojncjldpbaaSta2
namespace Go.Proofs.Ytlakojncjldpbaa
open Go.RowKit Hop
set_option linter.unusedVariables false
set_option linter.unusedSimpArgs false
set_option maxRecDepth 100000
theorem isT_nil (n : Nat) (j : Int) : isT (List.replicate n Sl.z) j = false := by
  have := isT_more [] n j
  rw [List.nil_append] at this
  rw [this]
  unfold isT
  by_cases h0 : 0 < j
  · have : ¬ j < (([] : List Sl).length : Int) := by simp; omega
    simp only [this]; simp
  · simp [h0]
theorem getD_nil (n t : Nat) : (List.replicate n ([] : List Int)).getD t [] = [] := by
  rw [List.getD_eq_getElem?_getD, List.getElem?_replicate]
  split <;> rfl
theorem total_nil (n : Nat) : total (List.replicate n []) = 0 := by unfold total; simp
theorem Good.new (n : Nat) (h1 : 1 ≤ n) (h8 : n ≤ 8) : Good ⟨List.replicate 8 Sl.z, [], 1, 0, List.replicate n Li.z, List.replicate 8 Ts.z, 0, n⟩ (List.replicate n []) 0 := by
  obtain ⟨e1, e2, e3⟩ := Ti.empty (hm := hmF) 8
  refine ⟨⟨by simp, ?_, ?_, ?_⟩, by simp, by simp; omega, ?_, ⟨Int.le_refl 1, by simp, ?_, by simp, by simp, by rw [total_nil]; rfl⟩, by rw [total_nil]; rfl, e1, ⟨3, by omega, by simp⟩, by rw [total_nil]; exact e3, by rw [total_nil]; rfl, ?_, ?_, ?_, by simp, by simp, by rw [total_nil]; omega, by omega, by simp⟩
  · intro t ht; rw [getD_nil]; trivial
  · intro t ht; rw [getD_nil]; simp
  · intro t ht
    rw [getD_nil]
    rw [List.length_replicate] at ht
    unfold lg gt
    rw [List.getD_eq_getElem?_getD, List.getElem?_replicate]
    rw [if_pos (by omega)]
    rfl
  · intro i
    rw [isT_nil]
    constructor
    · intro h; cases h
    · rintro ⟨t, ht, h⟩
      rw [getD_nil] at h
      cases h
  · intro i h
    rw [isT_nil] at h
    cases h
  · show 4 * cnt (List.replicate 8 Ts.z) ≤ _
    rw [e3]; simp
  · intro k v
    rw [isT_nil]
    exact ⟨fun h => absurd h (e2 k v), fun h => by simp at h⟩
  · intro i h
    rw [isT_nil] at h
    cases h
theorem vw_new (S : List Sl) (n : Nat) : vw S (List.replicate n []) = List.replicate n [] := by unfold vw; simp
set_option maxHeartbeats 800000 in
theorem new_sta (n : Nat) (w : World) (h1 : 1 ≤ n) (h8 : n ≤ 8) :
    Calls Try.prog 111 #[.int .i64 n] w fun e w' => ∃ ps, e = .returned (P0 ps) ∧ w.heap.size ≤ ps ∧ ∃ O, Sta w' ps O (List.replicate n []) 0 ∧ (∀ k, O k → w.heap.size ≤ k) ∧ Below w.heap.size w w' := by
  have hm1 : max (n : Int) 1 = n := by omega
  have hm2 : min (n : Int) 8 = n := by omega
  go_enter Try.func111, Try.ntmps111
  go_wp2_with fail
  refine (anew_any _).mono ?_
  rintro e w1 ⟨pa, ba, g1, g2, rfl, hb1, ha1, hba1⟩
  have HB1 := Go.Lib.hid hb1
  have HA1 := Go.Lib.hid ha1
  have HBA1 := Go.Lib.hid hba1
  clear hb1 ha1 hba1
  go_wp2_with fail
  refine (lnew_any pa n _ h1 h8).mono ?_
  rintro e w2 ⟨pl, bl, g3, g4, rfl, hb2, hl2, hbl2⟩
  have HB2 := Go.Lib.hid hb2
  have HL2 := Go.Lib.hid hl2
  have HBL2 := Go.Lib.hid hbl2
  clear hb2 hl2 hbl2
  go_wp2_with fail
  refine (tnew_any _).mono ?_
  rintro e w3 ⟨pt, bt, g5, g6, rfl, hb3, ht3⟩
  have HB3 := Go.Lib.hid hb3
  have HT3 := Go.Lib.hid ht3
  clear hb3 ht3
  go_wp2_with fail
  go_ret
  have sz1 := HB1.out.size
  have sz2 := HB2.out.size
  have sz3 := HB3.out.size
  have B12 : Below w.heap.size w w2 := HB1.out.trans (HB2.out.mono sz1)
  have B13 : Below w.heap.size w w3 := B12.trans (HB3.out.mono (by omega))
  have eq : Value.int .i64 (min (max (n : Int) 1) 8) = .int .i64 n := by rw [hm1, hm2]
  refine ⟨_, rfl, by omega, _, ⟨⟨w3.heap.size, pl, pa, pt, bl, ba, bt, .slice none 0 0⟩, ⟨List.replicate 8 Sl.z, [], 1, 0, List.replicate n Li.z, List.replicate 8 Ts.z, 0, n⟩, List.replicate n [], rfl, rfl, ⟨?_, ?_, ?_, ?_, ?_, ?_, ?_, Row.nil _ _ _⟩, Good.new n h1 h8, vw_new _ _⟩, ?_, B13.alloc (by omega) _⟩
  · first | exact Blk.new0 w3 [P0 pl, P0 pa, P0 pt, .int .i64 n] 160 | (rw [← eq]; exact Blk.new0 w3 [P0 pl, P0 pa, P0 pt, .int .i64 (min (max (n : Int) 1) 8)] 160)
  · exact (HL2.out.keep HB3.out).alloc _
  · exact ((HA1.out.keep HB2.out).keep HB3.out).alloc _
  · exact HT3.out.ht.alloc _
  · exact (HBL2.out.keep HB3.out).alloc _
  · exact ((HBA1.out.keep HB2.out).keep HB3.out).alloc _
  · exact HT3.out.bt.alloc _
  · rintro k (h | h | h | h | h | h | h | h)
    · rw [h]; show _ ≤ w3.heap.size; omega
    · rw [h]; show _ ≤ pl; omega
    · rw [h]; show _ ≤ pa; omega
    · rw [h]; show _ ≤ pt; omega
    · rw [h]; show _ ≤ bl; omega
    · rw [h]; show _ ≤ ba; omega
    · rw [h]; show _ ≤ bt; omega
    · cases h
end Go.Proofs.Ytlakojncjldpbaa
