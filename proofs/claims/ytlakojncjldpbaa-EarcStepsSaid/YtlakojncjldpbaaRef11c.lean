/- The reference of the adaptive cache: Keys. -/
import Derived.Test.YtlakojncjldpbaaGApp
import Derived.Test.YtlakojncjldpbaaRef11b
namespace Go.Proofs.Ytlakojncjldpbaa
open Go.RowKit Hop
set_option linter.unusedVariables false
set_option linter.unusedSimpArgs false
set_option maxRecDepth 100000
set_option maxHeartbeats 1600000 in
theorem a11keys_any (c q : Int) (v1 v2 v3 v4 : Value) (i m : List Int) (w : World) (hsi : i.length < 50000) (hsm : m.length < 50000) (h1 : KL w v1 i) (h3 : KL w v2 m) :
    Calls Try.prog 67 #[.agg #[.int .i64 c, .int .i64 q, v1, v2, v3, v4]] w fun e w' => ∃ v', e = .returned v' ∧ KL w' v' (i ++ m) ∧ Below w.heap.size w w' := by
  obtain ⟨W, hW⟩ : ∃ W, W = w.alloc (.cells #[.int .i64 c, .int .i64 q, v1, v2, v3, v4] 73) := ⟨_, rfl⟩
  have b0 : Blk W w.heap.size [.int .i64 c, .int .i64 q, v1, v2, v3, v4] 73 := by rw [hW]; exact Blk.new0 w [.int .i64 c, .int .i64 q, v1, v2, v3, v4] 73
  have B0 : Below w.heap.size w W := by rw [hW]; exact (Below.refl w.heap.size w).alloc (Nat.le_refl _) _
  have s0 : W.heap.size = w.heap.size + 1 := by rw [hW]; simp
  obtain ⟨V, hV⟩ : ∃ V, V = (W.alloc (.cells #[] 31)).drew := ⟨_, rfl⟩
  have BV : Below W.heap.size W V := by rw [hV]; exact ((Below.refl _ _).alloc (Nat.le_refl _) _).drew
  have bn : Blk V W.heap.size [] 31 := by rw [hV]; exact (Blk.new0 W [] 31)
  have bV := b0.keep BV
  have kV1 : KL V v1 i := (h1.keep B0).keep BV
  have kV3 : KL V v2 m := (h3.keep B0).keep BV
  have kn : Row V 31 1 (.slice (some ⟨W.heap.size, 0, none⟩) 0 0) 0 [] := ⟨rfl, .inr ⟨W.heap.size, 0, [], rfl, bn, Nat.le_refl _, by unfold maxLen; omega, Nat.le_refl _, rfl⟩⟩
  have wBV : Below w.heap.size w V := B0.trans (BV.mono B0.size)
  have own0 : ∀ b, (Value.slice (some ⟨W.heap.size, 0, none⟩) 0 0).ownBlock = some b → b = W.heap.size := fun b hb => by
    have e : W.heap.size = b := by simpa [Value.ownBlock] using hb
    exact e.symm
  -- behind an append into a new block
  have G : ∀ (u : Value) (w1 w2 : World), Fr (fun b => u.ownBlock = some b) w1 w2 → (∀ b, u.ownBlock = some b → W.heap.size ≤ b) → Below W.heap.size W w1 →
      ((w2.cell? ⟨w.heap.size, 2, none⟩ = some v1 ∧ w2.cell? ⟨w.heap.size, 3, none⟩ = some v2) ∧ KL w2 v2 m ∧ Below W.heap.size W w2) := by
    intro u w1 w2 hf hu hb1
    have hb2 := below_fr hb1 hf (Nat.le_refl _) hu
    exact ⟨⟨(b0.keep hb2).cell 2, (b0.keep hb2).cell 3⟩, (h3.keep B0).keep hb2, hb2⟩
  have HG := Go.Lib.hid G
  have HO := Go.Lib.hid own0
  have HBV := Go.Lib.hid BV
  have HKN := Go.Lib.hid kn
  have HK1 := Go.Lib.hid kV1
  have HS0 : Hid (W.drew.cell? ⟨w.heap.size, 2, none⟩ = some v1 ∧ W.drew.cell? ⟨w.heap.size, 3, none⟩ = some v2) := Go.Lib.hid ⟨b0.cell 2, b0.cell 3⟩
  have HSV : Hid (V.cell? ⟨w.heap.size, 2, none⟩ = some v1 ∧ V.cell? ⟨w.heap.size, 3, none⟩ = some v2) := Go.Lib.hid ⟨bV.cell 2, bV.cell 3⟩
  have HB0 := Go.Lib.hid B0
  have HW := Go.Lib.hid hW
  have HV := Go.Lib.hid hV
  have M1 : Hid (0 + i.length ≤ maxLen) := Go.Lib.hid (by unfold maxLen; omega)
  have M2 : Hid ((0 + i.length) * 8 ≤ 140737488355328) := Go.Lib.hid (by omega)
  have M3 : Hid (0 + i.length + m.length ≤ maxLen) := Go.Lib.hid (by unfold maxLen; omega)
  have M4 : Hid ((0 + i.length + m.length) * 8 ≤ 140737488355328) := Go.Lib.hid (by omega)
  have HSV' : Hid ((W.alloc (.cells #[] 31)).drew.cell? ⟨w.heap.size, 2, none⟩ = some v1 ∧ (W.alloc (.cells #[] 31)).drew.cell? ⟨w.heap.size, 3, none⟩ = some v2) := by rw [← HV.out]; exact HSV.out
  clear hW b0 B0 s0 hV BV bn bV kV1 kV3 kn wBV own0 G h1 h3
  go_enter Try.func67, Try.ntmps67
  go_wp2_with fail
  rw [← HW.out]
  go_region_held3 (fun W' => W'.cell? ⟨w.heap.size, 2, none⟩ = some v1 ∧ W'.cell? ⟨w.heap.size, 3, none⟩ = some v2)
    (first | exact s2 | exact s1 | exact HSV'.out | exact HS0.out)
    (first | (rw [← HV.out]; refine step_append_rows rfl (.tmp 3) (.tmp 5) 26 rfl 31 (.int .u64 0) 1 8 Try.underlying26 u64_info rfl (by decide) (.slice (some ⟨W.heap.size, 0, none⟩) 0 0) 0 [] rfl HKN.out v1 i.length (i.map (Value.int .u64)) rfl HK1.out (keys_one _) M1.out M2.out ?_; intro x1 w1 r1 r2 r3; obtain ⟨s1, k1, q1⟩ := HG.out _ _ _ r2 (fun b hb => by rw [HO.out b hb]; exact Nat.le_refl _) HBV.out) | (refine step_append_rows rfl (.tmp 6) (.tmp 8) 26 rfl 31 (.int .u64 0) 1 8 Try.underlying26 u64_info rfl (by decide) x1 (0 + i.length) ([] ++ i.map (Value.int .u64)) rfl r1 v2 m.length (m.map (Value.int .u64)) rfl k1 (keys_one _) M3.out M4.out ?_; intro x2 w2 r4 r5 r6; obtain ⟨s2, k2, q2⟩ := HG.out _ _ _ r5 (fun b hb => by rcases r3 b hb with h | h; rw [HO.out b h]; exact Nat.le_refl _; exact Nat.le_trans HBV.out.size h) q1))
  have K2 : KL w2 x2 (i ++ m) := by
    unfold KL
    rw [List.map_append, List.length_append]
    have r := r4
    rw [List.nil_append, Nat.zero_add] at r
    exact r
  have HK2 := Go.Lib.hid K2
  have HB2 := Go.Lib.hid (HB0.out.trans (q2.mono HB0.out.size))
  clear r1 r2 r3 r4 r5 r6 s1 s2 k1 k2 q1 q2 K2
  go_wp2_with fail
  go_ret
  exact ⟨x2, rfl, HK2.out, HB2.out⟩
end Go.Proofs.Ytlakojncjldpbaa
