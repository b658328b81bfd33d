/- The statements' own function awake (law 18). -/
import Derived.Test.YtlakojncjldpbaaLcC
namespace Go.Proofs.Ytlakojncjldpbaa
open Go.RowKit Hop
set_option linter.unusedVariables false
set_option linter.unusedSimpArgs false
set_option maxRecDepth 100000
theorem liS_s (c : Int) (v1 v2 : Value) (w : World) : (Instr.field 88 (.agg #[.int .i64 c, v1, v2]) 1).run Try.prog w = .ok v1 w := by kernel_rfl
def l0 : LS := ⟨2, [], []⟩
theorem l0_ok : l0.ok := ⟨by decide, by decide, ⟨by decide, by decide, by simp [l0], by simp [l0]⟩, by decide, by decide, by decide⟩
theorem l1_eq : admitL l0 1 = (⟨2, [⟨1, 2⟩], []⟩, []) := rfl
theorem l2_eq : admitL ⟨2, [⟨1, 2⟩], []⟩ 2 = (⟨2, [⟨2, 1⟩, ⟨1, 2⟩], [2]⟩, []) := rfl
theorem l3_eq : admitL ⟨2, [⟨2, 1⟩, ⟨1, 2⟩], [2]⟩ 3 = (⟨2, [⟨3, 1⟩, ⟨2, 0⟩, ⟨1, 2⟩], [3]⟩, [2]) := rfl
theorem l4_eq : admitL ⟨2, [⟨3, 1⟩, ⟨2, 0⟩, ⟨1, 2⟩], [3]⟩ 2 = (⟨2, [⟨2, 2⟩], [1]⟩, [3]) := rfl
set_option maxHeartbeats 6400000 in
theorem lawake_any (w : World) :
    Calls Try.prog 79 #[] w fun e w' => e = .returned (.bool true) ∧ Below w.heap.size w w' := by
  have f0 := liS_s
  have e4 : capF 2 = 2 := by decide
  go_enter Try.func79, Try.ntmps79
  go_wp2_with fail
  refine (lnew_ca 2 w).mono ?_
  rintro e w1 ⟨px, O1, rfl, hE1, ho1, hb1⟩
  rw [e4] at hE1
  have HE1 : Hid (Lca w1 px O1 l0 0 0) := Go.Lib.hid hE1
  have HO1 := Go.Lib.hid ho1
  have HB1 := Go.Lib.hid hb1
  clear hE1 ho1 hb1 e4
  go_wp2_with fail
  refine (admit_ca 1 w1 (by omega) (by omega) l0_ok (by omega) HE1.out).mono ?_
  rintro e w2 ⟨vo1, O2, p2, r2, rfl, hE2, hp2, hc2, hk1, ho1⟩
  have ok2 := admitL_ok (k := 1) l0_ok
  rw [l1_eq] at hE2 ok2
  simp only at hE2 ok2
  have hq2 : p2 ≤ 9 ∧ r2 ≤ 9 := by simp only [l0] at hp2; omega
  have HE2 := Go.Lib.hid hE2
  have HC2 := Go.Lib.hid hc2
  clear hk1 hE2 hc2 hp2 ho1
  go_wp2_with fail
  refine (admit_ca 2 w2 (by omega) (by omega) ok2 (by omega) HE2.out).mono ?_
  rintro e w3 ⟨vo2, O3, p3, r3, rfl, hE3, hp3, hc3, hk2, ho2⟩
  have ok3 := admitL_ok (k := 2) ok2
  rw [l2_eq] at hE3 ok3
  simp only at hE3 ok3
  have hq3 : p3 ≤ 9 ∧ r3 ≤ 9 := by simp only at hp3; omega
  have HE3 := Go.Lib.hid hE3
  have HC3 := Go.Lib.hid hc3
  clear hk2 hE3 hc3 hp3 ho2
  go_wp2_with fail
  refine (admit_ca 3 w3 (by omega) (by omega) ok3 (by omega) HE3.out).mono ?_
  rintro e w5 ⟨vo4, O5, p5, r5, rfl, hE5, hp5, hc5, hk4, ho4⟩
  have ok5 := admitL_ok (k := 3) ok3
  rw [l3_eq] at hk4 hE5 ok5
  simp only at hk4 hE5 ok5
  have hq5 : p5 ≤ 9 ∧ r5 ≤ 9 := by simp only at hp5; omega
  have HK4 := Go.Lib.hid hk4
  have HO4 := Go.Lib.hid ho4
  have HE5 := Go.Lib.hid hE5
  have HC5 := Go.Lib.hid hc5
  clear hk4 hE5 hc5 hp5 ho4
  go_wp2_with fail
  refine (admit_ca 2 w5 (by omega) (by omega) ok5 (by omega) HE5.out).mono ?_
  rintro e w6 ⟨vo5, O6, p6, r6, rfl, hE6, hp6, hc6, hk5, ho5⟩
  rw [l4_eq] at hk5 hE6
  simp only at hk5 hE6
  have HK5 := Go.Lib.hid hk5
  have HE6 := Go.Lib.hid hE6
  have HC6 := Go.Lib.hid hc6
  clear hk5 hE6 hc6 hp6 ho5
  clear ok2 ok3 ok5
  go_wp2_with fail
  have HK4' := Go.Lib.hid (Row.frame HK4.out HC6.out.fr (fun b hb => (HO4.out b hb).2) : KL w6 vo4 [2])
  have A6 := (Below.refl w6.heap.size w6).alloc (Nat.le_refl _) (.cells #[.int .u64 2] 31)
  refine (same_any vo4 _ [2] [2] _ (HK4'.out.keep A6) (KL.lit w6 2)).mono ?_
  rintro e w7 ⟨rfl, hb7⟩
  have HB7 : Hid (Below w6.heap.size w6 w7) := Go.Lib.hid (A6.trans (hb7.mono A6.size))
  clear A6 hb7
  go_wp2_with fail
  have A7 := (Below.refl w7.heap.size w7).alloc (Nat.le_refl _) (.cells #[.int .u64 3] 31)
  refine (same_any vo5 _ [3] [3] _ ((HK5.out.keep HB7.out).keep A7) (KL.lit w7 3)).mono ?_
  rintro e w8 ⟨rfl, hb8⟩
  have HB8 := Go.Lib.hid (HB7.out.trans ((A7.trans (hb8.mono A7.size)).mono HB7.out.size))
  clear A7 hb8
  go_wp2_with fail
  refine (has_ca 1 w8 (by omega) (by omega) (HE6.out.keep HB8.out)).mono ?_
  rintro e w10 ⟨rfl, hb10⟩
  have HB10 := Go.Lib.hid (HB8.out.trans (hb10.mono HB8.out.size))
  rw [show decide ((1 : Int) ∈ allL ⟨2, [⟨2, 2⟩], [1]⟩) = true from rfl]
  clear hb10
  go_wp2_with fail
  refine (has_ca 3 w10 (by omega) (by omega) (HE6.out.keep HB10.out)).mono ?_
  rintro e w11 ⟨rfl, hb11⟩
  have HB11 := Go.Lib.hid (HB10.out.trans (hb11.mono HB10.out.size))
  rw [show decide ((3 : Int) ∈ allL ⟨2, [⟨2, 2⟩], [1]⟩) = false from rfl]
  clear hb11
  go_wp2_with fail
  refine (lkeys_ca w11 (HE6.out.keep HB11.out)).mono ?_
  rintro e w13 ⟨v13, rfl, hk13, hb13⟩
  have HB13 := Go.Lib.hid (HB11.out.trans (hb13.mono HB11.out.size))
  have HK13 : Hid (KL w13 v13 [2, 1]) := Go.Lib.hid hk13
  clear hb13 hk13
  go_wp2_with fail
  have A13 := (Below.refl w13.heap.size w13).alloc (Nat.le_refl _) (.cells #[.int .u64 2, .int .u64 1] 31)
  refine (same_any v13 _ [2, 1] [2, 1] _ (HK13.out.keep A13) (KL.lit2 w13 2 1)).mono ?_
  rintro e w14 ⟨rfl, hb14⟩
  have HB14 := Go.Lib.hid (HB13.out.trans ((A13.trans (hb14.mono A13.size)).mono HB13.out.size))
  clear A13 hb14
  go_wp2_with fail
  refine (lstate_ca w14 (HE6.out.keep HB14.out)).mono ?_
  rintro e w15 ⟨v1, v2, rfl, hi1, hk2, hb15⟩
  obtain ⟨ai, ci, rfl⟩ := hi1.form
  have HB15 := Go.Lib.hid (HB14.out.trans (hb15.mono HB14.out.size))
  clear hb15 hi1 hk2
  go_wp2_with fail
  refine (ghosts_ca w15 (HE6.out.keep HB15.out)).mono ?_
  rintro e w16 ⟨rfl, rfl⟩
  rw [show manyL (LS.mk 2 [⟨2, 2⟩] [1]).s 0 = 0 from rfl]
  go_wp2_with fail
  go_ret
  refine ⟨rfl, ?_⟩
  have F : Fr (fun _ => False) w w15 := by
    have c1 : Chg (fun _ => False) O1 w w1 := ⟨Fr.of_below HB1.out, fun k hk => .inr (HO1.out k hk)⟩
    exact (((((c1.trans HC2.out).trans HC3.out).trans HC5.out).trans HC6.out).below HB15.out).fr
  exact F.below
end Go.Proofs.Ytlakojncjldpbaa
