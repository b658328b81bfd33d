/- The statements' own function awake (law 17). -/
import Derived.Test.YtlakojncjldpbaaGreatAca7
namespace Go.Proofs.YtlakojncjldpbaaGreat
open Go.RowKit Hop
set_option linter.unusedVariables false
set_option linter.unusedSimpArgs false
set_option maxRecDepth 100000
theorem arS_p (c p : Int) (v1 v2 v3 v4 : Value) (w : World) : (Instr.field 55 (.agg #[.int .i64 c, .int .i64 p, v1, v2, v3, v4]) 1).run Tryz.prog w = .ok (.int .i64 p) w := by kernel_rfl
def a0 : AS := ⟨2, 0, [], [], [], []⟩
theorem a0_ok : a0.ok := ⟨by decide, by decide, by decide, by decide, by decide, by decide⟩
theorem a1_eq : admitA a0 1 = (⟨2, 0, [1], [], [], []⟩, []) := rfl
theorem a2_eq : admitA ⟨2, 0, [1], [], [], []⟩ 2 = (⟨2, 0, [2, 1], [], [], []⟩, []) := rfl
theorem a3_eq : touchA ⟨2, 0, [2, 1], [], [], []⟩ 1 = ⟨2, 0, [2], [1], [], []⟩ := rfl
theorem a4_eq : admitA ⟨2, 0, [2], [1], [], []⟩ 3 = (⟨2, 0, [3], [1], [2], []⟩, [2]) := rfl
theorem a5_eq : admitA ⟨2, 0, [3], [1], [2], []⟩ 2 = (⟨2, 1, [3], [2], [], [1]⟩, [1]) := rfl
set_option maxHeartbeats 6400000 in
theorem aawake_any (w : World) :
    Calls Tryz.prog 21 #[] w fun e w' => e = .returned (.bool true) ∧ Below w.heap.size w w' := by
  have f0 := arS_p
  have e4 : capF 2 = 2 := by decide
  go_enter Tryz.func21, Tryz.ntmps21
  go_wp2_with fail
  refine (anew_any' 2 w).mono ?_
  rintro e w1 ⟨px, O1, rfl, hE1, ho1, hb1⟩
  rw [e4] at hE1
  have HE1 : Hid (Aca w1 px O1 a0 0) := Go.Lib.hid hE1
  have HO1 := Go.Lib.hid ho1
  have HB1 := Go.Lib.hid hb1
  clear hE1 ho1 hb1 e4
  go_wp2_with fail
  refine (aadmit_any px _ 1 w1 (by omega) (by omega) a0_ok (by omega) HE1.out).mono ?_
  rintro e w2 ⟨vo1, O2, p2, rfl, hk1, hE2, hc2, hp2⟩
  have ok2 := admitA_ok (k := 1) a0_ok
  rw [a1_eq] at hk1 hE2 ok2
  simp only at hk1 hE2 ok2
  have hq2 : p2 ≤ 4 := by simp only [a0] at hp2; omega
  have HK1 := Go.Lib.hid hk1
  have HE2 := Go.Lib.hid hE2
  have HC2 := Go.Lib.hid hc2
  clear hk1 hE2 hc2 hp2
  go_wp2_with fail
  refine (aadmit_any px _ 2 w2 (by omega) (by omega) ok2 (by omega) HE2.out).mono ?_
  rintro e w3 ⟨vo2, O3, p3, rfl, hk2, hE3, hc3, hp3⟩
  have ok3 := admitA_ok (k := 2) ok2
  rw [a2_eq] at hk2 hE3 ok3
  simp only at hk2 hE3 ok3
  have hq3 : p3 ≤ 4 := by simp only [a0] at hp3; omega
  have HK2 := Go.Lib.hid hk2
  have HE3 := Go.Lib.hid hE3
  have HC3 := Go.Lib.hid hc3
  clear hk2 hE3 hc3 hp3
  go_wp2_with fail
  refine (atouch_any px 1 w3 (by omega) (by omega) HE3.out).mono ?_
  rintro e w4 ⟨rfl, O4, hE4, hc4⟩
  have ok4 := touchA_ok (k := 1) ok3
  rw [a3_eq] at hE4 ok4
  have hq4 : p3 ≤ 4 := hq3
  have HE4 := Go.Lib.hid hE4
  have HC4 := Go.Lib.hid hc4
  clear hE4 hc4
  go_wp2_with fail
  refine (aadmit_any px _ 3 w4 (by omega) (by omega) ok4 (by omega) HE4.out).mono ?_
  rintro e w5 ⟨vo4, O5, p5, rfl, hk4, hE5, hc5, hp5⟩
  have ok5 := admitA_ok (k := 3) ok4
  rw [a4_eq] at hk4 hE5 ok5
  simp only at hk4 hE5 ok5
  have hq5 : p5 ≤ 4 := by simp only [a0] at hp5; omega
  have HK4 := Go.Lib.hid hk4
  have HE5 := Go.Lib.hid hE5
  have HC5 := Go.Lib.hid hc5
  clear hk4 hE5 hc5 hp5
  go_wp2_with fail
  refine (aadmit_any px _ 2 w5 (by omega) (by omega) ok5 (by omega) HE5.out).mono ?_
  rintro e w6 ⟨vo5, O6, p6, rfl, hk5, hE6, hc6, hp6⟩
  have ok6 := admitA_ok (k := 2) ok5
  rw [a5_eq] at hk5 hE6 ok6
  simp only at hk5 hE6 ok6
  have hq6 : p6 ≤ 4 := by simp only [a0] at hp6; omega
  have HK5 := Go.Lib.hid hk5
  have HE6 := Go.Lib.hid hE6
  have HC6 := Go.Lib.hid hc6
  clear hk5 hE6 hc6 hp6
  clear ok2 ok3 ok4 ok5 ok6
  go_wp2_with fail
  have HK4' := Go.Lib.hid (Row.frame HK4.out HC6.out.fr (HE5.out.kl HK4.out) : KL w6 vo4 [2])
  have A6 := (Below.refl w6.heap.size w6).alloc (Nat.le_refl _) (.cells #[.int .u64 2] 32)
  refine (same_any vo4 _ [2] [2] _ (HK4'.out.keep A6) (KL.lit w6 2)).mono ?_
  rintro e w7 ⟨rfl, hb7⟩
  have HB7 : Hid (Below w6.heap.size w6 w7) := Go.Lib.hid (A6.trans (hb7.mono A6.size))
  clear A6 hb7
  go_wp2_with fail
  have A7 := (Below.refl w7.heap.size w7).alloc (Nat.le_refl _) (.cells #[.int .u64 1] 32)
  refine (same_any vo5 _ [1] [1] _ ((HK5.out.keep HB7.out).keep A7) (KL.lit w7 1)).mono ?_
  rintro e w8 ⟨rfl, hb8⟩
  have HB8 := Go.Lib.hid (HB7.out.trans ((A7.trans (hb8.mono A7.size)).mono HB7.out.size))
  clear A7 hb8
  go_wp2_with fail
  refine (astate_any px w8 (HE6.out.keep HB8.out)).mono ?_
  rintro e w9 ⟨v1, v2, v3, v4, rfl, hk1, hk2, hk3, hk4, hb9⟩
  have HB9 := Go.Lib.hid (HB8.out.trans (hb9.mono HB8.out.size))
  clear hb9 hk1 hk2 hk3 hk4
  go_wp2_with fail
  refine (ahas_any px 3 w9 (by omega) (by omega) (HE6.out.keep HB9.out)).mono ?_
  rintro e w10 ⟨rfl, hb10⟩
  have HB10 := Go.Lib.hid (HB9.out.trans (hb10.mono HB9.out.size))
  clear hb10
  go_wp2_with fail
  refine (ahas_any px 1 w10 (by omega) (by omega) (HE6.out.keep HB10.out)).mono ?_
  rintro e w11 ⟨rfl, hb11⟩
  have HB11 := Go.Lib.hid (HB10.out.trans (hb11.mono HB10.out.size))
  clear hb11
  go_wp2_with fail
  refine (aghosts_any px w11 (HE6.out.keep HB11.out)).mono ?_
  rintro e w12 ⟨rfl, hb12⟩
  have HB12 := Go.Lib.hid (HB11.out.trans (hb12.mono HB11.out.size))
  clear hb12
  go_wp2_with fail
  refine (akeys_any px w12 (HE6.out.keep HB12.out)).mono ?_
  rintro e w13 ⟨v13, rfl, hk13, hb13⟩
  have HB13 := Go.Lib.hid (HB12.out.trans (hb13.mono HB12.out.size))
  have HK13 := Go.Lib.hid hk13
  clear hb13 hk13
  go_wp2_with fail
  have A13 := (Below.refl w13.heap.size w13).alloc (Nat.le_refl _) (.cells #[.int .u64 3, .int .u64 2] 32)
  refine (same_any v13 _ [3, 2] [3, 2] _ (HK13.out.keep A13) (KL.lit2 w13 3 2)).mono ?_
  rintro e w14 ⟨rfl, hb14⟩
  have HB14 := Go.Lib.hid (HB13.out.trans ((A13.trans (hb14.mono A13.size)).mono HB13.out.size))
  clear A13 hb14
  go_wp2_with fail
  go_ret
  refine ⟨rfl, ?_⟩
  have F : Fr (fun _ => False) w w14 := by
    have c1 : Chg (fun _ => False) O1 w w1 := ⟨Fr.of_below HB1.out, fun k hk => .inr (HO1.out k hk)⟩
    exact ((((((c1.trans HC2.out).trans HC3.out).trans HC4.out).trans HC5.out).trans HC6.out).below HB14.out).fr
  exact F.below
end Go.Proofs.YtlakojncjldpbaaGreat
