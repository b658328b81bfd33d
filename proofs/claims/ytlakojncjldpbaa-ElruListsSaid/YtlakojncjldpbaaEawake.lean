/- The statements' own functions: same, awake. -/
import Derived.Test.YtlakojncjldpbaaElaw
namespace Go.Proofs.Ytlakojncjldpbaa
open Go.RowKit Hop
set_option linter.unusedVariables false
set_option linter.unusedSimpArgs false
set_option maxRecDepth 100000
theorem KL.lit (w : World) (x : Int) : KL (w.alloc (.cells #[.int .u64 x] 31)) (.slice (some ⟨w.heap.size, 0, none⟩) 1 1) [x] :=
  ⟨rfl, .inr ⟨w.heap.size, 1, _, rfl, Blk.new0 w [.int .u64 x] 31, Nat.le_refl _, by decide, Nat.le_refl _, rfl⟩⟩
set_option maxHeartbeats 1600000 in
theorem lsame_any (c1 c2 : Int) (v1 v2 : Value) (L1 L2 : List Int) (w : World) (h1 : KL w v1 L1) (h2 : KL w v2 L2) :
    Calls Try.prog 25 #[.agg #[.int .i64 c1, v1], .agg #[.int .i64 c2, v2]] w fun e w' => e = .returned (.bool (decide (c1 = c2 ∧ L1 = L2))) ∧ Below w.heap.size w w' := by
  obtain ⟨a1, cap1, rfl⟩ := h1.form
  obtain ⟨a2, cap2, rfl⟩ := h2.form
  generalize hv1 : Value.slice a1 L1.length cap1 = v1 at *
  generalize hv2 : Value.slice a2 L2.length cap2 = v2 at *
  have A0 := ((Below.refl w.heap.size w).alloc (Nat.le_refl _) (.cells #[.int .i64 c1, v1] 39)).alloc (by simp) (.cells #[.int .i64 c2, v2] 28)
  obtain ⟨W, hW⟩ : ∃ W, W = (w.alloc (.cells #[.int .i64 c1, v1] 39)).alloc (.cells #[.int .i64 c2, v2] 28) := ⟨_, rfl⟩
  rw [← hW] at A0
  have HS := Go.Lib.hid (same_any v1 v2 L1 L2 W (h1.keep A0) (h2.keep A0))
  have HA0 := Go.Lib.hid A0
  have HW := Go.Lib.hid hW
  subst hv1
  subst hv2
  clear hW A0 h1 h2
  by_cases hc : c1 = c2
  · subst hc
    have hd : decide (c1 = c1 ∧ L1 = L2) = decide (L1 = L2) := by simp
    rw [hd]
    clear hd
    generalize decide (L1 = L2) = b at *
    go_enter Try.func25, Try.ntmps25
    go_wp2_with fail
    rw [← HW.out]
    refine HS.out.mono ?_
    rintro e w1 ⟨rfl, hb⟩
    have HB := Go.Lib.hid (HA0.out.trans (hb.mono HA0.out.size))
    clear hb
    go_wp2_with fail
    go_ret
    exact ⟨rfl, HB.out⟩
  · have hd : decide (c1 = c2 ∧ L1 = L2) = false := by simp [hc]
    rw [hd]
    have hcb : (c1 == c2) = false := by rw [beq_eq_false_iff_ne]; exact hc
    clear hd
    go_enter Try.func25, Try.ntmps25
    go_wp2_with fail
    go_ret
    refine ⟨rfl, ?_⟩
    rw [← HW.out]
    exact HA0.out
set_option maxHeartbeats 3200000 in
theorem awake_any (w : World) :
    Calls Try.prog 19 #[] w fun e w' => e = .returned (.bool true) ∧ Below w.heap.size w w' := by
  have f0 := lus_c
  go_enter Try.func19, Try.ntmps19
  go_wp2_with fail
  refine (enew_any 1 w).mono ?_
  rintro e w1 ⟨px, O1, rfl, hE1, ho1, hb1⟩
  have HE1 := Go.Lib.hid hE1
  have HO1 := Go.Lib.hid ho1
  have HB1 := Go.Lib.hid hb1
  clear hE1 ho1 hb1
  go_wp2_with fail
  refine (eadmit_any px 1 w1 (by omega) (by omega) (by decide) (by omega) HE1.out).mono ?_
  rintro e w2 ⟨vo1, O2, p2, rfl, hk1, hE2, hc2, hp2⟩
  obtain ⟨a1, cap1, rfl⟩ := hk1.form
  have e1 : (admitO (capF 1) [] 1).length = 0 := by decide
  rw [e1] at hk1 ⊢
  have hp2' : p2 ≤ 1 := by have : (capF 1).toNat = 1 := by decide
                           omega
  have HE2 := Go.Lib.hid hE2
  have HC2 := Go.Lib.hid hc2
  clear hE2 hc2 hk1 hp2 e1
  go_wp2_with fail
  refine (eadmit_any px 2 w2 (by omega) (by omega) (by decide) (by omega) HE2.out).mono ?_
  rintro e w3 ⟨vo2, O3, p3, rfl, hk2, hE3, hc3, hp3⟩
  have e2 : admitO (capF 1) (admitL (capF 1) [] 1) 2 = [1] := by decide
  have e3 : admitL (capF 1) (admitL (capF 1) [] 1) 2 = [2] := by decide
  have e4 : capF 1 = 1 := by decide
  rw [e2] at hk2
  rw [e3, e4] at hE3
  have hp3' : p3 ≤ 1 := by have : (capF 1).toNat = 1 := by decide
                           omega
  have HK2 := Go.Lib.hid hk2
  have HE3 := Go.Lib.hid hE3
  have HC3 := Go.Lib.hid hc3
  clear hE3 hc3 hk2 hp3 e2 e3 e4
  go_wp2_with fail
  refine (erooms_any px w3 HE3.out).mono ?_
  rintro e w4 ⟨a, b, rfl, hb4, hr1, hr2, hr3, hr4, hr5, hr6, hr7, hr8⟩
  have ha : a = 8 := by omega
  have hb : b = 8 := by omega
  subst ha; subst hb
  have HB4 := Go.Lib.hid hb4
  clear hb4 hr1 hr2 hr3 hr4 hr5 hr6 hr7 hr8
  go_wp2_with fail
  have A4 := (Below.refl w4.heap.size w4).alloc (Nat.le_refl _) (.cells #[.int .u64 1] 31)
  refine (same_any vo2 _ [1] [1] _ ((HK2.out.keep HB4.out).keep A4) (KL.lit w4 1)).mono ?_
  rintro e w5 ⟨rfl, hb5⟩
  have q45 : Below w4.heap.size w4 w5 := A4.trans (hb5.mono A4.size)
  have q5 : Below w3.heap.size w3 w5 := HB4.out.trans (q45.mono HB4.out.size)
  have HB5 := Go.Lib.hid q5
  have HE5 := Go.Lib.hid (HE3.out.keep q5)
  clear A4 hb5 q45 q5
  go_wp2_with fail
  refine (ehas_any px 2 w5 (by omega) (by omega) HE5.out).mono ?_
  rintro e w6 ⟨rfl, hb6⟩
  have HB6 := Go.Lib.hid (HB5.out.trans (hb6.mono HB5.out.size))
  clear hb6
  go_wp2_with fail
  refine (ehas_any px 1 w6 (by omega) (by omega) (HE3.out.keep HB6.out)).mono ?_
  rintro e w7 ⟨rfl, hb7⟩
  have HB7 := Go.Lib.hid (HB6.out.trans (hb7.mono HB6.out.size))
  clear hb7
  go_wp2_with fail
  refine (estate_any px w7 (HE3.out.keep HB7.out)).mono ?_
  rintro e w8 ⟨v8, rfl, hk8, hb8⟩
  have HB8 := Go.Lib.hid (HB7.out.trans (hb8.mono HB7.out.size))
  clear hb8 hk8
  go_wp2_with fail
  refine (ekeys_any px w8 (HE3.out.keep HB8.out)).mono ?_
  rintro e w9 ⟨v9, rfl, hk9, hb9⟩
  have HB9 := Go.Lib.hid (HB8.out.trans (hb9.mono HB8.out.size))
  have HK9 := Go.Lib.hid hk9
  clear hb9 hk9
  go_wp2_with fail
  have A9 := (Below.refl w9.heap.size w9).alloc (Nat.le_refl _) (.cells #[.int .u64 2] 31)
  refine (same_any v9 _ [2] [2] _ (HK9.out.keep A9) (KL.lit w9 2)).mono ?_
  rintro e w10 ⟨rfl, hb10⟩
  have q9 : Below w9.heap.size w9 w10 := A9.trans (hb10.mono A9.size)
  have HB10 := Go.Lib.hid (HB9.out.trans (q9.mono HB9.out.size))
  clear A9 hb10 q9
  go_wp2_with fail
  go_ret
  have s1 := HB1.out.size
  have s2 := HC2.out.fr.size
  have s3 := HC3.out.fr.size
  refine ⟨rfl, ?_⟩
  have F : Fr (fun _ => False) w w10 := by
    have c1 : Chg (fun _ => False) O1 w w1 := ⟨Fr.of_below HB1.out, fun k hk => .inr (HO1.out k hk)⟩
    exact (((c1.trans HC2.out).trans HC3.out).below HB10.out).fr
  exact F.below
end Go.Proofs.Ytlakojncjldpbaa
