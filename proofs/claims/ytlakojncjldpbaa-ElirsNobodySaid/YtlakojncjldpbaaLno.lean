/- ElirsNobody: the walk. -/
import Derived.Test.YtlakojncjldpbaaLcD
namespace Go.Proofs.Ytlakojncjldpbaa
open Go.RowKit Hop
set_option linter.unusedVariables false
set_option linter.unusedSimpArgs false
set_option maxRecDepth 100000
set_option maxHeartbeats 3200000 in
theorem lnobody_any (k c : Int) (w : World) (hk0 : 0 ≤ k) (hk1 : k < 18446744073709551616) :
    Calls Try.prog 16 #[.int .u64 k, .int .i64 c] w fun e w' => e = .returned (.bool true) ∧ Below w.heap.size w w' := by
  have f0 := liS_c
  have HCA := Go.Lib.hid (fun w => cap_any c w)
  have HNW := Go.Lib.hid (fun w => lnew_ca c w)
  generalize capF c = cf at *
  go_enter Try.func16, Try.ntmps16
  go_wp2_with fail
  refine (lawake_any _).mono ?_
  rintro e w1 ⟨rfl, hb1⟩
  have HB1 := Go.Lib.hid hb1
  clear hb1
  go_wp2_with fail
  refine (ltouch_nil k _).mono ?_
  rintro e w' ⟨rfl, rfl⟩
  go_wp2_with fail
  refine (ldrop_nil k _).mono ?_
  rintro e w' ⟨rfl, rfl⟩
  go_wp2_with fail
  refine (lrooms_nil _).mono ?_
  rintro e w' ⟨rfl, rfl⟩
  go_wp2_with fail
  refine (ladmit_nil k _).mono ?_
  rintro e w' ⟨rfl, rfl⟩
  go_wp2_with fail
  refine (lresize_nil c _).mono ?_
  rintro e w' ⟨rfl, rfl⟩
  go_wp2_with fail
  refine (lhas_nil k _).mono ?_
  rintro e w' ⟨rfl, rfl⟩
  go_wp2_with fail
  refine (lkeys_nil _).mono ?_
  rintro e w2 ⟨vk, rfl, hkk, hb2⟩
  obtain ⟨ak, pk, rfl⟩ := hkk.form
  clear hkk
  have HB2 := Go.Lib.hid (HB1.out.trans (hb2.mono HB1.out.size))
  clear hb2
  go_wp2_with fail
  refine (lghosts_nil _).mono ?_
  rintro e w' ⟨rfl, rfl⟩
  go_wp2_with fail
  refine (lstate_nil _).mono ?_
  rintro e w3 ⟨rfl, hb3⟩
  have HB3 := Go.Lib.hid (HB2.out.trans (hb3.mono HB2.out.size))
  clear hb3
  go_wp2_with fail
  refine (HNW.out _).mono ?_
  rintro e w4 ⟨px, O, rfl, hE, ho, hb4⟩
  have HE := Go.Lib.hid hE
  have HB4 := Go.Lib.hid (HB3.out.trans (hb4.mono HB3.out.size))
  clear hE ho hb4
  go_wp2_with fail
  refine (lstate_ca _ HE.out).mono ?_
  rintro e w5 ⟨v1, v2, rfl, hk1, hk2, hb5⟩
  have HB5 := Go.Lib.hid (HB4.out.trans (hb5.mono HB4.out.size))
  clear hk1 hk2 hb5
  go_wp2_with fail
  refine (HCA.out _).mono ?_
  rintro e w' ⟨rfl, rfl⟩
  go_wp2_with fail
  go_ret
  exact ⟨rfl, HB5.out⟩
end Go.Proofs.Ytlakojncjldpbaa
