/- The statements' own awake (law 01). -/
import Derived.Test.YtddihnnodegkmaaDoorCf3
import Derived.Test.YtddihnnodegkmaaDoorCf4
import Derived.Test.YtddihnnodegkmaaDoorCf5
namespace Go.Proofs.YtddihnnodegkmaaDoor
open Go.RowKit Go.Extern.Stop Go.Stop Go.Extern Hop
set_option linter.unusedVariables false
set_option linter.unusedSimpArgs false
set_option maxRecDepth 100000
theorem Ety.keep {w w' : World} (h : Ety w) (hb : Below w.heap.size w w') : Ety w' := cell_below hb h
theorem sPolicy_list : sPolicy.toList = [112, 111, 108, 105, 99, 121] := by decide +kernel
theorem sCapacity_list : sCapacity.toList = [99, 97, 112, 97, 99, 105, 116, 121] := by decide +kernel
theorem pol9 : sPolicy ++ ⟨#[58, 32]⟩ ++ ⟨(Lib.decDigits 9).toArray⟩ ++ (⟨#[58, 32]⟩ ++ nmF 1) = ⟨#[112, 111, 108, 105, 99, 121, 58, 32, 57, 58, 32, 99, 111, 110, 102, 105, 103]⟩ := by decide +kernel
/-- A Bad over a number is a chain of one. -/
theorem Ch.one {w : World} {b : Nat} {f : ByteArray} {n c : Int} (h : Blk w b [.string f, .int .i64 n, .iface 32 (.int .i64 c)] 40) : Ch w 1 (.iface 38 (.pointer (some ⟨b, 0, none⟩))) (.iface 32 (.int .i64 c)) :=
  ⟨b, f, n, _, rfl, h, rfl⟩
theorem itoa_nine (w : World) : Calls Tryd.prog 33 #[.int .i64 9] w fun e w' => e = .returned (.string ⟨(Lib.decDigits 9).toArray⟩) ∧ Below w.heap.size w w' := itoa_small 9 (by decide) w
set_option maxHeartbeats 3200000 in
theorem cawake_any (w : World) (hg : Ety w) : Calls Tryd.prog 11 #[] w fun e w' => e = .returned (.bool true) ∧ Below w.heap.size w w' := by
  have HG := Go.Lib.hid hg
  have m1 := mErrorB
  have hs := sPolicy_list
  clear hg
  go_enter Tryd.func11, Tryd.ntmps11
  go_wp2_with fail
  refine (may_pol 9 4 w (by unfold okP; omega)).mono ?_
  rintro e w1 ⟨b, rfl, hb, hb1⟩
  have HB1 := Go.Lib.hid hb1
  have Hb := Go.Lib.hid hb
  clear hb hb1
  go_wp2_with fail
  refine (field_bad b sPolicy 9 _ w1 Hb.out (HG.out.keep HB1.out)).mono ?_
  rintro e w2 ⟨rfl, hb2⟩
  have HB2 := Go.Lib.hid (HB1.out.trans (hb2.mono HB1.out.size))
  have Hb2 := Go.Lib.hid (Hb.out.keep hb2)
  clear hb2
  go_wp2_with fail
  have HE := Go.Lib.hid (bad_error_any b sPolicy ⟨(Lib.decDigits 9).toArray⟩ 9 1 w2 (fun w1 _ => itoa_nine w1) (by decide +kernel) (by decide) (by decide) Hb2.out)
  rw [pol9] at HE
  refine HE.out.mono ?_
  rintro e w3 ⟨rfl, hb3⟩
  have HB3 := Go.Lib.hid (HB2.out.trans (hb3.mono HB2.out.size))
  have Hb3 := Go.Lib.hid (Hb2.out.keep hb3)
  clear hb3
  go_wp2_with fail
  refine (eIs_any 1 1 true (by decide) 1 _ w3 (Ch.one Hb3.out)).mono ?_
  rintro e w4 ⟨rfl, rfl⟩
  go_wp2_with fail
  refine (code_errno 1 1 _ w3 (Ch.one Hb3.out) (HG.out.keep HB3.out)).mono ?_
  rintro e w5 ⟨rfl, hb5⟩
  have HB5 := Go.Lib.hid (HB3.out.trans (hb5.mono HB3.out.size))
  clear hb5
  go_wp2_with fail
  refine (may_ok 1 1 w5 (by unfold okP; omega) (by unfold okC; omega)).mono ?_
  rintro e w6 ⟨rfl, rfl⟩
  go_wp2_with fail
  refine (code_nil w5).mono ?_
  rintro e w7 ⟨rfl, rfl⟩
  go_wp2_with fail
  go_ret
  exact ⟨rfl, HB5.out⟩
end Go.Proofs.YtddihnnodegkmaaDoor
