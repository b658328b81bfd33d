/- The statements ConfigIs, ConfigField, ConfigNobody: the walks. -/
import Derived.Test.YtddihnnodegkmaaDoorCf6
namespace Go.Proofs.YtddihnnodegkmaaDoor
open Go.RowKit Go.Extern.Stop Go.Stop Go.Extern Hop
set_option linter.unusedVariables false
set_option linter.unusedSimpArgs false
set_option maxRecDepth 100000
theorem mayF_ok {p c : Int} (hp : okP p) (hc : okC c) : mayF p c = 0 := by unfold mayF; unfold okP at hp; unfold okC at hc; rw [if_neg (by omega), if_neg (by omega)]
theorem mayF_pol {p c : Int} (hp : ¬ okP p) : mayF p c = 1 := by unfold mayF; unfold okP at hp; rw [if_pos (by omega)]
theorem mayF_cap {p c : Int} (hp : okP p) (hc : ¬ okC c) : mayF p c = 2 := by unfold mayF; unfold okP at hp; unfold okC at hc; rw [if_neg (by omega), if_pos (by omega)]
set_option maxHeartbeats 3200000 in
/-- ConfigIs, where there is a cache. -/
theorem cis_ok (p c n : Int) (w : World) (hn0 : 0 ≤ n) (hn1 : n < 256) (hp : okP p) (hc : okC c) (hg : Ety w) :
    Calls Tryd.prog 4 #[.int .i64 p, .int .i64 c, .int .u8 n] w fun e w' => e = .returned (.bool true) ∧ Below w.heap.size w w' := by
  have HA := Go.Lib.hid (cawake_any w hg)
  have HM := Go.Lib.hid (fun w => may_ok p c w hp hc)
  have HR := Go.Lib.hid (fun w => refmay_any p c w)
  rw [mayF_ok hp hc] at HR
  clear hp hc hg
  go_enter Tryd.func4, Tryd.ntmps4
  go_wp2_with fail
  refine HA.out.mono ?_
  rintro e w1 ⟨rfl, hb1⟩
  have HB1 := Go.Lib.hid hb1
  clear hb1
  go_wp2_with fail
  refine (HM.out _).mono ?_
  rintro e w2 ⟨rfl, rfl⟩
  go_wp2_with fail
  refine (wrap_any .nilIface .nilIface 0 n w1 hn0 hn1 rfl (.inl rfl)).mono ?_
  rintro e w2 ⟨v', rfl, hC, hb2⟩
  have HB2 := Go.Lib.hid (HB1.out.trans (hb2.mono HB1.out.size))
  have hE := hC.er (.inl rfl)
  clear hC hb2
  rcases hE with rfl | ⟨T, x, rfl⟩
  · go_wp2_with fail
    refine (HR.out _).mono ?_
    rintro e w2 ⟨rfl, rfl⟩
    go_wp2_with fail
    go_ret
    exact ⟨rfl, HB2.out⟩
  · go_wp2_with fail
    refine (HR.out _).mono ?_
    rintro e w2 ⟨rfl, rfl⟩
    go_wp2_with fail
    go_ret
    exact ⟨rfl, HB2.out⟩
set_option maxHeartbeats 3200000 in
/-- ConfigIs, where there is none. -/
theorem cis_bad (p c n : Int) (w : World) (hn0 : 0 ≤ n) (hn1 : n < 256) (hg : Ety w)
    (HM : Hid (∀ w, Calls Tryd.prog 12 #[.int .i64 p, .int .i64 c] w fun e w' => ∃ (b : Nat) (f : ByteArray) (m : Int), e = .returned (.iface 38 (.pointer (some ⟨b, 0, none⟩))) ∧ Blk w' b [.string f, .int .i64 m, .iface 32 (.int .i64 1)] 40 ∧ Below w.heap.size w w')) :
    Calls Tryd.prog 4 #[.int .i64 p, .int .i64 c, .int .u8 n] w fun e w' => e = .returned (.bool true) ∧ Below w.heap.size w w' := by
  have HA := Go.Lib.hid (cawake_any w hg)
  have HG := Go.Lib.hid hg
  clear hg
  go_enter Tryd.func4, Tryd.ntmps4
  go_wp2_with fail
  refine HA.out.mono ?_
  rintro e w1 ⟨rfl, hb1⟩
  have HB1 := Go.Lib.hid hb1
  clear hb1
  go_wp2_with fail
  refine (HM.out _).mono ?_
  rintro e w2 ⟨b, f, m, rfl, hb, hb2⟩
  have HB2 := Go.Lib.hid (HB1.out.trans (hb2.mono HB1.out.size))
  have HC := Go.Lib.hid (Ch.one hb)
  clear hb hb2
  go_wp2_with fail
  refine (wrap_any _ _ 1 n w2 hn0 hn1 HC.out (.inr ⟨_, _, rfl⟩)).mono ?_
  rintro e w3 ⟨v', rfl, hC, hb3⟩
  have HB3 := Go.Lib.hid (HB2.out.trans (hb3.mono HB2.out.size))
  obtain ⟨T, x, rfl⟩ := hC.head
  have HC3 := Go.Lib.hid hC
  clear hC hb3
  generalize (n % 20).toNat + 1 = k at *
  go_wp2_with fail
  refine (eIs_any 1 1 true (by decide) k _ w3 HC3.out).mono ?_
  rintro e w4 ⟨rfl, rfl⟩
  go_wp2_with fail
  refine (eIs_any 1 2 false (by decide) k _ w3 HC3.out).mono ?_
  rintro e w4 ⟨rfl, rfl⟩
  go_wp2_with fail
  refine (code_errno 1 k _ w3 HC3.out (HG.out.keep HB3.out)).mono ?_
  rintro e w5 ⟨rfl, hb5⟩
  have HB5 := Go.Lib.hid (HB3.out.trans (hb5.mono HB3.out.size))
  clear hb5
  go_wp2_with fail
  go_ret
  exact ⟨rfl, HB5.out⟩
theorem cis_any (p c n : Int) (w : World) (hn0 : 0 ≤ n) (hn1 : n < 256) (hg : Ety w) :
    Calls Tryd.prog 4 #[.int .i64 p, .int .i64 c, .int .u8 n] w fun e w' => e = .returned (.bool true) ∧ Below w.heap.size w w' := by
  by_cases hp : okP p
  · by_cases hc : okC c
    · exact cis_ok p c n w hn0 hn1 hp hc hg
    · exact cis_bad p c n w hn0 hn1 hg (Go.Lib.hid (fun w => (may_cap p c w hp hc).mono (fun e w' ⟨b, h⟩ => ⟨b, _, _, h⟩)))
  · exact cis_bad p c n w hn0 hn1 hg (Go.Lib.hid (fun w => (may_pol p c w hp).mono (fun e w' ⟨b, h⟩ => ⟨b, _, _, h⟩)))
set_option maxHeartbeats 3200000 in
theorem cfield_ok (p c : Int) (w : World) (hp : okP p) (hc : okC c) (hg : Ety w) :
    Calls Tryd.prog 5 #[.int .i64 p, .int .i64 c] w fun e w' => e = .returned (.bool true) ∧ Below w.heap.size w w' := by
  have HA := Go.Lib.hid (cawake_any w hg)
  have HM := Go.Lib.hid (fun w => may_ok p c w hp hc)
  have HR := Go.Lib.hid (fun w => refmay_any p c w)
  rw [mayF_ok hp hc] at HR
  clear hp hc hg
  go_enter Tryd.func5, Tryd.ntmps5
  go_wp2_with fail
  refine HA.out.mono ?_
  rintro e w1 ⟨rfl, hb1⟩
  have HB1 := Go.Lib.hid hb1
  clear hb1
  go_wp2_with fail
  refine (HM.out _).mono ?_
  rintro e w2 ⟨rfl, rfl⟩
  go_wp2_with fail
  refine (field_nil w1).mono ?_
  rintro e w2 ⟨rfl, hb2⟩
  have HB2 := Go.Lib.hid (HB1.out.trans (hb2.mono HB1.out.size))
  clear hb2
  go_wp2_with fail
  refine (HR.out _).mono ?_
  rintro e w3 ⟨rfl, rfl⟩
  go_wp2_with fail
  go_ret
  exact ⟨rfl, HB2.out⟩
set_option maxHeartbeats 3200000 in
theorem cfield_pol (p c : Int) (w : World) (hp : ¬ okP p) (hg : Ety w) :
    Calls Tryd.prog 5 #[.int .i64 p, .int .i64 c] w fun e w' => e = .returned (.bool true) ∧ Below w.heap.size w w' := by
  have HA := Go.Lib.hid (cawake_any w hg)
  have HM := Go.Lib.hid (fun w => may_pol p c w hp)
  have HR := Go.Lib.hid (fun w => refmay_any p c w)
  have HG := Go.Lib.hid hg
  have hs := sPolicy_list
  rw [mayF_pol hp] at HR
  clear hp hg
  go_enter Tryd.func5, Tryd.ntmps5
  go_wp2_with fail
  refine HA.out.mono ?_
  rintro e w1 ⟨rfl, hb1⟩
  have HB1 := Go.Lib.hid hb1
  clear hb1
  go_wp2_with fail
  refine (HM.out _).mono ?_
  rintro e w2 ⟨b, rfl, hb, hb2⟩
  have HB2 := Go.Lib.hid (HB1.out.trans (hb2.mono HB1.out.size))
  have Hb := Go.Lib.hid hb
  clear hb hb2
  go_wp2_with fail
  refine (field_bad b _ _ _ w2 Hb.out (HG.out.keep HB2.out)).mono ?_
  rintro e w3 ⟨rfl, hb3⟩
  have HB3 := Go.Lib.hid (HB2.out.trans (hb3.mono HB2.out.size))
  clear hb3
  go_wp2_with fail
  refine (HR.out _).mono ?_
  rintro e w4 ⟨rfl, rfl⟩
  go_wp2_with fail
  go_ret
  exact ⟨rfl, HB3.out⟩
set_option maxHeartbeats 3200000 in
theorem cfield_cap (p c : Int) (w : World) (hp : okP p) (hc : ¬ okC c) (hg : Ety w) :
    Calls Tryd.prog 5 #[.int .i64 p, .int .i64 c] w fun e w' => e = .returned (.bool true) ∧ Below w.heap.size w w' := by
  have HA := Go.Lib.hid (cawake_any w hg)
  have HM := Go.Lib.hid (fun w => may_cap p c w hp hc)
  have HR := Go.Lib.hid (fun w => refmay_any p c w)
  have HG := Go.Lib.hid hg
  have hs := sCapacity_list
  rw [mayF_cap hp hc] at HR
  clear hp hc hg
  go_enter Tryd.func5, Tryd.ntmps5
  go_wp2_with fail
  refine HA.out.mono ?_
  rintro e w1 ⟨rfl, hb1⟩
  have HB1 := Go.Lib.hid hb1
  clear hb1
  go_wp2_with fail
  refine (HM.out _).mono ?_
  rintro e w2 ⟨b, rfl, hb, hb2⟩
  have HB2 := Go.Lib.hid (HB1.out.trans (hb2.mono HB1.out.size))
  have Hb := Go.Lib.hid hb
  clear hb hb2
  go_wp2_with fail
  refine (field_bad b _ _ _ w2 Hb.out (HG.out.keep HB2.out)).mono ?_
  rintro e w3 ⟨rfl, hb3⟩
  have HB3 := Go.Lib.hid (HB2.out.trans (hb3.mono HB2.out.size))
  clear hb3
  go_wp2_with fail
  refine (HR.out _).mono ?_
  rintro e w4 ⟨rfl, rfl⟩
  go_wp2_with fail
  go_ret
  exact ⟨rfl, HB3.out⟩
theorem cfield_any (p c : Int) (w : World) (hg : Ety w) :
    Calls Tryd.prog 5 #[.int .i64 p, .int .i64 c] w fun e w' => e = .returned (.bool true) ∧ Below w.heap.size w w' := by
  by_cases hp : okP p
  · by_cases hc : okC c
    · exact cfield_ok p c w hp hc hg
    · exact cfield_cap p c w hp hc hg
  · exact cfield_pol p c w hp hg
set_option maxHeartbeats 800000 in
theorem wrap_zero (v : Value) (w : World) : Calls Tryd.prog 15 #[v, .int .u8 0] w fun e w' => e = .returned v ∧ w = w' := by
  go_enter Tryd.func15, Tryd.ntmps15
  go_wp2_with fail
  refine wp_loop_rounds 1 ?_
  rw [rounds_succ]
  go_wp2_with fail
  go_ret
  exact ⟨rfl, rfl⟩
set_option maxHeartbeats 3200000 in
theorem cnobody_any (n : Int) (w : World) (hn0 : 0 ≤ n) (hn1 : n < 256) (hg : Ety w) :
    Calls Tryd.prog 7 #[.int .u8 n] w fun e w' => e = .returned (.bool true) ∧ Below w.heap.size w w' := by
  have HA := Go.Lib.hid (cawake_any w hg)
  have HG := Go.Lib.hid hg
  clear hg
  go_enter Tryd.func7, Tryd.ntmps7
  go_wp2_with fail
  refine HA.out.mono ?_
  rintro e w1 ⟨rfl, hb1⟩
  have HB1 := Go.Lib.hid hb1
  clear hb1
  go_wp2_with fail
  refine (field_nil w1).mono ?_
  rintro e w2 ⟨rfl, hb2⟩
  have HB2 := Go.Lib.hid (HB1.out.trans (hb2.mono HB1.out.size))
  clear hb2
  go_wp2_with fail
  refine (bad_error_nil w2).mono ?_
  rintro e w3 ⟨rfl, rfl⟩
  go_wp2_with fail
  refine (bad_unwrap_nil w2).mono ?_
  rintro e w3 ⟨rfl, rfl⟩
  go_wp2_with fail
  refine (wrap_zero _ w2).mono ?_
  rintro e w3 ⟨rfl, rfl⟩
  go_wp2_with fail
  refine (wrap_any _ (.iface 32 (.int .i64 2)) 0 n w2 hn0 hn1 rfl (.inr ⟨_, _, rfl⟩)).mono ?_
  rintro e w3 ⟨v', rfl, hC, hb3⟩
  have HB3 := Go.Lib.hid (HB2.out.trans (hb3.mono HB2.out.size))
  have HC3 := Go.Lib.hid hC
  obtain ⟨T, x, rfl⟩ := hC.head
  clear hC hb3
  go_wp2_with fail
  refine (code_errno 2 _ _ w3 HC3.out (HG.out.keep HB3.out)).mono ?_
  rintro e w5 ⟨rfl, hb5⟩
  have HB5 := Go.Lib.hid (HB3.out.trans (hb5.mono HB3.out.size))
  clear hb5
  go_wp2_with fail
  go_ret
  exact ⟨rfl, HB5.out⟩
end Go.Proofs.YtddihnnodegkmaaDoor
