/- ElirsRooms: the walk. -/
import Derived.Test.YtlakojncjldpbaaLcE
namespace Go.Proofs.Ytlakojncjldpbaa
open Go.RowKit Hop
set_option linter.unusedVariables false
set_option linter.unusedSimpArgs false
set_option maxRecDepth 100000
set_option maxHeartbeats 400000 in
theorem lgrown_any (c d : Int) (w : World) : Calls Try.prog 82 #[.int .i64 c, .int .i64 d] w fun e w' => e = .returned (.int .i64 (if c < d then d else c)) ∧ w = w' := by
  by_cases h : c < d
  · rw [if_pos h]
    go_enter Try.func82, Try.ntmps82
    go_wp2_with fail
    go_ret
    exact ⟨rfl, rfl⟩
  · rw [if_neg h]
    go_enter Try.func82, Try.ntmps82
    go_wp2_with fail
    go_ret
    exact ⟨rfl, rfl⟩
set_option maxHeartbeats 400000 in
theorem lmost_any (c : Int) (w : World) (h0 : 0 ≤ c) (h1 : c < 1000000) : Calls Try.prog 85 #[.int .i64 c] w fun e w' => e = .returned (.int .i64 (12 * c + 32)) ∧ w = w' := by
  go_enter Try.func85, Try.ntmps85
  go_wp2_with fail
  go_ret
  exact ⟨rfl, rfl⟩
set_option maxHeartbeats 6400000 in
theorem lrooms_law (c : Int) (v : Value) (A : List Ac) (w : World) (hc0 : 0 ≤ c) (hc1 : c < 256) (h : AL w v A) :
    Calls Try.prog 15 #[.int .u8 c, v] w fun e w' => e = .returned (.bool true) ∧ Below w.heap.size w w' := by
  have f0 := liS_c
  have HAL := Go.Lib.hid h
  obtain ⟨a, cap, rfl, hm, hok, hcell⟩ := h
  have HOK := Go.Lib.hid hok
  clear hok hcell
  have hcm : 0 ≤ c % 12 ∧ c % 12 < 12 := by omega
  obtain ⟨hcm0, hcm1⟩ := hcm
  have HC : Hid (capF (1 + c % 12) = 1 + c % 12) := Go.Lib.hid (capF_id (by omega))
  unfold maxLen at hm
  by_cases hlen : A.length ≤ 60
  · go_enter Try.func15, Try.ntmps15
    go_wp2_with fail
    refine (lawake_any _).mono ?_
    rintro e w1 ⟨rfl, hb1⟩
    have HB1 := Go.Lib.hid hb1
    clear hb1
    go_wp2_with fail
    refine (lnew_ca _ _).mono ?_
    rintro e w2 ⟨px, O2, rfl, hE2, ho2, hb2⟩
    rw [HC.out] at hE2
    have HE2 := Go.Lib.hid hE2
    have HCH : Hid (Chg (fun _ => False) O2 w w2) := Go.Lib.hid ⟨Fr.of_below (HB1.out.trans (hb2.mono HB1.out.size)), fun k hk => .inr (by have := ho2 k hk; have := HB1.out.size; omega)⟩
    clear hE2 ho2 hb2
    have hsok : LS.ok ⟨1 + c % 12, [], []⟩ := new_ok (by omega) (by omega)
    have HSOK := Go.Lib.hid hsok
    clear hsok
    go_wp2_with fail
    go_loopw [7, 8] (fun m i wr => ∃ (j : Nat) (s : LS) (O : Nat → Prop) (p1 p2 : Nat) (q : Int), j ≤ A.length ∧ i = .int .i64 j ∧ m = .int .i64 q ∧ s.ok ∧ s.c ≤ q ∧ ((p1 : Int) ≤ 2 * q + 1 ∧ (p2 : Int) ≤ q) ∧ q ≤ 14 ∧ Lca wr px O s p1 p2 ∧ Chg (fun _ => False) O w wr) (fun _ i _ => A.length - (intOf i).toNat)
    case atStart => exact ⟨0, ⟨1 + c % 12, [], []⟩, O2, 0, 0, 1 + c % 12, by omega, rfl, rfl, HSOK.out, Int.le_refl _, by omega, by omega, HE2.out, HCH.out⟩
    case round =>
      obtain ⟨j, s, O, p1, p2, q, hj, rfl, rfl, hs, hcq, hpq, hq, hE, hch⟩ := hrel
      by_cases hlt : j < A.length
      · obtain ⟨x, hx⟩ : ∃ x, A[j]? = some x := ⟨A[j], List.getElem?_eq_getElem hlt⟩
        have hxo : x.ok := HOK.out x (List.mem_of_getElem? hx)
        have hW := hch.fr.below
        obtain ⟨a', cap', e1, _, _, hcl⟩ := HAL.out.keep hW
        injection e1 with e2 e3 e4
        subst e2; subst e4
        obtain ⟨ad, rfl, g1, g2, g3, g4⟩ := hcl j x hx
        have hso : (doL s x).1.ok := doL_ok hs hxo
        have HSO := Go.Lib.hid hso
        have HCH := Go.Lib.hid hch
        have HDO := Go.Lib.hid (ldo_any px s x wr hxo hs (by omega) hE)
        have gab : (ad.add (j * 3)).block < wr.heap.size := by rw [add_block]; exact g1
        have hp2 : (max (p1 : Int) (2 * s.c + 1)) ≤ 2 * q + 1 ∧ (max (p2 : Int) s.c) ≤ q := by omega
        clear hx hxo hW hcl hE hch e3 hs hso
        generalize (doL s x).1 = s' at *
        generalize (doL s x).2 = os at *
        go_wp2_with fail
        refine HDO.out.mono ?_
        rintro e w4 ⟨vo, O', p1', p2', rfl, hko, hE', hC', hp'⟩
        have HE := Go.Lib.hid hE'
        have HC4 := Go.Lib.hid (HCH.out.trans hC')
        have h14 := HSO.out.hi
        have h01 := HSO.out.lo
        clear hko hE' hC' g2 g3 g4 g1 gab
        go_wp2_with fail
        refine (lstate_ca w4 HE.out).mono ?_
        rintro e w5 ⟨v5, v5', rfl, hk5, hk5', hb5⟩
        have HB5 := Go.Lib.hid hb5
        clear hk5 hk5' hb5
        go_wp2_with fail
        refine (lgrown_any q s'.c w5).mono ?_
        rintro e u5 ⟨rfl, rfl⟩
        generalize hq' : (if q < s'.c then s'.c else q) = q' at *
        have hq1 : s'.c ≤ q' ∧ ((p1' : Int) ≤ 2 * q' + 1 ∧ (p2' : Int) ≤ q') ∧ q' ≤ 14 ∧ 0 ≤ q' := by
          rw [← hq']
          split <;> omega
        obtain ⟨q1, q2, q3, q4⟩ := hq1
        clear hq' hp'
        go_wp2_with fail
        refine (lrooms_ca w5 (HE.out.keep HB5.out)).mono ?_
        rintro e w6 ⟨ra, rb, rfl, hb6, r1, r2, r3, r4⟩
        have HB6 := Go.Lib.hid (HB5.out.trans (hb6.mono HB5.out.size))
        clear hb6
        go_wp2_with fail
        refine (lmost_any q' w6 q4 (by omega)).mono ?_
        rintro e u6 ⟨rfl, rfl⟩
        have t1 : ¬ (12 * q' + 32 < (ra : Int)) := by omega
        have t2 : ¬ (12 * q' + 32 < (rb : Int)) := by omega
        obtain ⟨L, hL⟩ : ∃ L, L = (allL s').length := ⟨_, rfl⟩
        have hL2 : L ≤ s'.s.length + s'.q.length := by
          rw [hL]
          unfold allL
          have z1 := hots_len s'.s
          have z2 := many_le s'.s 2
          rw [List.length_append]
          omega
        have t3 : ¬ ((ra : Int) < L) := by omega
        have t4 : ¬ ((rb : Int) < L) := by omega
        have HL := Go.Lib.hid hL
        clear hL hL2 r1 r2
        go_wp2_with fail
        refine (lmost_any q' w6 q4 (by omega)).mono ?_
        rintro e u6 ⟨rfl, rfl⟩
        go_wp2_with fail
        refine (lkeys_ca w6 (HE.out.keep HB6.out)).mono ?_
        rintro e w7 ⟨v7, rfl, hk7, hb7⟩
        obtain ⟨a7, cap7, rfl⟩ := hk7.form
        rw [← HL.out]
        have HB7 := Go.Lib.hid (HB6.out.trans (hb7.mono HB6.out.size))
        clear hb7 hk7
        go_wp2_with fail
        refine (lkeys_ca w7 (HE.out.keep HB7.out)).mono ?_
        rintro e w8 ⟨v8, rfl, hk8, hb8⟩
        obtain ⟨a8, cap8, rfl⟩ := hk8.form
        rw [← HL.out]
        have HB8 := Go.Lib.hid (HB7.out.trans (hb8.mono HB7.out.size))
        clear hb8 hk8
        have HE8 := Go.Lib.hid (HE.out.keep HB8.out)
        have HC8 := Go.Lib.hid (HC4.out.below HB8.out)
        go_wp2_with fail
        go_roundw
        case rel => exact ⟨j + 1, s', O', p1', p2', q', by omega, by go_num, rfl, HSO.out, q1, q2, q3, HE8.out, HC8.out⟩
        case measure => simp [intOf]; omega
      · have e : j = A.length := by omega
        subst e
        have HF := Go.Lib.hid hch.fr.below
        clear hE hch hs
        go_wp2_with fail
        go_ret
        exact ⟨rfl, HF.out⟩
  · have hlb : (60 : Int) < A.length := by omega
    go_enter Try.func15, Try.ntmps15
    go_wp2_with fail
    refine (lawake_any _).mono ?_
    rintro e w1 ⟨rfl, hb1⟩
    have HB1 := Go.Lib.hid hb1
    clear hb1
    go_wp2_with fail
    go_ret
    exact ⟨rfl, HB1.out⟩
end Go.Proofs.Ytlakojncjldpbaa
