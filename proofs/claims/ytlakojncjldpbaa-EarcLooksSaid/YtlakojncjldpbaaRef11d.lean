/- The reference of the adaptive cache: Drop, Touch. -/
import Derived.Test.YtlakojncjldpbaaRef11c
namespace Go.Proofs.Ytlakojncjldpbaa
open Go.RowKit Hop
set_option linter.unusedVariables false
set_option linter.unusedSimpArgs false
set_option maxRecDepth 100000
set_option maxHeartbeats 12800000 in
theorem a11drop_any (s : AS) (k : Int) (v1 v2 v3 v4 : Value) (w : World) (hl : s.t.length < 50000 ∧ s.u.length < 50000 ∧ s.b.length < 50000 ∧ s.d.length < 50000) (h : AT w v1 v2 v3 v4 s) :
    Calls Try.prog 134 #[.agg #[.int .i64 s.c, .int .i64 s.p, v1, v2, v3, v4], .int .u64 k] w fun e w' => ∃ x1 x2 x3 x4, e = .returned (.agg #[.int .i64 s.c, .int .i64 s.p, x1, x2, x3, x4]) ∧ AT w' x1 x2 x3 x4 (dropA s k) ∧ Below w.heap.size w w' := by
  obtain ⟨hl1, hl2, hl3, hl4⟩ := hl
  obtain ⟨a1, p1, rfl⟩ := h.t.form
  obtain ⟨a2, p2, rfl⟩ := h.u.form
  obtain ⟨a3, p3, rfl⟩ := h.b.form
  obtain ⟨a4, p4, rfl⟩ := h.d.form
  obtain ⟨c, hcc⟩ : ∃ c, c = s.c := ⟨_, rfl⟩
  obtain ⟨q, hqq⟩ : ∃ q, q = s.p := ⟨_, rfl⟩
  rw [← hcc, ← hqq]
  have W1 := Go.Lib.hid (fun w h => without_any (.slice a1 s.t.length p1) s.t k w (by omega) h)
  have W2 := Go.Lib.hid (fun w h => without_any (.slice a2 s.u.length p2) s.u k w (by omega) h)
  have W3 := Go.Lib.hid (fun w h => without_any (.slice a3 s.b.length p3) s.b k w (by omega) h)
  have W4 := Go.Lib.hid (fun w h => without_any (.slice a4 s.d.length p4) s.d k w (by omega) h)
  have HDR : Hid (dropA s k = ⟨s.c, s.p, wo s.t k, wo s.u k, wo s.b k, wo s.d k⟩) := Go.Lib.hid rfl
  obtain ⟨W, hW, b0, b1, B0⟩ := two_blocks w [.int .i64 c, .int .i64 q, .slice a1 s.t.length p1, .slice a2 s.u.length p2, .slice a3 s.b.length p3, .slice a4 s.d.length p4] [.int .i64 0, .int .i64 0, .slice none 0 0, .slice none 0 0, .slice none 0 0, .slice none 0 0] 73
  obtain ⟨h1, h2, h3, h4⟩ := h
  have K1 := Go.Lib.hid (h1.keep B0)
  have K2 := Go.Lib.hid (h2.keep B0)
  have K3 := Go.Lib.hid (h3.keep B0)
  have K4 := Go.Lib.hid (h4.keep B0)
  have HB0 := Go.Lib.hid B0
  have HW := Go.Lib.hid hW
  have Hb0 := Go.Lib.hid b0
  have Hb1 := Go.Lib.hid b1
  generalize hi1 : wo s.t k = i1 at *
  generalize hi2 : wo s.u k = i2 at *
  generalize hi3 : wo s.b k = i3 at *
  generalize hi4 : wo s.d k = i4 at *
  generalize s.t.length = l1 at *
  generalize s.u.length = l2 at *
  generalize s.b.length = l3 at *
  generalize s.d.length = l4 at *
  clear hW B0 h1 h2 h3 h4 hi1 hi2 hi3 hi4 b0 b1 hcc hqq
  go_enter Try.func134, Try.ntmps134
  go_wp2_with fail
  rw [← HW.out]
  refine (W1.out W K1.out).mono ?_
  rintro e w2 ⟨v, rfl, hk2, ho2, hb2⟩
  obtain ⟨e1, r1, rfl⟩ := hk2.form
  generalize hl : i1.length = m1 at *
  have b0 := Hb0.out.keep hb2
  have b1 := Hb1.out.keep hb2
  have c0 := b0.cell 0
  have c1 := b0.cell 1
  have c2 := b0.cell 2
  have c3 := b0.cell 3
  have c4 := b0.cell 4
  have c5 := b0.cell 5
  simp only [List.getElem?_cons_zero, List.getElem?_cons_succ] at c0 c1 c2 c3 c4 c5
  have f := b0.frozen 2
  have q0 := b0.lt
  have q1 := b1.lt
  obtain ⟨U1, hU, u0, u1, uk, ub, us⟩ := st_set b0 b1 (by decide) 2 (.slice e1 m1 r1)
  have HU1 := Go.Lib.hid hU
  have Hu10 : Hid (Blk U1 w.heap.size [.int .i64 c, .int .i64 q, .slice e1 m1 r1, .slice a2 l2 p2, .slice a3 l3 p3, .slice a4 l4 p4] 73) := u0
  have Hu11 := Go.Lib.hid u1
  have J11 := Go.Lib.hid (uk _ _ hk2)
  have J12 := Go.Lib.hid (uk _ _ (K2.out.keep hb2))
  have J13 := Go.Lib.hid (uk _ _ (K3.out.keep hb2))
  have J14 := Go.Lib.hid (uk _ _ (K4.out.keep hb2))
  have HBU1 := Go.Lib.hid (ub _ _ (Nat.le_refl _) (HB0.out.trans (hb2.mono HB0.out.size)))
  clear b0 b1 hk2 ho2 hb2 hU u0 u1 uk ub us hl
  go_wp2_with fail
  rw [← HU1.out]
  refine (W2.out U1 J12.out).mono ?_
  clear c0 c1 c2 c3 c4 c5 f q0 q1
  rintro e w2 ⟨v, rfl, hk2, ho2, hb2⟩
  obtain ⟨e2, r2, rfl⟩ := hk2.form
  generalize hl : i2.length = m2 at *
  have b0 := Hu10.out.keep hb2
  have b1 := Hu11.out.keep hb2
  have c0 := b0.cell 0
  have c1 := b0.cell 1
  have c2 := b0.cell 2
  have c3 := b0.cell 3
  have c4 := b0.cell 4
  have c5 := b0.cell 5
  simp only [List.getElem?_cons_zero, List.getElem?_cons_succ] at c0 c1 c2 c3 c4 c5
  have f := b0.frozen 3
  have q0 := b0.lt
  have q1 := b1.lt
  obtain ⟨U2, hU, u0, u1, uk, ub, us⟩ := st_set b0 b1 (by decide) 3 (.slice e2 m2 r2)
  have HU2 := Go.Lib.hid hU
  have Hu20 : Hid (Blk U2 w.heap.size [.int .i64 c, .int .i64 q, .slice e1 m1 r1, .slice e2 m2 r2, .slice a3 l3 p3, .slice a4 l4 p4] 73) := u0
  have Hu21 := Go.Lib.hid u1
  have J21 := Go.Lib.hid (uk _ _ (J11.out.keep hb2))
  have J22 := Go.Lib.hid (uk _ _ hk2)
  have J23 := Go.Lib.hid (uk _ _ (J13.out.keep hb2))
  have J24 := Go.Lib.hid (uk _ _ (J14.out.keep hb2))
  have HBU2 := Go.Lib.hid (ub _ _ (Nat.le_refl _) (HBU1.out.trans (hb2.mono HBU1.out.size)))
  clear b0 b1 hk2 ho2 hb2 hU u0 u1 uk ub us hl
  go_wp2_with fail
  rw [← HU2.out]
  refine (W3.out U2 J23.out).mono ?_
  clear c0 c1 c2 c3 c4 c5 f q0 q1
  rintro e w2 ⟨v, rfl, hk2, ho2, hb2⟩
  obtain ⟨e3, r3, rfl⟩ := hk2.form
  generalize hl : i3.length = m3 at *
  have b0 := Hu20.out.keep hb2
  have b1 := Hu21.out.keep hb2
  have c0 := b0.cell 0
  have c1 := b0.cell 1
  have c2 := b0.cell 2
  have c3 := b0.cell 3
  have c4 := b0.cell 4
  have c5 := b0.cell 5
  simp only [List.getElem?_cons_zero, List.getElem?_cons_succ] at c0 c1 c2 c3 c4 c5
  have f := b0.frozen 4
  have q0 := b0.lt
  have q1 := b1.lt
  obtain ⟨U3, hU, u0, u1, uk, ub, us⟩ := st_set b0 b1 (by decide) 4 (.slice e3 m3 r3)
  have HU3 := Go.Lib.hid hU
  have Hu30 : Hid (Blk U3 w.heap.size [.int .i64 c, .int .i64 q, .slice e1 m1 r1, .slice e2 m2 r2, .slice e3 m3 r3, .slice a4 l4 p4] 73) := u0
  have Hu31 := Go.Lib.hid u1
  have J31 := Go.Lib.hid (uk _ _ (J21.out.keep hb2))
  have J32 := Go.Lib.hid (uk _ _ (J22.out.keep hb2))
  have J33 := Go.Lib.hid (uk _ _ hk2)
  have J34 := Go.Lib.hid (uk _ _ (J24.out.keep hb2))
  have HBU3 := Go.Lib.hid (ub _ _ (Nat.le_refl _) (HBU2.out.trans (hb2.mono HBU2.out.size)))
  clear b0 b1 hk2 ho2 hb2 hU u0 u1 uk ub us hl
  go_wp2_with fail
  rw [← HU3.out]
  refine (W4.out U3 J34.out).mono ?_
  clear c0 c1 c2 c3 c4 c5 f q0 q1
  rintro e w2 ⟨v, rfl, hk2, ho2, hb2⟩
  obtain ⟨e4, r4, rfl⟩ := hk2.form
  generalize hl : i4.length = m4 at *
  have b0 := Hu30.out.keep hb2
  have b1 := Hu31.out.keep hb2
  have c0 := b0.cell 0
  have c1 := b0.cell 1
  have c2 := b0.cell 2
  have c3 := b0.cell 3
  have c4 := b0.cell 4
  have c5 := b0.cell 5
  simp only [List.getElem?_cons_zero, List.getElem?_cons_succ] at c0 c1 c2 c3 c4 c5
  have d0 := b1.cell 0
  have d1 := b1.cell 1
  have d2 := b1.cell 2
  have d3 := b1.cell 3
  have d4 := b1.cell 4
  have d5 := b1.cell 5
  simp only [List.getElem?_cons_zero, List.getElem?_cons_succ] at d0 d1 d2 d3 d4 d5
  have f := b0.frozen 5
  have f0 := b1.frozen 0
  have f1 := b1.frozen 1
  have f2 := b1.frozen 2
  have f3 := b1.frozen 3
  have f4 := b1.frozen 4
  have f5 := b1.frozen 5
  have q0 := b0.lt
  have q1 := b1.lt
  have G1 := Go.Lib.hid (J31.out.keep hb2)
  have G2 := Go.Lib.hid (J32.out.keep hb2)
  have G3 := Go.Lib.hid (J33.out.keep hb2)
  have G4 := Go.Lib.hid hk2
  have Jb0 := Go.Lib.hid b0
  have Jb1 := Go.Lib.hid b1
  have HB3 := Go.Lib.hid (HBU3.out.trans (hb2.mono HBU3.out.size))
  clear b0 b1 hk2 ho2 hb2 hl
  go_wp2_with fail
  refine bodyPost_ret (v := .agg #[.int .i64 c, .int .i64 q, .slice e1 m1 r1, .slice e2 m2 r2, .slice e3 m3 r3, .slice e4 m4 r4]) (by simp [results, Try.results134, go_sem, c0, c1, c2, c3, c4, c5, d0, d1, d2, d3, d4, d5]) rfl ⟨_, _, _, _, rfl, ⟨?_, ?_, ?_, ?_⟩, ?_⟩
  · rw [HDR.out]; exact G1.out.two Jb0.out Jb1.out (by decide) (by decide) (by repeat' (first | refine Fr.setEq ?_ ?_ _ | exact Fr.refl _ _ | exact .inl rfl | exact .inr rfl))
  · rw [HDR.out]; exact G2.out.two Jb0.out Jb1.out (by decide) (by decide) (by repeat' (first | refine Fr.setEq ?_ ?_ _ | exact Fr.refl _ _ | exact .inl rfl | exact .inr rfl))
  · rw [HDR.out]; exact G3.out.two Jb0.out Jb1.out (by decide) (by decide) (by repeat' (first | refine Fr.setEq ?_ ?_ _ | exact Fr.refl _ _ | exact .inl rfl | exact .inr rfl))
  · rw [HDR.out]; exact G4.out.two Jb0.out Jb1.out (by decide) (by decide) (by repeat' (first | refine Fr.setEq ?_ ?_ _ | exact Fr.refl _ _ | exact .inl rfl | exact .inr rfl))
  · repeat' (first | refine below_set ?_ ?_ _ | exact HB3.out | omega)
set_option maxHeartbeats 12800000 in
theorem a11touch_any (s : AS) (k : Int) (v1 v2 v3 v4 : Value) (w : World) (hl : s.t.length < 50000 ∧ s.u.length < 50000 ∧ s.b.length < 50000 ∧ s.d.length < 50000) (h : AT w v1 v2 v3 v4 s) :
    Calls Try.prog 132 #[.agg #[.int .i64 s.c, .int .i64 s.p, v1, v2, v3, v4], .int .u64 k] w fun e w' => ∃ x1 x2 x3 x4, e = .returned (.agg #[.int .i64 s.c, .int .i64 s.p, x1, x2, x3, x4]) ∧ AT w' x1 x2 x3 x4 (touchA s k) ∧ Below w.heap.size w w' := by
  obtain ⟨hl1, hl2, hl3, hl4⟩ := hl
  obtain ⟨a1, p1, rfl⟩ := h.t.form
  obtain ⟨a2, p2, rfl⟩ := h.u.form
  obtain ⟨a3, p3, rfl⟩ := h.b.form
  obtain ⟨a4, p4, rfl⟩ := h.d.form
  obtain ⟨c, hcc⟩ : ∃ c, c = s.c := ⟨_, rfl⟩
  obtain ⟨q, hqq⟩ : ∃ q, q = s.p := ⟨_, rfl⟩
  rw [← hcc, ← hqq]
  have HTO : Hid (touchA s k = if k ∈ s.t ++ s.u then ⟨s.c, s.p, wo s.t k, k :: wo s.u k, s.b, s.d⟩ else s) := Go.Lib.hid rfl
  have HWO := Go.Lib.hid (fun w h => without_any (.slice a1 s.t.length p1) s.t k w (by omega) h)
  have HFR := Go.Lib.hid (fun w h => front_any (.slice a2 s.u.length p2) s.u k w hl2 h)
  have HHA := Go.Lib.hid (fun v w h => has_any v (s.t ++ s.u) k w h)
  obtain ⟨W, hW, b0, b1, B0⟩ := two_blocks w [.int .i64 c, .int .i64 q, .slice a1 s.t.length p1, .slice a2 s.u.length p2, .slice a3 s.b.length p3, .slice a4 s.d.length p4] [.int .i64 0, .int .i64 0, .slice none 0 0, .slice none 0 0, .slice none 0 0, .slice none 0 0] 73
  obtain ⟨h1, h2, h3, h4⟩ := h
  have k1 := h1.keep B0
  have k2 := h2.keep B0
  have K1 := Go.Lib.hid k1
  have K2 := Go.Lib.hid k2
  have K3 := Go.Lib.hid (h3.keep B0)
  have K4 := Go.Lib.hid (h4.keep B0)
  have HKY := Go.Lib.hid (a11keys_any c q (.slice a1 s.t.length p1) (.slice a2 s.u.length p2) (.slice a3 s.b.length p3) (.slice a4 s.d.length p4) s.t s.u W hl1 hl2 k1 k2)
  have HB0 := Go.Lib.hid B0
  have HW := Go.Lib.hid hW
  have Hb0 := Go.Lib.hid b0
  have Hb1 := Go.Lib.hid b1
  have c0 := b0.cell 0
  have c1 := b0.cell 1
  have c2 := b0.cell 2
  have c3 := b0.cell 3
  have c4 := b0.cell 4
  have c5 := b0.cell 5
  simp only [List.getElem?_cons_zero, List.getElem?_cons_succ] at c0 c1 c2 c3 c4 c5
  have q0 := b0.lt
  have q1 := b1.lt
  generalize s.t.length = l1 at *
  generalize s.u.length = l2 at *
  generalize s.b.length = l3 at *
  generalize s.d.length = l4 at *
  clear hW B0 h1 h2 h3 h4 k1 k2 b0 b1 hcc hqq
  go_enter Try.func132, Try.ntmps132
  go_wp2_with fail
  rw [← HW.out]
  refine HKY.out.mono ?_
  rintro e w1 ⟨v', rfl, hk1, hb1⟩
  have HHV := Go.Lib.hid (HHA.out v' w1 hk1)
  have b0 := Hb0.out.keep hb1
  have b1 := Hb1.out.keep hb1
  have HB1 := Go.Lib.hid (HB0.out.trans (hb1.mono HB0.out.size))
  have J1 := Go.Lib.hid (K1.out.keep hb1)
  have J2 := Go.Lib.hid (K2.out.keep hb1)
  have J3 := Go.Lib.hid (K3.out.keep hb1)
  have J4 := Go.Lib.hid (K4.out.keep hb1)
  have Ib0 := Go.Lib.hid b0
  have Ib1 := Go.Lib.hid b1
  clear c0 c1 c2 c3 c4 c5 q0 q1
  have c0 := b0.cell 0
  have c1 := b0.cell 1
  have c2 := b0.cell 2
  have c3 := b0.cell 3
  have c4 := b0.cell 4
  have c5 := b0.cell 5
  simp only [List.getElem?_cons_zero, List.getElem?_cons_succ] at c0 c1 c2 c3 c4 c5
  have q0 := b0.lt
  have q1 := b1.lt
  by_cases hk : k ∈ s.t ++ s.u
  · rw [decide_eq_true hk] at HHV
    rw [if_pos hk] at HTO
    have HW1 := Go.Lib.hid (HWO.out w1 J1.out)
    clear hk b0 b1 hk1 hb1
    go_wp2_with fail
    refine HHV.out.mono ?_
    rintro e w2 ⟨rfl, rfl⟩
    go_wp2_with fail
    refine HW1.out.mono ?_
    rintro e w2 ⟨v, rfl, hk2, ho2, hb2⟩
    obtain ⟨e1, r1, rfl⟩ := hk2.form
    generalize hl : (wo s.t k).length = m1 at *
    have b0 := Ib0.out.keep hb2
    have b1 := Ib1.out.keep hb2
    clear c0 c1 c2 c3 c4 c5 q0 q1
    have c0 := b0.cell 0
    have c1 := b0.cell 1
    have c2 := b0.cell 2
    have c3 := b0.cell 3
    have c4 := b0.cell 4
    have c5 := b0.cell 5
    simp only [List.getElem?_cons_zero, List.getElem?_cons_succ] at c0 c1 c2 c3 c4 c5
    have f := b0.frozen 2
    have q0 := b0.lt
    have q1 := b1.lt
    obtain ⟨U, hU, u0, u1, uk, ub, us⟩ := st_set b0 b1 (by decide) 2 (.slice e1 m1 r1)
    have HU := Go.Lib.hid hU
    have Hu0 : Hid (Blk U w.heap.size [.int .i64 c, .int .i64 q, .slice e1 m1 r1, .slice a2 l2 p2, .slice a3 l3 p3, .slice a4 l4 p4] 73) := u0
    have Hu1 := Go.Lib.hid u1
    have I1 := Go.Lib.hid (uk _ _ hk2)
    have I2 := Go.Lib.hid (uk _ _ (J2.out.keep hb2))
    have I3 := Go.Lib.hid (uk _ _ (J3.out.keep hb2))
    have I4 := Go.Lib.hid (uk _ _ (J4.out.keep hb2))
    have HBU := Go.Lib.hid (ub _ _ (Nat.le_refl _) (HB1.out.trans (hb2.mono HB1.out.size)))
    have HF1 := Go.Lib.hid (HFR.out U I2.out)
    clear b0 b1 hk2 ho2 hb2 hU u0 u1 uk ub us hl
    go_wp2_with fail
    rw [← HU.out]
    refine HF1.out.mono ?_
    clear c0 c1 c2 c3 c4 c5 f q0 q1
    rintro e w2 ⟨v, rfl, hk2, ho2, hb2⟩
    obtain ⟨e2, r2, rfl⟩ := hk2.form
    generalize hl : (k :: wo s.u k).length = m2 at *
    have b0 := Hu0.out.keep hb2
    have b1 := Hu1.out.keep hb2
    have c0 := b0.cell 0
    have c1 := b0.cell 1
    have c2 := b0.cell 2
    have c3 := b0.cell 3
    have c4 := b0.cell 4
    have c5 := b0.cell 5
    simp only [List.getElem?_cons_zero, List.getElem?_cons_succ] at c0 c1 c2 c3 c4 c5
    have d0 := b1.cell 0
    have d1 := b1.cell 1
    have d2 := b1.cell 2
    have d3 := b1.cell 3
    have d4 := b1.cell 4
    have d5 := b1.cell 5
    simp only [List.getElem?_cons_zero, List.getElem?_cons_succ] at d0 d1 d2 d3 d4 d5
    have f := b0.frozen 3
    have f0 := b1.frozen 0
    have f1 := b1.frozen 1
    have f2 := b1.frozen 2
    have f3 := b1.frozen 3
    have f4 := b1.frozen 4
    have f5 := b1.frozen 5
    have q0 := b0.lt
    have q1 := b1.lt
    have G1 := Go.Lib.hid (I1.out.keep hb2)
    have G2 := Go.Lib.hid hk2
    have G3 := Go.Lib.hid (I3.out.keep hb2)
    have G4 := Go.Lib.hid (I4.out.keep hb2)
    have Jb0 := Go.Lib.hid b0
    have Jb1 := Go.Lib.hid b1
    have HB3 := Go.Lib.hid (HBU.out.trans (hb2.mono HBU.out.size))
    clear b0 b1 hk2 ho2 hb2 hl
    go_wp2_with fail
    refine bodyPost_ret (v := .agg #[.int .i64 c, .int .i64 q, .slice e1 m1 r1, .slice e2 m2 r2, .slice a3 l3 p3, .slice a4 l4 p4]) (by simp [results, Try.results132, go_sem, c0, c1, c2, c3, c4, c5, d0, d1, d2, d3, d4, d5]) rfl ⟨_, _, _, _, rfl, ⟨?_, ?_, ?_, ?_⟩, ?_⟩
    · rw [HTO.out]; exact G1.out.two Jb0.out Jb1.out (by decide) (by decide) (by repeat' (first | refine Fr.setEq ?_ ?_ _ | exact Fr.refl _ _ | exact .inl rfl | exact .inr rfl))
    · rw [HTO.out]; exact G2.out.two Jb0.out Jb1.out (by decide) (by decide) (by repeat' (first | refine Fr.setEq ?_ ?_ _ | exact Fr.refl _ _ | exact .inl rfl | exact .inr rfl))
    · rw [HTO.out]; exact G3.out.two Jb0.out Jb1.out (by decide) (by decide) (by repeat' (first | refine Fr.setEq ?_ ?_ _ | exact Fr.refl _ _ | exact .inl rfl | exact .inr rfl))
    · rw [HTO.out]; exact G4.out.two Jb0.out Jb1.out (by decide) (by decide) (by repeat' (first | refine Fr.setEq ?_ ?_ _ | exact Fr.refl _ _ | exact .inl rfl | exact .inr rfl))
    · repeat' (first | refine below_set ?_ ?_ _ | exact HB3.out | omega)
  · rw [decide_eq_false hk] at HHV
    rw [if_neg hk] at HTO
    have d0 := b1.cell 0
    have d1 := b1.cell 1
    have d2 := b1.cell 2
    have d3 := b1.cell 3
    have d4 := b1.cell 4
    have d5 := b1.cell 5
    simp only [List.getElem?_cons_zero, List.getElem?_cons_succ] at d0 d1 d2 d3 d4 d5
    have f0 := b1.frozen 0
    have f1 := b1.frozen 1
    have f2 := b1.frozen 2
    have f3 := b1.frozen 3
    have f4 := b1.frozen 4
    have f5 := b1.frozen 5
    clear hk b0 b1 hk1 hb1
    go_wp2_with fail
    refine HHV.out.mono ?_
    rintro e w2 ⟨rfl, rfl⟩
    go_wp2_with fail
    refine bodyPost_ret (v := .agg #[.int .i64 c, .int .i64 q, .slice a1 l1 p1, .slice a2 l2 p2, .slice a3 l3 p3, .slice a4 l4 p4]) (by simp [results, Try.results132, go_sem, c0, c1, c2, c3, c4, c5, d0, d1, d2, d3, d4, d5]) rfl ⟨_, _, _, _, rfl, ⟨?_, ?_, ?_, ?_⟩, ?_⟩
    · rw [HTO.out]; exact J1.out.two Ib0.out Ib1.out (by decide) (by decide) (by repeat' (first | refine Fr.setEq ?_ ?_ _ | exact Fr.refl _ _ | exact .inl rfl | exact .inr rfl))
    · rw [HTO.out]; exact J2.out.two Ib0.out Ib1.out (by decide) (by decide) (by repeat' (first | refine Fr.setEq ?_ ?_ _ | exact Fr.refl _ _ | exact .inl rfl | exact .inr rfl))
    · rw [HTO.out]; exact J3.out.two Ib0.out Ib1.out (by decide) (by decide) (by repeat' (first | refine Fr.setEq ?_ ?_ _ | exact Fr.refl _ _ | exact .inl rfl | exact .inr rfl))
    · rw [HTO.out]; exact J4.out.two Ib0.out Ib1.out (by decide) (by decide) (by repeat' (first | refine Fr.setEq ?_ ?_ _ | exact Fr.refl _ _ | exact .inl rfl | exact .inr rfl))
    · repeat' (first | refine below_set ?_ ?_ _ | exact HB1.out | omega)
end Go.Proofs.Ytlakojncjldpbaa
