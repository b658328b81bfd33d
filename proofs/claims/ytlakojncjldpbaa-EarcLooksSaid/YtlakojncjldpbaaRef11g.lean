/- The reference of the adaptive cache: Admit. -/
import Derived.Test.YtlakojncjldpbaaRef11f
namespace Go.Proofs.Ytlakojncjldpbaa
open Go.RowKit Hop
set_option linter.unusedVariables false
set_option linter.unusedSimpArgs false
set_option maxRecDepth 100000
theorem freshA_cp (s : AS) : (freshA s).1.c = s.c ∧ (freshA s).1.p = s.p := by
  unfold freshA
  split
  · split
    · exact replA_cp _ _
    · exact ⟨rfl, rfl⟩
  · split
    · exact ⟨rfl, rfl⟩
    · split
      · exact replA_cp _ _
      · exact replA_cp _ _
set_option maxHeartbeats 12800000 in
theorem a11admit_any (s : AS) (k : Int) (v1 v2 v3 v4 : Value) (w : World) (hs : s.ok) (h : AT w v1 v2 v3 v4 s) :
    Calls Try.prog 133 #[.agg #[.int .i64 s.c, .int .i64 s.p, v1, v2, v3, v4], .int .u64 k] w fun e w' => ∃ x1 x2 x3 x4 vo, e = .returned (.tuple #[.agg #[.int .i64 (admitA s k).1.c, .int .i64 (admitA s k).1.p, x1, x2, x3, x4], vo]) ∧ AT w' x1 x2 x3 x4 (admitA s k).1 ∧ KL w' vo (admitA s k).2 ∧ Below w.heap.size w w' := by
  have hs0 := hs
  obtain ⟨s1, s2, s3, s4, s5, s6⟩ := hs
  obtain ⟨fl1, fl2, fl3, fl4⟩ := freshA_len s hs0
  obtain ⟨fc, fp⟩ := freshA_cp s
  obtain ⟨a1, p1, rfl⟩ := h.t.form
  obtain ⟨a2, p2, rfl⟩ := h.u.form
  obtain ⟨a3, p3, rfl⟩ := h.b.form
  obtain ⟨a4, p4, rfl⟩ := h.d.form
  have HT : Hid (admitA s k = if k ∈ s.t ++ s.u then (s, []) else if k ∈ s.b then knownA s k false else if k ∈ s.d then knownA s k true else (⟨(freshA s).1.c, (freshA s).1.p, k :: wo (freshA s).1.t k, (freshA s).1.u, (freshA s).1.b, (freshA s).1.d⟩, (freshA s).2)) := Go.Lib.hid rfl
  have HHA := Go.Lib.hid (fun v w h => has_any v (s.t ++ s.u) k w h)
  have HHB := Go.Lib.hid (fun w h => has_any (.slice a3 s.b.length p3) s.b k w h)
  have HHD := Go.Lib.hid (fun w h => has_any (.slice a4 s.d.length p4) s.d k w h)
  have HKF := Go.Lib.hid (fun w hk h => a11known_any s k false _ _ _ _ w ⟨s1, by omega⟩ ⟨s3, s4⟩ hk ⟨by omega, by omega, by omega, by omega⟩ (h : AT w (.slice a1 s.t.length p1) (.slice a2 s.u.length p2) (.slice a3 s.b.length p3) (.slice a4 s.d.length p4) s))
  have HKT := Go.Lib.hid (fun w hk h => a11known_any s k true _ _ _ _ w ⟨s1, by omega⟩ ⟨s3, s4⟩ hk ⟨by omega, by omega, by omega, by omega⟩ (h : AT w (.slice a1 s.t.length p1) (.slice a2 s.u.length p2) (.slice a3 s.b.length p3) (.slice a4 s.d.length p4) s))
  have HFR := Go.Lib.hid (fun w h => a11fresh_any s _ _ _ _ w ⟨s1, by omega⟩ ⟨by omega, by omega, by omega, by omega⟩ (h : AT w (.slice a1 s.t.length p1) (.slice a2 s.u.length p2) (.slice a3 s.b.length p3) (.slice a4 s.d.length p4) s))
  have HRT : Hid ((freshA s).1.t.length < 50000) := Go.Lib.hid (by omega)
  obtain ⟨c, hcc⟩ : ∃ c, c = s.c := ⟨_, rfl⟩
  obtain ⟨q, hqq⟩ : ∃ q, q = s.p := ⟨_, rfl⟩
  rw [← hcc] at fc HKF HKT HFR ⊢
  rw [← hqq] at fp HKF HKT HFR ⊢
  obtain ⟨W, hW, b0, b1, B0⟩ := two_blocks w [.int .i64 c, .int .i64 q, .slice a1 s.t.length p1, .slice a2 s.u.length p2, .slice a3 s.b.length p3, .slice a4 s.d.length p4] [.int .i64 0, .int .i64 0, .slice none 0 0, .slice none 0 0, .slice none 0 0, .slice none 0 0] 73
  have hat := h.keep B0
  have HKY := Go.Lib.hid (a11keys_any c q (.slice a1 s.t.length p1) (.slice a2 s.u.length p2) (.slice a3 s.b.length p3) (.slice a4 s.d.length p4) s.t s.u W (by omega) (by omega) hat.t hat.u)
  have HAT := Go.Lib.hid hat
  have HFC := Go.Lib.hid fc
  have HFP := Go.Lib.hid fp
  have HCC := Go.Lib.hid hcc
  have HQQ := Go.Lib.hid hqq
  have HB0 := Go.Lib.hid B0
  have HW := Go.Lib.hid hW
  have Hb0 := Go.Lib.hid b0
  have Hb1 := Go.Lib.hid b1
  have c0 := b0.cell 0
  have c1 := b0.cell 1
  have c2 := b0.cell 2
  have c3 := b0.cell 3
  have c4 := b0.cell 4
  have c5 := b0.cell 5
  simp only [List.getElem?_cons_zero, List.getElem?_cons_succ] at c0 c1 c2 c3 c4 c5
  have q0 := b0.lt
  have q1 := b1.lt
  generalize s.t.length = l1 at *
  generalize s.u.length = l2 at *
  generalize s.b.length = l3 at *
  generalize s.d.length = l4 at *
  clear hW B0 h hat b0 b1 hcc hqq fc fp fl1 fl2 fl3 fl4 s1 s2 s3 s4 s5 s6 hs0
  go_enter Try.func133, Try.ntmps133
  go_wp2_with fail
  rw [← HW.out]
  refine HKY.out.mono ?_
  rintro e w1 ⟨v', rfl, hk1, hb1⟩
  have HHV := Go.Lib.hid (HHA.out v' w1 hk1)
  have b0 := Hb0.out.keep hb1
  have b1 := Hb1.out.keep hb1
  have HB1 := Go.Lib.hid (HB0.out.trans (hb1.mono HB0.out.size))
  have JA := Go.Lib.hid (HAT.out.keep hb1)
  have Ib0 := Go.Lib.hid b0
  have Ib1 := Go.Lib.hid b1
  clear c0 c1 c2 c3 c4 c5 q0 q1
  have c0 := b0.cell 0
  have c1 := b0.cell 1
  have c2 := b0.cell 2
  have c3 := b0.cell 3
  have c4 := b0.cell 4
  have c5 := b0.cell 5
  simp only [List.getElem?_cons_zero, List.getElem?_cons_succ] at c0 c1 c2 c3 c4 c5
  have q0 := b0.lt
  have q1 := b1.lt
  by_cases hk : k ∈ s.t ++ s.u
  · rw [decide_eq_true hk] at HHV
    rw [if_pos hk] at HT
    have d0 := b1.cell 0
    have d1 := b1.cell 1
    have d2 := b1.cell 2
    have d3 := b1.cell 3
    have d4 := b1.cell 4
    have d5 := b1.cell 5
    simp only [List.getElem?_cons_zero, List.getElem?_cons_succ] at d0 d1 d2 d3 d4 d5
    have f0 := b1.frozen 0
    have f1 := b1.frozen 1
    have f2 := b1.frozen 2
    have f3 := b1.frozen 3
    have f4 := b1.frozen 4
    have f5 := b1.frozen 5
    clear hk b0 b1 hk1 hb1
    go_wp2_with fail
    refine HHV.out.mono ?_
    rintro e w2 ⟨rfl, rfl⟩
    go_wp2_with fail
    refine bodyPost_ret (v := .tuple #[.agg #[.int .i64 c, .int .i64 q, .slice a1 l1 p1, .slice a2 l2 p2, .slice a3 l3 p3, .slice a4 l4 p4], .slice none 0 0]) (by simp [results, Try.results133, go_sem, c0, c1, c2, c3, c4, c5, d0, d1, d2, d3, d4, d5]) rfl ⟨_, _, _, _, _, by rw [HT.out, HCC.out, HQQ.out], by rw [HT.out]; exact JA.out.two Ib0.out Ib1.out (by decide) (by decide) (by repeat' (first | refine Fr.setEq ?_ ?_ _ | exact Fr.refl _ _ | exact .inl rfl | exact .inr rfl)), by rw [HT.out]; exact KL.nil _, ?_⟩
    repeat' (first | refine below_set ?_ ?_ _ | exact HB1.out | omega)
  rw [decide_eq_false hk] at HHV
  rw [if_neg hk] at HT
  have HH3 := Go.Lib.hid (HHB.out w1 JA.out.b)
  clear hk b0 b1 hk1 hb1
  go_wp2_with fail
  refine HHV.out.mono ?_
  rintro e w2 ⟨rfl, rfl⟩
  go_wp2_with fail
  refine HH3.out.mono ?_
  by_cases hkb : k ∈ s.b
  · rw [decide_eq_true hkb]
    rw [if_pos hkb] at HT
    have HK := Go.Lib.hid (HKF.out w1 (by simpa using hkb) JA.out)
    clear hkb HKF HKT HFR HHA HHB HHD HKY
    generalize knownA s k false = R at *
    rintro e w2 ⟨rfl, rfl⟩
    go_wp2_with fail
    refine HK.out.mono ?_
    clear c0 c1 c2 c3 c4 c5 q0 q1
    rintro e w3 ⟨x1, x2, x3, x4, vo, rfl, hat, hvo, hb3⟩
    obtain ⟨b1', r1, rfl⟩ := hat.t.form
    obtain ⟨b2', r2, rfl⟩ := hat.u.form
    obtain ⟨b3', r3, rfl⟩ := hat.b.form
    obtain ⟨b4', r4, rfl⟩ := hat.d.form
    obtain ⟨bo', ro, rfl⟩ := hvo.form
    have b1 := Ib1.out.keep hb3
    have d0 := b1.cell 0
    have d1 := b1.cell 1
    have d2 := b1.cell 2
    have d3 := b1.cell 3
    have d4 := b1.cell 4
    have d5 := b1.cell 5
    simp only [List.getElem?_cons_zero, List.getElem?_cons_succ] at d0 d1 d2 d3 d4 d5
    have f0 := b1.frozen 0
    have f1 := b1.frozen 1
    have f2 := b1.frozen 2
    have f3 := b1.frozen 3
    have f4 := b1.frozen 4
    have f5 := b1.frozen 5
    have lx := b1.lt
    have JA := Go.Lib.hid hat
    have JV := Go.Lib.hid hvo
    have Jb := Go.Lib.hid b1
    have HB3 := Go.Lib.hid (HB1.out.trans (hb3.mono HB1.out.size))
    generalize R.1.t.length = y1 at *
    generalize R.1.u.length = y2 at *
    generalize R.1.b.length = y3 at *
    generalize R.1.d.length = y4 at *
    generalize R.2.length = y5 at *
    clear hat hvo hb3 b1
    go_wp2_with fail
    refine bodyPost_ret (v := .tuple #[.agg #[.int .i64 R.1.c, .int .i64 R.1.p, .slice b1' y1 r1, .slice b2' y2 r2, .slice b3' y3 r3, .slice b4' y4 r4], .slice bo' y5 ro]) (by simp [results, Try.results133, go_sem, d0, d1, d2, d3, d4, d5]) rfl ⟨_, _, _, _, _, by rw [HT.out], by rw [HT.out]; exact JA.out.two Jb.out Jb.out (by decide) (by decide) (by repeat' (first | refine Fr.setEq ?_ ?_ _ | exact Fr.refl _ _ | exact .inl rfl | exact .inr rfl)), by rw [HT.out]; exact JV.out.two Jb.out Jb.out (by decide) (by decide) (by repeat' (first | refine Fr.setEq ?_ ?_ _ | exact Fr.refl _ _ | exact .inl rfl | exact .inr rfl)), ?_⟩
    repeat' (first | refine below_set ?_ ?_ _ | exact HB3.out | omega)
  rw [decide_eq_false hkb]
  rw [if_neg hkb] at HT
  have HH4 := Go.Lib.hid (HHD.out w1 JA.out.d)
  clear hkb
  rintro e w2 ⟨rfl, rfl⟩
  go_wp2_with fail
  refine HH4.out.mono ?_
  by_cases hkd : k ∈ s.d
  · rw [decide_eq_true hkd]
    rw [if_pos hkd] at HT
    have HK := Go.Lib.hid (HKT.out w1 (by simpa using hkd) JA.out)
    clear hkd HKF HKT HFR HHA HHB HHD HKY
    generalize knownA s k true = R at *
    rintro e w2 ⟨rfl, rfl⟩
    go_wp2_with fail
    refine HK.out.mono ?_
    clear c0 c1 c2 c3 c4 c5 q0 q1
    rintro e w3 ⟨x1, x2, x3, x4, vo, rfl, hat, hvo, hb3⟩
    obtain ⟨b1', r1, rfl⟩ := hat.t.form
    obtain ⟨b2', r2, rfl⟩ := hat.u.form
    obtain ⟨b3', r3, rfl⟩ := hat.b.form
    obtain ⟨b4', r4, rfl⟩ := hat.d.form
    obtain ⟨bo', ro, rfl⟩ := hvo.form
    have b1 := Ib1.out.keep hb3
    have d0 := b1.cell 0
    have d1 := b1.cell 1
    have d2 := b1.cell 2
    have d3 := b1.cell 3
    have d4 := b1.cell 4
    have d5 := b1.cell 5
    simp only [List.getElem?_cons_zero, List.getElem?_cons_succ] at d0 d1 d2 d3 d4 d5
    have f0 := b1.frozen 0
    have f1 := b1.frozen 1
    have f2 := b1.frozen 2
    have f3 := b1.frozen 3
    have f4 := b1.frozen 4
    have f5 := b1.frozen 5
    have lx := b1.lt
    have JA := Go.Lib.hid hat
    have JV := Go.Lib.hid hvo
    have Jb := Go.Lib.hid b1
    have HB3 := Go.Lib.hid (HB1.out.trans (hb3.mono HB1.out.size))
    generalize R.1.t.length = y1 at *
    generalize R.1.u.length = y2 at *
    generalize R.1.b.length = y3 at *
    generalize R.1.d.length = y4 at *
    generalize R.2.length = y5 at *
    clear hat hvo hb3 b1
    go_wp2_with fail
    refine bodyPost_ret (v := .tuple #[.agg #[.int .i64 R.1.c, .int .i64 R.1.p, .slice b1' y1 r1, .slice b2' y2 r2, .slice b3' y3 r3, .slice b4' y4 r4], .slice bo' y5 ro]) (by simp [results, Try.results133, go_sem, d0, d1, d2, d3, d4, d5]) rfl ⟨_, _, _, _, _, by rw [HT.out], by rw [HT.out]; exact JA.out.two Jb.out Jb.out (by decide) (by decide) (by repeat' (first | refine Fr.setEq ?_ ?_ _ | exact Fr.refl _ _ | exact .inl rfl | exact .inr rfl)), by rw [HT.out]; exact JV.out.two Jb.out Jb.out (by decide) (by decide) (by repeat' (first | refine Fr.setEq ?_ ?_ _ | exact Fr.refl _ _ | exact .inl rfl | exact .inr rfl)), ?_⟩
    repeat' (first | refine below_set ?_ ?_ _ | exact HB3.out | omega)
  rw [decide_eq_false hkd]
  rw [if_neg hkd] at HT
  have HK := Go.Lib.hid (HFR.out w1 JA.out)
  clear hkd HKF HKT HFR HHA HHB HHD HKY
  generalize freshA s = R at *
  rintro e w2 ⟨rfl, rfl⟩
  go_wp2_with fail
  refine HK.out.mono ?_
  clear c0 c1 c2 c3 c4 c5 q0 q1
  rintro e w3 ⟨x1, x2, x3, x4, vo, rfl, hat, hvo, hb3⟩
  obtain ⟨b1', r1', rfl⟩ := hat.t.form
  obtain ⟨b2', r2', rfl⟩ := hat.u.form
  obtain ⟨b3', r3', rfl⟩ := hat.b.form
  obtain ⟨b4', r4', rfl⟩ := hat.d.form
  obtain ⟨bo', ro', rfl⟩ := hvo.form
  have b1 := Ib1.out.keep hb3
  have lb1 := b1.lt
  have n12 : ¬ (w.heap.size + 1 = w3.heap.size) := by omega
  have n21 : ¬ (w3.heap.size = w.heap.size + 1) := by omega
  have AL := (Below.refl w3.heap.size w3).alloc (Nat.le_refl _) (.cells #[.int .i64 c, .int .i64 q, .slice b1' R.1.t.length r1', .slice b2' R.1.u.length r2', .slice b3' R.1.b.length r3', .slice b4' R.1.d.length r4'] 73)
  have Hb2 : Hid (Blk (w3.alloc (.cells #[.int .i64 c, .int .i64 q, .slice b1' R.1.t.length r1', .slice b2' R.1.u.length r2', .slice b3' R.1.b.length r3', .slice b4' R.1.d.length r4'] 73)) w3.heap.size [.int .i64 c, .int .i64 q, .slice b1' R.1.t.length r1', .slice b2' R.1.u.length r2', .slice b3' R.1.b.length r3', .slice b4' R.1.d.length r4'] 73) := Go.Lib.hid (Blk.new0 w3 [.int .i64 c, .int .i64 q, .slice b1' R.1.t.length r1', .slice b2' R.1.u.length r2', .slice b3' R.1.b.length r3', .slice b4' R.1.d.length r4'] 73)
  have Hb12 := Go.Lib.hid (b1.keep AL)
  have HAT3 := Go.Lib.hid (hat.keep AL)
  have HRO := Go.Lib.hid (hvo.keep AL)
  have HFT := Go.Lib.hid (front_any _ R.1.t k _ HRT.out HAT3.out.t)
  have B3 := HB1.out.trans (hb3.mono HB1.out.size)
  have HB4 := Go.Lib.hid (B3.trans (AL.mono B3.size))
  have sz3 := B3.size
  clear AL B3 b1 hb3 hat hvo
  generalize hg1 : R.1.t.length = y1 at *
  generalize hg2 : R.1.u.length = y2 at *
  generalize hg3 : R.1.b.length = y3 at *
  generalize hg4 : R.1.d.length = y4 at *
  generalize hg5 : R.2.length = y5 at *
  clear hg1 hg2 hg3 hg4 hg5
  go_wp2_with fail
  refine HFT.out.mono ?_
  rintro e w4 ⟨v5, rfl, hk5, ho5, hb5⟩
  obtain ⟨b5', r5', rfl⟩ := hk5.form
  generalize hl7 : (k :: wo R.1.t k).length = y7 at *
  have b2 := Hb2.out.keep hb5
  have b1 := Hb12.out.keep hb5
  have g0 := b2.cell 0
  have g1 := b2.cell 1
  have g2 := b2.cell 2
  have g3 := b2.cell 3
  have g4 := b2.cell 4
  have g5 := b2.cell 5
  simp only [List.getElem?_cons_zero, List.getElem?_cons_succ] at g0 g1 g2 g3 g4 g5
  have f := b2.frozen 2
  have d0 := b1.cell 0
  have d1 := b1.cell 1
  have d2 := b1.cell 2
  have d3 := b1.cell 3
  have d4 := b1.cell 4
  have d5 := b1.cell 5
  simp only [List.getElem?_cons_zero, List.getElem?_cons_succ] at d0 d1 d2 d3 d4 d5
  have f0 := b1.frozen 0
  have f1 := b1.frozen 1
  have f2 := b1.frozen 2
  have f3 := b1.frozen 3
  have f4 := b1.frozen 4
  have f5 := b1.frozen 5
  have l2' := b2.lt
  have l3' := b1.lt
  have JA' := Go.Lib.hid (HAT3.out.keep hb5)
  have J5 := Go.Lib.hid hk5
  have JO := Go.Lib.hid (HRO.out.keep hb5)
  have Jb2 := Go.Lib.hid b2
  have Jb1 := Go.Lib.hid b1
  have HB5 := Go.Lib.hid (HB4.out.trans (hb5.mono HB4.out.size))
  clear b2 b1 hk5 ho5 hb5 hl7
  go_wp2_with fail
  refine bodyPost_ret (v := .tuple #[.agg #[.int .i64 c, .int .i64 q, .slice b5' y7 r5', .slice b2' y2 r2', .slice b3' y3 r3', .slice b4' y4 r4'], .slice bo' y5 ro']) (by simp [results, Try.results133, go_sem, g0, g1, g2, g3, g4, g5, d0, d1, d2, d3, d4, d5, n12, n21]) rfl ⟨_, _, _, _, _, by rw [HT.out, HFC.out, HFP.out], ?_, ?_, ?_⟩
  · rw [HT.out]; exact ⟨J5.out.two Jb2.out Jb1.out (by decide) (by decide) (by repeat' (first | refine Fr.setEq ?_ ?_ _ | exact Fr.refl _ _ | exact .inl rfl | exact .inr rfl)), JA'.out.u.two Jb2.out Jb1.out (by decide) (by decide) (by repeat' (first | refine Fr.setEq ?_ ?_ _ | exact Fr.refl _ _ | exact .inl rfl | exact .inr rfl)), JA'.out.b.two Jb2.out Jb1.out (by decide) (by decide) (by repeat' (first | refine Fr.setEq ?_ ?_ _ | exact Fr.refl _ _ | exact .inl rfl | exact .inr rfl)), JA'.out.d.two Jb2.out Jb1.out (by decide) (by decide) (by repeat' (first | refine Fr.setEq ?_ ?_ _ | exact Fr.refl _ _ | exact .inl rfl | exact .inr rfl))⟩
  · rw [HT.out]; exact JO.out.two Jb2.out Jb1.out (by decide) (by decide) (by repeat' (first | refine Fr.setEq ?_ ?_ _ | exact Fr.refl _ _ | exact .inl rfl | exact .inr rfl))
  · repeat' (first | refine below_set ?_ ?_ _ | exact HB5.out | omega)
end Go.Proofs.Ytlakojncjldpbaa
