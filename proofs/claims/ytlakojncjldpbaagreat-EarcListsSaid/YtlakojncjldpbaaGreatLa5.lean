/- The lists' adaptive replacement: Touch, Drop. -/
import Derived.Test.YtlakojncjldpbaaGreatLa4d
namespace Go.Proofs.YtlakojncjldpbaaGreat
open Go.RowKit Hop
set_option linter.unusedVariables false
set_option linter.unusedSimpArgs false
set_option maxRecDepth 100000
set_option maxHeartbeats 6400000 in
theorem artouch_any (c p : Int) (v1 v2 v3 v4 : Value) (t u b d : List Int) (k : Int) (w : World) (ht : t.length < 10000) (hu : u.length < 10000) (hd : b.length < 10000) (he : d.length < 10000) (h1 : KL w v1 t) (h2 : KL w v2 u) (h3 : KL w v3 b) (h4 : KL w v4 d) :
    Calls Tryz.prog 26 #[arV c p v1 v2 v3 v4, .int .u64 k] w fun e w' => ∃ u1 u2 u3 u4, e = .returned (arV c p u1 u2 u3 u4) ∧ KL w' u1 (touchA ⟨c, p, t, u, b, d⟩ k).t ∧ KL w' u2 (touchA ⟨c, p, t, u, b, d⟩ k).u ∧ KL w' u3 (touchA ⟨c, p, t, u, b, d⟩ k).b ∧ KL w' u4 (touchA ⟨c, p, t, u, b, d⟩ k).d ∧ Below w.heap.size w w' := by
  obtain ⟨a1, q1, rfl⟩ := h1.form
  obtain ⟨a2, q2, rfl⟩ := h2.form
  obtain ⟨a3, q3, rfl⟩ := h3.form
  obtain ⟨a4, q4, rfl⟩ := h4.form
  generalize hn1 : t.length = n1 at *
  generalize hn2 : u.length = n2 at *
  generalize hn3 : b.length = n3 at *
  generalize hn4 : d.length = n4 at *
  by_cases hk : k ∈ t ++ u
  · rw [show touchA ⟨c, p, t, u, b, d⟩ k = ⟨c, p, wo t k, k :: wo u k, b, d⟩ from if_pos hk]
    obtain ⟨W, hW⟩ : ∃ W, W = (w.alloc (.cells #[.int .i64 c, .int .i64 p, .slice a1 n1 q1, .slice a2 n2 q2, .slice a3 n3 q3, .slice a4 n4 q4] 55)).alloc (.cells #[.int .i64 0, .int .i64 0, .slice none 0 0, .slice none 0 0, .slice none 0 0, .slice none 0 0] 55) := ⟨_, rfl⟩
    have T0 : ArS w W c p (.slice a1 n1 q1) (.slice a2 n2 q2) (.slice a3 n3 q3) (.slice a4 n4 q4) t u b d := by rw [hW]; exact ArS.start h1 h2 h3 h4
    have HT0 := Go.Lib.hid T0
    have HW := Go.Lib.hid hW
    have HCP := Go.Lib.hid (arcopied_any c p _ _ _ _ t u b d W (by omega) (by omega) (by omega) (by omega) T0.k1 T0.k2 T0.k3 T0.k4)
    obtain ⟨c0, c1, c2, c3, c4, c5⟩ := T0.cells
    have lc := T0.b0.lt
    clear hW T0 h1 h2 h3 h4
    go_enter Tryz.func26, Tryz.ntmps26
    go_wp2_with fail
    rw [← HW.out]
    refine HCP.out.mono ?_
    rintro e w1 ⟨a5, n5, q5, a6, n6, q6, a7, n7, q7, a8, n8, q8, rfl, hk5, hk6, hk7, hk8, hb1⟩
    have T1 := HT0.out.keep hb1
    obtain ⟨V, hV⟩ : ∃ V, V = set6 w1 w.heap.size c p (.slice a5 n5 q5) (.slice a6 n6 q6) (.slice a7 n7 q7) (.slice a8 n8 q8) := ⟨_, rfl⟩
    have T2 := T1.put6 c p hk5 hk6 hk7 hk8
    rw [← hV] at T2
    obtain ⟨e0, e1, e2, e3, e4, e5⟩ := T1.cells
    have le := T1.b0.lt
    have f0 := T1.b0.frozen 0
    have f1 := T1.b0.frozen 1
    have f2 := T1.b0.frozen 2
    have f3 := T1.b0.frozen 3
    have f4 := T1.b0.frozen 4
    have f5 := T1.b0.frozen 5
    have HT2 := Go.Lib.hid T2
    unfold set6 at hV
    have HV := Go.Lib.hid hV
    clear hV T1 hk5 hk6 hk7 hk8 hb1 c0 c1 c2 c3 c4 c5 lc HCP HT0
    have HH := Go.Lib.hid (arhas_any c p a5 a6 a7 a8 n5 n6 n7 n8 q5 q6 q7 q8 t u k V T2.k1 T2.k2)
    rw [decide_eq_true hk] at HH
    clear hk
    clear T2
    go_wp2_with fail
    rw [← HV.out]
    refine HH.out.mono ?_
    rintro e w2 ⟨rfl, hb2⟩
    clear e0 e1 e2 e3 e4 e5 le f0 f1 f2 f3 f4 f5
    have T3 := HT2.out.keep hb2
    have HT3 := Go.Lib.hid T3
    have HWO := Go.Lib.hid (wo_a _ t k w2 (by omega) T3.k1)
    obtain ⟨g0, g1, g2, g3, g4, g5⟩ := T3.cells
    have lg := T3.b0.lt
    clear T3 hb2
    go_wp2_with fail
    refine HWO.out.mono ?_
    rintro e w3 ⟨a9, n9, q9, rfl, hk9, ho9, hb3⟩
    have T4 := HT3.out.keep hb3
    obtain ⟨V4, hV4⟩ : ∃ V4, V4 = w3.setCell ⟨w.heap.size, 2, none⟩ (.slice a9 n9 q9) := ⟨_, rfl⟩
    have T5 := T4.put2 hk9
    rw [← hV4] at T5
    have HV4 := Go.Lib.hid hV4
    have HT5 := Go.Lib.hid T5
    have HFR := Go.Lib.hid (front_a _ u k V4 (by omega) T5.k2)
    clear g0 g1 g2 g3 g4 g5 lg
    obtain ⟨g0, g1, g2, g3, g4, g5⟩ := T4.cells
    have lg := T4.b0.lt
    have f0 := T4.b0.frozen 2
    clear hV4 T4 T5 hk9 ho9 hb3 HWO
    go_wp2_with fail
    rw [← HV4.out]
    refine HFR.out.mono ?_
    rintro e w5 ⟨a10, n10, q10, rfl, hk10, ho10, hb5⟩
    have T6 := HT5.out.keep hb5
    obtain ⟨V6, hV6⟩ : ∃ V6, V6 = w5.setCell ⟨w.heap.size, 3, none⟩ (.slice a10 n10 q10) := ⟨_, rfl⟩
    have T7 := T6.put3 hk10
    rw [← hV6] at T7
    have TO := T7.give
    obtain ⟨R, hR⟩ : ∃ R, R = set6 V6 (w.heap.size + 1) c p (.slice a9 n9 q9) (.slice a10 n10 q10) (.slice a7 n7 q7) (.slice a8 n8 q8) := ⟨_, rfl⟩
    rw [← hR] at TO
    unfold set6 at hR
    rw [hV6] at hR
    have HR := Go.Lib.hid hR
    have HTO := Go.Lib.hid TO
    clear g0 g1 g2 g3 g4 g5 lg f0
    obtain ⟨g0, g1, g2, g3, g4, g5⟩ := T6.cells
    have lg := T6.b0.lt
    have f0 := T6.b0.frozen 3
    obtain ⟨z0, z1, z2, z3, z4, z5⟩ := T6.zeros
    have zf0 := T6.b1.frozen 0
    have zf1 := T6.b1.frozen 1
    have zf2 := T6.b1.frozen 2
    have zf3 := T6.b1.frozen 3
    have zf4 := T6.b1.frozen 4
    have zf5 := T6.b1.frozen 5
    have lz := T6.b1.lt
    obtain ⟨d0, d1, d2, d3, d4, d5⟩ := TO.cells
    have ld := TO.b1.lt
    clear hR TO T6 T7 hV6 hk10 ho10 hb5 HFR
    go_wp2_with fail
    rw [← HR.out]
    refine bodyPost_ret (v := .agg #[.int .i64 c, .int .i64 p, .slice a9 n9 q9, .slice a10 n10 q10, .slice a7 n7 q7, .slice a8 n8 q8]) (by simp [results, Tryz.results26, go_sem, d0, d1, d2, d3, d4, d5]) rfl ⟨_, _, _, _, rfl, HTO.out.k1, HTO.out.k2, HTO.out.k3, HTO.out.k4, HTO.out.hb⟩
  · rw [show touchA ⟨c, p, t, u, b, d⟩ k = ⟨c, p, t, u, b, d⟩ from if_neg hk]
    obtain ⟨W, hW⟩ : ∃ W, W = (w.alloc (.cells #[.int .i64 c, .int .i64 p, .slice a1 n1 q1, .slice a2 n2 q2, .slice a3 n3 q3, .slice a4 n4 q4] 55)).alloc (.cells #[.int .i64 0, .int .i64 0, .slice none 0 0, .slice none 0 0, .slice none 0 0, .slice none 0 0] 55) := ⟨_, rfl⟩
    have T0 : ArS w W c p (.slice a1 n1 q1) (.slice a2 n2 q2) (.slice a3 n3 q3) (.slice a4 n4 q4) t u b d := by rw [hW]; exact ArS.start h1 h2 h3 h4
    have HT0 := Go.Lib.hid T0
    have HW := Go.Lib.hid hW
    have HCP := Go.Lib.hid (arcopied_any c p _ _ _ _ t u b d W (by omega) (by omega) (by omega) (by omega) T0.k1 T0.k2 T0.k3 T0.k4)
    obtain ⟨c0, c1, c2, c3, c4, c5⟩ := T0.cells
    have lc := T0.b0.lt
    clear hW T0 h1 h2 h3 h4
    go_enter Tryz.func26, Tryz.ntmps26
    go_wp2_with fail
    rw [← HW.out]
    refine HCP.out.mono ?_
    rintro e w1 ⟨a5, n5, q5, a6, n6, q6, a7, n7, q7, a8, n8, q8, rfl, hk5, hk6, hk7, hk8, hb1⟩
    have T1 := HT0.out.keep hb1
    obtain ⟨V, hV⟩ : ∃ V, V = set6 w1 w.heap.size c p (.slice a5 n5 q5) (.slice a6 n6 q6) (.slice a7 n7 q7) (.slice a8 n8 q8) := ⟨_, rfl⟩
    have T2 := T1.put6 c p hk5 hk6 hk7 hk8
    rw [← hV] at T2
    obtain ⟨e0, e1, e2, e3, e4, e5⟩ := T1.cells
    have le := T1.b0.lt
    have f0 := T1.b0.frozen 0
    have f1 := T1.b0.frozen 1
    have f2 := T1.b0.frozen 2
    have f3 := T1.b0.frozen 3
    have f4 := T1.b0.frozen 4
    have f5 := T1.b0.frozen 5
    have HT2 := Go.Lib.hid T2
    unfold set6 at hV
    have HV := Go.Lib.hid hV
    clear hV T1 hk5 hk6 hk7 hk8 hb1 c0 c1 c2 c3 c4 c5 lc HCP HT0
    have HH := Go.Lib.hid (arhas_any c p a5 a6 a7 a8 n5 n6 n7 n8 q5 q6 q7 q8 t u k V T2.k1 T2.k2)
    rw [decide_eq_false hk] at HH
    clear hk
    clear T2
    go_wp2_with fail
    rw [← HV.out]
    refine HH.out.mono ?_
    rintro e w2 ⟨rfl, hb2⟩
    clear e0 e1 e2 e3 e4 e5 le f0 f1 f2 f3 f4 f5
    have T3 := HT2.out.keep hb2
    clear hb2
    have TO := T3.give
    obtain ⟨R, hR⟩ : ∃ R, R = set6 w2 (w.heap.size + 1) c p (.slice a5 n5 q5) (.slice a6 n6 q6) (.slice a7 n7 q7) (.slice a8 n8 q8) := ⟨_, rfl⟩
    rw [← hR] at TO
    unfold set6 at hR
    have HR := Go.Lib.hid hR
    have HTO := Go.Lib.hid TO
    obtain ⟨g0, g1, g2, g3, g4, g5⟩ := T3.cells
    have lg := T3.b0.lt
    obtain ⟨z0, z1, z2, z3, z4, z5⟩ := T3.zeros
    have zf0 := T3.b1.frozen 0
    have zf1 := T3.b1.frozen 1
    have zf2 := T3.b1.frozen 2
    have zf3 := T3.b1.frozen 3
    have zf4 := T3.b1.frozen 4
    have zf5 := T3.b1.frozen 5
    have lz := T3.b1.lt
    obtain ⟨d0, d1, d2, d3, d4, d5⟩ := TO.cells
    have ld := TO.b1.lt
    clear hR TO T3
    go_wp2_with fail
    rw [← HR.out]
    refine bodyPost_ret (v := .agg #[.int .i64 c, .int .i64 p, .slice a5 n5 q5, .slice a6 n6 q6, .slice a7 n7 q7, .slice a8 n8 q8]) (by simp [results, Tryz.results26, go_sem, d0, d1, d2, d3, d4, d5]) rfl ⟨_, _, _, _, rfl, HTO.out.k1, HTO.out.k2, HTO.out.k3, HTO.out.k4, HTO.out.hb⟩
set_option maxHeartbeats 12800000 in
theorem ardrop_any (c p : Int) (v1 v2 v3 v4 : Value) (t u b d : List Int) (k : Int) (w : World) (ht : t.length < 10000) (hu : u.length < 10000) (hd : b.length < 10000) (he : d.length < 10000) (h1 : KL w v1 t) (h2 : KL w v2 u) (h3 : KL w v3 b) (h4 : KL w v4 d) :
    Calls Tryz.prog 28 #[arV c p v1 v2 v3 v4, .int .u64 k] w fun e w' => ∃ u1 u2 u3 u4, e = .returned (arV c p u1 u2 u3 u4) ∧ KL w' u1 (dropA ⟨c, p, t, u, b, d⟩ k).t ∧ KL w' u2 (dropA ⟨c, p, t, u, b, d⟩ k).u ∧ KL w' u3 (dropA ⟨c, p, t, u, b, d⟩ k).b ∧ KL w' u4 (dropA ⟨c, p, t, u, b, d⟩ k).d ∧ Below w.heap.size w w' := by
  obtain ⟨a1, q1, rfl⟩ := h1.form
  obtain ⟨a2, q2, rfl⟩ := h2.form
  obtain ⟨a3, q3, rfl⟩ := h3.form
  obtain ⟨a4, q4, rfl⟩ := h4.form
  generalize hn1 : t.length = n1 at *
  generalize hn2 : u.length = n2 at *
  generalize hn3 : b.length = n3 at *
  generalize hn4 : d.length = n4 at *
  obtain ⟨W, hW⟩ : ∃ W, W = (w.alloc (.cells #[.int .i64 c, .int .i64 p, .slice a1 n1 q1, .slice a2 n2 q2, .slice a3 n3 q3, .slice a4 n4 q4] 55)).alloc (.cells #[.int .i64 0, .int .i64 0, .slice none 0 0, .slice none 0 0, .slice none 0 0, .slice none 0 0] 55) := ⟨_, rfl⟩
  have T0 : ArS w W c p (.slice a1 n1 q1) (.slice a2 n2 q2) (.slice a3 n3 q3) (.slice a4 n4 q4) t u b d := by rw [hW]; exact ArS.start h1 h2 h3 h4
  have HT0 := Go.Lib.hid T0
  have HW := Go.Lib.hid hW
  have HCP := Go.Lib.hid (arcopied_any c p _ _ _ _ t u b d W (by omega) (by omega) (by omega) (by omega) T0.k1 T0.k2 T0.k3 T0.k4)
  obtain ⟨c0, c1, c2, c3, c4, c5⟩ := T0.cells
  have lc := T0.b0.lt
  clear hW T0 h1 h2 h3 h4
  go_enter Tryz.func28, Tryz.ntmps28
  go_wp2_with fail
  rw [← HW.out]
  refine HCP.out.mono ?_
  rintro e w1 ⟨a5, n5, q5, a6, n6, q6, a7, n7, q7, a8, n8, q8, rfl, hk5, hk6, hk7, hk8, hb1⟩
  have T1 := HT0.out.keep hb1
  obtain ⟨V, hV⟩ : ∃ V, V = set6 w1 w.heap.size c p (.slice a5 n5 q5) (.slice a6 n6 q6) (.slice a7 n7 q7) (.slice a8 n8 q8) := ⟨_, rfl⟩
  have T2 := T1.put6 c p hk5 hk6 hk7 hk8
  rw [← hV] at T2
  obtain ⟨e0, e1, e2, e3, e4, e5⟩ := T1.cells
  have le := T1.b0.lt
  have f0 := T1.b0.frozen 0
  have f1 := T1.b0.frozen 1
  have f2 := T1.b0.frozen 2
  have f3 := T1.b0.frozen 3
  have f4 := T1.b0.frozen 4
  have f5 := T1.b0.frozen 5
  have HT2 := Go.Lib.hid T2
  unfold set6 at hV
  have HV := Go.Lib.hid hV
  clear hV T1 hk5 hk6 hk7 hk8 hb1 c0 c1 c2 c3 c4 c5 lc HCP HT0
  have Dr := (Below.refl V.heap.size V).drew
  have TQ := T2.keep Dr
  have H1 := Go.Lib.hid (wo_a _ t k V.drew (by omega) TQ.k1)
  have H2 := Go.Lib.hid (fun W' (hb : Below V.drew.heap.size V.drew W') => wo_a _ u k W' (by omega) (TQ.k2.keep hb))
  have H3 := Go.Lib.hid (fun W' (hb : Below V.drew.heap.size V.drew W') => wo_a _ b k W' (by omega) (TQ.k3.keep hb))
  have H4 := Go.Lib.hid (fun W' (hb : Below V.drew.heap.size V.drew W') => wo_a _ d k W' (by omega) (TQ.k4.keep hb))
  have HS0 := Go.Lib.hid TQ.cells
  have HS := Go.Lib.hid (fun W' (hb : Below V.drew.heap.size V.drew W') => (TQ.keep hb).cells)
  have HS3 := Go.Lib.hid (fun W' x0 x1 x2 x3 x4 x5 (hb : Below V.drew.heap.size V.drew W') => (have q := (((((((TQ.keep hb).b0.set_ne (a := ⟨w.heap.size + 1, 0, none⟩) (by simp) x0).set_ne (a := ⟨w.heap.size + 1, 1, none⟩) (by simp) x1).set_ne (a := ⟨w.heap.size + 1, 2, none⟩) (by simp) x2).set_ne (a := ⟨w.heap.size + 1, 3, none⟩) (by simp) x3).set_ne (a := ⟨w.heap.size + 1, 4, none⟩) (by simp) x4).set_ne (a := ⟨w.heap.size + 1, 5, none⟩) (by simp) x5); (⟨q.cell 0, q.cell 1, q.cell 2, q.cell 3, q.cell 4, q.cell 5⟩ : ((((((W'.setCell ⟨w.heap.size + 1, 0, none⟩ x0).setCell ⟨w.heap.size + 1, 1, none⟩ x1).setCell ⟨w.heap.size + 1, 2, none⟩ x2).setCell ⟨w.heap.size + 1, 3, none⟩ x3).setCell ⟨w.heap.size + 1, 4, none⟩ x4).setCell ⟨w.heap.size + 1, 5, none⟩ x5).cell? ⟨w.heap.size, 0, none⟩ = some (.int .i64 c) ∧ ((((((W'.setCell ⟨w.heap.size + 1, 0, none⟩ x0).setCell ⟨w.heap.size + 1, 1, none⟩ x1).setCell ⟨w.heap.size + 1, 2, none⟩ x2).setCell ⟨w.heap.size + 1, 3, none⟩ x3).setCell ⟨w.heap.size + 1, 4, none⟩ x4).setCell ⟨w.heap.size + 1, 5, none⟩ x5).cell? ⟨w.heap.size, 1, none⟩ = some (.int .i64 p) ∧ ((((((W'.setCell ⟨w.heap.size + 1, 0, none⟩ x0).setCell ⟨w.heap.size + 1, 1, none⟩ x1).setCell ⟨w.heap.size + 1, 2, none⟩ x2).setCell ⟨w.heap.size + 1, 3, none⟩ x3).setCell ⟨w.heap.size + 1, 4, none⟩ x4).setCell ⟨w.heap.size + 1, 5, none⟩ x5).cell? ⟨w.heap.size, 2, none⟩ = some (.slice a5 n5 q5) ∧ ((((((W'.setCell ⟨w.heap.size + 1, 0, none⟩ x0).setCell ⟨w.heap.size + 1, 1, none⟩ x1).setCell ⟨w.heap.size + 1, 2, none⟩ x2).setCell ⟨w.heap.size + 1, 3, none⟩ x3).setCell ⟨w.heap.size + 1, 4, none⟩ x4).setCell ⟨w.heap.size + 1, 5, none⟩ x5).cell? ⟨w.heap.size, 3, none⟩ = some (.slice a6 n6 q6) ∧ ((((((W'.setCell ⟨w.heap.size + 1, 0, none⟩ x0).setCell ⟨w.heap.size + 1, 1, none⟩ x1).setCell ⟨w.heap.size + 1, 2, none⟩ x2).setCell ⟨w.heap.size + 1, 3, none⟩ x3).setCell ⟨w.heap.size + 1, 4, none⟩ x4).setCell ⟨w.heap.size + 1, 5, none⟩ x5).cell? ⟨w.heap.size, 4, none⟩ = some (.slice a7 n7 q7) ∧ ((((((W'.setCell ⟨w.heap.size + 1, 0, none⟩ x0).setCell ⟨w.heap.size + 1, 1, none⟩ x1).setCell ⟨w.heap.size + 1, 2, none⟩ x2).setCell ⟨w.heap.size + 1, 3, none⟩ x3).setCell ⟨w.heap.size + 1, 4, none⟩ x4).setCell ⟨w.heap.size + 1, 5, none⟩ x5).cell? ⟨w.heap.size, 5, none⟩ = some (.slice a8 n8 q8))))
  have HQ := Go.Lib.hid (fun W' (hb : Below V.drew.heap.size V.drew W') => TQ.keep hb)
  obtain ⟨g0, g1, g2, g3, g4, g5⟩ := T2.cells
  have lg := T2.b0.lt
  clear T2 Dr TQ
  go_wp2_with fail
  rw [← HV.out]
  clear e0 e1 e2 e3 e4 e5 le f0 f1 f2 f3 f4 f5
  go_region_held3 (fun W' => W'.cell? ⟨w.heap.size, 0, none⟩ = some (.int .i64 c) ∧ W'.cell? ⟨w.heap.size, 1, none⟩ = some (.int .i64 p) ∧ W'.cell? ⟨w.heap.size, 2, none⟩ = some (.slice a5 n5 q5) ∧ W'.cell? ⟨w.heap.size, 3, none⟩ = some (.slice a6 n6 q6) ∧ W'.cell? ⟨w.heap.size, 4, none⟩ = some (.slice a7 n7 q7) ∧ W'.cell? ⟨w.heap.size, 5, none⟩ = some (.slice a8 n8 q8))
    (first | with_reducible exact HS3.out _ _ _ _ _ _ _ hb7 | with_reducible exact HS.out _ hb7 | with_reducible exact HS.out _ hb6 | with_reducible exact HS.out _ hb5 | with_reducible exact HS.out _ hb4 | exact HS0.out)
    (first | (go_at_call 64; have z := hb6.size; refine (H4.out _ hb6).mono ?_; rintro e w7 ⟨c4, m4, r4, rfl, hk4, ho4, hb7'⟩; have hb7 := hb6.trans (hb7'.mono z); (have qb := (HQ.out _ hb7).b1; obtain ⟨s0, s1, s2, s3, s4, s5⟩ := (HQ.out _ hb7).zeros; have y0 := qb.frozen 0; have y1 := qb.frozen 1; have y2 := qb.frozen 2; have y3 := qb.frozen 3; have y4 := qb.frozen 4; have y5 := qb.frozen 5); have rl := qb.lt) | (go_at_call 64; have z := hb5.size; refine (H3.out _ hb5).mono ?_; rintro e w6 ⟨c3, m3, r3, rfl, hk3, ho3, hb6'⟩; have hb6 := hb5.trans (hb6'.mono z)) | (go_at_call 64; have z := hb4.size; refine (H2.out _ hb4).mono ?_; rintro e w5 ⟨c2, m2, r2, rfl, hk2, ho2, hb5'⟩; have hb5 := hb4.trans (hb5'.mono z)) | (go_at_call 64; refine H1.out.mono ?_; rintro e w4 ⟨c1, m1, r1, rfl, hk1, ho1, hb4⟩))
  obtain ⟨R, hR⟩ : ∃ R, R = set6 w7 (w.heap.size + 1) c p (.slice c1 m1 r1) (.slice c2 m2 r2) (.slice c3 m3 r3) (.slice c4 m4 r4) := ⟨_, rfl⟩
  have TO := (HQ.out _ hb7).give2 c p (((hk1.keep hb5').keep hb6').keep hb7') ((hk2.keep hb6').keep hb7') (hk3.keep hb7') hk4
  rw [← hR] at TO
  unfold set6 at hR
  have HR := Go.Lib.hid hR
  have HTO := Go.Lib.hid TO
  obtain ⟨d0, d1, d2, d3, d4, d5⟩ := TO.cells
  have ld := TO.b1.lt
  rw [← HR.out]
  clear hR TO hb4 hb5 hb6 hb7 hb5' hb6' hb7' ho1 ho2 ho3 ho4 hk1 hk2 hk3 hk4 qb s0 s1 s2 s3 s4 s5 y0 y1 y2 y3 y4 y5 rl
  clear g0 g1 g2 g3 g4 g5 lg
  go_wp2_with fail
  refine bodyPost_ret (v := .agg #[.int .i64 c, .int .i64 p, .slice c1 m1 r1, .slice c2 m2 r2, .slice c3 m3 r3, .slice c4 m4 r4]) (by simp [results, Tryz.results28, go_sem, d0, d1, d2, d3, d4, d5]) rfl ⟨_, _, _, _, rfl, HTO.out.k1, HTO.out.k2, HTO.out.k3, HTO.out.k4, HTO.out.hb⟩
end Go.Proofs.YtlakojncjldpbaaGreat
