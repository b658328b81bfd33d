/- The lists' adaptive replacement: Admit, two ways. -/
import Derived.Test.YtlakojncjldpbaaGreatLa5
namespace Go.Proofs.YtlakojncjldpbaaGreat
open Go.RowKit Hop
set_option linter.unusedVariables false
set_option linter.unusedSimpArgs false
set_option maxRecDepth 100000
set_option maxHeartbeats 6400000 in
theorem aradmit_in (c p : Int) (v1 v2 v3 v4 : Value) (t u b d : List Int) (k : Int) (w : World) (hc0 : 1 ≤ c) (hc1 : c ≤ 1000) (hp0 : 0 ≤ p) (hp1 : p ≤ 1000) (hk : k ∈ t ++ u) (ht : t.length < 10000) (hu : u.length < 10000) (hd : b.length < 10000) (he : d.length < 10000) (h1 : KL w v1 t) (h2 : KL w v2 u) (h3 : KL w v3 b) (h4 : KL w v4 d) :
    Calls Tryz.prog 27 #[arV c p v1 v2 v3 v4, .int .u64 k] w fun e w' => ∃ u1 u2 u3 u4 vo, e = .returned (.tuple #[arV c p u1 u2 u3 u4, vo]) ∧ KL w' u1 (((⟨c, p, t, u, b, d⟩ : AS), ([] : List Int))).1.t ∧ KL w' u2 (((⟨c, p, t, u, b, d⟩ : AS), ([] : List Int))).1.u ∧ KL w' u3 (((⟨c, p, t, u, b, d⟩ : AS), ([] : List Int))).1.b ∧ KL w' u4 (((⟨c, p, t, u, b, d⟩ : AS), ([] : List Int))).1.d ∧ KL w' vo (((⟨c, p, t, u, b, d⟩ : AS), ([] : List Int))).2 ∧ Below w.heap.size w w' := by
  obtain ⟨a1, q1, rfl⟩ := h1.form
  obtain ⟨a2, q2, rfl⟩ := h2.form
  obtain ⟨a3, q3, rfl⟩ := h3.form
  obtain ⟨a4, q4, rfl⟩ := h4.form
  generalize hn1 : t.length = n1 at *
  generalize hn2 : u.length = n2 at *
  generalize hn3 : b.length = n3 at *
  generalize hn4 : d.length = n4 at *
  obtain ⟨W, hW⟩ : ∃ W, W = (w.alloc (.cells #[.int .i64 c, .int .i64 p, .slice a1 n1 q1, .slice a2 n2 q2, .slice a3 n3 q3, .slice a4 n4 q4] 55)).alloc (.cells #[.int .i64 0, .int .i64 0, .slice none 0 0, .slice none 0 0, .slice none 0 0, .slice none 0 0] 55) := ⟨_, rfl⟩
  have T0 : ArS w W c p (.slice a1 n1 q1) (.slice a2 n2 q2) (.slice a3 n3 q3) (.slice a4 n4 q4) t u b d := by rw [hW]; exact ArS.start h1 h2 h3 h4
  have HT0 := Go.Lib.hid T0
  have HW := Go.Lib.hid hW
  have HCP := Go.Lib.hid (arcopied_any c p _ _ _ _ t u b d W (by omega) (by omega) (by omega) (by omega) T0.k1 T0.k2 T0.k3 T0.k4)
  obtain ⟨c0, c1, c2, c3, c4, c5⟩ := T0.cells
  have lc := T0.b0.lt
  clear hW T0 h1 h2 h3 h4
  go_enter Tryz.func27, Tryz.ntmps27
  go_wp2_with fail
  rw [← HW.out]
  refine HCP.out.mono ?_
  rintro e w1 ⟨a5, n5, q5, a6, n6, q6, a7, n7, q7, a8, n8, q8, rfl, hk5, hk6, hk7, hk8, hb1⟩
  have T1 := HT0.out.keep hb1
  obtain ⟨V, hV⟩ : ∃ V, V = set6 w1 w.heap.size c p (.slice a5 n5 q5) (.slice a6 n6 q6) (.slice a7 n7 q7) (.slice a8 n8 q8) := ⟨_, rfl⟩
  have T2 := T1.put6 c p hk5 hk6 hk7 hk8
  rw [← hV] at T2
  obtain ⟨e0, e1, e2, e3, e4, e5⟩ := T1.cells
  have le := T1.b0.lt
  have f0 := T1.b0.frozen 0
  have f1 := T1.b0.frozen 1
  have f2 := T1.b0.frozen 2
  have f3 := T1.b0.frozen 3
  have f4 := T1.b0.frozen 4
  have f5 := T1.b0.frozen 5
  have HT2 := Go.Lib.hid T2
  unfold set6 at hV
  have HV := Go.Lib.hid hV
  clear hV T1 hk5 hk6 hk7 hk8 hb1 c0 c1 c2 c3 c4 c5 lc HCP HT0
  have HH := Go.Lib.hid (arhas_any c p a5 a6 a7 a8 n5 n6 n7 n8 q5 q6 q7 q8 t u k V T2.k1 T2.k2)
  rw [decide_eq_true hk] at HH
  clear hk
  clear T2
  go_wp2_with fail
  rw [← HV.out]
  refine HH.out.mono ?_
  rintro e w2 ⟨rfl, hb2⟩
  clear e0 e1 e2 e3 e4 e5 le f0 f1 f2 f3 f4 f5
  have T3 := HT2.out.keep hb2
  clear hb2
  have TO := T3.give
  obtain ⟨R, hR⟩ : ∃ R, R = set6 w2 (w.heap.size + 1) c p (.slice a5 n5 q5) (.slice a6 n6 q6) (.slice a7 n7 q7) (.slice a8 n8 q8) := ⟨_, rfl⟩
  rw [← hR] at TO
  unfold set6 at hR
  have HR := Go.Lib.hid hR
  have HTO := Go.Lib.hid TO
  obtain ⟨g0, g1, g2, g3, g4, g5⟩ := T3.cells
  have lg := T3.b0.lt
  obtain ⟨z0, z1, z2, z3, z4, z5⟩ := T3.zeros
  have zf0 := T3.b1.frozen 0
  have zf1 := T3.b1.frozen 1
  have zf2 := T3.b1.frozen 2
  have zf3 := T3.b1.frozen 3
  have zf4 := T3.b1.frozen 4
  have zf5 := T3.b1.frozen 5
  have lz := T3.b1.lt
  obtain ⟨d0, d1, d2, d3, d4, d5⟩ := TO.cells
  have ld := TO.b1.lt
  clear hR TO T3
  go_wp2_with fail
  rw [← HR.out]
  refine bodyPost_ret (v := .tuple #[.agg #[.int .i64 c, .int .i64 p, .slice a5 n5 q5, .slice a6 n6 q6, .slice a7 n7 q7, .slice a8 n8 q8], .slice none 0 0]) (by simp [results, Tryz.results27, go_sem, d0, d1, d2, d3, d4, d5]) rfl ⟨_, _, _, _, _, rfl, HTO.out.k1, HTO.out.k2, HTO.out.k3, HTO.out.k4, KL.nil _, HTO.out.hb⟩
set_option maxHeartbeats 6400000 in
theorem aradmit_new (c p : Int) (v1 v2 v3 v4 : Value) (t u b d : List Int) (k : Int) (w : World) (hc0 : 1 ≤ c) (hc1 : c ≤ 1000) (hp0 : 0 ≤ p) (hp1 : p ≤ 1000) (hk : ¬ k ∈ t ++ u) (hkb : ¬ k ∈ b) (hkd : ¬ k ∈ d) (r : AS × List Int) (hr : freshA ⟨c, p, t, u, b, d⟩ = r) (hrl : r.1.t.length < 100000) (ht : t.length < 10000) (hu : u.length < 10000) (hd : b.length < 10000) (he : d.length < 10000) (h1 : KL w v1 t) (h2 : KL w v2 u) (h3 : KL w v3 b) (h4 : KL w v4 d) :
    Calls Tryz.prog 27 #[arV c p v1 v2 v3 v4, .int .u64 k] w fun e w' => ∃ u1 u2 u3 u4 vo, e = .returned (.tuple #[arV c p u1 u2 u3 u4, vo]) ∧ KL w' u1 (((⟨c, p, k :: wo r.1.t k, r.1.u, r.1.b, r.1.d⟩ : AS), r.2)).1.t ∧ KL w' u2 (((⟨c, p, k :: wo r.1.t k, r.1.u, r.1.b, r.1.d⟩ : AS), r.2)).1.u ∧ KL w' u3 (((⟨c, p, k :: wo r.1.t k, r.1.u, r.1.b, r.1.d⟩ : AS), r.2)).1.b ∧ KL w' u4 (((⟨c, p, k :: wo r.1.t k, r.1.u, r.1.b, r.1.d⟩ : AS), r.2)).1.d ∧ KL w' vo (((⟨c, p, k :: wo r.1.t k, r.1.u, r.1.b, r.1.d⟩ : AS), r.2)).2 ∧ Below w.heap.size w w' := by
  obtain ⟨a1, q1, rfl⟩ := h1.form
  obtain ⟨a2, q2, rfl⟩ := h2.form
  obtain ⟨a3, q3, rfl⟩ := h3.form
  obtain ⟨a4, q4, rfl⟩ := h4.form
  generalize hn1 : t.length = n1 at *
  generalize hn2 : u.length = n2 at *
  generalize hn3 : b.length = n3 at *
  generalize hn4 : d.length = n4 at *
  have HKB := Go.Lib.hid hkb
  have HKD := Go.Lib.hid hkd
  clear hkb hkd
  obtain ⟨LL, HLL⟩ : ∃ LL, LL = r.1.t := ⟨_, rfl⟩
  have HRL : Hid (LL.length < 100000) := Go.Lib.hid (by rw [HLL]; exact hrl)
  have HLE := Go.Lib.hid HLL
  clear HLL hrl
  have HRX := Go.Lib.hid (fun (W1 : World) (x1 x2 x3 x4 : Value) (k1 : KL W1 x1 t) (k2 : KL W1 x2 u) (k3 : KL W1 x3 b) (k4 : KL W1 x4 d) => arfresh_any c p x1 x2 x3 x4 t u b d W1 hc0 hc1 (by omega) (by omega) (by omega) (by omega) k1 k2 k3 k4)
  rw [hr] at HRX
  clear hr
  obtain ⟨W, hW⟩ : ∃ W, W = (w.alloc (.cells #[.int .i64 c, .int .i64 p, .slice a1 n1 q1, .slice a2 n2 q2, .slice a3 n3 q3, .slice a4 n4 q4] 55)).alloc (.cells #[.int .i64 0, .int .i64 0, .slice none 0 0, .slice none 0 0, .slice none 0 0, .slice none 0 0] 55) := ⟨_, rfl⟩
  have T0 : ArS w W c p (.slice a1 n1 q1) (.slice a2 n2 q2) (.slice a3 n3 q3) (.slice a4 n4 q4) t u b d := by rw [hW]; exact ArS.start h1 h2 h3 h4
  have HT0 := Go.Lib.hid T0
  have HW := Go.Lib.hid hW
  have HCP := Go.Lib.hid (arcopied_any c p _ _ _ _ t u b d W (by omega) (by omega) (by omega) (by omega) T0.k1 T0.k2 T0.k3 T0.k4)
  obtain ⟨c0, c1, c2, c3, c4, c5⟩ := T0.cells
  have lc := T0.b0.lt
  clear hW T0 h1 h2 h3 h4
  go_enter Tryz.func27, Tryz.ntmps27
  go_wp2_with fail
  rw [← HW.out]
  refine HCP.out.mono ?_
  rintro e w1 ⟨a5, n5, q5, a6, n6, q6, a7, n7, q7, a8, n8, q8, rfl, hk5, hk6, hk7, hk8, hb1⟩
  have T1 := HT0.out.keep hb1
  obtain ⟨V, hV⟩ : ∃ V, V = set6 w1 w.heap.size c p (.slice a5 n5 q5) (.slice a6 n6 q6) (.slice a7 n7 q7) (.slice a8 n8 q8) := ⟨_, rfl⟩
  have T2 := T1.put6 c p hk5 hk6 hk7 hk8
  rw [← hV] at T2
  obtain ⟨e0, e1, e2, e3, e4, e5⟩ := T1.cells
  have le := T1.b0.lt
  have f0 := T1.b0.frozen 0
  have f1 := T1.b0.frozen 1
  have f2 := T1.b0.frozen 2
  have f3 := T1.b0.frozen 3
  have f4 := T1.b0.frozen 4
  have f5 := T1.b0.frozen 5
  have HT2 := Go.Lib.hid T2
  unfold set6 at hV
  have HV := Go.Lib.hid hV
  clear hV T1 hk5 hk6 hk7 hk8 hb1 c0 c1 c2 c3 c4 c5 lc HCP HT0
  have HH := Go.Lib.hid (arhas_any c p a5 a6 a7 a8 n5 n6 n7 n8 q5 q6 q7 q8 t u k V T2.k1 T2.k2)
  rw [decide_eq_false hk] at HH
  clear hk
  clear T2
  go_wp2_with fail
  rw [← HV.out]
  refine HH.out.mono ?_
  rintro e w2 ⟨rfl, hb2⟩
  clear e0 e1 e2 e3 e4 e5 le f0 f1 f2 f3 f4 f5
  have T3 := HT2.out.keep hb2
  clear hb2
  have TD := T3.keep (Below.refl _ _).drew
  have H3 := Go.Lib.hid (sqhas_any _ b k w2.drew TD.k3)
  have H4 := Go.Lib.hid (sqhas_any _ d k w2.drew TD.k4)
  rw [decide_eq_false HKB.out] at H3
  rw [decide_eq_false HKD.out] at H4
  have HS0 := Go.Lib.hid TD.cells
  have HTD := Go.Lib.hid TD
  obtain ⟨g0, g1, g2, g3, g4, g5⟩ := T3.cells
  have lg := T3.b0.lt
  clear T3 TD
  go_wp2_with fail
  go_region_held3 (fun W' => W'.cell? ⟨w.heap.size, 0, none⟩ = some (.int .i64 c) ∧ W'.cell? ⟨w.heap.size, 1, none⟩ = some (.int .i64 p) ∧ W'.cell? ⟨w.heap.size, 2, none⟩ = some (.slice a5 n5 q5) ∧ W'.cell? ⟨w.heap.size, 3, none⟩ = some (.slice a6 n6 q6) ∧ W'.cell? ⟨w.heap.size, 4, none⟩ = some (.slice a7 n7 q7) ∧ W'.cell? ⟨w.heap.size, 5, none⟩ = some (.slice a8 n8 q8))
    (exact HS0.out)
    (first | (go_at_call 62; have z := hm1; refine H4.out.mono ?_; rintro e w' ⟨rfl, rfl⟩) | (go_at_call 62; refine H3.out.mono ?_; rintro e w' ⟨rfl, rfl⟩; have hm1 : True := trivial))
  obtain ⟨W5, hW5⟩ : ∃ W5, W5 = w2.drew := ⟨_, rfl⟩
  have T5 := HTD.out
  rw [← hW5] at T5
  rw [← hW5]
  clear hW5 hm1 HTD H3 H4 HS0 g0 g1 g2 g3 g4 g5 lg
  have TD := T5.keep (Below.refl _ _).drew
  have HS0 := Go.Lib.hid TD.cells
  have HTD := Go.Lib.hid TD
  obtain ⟨g0, g1, g2, g3, g4, g5⟩ := T5.cells
  have lg := T5.b0.lt
  clear T5 TD
  go_wp2_with fail
  go_region_held3 (fun W' => W'.cell? ⟨w.heap.size, 0, none⟩ = some (.int .i64 c) ∧ W'.cell? ⟨w.heap.size, 1, none⟩ = some (.int .i64 p) ∧ W'.cell? ⟨w.heap.size, 2, none⟩ = some (.slice a5 n5 q5) ∧ W'.cell? ⟨w.heap.size, 3, none⟩ = some (.slice a6 n6 q6) ∧ W'.cell? ⟨w.heap.size, 4, none⟩ = some (.slice a7 n7 q7) ∧ W'.cell? ⟨w.heap.size, 5, none⟩ = some (.slice a8 n8 q8))
    (exact HS0.out)
    (fail)
  obtain ⟨W6, hW6⟩ : ∃ W6, W6 = W5.drew := ⟨_, rfl⟩
  have T6 := HTD.out
  rw [← hW6] at T6
  rw [← hW6]
  clear hW6 HTD HS0 g0 g1 g2 g3 g4 g5 lg
  have HRP := Go.Lib.hid (HRX.out W6 _ _ _ _ T6.k1 T6.k2 T6.k3 T6.k4)
  have HT6 := Go.Lib.hid T6
  obtain ⟨c0, c1, c2, c3, c4, c5⟩ := T6.cells
  have lc := T6.b0.lt
  clear T6
  go_wp2_with fail
  refine HRP.out.mono ?_
  rintro e w6 ⟨u1, u2, u3, u4, vo, rfl, hk11, hk12, hk13, hk14, hvo, hb6⟩
  obtain ⟨a11, q11, rfl⟩ := hk11.form
  obtain ⟨a12, q12, rfl⟩ := hk12.form
  obtain ⟨a13, q13, rfl⟩ := hk13.form
  obtain ⟨a14, q14, rfl⟩ := hk14.form
  obtain ⟨a15, q15, rfl⟩ := hvo.form
  generalize r.1.t.length = n11 at *
  generalize r.1.u.length = n12 at *
  generalize r.1.b.length = n13 at *
  generalize r.1.d.length = n14 at *
  generalize r.2.length = n15 at *
  have T8 := HT6.out.keep hb6
  obtain ⟨V8, hV8⟩ : ∃ V8, V8 = set6 w6 w.heap.size c p (.slice a11 n11 q11) (.slice a12 n12 q12) (.slice a13 n13 q13) (.slice a14 n14 q14) := ⟨_, rfl⟩
  have T9 := T8.put6 c p hk11 hk12 hk13 hk14
  have S9 : KL V8 (.slice a15 n15 q15) r.2 := by rw [hV8]; exact T8.side hvo
  rw [← hV8] at T9
  unfold set6 at hV8
  have HV8 := Go.Lib.hid hV8
  have HT9 := Go.Lib.hid T9
  have HS9 := Go.Lib.hid S9
  have HFR := Go.Lib.hid (front_a _ r.1.t k V8 (HLE.out ▸ HRL.out) T9.k1)
  obtain ⟨c0, c1, c2, c3, c4, c5⟩ := T8.cells
  have lc := T8.b0.lt
  have f0 := T8.b0.frozen 0
  have f1 := T8.b0.frozen 1
  have f2 := T8.b0.frozen 2
  have f3 := T8.b0.frozen 3
  have f4 := T8.b0.frozen 4
  have f5 := T8.b0.frozen 5
  clear T8 T9 S9 hV8 hk11 hk12 hk13 hk14 hvo hb6 HRP
  go_wp2_with fail
  rw [← HV8.out]
  refine HFR.out.mono ?_
  rintro e w9 ⟨a16, n16, q16, rfl, hk16, ho16, hb9⟩
  have T10 := HT9.out.keep hb9
  obtain ⟨V9, hV9⟩ : ∃ V9, V9 = w9.setCell ⟨w.heap.size, 2, none⟩ (.slice a16 n16 q16) := ⟨_, rfl⟩
  have T11 := T10.put2 hk16
  rw [← hV9] at T11
  have S11 : KL V9 (.slice a15 n15 q15) r.2 := by rw [hV9]; exact T10.side1 (HS9.out.keep hb9)
  have TO := T11.give
  obtain ⟨R, hR⟩ : ∃ R, R = set6 V9 (w.heap.size + 1) c p (.slice a16 n16 q16) (.slice a12 n12 q12) (.slice a13 n13 q13) (.slice a14 n14 q14) := ⟨_, rfl⟩
  have SO : KL R (.slice a15 n15 q15) r.2 := by rw [hR]; exact T11.give_side S11
  rw [← hR] at TO
  unfold set6 at hR
  rw [hV9] at hR
  have HR := Go.Lib.hid hR
  have HTO := Go.Lib.hid TO
  have HSO := Go.Lib.hid SO
  clear c0 c1 c2 c3 c4 c5 lc f0 f1 f2 f3 f4 f5
  obtain ⟨c0, c1, c2, c3, c4, c5⟩ := T10.cells
  have lc := T10.b0.lt
  have f0 := T10.b0.frozen 2
  obtain ⟨z0, z1, z2, z3, z4, z5⟩ := T10.zeros
  have zf0 := T10.b1.frozen 0
  have zf1 := T10.b1.frozen 1
  have zf2 := T10.b1.frozen 2
  have zf3 := T10.b1.frozen 3
  have zf4 := T10.b1.frozen 4
  have zf5 := T10.b1.frozen 5
  have lz := T10.b1.lt
  obtain ⟨d0, d1, d2, d3, d4, d5⟩ := TO.cells
  have ld := TO.b1.lt
  clear hR TO SO T10 T11 S11 hV9 hk16 ho16 hb9 HFR
  go_wp2_with fail
  rw [← HR.out]
  refine bodyPost_ret (v := .tuple #[.agg #[.int .i64 c, .int .i64 p, .slice a16 n16 q16, .slice a12 n12 q12, .slice a13 n13 q13, .slice a14 n14 q14], .slice a15 n15 q15]) (by simp [results, Tryz.results27, go_sem, d0, d1, d2, d3, d4, d5]) rfl ⟨_, _, _, _, _, rfl, HTO.out.k1, HTO.out.k2, HTO.out.k3, HTO.out.k4, HSO.out, HTO.out.hb⟩
end Go.Proofs.YtlakojncjldpbaaGreat
