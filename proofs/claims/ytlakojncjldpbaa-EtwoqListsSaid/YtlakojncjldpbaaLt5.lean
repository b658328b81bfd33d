/- The lists' two queues: Touch. -/
import Derived.Test.YtlakojncjldpbaaLt4
namespace Go.Proofs.Ytlakojncjldpbaa
open Go.RowKit Hop
set_option linter.unusedVariables false
set_option linter.unusedSimpArgs false
set_option maxRecDepth 100000
set_option maxHeartbeats 6400000 in
theorem twtouch_any (c : Int) (v1 v2 v3 : Value) (i o m : List Int) (k : Int) (w : World) (hi : i.length < 10000) (ho : o.length < 10000) (hm : m.length < 10000) (h1 : KL w v1 i) (h2 : KL w v2 o) (h3 : KL w v3 m) :
    Calls Try.prog 105 #[twV c v1 v2 v3, .int .u64 k] w fun e w' => ∃ u1 u2 u3, e = .returned (twV c u1 u2 u3) ∧ KL w' u1 (touchT ⟨c, i, o, m⟩ k).i ∧ KL w' u2 (touchT ⟨c, i, o, m⟩ k).o ∧ KL w' u3 (touchT ⟨c, i, o, m⟩ k).m ∧ Below w.heap.size w w' := by
  obtain ⟨a1, p1, rfl⟩ := h1.form
  obtain ⟨a2, p2, rfl⟩ := h2.form
  obtain ⟨a3, p3, rfl⟩ := h3.form
  generalize hn1 : i.length = n1 at *
  generalize hn2 : o.length = n2 at *
  generalize hn3 : m.length = n3 at *
  by_cases hk : k ∈ m
  · rw [show touchT ⟨c, i, o, m⟩ k = ⟨c, i, o, k :: wo m k⟩ from if_pos hk]
    obtain ⟨W, hW⟩ : ∃ W, W = (w.alloc (.cells #[.int .i64 c, .slice a1 n1 p1, .slice a2 n2 p2, .slice a3 n3 p3] 66)).alloc (.cells #[.int .i64 0, .slice none 0 0, .slice none 0 0, .slice none 0 0] 66) := ⟨_, rfl⟩
    have T0 : TwS w W c (.slice a1 n1 p1) (.slice a2 n2 p2) (.slice a3 n3 p3) i o m := by rw [hW]; exact TwS.start h1 h2 h3
    have HCP := Go.Lib.hid (twcopied_f c _ _ _ i o m W (by omega) (by omega) (by omega) T0.k1 T0.k2 T0.k3)
    obtain ⟨c0, c1, c2, c3⟩ := T0.cells
    have l0 := T0.b0.lt
    have HT0 := Go.Lib.hid T0
    have HW := Go.Lib.hid hW
    clear hW T0 h1 h2 h3
    go_enter Try.func105, Try.ntmps105
    go_wp2_with fail
    rw [← HW.out]
    refine HCP.out.mono ?_
    rintro e w1 ⟨a4, n4, p4, a5, n5, p5, a6, n6, p6, rfl, hk4, hk5, hk6, hb1⟩
    have T1 := HT0.out.keep hb1
    obtain ⟨V, hV⟩ : ∃ V, V = set4 w1 w.heap.size c (.slice a4 n4 p4) (.slice a5 n5 p5) (.slice a6 n6 p6) := ⟨_, rfl⟩
    have T2 : TwS w V c (.slice a4 n4 p4) (.slice a5 n5 p5) (.slice a6 n6 p6) i o m := by rw [hV]; exact T1.put4 c hk4 hk5 hk6
    obtain ⟨e0, e1, e2, e3⟩ := T1.cells
    have f0 := T1.b0.frozen 0
    have f1 := T1.b0.frozen 1
    have f2 := T1.b0.frozen 2
    have f3 := T1.b0.frozen 3
    have m0 := T1.b0.lt
    have HT2 := Go.Lib.hid T2
    unfold set4 at hV
    have HV := Go.Lib.hid hV
    have HT1 := Go.Lib.hid T1
    have HH := Go.Lib.hid (sqhas_any _ m k V T2.k3)
    have HF := Go.Lib.hid (front_f _ m k V (by omega) T2.k3)
    clear hV T1 T2 hk4 hk5 hk6 hb1 c0 c1 c2 c3 l0 HCP HT0
    rw [decide_eq_true hk] at HH
    clear hk
    go_wp2_with fail
    rw [← HV.out]
    refine HH.out.mono ?_
    rintro e w2 ⟨rfl, rfl⟩
    have T2 := HT2.out
    obtain ⟨q0, q1, q2, q3⟩ := T2.cells
    have lq := T2.b0.lt
    clear T2 e0 e1 e2 e3 f0 f1 f2 f3 m0
    go_wp2_with fail
    refine HF.out.mono ?_
    rintro e w3 ⟨a7, n7, p7, rfl, hk7, ho7, hb7⟩
    have T3 := HT2.out.keep hb7
    obtain ⟨e0, e1, e2, e3⟩ := T3.cells
    have f3 := T3.b0.frozen 3
    have m0 := T3.b0.lt
    obtain ⟨V3, hV3⟩ : ∃ V3, V3 = w3.setCell ⟨w.heap.size, 3, none⟩ (.slice a7 n7 p7) := ⟨_, rfl⟩
    have T4 := T3.put3 hk7
    rw [← hV3] at T4
    have HV3 := Go.Lib.hid hV3
    obtain ⟨R, hR⟩ : ∃ R, R = set4 V3 (w.heap.size + 1) c (.slice a4 n4 p4) (.slice a5 n5 p5) (.slice a7 n7 p7) := ⟨_, rfl⟩
    have TO := T4.give
    rw [← hR] at TO
    unfold set4 at hR
    have HR := Go.Lib.hid hR
    have HTO := Go.Lib.hid TO
    obtain ⟨g0, g1, g2, g3⟩ := T4.cells
    have lg := T4.b0.lt
    obtain ⟨z0, z1, z2, z3⟩ := T4.zeros
    have zf0 := T4.b1.frozen 0
    have zf1 := T4.b1.frozen 1
    have zf2 := T4.b1.frozen 2
    have zf3 := T4.b1.frozen 3
    have lz := T4.b1.lt
    obtain ⟨d0, d1, d2, d3⟩ := TO.cells
    have ld := TO.b1.lt
    clear hR TO T4 hV3 hk7 ho7 hb7 q0 q1 q2 q3 lq
    obtain ⟨y0, y1, y2, y3⟩ := T3.zeros
    have yf0 := T3.b1.frozen 0
    have yf1 := T3.b1.frozen 1
    have yf2 := T3.b1.frozen 2
    have yf3 := T3.b1.frozen 3
    have ly := T3.b1.lt
    have HR3 := HR.out
    rw [HV3.out] at HR3
    have HR := Go.Lib.hid HR3
    clear HR3 HV3 T3 g0 g1 g2 g3
    go_wp2_with fail
    rw [← HR.out]
    refine bodyPost_ret (v := .agg #[.int .i64 c, .slice a4 n4 p4, .slice a5 n5 p5, .slice a7 n7 p7]) (by simp [results, Try.results105, go_sem, d0, d1, d2, d3]) rfl ?_
    exact ⟨_, _, _, rfl, HTO.out.k1, HTO.out.k2, HTO.out.k3, HTO.out.hb⟩
  · rw [show touchT ⟨c, i, o, m⟩ k = ⟨c, i, o, m⟩ from if_neg hk]
    obtain ⟨W, hW⟩ : ∃ W, W = (w.alloc (.cells #[.int .i64 c, .slice a1 n1 p1, .slice a2 n2 p2, .slice a3 n3 p3] 66)).alloc (.cells #[.int .i64 0, .slice none 0 0, .slice none 0 0, .slice none 0 0] 66) := ⟨_, rfl⟩
    have T0 : TwS w W c (.slice a1 n1 p1) (.slice a2 n2 p2) (.slice a3 n3 p3) i o m := by rw [hW]; exact TwS.start h1 h2 h3
    have HCP := Go.Lib.hid (twcopied_f c _ _ _ i o m W (by omega) (by omega) (by omega) T0.k1 T0.k2 T0.k3)
    obtain ⟨c0, c1, c2, c3⟩ := T0.cells
    have l0 := T0.b0.lt
    have HT0 := Go.Lib.hid T0
    have HW := Go.Lib.hid hW
    clear hW T0 h1 h2 h3
    go_enter Try.func105, Try.ntmps105
    go_wp2_with fail
    rw [← HW.out]
    refine HCP.out.mono ?_
    rintro e w1 ⟨a4, n4, p4, a5, n5, p5, a6, n6, p6, rfl, hk4, hk5, hk6, hb1⟩
    have T1 := HT0.out.keep hb1
    obtain ⟨V, hV⟩ : ∃ V, V = set4 w1 w.heap.size c (.slice a4 n4 p4) (.slice a5 n5 p5) (.slice a6 n6 p6) := ⟨_, rfl⟩
    have T2 : TwS w V c (.slice a4 n4 p4) (.slice a5 n5 p5) (.slice a6 n6 p6) i o m := by rw [hV]; exact T1.put4 c hk4 hk5 hk6
    obtain ⟨e0, e1, e2, e3⟩ := T1.cells
    have f0 := T1.b0.frozen 0
    have f1 := T1.b0.frozen 1
    have f2 := T1.b0.frozen 2
    have f3 := T1.b0.frozen 3
    have m0 := T1.b0.lt
    have HT2 := Go.Lib.hid T2
    unfold set4 at hV
    have HV := Go.Lib.hid hV
    have HT1 := Go.Lib.hid T1
    have HH := Go.Lib.hid (sqhas_any _ m k V T2.k3)
    have HF := Go.Lib.hid (front_f _ m k V (by omega) T2.k3)
    clear hV T1 T2 hk4 hk5 hk6 hb1 c0 c1 c2 c3 l0 HCP HT0
    rw [decide_eq_false hk] at HH
    clear hk
    go_wp2_with fail
    rw [← HV.out]
    refine HH.out.mono ?_
    rintro e w2 ⟨rfl, rfl⟩
    clear e0 e1 e2 e3 f0 f1 f2 f3 m0
    have T2 := HT2.out
    obtain ⟨R, hR⟩ : ∃ R, R = set4 V (w.heap.size + 1) c (.slice a4 n4 p4) (.slice a5 n5 p5) (.slice a6 n6 p6) := ⟨_, rfl⟩
    have TO := T2.give
    rw [← hR] at TO
    unfold set4 at hR
    have HR := Go.Lib.hid hR
    have HTO := Go.Lib.hid TO
    obtain ⟨g0, g1, g2, g3⟩ := T2.cells
    have lg := T2.b0.lt
    obtain ⟨z0, z1, z2, z3⟩ := T2.zeros
    have zf0 := T2.b1.frozen 0
    have zf1 := T2.b1.frozen 1
    have zf2 := T2.b1.frozen 2
    have zf3 := T2.b1.frozen 3
    have lz := T2.b1.lt
    obtain ⟨d0, d1, d2, d3⟩ := TO.cells
    have ld := TO.b1.lt
    clear hR TO T2
    go_wp2_with fail
    rw [← HR.out]
    refine bodyPost_ret (v := .agg #[.int .i64 c, .slice a4 n4 p4, .slice a5 n5 p5, .slice a6 n6 p6]) (by simp [results, Try.results105, go_sem, d0, d1, d2, d3]) rfl ?_
    exact ⟨_, _, _, rfl, HTO.out.k1, HTO.out.k2, HTO.out.k3, HTO.out.hb⟩
end Go.Proofs.Ytlakojncjldpbaa
