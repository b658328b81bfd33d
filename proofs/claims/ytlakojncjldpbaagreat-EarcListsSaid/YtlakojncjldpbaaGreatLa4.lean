/- The lists' adaptive replacement: fresh, one way. -/
import Derived.Test.YtlakojncjldpbaaGreatLa3d
namespace Go.Proofs.YtlakojncjldpbaaGreat
open Go.RowKit Hop
set_option linter.unusedVariables false
set_option linter.unusedSimpArgs false
set_option maxRecDepth 100000
set_option maxHeartbeats 3200000 in
theorem arfresh_no (c p : Int) (v1 v2 v3 v4 : Value) (t u b d : List Int) (w : World) (hc0 : 1 ≤ c) (hc1 : c ≤ 1000) (g1 : (t.length : Int) + (b.length : Int) < c) (g2 : (t.length : Int) + (u.length : Int) + (b.length : Int) + (d.length : Int) < c) (ht : t.length < 10000) (hu : u.length < 10000) (hd : b.length < 10000) (he : d.length < 10000) (h1 : KL w v1 t) (h2 : KL w v2 u) (h3 : KL w v3 b) (h4 : KL w v4 d) :
    Calls Tryz.prog 66 #[arV c p v1 v2 v3 v4] w fun e w' => ∃ u1 u2 u3 u4 vo, e = .returned (.tuple #[arV c p u1 u2 u3 u4, vo]) ∧ KL w' u1 (((⟨c, p, t, u, b, d⟩ : AS), ([] : List Int))).1.t ∧ KL w' u2 (((⟨c, p, t, u, b, d⟩ : AS), ([] : List Int))).1.u ∧ KL w' u3 (((⟨c, p, t, u, b, d⟩ : AS), ([] : List Int))).1.b ∧ KL w' u4 (((⟨c, p, t, u, b, d⟩ : AS), ([] : List Int))).1.d ∧ KL w' vo (((⟨c, p, t, u, b, d⟩ : AS), ([] : List Int))).2 ∧ Below w.heap.size w w' := by
  obtain ⟨a1, q1, rfl⟩ := h1.form
  obtain ⟨a2, q2, rfl⟩ := h2.form
  obtain ⟨a3, q3, rfl⟩ := h3.form
  obtain ⟨a4, q4, rfl⟩ := h4.form
  generalize hn1 : t.length = n1 at *
  generalize hn2 : u.length = n2 at *
  generalize hn3 : b.length = n3 at *
  generalize hn4 : d.length = n4 at *
  obtain ⟨W, hW⟩ : ∃ W, W = (w.alloc (.cells #[.int .i64 c, .int .i64 p, .slice a1 n1 q1, .slice a2 n2 q2, .slice a3 n3 q3, .slice a4 n4 q4] 55)).alloc (.cells #[.int .i64 0, .int .i64 0, .slice none 0 0, .slice none 0 0, .slice none 0 0, .slice none 0 0] 55) := ⟨_, rfl⟩
  have T0 : ArS w W c p (.slice a1 n1 q1) (.slice a2 n2 q2) (.slice a3 n3 q3) (.slice a4 n4 q4) t u b d := by rw [hW]; exact ArS.start h1 h2 h3 h4
  have HT0 := Go.Lib.hid T0
  have HW := Go.Lib.hid hW
  have TQa := T0.keep (Below.refl W.heap.size W).drew
  have ALa := (Below.refl W.heap.size W).alloc (Nat.le_refl _) (.cells #[.slice a1 n1 q1, .slice a3 n3 q3] 27)
  have TRa := (T0.keep ALa).keep (Below.refl _ _).drew
  have HAa := Go.Lib.hid TQa.cells
  have HBa := Go.Lib.hid TRa.cells
  have HTRa := Go.Lib.hid TRa
  have HMa := Go.Lib.hid (armany2 a1 a3 n1 q1 n3 q3 W (by omega))
  clear TQa TRa ALa
  obtain ⟨c0, c1, c2, c3, c4, c5⟩ := T0.cells
  have lc := T0.b0.lt
  clear hW T0 h1 h2 h3 h4
  clear hn1 hn2 hn3 hn4
  go_enter Tryz.func66, Tryz.ntmps66
  go_wp2_with fail
  rw [← HW.out]
  go_region_held3 (fun W' => W'.cell? ⟨w.heap.size, 0, none⟩ = some (.int .i64 c) ∧ W'.cell? ⟨w.heap.size, 1, none⟩ = some (.int .i64 p) ∧ W'.cell? ⟨w.heap.size, 2, none⟩ = some (.slice a1 n1 q1) ∧ W'.cell? ⟨w.heap.size, 3, none⟩ = some (.slice a2 n2 q2) ∧ W'.cell? ⟨w.heap.size, 4, none⟩ = some (.slice a3 n3 q3) ∧ W'.cell? ⟨w.heap.size, 5, none⟩ = some (.slice a4 n4 q4))
    (first | with_reducible exact HBa.out | exact HAa.out)
    (first | (go_at_call 68; refine HMa.out.mono ?_; rintro e w' ⟨rfl, rfl⟩))
  obtain ⟨W1, hWa⟩ : ∃ W1, W1 = (W.alloc (.cells #[.slice a1 n1 q1, .slice a3 n3 q3] 27)).drew := ⟨_, rfl⟩
  have T1 := HTRa.out
  rw [← hWa] at T1
  rw [← hWa]
  clear hWa HAa HBa HMa HTRa
  clear c0 c1 c2 c3 c4 c5 lc
  have TQb := T1.keep (Below.refl W1.heap.size W1).drew
  have ALb := (Below.refl W1.heap.size W1).alloc (Nat.le_refl _) (.cells #[.slice a1 n1 q1, .slice a2 n2 q2, .slice a3 n3 q3, .slice a4 n4 q4] 27)
  have TRb := (T1.keep ALb).keep (Below.refl _ _).drew
  have HAb := Go.Lib.hid TQb.cells
  have HBb := Go.Lib.hid TRb.cells
  have HTRb := Go.Lib.hid TRb
  have HMb := Go.Lib.hid (armany4 a1 a2 a3 a4 n1 q1 n2 q2 n3 q3 n4 q4 W1 (by omega))
  clear TQb TRb ALb
  obtain ⟨c0, c1, c2, c3, c4, c5⟩ := T1.cells
  have lc := T1.b0.lt
  clear T1
  go_wp2_with fail
  go_region_held3 (fun W' => W'.cell? ⟨w.heap.size, 0, none⟩ = some (.int .i64 c) ∧ W'.cell? ⟨w.heap.size, 1, none⟩ = some (.int .i64 p) ∧ W'.cell? ⟨w.heap.size, 2, none⟩ = some (.slice a1 n1 q1) ∧ W'.cell? ⟨w.heap.size, 3, none⟩ = some (.slice a2 n2 q2) ∧ W'.cell? ⟨w.heap.size, 4, none⟩ = some (.slice a3 n3 q3) ∧ W'.cell? ⟨w.heap.size, 5, none⟩ = some (.slice a4 n4 q4))
    (first | with_reducible exact HBb.out | exact HAb.out)
    (first | (go_at_call 68; refine HMb.out.mono ?_; rintro e w' ⟨rfl, rfl⟩))
  obtain ⟨W2, hWb⟩ : ∃ W2, W2 = (W1.alloc (.cells #[.slice a1 n1 q1, .slice a2 n2 q2, .slice a3 n3 q3, .slice a4 n4 q4] 27)).drew := ⟨_, rfl⟩
  have T2 := HTRb.out
  rw [← hWb] at T2
  rw [← hWb]
  clear hWb HAb HBb HMb HTRb
  clear c0 c1 c2 c3 c4 c5 lc
  have TO := T2.give
  obtain ⟨R, hR⟩ : ∃ R, R = set6 W2 (w.heap.size + 1) c p (.slice a1 n1 q1) (.slice a2 n2 q2) (.slice a3 n3 q3) (.slice a4 n4 q4) := ⟨_, rfl⟩
  rw [← hR] at TO
  unfold set6 at hR
  have HR := Go.Lib.hid hR
  have HTO := Go.Lib.hid TO
  obtain ⟨g0, g1, g2, g3, g4, g5⟩ := T2.cells
  have lg := T2.b0.lt
  obtain ⟨z0, z1, z2, z3, z4, z5⟩ := T2.zeros
  have zf0 := T2.b1.frozen 0
  have zf1 := T2.b1.frozen 1
  have zf2 := T2.b1.frozen 2
  have zf3 := T2.b1.frozen 3
  have zf4 := T2.b1.frozen 4
  have zf5 := T2.b1.frozen 5
  have lz := T2.b1.lt
  obtain ⟨d0, d1, d2, d3, d4, d5⟩ := TO.cells
  have ld := TO.b1.lt
  clear hR TO T2
  go_wp2_with fail
  rw [← HR.out]
  refine bodyPost_ret (v := .tuple #[.agg #[.int .i64 c, .int .i64 p, .slice a1 n1 q1, .slice a2 n2 q2, .slice a3 n3 q3, .slice a4 n4 q4], .slice none 0 0]) (by simp [results, Tryz.results66, go_sem, d0, d1, d2, d3, d4, d5]) rfl ⟨_, _, _, _, _, rfl, HTO.out.k1, HTO.out.k2, HTO.out.k3, HTO.out.k4, KL.nil _, HTO.out.hb⟩
set_option maxHeartbeats 3200000 in
theorem arfresh_cut (c p : Int) (v1 v2 v3 v4 : Value) (t u b d : List Int) (w : World) (hc0 : 1 ≤ c) (hc1 : c ≤ 1000) (g1 : ¬ (t.length : Int) + (b.length : Int) < c) (g4 : (t.length : Int) < c) (ht : t.length < 10000) (hu : u.length < 10000) (hd : b.length < 10000) (he : d.length < 10000) (h1 : KL w v1 t) (h2 : KL w v2 u) (h3 : KL w v3 b) (h4 : KL w v4 d) :
    Calls Tryz.prog 66 #[arV c p v1 v2 v3 v4] w fun e w' => ∃ u1 u2 u3 u4 vo, e = .returned (.tuple #[arV c p u1 u2 u3 u4, vo]) ∧ KL w' u1 (replA ⟨c, p, t, u, b.dropLast, d⟩ false).1.t ∧ KL w' u2 (replA ⟨c, p, t, u, b.dropLast, d⟩ false).1.u ∧ KL w' u3 (replA ⟨c, p, t, u, b.dropLast, d⟩ false).1.b ∧ KL w' u4 (replA ⟨c, p, t, u, b.dropLast, d⟩ false).1.d ∧ KL w' vo (replA ⟨c, p, t, u, b.dropLast, d⟩ false).2 ∧ Below w.heap.size w w' := by
  obtain ⟨a1, q1, rfl⟩ := h1.form
  obtain ⟨a2, q2, rfl⟩ := h2.form
  obtain ⟨a3, q3, rfl⟩ := h3.form
  obtain ⟨a4, q4, rfl⟩ := h4.form
  generalize hn1 : t.length = n1 at *
  generalize hn2 : u.length = n2 at *
  generalize hn3 : b.length = n3 at *
  generalize hn4 : d.length = n4 at *
  have HRX := Go.Lib.hid (fun (W1 : World) (x1 x2 x3 x4 : Option Addr) (m1 m2 m3 m4 r1 r2 r3 r4 : Nat) (k1 : KL W1 (.slice x1 m1 r1) t) (k2 : KL W1 (.slice x2 m2 r2) u) (k3 : KL W1 (.slice x3 m3 r3) (b.dropLast)) (k4 : KL W1 (.slice x4 m4 r4) d) => arreplace_any c p _ _ _ _ t u (b.dropLast) d false W1 hc0 (by first | omega | (rw [List.length_dropLast]; omega)) (by omega) (by first | omega | (rw [List.length_dropLast]; omega)) (by first | omega | (rw [List.length_dropLast]; omega)) k1 k2 k3 k4)
  generalize replA ⟨c, p, t, u, (b.dropLast), d⟩ false = r at *
  have HLK : Hid (b.length < 100000) := Go.Lib.hid (by omega)
  have jm : IntKind.i64.wrap (2 * c) = 2 * c := IntWalk.i64_in _ (by omega)
  have jm2 : wrap64 (2 * c) = 2 * c := by unfold wrap64; omega
  obtain ⟨W, hW⟩ : ∃ W, W = (w.alloc (.cells #[.int .i64 c, .int .i64 p, .slice a1 n1 q1, .slice a2 n2 q2, .slice a3 n3 q3, .slice a4 n4 q4] 55)).alloc (.cells #[.int .i64 0, .int .i64 0, .slice none 0 0, .slice none 0 0, .slice none 0 0, .slice none 0 0] 55) := ⟨_, rfl⟩
  have T0 : ArS w W c p (.slice a1 n1 q1) (.slice a2 n2 q2) (.slice a3 n3 q3) (.slice a4 n4 q4) t u b d := by rw [hW]; exact ArS.start h1 h2 h3 h4
  have HT0 := Go.Lib.hid T0
  have HW := Go.Lib.hid hW
  have TQa := T0.keep (Below.refl W.heap.size W).drew
  have ALa := (Below.refl W.heap.size W).alloc (Nat.le_refl _) (.cells #[.slice a1 n1 q1, .slice a3 n3 q3] 27)
  have TRa := (T0.keep ALa).keep (Below.refl _ _).drew
  have HAa := Go.Lib.hid TQa.cells
  have HBa := Go.Lib.hid TRa.cells
  have HTRa := Go.Lib.hid TRa
  have HMa := Go.Lib.hid (armany2 a1 a3 n1 q1 n3 q3 W (by omega))
  clear TQa TRa ALa
  obtain ⟨c0, c1, c2, c3, c4, c5⟩ := T0.cells
  have lc := T0.b0.lt
  clear hW T0 h1 h2 h3 h4
  clear hn1 hn2 hn3 hn4
  go_enter Tryz.func66, Tryz.ntmps66
  go_wp2_with fail
  rw [← HW.out]
  go_region_held3 (fun W' => W'.cell? ⟨w.heap.size, 0, none⟩ = some (.int .i64 c) ∧ W'.cell? ⟨w.heap.size, 1, none⟩ = some (.int .i64 p) ∧ W'.cell? ⟨w.heap.size, 2, none⟩ = some (.slice a1 n1 q1) ∧ W'.cell? ⟨w.heap.size, 3, none⟩ = some (.slice a2 n2 q2) ∧ W'.cell? ⟨w.heap.size, 4, none⟩ = some (.slice a3 n3 q3) ∧ W'.cell? ⟨w.heap.size, 5, none⟩ = some (.slice a4 n4 q4))
    (first | with_reducible exact HBa.out | exact HAa.out)
    (first | (go_at_call 68; refine HMa.out.mono ?_; rintro e w' ⟨rfl, rfl⟩))
  obtain ⟨W1, hWa⟩ : ∃ W1, W1 = (W.alloc (.cells #[.slice a1 n1 q1, .slice a3 n3 q3] 27)).drew := ⟨_, rfl⟩
  have T1 := HTRa.out
  rw [← hWa] at T1
  rw [← hWa]
  clear hWa HAa HBa HMa HTRa
  clear c0 c1 c2 c3 c4 c5 lc
  have HCT := Go.Lib.hid (arcut_any (.slice a3 n3 q3) b W1 HLK.out T1.k3)
  have HT1 := Go.Lib.hid T1
  obtain ⟨c0, c1, c2, c3, c4, c5⟩ := T1.cells
  have lc := T1.b0.lt
  clear T1
  go_wp2_with fail
  refine HCT.out.mono ?_
  rintro e w4 ⟨a9, n9, q9, rfl, hk9, ho9, hb4⟩
  have T4 := HT1.out.keep hb4
  obtain ⟨V, hV⟩ : ∃ V, V = w4.setCell ⟨w.heap.size, 4, none⟩ (.slice a9 n9 q9) := ⟨_, rfl⟩
  have T5 := T4.put4 hk9
  rw [← hV] at T5
  have HV := Go.Lib.hid hV
  have HT5 := Go.Lib.hid T5
  have HRP := Go.Lib.hid (HRX.out V _ _ _ _ _ _ _ _ _ _ _ _ T5.k1 T5.k2 T5.k3 T5.k4)
  clear c0 c1 c2 c3 c4 c5 lc
  obtain ⟨c0, c1, c2, c3, c4, c5⟩ := T4.cells
  have lc := T4.b0.lt
  have f0 := T4.b0.frozen 4
  clear hV T4 T5 hk9 ho9 hb4 HCT
  go_wp2_with fail
  rw [← HV.out]
  refine HRP.out.mono ?_
  rintro e w6 ⟨u1, u2, u3, u4, vo, rfl, hk11, hk12, hk13, hk14, hvo, hb6⟩
  obtain ⟨a11, q11, rfl⟩ := hk11.form
  obtain ⟨a12, q12, rfl⟩ := hk12.form
  obtain ⟨a13, q13, rfl⟩ := hk13.form
  obtain ⟨a14, q14, rfl⟩ := hk14.form
  obtain ⟨a15, q15, rfl⟩ := hvo.form
  generalize r.1.t.length = n11 at *
  generalize r.1.u.length = n12 at *
  generalize r.1.b.length = n13 at *
  generalize r.1.d.length = n14 at *
  generalize r.2.length = n15 at *
  have T6 := HT5.out.keep hb6
  have TO := T6.give2 c p hk11 hk12 hk13 hk14
  obtain ⟨R, hR⟩ : ∃ R, R = set6 w6 (w.heap.size + 1) c p (.slice a11 n11 q11) (.slice a12 n12 q12) (.slice a13 n13 q13) (.slice a14 n14 q14) := ⟨_, rfl⟩
  have SO : KL R (.slice a15 n15 q15) r.2 := by rw [hR]; exact T6.give_side hvo
  rw [← hR] at TO
  unfold set6 at hR
  have HR := Go.Lib.hid hR
  have HTO := Go.Lib.hid TO
  have HSO := Go.Lib.hid SO
  obtain ⟨z0, z1, z2, z3, z4, z5⟩ := T6.zeros
  have zf0 := T6.b1.frozen 0
  have zf1 := T6.b1.frozen 1
  have zf2 := T6.b1.frozen 2
  have zf3 := T6.b1.frozen 3
  have zf4 := T6.b1.frozen 4
  have zf5 := T6.b1.frozen 5
  have lz := T6.b1.lt
  obtain ⟨d0, d1, d2, d3, d4, d5⟩ := TO.cells
  have ld := TO.b1.lt
  clear hR TO SO T6 hk11 hk12 hk13 hk14 hvo hb6 HRP
  go_wp2_with fail
  rw [← HR.out]
  refine bodyPost_ret (v := .tuple #[.agg #[.int .i64 c, .int .i64 p, .slice a11 n11 q11, .slice a12 n12 q12, .slice a13 n13 q13, .slice a14 n14 q14], .slice a15 n15 q15]) (by simp [results, Tryz.results66, go_sem, d0, d1, d2, d3, d4, d5]) rfl ⟨_, _, _, _, _, rfl, HTO.out.k1, HTO.out.k2, HTO.out.k3, HTO.out.k4, HSO.out, HTO.out.hb⟩
end Go.Proofs.YtlakojncjldpbaaGreat
