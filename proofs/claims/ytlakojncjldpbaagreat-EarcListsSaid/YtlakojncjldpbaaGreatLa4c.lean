/- The lists' adaptive replacement: fresh, one way. -/
import Derived.Test.YtlakojncjldpbaaGreatLa3d
namespace Go.Proofs.YtlakojncjldpbaaGreat
open Go.RowKit Hop
set_option linter.unusedVariables false
set_option linter.unusedSimpArgs false
set_option maxRecDepth 100000
set_option maxHeartbeats 3200000 in
theorem arfresh_mid (c p : Int) (v1 v2 v3 v4 : Value) (t u b d : List Int) (w : World) (hc0 : 1 ≤ c) (hc1 : c ≤ 1000) (g1 : (t.length : Int) + (b.length : Int) < c) (g2 : ¬ (t.length : Int) + (u.length : Int) + (b.length : Int) + (d.length : Int) < c) (g3 : ¬ 2 * c ≤ (t.length : Int) + (u.length : Int) + (b.length : Int) + (d.length : Int)) (ht : t.length < 10000) (hu : u.length < 10000) (hd : b.length < 10000) (he : d.length < 10000) (h1 : KL w v1 t) (h2 : KL w v2 u) (h3 : KL w v3 b) (h4 : KL w v4 d) :
    Calls Tryz.prog 66 #[arV c p v1 v2 v3 v4] w fun e w' => ∃ u1 u2 u3 u4 vo, e = .returned (.tuple #[arV c p u1 u2 u3 u4, vo]) ∧ KL w' u1 (replA ⟨c, p, t, u, b, d⟩ false).1.t ∧ KL w' u2 (replA ⟨c, p, t, u, b, d⟩ false).1.u ∧ KL w' u3 (replA ⟨c, p, t, u, b, d⟩ false).1.b ∧ KL w' u4 (replA ⟨c, p, t, u, b, d⟩ false).1.d ∧ KL w' vo (replA ⟨c, p, t, u, b, d⟩ false).2 ∧ Below w.heap.size w w' := by
  obtain ⟨a1, q1, rfl⟩ := h1.form
  obtain ⟨a2, q2, rfl⟩ := h2.form
  obtain ⟨a3, q3, rfl⟩ := h3.form
  obtain ⟨a4, q4, rfl⟩ := h4.form
  generalize hn1 : t.length = n1 at *
  generalize hn2 : u.length = n2 at *
  generalize hn3 : b.length = n3 at *
  generalize hn4 : d.length = n4 at *
  have HRX := Go.Lib.hid (fun (W1 : World) (x1 x2 x3 x4 : Option Addr) (m1 m2 m3 m4 r1 r2 r3 r4 : Nat) (k1 : KL W1 (.slice x1 m1 r1) t) (k2 : KL W1 (.slice x2 m2 r2) u) (k3 : KL W1 (.slice x3 m3 r3) b) (k4 : KL W1 (.slice x4 m4 r4) d) => arreplace_any c p _ _ _ _ t u b d false W1 hc0 (by first | omega | (rw [List.length_dropLast]; omega)) (by omega) (by first | omega | (rw [List.length_dropLast]; omega)) (by first | omega | (rw [List.length_dropLast]; omega)) k1 k2 k3 k4)
  generalize replA ⟨c, p, t, u, b, d⟩ false = r at *
  have jm : IntKind.i64.wrap (2 * c) = 2 * c := IntWalk.i64_in _ (by omega)
  have jm2 : wrap64 (2 * c) = 2 * c := by unfold wrap64; omega
  obtain ⟨W, hW⟩ : ∃ W, W = (w.alloc (.cells #[.int .i64 c, .int .i64 p, .slice a1 n1 q1, .slice a2 n2 q2, .slice a3 n3 q3, .slice a4 n4 q4] 55)).alloc (.cells #[.int .i64 0, .int .i64 0, .slice none 0 0, .slice none 0 0, .slice none 0 0, .slice none 0 0] 55) := ⟨_, rfl⟩
  have T0 : ArS w W c p (.slice a1 n1 q1) (.slice a2 n2 q2) (.slice a3 n3 q3) (.slice a4 n4 q4) t u b d := by rw [hW]; exact ArS.start h1 h2 h3 h4
  have HT0 := Go.Lib.hid T0
  have HW := Go.Lib.hid hW
  have TQa := T0.keep (Below.refl W.heap.size W).drew
  have ALa := (Below.refl W.heap.size W).alloc (Nat.le_refl _) (.cells #[.slice a1 n1 q1, .slice a3 n3 q3] 27)
  have TRa := (T0.keep ALa).keep (Below.refl _ _).drew
  have HAa := Go.Lib.hid TQa.cells
  have HBa := Go.Lib.hid TRa.cells
  have HTRa := Go.Lib.hid TRa
  have HMa := Go.Lib.hid (armany2 a1 a3 n1 q1 n3 q3 W (by omega))
  clear TQa TRa ALa
  obtain ⟨c0, c1, c2, c3, c4, c5⟩ := T0.cells
  have lc := T0.b0.lt
  clear hW T0 h1 h2 h3 h4
  clear hn1 hn2 hn3 hn4
  go_enter Tryz.func66, Tryz.ntmps66
  go_wp2_with fail
  rw [← HW.out]
  go_region_held3 (fun W' => W'.cell? ⟨w.heap.size, 0, none⟩ = some (.int .i64 c) ∧ W'.cell? ⟨w.heap.size, 1, none⟩ = some (.int .i64 p) ∧ W'.cell? ⟨w.heap.size, 2, none⟩ = some (.slice a1 n1 q1) ∧ W'.cell? ⟨w.heap.size, 3, none⟩ = some (.slice a2 n2 q2) ∧ W'.cell? ⟨w.heap.size, 4, none⟩ = some (.slice a3 n3 q3) ∧ W'.cell? ⟨w.heap.size, 5, none⟩ = some (.slice a4 n4 q4))
    (first | with_reducible exact HBa.out | exact HAa.out)
    (first | (go_at_call 68; refine HMa.out.mono ?_; rintro e w' ⟨rfl, rfl⟩))
  obtain ⟨W1, hWa⟩ : ∃ W1, W1 = (W.alloc (.cells #[.slice a1 n1 q1, .slice a3 n3 q3] 27)).drew := ⟨_, rfl⟩
  have T1 := HTRa.out
  rw [← hWa] at T1
  rw [← hWa]
  clear hWa HAa HBa HMa HTRa
  clear c0 c1 c2 c3 c4 c5 lc
  have TQb := T1.keep (Below.refl W1.heap.size W1).drew
  have ALb := (Below.refl W1.heap.size W1).alloc (Nat.le_refl _) (.cells #[.slice a1 n1 q1, .slice a2 n2 q2, .slice a3 n3 q3, .slice a4 n4 q4] 27)
  have TRb := (T1.keep ALb).keep (Below.refl _ _).drew
  have HAb := Go.Lib.hid TQb.cells
  have HBb := Go.Lib.hid TRb.cells
  have HTRb := Go.Lib.hid TRb
  have HMb := Go.Lib.hid (armany4 a1 a2 a3 a4 n1 q1 n2 q2 n3 q3 n4 q4 W1 (by omega))
  clear TQb TRb ALb
  obtain ⟨c0, c1, c2, c3, c4, c5⟩ := T1.cells
  have lc := T1.b0.lt
  clear T1
  go_wp2_with fail
  go_region_held3 (fun W' => W'.cell? ⟨w.heap.size, 0, none⟩ = some (.int .i64 c) ∧ W'.cell? ⟨w.heap.size, 1, none⟩ = some (.int .i64 p) ∧ W'.cell? ⟨w.heap.size, 2, none⟩ = some (.slice a1 n1 q1) ∧ W'.cell? ⟨w.heap.size, 3, none⟩ = some (.slice a2 n2 q2) ∧ W'.cell? ⟨w.heap.size, 4, none⟩ = some (.slice a3 n3 q3) ∧ W'.cell? ⟨w.heap.size, 5, none⟩ = some (.slice a4 n4 q4))
    (first | with_reducible exact HBb.out | exact HAb.out)
    (first | (go_at_call 68; refine HMb.out.mono ?_; rintro e w' ⟨rfl, rfl⟩))
  obtain ⟨W2, hWb⟩ : ∃ W2, W2 = (W1.alloc (.cells #[.slice a1 n1 q1, .slice a2 n2 q2, .slice a3 n3 q3, .slice a4 n4 q4] 27)).drew := ⟨_, rfl⟩
  have T2 := HTRb.out
  rw [← hWb] at T2
  rw [← hWb]
  clear hWb HAb HBb HMb HTRb
  clear c0 c1 c2 c3 c4 c5 lc
  have TQd := T2.keep (Below.refl W2.heap.size W2).drew
  have ALd := (Below.refl W2.heap.size W2).alloc (Nat.le_refl _) (.cells #[.slice a1 n1 q1, .slice a2 n2 q2, .slice a3 n3 q3, .slice a4 n4 q4] 27)
  have TRd := (T2.keep ALd).keep (Below.refl _ _).drew
  have HAd := Go.Lib.hid TQd.cells
  have HBd := Go.Lib.hid TRd.cells
  have HTRd := Go.Lib.hid TRd
  have HMd := Go.Lib.hid (armany4 a1 a2 a3 a4 n1 q1 n2 q2 n3 q3 n4 q4 W2 (by omega))
  clear TQd TRd ALd
  obtain ⟨c0, c1, c2, c3, c4, c5⟩ := T2.cells
  have lc := T2.b0.lt
  clear T2
  go_wp2_with fail
  go_region_held3 (fun W' => W'.cell? ⟨w.heap.size, 0, none⟩ = some (.int .i64 c) ∧ W'.cell? ⟨w.heap.size, 1, none⟩ = some (.int .i64 p) ∧ W'.cell? ⟨w.heap.size, 2, none⟩ = some (.slice a1 n1 q1) ∧ W'.cell? ⟨w.heap.size, 3, none⟩ = some (.slice a2 n2 q2) ∧ W'.cell? ⟨w.heap.size, 4, none⟩ = some (.slice a3 n3 q3) ∧ W'.cell? ⟨w.heap.size, 5, none⟩ = some (.slice a4 n4 q4))
    (first | with_reducible exact HBd.out | exact HAd.out)
    (first | (go_at_call 68; refine HMd.out.mono ?_; rintro e w' ⟨rfl, rfl⟩))
  obtain ⟨W3, hWd⟩ : ∃ W3, W3 = (W2.alloc (.cells #[.slice a1 n1 q1, .slice a2 n2 q2, .slice a3 n3 q3, .slice a4 n4 q4] 27)).drew := ⟨_, rfl⟩
  have T3 := HTRd.out
  rw [← hWd] at T3
  rw [← hWd]
  clear hWd HAd HBd HMd HTRd
  clear c0 c1 c2 c3 c4 c5 lc
  have HRP := Go.Lib.hid (HRX.out W3 _ _ _ _ _ _ _ _ _ _ _ _ T3.k1 T3.k2 T3.k3 T3.k4)
  have HT3 := Go.Lib.hid T3
  obtain ⟨c0, c1, c2, c3, c4, c5⟩ := T3.cells
  have lc := T3.b0.lt
  clear T3
  go_wp2_with fail
  refine HRP.out.mono ?_
  rintro e w6 ⟨u1, u2, u3, u4, vo, rfl, hk11, hk12, hk13, hk14, hvo, hb6⟩
  obtain ⟨a11, q11, rfl⟩ := hk11.form
  obtain ⟨a12, q12, rfl⟩ := hk12.form
  obtain ⟨a13, q13, rfl⟩ := hk13.form
  obtain ⟨a14, q14, rfl⟩ := hk14.form
  obtain ⟨a15, q15, rfl⟩ := hvo.form
  generalize r.1.t.length = n11 at *
  generalize r.1.u.length = n12 at *
  generalize r.1.b.length = n13 at *
  generalize r.1.d.length = n14 at *
  generalize r.2.length = n15 at *
  have T6 := HT3.out.keep hb6
  have TO := T6.give2 c p hk11 hk12 hk13 hk14
  obtain ⟨R, hR⟩ : ∃ R, R = set6 w6 (w.heap.size + 1) c p (.slice a11 n11 q11) (.slice a12 n12 q12) (.slice a13 n13 q13) (.slice a14 n14 q14) := ⟨_, rfl⟩
  have SO : KL R (.slice a15 n15 q15) r.2 := by rw [hR]; exact T6.give_side hvo
  rw [← hR] at TO
  unfold set6 at hR
  have HR := Go.Lib.hid hR
  have HTO := Go.Lib.hid TO
  have HSO := Go.Lib.hid SO
  obtain ⟨z0, z1, z2, z3, z4, z5⟩ := T6.zeros
  have zf0 := T6.b1.frozen 0
  have zf1 := T6.b1.frozen 1
  have zf2 := T6.b1.frozen 2
  have zf3 := T6.b1.frozen 3
  have zf4 := T6.b1.frozen 4
  have zf5 := T6.b1.frozen 5
  have lz := T6.b1.lt
  obtain ⟨d0, d1, d2, d3, d4, d5⟩ := TO.cells
  have ld := TO.b1.lt
  clear hR TO SO T6 hk11 hk12 hk13 hk14 hvo hb6 HRP
  go_wp2_with fail
  rw [← HR.out]
  refine bodyPost_ret (v := .tuple #[.agg #[.int .i64 c, .int .i64 p, .slice a11 n11 q11, .slice a12 n12 q12, .slice a13 n13 q13, .slice a14 n14 q14], .slice a15 n15 q15]) (by simp [results, Tryz.results66, go_sem, d0, d1, d2, d3, d4, d5]) rfl ⟨_, _, _, _, _, rfl, HTO.out.k1, HTO.out.k2, HTO.out.k3, HTO.out.k4, HSO.out, HTO.out.hb⟩
set_option maxHeartbeats 3200000 in
theorem arfresh_last (c p : Int) (v1 v2 v3 v4 : Value) (t u b d : List Int) (w : World) (hc0 : 1 ≤ c) (hc1 : c ≤ 1000) (g1 : ¬ (t.length : Int) + (b.length : Int) < c) (g4 : ¬ (t.length : Int) < c) (ht : t.length < 10000) (hu : u.length < 10000) (hd : b.length < 10000) (he : d.length < 10000) (h1 : KL w v1 t) (h2 : KL w v2 u) (h3 : KL w v3 b) (h4 : KL w v4 d) :
    Calls Tryz.prog 66 #[arV c p v1 v2 v3 v4] w fun e w' => ∃ u1 u2 u3 u4 vo, e = .returned (.tuple #[arV c p u1 u2 u3 u4, vo]) ∧ KL w' u1 (((⟨c, p, t.dropLast, u, b, d⟩ : AS), [t.getLastD 0])).1.t ∧ KL w' u2 (((⟨c, p, t.dropLast, u, b, d⟩ : AS), [t.getLastD 0])).1.u ∧ KL w' u3 (((⟨c, p, t.dropLast, u, b, d⟩ : AS), [t.getLastD 0])).1.b ∧ KL w' u4 (((⟨c, p, t.dropLast, u, b, d⟩ : AS), [t.getLastD 0])).1.d ∧ KL w' vo (((⟨c, p, t.dropLast, u, b, d⟩ : AS), [t.getLastD 0])).2 ∧ Below w.heap.size w w' := by
  obtain ⟨a1, q1, rfl⟩ := h1.form
  obtain ⟨a2, q2, rfl⟩ := h2.form
  obtain ⟨a3, q3, rfl⟩ := h3.form
  obtain ⟨a4, q4, rfl⟩ := h4.form
  generalize hn1 : t.length = n1 at *
  generalize hn2 : u.length = n2 at *
  generalize hn3 : b.length = n3 at *
  generalize hn4 : d.length = n4 at *
  have HLK : Hid (t.length < 100000) := Go.Lib.hid (by omega)
  generalize hxx : t.getLastD 0 = x
  have HX := Go.Lib.hid hxx
  clear hxx
  obtain ⟨W, hW⟩ : ∃ W, W = (w.alloc (.cells #[.int .i64 c, .int .i64 p, .slice a1 n1 q1, .slice a2 n2 q2, .slice a3 n3 q3, .slice a4 n4 q4] 55)).alloc (.cells #[.int .i64 0, .int .i64 0, .slice none 0 0, .slice none 0 0, .slice none 0 0, .slice none 0 0] 55) := ⟨_, rfl⟩
  have T0 : ArS w W c p (.slice a1 n1 q1) (.slice a2 n2 q2) (.slice a3 n3 q3) (.slice a4 n4 q4) t u b d := by rw [hW]; exact ArS.start h1 h2 h3 h4
  have HT0 := Go.Lib.hid T0
  have HW := Go.Lib.hid hW
  have TQa := T0.keep (Below.refl W.heap.size W).drew
  have ALa := (Below.refl W.heap.size W).alloc (Nat.le_refl _) (.cells #[.slice a1 n1 q1, .slice a3 n3 q3] 27)
  have TRa := (T0.keep ALa).keep (Below.refl _ _).drew
  have HAa := Go.Lib.hid TQa.cells
  have HBa := Go.Lib.hid TRa.cells
  have HTRa := Go.Lib.hid TRa
  have HMa := Go.Lib.hid (armany2 a1 a3 n1 q1 n3 q3 W (by omega))
  clear TQa TRa ALa
  obtain ⟨c0, c1, c2, c3, c4, c5⟩ := T0.cells
  have lc := T0.b0.lt
  clear hW T0 h1 h2 h3 h4
  clear hn1 hn2 hn3 hn4
  go_enter Tryz.func66, Tryz.ntmps66
  go_wp2_with fail
  rw [← HW.out]
  go_region_held3 (fun W' => W'.cell? ⟨w.heap.size, 0, none⟩ = some (.int .i64 c) ∧ W'.cell? ⟨w.heap.size, 1, none⟩ = some (.int .i64 p) ∧ W'.cell? ⟨w.heap.size, 2, none⟩ = some (.slice a1 n1 q1) ∧ W'.cell? ⟨w.heap.size, 3, none⟩ = some (.slice a2 n2 q2) ∧ W'.cell? ⟨w.heap.size, 4, none⟩ = some (.slice a3 n3 q3) ∧ W'.cell? ⟨w.heap.size, 5, none⟩ = some (.slice a4 n4 q4))
    (first | with_reducible exact HBa.out | exact HAa.out)
    (first | (go_at_call 68; refine HMa.out.mono ?_; rintro e w' ⟨rfl, rfl⟩))
  obtain ⟨W1, hWa⟩ : ∃ W1, W1 = (W.alloc (.cells #[.slice a1 n1 q1, .slice a3 n3 q3] 27)).drew := ⟨_, rfl⟩
  have T1 := HTRa.out
  rw [← hWa] at T1
  rw [← hWa]
  clear hWa HAa HBa HMa HTRa
  clear c0 c1 c2 c3 c4 c5 lc
  have HBK := Go.Lib.hid (back_a (.slice a1 n1 q1) t W1 HLK.out T1.k1)
  have HT1 := Go.Lib.hid T1
  obtain ⟨c0, c1, c2, c3, c4, c5⟩ := T1.cells
  have lc := T1.b0.lt
  clear T1
  rw [HX.out] at HBK
  go_wp2_with fail
  refine HBK.out.mono ?_
  rintro e w4 ⟨a9, n9, q9, y, rfl, hk9, ho9, hb4⟩
  have T4 := HT1.out.keep hb4
  obtain ⟨V, hV⟩ : ∃ V, V = w4.setCell ⟨w.heap.size, 2, none⟩ (.slice a9 n9 q9) := ⟨_, rfl⟩
  have T5 := T4.put2 hk9
  rw [← hV] at T5
  have hsz : V.heap.size = w4.heap.size := by rw [hV]; simp
  obtain ⟨V2, hV2⟩ : ∃ V2, V2 = set6 V (w.heap.size + 1) c p (.slice a9 n9 q9) (.slice a2 n2 q2) (.slice a3 n3 q3) (.slice a4 n4 q4) := ⟨_, rfl⟩
  have TO0 := T5.give
  rw [← hV2] at TO0
  have hsz2 : V2.heap.size = w4.heap.size := by rw [hV2, ← hsz]; simp
  unfold set6 at hV2
  obtain ⟨R, hR⟩ : ∃ R, R = V2.alloc (.cells #[.int .u64 x] 32) := ⟨_, rfl⟩
  have TO := TO0.keep ((Below.refl V2.heap.size V2).alloc (Nat.le_refl _) (.cells #[.int .u64 x] 32))
  rw [← hR] at TO
  have SO : KL R (.slice (some ⟨w4.heap.size, 0, none⟩) 1 1) [x] := by rw [hR, ← hsz2]; exact KL.lit V2 x
  rw [hV2, hV] at hR
  have HR := Go.Lib.hid hR
  have HTO := Go.Lib.hid TO
  have HSO := Go.Lib.hid SO
  clear c0 c1 c2 c3 c4 c5 lc
  obtain ⟨c0, c1, c2, c3, c4, c5⟩ := T4.cells
  have lc := T4.b0.lt
  have f0 := T4.b0.frozen 2
  obtain ⟨z0, z1, z2, z3, z4, z5⟩ := T4.zeros
  have zf0 := T4.b1.frozen 0
  have zf1 := T4.b1.frozen 1
  have zf2 := T4.b1.frozen 2
  have zf3 := T4.b1.frozen 3
  have zf4 := T4.b1.frozen 4
  have zf5 := T4.b1.frozen 5
  have lz := T4.b1.lt
  obtain ⟨d0, d1, d2, d3, d4, d5⟩ := TO.cells
  have ld := TO.b1.lt
  clear hR TO SO T4 T5 TO0 hV hV2 hsz hsz2 hk9 ho9 hb4 HBK
  have hne : w.heap.size ≠ w.heap.size + 1 := by omega
  have hne2 : w.heap.size + 1 ≠ w.heap.size := by omega
  go_wp2_with fail
  rw [← HR.out]
  refine bodyPost_ret (v := .tuple #[.agg #[.int .i64 c, .int .i64 p, .slice a9 n9 q9, .slice a2 n2 q2, .slice a3 n3 q3, .slice a4 n4 q4], .slice (some ⟨w4.heap.size, 0, none⟩) 1 1]) (by simp [results, Tryz.results66, go_sem, d0, d1, d2, d3, d4, d5]) rfl ⟨_, _, _, _, _, rfl, HTO.out.k1, HTO.out.k2, HTO.out.k3, HTO.out.k4, HSO.out, HTO.out.hb⟩
end Go.Proofs.YtlakojncjldpbaaGreat
