/- The lists' adaptive replacement: replace, one way. -/
import Derived.Test.YtlakojncjldpbaaGreatLa3
namespace Go.Proofs.YtlakojncjldpbaaGreat
open Go.RowKit Hop
set_option linter.unusedVariables false
set_option linter.unusedSimpArgs false
set_option maxRecDepth 100000
set_option maxHeartbeats 3200000 in
theorem arrepl_d1 (c p : Int) (v1 v2 v3 v4 : Value) (t u b d : List Int) (w : World) (hc0 : 1 ≤ c) (hlt : ¬ (t.length : Int) + (u.length : Int) < c) (h0 : 0 < (t.length : Int)) (hp : ¬ p < (t.length : Int)) (hq1 : ((t.length : Int) == p) = true) (hz1 : ((u.length : Int) == 0) = false) (ht : t.length < 10000) (hu : u.length < 10000) (hd : b.length < 10000) (he : d.length < 10000) (h1 : KL w v1 t) (h2 : KL w v2 u) (h3 : KL w v3 b) (h4 : KL w v4 d) :
    Calls Tryz.prog 67 #[arV c p v1 v2 v3 v4, .bool false] w fun e w' => ∃ u1 u2 u3 u4 vo, e = .returned (.tuple #[arV c p u1 u2 u3 u4, vo]) ∧ KL w' u1 (evictA ⟨c, p, t, u, b, d⟩ false).1.t ∧ KL w' u2 (evictA ⟨c, p, t, u, b, d⟩ false).1.u ∧ KL w' u3 (evictA ⟨c, p, t, u, b, d⟩ false).1.b ∧ KL w' u4 (evictA ⟨c, p, t, u, b, d⟩ false).1.d ∧ KL w' vo (evictA ⟨c, p, t, u, b, d⟩ false).2 ∧ Below w.heap.size w w' := by
  obtain ⟨a1, q1, rfl⟩ := h1.form
  obtain ⟨a2, q2, rfl⟩ := h2.form
  obtain ⟨a3, q3, rfl⟩ := h3.form
  obtain ⟨a4, q4, rfl⟩ := h4.form
  generalize hn1 : t.length = n1 at *
  generalize hn2 : u.length = n2 at *
  generalize hn3 : b.length = n3 at *
  generalize hn4 : d.length = n4 at *
  have h0n : 0 < n1 := by omega
  have HDX := Go.Lib.hid (fun (W1 : World) (k1 : KL W1 (.slice a1 n1 q1) t) (k2 : KL W1 (.slice a2 n2 q2) u) (k3 : KL W1 (.slice a3 n3 q3) b) (k4 : KL W1 (.slice a4 n4 q4) d) => ardemote_any c p _ _ _ _ t u b d false W1 (by omega) (by omega) (by omega) (by omega) k1 k2 k3 k4)
  generalize evictA ⟨c, p, t, u, b, d⟩ false = r at *
  obtain ⟨W, hW⟩ : ∃ W, W = (w.alloc (.cells #[.int .i64 c, .int .i64 p, .slice a1 n1 q1, .slice a2 n2 q2, .slice a3 n3 q3, .slice a4 n4 q4] 55)).alloc (.cells #[.int .i64 0, .int .i64 0, .slice none 0 0, .slice none 0 0, .slice none 0 0, .slice none 0 0] 55) := ⟨_, rfl⟩
  have T0 : ArS w W c p (.slice a1 n1 q1) (.slice a2 n2 q2) (.slice a3 n3 q3) (.slice a4 n4 q4) t u b d := by rw [hW]; exact ArS.start h1 h2 h3 h4
  have HT0 := Go.Lib.hid T0
  have HW := Go.Lib.hid hW
  have TQa := T0.keep (Below.refl W.heap.size W).drew
  have ALa := (Below.refl W.heap.size W).alloc (Nat.le_refl _) (.cells #[.slice a1 n1 q1, .slice a2 n2 q2] 27)
  have TRa := (T0.keep ALa).keep (Below.refl _ _).drew
  have HAa := Go.Lib.hid TQa.cells
  have HBa := Go.Lib.hid TRa.cells
  have HTRa := Go.Lib.hid TRa
  have HMa := Go.Lib.hid (armany2 a1 a2 n1 q1 n2 q2 W (by omega))
  clear TQa TRa ALa
  obtain ⟨c0, c1, c2, c3, c4, c5⟩ := T0.cells
  have lc := T0.b0.lt
  clear hW T0 h1 h2 h3 h4
  clear hn1 hn2 hn3 hn4
  go_enter Tryz.func67, Tryz.ntmps67
  go_wp2_with fail
  rw [← HW.out]
  go_region_held3 (fun W' => W'.cell? ⟨w.heap.size, 0, none⟩ = some (.int .i64 c) ∧ W'.cell? ⟨w.heap.size, 1, none⟩ = some (.int .i64 p) ∧ W'.cell? ⟨w.heap.size, 2, none⟩ = some (.slice a1 n1 q1) ∧ W'.cell? ⟨w.heap.size, 3, none⟩ = some (.slice a2 n2 q2) ∧ W'.cell? ⟨w.heap.size, 4, none⟩ = some (.slice a3 n3 q3) ∧ W'.cell? ⟨w.heap.size, 5, none⟩ = some (.slice a4 n4 q4))
    (first | with_reducible exact HBa.out | exact HAa.out)
    (first | (go_at_call 68; refine HMa.out.mono ?_; rintro e w' ⟨rfl, rfl⟩))
  obtain ⟨W1, hWa⟩ : ∃ W1, W1 = (W.alloc (.cells #[.slice a1 n1 q1, .slice a2 n2 q2] 27)).drew := ⟨_, rfl⟩
  have T1 := HTRa.out
  rw [← hWa] at T1
  rw [← hWa]
  clear hWa HAa HBa HMa HTRa
  clear c0 c1 c2 c3 c4 c5 lc
  have HDM := Go.Lib.hid (HDX.out W1 T1.k1 T1.k2 T1.k3 T1.k4)
  obtain ⟨c0, c1, c2, c3, c4, c5⟩ := T1.cells
  have lc := T1.b0.lt
  have HT1 := Go.Lib.hid T1
  clear T1
  go_wp2_with fail
  refine HDM.out.mono ?_
  rintro e w5 ⟨a5, n5, q5, a6, n6, q6, a7, n7, q7, a8, n8, q8, x, rfl, hk5, hk6, hk7, hk8, hx, hb5⟩
  have T5 := HT1.out.keep hb5
  obtain ⟨V, hV⟩ : ∃ V, V = set6 w5 w.heap.size c p (.slice a5 n5 q5) (.slice a6 n6 q6) (.slice a7 n7 q7) (.slice a8 n8 q8) := ⟨_, rfl⟩
  have T6 := T5.put6 c p hk5 hk6 hk7 hk8
  rw [← hV] at T6
  have hsz : V.heap.size = w5.heap.size := by rw [hV]; simp
  unfold set6 at hV
  obtain ⟨V2, hV2⟩ : ∃ V2, V2 = set6 V (w.heap.size + 1) c p (.slice a5 n5 q5) (.slice a6 n6 q6) (.slice a7 n7 q7) (.slice a8 n8 q8) := ⟨_, rfl⟩
  have TO0 := T6.give
  rw [← hV2] at TO0
  have hsz2 : V2.heap.size = w5.heap.size := by rw [hV2, ← hsz]; simp
  unfold set6 at hV2
  obtain ⟨R, hR⟩ : ∃ R, R = V2.alloc (.cells #[.int .u64 x] 32) := ⟨_, rfl⟩
  have TO := TO0.keep ((Below.refl V2.heap.size V2).alloc (Nat.le_refl _) (.cells #[.int .u64 x] 32))
  rw [← hR] at TO
  have SO : KL R (.slice (some ⟨w5.heap.size, 0, none⟩) 1 1) r.2 := by rw [hR, ← hsz2, hx]; exact KL.lit V2 x
  rw [hV2, hV] at hR
  have HR := Go.Lib.hid hR
  have HTO := Go.Lib.hid TO
  have HSO := Go.Lib.hid SO
  clear c0 c1 c2 c3 c4 c5 lc
  obtain ⟨g0, g1, g2, g3, g4, g5⟩ := T5.cells
  have lg := T5.b0.lt
  have f0 := T5.b0.frozen 0
  have f1 := T5.b0.frozen 1
  have f2 := T5.b0.frozen 2
  have f3 := T5.b0.frozen 3
  have f4 := T5.b0.frozen 4
  have f5 := T5.b0.frozen 5
  obtain ⟨z0, z1, z2, z3, z4, z5⟩ := T5.zeros
  have zf0 := T5.b1.frozen 0
  have zf1 := T5.b1.frozen 1
  have zf2 := T5.b1.frozen 2
  have zf3 := T5.b1.frozen 3
  have zf4 := T5.b1.frozen 4
  have zf5 := T5.b1.frozen 5
  have lz := T5.b1.lt
  obtain ⟨d0, d1, d2, d3, d4, d5⟩ := TO.cells
  have ld := TO.b1.lt
  clear hR TO SO T5 T6 TO0 hV hV2 hsz hsz2 hk5 hk6 hk7 hk8 hx hb5 HDM
  have hne : w.heap.size ≠ w.heap.size + 1 := by omega
  have hne2 : w.heap.size + 1 ≠ w.heap.size := by omega
  go_wp2_with fail
  rw [← HR.out]
  refine bodyPost_ret (v := .tuple #[.agg #[.int .i64 c, .int .i64 p, .slice a5 n5 q5, .slice a6 n6 q6, .slice a7 n7 q7, .slice a8 n8 q8], .slice (some ⟨w5.heap.size, 0, none⟩) 1 1]) (by simp [results, Tryz.results67, go_sem, d0, d1, d2, d3, d4, d5]) rfl ⟨_, _, _, _, _, rfl, HTO.out.k1, HTO.out.k2, HTO.out.k3, HTO.out.k4, HSO.out, HTO.out.hb⟩
end Go.Proofs.YtlakojncjldpbaaGreat
