/- The lists' adaptive replacement: copied, Has, demote. -/
import Derived.Test.YtlakojncjldpbaaGreatLa1
namespace Go.Proofs.YtlakojncjldpbaaGreat
open Go.RowKit Hop
set_option linter.unusedVariables false
set_option linter.unusedSimpArgs false
set_option maxRecDepth 100000
set_option maxHeartbeats 12800000 in
theorem arcopied_any (c p : Int) (v1 v2 v3 v4 : Value) (t u b d : List Int) (w : World) (ht : t.length < 50000) (hu : u.length < 50000) (hd : b.length < 50000) (he : d.length < 50000) (h1 : KL w v1 t) (h2 : KL w v2 u) (h3 : KL w v3 b) (h4 : KL w v4 d) :
    Calls Tryz.prog 63 #[arV c p v1 v2 v3 v4] w fun e w' => ∃ a1 n1 q1 a2 n2 q2 a3 n3 q3 a4 n4 q4, e = .returned (arV c p (.slice a1 n1 q1) (.slice a2 n2 q2) (.slice a3 n3 q3) (.slice a4 n4 q4)) ∧ KL w' (.slice a1 n1 q1) t ∧ KL w' (.slice a2 n2 q2) u ∧ KL w' (.slice a3 n3 q3) b ∧ KL w' (.slice a4 n4 q4) d ∧ Below w.heap.size w w' := by
  obtain ⟨a1, q1, rfl⟩ := h1.form
  obtain ⟨a2, q2, rfl⟩ := h2.form
  obtain ⟨a3, q3, rfl⟩ := h3.form
  obtain ⟨a4, q4, rfl⟩ := h4.form
  generalize hn1 : t.length = n1 at *
  generalize hn2 : u.length = n2 at *
  generalize hn3 : b.length = n3 at *
  generalize hn4 : d.length = n4 at *
  obtain ⟨W, hW⟩ : ∃ W, W = (w.alloc (.cells #[.int .i64 c, .int .i64 p, .slice a1 n1 q1, .slice a2 n2 q2, .slice a3 n3 q3, .slice a4 n4 q4] 55)).alloc (.cells #[.int .i64 0, .int .i64 0, .slice none 0 0, .slice none 0 0, .slice none 0 0, .slice none 0 0] 55) := ⟨_, rfl⟩
  have T0 : ArS w W c p (.slice a1 n1 q1) (.slice a2 n2 q2) (.slice a3 n3 q3) (.slice a4 n4 q4) t u b d := by rw [hW]; exact ArS.start h1 h2 h3 h4
  have HT0 := Go.Lib.hid T0
  have HW := Go.Lib.hid hW
  have Dr := (Below.refl W.heap.size W).drew
  have TQ := T0.keep Dr
  have H1 := Go.Lib.hid (clone_a _ t W.drew (by omega) TQ.k1)
  have H2 := Go.Lib.hid (fun W' (hb : Below W.drew.heap.size W.drew W') => clone_a _ u W' (by omega) (TQ.k2.keep hb))
  have H3 := Go.Lib.hid (fun W' (hb : Below W.drew.heap.size W.drew W') => clone_a _ b W' (by omega) (TQ.k3.keep hb))
  have H4 := Go.Lib.hid (fun W' (hb : Below W.drew.heap.size W.drew W') => clone_a _ d W' (by omega) (TQ.k4.keep hb))
  have HS0 := Go.Lib.hid TQ.cells
  have HS := Go.Lib.hid (fun W' (hb : Below W.drew.heap.size W.drew W') => (TQ.keep hb).cells)
  have HS3 := Go.Lib.hid (fun W' x0 x1 x2 x3 x4 x5 (hb : Below W.drew.heap.size W.drew W') => (have q := (((((((TQ.keep hb).b0.set_ne (a := ⟨w.heap.size + 1, 0, none⟩) (by simp) x0).set_ne (a := ⟨w.heap.size + 1, 1, none⟩) (by simp) x1).set_ne (a := ⟨w.heap.size + 1, 2, none⟩) (by simp) x2).set_ne (a := ⟨w.heap.size + 1, 3, none⟩) (by simp) x3).set_ne (a := ⟨w.heap.size + 1, 4, none⟩) (by simp) x4).set_ne (a := ⟨w.heap.size + 1, 5, none⟩) (by simp) x5); (⟨q.cell 0, q.cell 1, q.cell 2, q.cell 3, q.cell 4, q.cell 5⟩ : ((((((W'.setCell ⟨w.heap.size + 1, 0, none⟩ x0).setCell ⟨w.heap.size + 1, 1, none⟩ x1).setCell ⟨w.heap.size + 1, 2, none⟩ x2).setCell ⟨w.heap.size + 1, 3, none⟩ x3).setCell ⟨w.heap.size + 1, 4, none⟩ x4).setCell ⟨w.heap.size + 1, 5, none⟩ x5).cell? ⟨w.heap.size, 0, none⟩ = some (.int .i64 c) ∧ ((((((W'.setCell ⟨w.heap.size + 1, 0, none⟩ x0).setCell ⟨w.heap.size + 1, 1, none⟩ x1).setCell ⟨w.heap.size + 1, 2, none⟩ x2).setCell ⟨w.heap.size + 1, 3, none⟩ x3).setCell ⟨w.heap.size + 1, 4, none⟩ x4).setCell ⟨w.heap.size + 1, 5, none⟩ x5).cell? ⟨w.heap.size, 1, none⟩ = some (.int .i64 p) ∧ ((((((W'.setCell ⟨w.heap.size + 1, 0, none⟩ x0).setCell ⟨w.heap.size + 1, 1, none⟩ x1).setCell ⟨w.heap.size + 1, 2, none⟩ x2).setCell ⟨w.heap.size + 1, 3, none⟩ x3).setCell ⟨w.heap.size + 1, 4, none⟩ x4).setCell ⟨w.heap.size + 1, 5, none⟩ x5).cell? ⟨w.heap.size, 2, none⟩ = some (.slice a1 n1 q1) ∧ ((((((W'.setCell ⟨w.heap.size + 1, 0, none⟩ x0).setCell ⟨w.heap.size + 1, 1, none⟩ x1).setCell ⟨w.heap.size + 1, 2, none⟩ x2).setCell ⟨w.heap.size + 1, 3, none⟩ x3).setCell ⟨w.heap.size + 1, 4, none⟩ x4).setCell ⟨w.heap.size + 1, 5, none⟩ x5).cell? ⟨w.heap.size, 3, none⟩ = some (.slice a2 n2 q2) ∧ ((((((W'.setCell ⟨w.heap.size + 1, 0, none⟩ x0).setCell ⟨w.heap.size + 1, 1, none⟩ x1).setCell ⟨w.heap.size + 1, 2, none⟩ x2).setCell ⟨w.heap.size + 1, 3, none⟩ x3).setCell ⟨w.heap.size + 1, 4, none⟩ x4).setCell ⟨w.heap.size + 1, 5, none⟩ x5).cell? ⟨w.heap.size, 4, none⟩ = some (.slice a3 n3 q3) ∧ ((((((W'.setCell ⟨w.heap.size + 1, 0, none⟩ x0).setCell ⟨w.heap.size + 1, 1, none⟩ x1).setCell ⟨w.heap.size + 1, 2, none⟩ x2).setCell ⟨w.heap.size + 1, 3, none⟩ x3).setCell ⟨w.heap.size + 1, 4, none⟩ x4).setCell ⟨w.heap.size + 1, 5, none⟩ x5).cell? ⟨w.heap.size, 5, none⟩ = some (.slice a4 n4 q4))))
  have HQ := Go.Lib.hid (fun W' (hb : Below W.drew.heap.size W.drew W') => TQ.keep hb)
  clear hW T0 Dr TQ h1 h2 h3 h4
  go_enter Tryz.func63, Tryz.ntmps63
  go_wp2_with fail
  rw [← HW.out]
  go_region_held3 (fun W' => W'.cell? ⟨w.heap.size, 0, none⟩ = some (.int .i64 c) ∧ W'.cell? ⟨w.heap.size, 1, none⟩ = some (.int .i64 p) ∧ W'.cell? ⟨w.heap.size, 2, none⟩ = some (.slice a1 n1 q1) ∧ W'.cell? ⟨w.heap.size, 3, none⟩ = some (.slice a2 n2 q2) ∧ W'.cell? ⟨w.heap.size, 4, none⟩ = some (.slice a3 n3 q3) ∧ W'.cell? ⟨w.heap.size, 5, none⟩ = some (.slice a4 n4 q4))
    (first | with_reducible exact HS3.out _ _ _ _ _ _ _ hb7 | with_reducible exact HS.out _ hb7 | with_reducible exact HS.out _ hb6 | with_reducible exact HS.out _ hb5 | with_reducible exact HS.out _ hb4 | exact HS0.out)
    (first | (go_at_call 118; have z := hb6.size; refine (H4.out _ hb6).mono ?_; rintro e w7 ⟨c4, m4, r4, rfl, hk4, ho4, hb7'⟩; have hb7 := hb6.trans (hb7'.mono z); (have qb := (HQ.out _ hb7).b1; obtain ⟨s0, s1, s2, s3, s4, s5⟩ := (HQ.out _ hb7).zeros; have y0 := qb.frozen 0; have y1 := qb.frozen 1; have y2 := qb.frozen 2; have y3 := qb.frozen 3; have y4 := qb.frozen 4; have y5 := qb.frozen 5); have rl := qb.lt) | (go_at_call 118; have z := hb5.size; refine (H3.out _ hb5).mono ?_; rintro e w6 ⟨c3, m3, r3, rfl, hk3, ho3, hb6'⟩; have hb6 := hb5.trans (hb6'.mono z)) | (go_at_call 118; have z := hb4.size; refine (H2.out _ hb4).mono ?_; rintro e w5 ⟨c2, m2, r2, rfl, hk2, ho2, hb5'⟩; have hb5 := hb4.trans (hb5'.mono z)) | (go_at_call 118; refine H1.out.mono ?_; rintro e w4 ⟨c1, m1, r1, rfl, hk1, ho1, hb4⟩))
  obtain ⟨R, hR⟩ : ∃ R, R = set6 w7 (w.heap.size + 1) c p (.slice c1 m1 r1) (.slice c2 m2 r2) (.slice c3 m3 r3) (.slice c4 m4 r4) := ⟨_, rfl⟩
  have TO := (HQ.out _ hb7).give2 c p (((hk1.keep hb5').keep hb6').keep hb7') ((hk2.keep hb6').keep hb7') (hk3.keep hb7') hk4
  rw [← hR] at TO
  unfold set6 at hR
  have HR := Go.Lib.hid hR
  have HTO := Go.Lib.hid TO
  obtain ⟨d0, d1, d2, d3, d4, d5⟩ := TO.cells
  have ld := TO.b1.lt
  rw [← HR.out]
  clear hR TO hb4 hb5 hb6 hb7 hb5' hb6' hb7' ho1 ho2 ho3 ho4 hk1 hk2 hk3 hk4 qb s0 s1 s2 s3 s4 s5 y0 y1 y2 y3 y4 y5 rl
  go_wp2_with fail
  refine bodyPost_ret (v := .agg #[.int .i64 c, .int .i64 p, .slice c1 m1 r1, .slice c2 m2 r2, .slice c3 m3 r3, .slice c4 m4 r4]) (by simp [results, Tryz.results63, go_sem, d0, d1, d2, d3, d4, d5]) rfl ⟨_, _, _, _, _, _, _, _, _, _, _, _, rfl, HTO.out.k1, HTO.out.k2, HTO.out.k3, HTO.out.k4, HTO.out.hb⟩
set_option maxHeartbeats 3200000 in
theorem arhas_any (c p : Int) (a1 a2 a3 a4 : Option Addr) (n1 n2 n3 n4 q1 q2 q3 q4 : Nat) (t u : List Int) (k : Int) (w : World) (h1 : KL w (.slice a1 n1 q1) t) (h2 : KL w (.slice a2 n2 q2) u) :
    Calls Tryz.prog 25 #[arV c p (.slice a1 n1 q1) (.slice a2 n2 q2) (.slice a3 n3 q3) (.slice a4 n4 q4), .int .u64 k] w fun e w' => e = .returned (.bool (decide (k ∈ t ++ u))) ∧ Below w.heap.size w w' := by
  obtain ⟨W, hW⟩ : ∃ W, W = w.alloc (.cells #[.int .i64 c, .int .i64 p, .slice a1 n1 q1, .slice a2 n2 q2, .slice a3 n3 q3, .slice a4 n4 q4] 55) := ⟨_, rfl⟩
  have B0 : Below w.heap.size w W := by rw [hW]; exact (Below.refl _ _).alloc (Nat.le_refl _) _
  have b0 : Blk W w.heap.size (arC c p (.slice a1 n1 q1) (.slice a2 n2 q2) (.slice a3 n3 q3) (.slice a4 n4 q4)) 55 := by rw [hW]; exact Blk.new0 w (arC c p (.slice a1 n1 q1) (.slice a2 n2 q2) (.slice a3 n3 q3) (.slice a4 n4 q4)) 55
  have H1 := Go.Lib.hid (sqhas_any _ t k W (h1.keep B0))
  have H3 := Go.Lib.hid (sqhas_any _ u k W (h2.keep B0))
  have c0 := b0.cell 0
  have c1 := b0.cell 1
  have c2 := b0.cell 2
  have c3 := b0.cell 3
  have c4 := b0.cell 4
  have c5 := b0.cell 5
  simp only [List.getElem?_cons_zero, List.getElem?_cons_succ] at c0 c1 c2 c3 c4 c5
  have l0 := b0.lt
  have HW := Go.Lib.hid hW
  have HB := Go.Lib.hid B0
  clear hW B0 b0 h1 h2
  have HD : Hid (decide (k ∈ t ++ u) = (decide (k ∈ t) || decide (k ∈ u))) := Go.Lib.hid (by simp [List.mem_append])
  rw [HD.out]
  generalize decide (k ∈ t) = x1 at *
  generalize decide (k ∈ u) = x3 at *
  clear HD
  cases x1
  · go_enter Tryz.func25, Tryz.ntmps25
    go_wp2_with fail
    rw [← HW.out]
    refine H1.out.mono ?_
    rintro e w1 ⟨rfl, rfl⟩
    go_wp2_with fail
    refine H3.out.mono ?_
    rintro e w2 ⟨rfl, rfl⟩
    go_wp2_with fail
    go_ret
    exact ⟨rfl, HB.out⟩
  · go_enter Tryz.func25, Tryz.ntmps25
    go_wp2_with fail
    rw [← HW.out]
    refine H1.out.mono ?_
    rintro e w1 ⟨rfl, rfl⟩
    go_wp2_with fail
    go_ret
    exact ⟨rfl, HB.out⟩
set_option maxHeartbeats 3200000 in
theorem ardem1_any (B i j : Nat) (cs : List Value) (a1 a2 : Option Addr) (n1 n2 q1 q2 : Nat) (L1 L2 : List Int) (w : World) (hs1 : L1.length < 50000) (hs2 : L2.length < 50000) (hb : Blk w B cs 55) (hi : cs[i]? = some (.slice a1 n1 q1)) (hj : cs[j]? = some (.slice a2 n2 q2)) (hij : i ≠ j) (h1 : KL w (.slice a1 n1 q1) L1) (h2 : KL w (.slice a2 n2 q2) L2) :
    Calls Tryz.prog 123 #[.pointer (some ⟨B, i, none⟩), .pointer (some ⟨B, j, none⟩)] w fun e w' => ∃ b1 m1 r1 b2 m2 r2, e = .returned (.int .u64 (L1.getLastD 0)) ∧ Blk w' B ((cs.set i (.slice b1 m1 r1)).set j (.slice b2 m2 r2)) 55 ∧ KL w' (.slice b1 m1 r1) L1.dropLast ∧ KL w' (.slice b2 m2 r2) (L1.getLastD 0 :: wo L2 (L1.getLastD 0)) ∧ Fr (fun b => b = B) w w' ∧ (∀ g, (Value.slice b1 m1 r1).ownBlock = some g → w.heap.size ≤ g) ∧ (∀ g, (Value.slice b2 m2 r2).ownBlock = some g → w.heap.size ≤ g) := by
  have HB := Go.Lib.hid (back_a _ L1 w (by omega) h1)
  have Hb := Go.Lib.hid hb
  have H2 := Go.Lib.hid h2
  have HS2 := Go.Lib.hid hs2
  generalize L1.getLastD 0 = x at *
  have ci := hb.cell i
  rw [hi] at ci
  have l0 := hb.lt
  have HI := Go.Lib.hid hi
  have HJ := Go.Lib.hid hj
  clear h1 h2 hs1 hs2 hi hj hb
  go_enter Tryz.func123, Tryz.ntmps123
  go_wp2_with fail
  refine HB.out.mono ?_
  rintro e w1 ⟨b1, m1, r1, y, rfl, hk1, ho1, hb1⟩
  have x1 := Hb.out.keep hb1
  have cj := x1.cell j
  rw [HJ.out] at cj
  have l1 := x1.lt
  have HF := Go.Lib.hid (front_a _ L2 x w1 (by have := HS2.out; omega) (H2.out.keep hb1))
  have HK := Go.Lib.hid hk1
  have HB1 := Go.Lib.hid hb1
  have X1 := Go.Lib.hid x1
  clear hk1 hb1 x1 ci HB
  go_wp2_with fail
  refine HF.out.mono ?_
  rintro e w2 ⟨b2, m2, r2, rfl, hk2, ho2, hb2⟩
  have x2 := X1.out.keep hb2
  have ei := x2.cell i
  have ej := x2.cell j
  rw [HI.out] at ei
  rw [HJ.out] at ej
  have fi := x2.frozen i
  have fj := x2.frozen j
  have l2 := x2.lt
  obtain ⟨W3, hW3⟩ : ∃ W3, W3 = (w2.setCell ⟨B, i, none⟩ (.slice b1 m1 r1)).setCell ⟨B, j, none⟩ (.slice b2 m2 r2) := ⟨_, rfl⟩
  have F3 : Fr (fun b => b = B) w2 W3 := by rw [hW3]; exact ((Fr.refl (fun b => b = B) w2).setEq rfl _).setEq rfl _
  have x3 : Blk W3 B ((cs.set i (.slice b1 m1 r1)).set j (.slice b2 m2 r2)) 55 := by rw [hW3]; exact (x2.set i _).set j _
  have k1 := (HK.out.keep hb2).fr2 F3 (fun g hg e => (HK.out.keep hb2).ne x2 (by decide) g hg e)
  have k2 := hk2.fr2 F3 (fun g hg e => hk2.ne x2 (by decide) g hg e)
  have F : Fr (fun b => b = B) w W3 := (Fr.of_below (HB1.out.trans (hb2.mono HB1.out.size))).trans F3 (fun i e => .inl e)
  have HN := Go.Lib.hid (⟨x3, k1, k2, F, ho1, (fun g hg => Nat.le_trans HB1.out.size (ho2 g hg) : ∀ g, (Value.slice b2 m2 r2).ownBlock = some g → w.heap.size ≤ g)⟩ : _ ∧ _ ∧ _ ∧ _ ∧ _ ∧ _)
  have HW3 := Go.Lib.hid hW3
  clear hW3 F3 x3 k1 k2 F x2 hk2 ho1 ho2 hb2 HF
  have hji : j ≠ i := fun e => hij e.symm
  go_wp2_with fail
  rw [← HW3.out]
  go_ret
  exact ⟨b1, m1, r1, b2, m2, r2, rfl, HN.out⟩
set_option maxHeartbeats 6400000 in
theorem ardemote_own (c p : Int) (v1 v2 v3 v4 : Value) (t u b d : List Int) (f : Bool) (w : World) (ht : t.length < 10000) (hu : u.length < 10000) (hd : b.length < 10000) (he : d.length < 10000) (h1 : KL w v1 t) (h2 : KL w v2 u) (h3 : KL w v3 b) (h4 : KL w v4 d) :
    Calls Tryz.prog 69 #[arV c p v1 v2 v3 v4, .bool f] w fun e w' => ∃ b1 m1 r1 b2 m2 r2 b3 m3 r3 b4 m4 r4 x, e = .returned (.tuple #[arV c p (.slice b1 m1 r1) (.slice b2 m2 r2) (.slice b3 m3 r3) (.slice b4 m4 r4), .int .u64 x]) ∧ KL w' (.slice b1 m1 r1) (evictA ⟨c, p, t, u, b, d⟩ f).1.t ∧ KL w' (.slice b2 m2 r2) (evictA ⟨c, p, t, u, b, d⟩ f).1.u ∧ KL w' (.slice b3 m3 r3) (evictA ⟨c, p, t, u, b, d⟩ f).1.b ∧ KL w' (.slice b4 m4 r4) (evictA ⟨c, p, t, u, b, d⟩ f).1.d ∧ (evictA ⟨c, p, t, u, b, d⟩ f).2 = [x] ∧ Below w.heap.size w w' ∧ (∀ g, (Value.slice b1 m1 r1).ownBlock = some g → v1.ownBlock = some g ∨ w.heap.size ≤ g) ∧ (∀ g, (Value.slice b2 m2 r2).ownBlock = some g → v2.ownBlock = some g ∨ w.heap.size ≤ g) ∧ (∀ g, (Value.slice b3 m3 r3).ownBlock = some g → v3.ownBlock = some g ∨ w.heap.size ≤ g) ∧ (∀ g, (Value.slice b4 m4 r4).ownBlock = some g → v4.ownBlock = some g ∨ w.heap.size ≤ g) := by
  obtain ⟨a1, q1, rfl⟩ := h1.form
  obtain ⟨a2, q2, rfl⟩ := h2.form
  obtain ⟨a3, q3, rfl⟩ := h3.form
  obtain ⟨a4, q4, rfl⟩ := h4.form
  generalize hn1 : t.length = n1 at *
  generalize hn2 : u.length = n2 at *
  generalize hn3 : b.length = n3 at *
  generalize hn4 : d.length = n4 at *
  cases f
  · obtain ⟨W, hW⟩ : ∃ W, W = (w.alloc (.cells #[.int .i64 c, .int .i64 p, .slice a1 n1 q1, .slice a2 n2 q2, .slice a3 n3 q3, .slice a4 n4 q4] 55)).alloc (.cells #[.int .i64 0, .int .i64 0, .slice none 0 0, .slice none 0 0, .slice none 0 0, .slice none 0 0] 55) := ⟨_, rfl⟩
    have T0 : ArS w W c p (.slice a1 n1 q1) (.slice a2 n2 q2) (.slice a3 n3 q3) (.slice a4 n4 q4) t u b d := by rw [hW]; exact ArS.start h1 h2 h3 h4
    have HT0 := Go.Lib.hid T0
    have HW := Go.Lib.hid hW
    have HD := Go.Lib.hid (ardem1_any w.heap.size 3 5 _ a2 a4 n2 n4 q2 q4 u d W (by omega) (by omega) T0.b0 rfl rfl (by decide) T0.k2 T0.k4)
    have l0 := T0.b0.lt
    clear hW T0 h1 h2 h3 h4
    go_enter Tryz.func69, Tryz.ntmps69
    go_wp2_with fail
    rw [← HW.out]
    refine HD.out.mono ?_
    rintro e w1 ⟨b1, m1, r1, b2, m2, r2, rfl, hb1, hk1, hk2, F, o1, o2⟩
    have HO1 := Go.Lib.hid (fun g hg => Nat.le_trans HT0.out.hb.size (o1 g hg))
    have HO2 := Go.Lib.hid (fun g hg => Nat.le_trans HT0.out.hb.size (o2 g hg))
    clear o1 o2
    have T1 : ArS w w1 c p (.slice a1 n1 q1) (.slice b1 m1 r1) (.slice a3 n3 q3) (.slice b2 m2 r2) t (u.dropLast) b (u.getLastD 0 :: wo d (u.getLastD 0)) := ⟨hb1, F.blk (fun e => by omega) HT0.out.b1, (HT0.out.k1.fr2 F (fun g hg e => HT0.out.k1.ne HT0.out.b0 (by decide) g hg e)), hk1, (HT0.out.k3.fr2 F (fun g hg e => HT0.out.k3.ne HT0.out.b0 (by decide) g hg e)), hk2, below_fr HT0.out.hb F (Nat.le_refl _) (fun i hi => by omega)⟩
    have TO := T1.give
    obtain ⟨R, hR⟩ : ∃ R, R = set6 w1 (w.heap.size + 1) c p (.slice a1 n1 q1) (.slice b1 m1 r1) (.slice a3 n3 q3) (.slice b2 m2 r2) := ⟨_, rfl⟩
    rw [← hR] at TO
    unfold set6 at hR
    have HR := Go.Lib.hid hR
    have HTO := Go.Lib.hid TO
    obtain ⟨g0, g1, g2, g3, g4, g5⟩ := T1.cells
    have lg := T1.b0.lt
    obtain ⟨z0, z1, z2, z3, z4, z5⟩ := T1.zeros
    have zf0 := T1.b1.frozen 0
    have zf1 := T1.b1.frozen 1
    have zf2 := T1.b1.frozen 2
    have zf3 := T1.b1.frozen 3
    have zf4 := T1.b1.frozen 4
    have zf5 := T1.b1.frozen 5
    have lz := T1.b1.lt
    obtain ⟨d0, d1, d2, d3, d4, d5⟩ := TO.cells
    have ld := TO.b1.lt
    clear hR TO T1 hb1 hk1 hk2 F HD l0
    go_wp2_with fail
    rw [← HR.out]
    refine bodyPost_ret (v := .tuple #[.agg #[.int .i64 c, .int .i64 p, .slice a1 n1 q1, .slice b1 m1 r1, .slice a3 n3 q3, .slice b2 m2 r2], .int .u64 (u.getLastD 0)]) (by simp [results, Tryz.results69, go_sem, d0, d1, d2, d3, d4, d5]) rfl ⟨_, _, _, _, _, _, _, _, _, _, _, _, _, rfl, HTO.out.k1, HTO.out.k2, HTO.out.k3, HTO.out.k4, rfl, HTO.out.hb, (fun g hg => .inl hg), (fun g hg => .inr (HO1.out g hg)), (fun g hg => .inl hg), (fun g hg => .inr (HO2.out g hg))⟩
  · obtain ⟨W, hW⟩ : ∃ W, W = (w.alloc (.cells #[.int .i64 c, .int .i64 p, .slice a1 n1 q1, .slice a2 n2 q2, .slice a3 n3 q3, .slice a4 n4 q4] 55)).alloc (.cells #[.int .i64 0, .int .i64 0, .slice none 0 0, .slice none 0 0, .slice none 0 0, .slice none 0 0] 55) := ⟨_, rfl⟩
    have T0 : ArS w W c p (.slice a1 n1 q1) (.slice a2 n2 q2) (.slice a3 n3 q3) (.slice a4 n4 q4) t u b d := by rw [hW]; exact ArS.start h1 h2 h3 h4
    have HT0 := Go.Lib.hid T0
    have HW := Go.Lib.hid hW
    have HD := Go.Lib.hid (ardem1_any w.heap.size 2 4 _ a1 a3 n1 n3 q1 q3 t b W (by omega) (by omega) T0.b0 rfl rfl (by decide) T0.k1 T0.k3)
    have l0 := T0.b0.lt
    clear hW T0 h1 h2 h3 h4
    go_enter Tryz.func69, Tryz.ntmps69
    go_wp2_with fail
    rw [← HW.out]
    refine HD.out.mono ?_
    rintro e w1 ⟨b1, m1, r1, b2, m2, r2, rfl, hb1, hk1, hk2, F, o1, o2⟩
    have HO1 := Go.Lib.hid (fun g hg => Nat.le_trans HT0.out.hb.size (o1 g hg))
    have HO2 := Go.Lib.hid (fun g hg => Nat.le_trans HT0.out.hb.size (o2 g hg))
    clear o1 o2
    have T1 : ArS w w1 c p (.slice b1 m1 r1) (.slice a2 n2 q2) (.slice b2 m2 r2) (.slice a4 n4 q4) (t.dropLast) u (t.getLastD 0 :: wo b (t.getLastD 0)) d := ⟨hb1, F.blk (fun e => by omega) HT0.out.b1, hk1, (HT0.out.k2.fr2 F (fun g hg e => HT0.out.k2.ne HT0.out.b0 (by decide) g hg e)), hk2, (HT0.out.k4.fr2 F (fun g hg e => HT0.out.k4.ne HT0.out.b0 (by decide) g hg e)), below_fr HT0.out.hb F (Nat.le_refl _) (fun i hi => by omega)⟩
    have TO := T1.give
    obtain ⟨R, hR⟩ : ∃ R, R = set6 w1 (w.heap.size + 1) c p (.slice b1 m1 r1) (.slice a2 n2 q2) (.slice b2 m2 r2) (.slice a4 n4 q4) := ⟨_, rfl⟩
    rw [← hR] at TO
    unfold set6 at hR
    have HR := Go.Lib.hid hR
    have HTO := Go.Lib.hid TO
    obtain ⟨g0, g1, g2, g3, g4, g5⟩ := T1.cells
    have lg := T1.b0.lt
    obtain ⟨z0, z1, z2, z3, z4, z5⟩ := T1.zeros
    have zf0 := T1.b1.frozen 0
    have zf1 := T1.b1.frozen 1
    have zf2 := T1.b1.frozen 2
    have zf3 := T1.b1.frozen 3
    have zf4 := T1.b1.frozen 4
    have zf5 := T1.b1.frozen 5
    have lz := T1.b1.lt
    obtain ⟨d0, d1, d2, d3, d4, d5⟩ := TO.cells
    have ld := TO.b1.lt
    clear hR TO T1 hb1 hk1 hk2 F HD l0
    go_wp2_with fail
    rw [← HR.out]
    refine bodyPost_ret (v := .tuple #[.agg #[.int .i64 c, .int .i64 p, .slice b1 m1 r1, .slice a2 n2 q2, .slice b2 m2 r2, .slice a4 n4 q4], .int .u64 (t.getLastD 0)]) (by simp [results, Tryz.results69, go_sem, d0, d1, d2, d3, d4, d5]) rfl ⟨_, _, _, _, _, _, _, _, _, _, _, _, _, rfl, HTO.out.k1, HTO.out.k2, HTO.out.k3, HTO.out.k4, rfl, HTO.out.hb, (fun g hg => .inr (HO1.out g hg)), (fun g hg => .inl hg), (fun g hg => .inr (HO2.out g hg)), (fun g hg => .inl hg)⟩
theorem ardemote_any (c p : Int) (v1 v2 v3 v4 : Value) (t u b d : List Int) (f : Bool) (w : World) (ht : t.length < 10000) (hu : u.length < 10000) (hd : b.length < 10000) (he : d.length < 10000) (h1 : KL w v1 t) (h2 : KL w v2 u) (h3 : KL w v3 b) (h4 : KL w v4 d) :
    Calls Tryz.prog 69 #[arV c p v1 v2 v3 v4, .bool f] w fun e w' => ∃ b1 m1 r1 b2 m2 r2 b3 m3 r3 b4 m4 r4 x, e = .returned (.tuple #[arV c p (.slice b1 m1 r1) (.slice b2 m2 r2) (.slice b3 m3 r3) (.slice b4 m4 r4), .int .u64 x]) ∧ KL w' (.slice b1 m1 r1) (evictA ⟨c, p, t, u, b, d⟩ f).1.t ∧ KL w' (.slice b2 m2 r2) (evictA ⟨c, p, t, u, b, d⟩ f).1.u ∧ KL w' (.slice b3 m3 r3) (evictA ⟨c, p, t, u, b, d⟩ f).1.b ∧ KL w' (.slice b4 m4 r4) (evictA ⟨c, p, t, u, b, d⟩ f).1.d ∧ (evictA ⟨c, p, t, u, b, d⟩ f).2 = [x] ∧ Below w.heap.size w w' := by
  refine (ardemote_own c p v1 v2 v3 v4 t u b d f w ht hu hd he h1 h2 h3 h4).mono ?_
  rintro e w' ⟨b1, m1, r1, b2, m2, r2, b3, m3, r3, b4, m4, r4, x, h⟩
  exact ⟨b1, m1, r1, b2, m2, r2, b3, m3, r3, b4, m4, r4, x, h.1, h.2.1, h.2.2.1, h.2.2.2.1, h.2.2.2.2.1, h.2.2.2.2.2.1, h.2.2.2.2.2.2.1⟩
end Go.Proofs.YtlakojncjldpbaaGreat
