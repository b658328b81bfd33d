/- The lists' two queues: Drop, Admit. -/
import Derived.Test.YtlakojncjldpbaaLt5
namespace Go.Proofs.Ytlakojncjldpbaa
open Go.RowKit Hop
set_option linter.unusedVariables false
set_option linter.unusedSimpArgs false
set_option maxRecDepth 100000
theorem formedT {P : Program} {f : Nat} {args : Array Value} {w : World} {R : List Int} (h : Calls P f args w fun e w' => ∃ v', e = .returned v' ∧ LNew w w' v' R) :
    Calls P f args w fun e w' => ∃ a1 n1 cap1, e = .returned (.slice a1 n1 cap1) ∧ KL w' (.slice a1 n1 cap1) R ∧ (∀ b, (Value.slice a1 n1 cap1).ownBlock = some b → w.heap.size ≤ b) ∧ Below w.heap.size w w' :=
  h.mono fun e w' ⟨v', h1, h2, h3, h4⟩ => by
    obtain ⟨a, cap, rfl⟩ := h2.form
    exact ⟨a, _, cap, h1, h2, h3, h4⟩
theorem TwS.give2 {w W : World} {c : Int} {v1 v2 v3 : Value} {i o m : List Int} (h : TwS w W c v1 v2 v3 i o m) (c' : Int) {u1 u2 u3 : Value} {i' o' m' : List Int} (k1 : KL W u1 i') (k2 : KL W u2 o') (k3 : KL W u3 m') : TwO w (Go.Proofs.Ytlakojncjldpbaa.set4 W (w.heap.size + 1) c' u1 u2 u3) c' u1 u2 u3 i' o' m' := by
  have F := Fr.set4 W (w.heap.size + 1) c' u1 u2 u3
  exact ⟨(((h.b1.set 0 _).set 1 _).set 2 _).set 3 _, k1.fr2 F (fun g hg e => k1.ne h.b1 (by decide) g hg e), k2.fr2 F (fun g hg e => k2.ne h.b1 (by decide) g hg e), k3.fr2 F (fun g hg e => k3.ne h.b1 (by decide) g hg e), below_fr h.hb F (Nat.le_refl _) (fun i hi => by omega)⟩
theorem admitT_in {c : Int} {i o m : List Int} {k : Int} (h : k ∈ i ++ m) : admitT ⟨c, i, o, m⟩ k = (⟨c, i, o, m⟩, []) := if_pos h
theorem admitT_known {c : Int} {i o m : List Int} {k : Int} (h : ¬ k ∈ i ++ m) (h2 : k ∈ o) {r : TS × List Int} (hr : shrT (c - 1) (i.length + m.length) ⟨c, i, wo o k, m⟩ = r) : admitT ⟨c, i, o, m⟩ k = (⟨c, r.1.i, r.1.o, k :: wo r.1.m k⟩, r.2) := by
  subst hr
  unfold admitT
  simp only
  rw [if_neg h, if_pos h2]
theorem admitT_new {c : Int} {i o m : List Int} {k : Int} (h : ¬ k ∈ i ++ m) (h2 : ¬ k ∈ o) {r : TS × List Int} (hr : shrT (c - 1) (i.length + m.length) ⟨c, i, wo o k, m⟩ = r) : admitT ⟨c, i, o, m⟩ k = (⟨c, k :: wo r.1.i k, r.1.o, r.1.m⟩, r.2) := by
  subst hr
  unfold admitT
  simp only
  rw [if_neg h, if_neg h2]
set_option maxHeartbeats 6400000 in
theorem twdrop_any (c : Int) (v1 v2 v3 : Value) (i o m : List Int) (k : Int) (w : World) (hi : i.length < 10000) (ho : o.length < 10000) (hm : m.length < 10000) (h1 : KL w v1 i) (h2 : KL w v2 o) (h3 : KL w v3 m) :
    Calls Try.prog 107 #[twV c v1 v2 v3, .int .u64 k] w fun e w' => ∃ u1 u2 u3, e = .returned (twV c u1 u2 u3) ∧ KL w' u1 (wo i k) ∧ KL w' u2 (wo o k) ∧ KL w' u3 (wo m k) ∧ Below w.heap.size w w' := by
  obtain ⟨a1, p1, rfl⟩ := h1.form
  obtain ⟨a2, p2, rfl⟩ := h2.form
  obtain ⟨a3, p3, rfl⟩ := h3.form
  generalize hn1 : i.length = n1 at *
  generalize hn2 : o.length = n2 at *
  generalize hn3 : m.length = n3 at *
  obtain ⟨W, hW⟩ : ∃ W, W = (w.alloc (.cells #[.int .i64 c, .slice a1 n1 p1, .slice a2 n2 p2, .slice a3 n3 p3] 66)).alloc (.cells #[.int .i64 0, .slice none 0 0, .slice none 0 0, .slice none 0 0] 66) := ⟨_, rfl⟩
  have T0 : TwS w W c (.slice a1 n1 p1) (.slice a2 n2 p2) (.slice a3 n3 p3) i o m := by rw [hW]; exact TwS.start h1 h2 h3
  have HCP := Go.Lib.hid (twcopied_f c _ _ _ i o m W (by omega) (by omega) (by omega) T0.k1 T0.k2 T0.k3)
  obtain ⟨c0, c1, c2, c3⟩ := T0.cells
  have l0 := T0.b0.lt
  have HT0 := Go.Lib.hid T0
  have HW := Go.Lib.hid hW
  clear hW T0 h1 h2 h3
  go_enter Try.func107, Try.ntmps107
  go_wp2_with fail
  rw [← HW.out]
  refine HCP.out.mono ?_
  rintro e w1 ⟨a4, n4, p4, a5, n5, p5, a6, n6, p6, rfl, hk4, hk5, hk6, hb1⟩
  have T1 := HT0.out.keep hb1
  obtain ⟨V, hV⟩ : ∃ V, V = set4 w1 w.heap.size c (.slice a4 n4 p4) (.slice a5 n5 p5) (.slice a6 n6 p6) := ⟨_, rfl⟩
  have T2 : TwS w V c (.slice a4 n4 p4) (.slice a5 n5 p5) (.slice a6 n6 p6) i o m := by rw [hV]; exact T1.put4 c hk4 hk5 hk6
  obtain ⟨e0, e1, e2, e3⟩ := T1.cells
  have f0 := T1.b0.frozen 0
  have f1 := T1.b0.frozen 1
  have f2 := T1.b0.frozen 2
  have f3 := T1.b0.frozen 3
  have m0 := T1.b0.lt
  have HT2 := Go.Lib.hid T2
  unfold set4 at hV
  have HV := Go.Lib.hid hV
  have HT1 := Go.Lib.hid T1
  have Dr := (Below.refl V.heap.size V).drew
  have TQ := T2.keep Dr
  have H1 := Go.Lib.hid (formedT (sqwo_any _ i k V.drew (by omega) TQ.k1))
  have H2 := Go.Lib.hid (fun W' (hb : Below V.drew.heap.size V.drew W') => formedT (sqwo_any _ o k W' (by omega) (TQ.k2.keep hb)))
  have H3 := Go.Lib.hid (fun W' (hb : Below V.drew.heap.size V.drew W') => formedT (sqwo_any _ m k W' (by omega) (TQ.k3.keep hb)))
  have HS0 := Go.Lib.hid TQ.cells
  have HS := Go.Lib.hid (fun W' (hb : Below V.drew.heap.size V.drew W') => (TQ.keep hb).cells)
  have HS3 := Go.Lib.hid (fun W' x0 x1 x2 x3 (hb : Below V.drew.heap.size V.drew W') => (have q := ((((TQ.keep hb).b0.set_ne (a := ⟨w.heap.size + 1, 0, none⟩) (by simp) x0).set_ne (a := ⟨w.heap.size + 1, 1, none⟩) (by simp) x1).set_ne (a := ⟨w.heap.size + 1, 2, none⟩) (by simp) x2).set_ne (a := ⟨w.heap.size + 1, 3, none⟩) (by simp) x3; (⟨q.cell 0, q.cell 1, q.cell 2, q.cell 3⟩ : ((((W'.setCell ⟨w.heap.size + 1, 0, none⟩ x0).setCell ⟨w.heap.size + 1, 1, none⟩ x1).setCell ⟨w.heap.size + 1, 2, none⟩ x2).setCell ⟨w.heap.size + 1, 3, none⟩ x3).cell? ⟨w.heap.size, 0, none⟩ = some (.int .i64 c) ∧ ((((W'.setCell ⟨w.heap.size + 1, 0, none⟩ x0).setCell ⟨w.heap.size + 1, 1, none⟩ x1).setCell ⟨w.heap.size + 1, 2, none⟩ x2).setCell ⟨w.heap.size + 1, 3, none⟩ x3).cell? ⟨w.heap.size, 1, none⟩ = some (.slice a4 n4 p4) ∧ ((((W'.setCell ⟨w.heap.size + 1, 0, none⟩ x0).setCell ⟨w.heap.size + 1, 1, none⟩ x1).setCell ⟨w.heap.size + 1, 2, none⟩ x2).setCell ⟨w.heap.size + 1, 3, none⟩ x3).cell? ⟨w.heap.size, 2, none⟩ = some (.slice a5 n5 p5) ∧ ((((W'.setCell ⟨w.heap.size + 1, 0, none⟩ x0).setCell ⟨w.heap.size + 1, 1, none⟩ x1).setCell ⟨w.heap.size + 1, 2, none⟩ x2).setCell ⟨w.heap.size + 1, 3, none⟩ x3).cell? ⟨w.heap.size, 3, none⟩ = some (.slice a6 n6 p6))))
  have HQ := Go.Lib.hid (fun W' (hb : Below V.drew.heap.size V.drew W') => TQ.keep hb)
  obtain ⟨g0, g1, g2, g3⟩ := T2.cells
  have lg := T2.b0.lt
  clear hV T1 T2 hk4 hk5 hk6 hb1 c0 c1 c2 c3 l0 HCP HT0 Dr TQ
  go_wp2_with fail
  rw [← HV.out]
  clear e0 e1 e2 e3 f0 f1 f2 f3 m0
  go_region_held3 (fun W' => W'.cell? ⟨w.heap.size, 0, none⟩ = some (.int .i64 c) ∧ W'.cell? ⟨w.heap.size, 1, none⟩ = some (.slice a4 n4 p4) ∧ W'.cell? ⟨w.heap.size, 2, none⟩ = some (.slice a5 n5 p5) ∧ W'.cell? ⟨w.heap.size, 3, none⟩ = some (.slice a6 n6 p6))
    (first | with_reducible exact HS3.out _ _ _ _ _ hb6 | with_reducible exact HS.out _ hb6 | with_reducible exact HS.out _ hb5 | with_reducible exact HS.out _ hb4 | exact HS0.out)
    (first | (go_at_call 158; have z := hb5.size; refine (H3.out _ hb5).mono ?_; rintro e w6 ⟨c3, m3, q3, rfl, hk3, ho3, hb6'⟩; have hb6 := hb5.trans (hb6'.mono z); (have qb := (HQ.out _ hb6).b1; obtain ⟨r0, r1, r2, r3⟩ := (HQ.out _ hb6).zeros; have y0 := qb.frozen 0; have y1 := qb.frozen 1; have y2 := qb.frozen 2; have y3 := qb.frozen 3); have rl := qb.lt) | (go_at_call 158; have z := hb4.size; refine (H2.out _ hb4).mono ?_; rintro e w5 ⟨c2, m2, q2, rfl, hk2, ho2, hb5'⟩; have hb5 := hb4.trans (hb5'.mono z)) | (go_at_call 158; refine H1.out.mono ?_; rintro e w4 ⟨c1, m1, q1, rfl, hk1, ho1, hb4⟩))
  obtain ⟨R, hR⟩ : ∃ R, R = set4 w6 (w.heap.size + 1) c (.slice c1 m1 q1) (.slice c2 m2 q2) (.slice c3 m3 q3) := ⟨_, rfl⟩
  have TO := (HQ.out _ hb6).give2 c ((hk1.keep hb5').keep hb6') (hk2.keep hb6') hk3
  rw [← hR] at TO
  unfold set4 at hR
  have HR := Go.Lib.hid hR
  have HTO := Go.Lib.hid TO
  obtain ⟨d0, d1, d2, d3⟩ := TO.cells
  have ld := TO.b1.lt
  rw [← HR.out]
  clear hR TO hb4 hb5 hb6 hb5' hb6' ho1 ho2 ho3 hk1 hk2 hk3 qb r0 r1 r2 r3 y0 y1 y2 y3 rl g0 g1 g2 g3
  go_wp2_with fail
  refine bodyPost_ret (v := .agg #[.int .i64 c, .slice c1 m1 q1, .slice c2 m2 q2, .slice c3 m3 q3]) (by simp [results, Try.results107, go_sem, d0, d1, d2, d3]) rfl ⟨_, _, _, rfl, HTO.out.k1, HTO.out.k2, HTO.out.k3, HTO.out.hb⟩
set_option maxHeartbeats 6400000 in
theorem twadmit_any (c : Int) (v1 v2 v3 : Value) (i o m : List Int) (k : Int) (w : World) (hc0 : 1 ≤ c) (hc1 : c ≤ 1000) (hi : i.length < 10000) (ho : o.length < 10000) (hm : m.length < 10000) (h1 : KL w v1 i) (h2 : KL w v2 o) (h3 : KL w v3 m) :
    Calls Try.prog 106 #[twV c v1 v2 v3, .int .u64 k] w fun e w' => ∃ u1 u2 u3 vo, e = .returned (.tuple #[twV c u1 u2 u3, vo]) ∧ KL w' u1 (admitT ⟨c, i, o, m⟩ k).1.i ∧ KL w' u2 (admitT ⟨c, i, o, m⟩ k).1.o ∧ KL w' u3 (admitT ⟨c, i, o, m⟩ k).1.m ∧ KL w' vo (admitT ⟨c, i, o, m⟩ k).2 ∧ Below w.heap.size w w' := by
  obtain ⟨a1, p1, rfl⟩ := h1.form
  obtain ⟨a2, p2, rfl⟩ := h2.form
  obtain ⟨a3, p3, rfl⟩ := h3.form
  generalize hn1 : i.length = n1 at *
  generalize hn2 : o.length = n2 at *
  generalize hn3 : m.length = n3 at *
  by_cases hk : k ∈ i ++ m
  · rw [admitT_in hk]
    obtain ⟨W, hW⟩ : ∃ W, W = (w.alloc (.cells #[.int .i64 c, .slice a1 n1 p1, .slice a2 n2 p2, .slice a3 n3 p3] 66)).alloc (.cells #[.int .i64 0, .slice none 0 0, .slice none 0 0, .slice none 0 0] 66) := ⟨_, rfl⟩
    have T0 : TwS w W c (.slice a1 n1 p1) (.slice a2 n2 p2) (.slice a3 n3 p3) i o m := by rw [hW]; exact TwS.start h1 h2 h3
    have HCP := Go.Lib.hid (twcopied_f c _ _ _ i o m W (by omega) (by omega) (by omega) T0.k1 T0.k2 T0.k3)
    obtain ⟨c0, c1, c2, c3⟩ := T0.cells
    have l0 := T0.b0.lt
    have HT0 := Go.Lib.hid T0
    have HW := Go.Lib.hid hW
    clear hW T0 h1 h2 h3
    go_enter Try.func106, Try.ntmps106
    go_wp2_with fail
    rw [← HW.out]
    refine HCP.out.mono ?_
    rintro e w1 ⟨a4, n4, p4, a5, n5, p5, a6, n6, p6, rfl, hk4, hk5, hk6, hb1⟩
    have T1 := HT0.out.keep hb1
    obtain ⟨V, hV⟩ : ∃ V, V = set4 w1 w.heap.size c (.slice a4 n4 p4) (.slice a5 n5 p5) (.slice a6 n6 p6) := ⟨_, rfl⟩
    have T2 : TwS w V c (.slice a4 n4 p4) (.slice a5 n5 p5) (.slice a6 n6 p6) i o m := by rw [hV]; exact T1.put4 c hk4 hk5 hk6
    obtain ⟨e0, e1, e2, e3⟩ := T1.cells
    have f0 := T1.b0.frozen 0
    have f1 := T1.b0.frozen 1
    have f2 := T1.b0.frozen 2
    have f3 := T1.b0.frozen 3
    have m0 := T1.b0.lt
    have HT2 := Go.Lib.hid T2
    unfold set4 at hV
    have HV := Go.Lib.hid hV
    have HT1 := Go.Lib.hid T1
    have HH := Go.Lib.hid (twhas_any c a4 a5 a6 n4 n5 n6 p4 p5 p6 i m k V T2.k1 T2.k3)
    rw [decide_eq_true hk] at HH
    clear hV T1 T2 hk4 hk5 hk6 hb1 c0 c1 c2 c3 l0 HCP HT0
    clear hk
    go_wp2_with fail
    rw [← HV.out]
    refine HH.out.mono ?_
    rintro e w2 ⟨rfl, hb2⟩
    clear e0 e1 e2 e3 f0 f1 f2 f3 m0
    have T3 := HT2.out.keep hb2
    obtain ⟨R, hR⟩ : ∃ R, R = set4 w2 (w.heap.size + 1) c (.slice a4 n4 p4) (.slice a5 n5 p5) (.slice a6 n6 p6) := ⟨_, rfl⟩
    have TO := T3.give
    rw [← hR] at TO
    unfold set4 at hR
    have HR := Go.Lib.hid hR
    have HTO := Go.Lib.hid TO
    obtain ⟨g0, g1, g2, g3⟩ := T3.cells
    have lg := T3.b0.lt
    obtain ⟨z0, z1, z2, z3⟩ := T3.zeros
    have zf0 := T3.b1.frozen 0
    have zf1 := T3.b1.frozen 1
    have zf2 := T3.b1.frozen 2
    have zf3 := T3.b1.frozen 3
    have lz := T3.b1.lt
    obtain ⟨d0, d1, d2, d3⟩ := TO.cells
    have ld := TO.b1.lt
    clear hR TO T3 hb2
    go_wp2_with fail
    rw [← HR.out]
    refine bodyPost_ret (v := .tuple #[.agg #[.int .i64 c, .slice a4 n4 p4, .slice a5 n5 p5, .slice a6 n6 p6], .slice none 0 0]) (by simp [results, Try.results106, go_sem, d0, d1, d2, d3]) rfl ?_
    exact ⟨_, _, _, _, rfl, HTO.out.k1, HTO.out.k2, HTO.out.k3, KL.nil _, HTO.out.hb⟩
  · by_cases hko : k ∈ o
    · have HP := shrT_props (c - 1) c (by omega) (i.length + m.length) i (wo o k) m rfl
      generalize hr : shrT (c - 1) (i.length + m.length) ⟨c, i, wo o k, m⟩ = r at HP
      rw [admitT_known hk hko hr]
      obtain ⟨LL, HLL⟩ : ∃ LL, LL = r.1.m := ⟨_, rfl⟩
      have HRL : Hid (LL.length < 100000) := Go.Lib.hid (by rw [HLL]; have := HP.2.1; omega)
      have HLE := Go.Lib.hid HLL
      clear HLL
      have HKO := Go.Lib.hid hko
      clear HP
      rw [hn1, hn3] at hr
      have HR1 : Hid (shrT (c - 1) (i.length + m.length) ⟨c, i, wo o k, m⟩ = r) := Go.Lib.hid (by rw [hn1, hn3]; exact hr)
      clear hr
      obtain ⟨W, hW⟩ : ∃ W, W = (w.alloc (.cells #[.int .i64 c, .slice a1 n1 p1, .slice a2 n2 p2, .slice a3 n3 p3] 66)).alloc (.cells #[.int .i64 0, .slice none 0 0, .slice none 0 0, .slice none 0 0] 66) := ⟨_, rfl⟩
      have T0 : TwS w W c (.slice a1 n1 p1) (.slice a2 n2 p2) (.slice a3 n3 p3) i o m := by rw [hW]; exact TwS.start h1 h2 h3
      have HCP := Go.Lib.hid (twcopied_f c _ _ _ i o m W (by omega) (by omega) (by omega) T0.k1 T0.k2 T0.k3)
      obtain ⟨c0, c1, c2, c3⟩ := T0.cells
      have l0 := T0.b0.lt
      have HT0 := Go.Lib.hid T0
      have HW := Go.Lib.hid hW
      clear hW T0 h1 h2 h3
      go_enter Try.func106, Try.ntmps106
      go_wp2_with fail
      rw [← HW.out]
      refine HCP.out.mono ?_
      rintro e w1 ⟨a4, n4, p4, a5, n5, p5, a6, n6, p6, rfl, hk4, hk5, hk6, hb1⟩
      have T1 := HT0.out.keep hb1
      obtain ⟨V, hV⟩ : ∃ V, V = set4 w1 w.heap.size c (.slice a4 n4 p4) (.slice a5 n5 p5) (.slice a6 n6 p6) := ⟨_, rfl⟩
      have T2 : TwS w V c (.slice a4 n4 p4) (.slice a5 n5 p5) (.slice a6 n6 p6) i o m := by rw [hV]; exact T1.put4 c hk4 hk5 hk6
      obtain ⟨e0, e1, e2, e3⟩ := T1.cells
      have f0 := T1.b0.frozen 0
      have f1 := T1.b0.frozen 1
      have f2 := T1.b0.frozen 2
      have f3 := T1.b0.frozen 3
      have m0 := T1.b0.lt
      have HT2 := Go.Lib.hid T2
      unfold set4 at hV
      have HV := Go.Lib.hid hV
      have HT1 := Go.Lib.hid T1
      have HH := Go.Lib.hid (twhas_any c a4 a5 a6 n4 n5 n6 p4 p5 p6 i m k V T2.k1 T2.k3)
      rw [decide_eq_false hk] at HH
      clear hV T1 T2 hk4 hk5 hk6 hb1 c0 c1 c2 c3 l0 HCP HT0
      clear hk hko
      go_wp2_with fail
      rw [← HV.out]
      refine HH.out.mono ?_
      rintro e w2 ⟨rfl, hb2⟩
      have T3 := HT2.out.keep hb2
      have HT3 := Go.Lib.hid T3
      have HHO := Go.Lib.hid (sqhas_any _ o k w2 T3.k2)
      rw [decide_eq_true HKO.out] at HHO
      have HWO := Go.Lib.hid (formedT (sqwo_any _ o k w2 (by omega) T3.k2))
      obtain ⟨g0, g1, g2, g3⟩ := T3.cells
      have lg := T3.b0.lt
      clear T3 hb2 e0 e1 e2 e3 f0 f1 f2 f3 m0
      go_wp2_with fail
      refine HHO.out.mono ?_
      rintro e w2 ⟨rfl, rfl⟩
      go_wp2_with fail
      refine HWO.out.mono ?_
      rintro e w3 ⟨a7, n7, p7, rfl, hk7, ho7, hb7⟩
      have T4 := HT3.out.keep hb7
      obtain ⟨V4, hV4⟩ : ∃ V4, V4 = w3.setCell ⟨w.heap.size, 2, none⟩ (.slice a7 n7 p7) := ⟨_, rfl⟩
      have T5 := T4.put2 hk7
      rw [← hV4] at T5
      have HV4 := Go.Lib.hid hV4
      have HT5 := Go.Lib.hid T5
      have HSH := Go.Lib.hid (twshrink_any c (c - 1) (.slice a4 n4 p4) (.slice a7 n7 p7) (.slice a6 n6 p6) i (wo o k) m V4 hc0 (by omega) (by omega) (by omega) (by omega) (by have := wo_len o k; omega) (by omega) T5.k1 T5.k2 T5.k3)
      rw [HR1.out] at HSH
      obtain ⟨e0, e1, e2, e3⟩ := T4.cells
      have f2 := T4.b0.frozen 2
      have m0 := T4.b0.lt
      clear T4 T5 hV4 hk7 ho7 hb7 g0 g1 g2 g3 lg HWO HHO HH HT2 HT1 HT3
      go_wp2_with fail
      rw [← HV4.out]
      refine HSH.out.mono ?_
      rintro e w5 ⟨u1, u2, u3, vo, rfl, hk8, hk9, hk10, hk11, hb8⟩
      obtain ⟨a8, p8, rfl⟩ := hk8.form
      obtain ⟨a9, p9, rfl⟩ := hk9.form
      obtain ⟨a10, p10, rfl⟩ := hk10.form
      obtain ⟨a11, p11, rfl⟩ := hk11.form
      generalize r.1.i.length = n8 at *
      generalize r.1.o.length = n9 at *
      generalize r.1.m.length = n10 at *
      generalize r.2.length = n11 at *
      have T6 := HT5.out.keep hb8
      obtain ⟨V6, hV6⟩ : ∃ V6, V6 = set4 w5 w.heap.size c (.slice a8 n8 p8) (.slice a9 n9 p9) (.slice a10 n10 p10) := ⟨_, rfl⟩
      have T7 := T6.put4 c hk8 hk9 hk10
      rw [← hV6] at T7
      have S7 : KL V6 (.slice a11 n11 p11) r.2 := by rw [hV6]; exact T6.side hk11
      unfold set4 at hV6
      have HV6 := Go.Lib.hid hV6
      have HT7 := Go.Lib.hid T7
      have HS7 := Go.Lib.hid S7
      have HF := Go.Lib.hid (front_f _ r.1.m k V6 (HLE.out ▸ HRL.out) T7.k3)
      obtain ⟨e0, e1, e2, e3⟩ := T6.cells
      have f0 := T6.b0.frozen 0
      have f1 := T6.b0.frozen 1
      have f2 := T6.b0.frozen 2
      have f3 := T6.b0.frozen 3
      have m1 := T6.b0.lt
      clear T6 T7 S7 hV6 hk8 hk9 hk10 hk11 hb8 HSH HT5 HV4 HV
      go_wp2_with fail
      rw [← HV6.out]
      refine HF.out.mono ?_
      rintro e w7 ⟨a12, n12, p12, rfl, hk12, ho12, hb12⟩
      have T8 := HT7.out.keep hb12
      obtain ⟨V8, hV8⟩ : ∃ V8, V8 = w7.setCell ⟨w.heap.size, 3, none⟩ (.slice a12 n12 p12) := ⟨_, rfl⟩
      have T9 := T8.put3 hk12
      rw [← hV8] at T9
      have S9 : KL V8 (.slice a11 n11 p11) r.2 := by rw [hV8]; exact T8.side1 (HS7.out.keep hb12)
      have HV8 := Go.Lib.hid hV8
      clear e0 e1 e2 e3 f0 f1 f2 f3
      obtain ⟨e0, e1, e2, e3⟩ := T8.cells
      have f3 := T8.b0.frozen 3
      have m2 := T8.b0.lt
      obtain ⟨R, hR⟩ : ∃ R, R = set4 V8 (w.heap.size + 1) c (.slice a8 n8 p8) (.slice a9 n9 p9) (.slice a12 n12 p12) := ⟨_, rfl⟩
      have SO : KL R (.slice a11 n11 p11) r.2 := by rw [hR]; exact T9.give_side S9
      have HSO := Go.Lib.hid SO
      have TO := T9.give
      rw [← hR] at TO
      unfold set4 at hR
      have HR := Go.Lib.hid hR
      have HTO := Go.Lib.hid TO
      obtain ⟨g0, g1, g2, g3⟩ := T9.cells
      have lg := T9.b0.lt
      obtain ⟨z0, z1, z2, z3⟩ := T9.zeros
      have zf0 := T9.b1.frozen 0
      have zf1 := T9.b1.frozen 1
      have zf2 := T9.b1.frozen 2
      have zf3 := T9.b1.frozen 3
      have lz := T9.b1.lt
      obtain ⟨d0, d1, d2, d3⟩ := TO.cells
      have ld := TO.b1.lt
      clear hR TO T9 hV8 hk12 ho12 hb12 SO S9 HF HT7
      obtain ⟨y0, y1, y2, y3⟩ := T8.zeros
      have yf0 := T8.b1.frozen 0
      have yf1 := T8.b1.frozen 1
      have yf2 := T8.b1.frozen 2
      have yf3 := T8.b1.frozen 3
      have ly := T8.b1.lt
      have HR3 := HR.out
      rw [HV8.out] at HR3
      have HR := Go.Lib.hid HR3
      clear HR3 HV8 T8 g0 g1 g2 g3 HV6
      go_wp2_with fail
      rw [← HR.out]
      refine bodyPost_ret (v := .tuple #[.agg #[.int .i64 c, .slice a8 n8 p8, .slice a9 n9 p9, .slice a12 n12 p12], .slice a11 n11 p11]) (by simp [results, Try.results106, go_sem, d0, d1, d2, d3]) rfl ?_
      exact ⟨_, _, _, _, rfl, HTO.out.k1, HTO.out.k2, HTO.out.k3, HSO.out, HTO.out.hb⟩
    · have HP := shrT_props (c - 1) c (by omega) (i.length + m.length) i (wo o k) m rfl
      generalize hr : shrT (c - 1) (i.length + m.length) ⟨c, i, wo o k, m⟩ = r at HP
      rw [admitT_new hk hko hr]
      obtain ⟨LL, HLL⟩ : ∃ LL, LL = r.1.i := ⟨_, rfl⟩
      have HRL : Hid (LL.length < 100000) := Go.Lib.hid (by rw [HLL]; have := HP.2.1; omega)
      have HLE := Go.Lib.hid HLL
      clear HLL
      have HKO := Go.Lib.hid hko
      clear HP
      rw [hn1, hn3] at hr
      have HR1 : Hid (shrT (c - 1) (i.length + m.length) ⟨c, i, wo o k, m⟩ = r) := Go.Lib.hid (by rw [hn1, hn3]; exact hr)
      clear hr
      obtain ⟨W, hW⟩ : ∃ W, W = (w.alloc (.cells #[.int .i64 c, .slice a1 n1 p1, .slice a2 n2 p2, .slice a3 n3 p3] 66)).alloc (.cells #[.int .i64 0, .slice none 0 0, .slice none 0 0, .slice none 0 0] 66) := ⟨_, rfl⟩
      have T0 : TwS w W c (.slice a1 n1 p1) (.slice a2 n2 p2) (.slice a3 n3 p3) i o m := by rw [hW]; exact TwS.start h1 h2 h3
      have HCP := Go.Lib.hid (twcopied_f c _ _ _ i o m W (by omega) (by omega) (by omega) T0.k1 T0.k2 T0.k3)
      obtain ⟨c0, c1, c2, c3⟩ := T0.cells
      have l0 := T0.b0.lt
      have HT0 := Go.Lib.hid T0
      have HW := Go.Lib.hid hW
      clear hW T0 h1 h2 h3
      go_enter Try.func106, Try.ntmps106
      go_wp2_with fail
      rw [← HW.out]
      refine HCP.out.mono ?_
      rintro e w1 ⟨a4, n4, p4, a5, n5, p5, a6, n6, p6, rfl, hk4, hk5, hk6, hb1⟩
      have T1 := HT0.out.keep hb1
      obtain ⟨V, hV⟩ : ∃ V, V = set4 w1 w.heap.size c (.slice a4 n4 p4) (.slice a5 n5 p5) (.slice a6 n6 p6) := ⟨_, rfl⟩
      have T2 : TwS w V c (.slice a4 n4 p4) (.slice a5 n5 p5) (.slice a6 n6 p6) i o m := by rw [hV]; exact T1.put4 c hk4 hk5 hk6
      obtain ⟨e0, e1, e2, e3⟩ := T1.cells
      have f0 := T1.b0.frozen 0
      have f1 := T1.b0.frozen 1
      have f2 := T1.b0.frozen 2
      have f3 := T1.b0.frozen 3
      have m0 := T1.b0.lt
      have HT2 := Go.Lib.hid T2
      unfold set4 at hV
      have HV := Go.Lib.hid hV
      have HT1 := Go.Lib.hid T1
      have HH := Go.Lib.hid (twhas_any c a4 a5 a6 n4 n5 n6 p4 p5 p6 i m k V T2.k1 T2.k3)
      rw [decide_eq_false hk] at HH
      clear hV T1 T2 hk4 hk5 hk6 hb1 c0 c1 c2 c3 l0 HCP HT0
      clear hk hko
      go_wp2_with fail
      rw [← HV.out]
      refine HH.out.mono ?_
      rintro e w2 ⟨rfl, hb2⟩
      have T3 := HT2.out.keep hb2
      have HT3 := Go.Lib.hid T3
      have HHO := Go.Lib.hid (sqhas_any _ o k w2 T3.k2)
      rw [decide_eq_false HKO.out] at HHO
      have HWO := Go.Lib.hid (formedT (sqwo_any _ o k w2 (by omega) T3.k2))
      obtain ⟨g0, g1, g2, g3⟩ := T3.cells
      have lg := T3.b0.lt
      clear T3 hb2 e0 e1 e2 e3 f0 f1 f2 f3 m0
      go_wp2_with fail
      refine HHO.out.mono ?_
      rintro e w2 ⟨rfl, rfl⟩
      go_wp2_with fail
      refine HWO.out.mono ?_
      rintro e w3 ⟨a7, n7, p7, rfl, hk7, ho7, hb7⟩
      have T4 := HT3.out.keep hb7
      obtain ⟨V4, hV4⟩ : ∃ V4, V4 = w3.setCell ⟨w.heap.size, 2, none⟩ (.slice a7 n7 p7) := ⟨_, rfl⟩
      have T5 := T4.put2 hk7
      rw [← hV4] at T5
      have HV4 := Go.Lib.hid hV4
      have HT5 := Go.Lib.hid T5
      have HSH := Go.Lib.hid (twshrink_any c (c - 1) (.slice a4 n4 p4) (.slice a7 n7 p7) (.slice a6 n6 p6) i (wo o k) m V4 hc0 (by omega) (by omega) (by omega) (by omega) (by have := wo_len o k; omega) (by omega) T5.k1 T5.k2 T5.k3)
      rw [HR1.out] at HSH
      obtain ⟨e0, e1, e2, e3⟩ := T4.cells
      have f2 := T4.b0.frozen 2
      have m0 := T4.b0.lt
      clear T4 T5 hV4 hk7 ho7 hb7 g0 g1 g2 g3 lg HWO HHO HH HT2 HT1 HT3
      go_wp2_with fail
      rw [← HV4.out]
      refine HSH.out.mono ?_
      rintro e w5 ⟨u1, u2, u3, vo, rfl, hk8, hk9, hk10, hk11, hb8⟩
      obtain ⟨a8, p8, rfl⟩ := hk8.form
      obtain ⟨a9, p9, rfl⟩ := hk9.form
      obtain ⟨a10, p10, rfl⟩ := hk10.form
      obtain ⟨a11, p11, rfl⟩ := hk11.form
      generalize r.1.i.length = n8 at *
      generalize r.1.o.length = n9 at *
      generalize r.1.m.length = n10 at *
      generalize r.2.length = n11 at *
      have T6 := HT5.out.keep hb8
      obtain ⟨V6, hV6⟩ : ∃ V6, V6 = set4 w5 w.heap.size c (.slice a8 n8 p8) (.slice a9 n9 p9) (.slice a10 n10 p10) := ⟨_, rfl⟩
      have T7 := T6.put4 c hk8 hk9 hk10
      rw [← hV6] at T7
      have S7 : KL V6 (.slice a11 n11 p11) r.2 := by rw [hV6]; exact T6.side hk11
      unfold set4 at hV6
      have HV6 := Go.Lib.hid hV6
      have HT7 := Go.Lib.hid T7
      have HS7 := Go.Lib.hid S7
      have HF := Go.Lib.hid (front_f _ r.1.i k V6 (HLE.out ▸ HRL.out) T7.k1)
      obtain ⟨e0, e1, e2, e3⟩ := T6.cells
      have f0 := T6.b0.frozen 0
      have f1 := T6.b0.frozen 1
      have f2 := T6.b0.frozen 2
      have f3 := T6.b0.frozen 3
      have m1 := T6.b0.lt
      clear T6 T7 S7 hV6 hk8 hk9 hk10 hk11 hb8 HSH HT5 HV4 HV
      go_wp2_with fail
      rw [← HV6.out]
      refine HF.out.mono ?_
      rintro e w7 ⟨a12, n12, p12, rfl, hk12, ho12, hb12⟩
      have T8 := HT7.out.keep hb12
      obtain ⟨V8, hV8⟩ : ∃ V8, V8 = w7.setCell ⟨w.heap.size, 1, none⟩ (.slice a12 n12 p12) := ⟨_, rfl⟩
      have T9 := T8.put1 hk12
      rw [← hV8] at T9
      have S9 : KL V8 (.slice a11 n11 p11) r.2 := by rw [hV8]; exact T8.side1 (HS7.out.keep hb12)
      have HV8 := Go.Lib.hid hV8
      clear e0 e1 e2 e3 f0 f1 f2 f3
      obtain ⟨e0, e1, e2, e3⟩ := T8.cells
      have f3 := T8.b0.frozen 1
      have m2 := T8.b0.lt
      obtain ⟨R, hR⟩ : ∃ R, R = set4 V8 (w.heap.size + 1) c (.slice a12 n12 p12) (.slice a9 n9 p9) (.slice a10 n10 p10) := ⟨_, rfl⟩
      have SO : KL R (.slice a11 n11 p11) r.2 := by rw [hR]; exact T9.give_side S9
      have HSO := Go.Lib.hid SO
      have TO := T9.give
      rw [← hR] at TO
      unfold set4 at hR
      have HR := Go.Lib.hid hR
      have HTO := Go.Lib.hid TO
      obtain ⟨g0, g1, g2, g3⟩ := T9.cells
      have lg := T9.b0.lt
      obtain ⟨z0, z1, z2, z3⟩ := T9.zeros
      have zf0 := T9.b1.frozen 0
      have zf1 := T9.b1.frozen 1
      have zf2 := T9.b1.frozen 2
      have zf3 := T9.b1.frozen 3
      have lz := T9.b1.lt
      obtain ⟨d0, d1, d2, d3⟩ := TO.cells
      have ld := TO.b1.lt
      clear hR TO T9 hV8 hk12 ho12 hb12 SO S9 HF HT7
      obtain ⟨y0, y1, y2, y3⟩ := T8.zeros
      have yf0 := T8.b1.frozen 0
      have yf1 := T8.b1.frozen 1
      have yf2 := T8.b1.frozen 2
      have yf3 := T8.b1.frozen 3
      have ly := T8.b1.lt
      have HR3 := HR.out
      rw [HV8.out] at HR3
      have HR := Go.Lib.hid HR3
      clear HR3 HV8 T8 g0 g1 g2 g3 HV6
      go_wp2_with fail
      rw [← HR.out]
      refine bodyPost_ret (v := .tuple #[.agg #[.int .i64 c, .slice a12 n12 p12, .slice a9 n9 p9, .slice a10 n10 p10], .slice a11 n11 p11]) (by simp [results, Try.results106, go_sem, d0, d1, d2, d3]) rfl ?_
      exact ⟨_, _, _, _, rfl, HTO.out.k1, HTO.out.k2, HTO.out.k3, HSO.out, HTO.out.hb⟩
end Go.Proofs.Ytlakojncjldpbaa
