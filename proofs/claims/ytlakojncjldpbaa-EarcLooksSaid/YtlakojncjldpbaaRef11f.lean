/- The reference of the adaptive cache: fresh. -/
import Derived.Test.YtlakojncjldpbaaRef11e
namespace Go.Proofs.Ytlakojncjldpbaa
open Go.RowKit Hop
set_option linter.unusedVariables false
set_option linter.unusedSimpArgs false
set_option maxRecDepth 100000
set_option maxHeartbeats 12800000 in
theorem a11fresh_b (c q : Int) (t u d L : List Int) (x : Int) (v1 v2 v3 v4 : Value) (w : World) (hc1 : 1 ≤ c) (hc2 : c ≤ 1048576) (ht : t.length < 50000) (hu : u.length < 50000) (hd : d.length < 50000) (hL : L.length < 49999) (g1 : c ≤ (t.length : Int) + (L.length + 1 : Nat)) (g2 : (t.length : Int) < c) (h : AT w v1 v2 v3 v4 ⟨c, q, t, u, (L ++ [x]), d⟩) :
    Calls Try.prog 188 #[.agg #[.int .i64 c, .int .i64 q, v1, v2, v3, v4]] w fun e w' => ∃ x1 x2 x3 x4 vo, e = .returned (.tuple #[.agg #[.int .i64 c, .int .i64 q, x1, x2, x3, x4], vo]) ∧ AT w' x1 x2 x3 x4 (replA ⟨c, q, t, u, L, d⟩ false).1 ∧ KL w' vo (replA ⟨c, q, t, u, L, d⟩ false).2 ∧ Below w.heap.size w w' := by
  obtain ⟨h1, h2, h3, h4⟩ := h
  simp only at h1 h2 h3 h4
  obtain ⟨a1, p1, rfl⟩ := h1.form
  obtain ⟨a2, p2, rfl⟩ := h2.form
  obtain ⟨a3, p3, rfl⟩ := h3.form
  obtain ⟨a4, p4, rfl⟩ := h4.form
  have hcap : L.length + 1 ≤ p3 := by
    rcases h3.2 with ⟨e1, e2⟩ | ⟨g, cap', cs, e1, e2, e3, e4⟩
    · simp at e2
    · injection e1 with q1 q2 q3; simp at e3; omega
  have hlx : (L ++ [x]).length = L.length + 1 := by simp
  have hk' : ∀ W, KL W (.slice a3 (L.length + 1) p3) (L ++ [x]) → KL W (.slice a3 L.length p3) L := fun W h => by
    have := h.take (m := L.length) (by simp)
    rwa [List.take_left'] at this
    rfl
  rw [hlx] at h3
  obtain ⟨W, hW, b0, b1, B0⟩ := two_blocks w [.int .i64 c, .int .i64 q, .slice a1 t.length p1, .slice a2 u.length p2, .slice a3 L.length p3, .slice a4 d.length p4] [.int .i64 0, .int .i64 0, .slice none 0 0, .slice none 0 0, .slice none 0 0, .slice none 0 0] 73
  have HAT : Hid (AT W (.slice a1 t.length p1) (.slice a2 u.length p2) (.slice a3 L.length p3) (.slice a4 d.length p4) ⟨c, q, t, u, L, d⟩) := Go.Lib.hid ⟨h1.keep B0, h2.keep B0, hk' _ (h3.keep B0), h4.keep B0⟩
  have HRX := Go.Lib.hid (a11repl_any ⟨c, q, t, u, L, d⟩ false _ _ _ _ W ⟨hc1, hc2⟩ ⟨by simp only; omega, by simp only; omega, by simp only; omega, by simp only; omega⟩ HAT.out)
  simp only at HRX
  generalize replA ⟨c, q, t, u, L, d⟩ false = R at *
  have HB0 := Go.Lib.hid B0
  have HW := Go.Lib.hid hW
  have Hb1 := Go.Lib.hid b1
  simp only [hlx]
  generalize t.length = l1 at *
  generalize u.length = l2 at *
  generalize L.length = l3 at *
  generalize d.length = l4 at *
  clear hk' hlx hW B0 h1 h2 h3 h4 b0 b1 HAT
  go_enter Try.func188, Try.ntmps188
  go_wp2_with fail
  rw [← HW.out]
  refine HRX.out.mono ?_
  rintro e w2 ⟨x1, x2, x3, x4, vo, rfl, hat, hvo, hb2⟩
  obtain ⟨b1', r1, rfl⟩ := hat.t.form
  obtain ⟨b2', r2, rfl⟩ := hat.u.form
  obtain ⟨b3', r3, rfl⟩ := hat.b.form
  obtain ⟨b4', r4, rfl⟩ := hat.d.form
  obtain ⟨bo', ro, rfl⟩ := hvo.form
  have b1 := Hb1.out.keep hb2
  have d0 := b1.cell 0
  have d1 := b1.cell 1
  have d2 := b1.cell 2
  have d3 := b1.cell 3
  have d4 := b1.cell 4
  have d5 := b1.cell 5
  simp only [List.getElem?_cons_zero, List.getElem?_cons_succ] at d0 d1 d2 d3 d4 d5
  have f0 := b1.frozen 0
  have f1 := b1.frozen 1
  have f2 := b1.frozen 2
  have f3 := b1.frozen 3
  have f4 := b1.frozen 4
  have f5 := b1.frozen 5
  have lx := b1.lt
  have JA := Go.Lib.hid hat
  have JV := Go.Lib.hid hvo
  have Jb := Go.Lib.hid b1
  have HB2 := Go.Lib.hid (HB0.out.trans (hb2.mono HB0.out.size))
  generalize R.1.t.length = y1 at *
  generalize R.1.u.length = y2 at *
  generalize R.1.b.length = y3 at *
  generalize R.1.d.length = y4 at *
  generalize R.2.length = y5 at *
  clear hat hvo hb2 b1
  go_wp2_with fail
  refine bodyPost_ret (v := .tuple #[.agg #[.int .i64 c, .int .i64 q, .slice b1' y1 r1, .slice b2' y2 r2, .slice b3' y3 r3, .slice b4' y4 r4], .slice bo' y5 ro]) (by simp [results, Try.results188, go_sem, d0, d1, d2, d3, d4, d5]) rfl ⟨_, _, _, _, _, rfl, JA.out.two Jb.out Jb.out (by decide) (by decide) (by repeat' (first | refine Fr.setEq ?_ ?_ _ | exact Fr.refl _ _ | exact .inl rfl | exact .inr rfl)), JV.out.two Jb.out Jb.out (by decide) (by decide) (by repeat' (first | refine Fr.setEq ?_ ?_ _ | exact Fr.refl _ _ | exact .inl rfl | exact .inr rfl)), ?_⟩
  repeat' (first | refine below_set ?_ ?_ _ | exact HB2.out | omega)
set_option maxHeartbeats 12800000 in
theorem a11fresh_d (c q : Int) (t u b L : List Int) (x : Int) (v1 v2 v3 v4 : Value) (w : World) (hc1 : 1 ≤ c) (hc2 : c ≤ 1048576) (ht : t.length < 50000) (hu : u.length < 50000) (hb : b.length < 50000) (hL : L.length < 49999) (g1 : ¬ c ≤ (t.length : Int) + b.length) (g2 : ¬ (t.length : Int) + u.length + b.length + (L.length + 1 : Nat) < c) (g3 : 2 * c ≤ (t.length : Int) + u.length + b.length + (L.length + 1 : Nat)) (h : AT w v1 v2 v3 v4 ⟨c, q, t, u, b, (L ++ [x])⟩) :
    Calls Try.prog 188 #[.agg #[.int .i64 c, .int .i64 q, v1, v2, v3, v4]] w fun e w' => ∃ x1 x2 x3 x4 vo, e = .returned (.tuple #[.agg #[.int .i64 c, .int .i64 q, x1, x2, x3, x4], vo]) ∧ AT w' x1 x2 x3 x4 (replA ⟨c, q, t, u, b, L⟩ false).1 ∧ KL w' vo (replA ⟨c, q, t, u, b, L⟩ false).2 ∧ Below w.heap.size w w' := by
  obtain ⟨h1, h2, h3, h4⟩ := h
  simp only at h1 h2 h3 h4
  obtain ⟨a1, p1, rfl⟩ := h1.form
  obtain ⟨a2, p2, rfl⟩ := h2.form
  obtain ⟨a3, p3, rfl⟩ := h3.form
  obtain ⟨a4, p4, rfl⟩ := h4.form
  have hcap : L.length + 1 ≤ p4 := by
    rcases h4.2 with ⟨e1, e2⟩ | ⟨g, cap', cs, e1, e2, e3, e4⟩
    · simp at e2
    · injection e1 with q1 q2 q3; simp at e3; omega
  have hlx : (L ++ [x]).length = L.length + 1 := by simp
  have hk' : ∀ W, KL W (.slice a4 (L.length + 1) p4) (L ++ [x]) → KL W (.slice a4 L.length p4) L := fun W h => by
    have := h.take (m := L.length) (by simp)
    rwa [List.take_left'] at this
    rfl
  rw [hlx] at h4
  obtain ⟨W, hW, b0, b1, B0⟩ := two_blocks w [.int .i64 c, .int .i64 q, .slice a1 t.length p1, .slice a2 u.length p2, .slice a3 b.length p3, .slice a4 L.length p4] [.int .i64 0, .int .i64 0, .slice none 0 0, .slice none 0 0, .slice none 0 0, .slice none 0 0] 73
  have HAT : Hid (AT W (.slice a1 t.length p1) (.slice a2 u.length p2) (.slice a3 b.length p3) (.slice a4 L.length p4) ⟨c, q, t, u, b, L⟩) := Go.Lib.hid ⟨h1.keep B0, h2.keep B0, h3.keep B0, hk' _ (h4.keep B0)⟩
  have HRX := Go.Lib.hid (a11repl_any ⟨c, q, t, u, b, L⟩ false _ _ _ _ W ⟨hc1, hc2⟩ ⟨by simp only; omega, by simp only; omega, by simp only; omega, by simp only; omega⟩ HAT.out)
  simp only at HRX
  generalize replA ⟨c, q, t, u, b, L⟩ false = R at *
  have HB0 := Go.Lib.hid B0
  have HW := Go.Lib.hid hW
  have Hb1 := Go.Lib.hid b1
  simp only [hlx]
  generalize t.length = l1 at *
  generalize u.length = l2 at *
  generalize b.length = l3 at *
  generalize L.length = l4 at *
  clear hk' hlx hW B0 h1 h2 h3 h4 b0 b1 HAT
  go_enter Try.func188, Try.ntmps188
  go_wp2_with fail
  rw [← HW.out]
  refine HRX.out.mono ?_
  rintro e w2 ⟨x1, x2, x3, x4, vo, rfl, hat, hvo, hb2⟩
  obtain ⟨b1', r1, rfl⟩ := hat.t.form
  obtain ⟨b2', r2, rfl⟩ := hat.u.form
  obtain ⟨b3', r3, rfl⟩ := hat.b.form
  obtain ⟨b4', r4, rfl⟩ := hat.d.form
  obtain ⟨bo', ro, rfl⟩ := hvo.form
  have b1 := Hb1.out.keep hb2
  have d0 := b1.cell 0
  have d1 := b1.cell 1
  have d2 := b1.cell 2
  have d3 := b1.cell 3
  have d4 := b1.cell 4
  have d5 := b1.cell 5
  simp only [List.getElem?_cons_zero, List.getElem?_cons_succ] at d0 d1 d2 d3 d4 d5
  have f0 := b1.frozen 0
  have f1 := b1.frozen 1
  have f2 := b1.frozen 2
  have f3 := b1.frozen 3
  have f4 := b1.frozen 4
  have f5 := b1.frozen 5
  have lx := b1.lt
  have JA := Go.Lib.hid hat
  have JV := Go.Lib.hid hvo
  have Jb := Go.Lib.hid b1
  have HB2 := Go.Lib.hid (HB0.out.trans (hb2.mono HB0.out.size))
  generalize R.1.t.length = y1 at *
  generalize R.1.u.length = y2 at *
  generalize R.1.b.length = y3 at *
  generalize R.1.d.length = y4 at *
  generalize R.2.length = y5 at *
  clear hat hvo hb2 b1
  go_wp2_with fail
  refine bodyPost_ret (v := .tuple #[.agg #[.int .i64 c, .int .i64 q, .slice b1' y1 r1, .slice b2' y2 r2, .slice b3' y3 r3, .slice b4' y4 r4], .slice bo' y5 ro]) (by simp [results, Try.results188, go_sem, d0, d1, d2, d3, d4, d5]) rfl ⟨_, _, _, _, _, rfl, JA.out.two Jb.out Jb.out (by decide) (by decide) (by repeat' (first | refine Fr.setEq ?_ ?_ _ | exact Fr.refl _ _ | exact .inl rfl | exact .inr rfl)), JV.out.two Jb.out Jb.out (by decide) (by decide) (by repeat' (first | refine Fr.setEq ?_ ?_ _ | exact Fr.refl _ _ | exact .inl rfl | exact .inr rfl)), ?_⟩
  repeat' (first | refine below_set ?_ ?_ _ | exact HB2.out | omega)
set_option maxHeartbeats 12800000 in
theorem a11fresh_e (c q : Int) (t u b d : List Int) (v1 v2 v3 v4 : Value) (w : World) (hc1 : 1 ≤ c) (hc2 : c ≤ 1048576) (ht : t.length < 50000) (hu : u.length < 50000) (hb : b.length < 50000) (hd : d.length < 50000) (g1 : ¬ c ≤ (t.length : Int) + b.length) (g2 : ¬ (t.length : Int) + u.length + b.length + d.length < c) (g3 : ¬ 2 * c ≤ (t.length : Int) + u.length + b.length + d.length) (h : AT w v1 v2 v3 v4 ⟨c, q, t, u, b, d⟩) :
    Calls Try.prog 188 #[.agg #[.int .i64 c, .int .i64 q, v1, v2, v3, v4]] w fun e w' => ∃ x1 x2 x3 x4 vo, e = .returned (.tuple #[.agg #[.int .i64 c, .int .i64 q, x1, x2, x3, x4], vo]) ∧ AT w' x1 x2 x3 x4 (replA ⟨c, q, t, u, b, d⟩ false).1 ∧ KL w' vo (replA ⟨c, q, t, u, b, d⟩ false).2 ∧ Below w.heap.size w w' := by
  obtain ⟨h1, h2, h3, h4⟩ := h
  simp only at h1 h2 h3 h4
  obtain ⟨a1, p1, rfl⟩ := h1.form
  obtain ⟨a2, p2, rfl⟩ := h2.form
  obtain ⟨a3, p3, rfl⟩ := h3.form
  obtain ⟨a4, p4, rfl⟩ := h4.form
  obtain ⟨W, hW, b0, b1, B0⟩ := two_blocks w [.int .i64 c, .int .i64 q, .slice a1 t.length p1, .slice a2 u.length p2, .slice a3 b.length p3, .slice a4 d.length p4] [.int .i64 0, .int .i64 0, .slice none 0 0, .slice none 0 0, .slice none 0 0, .slice none 0 0] 73
  have HAT : Hid (AT W (.slice a1 t.length p1) (.slice a2 u.length p2) (.slice a3 b.length p3) (.slice a4 d.length p4) ⟨c, q, t, u, b, d⟩) := Go.Lib.hid ⟨h1.keep B0, h2.keep B0, h3.keep B0, h4.keep B0⟩
  have HRX := Go.Lib.hid (a11repl_any ⟨c, q, t, u, b, d⟩ false _ _ _ _ W ⟨hc1, hc2⟩ ⟨ht, hu, hb, hd⟩ HAT.out)
  simp only at HRX
  generalize replA ⟨c, q, t, u, b, d⟩ false = R at *
  have HB0 := Go.Lib.hid B0
  have HW := Go.Lib.hid hW
  have Hb1 := Go.Lib.hid b1
  generalize t.length = l1 at *
  generalize u.length = l2 at *
  generalize b.length = l3 at *
  generalize d.length = l4 at *
  clear hW B0 h1 h2 h3 h4 b0 b1 HAT
  go_enter Try.func188, Try.ntmps188
  go_wp2_with fail
  rw [← HW.out]
  refine HRX.out.mono ?_
  rintro e w2 ⟨x1, x2, x3, x4, vo, rfl, hat, hvo, hb2⟩
  obtain ⟨b1', r1, rfl⟩ := hat.t.form
  obtain ⟨b2', r2, rfl⟩ := hat.u.form
  obtain ⟨b3', r3, rfl⟩ := hat.b.form
  obtain ⟨b4', r4, rfl⟩ := hat.d.form
  obtain ⟨bo', ro, rfl⟩ := hvo.form
  have b1 := Hb1.out.keep hb2
  have d0 := b1.cell 0
  have d1 := b1.cell 1
  have d2 := b1.cell 2
  have d3 := b1.cell 3
  have d4 := b1.cell 4
  have d5 := b1.cell 5
  simp only [List.getElem?_cons_zero, List.getElem?_cons_succ] at d0 d1 d2 d3 d4 d5
  have f0 := b1.frozen 0
  have f1 := b1.frozen 1
  have f2 := b1.frozen 2
  have f3 := b1.frozen 3
  have f4 := b1.frozen 4
  have f5 := b1.frozen 5
  have lx := b1.lt
  have JA := Go.Lib.hid hat
  have JV := Go.Lib.hid hvo
  have Jb := Go.Lib.hid b1
  have HB2 := Go.Lib.hid (HB0.out.trans (hb2.mono HB0.out.size))
  generalize R.1.t.length = y1 at *
  generalize R.1.u.length = y2 at *
  generalize R.1.b.length = y3 at *
  generalize R.1.d.length = y4 at *
  generalize R.2.length = y5 at *
  clear hat hvo hb2 b1
  go_wp2_with fail
  refine bodyPost_ret (v := .tuple #[.agg #[.int .i64 c, .int .i64 q, .slice b1' y1 r1, .slice b2' y2 r2, .slice b3' y3 r3, .slice b4' y4 r4], .slice bo' y5 ro]) (by simp [results, Try.results188, go_sem, d0, d1, d2, d3, d4, d5]) rfl ⟨_, _, _, _, _, rfl, JA.out.two Jb.out Jb.out (by decide) (by decide) (by repeat' (first | refine Fr.setEq ?_ ?_ _ | exact Fr.refl _ _ | exact .inl rfl | exact .inr rfl)), JV.out.two Jb.out Jb.out (by decide) (by decide) (by repeat' (first | refine Fr.setEq ?_ ?_ _ | exact Fr.refl _ _ | exact .inl rfl | exact .inr rfl)), ?_⟩
  repeat' (first | refine below_set ?_ ?_ _ | exact HB2.out | omega)
set_option maxHeartbeats 12800000 in
theorem a11fresh_f (c q : Int) (t u b d : List Int) (v1 v2 v3 v4 : Value) (w : World) (hc1 : 1 ≤ c) (hc2 : c ≤ 1048576) (ht : t.length < 50000) (hu : u.length < 50000) (hb : b.length < 50000) (hd : d.length < 50000) (g1 : ¬ c ≤ (t.length : Int) + b.length) (g2 : ¬ (t.length : Int) + u.length + b.length + d.length < c) (g3 : 2 * c ≤ (t.length : Int) + u.length + b.length + d.length) (g4 : d.length = 0) (h : AT w v1 v2 v3 v4 ⟨c, q, t, u, b, d⟩) :
    Calls Try.prog 188 #[.agg #[.int .i64 c, .int .i64 q, v1, v2, v3, v4]] w fun e w' => ∃ x1 x2 x3 x4 vo, e = .returned (.tuple #[.agg #[.int .i64 c, .int .i64 q, x1, x2, x3, x4], vo]) ∧ AT w' x1 x2 x3 x4 (replA ⟨c, q, t, u, b, d⟩ false).1 ∧ KL w' vo (replA ⟨c, q, t, u, b, d⟩ false).2 ∧ Below w.heap.size w w' := by
  obtain ⟨h1, h2, h3, h4⟩ := h
  simp only at h1 h2 h3 h4
  obtain ⟨a1, p1, rfl⟩ := h1.form
  obtain ⟨a2, p2, rfl⟩ := h2.form
  obtain ⟨a3, p3, rfl⟩ := h3.form
  obtain ⟨a4, p4, rfl⟩ := h4.form
  obtain ⟨W, hW, b0, b1, B0⟩ := two_blocks w [.int .i64 c, .int .i64 q, .slice a1 t.length p1, .slice a2 u.length p2, .slice a3 b.length p3, .slice a4 d.length p4] [.int .i64 0, .int .i64 0, .slice none 0 0, .slice none 0 0, .slice none 0 0, .slice none 0 0] 73
  have HAT : Hid (AT W (.slice a1 t.length p1) (.slice a2 u.length p2) (.slice a3 b.length p3) (.slice a4 d.length p4) ⟨c, q, t, u, b, d⟩) := Go.Lib.hid ⟨h1.keep B0, h2.keep B0, h3.keep B0, h4.keep B0⟩
  have HRX := Go.Lib.hid (a11repl_any ⟨c, q, t, u, b, d⟩ false _ _ _ _ W ⟨hc1, hc2⟩ ⟨ht, hu, hb, hd⟩ HAT.out)
  simp only at HRX
  generalize replA ⟨c, q, t, u, b, d⟩ false = R at *
  have HB0 := Go.Lib.hid B0
  have HW := Go.Lib.hid hW
  have Hb1 := Go.Lib.hid b1
  generalize t.length = l1 at *
  generalize u.length = l2 at *
  generalize b.length = l3 at *
  generalize d.length = l4 at *
  clear hW B0 h1 h2 h3 h4 b0 b1 HAT
  subst g4
  go_enter Try.func188, Try.ntmps188
  go_wp2_with fail
  rw [← HW.out]
  refine HRX.out.mono ?_
  rintro e w2 ⟨x1, x2, x3, x4, vo, rfl, hat, hvo, hb2⟩
  obtain ⟨b1', r1, rfl⟩ := hat.t.form
  obtain ⟨b2', r2, rfl⟩ := hat.u.form
  obtain ⟨b3', r3, rfl⟩ := hat.b.form
  obtain ⟨b4', r4, rfl⟩ := hat.d.form
  obtain ⟨bo', ro, rfl⟩ := hvo.form
  have b1 := Hb1.out.keep hb2
  have d0 := b1.cell 0
  have d1 := b1.cell 1
  have d2 := b1.cell 2
  have d3 := b1.cell 3
  have d4 := b1.cell 4
  have d5 := b1.cell 5
  simp only [List.getElem?_cons_zero, List.getElem?_cons_succ] at d0 d1 d2 d3 d4 d5
  have f0 := b1.frozen 0
  have f1 := b1.frozen 1
  have f2 := b1.frozen 2
  have f3 := b1.frozen 3
  have f4 := b1.frozen 4
  have f5 := b1.frozen 5
  have lx := b1.lt
  have JA := Go.Lib.hid hat
  have JV := Go.Lib.hid hvo
  have Jb := Go.Lib.hid b1
  have HB2 := Go.Lib.hid (HB0.out.trans (hb2.mono HB0.out.size))
  generalize R.1.t.length = y1 at *
  generalize R.1.u.length = y2 at *
  generalize R.1.b.length = y3 at *
  generalize R.1.d.length = y4 at *
  generalize R.2.length = y5 at *
  clear hat hvo hb2 b1
  go_wp2_with fail
  refine bodyPost_ret (v := .tuple #[.agg #[.int .i64 c, .int .i64 q, .slice b1' y1 r1, .slice b2' y2 r2, .slice b3' y3 r3, .slice b4' y4 r4], .slice bo' y5 ro]) (by simp [results, Try.results188, go_sem, d0, d1, d2, d3, d4, d5]) rfl ⟨_, _, _, _, _, rfl, JA.out.two Jb.out Jb.out (by decide) (by decide) (by repeat' (first | refine Fr.setEq ?_ ?_ _ | exact Fr.refl _ _ | exact .inl rfl | exact .inr rfl)), JV.out.two Jb.out Jb.out (by decide) (by decide) (by repeat' (first | refine Fr.setEq ?_ ?_ _ | exact Fr.refl _ _ | exact .inl rfl | exact .inr rfl)), ?_⟩
  repeat' (first | refine below_set ?_ ?_ _ | exact HB2.out | omega)
set_option maxHeartbeats 12800000 in
theorem a11fresh_c (c q : Int) (t u b d : List Int) (v1 v2 v3 v4 : Value) (w : World) (ht : t.length < 50000) (hu : u.length < 50000) (hb : b.length < 50000) (hd : d.length < 50000) (hc2 : c ≤ 1048576) (g1 : ¬ c ≤ (t.length : Int) + b.length) (g2 : (t.length : Int) + u.length + b.length + d.length < c) (h : AT w v1 v2 v3 v4 ⟨c, q, t, u, b, d⟩) :
    Calls Try.prog 188 #[.agg #[.int .i64 c, .int .i64 q, v1, v2, v3, v4]] w fun e w' => ∃ x1 x2 x3 x4 vo, e = .returned (.tuple #[.agg #[.int .i64 c, .int .i64 q, x1, x2, x3, x4], vo]) ∧ AT w' x1 x2 x3 x4 ⟨c, q, t, u, b, d⟩ ∧ KL w' vo [] ∧ Below w.heap.size w w' := by
  have HAW := Go.Lib.hid h
  obtain ⟨h1, h2, h3, h4⟩ := h
  simp only at h1 h2 h3 h4
  obtain ⟨a1, p1, rfl⟩ := h1.form
  obtain ⟨a2, p2, rfl⟩ := h2.form
  obtain ⟨a3, p3, rfl⟩ := h3.form
  obtain ⟨a4, p4, rfl⟩ := h4.form
  generalize t.length = l1 at *
  generalize u.length = l2 at *
  generalize b.length = l3 at *
  generalize d.length = l4 at *
  clear h1 h2 h3 h4
  go_enter Try.func188, Try.ntmps188
  go_wp2_with fail
  obtain ⟨W2, hW2, b02, b12, B2⟩ := two_blocks w [.int .i64 c, .int .i64 q, .slice a1 l1 p1, .slice a2 l2 p2, .slice a3 l3 p3, .slice a4 l4 p4] [.int .i64 c, .int .i64 q, .slice a1 l1 p1, .slice a2 l2 p2, .slice a3 l3 p3, .slice a4 l4 p4] 73
  rw [← hW2]
  have e0 := b12.cell 0
  have e1 := b12.cell 1
  have e2 := b12.cell 2
  have e3 := b12.cell 3
  have e4 := b12.cell 4
  have e5 := b12.cell 5
  simp only [List.getElem?_cons_zero, List.getElem?_cons_succ] at e0 e1 e2 e3 e4 e5
  exact bodyPost_ret (v := .tuple #[.agg #[.int .i64 c, .int .i64 q, .slice a1 l1 p1, .slice a2 l2 p2, .slice a3 l3 p3, .slice a4 l4 p4], .slice none 0 0]) (by simp [results, Try.results188, go_sem, e0, e1, e2, e3, e4, e5]) rfl ⟨_, _, _, _, _, rfl, HAW.out.keep B2, KL.nil _, B2⟩
set_option maxHeartbeats 12800000 in
theorem a11fresh_a (c q : Int) (u b d L : List Int) (x : Int) (v1 v2 v3 v4 : Value) (w : World) (hu : u.length < 50000) (hb : b.length < 50000) (hd : d.length < 50000) (hL : L.length < 49999) (hc1 : 1 ≤ c) (hc2 : c ≤ 1048576) (g0 : c ≤ ((L.length + 1 : Nat) : Int) + b.length) (g1 : ¬ ((L.length + 1 : Nat) : Int) < c) (h : AT w v1 v2 v3 v4 ⟨c, q, L ++ [x], u, b, d⟩) :
    Calls Try.prog 188 #[.agg #[.int .i64 c, .int .i64 q, v1, v2, v3, v4]] w fun e w' => ∃ x1 x2 x3 x4 vo, e = .returned (.tuple #[.agg #[.int .i64 c, .int .i64 q, x1, x2, x3, x4], vo]) ∧ AT w' x1 x2 x3 x4 ⟨c, q, L, u, b, d⟩ ∧ KL w' vo [x] ∧ Below w.heap.size w w' := by
  obtain ⟨h1, h2, h3, h4⟩ := h
  simp only at h1 h2 h3 h4
  obtain ⟨a1, p1, rfl⟩ := h1.form
  obtain ⟨a2, p2, rfl⟩ := h2.form
  obtain ⟨a3, p3, rfl⟩ := h3.form
  obtain ⟨a4, p4, rfl⟩ := h4.form
  have hcap : L.length + 1 ≤ p1 := by
    rcases h1.2 with ⟨e1, e2⟩ | ⟨g, cap', cs, e1, e2, e3, e4⟩
    · simp at e2
    · injection e1 with q1 q2 q3; simp at e3; omega
  have hlx : (L ++ [x]).length = L.length + 1 := by simp
  have hk' : ∀ W, KL W (.slice a1 (L.length + 1) p1) (L ++ [x]) → KL W (.slice a1 L.length p1) L := fun W h => by
    have := h.take (m := L.length) (by simp)
    rwa [List.take_left'] at this
    rfl
  rw [hlx] at h1
  obtain ⟨W, hW, b0, b1, B0⟩ := two_blocks w [.int .i64 c, .int .i64 q, .slice a1 (L.length + 1) p1, .slice a2 u.length p2, .slice a3 b.length p3, .slice a4 d.length p4] [.int .i64 0, .int .i64 0, .slice none 0 0, .slice none 0 0, .slice none 0 0, .slice none 0 0] 73
  have k1 : KL W (.slice a1 (L.length + 1) p1) (L ++ [x]) := h1.keep B0
  have HBK := Go.Lib.hid (back_key _ L x W k1)
  obtain ⟨U, hU, u0, u1, uk, ub, us⟩ := st_set b0 b1 (by decide) 2 (.slice a1 L.length p1)
  have Hu0 : Hid (Blk U w.heap.size [.int .i64 c, .int .i64 q, .slice a1 L.length p1, .slice a2 u.length p2, .slice a3 b.length p3, .slice a4 d.length p4] 73) := u0
  have Hu1 := Go.Lib.hid u1
  have HAU : Hid (AT U (.slice a1 L.length p1) (.slice a2 u.length p2) (.slice a3 b.length p3) (.slice a4 d.length p4) ⟨c, q, L, u, b, d⟩) := Go.Lib.hid ⟨uk _ _ (hk' _ k1), uk _ _ (h2.keep B0), uk _ _ (h3.keep B0), uk _ _ (h4.keep B0)⟩
  have HBU := Go.Lib.hid (ub _ _ (Nat.le_refl _) B0)
  have HU := Go.Lib.hid hU
  have HW := Go.Lib.hid hW
  have us' : W.heap.size = w.heap.size + 1 + 1 := by rw [hW]; simp
  have c0 := b0.cell 0
  have c1 := b0.cell 1
  have c2 := b0.cell 2
  have c3 := b0.cell 3
  have c4 := b0.cell 4
  have c5 := b0.cell 5
  simp only [List.getElem?_cons_zero, List.getElem?_cons_succ] at c0 c1 c2 c3 c4 c5
  have e0 := b1.cell 0
  have e1 := b1.cell 1
  have e2 := b1.cell 2
  have e3 := b1.cell 3
  have e4 := b1.cell 4
  have e5 := b1.cell 5
  simp only [List.getElem?_cons_zero, List.getElem?_cons_succ] at e0 e1 e2 e3 e4 e5
  have f0 := b1.frozen 0
  have f1 := b1.frozen 1
  have f2 := b1.frozen 2
  have f3 := b1.frozen 3
  have f4 := b1.frozen 4
  have f5 := b1.frozen 5
  have fz := b0.frozen 2
  have l0 := b0.lt
  have l0' := b1.lt
  have n2 : ¬ (w.heap.size + 1 = W.heap.size) := by omega
  simp only [hlx]
  generalize L.length = l1 at *
  generalize u.length = l2 at *
  generalize b.length = l3 at *
  generalize d.length = l4 at *
  clear hW hU B0 k1 hk' uk ub u0 u1 b0 b1 hlx h1 h2 h3 h4
  go_enter Try.func188, Try.ntmps188
  go_wp2_with fail
  rw [← HW.out]
  refine HBK.out.mono ?_
  rintro e w1 ⟨rfl, rfl⟩
  go_wp2_with fail
  rw [← HU.out]
  clear c0 c1 c2 c3 c4 c5 fz l0 l0' e0 e1 e2 e3 e4 e5 f0 f1 f2 f3 f4 f5 n2
  obtain ⟨Y, hY⟩ : ∃ Y, Y = ((((((U.setCell ⟨w.heap.size + 1, 0, none⟩ (.int .i64 c)).setCell ⟨w.heap.size + 1, 1, none⟩ (.int .i64 q)).setCell ⟨w.heap.size + 1, 2, none⟩ (.slice a1 l1 p1)).setCell ⟨w.heap.size + 1, 3, none⟩ (.slice a2 l2 p2)).setCell ⟨w.heap.size + 1, 4, none⟩ (.slice a3 l3 p3)).setCell ⟨w.heap.size + 1, 5, none⟩ (.slice a4 l4 p4)) := ⟨_, rfl⟩
  rw [← hY]
  have sY : Y.heap.size = w.heap.size + 1 + 1 := by rw [hY]; simp; omega
  have bY : Blk Y (w.heap.size + 1) [.int .i64 c, .int .i64 q, .slice a1 l1 p1, .slice a2 l2 p2, .slice a3 l3 p3, .slice a4 l4 p4] 73 := by rw [hY]; exact ((((((Hu1.out.set 0 _).set 1 _).set 2 _).set 3 _).set 4 _).set 5 _)
  have BYw : Below w.heap.size w Y := by
    rw [hY]
    repeat' (first | refine below_set ?_ ?_ _ | exact HBU.out | omega)
  have HAY := HAU.out.two Hu1.out Hu1.out (by decide) (by decide) (show Fr (fun k => k = w.heap.size + 1 ∨ k = w.heap.size + 1) U Y by rw [hY]; exact (by repeat' (first | refine Fr.setEq ?_ ?_ _ | exact Fr.refl _ _ | exact .inl rfl | exact .inr rfl)))
  have AY := (Below.refl Y.heap.size Y).alloc (Nat.le_refl _) (.cells #[.int .u64 x] 31)
  have bYA := bY.keep AY
  have d0 := bYA.cell 0
  have d1 := bYA.cell 1
  have d2 := bYA.cell 2
  have d3 := bYA.cell 3
  have d4 := bYA.cell 4
  have d5 := bYA.cell 5
  simp only [List.getElem?_cons_zero, List.getElem?_cons_succ] at d0 d1 d2 d3 d4 d5
  have HKV : KL (Y.alloc (.cells #[.int .u64 x] 31)) (.slice (some ⟨w.heap.size + 1 + 1, 0, none⟩) 1 1) [x] := by rw [← sY]; exact KL.lit Y x
  exact bodyPost_ret (v := .tuple #[.agg #[.int .i64 c, .int .i64 q, .slice a1 l1 p1, .slice a2 l2 p2, .slice a3 l3 p3, .slice a4 l4 p4], .slice (some ⟨w.heap.size + 1 + 1, 0, none⟩) 1 1]) (by simp [results, Try.results188, go_sem, d0, d1, d2, d3, d4, d5]) rfl ⟨_, _, _, _, _, rfl, HAY.keep AY, HKV, BYw.trans (AY.mono BYw.size)⟩
theorem a11fresh_any (s : AS) (v1 v2 v3 v4 : Value) (w : World) (hc : 1 ≤ s.c ∧ s.c ≤ 1048576) (hl : s.t.length < 50000 ∧ s.u.length < 50000 ∧ s.b.length < 50000 ∧ s.d.length < 50000) (h : AT w v1 v2 v3 v4 s) :
    Calls Try.prog 188 #[.agg #[.int .i64 s.c, .int .i64 s.p, v1, v2, v3, v4]] w fun e w' => ∃ x1 x2 x3 x4 vo, e = .returned (.tuple #[.agg #[.int .i64 s.c, .int .i64 s.p, x1, x2, x3, x4], vo]) ∧ AT w' x1 x2 x3 x4 (freshA s).1 ∧ KL w' vo (freshA s).2 ∧ Below w.heap.size w w' := by
  obtain ⟨c, q, t, u, b, d⟩ := s
  obtain ⟨hc1, hc2⟩ := hc
  obtain ⟨ht, hu, hb, hd⟩ := hl
  simp only at hc1 hc2 ht hu hb hd ⊢
  unfold freshA
  simp only
  by_cases g1 : c ≤ (t.length : Int) + b.length
  · rw [if_pos g1]
    by_cases g2 : (t.length : Int) < c
    · rw [if_pos g2]
      obtain ⟨L, x, rfl⟩ := snoc_of_pos (L := b) (by omega)
      rw [List.dropLast_concat]
      simp only [List.length_append, List.length_cons, List.length_nil, Nat.zero_add] at g1 hb
      exact a11fresh_b c q t u d L x v1 v2 v3 v4 w hc1 hc2 ht hu hd (by omega) g1 g2 h
    · rw [if_neg g2]
      obtain ⟨L, x, rfl⟩ := snoc_of_pos (L := t) (by omega)
      rw [List.dropLast_concat]
      simp only [List.length_append, List.length_cons, List.length_nil, Nat.zero_add] at g1 g2 ht
      rw [show (L ++ [x]).getLastD 0 = x by simp]
      exact a11fresh_a c q u b d L x v1 v2 v3 v4 w hu hb hd (by omega) hc1 hc2 g1 g2 h
  · rw [if_neg g1]
    by_cases g2 : (t.length : Int) + u.length + b.length + d.length < c
    · rw [if_pos g2]
      exact a11fresh_c c q t u b d v1 v2 v3 v4 w ht hu hb hd hc2 g1 g2 h
    · rw [if_neg g2]
      by_cases g3 : 2 * c ≤ (t.length : Int) + u.length + b.length + d.length
      · by_cases g4 : 0 < d.length
        · rw [if_pos ⟨g3, g4⟩]
          obtain ⟨L, x, rfl⟩ := snoc_of_pos (L := d) g4
          rw [List.dropLast_concat]
          simp only [List.length_append, List.length_cons, List.length_nil, Nat.zero_add] at g2 g3 hd
          exact a11fresh_d c q t u b L x v1 v2 v3 v4 w hc1 hc2 ht hu hb (by omega) g1 g2 g3 h
        · rw [if_neg (fun h => g4 h.2)]
          exact a11fresh_f c q t u b d v1 v2 v3 v4 w hc1 hc2 ht hu hb hd g1 g2 g3 (by omega) h
      · rw [if_neg (fun h => g3 h.1)]
        exact a11fresh_e c q t u b d v1 v2 v3 v4 w hc1 hc2 ht hu hb hd g1 g2 g3 h
end Go.Proofs.Ytlakojncjldpbaa
