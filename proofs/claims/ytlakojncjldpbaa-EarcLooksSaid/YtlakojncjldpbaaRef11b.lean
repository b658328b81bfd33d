/- The reference of the adaptive cache: evict, replace. -/
import Derived.Test.YtlakojncjldpbaaRef11
namespace Go.Proofs.Ytlakojncjldpbaa
open Go.RowKit Hop
set_option linter.unusedVariables false
set_option linter.unusedSimpArgs false
set_option maxRecDepth 100000
theorem a11evict_any (s : AS) (f : Bool) (v1 v2 v3 v4 : Value) (w : World) (hev : evok s f) (hb : s.b.length < 50000) (hd : s.d.length < 50000) (h : AT w v1 v2 v3 v4 s) :
    Calls Try.prog 189 #[.agg #[.int .i64 s.c, .int .i64 s.p, v1, v2, v3, v4], .bool f] w fun e w' => ∃ x1 x2 x3 x4 vo, e = .returned (.tuple #[.agg #[.int .i64 s.c, .int .i64 s.p, x1, x2, x3, x4], vo]) ∧ AT w' x1 x2 x3 x4 (evictA s f).1 ∧ OwA w v1 v2 v3 v4 x1 x2 x3 x4 ∧ KL w' vo (evictA s f).2 ∧ (∀ k, vo.ownBlock = some k → w.heap.size ≤ k) ∧ Below w.heap.size w w' := by
  obtain ⟨c, q, t, u, b, d⟩ := s
  rcases evictA_cases _ f hev with ⟨rfl, A, x, e1, e2⟩ | ⟨rfl, A, x, e1, e2⟩
  · rw [e2]
    exact a11evict_t c q v1 v2 v3 v4 t u b d A x w e1 hb h
  · rw [e2]
    exact a11evict_u c q v1 v2 v3 v4 t u b d A x w e1 hd h
set_option maxHeartbeats 12800000 in
theorem a11repl_any (s : AS) (again : Bool) (v1 v2 v3 v4 : Value) (w : World) (hc : 1 ≤ s.c ∧ s.c ≤ 1048576) (hl : s.t.length < 50000 ∧ s.u.length < 50000 ∧ s.b.length < 50000 ∧ s.d.length < 50000) (h : AT w v1 v2 v3 v4 s) :
    Calls Try.prog 222 #[.agg #[.int .i64 s.c, .int .i64 s.p, v1, v2, v3, v4], .bool again] w fun e w' => ∃ x1 x2 x3 x4 vo, e = .returned (.tuple #[.agg #[.int .i64 s.c, .int .i64 s.p, x1, x2, x3, x4], vo]) ∧ AT w' x1 x2 x3 x4 (replA s again).1 ∧ KL w' vo (replA s again).2 ∧ Below w.heap.size w w' := by
  obtain ⟨hc1, hc2⟩ := hc
  obtain ⟨hl1, hl2, hl3, hl4⟩ := hl
  obtain ⟨a1, p1, rfl⟩ := h.t.form
  obtain ⟨a2, p2, rfl⟩ := h.u.form
  obtain ⟨a3, p3, rfl⟩ := h.b.form
  obtain ⟨a4, p4, rfl⟩ := h.d.form
  have HR : Hid (replA s again = if (s.t.length : Int) + s.u.length < s.c then (s, []) else evictA s (firstA s again)) := Go.Lib.hid rfl
  have HF : Hid (firstA s again = (decide (s.u.length = 0) || (decide (0 < s.t.length) && (decide (s.p < (s.t.length : Int)) || (decide ((s.t.length : Int) = s.p) && again))))) := Go.Lib.hid rfl
  have HEV := Go.Lib.hid (fun (hn : ¬ (s.t.length : Int) + s.u.length < s.c) w' h' => a11evict_any s (firstA s again) (.slice a1 s.t.length p1) (.slice a2 s.u.length p2) (.slice a3 s.b.length p3) (.slice a4 s.d.length p4) w' (evok_first hc1 hn) hl3 hl4 h')
  obtain ⟨c, hcc⟩ : ∃ c, c = s.c := ⟨_, rfl⟩
  obtain ⟨q, hqq⟩ : ∃ q, q = s.p := ⟨_, rfl⟩
  rw [← hcc] at HR HEV hc1 hc2 ⊢
  rw [← hqq] at HF HEV ⊢
  generalize hn1 : s.t.length = l1 at *
  generalize hn2 : s.u.length = l2 at *
  generalize hn3 : s.b.length = l3 at *
  generalize hn4 : s.d.length = l4 at *
  generalize firstA s again = F at *
  obtain ⟨W, hW, b0, b1, B0⟩ := two_blocks w [.int .i64 c, .int .i64 q, .slice a1 l1 p1, .slice a2 l2 p2, .slice a3 l3 p3, .slice a4 l4 p4] [.int .i64 0, .int .i64 0, .slice none 0 0, .slice none 0 0, .slice none 0 0, .slice none 0 0] 73
  have HAW := Go.Lib.hid h
  have HAT := Go.Lib.hid (h.keep B0)
  have HEVW := Go.Lib.hid (fun hn => HEV.out hn W HAT.out)
  have HB0 := Go.Lib.hid B0
  have HW := Go.Lib.hid hW
  have Hb0 := Go.Lib.hid b0
  have Hb1 := Go.Lib.hid b1
  have c0 := b0.cell 0
  have c1 := b0.cell 1
  have c2 := b0.cell 2
  have c3 := b0.cell 3
  have c4 := b0.cell 4
  have c5 := b0.cell 5
  simp only [List.getElem?_cons_zero, List.getElem?_cons_succ] at c0 c1 c2 c3 c4 c5
  have e0 := b1.cell 0
  have e1 := b1.cell 1
  have e2 := b1.cell 2
  have e3 := b1.cell 3
  have e4 := b1.cell 4
  have e5 := b1.cell 5
  simp only [List.getElem?_cons_zero, List.getElem?_cons_succ] at e0 e1 e2 e3 e4 e5
  have f0 := b1.frozen 0
  have f1 := b1.frozen 1
  have f2 := b1.frozen 2
  have f3 := b1.frozen 3
  have f4 := b1.frozen 4
  have f5 := b1.frozen 5
  have lb0 := b0.lt
  have lb1 := b1.lt
  clear hcc hqq hn1 hn2 hn3 hn4 hW B0 h b0 b1 HEV
  by_cases hlt : (l1 : Int) + l2 < c
  · have hR := HR.out
    rw [if_pos hlt] at hR
    have HRx := Go.Lib.hid hR
    clear hR
    go_enter Try.func222, Try.ntmps222
    go_wp2_with fail
    obtain ⟨W2, hW2, b02, b12, B2⟩ := two_blocks w [.int .i64 c, .int .i64 q, .slice a1 l1 p1, .slice a2 l2 p2, .slice a3 l3 p3, .slice a4 l4 p4] [.int .i64 c, .int .i64 q, .slice a1 l1 p1, .slice a2 l2 p2, .slice a3 l3 p3, .slice a4 l4 p4] 73
    rw [← hW2]
    clear e0 e1 e2 e3 e4 e5
    have e0 := b12.cell 0
    have e1 := b12.cell 1
    have e2 := b12.cell 2
    have e3 := b12.cell 3
    have e4 := b12.cell 4
    have e5 := b12.cell 5
    simp only [List.getElem?_cons_zero, List.getElem?_cons_succ] at e0 e1 e2 e3 e4 e5
    exact bodyPost_ret (v := .tuple #[.agg #[.int .i64 c, .int .i64 q, .slice a1 l1 p1, .slice a2 l2 p2, .slice a3 l3 p3, .slice a4 l4 p4], .slice none 0 0]) (by simp [results, Try.results222, go_sem, e0, e1, e2, e3, e4, e5]) rfl ⟨_, _, _, _, _, rfl, by rw [HRx.out]; exact HAW.out.keep B2, by rw [HRx.out]; exact KL.nil _, B2⟩
  · have hR := HR.out
    rw [if_neg hlt] at hR
    have HRx := Go.Lib.hid hR
    have HEX := Go.Lib.hid (HEVW.out hlt)
    clear hR HEVW
    by_cases hA : 0 < l1 ∧ (q < (l1 : Int) ∨ ((l1 : Int) = q ∧ again = true))
    · have hF : F = true := by
        rw [HF.out]
        obtain ⟨h0, h | ⟨h1, h2⟩⟩ := hA
        · simp [h0, h]
        · simp [h0, h1, h2]
      subst hF
      obtain ⟨h0, h1 | ⟨h1, rfl⟩⟩ := hA
      · skip
        go_enter Try.func222, Try.ntmps222
        go_wp2_with fail
        any_goals (first | (exfalso; omega) | skip)
        rw [← HW.out]
        refine HEX.out.mono ?_
        rintro e w2 ⟨x1, x2, x3, x4, vo, rfl, hat, how, hvo, hvown, hb2⟩
        obtain ⟨b1', r1, rfl⟩ := hat.t.form
        obtain ⟨b2', r2, rfl⟩ := hat.u.form
        obtain ⟨b3', r3, rfl⟩ := hat.b.form
        obtain ⟨b4', r4, rfl⟩ := hat.d.form
        obtain ⟨bo', ro, rfl⟩ := hvo.form
        have b1 := Hb1.out.keep hb2
        clear c0 c1 c2 c3 c4 c5 e0 e1 e2 e3 e4 e5 f0 f1 f2 f3 f4 f5
        have d0 := b1.cell 0
        have d1 := b1.cell 1
        have d2 := b1.cell 2
        have d3 := b1.cell 3
        have d4 := b1.cell 4
        have d5 := b1.cell 5
        simp only [List.getElem?_cons_zero, List.getElem?_cons_succ] at d0 d1 d2 d3 d4 d5
        have f0 := b1.frozen 0
        have f1 := b1.frozen 1
        have f2 := b1.frozen 2
        have f3 := b1.frozen 3
        have f4 := b1.frozen 4
        have f5 := b1.frozen 5
        have lx := b1.lt
        have JA := Go.Lib.hid hat
        have JV := Go.Lib.hid hvo
        have Jb := Go.Lib.hid b1
        have HB2 := Go.Lib.hid (HB0.out.trans (hb2.mono HB0.out.size))
        generalize (evictA s true).1.t.length = m1 at *
        generalize (evictA s true).1.u.length = m2 at *
        generalize (evictA s true).1.b.length = m3 at *
        generalize (evictA s true).1.d.length = m4 at *
        generalize (evictA s true).2.length = m5 at *
        clear hat how hvo hvown hb2 b1
        go_wp2_with fail
        refine bodyPost_ret (v := .tuple #[.agg #[.int .i64 c, .int .i64 q, .slice b1' m1 r1, .slice b2' m2 r2, .slice b3' m3 r3, .slice b4' m4 r4], .slice bo' m5 ro]) (by simp [results, Try.results222, go_sem, d0, d1, d2, d3, d4, d5]) rfl ⟨_, _, _, _, _, rfl, by rw [HRx.out]; exact JA.out.two Jb.out Jb.out (by decide) (by decide) (by repeat' (first | refine Fr.setEq ?_ ?_ _ | exact Fr.refl _ _ | exact .inl rfl | exact .inr rfl)), by rw [HRx.out]; exact JV.out.two Jb.out Jb.out (by decide) (by decide) (by repeat' (first | refine Fr.setEq ?_ ?_ _ | exact Fr.refl _ _ | exact .inl rfl | exact .inr rfl)), ?_⟩
        · repeat' (first | refine below_set ?_ ?_ _ | exact HB2.out | omega)
      · subst h1
        have h2 : ¬ (l1 : Int) < l1 := by omega
        go_enter Try.func222, Try.ntmps222
        go_wp2_with fail
        any_goals (first | (exfalso; omega) | skip)
        rw [← HW.out]
        refine HEX.out.mono ?_
        rintro e w2 ⟨x1, x2, x3, x4, vo, rfl, hat, how, hvo, hvown, hb2⟩
        obtain ⟨b1', r1, rfl⟩ := hat.t.form
        obtain ⟨b2', r2, rfl⟩ := hat.u.form
        obtain ⟨b3', r3, rfl⟩ := hat.b.form
        obtain ⟨b4', r4, rfl⟩ := hat.d.form
        obtain ⟨bo', ro, rfl⟩ := hvo.form
        have b1 := Hb1.out.keep hb2
        clear c0 c1 c2 c3 c4 c5 e0 e1 e2 e3 e4 e5 f0 f1 f2 f3 f4 f5
        have d0 := b1.cell 0
        have d1 := b1.cell 1
        have d2 := b1.cell 2
        have d3 := b1.cell 3
        have d4 := b1.cell 4
        have d5 := b1.cell 5
        simp only [List.getElem?_cons_zero, List.getElem?_cons_succ] at d0 d1 d2 d3 d4 d5
        have f0 := b1.frozen 0
        have f1 := b1.frozen 1
        have f2 := b1.frozen 2
        have f3 := b1.frozen 3
        have f4 := b1.frozen 4
        have f5 := b1.frozen 5
        have lx := b1.lt
        have JA := Go.Lib.hid hat
        have JV := Go.Lib.hid hvo
        have Jb := Go.Lib.hid b1
        have HB2 := Go.Lib.hid (HB0.out.trans (hb2.mono HB0.out.size))
        generalize (evictA s true).1.t.length = m1 at *
        generalize (evictA s true).1.u.length = m2 at *
        generalize (evictA s true).1.b.length = m3 at *
        generalize (evictA s true).1.d.length = m4 at *
        generalize (evictA s true).2.length = m5 at *
        clear hat how hvo hvown hb2 b1
        go_wp2_with fail
        refine bodyPost_ret (v := .tuple #[.agg #[.int .i64 c, .int .i64 l1, .slice b1' m1 r1, .slice b2' m2 r2, .slice b3' m3 r3, .slice b4' m4 r4], .slice bo' m5 ro]) (by simp [results, Try.results222, go_sem, d0, d1, d2, d3, d4, d5]) rfl ⟨_, _, _, _, _, rfl, by rw [HRx.out]; exact JA.out.two Jb.out Jb.out (by decide) (by decide) (by repeat' (first | refine Fr.setEq ?_ ?_ _ | exact Fr.refl _ _ | exact .inl rfl | exact .inr rfl)), by rw [HRx.out]; exact JV.out.two Jb.out Jb.out (by decide) (by decide) (by repeat' (first | refine Fr.setEq ?_ ?_ _ | exact Fr.refl _ _ | exact .inl rfl | exact .inr rfl)), ?_⟩
        · repeat' (first | refine below_set ?_ ?_ _ | exact HB2.out | omega)
    · by_cases h3 : l2 = 0
      · have hF : F = true := by
          rw [HF.out]
          simp [h3]
        have HQ3 : Hid (((l2 : Int) == 0) = true) := Go.Lib.hid (by simp [h3])
        subst hF
        subst h3
        by_cases h0 : 0 < l1
        · have h1 : ¬ q < (l1 : Int) := fun h => hA ⟨h0, .inl h⟩
          by_cases h2 : (l1 : Int) = q
          · subst h2
            have h4 : again = false := by cases again with | false => rfl | true => exact absurd ⟨h0, .inr ⟨rfl, rfl⟩⟩ hA
            subst h4
            clear hA h1
            have h1 : ¬ (l1 : Int) < l1 := by omega
            go_enter Try.func222, Try.ntmps222
            go_wp2_with fail
            any_goals (first | (exfalso; omega) | skip)
            rw [← HW.out]
            try rw [HQ3.out]
            refine HEX.out.mono ?_
            rintro e w2 ⟨x1, x2, x3, x4, vo, rfl, hat, how, hvo, hvown, hb2⟩
            obtain ⟨b1', r1, rfl⟩ := hat.t.form
            obtain ⟨b2', r2, rfl⟩ := hat.u.form
            obtain ⟨b3', r3, rfl⟩ := hat.b.form
            obtain ⟨b4', r4, rfl⟩ := hat.d.form
            obtain ⟨bo', ro, rfl⟩ := hvo.form
            have b1 := Hb1.out.keep hb2
            clear c0 c1 c2 c3 c4 c5 e0 e1 e2 e3 e4 e5 f0 f1 f2 f3 f4 f5
            have d0 := b1.cell 0
            have d1 := b1.cell 1
            have d2 := b1.cell 2
            have d3 := b1.cell 3
            have d4 := b1.cell 4
            have d5 := b1.cell 5
            simp only [List.getElem?_cons_zero, List.getElem?_cons_succ] at d0 d1 d2 d3 d4 d5
            have f0 := b1.frozen 0
            have f1 := b1.frozen 1
            have f2 := b1.frozen 2
            have f3 := b1.frozen 3
            have f4 := b1.frozen 4
            have f5 := b1.frozen 5
            have lx := b1.lt
            have JA := Go.Lib.hid hat
            have JV := Go.Lib.hid hvo
            have Jb := Go.Lib.hid b1
            have HB2 := Go.Lib.hid (HB0.out.trans (hb2.mono HB0.out.size))
            generalize (evictA s true).1.t.length = m1 at *
            generalize (evictA s true).1.u.length = m2 at *
            generalize (evictA s true).1.b.length = m3 at *
            generalize (evictA s true).1.d.length = m4 at *
            generalize (evictA s true).2.length = m5 at *
            clear hat how hvo hvown hb2 b1
            go_wp2_with fail
            refine bodyPost_ret (v := .tuple #[.agg #[.int .i64 c, .int .i64 l1, .slice b1' m1 r1, .slice b2' m2 r2, .slice b3' m3 r3, .slice b4' m4 r4], .slice bo' m5 ro]) (by simp [results, Try.results222, go_sem, d0, d1, d2, d3, d4, d5]) rfl ⟨_, _, _, _, _, rfl, by rw [HRx.out]; exact JA.out.two Jb.out Jb.out (by decide) (by decide) (by repeat' (first | refine Fr.setEq ?_ ?_ _ | exact Fr.refl _ _ | exact .inl rfl | exact .inr rfl)), by rw [HRx.out]; exact JV.out.two Jb.out Jb.out (by decide) (by decide) (by repeat' (first | refine Fr.setEq ?_ ?_ _ | exact Fr.refl _ _ | exact .inl rfl | exact .inr rfl)), ?_⟩
            · repeat' (first | refine below_set ?_ ?_ _ | exact HB2.out | omega)
          · clear hA
            go_enter Try.func222, Try.ntmps222
            go_wp2_with fail
            any_goals (first | (exfalso; omega) | skip)
            rw [← HW.out]
            try rw [HQ3.out]
            refine HEX.out.mono ?_
            rintro e w2 ⟨x1, x2, x3, x4, vo, rfl, hat, how, hvo, hvown, hb2⟩
            obtain ⟨b1', r1, rfl⟩ := hat.t.form
            obtain ⟨b2', r2, rfl⟩ := hat.u.form
            obtain ⟨b3', r3, rfl⟩ := hat.b.form
            obtain ⟨b4', r4, rfl⟩ := hat.d.form
            obtain ⟨bo', ro, rfl⟩ := hvo.form
            have b1 := Hb1.out.keep hb2
            clear c0 c1 c2 c3 c4 c5 e0 e1 e2 e3 e4 e5 f0 f1 f2 f3 f4 f5
            have d0 := b1.cell 0
            have d1 := b1.cell 1
            have d2 := b1.cell 2
            have d3 := b1.cell 3
            have d4 := b1.cell 4
            have d5 := b1.cell 5
            simp only [List.getElem?_cons_zero, List.getElem?_cons_succ] at d0 d1 d2 d3 d4 d5
            have f0 := b1.frozen 0
            have f1 := b1.frozen 1
            have f2 := b1.frozen 2
            have f3 := b1.frozen 3
            have f4 := b1.frozen 4
            have f5 := b1.frozen 5
            have lx := b1.lt
            have JA := Go.Lib.hid hat
            have JV := Go.Lib.hid hvo
            have Jb := Go.Lib.hid b1
            have HB2 := Go.Lib.hid (HB0.out.trans (hb2.mono HB0.out.size))
            generalize (evictA s true).1.t.length = m1 at *
            generalize (evictA s true).1.u.length = m2 at *
            generalize (evictA s true).1.b.length = m3 at *
            generalize (evictA s true).1.d.length = m4 at *
            generalize (evictA s true).2.length = m5 at *
            clear hat how hvo hvown hb2 b1
            go_wp2_with fail
            refine bodyPost_ret (v := .tuple #[.agg #[.int .i64 c, .int .i64 q, .slice b1' m1 r1, .slice b2' m2 r2, .slice b3' m3 r3, .slice b4' m4 r4], .slice bo' m5 ro]) (by simp [results, Try.results222, go_sem, d0, d1, d2, d3, d4, d5]) rfl ⟨_, _, _, _, _, rfl, by rw [HRx.out]; exact JA.out.two Jb.out Jb.out (by decide) (by decide) (by repeat' (first | refine Fr.setEq ?_ ?_ _ | exact Fr.refl _ _ | exact .inl rfl | exact .inr rfl)), by rw [HRx.out]; exact JV.out.two Jb.out Jb.out (by decide) (by decide) (by repeat' (first | refine Fr.setEq ?_ ?_ _ | exact Fr.refl _ _ | exact .inl rfl | exact .inr rfl)), ?_⟩
            · repeat' (first | refine below_set ?_ ?_ _ | exact HB2.out | omega)
        · exfalso
          omega
      · have hF : F = false := by
          rw [HF.out]
          simp [h3]
          intro h0
          refine ⟨by by_cases h1 : q < (l1 : Int); exact absurd ⟨h0, .inl h1⟩ hA; omega, fun h1 => ?_⟩
          cases again with
          | false => rfl
          | true => exact absurd ⟨h0, .inr ⟨h1, rfl⟩⟩ hA
        have HQ3 : Hid (((l2 : Int) == 0) = false) := Go.Lib.hid (by simp [h3])
        subst hF
        by_cases h0 : 0 < l1
        · have h1 : ¬ q < (l1 : Int) := fun h => hA ⟨h0, .inl h⟩
          by_cases h2 : (l1 : Int) = q
          · subst h2
            have h4 : again = false := by cases again with | false => rfl | true => exact absurd ⟨h0, .inr ⟨rfl, rfl⟩⟩ hA
            subst h4
            clear hA h1
            have h1 : ¬ (l1 : Int) < l1 := by omega
            go_enter Try.func222, Try.ntmps222
            go_wp2_with fail
            any_goals (first | (exfalso; omega) | skip)
            rw [← HW.out]
            try rw [HQ3.out]
            refine HEX.out.mono ?_
            rintro e w2 ⟨x1, x2, x3, x4, vo, rfl, hat, how, hvo, hvown, hb2⟩
            obtain ⟨b1', r1, rfl⟩ := hat.t.form
            obtain ⟨b2', r2, rfl⟩ := hat.u.form
            obtain ⟨b3', r3, rfl⟩ := hat.b.form
            obtain ⟨b4', r4, rfl⟩ := hat.d.form
            obtain ⟨bo', ro, rfl⟩ := hvo.form
            have b1 := Hb1.out.keep hb2
            clear c0 c1 c2 c3 c4 c5 e0 e1 e2 e3 e4 e5 f0 f1 f2 f3 f4 f5
            have d0 := b1.cell 0
            have d1 := b1.cell 1
            have d2 := b1.cell 2
            have d3 := b1.cell 3
            have d4 := b1.cell 4
            have d5 := b1.cell 5
            simp only [List.getElem?_cons_zero, List.getElem?_cons_succ] at d0 d1 d2 d3 d4 d5
            have f0 := b1.frozen 0
            have f1 := b1.frozen 1
            have f2 := b1.frozen 2
            have f3 := b1.frozen 3
            have f4 := b1.frozen 4
            have f5 := b1.frozen 5
            have lx := b1.lt
            have JA := Go.Lib.hid hat
            have JV := Go.Lib.hid hvo
            have Jb := Go.Lib.hid b1
            have HB2 := Go.Lib.hid (HB0.out.trans (hb2.mono HB0.out.size))
            generalize (evictA s false).1.t.length = m1 at *
            generalize (evictA s false).1.u.length = m2 at *
            generalize (evictA s false).1.b.length = m3 at *
            generalize (evictA s false).1.d.length = m4 at *
            generalize (evictA s false).2.length = m5 at *
            clear hat how hvo hvown hb2 b1
            go_wp2_with fail
            refine bodyPost_ret (v := .tuple #[.agg #[.int .i64 c, .int .i64 l1, .slice b1' m1 r1, .slice b2' m2 r2, .slice b3' m3 r3, .slice b4' m4 r4], .slice bo' m5 ro]) (by simp [results, Try.results222, go_sem, d0, d1, d2, d3, d4, d5]) rfl ⟨_, _, _, _, _, rfl, by rw [HRx.out]; exact JA.out.two Jb.out Jb.out (by decide) (by decide) (by repeat' (first | refine Fr.setEq ?_ ?_ _ | exact Fr.refl _ _ | exact .inl rfl | exact .inr rfl)), by rw [HRx.out]; exact JV.out.two Jb.out Jb.out (by decide) (by decide) (by repeat' (first | refine Fr.setEq ?_ ?_ _ | exact Fr.refl _ _ | exact .inl rfl | exact .inr rfl)), ?_⟩
            · repeat' (first | refine below_set ?_ ?_ _ | exact HB2.out | omega)
          · clear hA
            go_enter Try.func222, Try.ntmps222
            go_wp2_with fail
            any_goals (first | (exfalso; omega) | skip)
            rw [← HW.out]
            try rw [HQ3.out]
            refine HEX.out.mono ?_
            rintro e w2 ⟨x1, x2, x3, x4, vo, rfl, hat, how, hvo, hvown, hb2⟩
            obtain ⟨b1', r1, rfl⟩ := hat.t.form
            obtain ⟨b2', r2, rfl⟩ := hat.u.form
            obtain ⟨b3', r3, rfl⟩ := hat.b.form
            obtain ⟨b4', r4, rfl⟩ := hat.d.form
            obtain ⟨bo', ro, rfl⟩ := hvo.form
            have b1 := Hb1.out.keep hb2
            clear c0 c1 c2 c3 c4 c5 e0 e1 e2 e3 e4 e5 f0 f1 f2 f3 f4 f5
            have d0 := b1.cell 0
            have d1 := b1.cell 1
            have d2 := b1.cell 2
            have d3 := b1.cell 3
            have d4 := b1.cell 4
            have d5 := b1.cell 5
            simp only [List.getElem?_cons_zero, List.getElem?_cons_succ] at d0 d1 d2 d3 d4 d5
            have f0 := b1.frozen 0
            have f1 := b1.frozen 1
            have f2 := b1.frozen 2
            have f3 := b1.frozen 3
            have f4 := b1.frozen 4
            have f5 := b1.frozen 5
            have lx := b1.lt
            have JA := Go.Lib.hid hat
            have JV := Go.Lib.hid hvo
            have Jb := Go.Lib.hid b1
            have HB2 := Go.Lib.hid (HB0.out.trans (hb2.mono HB0.out.size))
            generalize (evictA s false).1.t.length = m1 at *
            generalize (evictA s false).1.u.length = m2 at *
            generalize (evictA s false).1.b.length = m3 at *
            generalize (evictA s false).1.d.length = m4 at *
            generalize (evictA s false).2.length = m5 at *
            clear hat how hvo hvown hb2 b1
            go_wp2_with fail
            refine bodyPost_ret (v := .tuple #[.agg #[.int .i64 c, .int .i64 q, .slice b1' m1 r1, .slice b2' m2 r2, .slice b3' m3 r3, .slice b4' m4 r4], .slice bo' m5 ro]) (by simp [results, Try.results222, go_sem, d0, d1, d2, d3, d4, d5]) rfl ⟨_, _, _, _, _, rfl, by rw [HRx.out]; exact JA.out.two Jb.out Jb.out (by decide) (by decide) (by repeat' (first | refine Fr.setEq ?_ ?_ _ | exact Fr.refl _ _ | exact .inl rfl | exact .inr rfl)), by rw [HRx.out]; exact JV.out.two Jb.out Jb.out (by decide) (by decide) (by repeat' (first | refine Fr.setEq ?_ ?_ _ | exact Fr.refl _ _ | exact .inl rfl | exact .inr rfl)), ?_⟩
            · repeat' (first | refine below_set ?_ ?_ _ | exact HB2.out | omega)
        · clear hA
          go_enter Try.func222, Try.ntmps222
          go_wp2_with fail
          any_goals (first | (exfalso; omega) | skip)
          rw [← HW.out]
          try rw [HQ3.out]
          refine HEX.out.mono ?_
          rintro e w2 ⟨x1, x2, x3, x4, vo, rfl, hat, how, hvo, hvown, hb2⟩
          obtain ⟨b1', r1, rfl⟩ := hat.t.form
          obtain ⟨b2', r2, rfl⟩ := hat.u.form
          obtain ⟨b3', r3, rfl⟩ := hat.b.form
          obtain ⟨b4', r4, rfl⟩ := hat.d.form
          obtain ⟨bo', ro, rfl⟩ := hvo.form
          have b1 := Hb1.out.keep hb2
          clear c0 c1 c2 c3 c4 c5 e0 e1 e2 e3 e4 e5 f0 f1 f2 f3 f4 f5
          have d0 := b1.cell 0
          have d1 := b1.cell 1
          have d2 := b1.cell 2
          have d3 := b1.cell 3
          have d4 := b1.cell 4
          have d5 := b1.cell 5
          simp only [List.getElem?_cons_zero, List.getElem?_cons_succ] at d0 d1 d2 d3 d4 d5
          have f0 := b1.frozen 0
          have f1 := b1.frozen 1
          have f2 := b1.frozen 2
          have f3 := b1.frozen 3
          have f4 := b1.frozen 4
          have f5 := b1.frozen 5
          have lx := b1.lt
          have JA := Go.Lib.hid hat
          have JV := Go.Lib.hid hvo
          have Jb := Go.Lib.hid b1
          have HB2 := Go.Lib.hid (HB0.out.trans (hb2.mono HB0.out.size))
          generalize (evictA s false).1.t.length = m1 at *
          generalize (evictA s false).1.u.length = m2 at *
          generalize (evictA s false).1.b.length = m3 at *
          generalize (evictA s false).1.d.length = m4 at *
          generalize (evictA s false).2.length = m5 at *
          clear hat how hvo hvown hb2 b1
          go_wp2_with fail
          refine bodyPost_ret (v := .tuple #[.agg #[.int .i64 c, .int .i64 q, .slice b1' m1 r1, .slice b2' m2 r2, .slice b3' m3 r3, .slice b4' m4 r4], .slice bo' m5 ro]) (by simp [results, Try.results222, go_sem, d0, d1, d2, d3, d4, d5]) rfl ⟨_, _, _, _, _, rfl, by rw [HRx.out]; exact JA.out.two Jb.out Jb.out (by decide) (by decide) (by repeat' (first | refine Fr.setEq ?_ ?_ _ | exact Fr.refl _ _ | exact .inl rfl | exact .inr rfl)), by rw [HRx.out]; exact JV.out.two Jb.out Jb.out (by decide) (by decide) (by repeat' (first | refine Fr.setEq ?_ ?_ _ | exact Fr.refl _ _ | exact .inl rfl | exact .inr rfl)), ?_⟩
          · repeat' (first | refine below_set ?_ ?_ _ | exact HB2.out | omega)
end Go.Proofs.Ytlakojncjldpbaa
