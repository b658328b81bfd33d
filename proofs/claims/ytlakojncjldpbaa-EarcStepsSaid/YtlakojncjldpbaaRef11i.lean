/- The reference of the adaptive cache: Do. -/
import Derived.Test.YtlakojncjldpbaaRef11h
namespace Go.Proofs.Ytlakojncjldpbaa
open Go.RowKit Hop
set_option linter.unusedVariables false
set_option linter.unusedSimpArgs false
set_option maxRecDepth 100000
set_option maxHeartbeats 12800000 in
theorem a11do_any (s : AS) (v1 v2 v3 v4 : Value) (x : Ac) (w : World) (hx : x.ok) (hs : s.ok) (h : AT w v1 v2 v3 v4 s) :
    Calls Try.prog 64 #[.agg #[.int .i64 s.c, .int .i64 s.p, v1, v2, v3, v4], .agg #[.int .u8 x.kind, .int .u64 x.key, .int .u16 x.n]] w fun e w' => ∃ x1 x2 x3 x4 vo, e = .returned (.tuple #[.agg #[.int .i64 (doA s x).1.c, .int .i64 (doA s x).1.p, x1, x2, x3, x4], vo]) ∧ AT w' x1 x2 x3 x4 (doA s x).1 ∧ KL w' vo (doA s x).2 ∧ Below w.heap.size w w' := by
  obtain ⟨kd, k, n⟩ := x
  obtain ⟨hx1, hx2, hx3⟩ := hx
  have hs0 := hs
  obtain ⟨s1, s2, s3, s4, s5, s6⟩ := hs
  simp only at hx1 hx2 hx3 ⊢
  obtain ⟨a1, p1, rfl⟩ := h.t.form
  obtain ⟨a2, p2, rfl⟩ := h.u.form
  obtain ⟨a3, p3, rfl⟩ := h.b.form
  obtain ⟨a4, p4, rfl⟩ := h.d.form
  have HCT := Go.Lib.hid (fun w h => a11touch_any s k _ _ _ _ w ⟨by omega, by omega, by omega, by omega⟩ (h : AT w (.slice a1 s.t.length p1) (.slice a2 s.u.length p2) (.slice a3 s.b.length p3) (.slice a4 s.d.length p4) s))
  have HCA := Go.Lib.hid (fun w h => a11admit_any s k _ _ _ _ w hs0 (h : AT w (.slice a1 s.t.length p1) (.slice a2 s.u.length p2) (.slice a3 s.b.length p3) (.slice a4 s.d.length p4) s))
  have HCD := Go.Lib.hid (fun w h => a11drop_any s k _ _ _ _ w ⟨by omega, by omega, by omega, by omega⟩ (h : AT w (.slice a1 s.t.length p1) (.slice a2 s.u.length p2) (.slice a3 s.b.length p3) (.slice a4 s.d.length p4) s))
  have HCR := Go.Lib.hid (fun w h => a11resize_any s (sizeF n) _ _ _ _ w ⟨by omega, by omega⟩ (by omega) (h : AT w (.slice a1 s.t.length p1) (.slice a2 s.u.length p2) (.slice a3 s.b.length p3) (.slice a4 s.d.length p4) s))
  have HD : Hid (doA s ⟨kd, k, n⟩ = if kindF kd (decide (k ∈ s.t ++ s.u)) = 1 then (touchA s k, []) else if kindF kd (decide (k ∈ s.t ++ s.u)) = 2 then admitA s k else if kindF kd (decide (k ∈ s.t ++ s.u)) = 3 then (dropA s k, []) else resizeA s (sizeF n)) := Go.Lib.hid rfl
  have htc : (touchA s k).c = s.c ∧ (touchA s k).p = s.p := by unfold touchA; split <;> exact ⟨rfl, rfl⟩
  have hdc : (dropA s k).c = s.c ∧ (dropA s k).p = s.p := ⟨rfl, rfl⟩
  obtain ⟨c, hcc⟩ : ∃ c, c = s.c := ⟨_, rfl⟩
  obtain ⟨q, hqq⟩ : ∃ q, q = s.p := ⟨_, rfl⟩
  rw [← hcc] at HCT HCA HCD HCR htc hdc ⊢
  rw [← hqq] at HCT HCA HCD HCR htc hdc ⊢
  obtain ⟨W, hW, b0, b1, b2, B0⟩ := three_blocks w [.int .i64 c, .int .i64 q, .slice a1 s.t.length p1, .slice a2 s.u.length p2, .slice a3 s.b.length p3, .slice a4 s.d.length p4] 73 [.int .u8 kd, .int .u64 k, .int .u16 n] 34 [.int .i64 0, .int .i64 0, .slice none 0 0, .slice none 0 0, .slice none 0 0, .slice none 0 0] 73
  have hat := h.keep B0
  have hBd : Below W.heap.size W W.drew := (Below.refl _ _).drew
  have HKY := Go.Lib.hid (a11keys_any c q (.slice a1 s.t.length p1) (.slice a2 s.u.length p2) (.slice a3 s.b.length p3) (.slice a4 s.d.length p4) s.t s.u W.drew (by omega) (by omega) (hat.t.keep hBd) (hat.u.keep hBd))
  have HHA := Go.Lib.hid (fun v w h => has_any v (s.t ++ s.u) k w h)
  have HKD := Go.Lib.hid (fun t w => kind_any kd k n t w hx1)
  have HSZ := Go.Lib.hid (fun w => sizeof_any kd k n w hx3)
  have HTC := Go.Lib.hid htc
  have HDC := Go.Lib.hid hdc
  generalize touchA s k = rT at *
  generalize admitA s k = rA at *
  generalize resizeA s (sizeF n) = rR at *
  generalize dropA s k = rD at *
  generalize decide (k ∈ s.t ++ s.u) = there at *
  have HAT := Go.Lib.hid hat
  have HB0 := Go.Lib.hid B0
  have HW := Go.Lib.hid hW
  have Hb0 := Go.Lib.hid b0
  have Hb1 := Go.Lib.hid b1
  have Hb2 := Go.Lib.hid b2
  have HBd := Go.Lib.hid hBd
  generalize s.t.length = l1 at *
  generalize s.u.length = l2 at *
  generalize s.b.length = l3 at *
  generalize s.d.length = l4 at *
  have SS : ∀ W', Below W.heap.size W W' → (W'.cell? ⟨w.heap.size, 0, none⟩ = some (.int .i64 c) ∧ W'.cell? ⟨w.heap.size, 1, none⟩ = some (.int .i64 q) ∧ W'.cell? ⟨w.heap.size, 2, none⟩ = some (.slice a1 l1 p1) ∧ W'.cell? ⟨w.heap.size, 3, none⟩ = some (.slice a2 l2 p2) ∧ W'.cell? ⟨w.heap.size, 4, none⟩ = some (.slice a3 l3 p3) ∧ W'.cell? ⟨w.heap.size, 5, none⟩ = some (.slice a4 l4 p4) ∧ W'.cell? ⟨w.heap.size + 1, 0, none⟩ = some (.int .u8 kd) ∧ W'.cell? ⟨w.heap.size + 1, 1, none⟩ = some (.int .u64 k) ∧ W'.cell? ⟨w.heap.size + 1, 2, none⟩ = some (.int .u16 n)) := fun W' hb =>
    have q0 := b0.keep hb
    have q1 := b1.keep hb
    ⟨q0.cell 0, q0.cell 1, q0.cell 2, q0.cell 3, q0.cell 4, q0.cell 5, q1.cell 0, q1.cell 1, q1.cell 2⟩
  have HS1 := Go.Lib.hid (fun W' (hb : Below W.drew.heap.size W.drew W') => SS W' (hBd.trans hb))
  have HS0 := Go.Lib.hid (SS _ hBd)
  clear hW B0 h hat b0 b1 b2 hBd SS hx1 hx2 hx3 s1 s2 s3 s4 s5 s6 hs0 htc hdc hcc hqq
  go_enter Try.func64, Try.ntmps64
  go_wp2_with fail
  rw [← HW.out]
  go_region_held3 (fun W' => (W'.cell? ⟨w.heap.size, 0, none⟩ = some (.int .i64 c) ∧ W'.cell? ⟨w.heap.size, 1, none⟩ = some (.int .i64 q) ∧ W'.cell? ⟨w.heap.size, 2, none⟩ = some (.slice a1 l1 p1) ∧ W'.cell? ⟨w.heap.size, 3, none⟩ = some (.slice a2 l2 p2) ∧ W'.cell? ⟨w.heap.size, 4, none⟩ = some (.slice a3 l3 p3) ∧ W'.cell? ⟨w.heap.size, 5, none⟩ = some (.slice a4 l4 p4) ∧ W'.cell? ⟨w.heap.size + 1, 0, none⟩ = some (.int .u8 kd) ∧ W'.cell? ⟨w.heap.size + 1, 1, none⟩ = some (.int .u64 k) ∧ W'.cell? ⟨w.heap.size + 1, 2, none⟩ = some (.int .u16 n)))
    (first | with_reducible exact HS1.out _ hb3' | with_reducible exact HS1.out _ hb1 | exact HS0.out)
    (first | (go_at_call 67; refine HKY.out.mono ?_; rintro e w1 ⟨vk, rfl, hkk, hb1⟩) | (go_at_call 33; refine (HHA.out _ _ hkk).mono ?_; rintro e w2 ⟨rfl, rfl⟩) | (go_at_call 94; refine (HKD.out _ _).mono ?_; rintro e w3 ⟨rfl, hb3⟩; have hb3' := hb1.trans (hb3.mono hb1.size)))
  have HB1 := Go.Lib.hid (HBd.out.trans hb3')
  clear hkk hb1 hb3 hb3'
  generalize kindF kd there = kk at *
  have b0 := Hb0.out.keep HB1.out
  have b1 := Hb1.out.keep HB1.out
  have c0 := b0.cell 0
  have c1 := b0.cell 1
  have c2 := b0.cell 2
  have c3 := b0.cell 3
  have c4 := b0.cell 4
  have c5 := b0.cell 5
  simp only [List.getElem?_cons_zero, List.getElem?_cons_succ] at c0 c1 c2 c3 c4 c5
  have g0 := b1.cell 0
  have g1 := b1.cell 1
  have g2 := b1.cell 2
  simp only [List.getElem?_cons_zero, List.getElem?_cons_succ] at g0 g1 g2
  have l0 := b0.lt
  have l1' := b1.lt
  have Kb0 := Go.Lib.hid b0
  have Kb1 := Go.Lib.hid b1
  have Hb2' := Go.Lib.hid (Hb2.out.keep HB1.out)
  have l2' := Hb2'.out.lt
  have QA := Go.Lib.hid (HAT.out.keep HB1.out)
  have HBw := Go.Lib.hid (HB0.out.trans (HB1.out.mono HB0.out.size))
  clear b0 b1
  by_cases h1 : kk = 1
  · subst h1
    rw [if_pos rfl] at HD
    go_wp2_with fail
    refine (HCT.out _ QA.out).mono ?_
    rintro e w3 ⟨x1, x2, x3, x4, rfl, hk, hb3⟩
    obtain ⟨a5, p5, rfl⟩ := hk.t.form
    obtain ⟨a6, p6, rfl⟩ := hk.u.form
    obtain ⟨a7, p7, rfl⟩ := hk.b.form
    obtain ⟨a8, p8, rfl⟩ := hk.d.form
    have b2 := Hb2'.out.keep hb3
    have d0 := b2.cell 0
    have d1 := b2.cell 1
    have d2 := b2.cell 2
    have d3 := b2.cell 3
    have d4 := b2.cell 4
    have d5 := b2.cell 5
    simp only [List.getElem?_cons_zero, List.getElem?_cons_succ] at d0 d1 d2 d3 d4 d5
    have f0 := b2.frozen 0
    have f1 := b2.frozen 1
    have f2 := b2.frozen 2
    have f3 := b2.frozen 3
    have f4 := b2.frozen 4
    have f5 := b2.frozen 5
    have l3' := b2.lt
    have JA := Go.Lib.hid hk
    have Jb := Go.Lib.hid b2
    have HB3 := Go.Lib.hid (HBw.out.trans (hb3.mono HBw.out.size))
    clear b2 hk hb3
    generalize rT.t.length = m5 at *
    generalize rT.u.length = m6 at *
    generalize rT.b.length = m7 at *
    generalize rT.d.length = m8 at *
    clear c0 c1 c2 c3 c4 c5 g0 g1 g2
    go_wp2_with fail
    refine bodyPost_ret (v := .tuple #[.agg #[.int .i64 c, .int .i64 q, .slice a5 m5 p5, .slice a6 m6 p6, .slice a7 m7 p7, .slice a8 m8 p8], .slice none 0 0]) (by simp [results, Try.results64, go_sem, d0, d1, d2, d3, d4, d5]) rfl ⟨.slice a5 m5 p5, .slice a6 m6 p6, .slice a7 m7 p7, .slice a8 m8 p8, .slice none 0 0, by rw [HD.out]; simp only [HTC.out.1, HTC.out.2], ?_, ?_, ?_⟩
    · rw [HD.out]
      exact JA.out.two Jb.out Jb.out (by decide) (by decide) (by repeat' (first | refine Fr.setEq ?_ ?_ _ | exact Fr.refl _ _ | exact .inl rfl | exact .inr rfl))
    · rw [HD.out]
      exact KL.nil _
    · repeat' (first | refine below_set ?_ ?_ _ | exact HB3.out | omega)
  · rw [if_neg h1] at HD
    by_cases h2 : kk = 2
    · subst h2
      rw [if_pos rfl] at HD
      go_wp2_with fail
      refine (HCA.out _ QA.out).mono ?_
      rintro e w3 ⟨x1, x2, x3, x4, vo, rfl, hk, hko, hb3⟩
      obtain ⟨a5, p5, rfl⟩ := hk.t.form
      obtain ⟨a6, p6, rfl⟩ := hk.u.form
      obtain ⟨a7, p7, rfl⟩ := hk.b.form
      obtain ⟨a8, p8, rfl⟩ := hk.d.form
      obtain ⟨ao, po, rfl⟩ := hko.form
      have b2 := Hb2'.out.keep hb3
      have d0 := b2.cell 0
      have d1 := b2.cell 1
      have d2 := b2.cell 2
      have d3 := b2.cell 3
      have d4 := b2.cell 4
      have d5 := b2.cell 5
      simp only [List.getElem?_cons_zero, List.getElem?_cons_succ] at d0 d1 d2 d3 d4 d5
      have f0 := b2.frozen 0
      have f1 := b2.frozen 1
      have f2 := b2.frozen 2
      have f3 := b2.frozen 3
      have f4 := b2.frozen 4
      have f5 := b2.frozen 5
      have l3' := b2.lt
      have JA := Go.Lib.hid hk
      have JO := Go.Lib.hid hko
      have Jb := Go.Lib.hid b2
      have HB3 := Go.Lib.hid (HBw.out.trans (hb3.mono HBw.out.size))
      clear b2 hk hb3 hko
      generalize rA.1.t.length = m5 at *
      generalize rA.1.u.length = m6 at *
      generalize rA.1.b.length = m7 at *
      generalize rA.1.d.length = m8 at *
      generalize rA.2.length = mo at *
      clear c0 c1 c2 c3 c4 c5 g0 g1 g2
      go_wp2_with fail
      refine bodyPost_ret (v := .tuple #[.agg #[.int .i64 rA.1.c, .int .i64 rA.1.p, .slice a5 m5 p5, .slice a6 m6 p6, .slice a7 m7 p7, .slice a8 m8 p8], .slice ao mo po]) (by simp [results, Try.results64, go_sem, d0, d1, d2, d3, d4, d5]) rfl ⟨.slice a5 m5 p5, .slice a6 m6 p6, .slice a7 m7 p7, .slice a8 m8 p8, .slice ao mo po, by rw [HD.out], ?_, ?_, ?_⟩
      · rw [HD.out]
        exact JA.out.two Jb.out Jb.out (by decide) (by decide) (by repeat' (first | refine Fr.setEq ?_ ?_ _ | exact Fr.refl _ _ | exact .inl rfl | exact .inr rfl))
      · rw [HD.out]
        exact JO.out.two Jb.out Jb.out (by decide) (by decide) (by repeat' (first | refine Fr.setEq ?_ ?_ _ | exact Fr.refl _ _ | exact .inl rfl | exact .inr rfl))
      · repeat' (first | refine below_set ?_ ?_ _ | exact HB3.out | omega)
    · rw [if_neg h2] at HD
      by_cases h3 : kk = 3
      · subst h3
        rw [if_pos rfl] at HD
        go_wp2_with fail
        refine (HCD.out _ QA.out).mono ?_
        rintro e w3 ⟨x1, x2, x3, x4, rfl, hk, hb3⟩
        obtain ⟨a5, p5, rfl⟩ := hk.t.form
        obtain ⟨a6, p6, rfl⟩ := hk.u.form
        obtain ⟨a7, p7, rfl⟩ := hk.b.form
        obtain ⟨a8, p8, rfl⟩ := hk.d.form
        have b2 := Hb2'.out.keep hb3
        have d0 := b2.cell 0
        have d1 := b2.cell 1
        have d2 := b2.cell 2
        have d3 := b2.cell 3
        have d4 := b2.cell 4
        have d5 := b2.cell 5
        simp only [List.getElem?_cons_zero, List.getElem?_cons_succ] at d0 d1 d2 d3 d4 d5
        have f0 := b2.frozen 0
        have f1 := b2.frozen 1
        have f2 := b2.frozen 2
        have f3 := b2.frozen 3
        have f4 := b2.frozen 4
        have f5 := b2.frozen 5
        have l3' := b2.lt
        have JA := Go.Lib.hid hk
        have Jb := Go.Lib.hid b2
        have HB3 := Go.Lib.hid (HBw.out.trans (hb3.mono HBw.out.size))
        clear b2 hk hb3
        generalize rD.t.length = m5 at *
        generalize rD.u.length = m6 at *
        generalize rD.b.length = m7 at *
        generalize rD.d.length = m8 at *
        clear c0 c1 c2 c3 c4 c5 g0 g1 g2
        go_wp2_with fail
        refine bodyPost_ret (v := .tuple #[.agg #[.int .i64 c, .int .i64 q, .slice a5 m5 p5, .slice a6 m6 p6, .slice a7 m7 p7, .slice a8 m8 p8], .slice none 0 0]) (by simp [results, Try.results64, go_sem, d0, d1, d2, d3, d4, d5]) rfl ⟨.slice a5 m5 p5, .slice a6 m6 p6, .slice a7 m7 p7, .slice a8 m8 p8, .slice none 0 0, by rw [HD.out]; simp only [HDC.out.1, HDC.out.2], ?_, ?_, ?_⟩
        · rw [HD.out]
          exact JA.out.two Jb.out Jb.out (by decide) (by decide) (by repeat' (first | refine Fr.setEq ?_ ?_ _ | exact Fr.refl _ _ | exact .inl rfl | exact .inr rfl))
        · rw [HD.out]
          exact KL.nil _
        · repeat' (first | refine below_set ?_ ?_ _ | exact HB3.out | omega)
      · rw [if_neg h3] at HD
        have SS : ∀ W', Blk W' w.heap.size [.int .i64 c, .int .i64 q, .slice a1 l1 p1, .slice a2 l2 p2, .slice a3 l3 p3, .slice a4 l4 p4] 73 → Blk W' (w.heap.size + 1) [.int .u8 kd, .int .u64 k, .int .u16 n] 34 → (W'.cell? ⟨w.heap.size, 0, none⟩ = some (.int .i64 c) ∧ W'.cell? ⟨w.heap.size, 1, none⟩ = some (.int .i64 q) ∧ W'.cell? ⟨w.heap.size, 2, none⟩ = some (.slice a1 l1 p1) ∧ W'.cell? ⟨w.heap.size, 3, none⟩ = some (.slice a2 l2 p2) ∧ W'.cell? ⟨w.heap.size, 4, none⟩ = some (.slice a3 l3 p3) ∧ W'.cell? ⟨w.heap.size, 5, none⟩ = some (.slice a4 l4 p4) ∧ W'.cell? ⟨w.heap.size + 1, 0, none⟩ = some (.int .u8 kd) ∧ W'.cell? ⟨w.heap.size + 1, 1, none⟩ = some (.int .u64 k) ∧ W'.cell? ⟨w.heap.size + 1, 2, none⟩ = some (.int .u16 n)) := fun W' q0 q1 => ⟨q0.cell 0, q0.cell 1, q0.cell 2, q0.cell 3, q0.cell 4, q0.cell 5, q1.cell 0, q1.cell 1, q1.cell 2⟩
        have hBd : Below w3.heap.size w3 w3.drew := (Below.refl _ _).drew
        have T1 := fun W' (hb : Below w3.drew.heap.size w3.drew W') => SS W' (Kb0.out.keep (hBd.trans hb)) (Kb1.out.keep (hBd.trans hb))
        have T4 := fun W' u0 u1 u2 u3 u4 u5 (hb : Below w3.drew.heap.size w3.drew W') => SS _ (((((((Kb0.out.keep (hBd.trans hb)).set_ne (a := ⟨w.heap.size + 1 + 1, 0, none⟩) (by show w.heap.size ≠ w.heap.size + 1 + 1; omega) u0).set_ne (a := ⟨w.heap.size + 1 + 1, 1, none⟩) (by show w.heap.size ≠ w.heap.size + 1 + 1; omega) u1).set_ne (a := ⟨w.heap.size + 1 + 1, 2, none⟩) (by show w.heap.size ≠ w.heap.size + 1 + 1; omega) u2).set_ne (a := ⟨w.heap.size + 1 + 1, 3, none⟩) (by show w.heap.size ≠ w.heap.size + 1 + 1; omega) u3).set_ne (a := ⟨w.heap.size + 1 + 1, 4, none⟩) (by show w.heap.size ≠ w.heap.size + 1 + 1; omega) u4).set_ne (a := ⟨w.heap.size + 1 + 1, 5, none⟩) (by show w.heap.size ≠ w.heap.size + 1 + 1; omega) u5) (((((((Kb1.out.keep (hBd.trans hb)).set_ne (a := ⟨w.heap.size + 1 + 1, 0, none⟩) (by show w.heap.size + 1 ≠ w.heap.size + 1 + 1; omega) u0).set_ne (a := ⟨w.heap.size + 1 + 1, 1, none⟩) (by show w.heap.size + 1 ≠ w.heap.size + 1 + 1; omega) u1).set_ne (a := ⟨w.heap.size + 1 + 1, 2, none⟩) (by show w.heap.size + 1 ≠ w.heap.size + 1 + 1; omega) u2).set_ne (a := ⟨w.heap.size + 1 + 1, 3, none⟩) (by show w.heap.size + 1 ≠ w.heap.size + 1 + 1; omega) u3).set_ne (a := ⟨w.heap.size + 1 + 1, 4, none⟩) (by show w.heap.size + 1 ≠ w.heap.size + 1 + 1; omega) u4).set_ne (a := ⟨w.heap.size + 1 + 1, 5, none⟩) (by show w.heap.size + 1 ≠ w.heap.size + 1 + 1; omega) u5)
        have HT1 := Go.Lib.hid T1
        have HT4 := Go.Lib.hid T4
        have HT0 := Go.Lib.hid (T1 _ (Below.refl _ _))
        have HBd3 := Go.Lib.hid hBd
        have HCR' := Go.Lib.hid (fun W' (hb : Below w3.drew.heap.size w3.drew W') => HCR.out W' (QA.out.keep (hBd.trans hb)))
        clear SS hBd T1 T4
        generalize hr5 : rR.1.t.length = m5 at *
        generalize hr6 : rR.1.u.length = m6 at *
        generalize hr7 : rR.1.b.length = m7 at *
        generalize hr8 : rR.1.d.length = m8 at *
        generalize hro : rR.2.length = mo at *
        have HM : Hid (rR.1.t.length = m5 ∧ rR.1.u.length = m6 ∧ rR.1.b.length = m7 ∧ rR.1.d.length = m8 ∧ rR.2.length = mo) := Go.Lib.hid ⟨hr5, hr6, hr7, hr8, hro⟩
        clear hr5 hr6 hr7 hr8 hro
        generalize hrc : rR.1.c = rc at *
        generalize hrp : rR.1.p = rp at *
        have HRC : Hid (rR.1.c = rc ∧ rR.1.p = rp) := Go.Lib.hid ⟨hrc, hrp⟩
        clear hrc hrp
        go_wp2_with fail
        go_region_held3 (fun W' => (W'.cell? ⟨w.heap.size, 0, none⟩ = some (.int .i64 c) ∧ W'.cell? ⟨w.heap.size, 1, none⟩ = some (.int .i64 q) ∧ W'.cell? ⟨w.heap.size, 2, none⟩ = some (.slice a1 l1 p1) ∧ W'.cell? ⟨w.heap.size, 3, none⟩ = some (.slice a2 l2 p2) ∧ W'.cell? ⟨w.heap.size, 4, none⟩ = some (.slice a3 l3 p3) ∧ W'.cell? ⟨w.heap.size, 5, none⟩ = some (.slice a4 l4 p4) ∧ W'.cell? ⟨w.heap.size + 1, 0, none⟩ = some (.int .u8 kd) ∧ W'.cell? ⟨w.heap.size + 1, 1, none⟩ = some (.int .u64 k) ∧ W'.cell? ⟨w.heap.size + 1, 2, none⟩ = some (.int .u16 n)))
          (first | with_reducible exact HT4.out _ _ _ _ _ _ _ hb5' | with_reducible exact HT1.out _ hb5' | with_reducible exact HT1.out _ hb4 | exact HT0.out)
          (first | (go_at_call 100; refine (HSZ.out _).mono ?_; rintro e w4 ⟨rfl, hb4⟩) | (go_at_call 135; refine (HCR'.out _ hb4).mono ?_; rintro e w5 ⟨x1, x2, x3, x4, vo, rfl, hk, hko, hb5⟩; obtain ⟨a5, p5, rfl⟩ := hk.t.form; obtain ⟨a6, p6, rfl⟩ := hk.u.form; obtain ⟨a7, p7, rfl⟩ := hk.b.form; obtain ⟨a8, p8, rfl⟩ := hk.d.form; obtain ⟨ao, po, rfl⟩ := hko.form; rw [HM.out.1, HM.out.2.1, HM.out.2.2.1, HM.out.2.2.2.1] at hk ⊢; rw [HM.out.2.2.2.2] at hko ⊢; have hb5' := hb4.trans (hb5.mono hb4.size); have b2 := Hb2'.out.keep (HBd3.out.trans hb5'); have d0 := b2.cell 0; have d1 := b2.cell 1; have d2 := b2.cell 2; have d3 := b2.cell 3; have d4 := b2.cell 4; have d5 := b2.cell 5; have f0 := b2.frozen 0; have f1 := b2.frozen 1; have f2 := b2.frozen 2; have f3 := b2.frozen 3; have f4 := b2.frozen 4; have f5 := b2.frozen 5; simp only [List.getElem?_cons_zero, List.getElem?_cons_succ] at d0 d1 d2 d3 d4 d5; have l3' := b2.lt))
        have JA := Go.Lib.hid hk
        have JO := Go.Lib.hid hko
        have Jb := Go.Lib.hid b2
        have HB3 := Go.Lib.hid (HBw.out.trans ((HBd3.out.trans hb5').mono HBw.out.size))
        clear b2 hk hko hb5 hb5' hb4 c0 c1 c2 c3 c4 c5 g0 g1 g2
        go_wp2_with fail
        refine bodyPost_ret (v := .tuple #[.agg #[.int .i64 rc, .int .i64 rp, .slice a5 m5 p5, .slice a6 m6 p6, .slice a7 m7 p7, .slice a8 m8 p8], .slice ao mo po]) (by simp [results, Try.results64, go_sem, d0, d1, d2, d3, d4, d5]) rfl ⟨.slice a5 m5 p5, .slice a6 m6 p6, .slice a7 m7 p7, .slice a8 m8 p8, .slice ao mo po, by rw [HD.out]; rw [HRC.out.1, HRC.out.2], ?_, ?_, ?_⟩
        · rw [HD.out]
          exact JA.out.two Jb.out Jb.out (by decide) (by decide) (by repeat' (first | refine Fr.setEq ?_ ?_ _ | exact Fr.refl _ _ | exact .inl rfl | exact .inr rfl))
        · rw [HD.out]
          exact JO.out.two Jb.out Jb.out (by decide) (by decide) (by repeat' (first | refine Fr.setEq ?_ ?_ _ | exact Fr.refl _ _ | exact .inl rfl | exact .inr rfl))
        · repeat' (first | refine below_set ?_ ?_ _ | exact HB3.out | omega)
end Go.Proofs.Ytlakojncjldpbaa
