/- The reference of the adaptive cache: Resize. -/
import Derived.Test.YtlakojncjldpbaaRef11g
namespace Go.Proofs.Ytlakojncjldpbaa
open Go.RowKit Hop
set_option linter.unusedVariables false
set_option linter.unusedSimpArgs false
set_option maxRecDepth 100000
theorem KL.cap {w : World} {a : Option Addr} {n cap : Nat} {L : List Int} (h : KL w (.slice a n cap) L) : n ≤ cap := by
  rcases h.2 with ⟨e1, e2⟩ | ⟨g, cap', cs, e1, e2, e3, e4⟩
  · injection e1 with q1 q2 q3; omega
  · injection e1 with q1 q2 q3; have := h.1; simp at e3 this; omega
theorem KL.len {w : World} {a : Option Addr} {n cap : Nat} {L : List Int} (h : KL w (.slice a n cap) L) : n = L.length := by
  obtain ⟨a', c', e⟩ := h.form
  injection e
theorem shrA_end' (f : Nat) (s : AS) (h : (s.t.length : Int) + s.u.length ≤ s.c) : shrA f s = (s, []) := by
  cases f with
  | zero => rfl
  | succ f => unfold shrA; rw [if_pos h]
theorem shrA_go' (f : Nat) (s : AS) (h : ¬ (s.t.length : Int) + s.u.length ≤ s.c) : shrA (f + 1) s = ((shrA f (evictA s (manyA s)).1).1, (evictA s (manyA s)).2 ++ (shrA f (evictA s (manyA s)).1).2) := by
  conv => lhs; unfold shrA
  rw [if_neg h]
theorem evictA_one (s : AS) (f : Bool) : ∃ x, (evictA s f).2 = [x] := by
  unfold evictA
  split <;> exact ⟨_, rfl⟩
set_option maxHeartbeats 25600000 in
theorem a11resize_lo (s : AS) (n : Int) (v1 v2 v3 v4 : Value) (w : World) (hp : 0 ≤ s.p ∧ s.p ≤ 1048576) (htot : s.t.length + s.u.length + s.b.length + s.d.length < 50000) (hmin : capF n < s.p) (h : AT w v1 v2 v3 v4 s) :
    Calls Try.prog 135 #[.agg #[.int .i64 s.c, .int .i64 s.p, v1, v2, v3, v4], .int .i64 n] w fun e w' => ∃ x1 x2 x3 x4 vo, e = .returned (.tuple #[.agg #[.int .i64 (resizeA s n).1.c, .int .i64 (resizeA s n).1.p, x1, x2, x3, x4], vo]) ∧ AT w' x1 x2 x3 x4 (resizeA s n).1 ∧ KL w' vo (resizeA s n).2 ∧ Below w.heap.size w w' := by
  obtain ⟨hp0, hp1⟩ := hp
  obtain ⟨hcf1, hcf2⟩ := capF_in n
  obtain ⟨a1, p1, rfl⟩ := h.t.form
  obtain ⟨a2, p2, rfl⟩ := h.u.form
  obtain ⟨a3, p3, rfl⟩ := h.b.form
  obtain ⟨a4, p4, rfl⟩ := h.d.form
  have HCA := Go.Lib.hid (fun w => cap_any n w)
  have HT : Hid (resizeA s n = (cutE (cutD (cutB (shrA (s.t.length + s.u.length) ⟨capF n, min s.p (capF n), s.t, s.u, s.b, s.d⟩).1)), (shrA (s.t.length + s.u.length) ⟨capF n, min s.p (capF n), s.t, s.u, s.b, s.d⟩).2)) := Go.Lib.hid rfl
  generalize capF n = cf at *
  obtain ⟨X, hX⟩ : ∃ X, X = cf := ⟨_, rfl⟩
  have hXm : min s.p cf = X := by omega
  rw [hXm] at HT
  have hX0 : 0 ≤ X := by omega
  have hX1 : X ≤ 1048576 := by omega
  obtain ⟨c, hcc⟩ : ∃ c, c = s.c := ⟨_, rfl⟩
  obtain ⟨q, hqq⟩ : ∃ q, q = s.p := ⟨_, rfl⟩
  rw [← hcc]
  rw [← hqq] at hmin ⊢
  obtain ⟨W, hW, b0, b1, B0⟩ := two_blocks w [.int .i64 c, .int .i64 q, .slice a1 s.t.length p1, .slice a2 s.u.length p2, .slice a3 s.b.length p3, .slice a4 s.d.length p4] [.int .i64 0, .int .i64 0, .slice none 0 0, .slice none 0 0, .slice none 0 0, .slice none 0 0] 73
  obtain ⟨U, hU, u0, u1, uk, ub, us⟩ := st_set b0 b1 (by decide) 0 (.int .i64 cf)
  obtain ⟨V, hV, y0, y1, yk, yb, ys⟩ := st_set u0 u1 (by decide) 1 (.int .i64 (cf))
  have Hv0 : Hid (Blk V w.heap.size [.int .i64 cf, .int .i64 X, .slice a1 s.t.length p1, .slice a2 s.u.length p2, .slice a3 s.b.length p3, .slice a4 s.d.length p4] 73) := Go.Lib.hid (by rw [hX]; exact y0)
  have Hv1 := Go.Lib.hid y1
  have HAV : Hid (AT V (.slice a1 s.t.length p1) (.slice a2 s.u.length p2) (.slice a3 s.b.length p3) (.slice a4 s.d.length p4) s) := Go.Lib.hid ⟨yk _ _ (uk _ _ (h.t.keep B0)), yk _ _ (uk _ _ (h.u.keep B0)), yk _ _ (uk _ _ (h.b.keep B0)), yk _ _ (uk _ _ (h.d.keep B0))⟩
  have HBV := Go.Lib.hid (yb _ _ (Nat.le_refl _) (ub _ _ (Nat.le_refl _) B0))
  have HW := Go.Lib.hid hW
  have HU := Go.Lib.hid hU
  have HV := Go.Lib.hid hV
  have c0 := b0.cell 0
  have c1 := b0.cell 1
  have c2 := b0.cell 2
  have c3 := b0.cell 3
  have c4 := b0.cell 4
  have c5 := b0.cell 5
  simp only [List.getElem?_cons_zero, List.getElem?_cons_succ] at c0 c1 c2 c3 c4 c5
  have u0x : Blk U w.heap.size [.int .i64 cf, .int .i64 q, .slice a1 s.t.length p1, .slice a2 s.u.length p2, .slice a3 s.b.length p3, .slice a4 s.d.length p4] 73 := u0
  have e0 := u0x.cell 0
  have e1 := u0x.cell 1
  have e2 := u0x.cell 2
  have e3 := u0x.cell 3
  have e4 := u0x.cell 4
  have e5 := u0x.cell 5
  simp only [List.getElem?_cons_zero, List.getElem?_cons_succ] at e0 e1 e2 e3 e4 e5
  have fz0 := b0.frozen 0
  have fz1 := b0.frozen 1
  have l0 := b0.lt
  have l1' := b1.lt
  have l2' := u0.lt
  have l3' := y0.lt
  obtain ⟨g0, hg0⟩ : ∃ g0, g0 = s.t.length + s.u.length := ⟨_, rfl⟩
  obtain ⟨R, hR⟩ : ∃ R, R = shrA g0 ⟨cf, X, s.t, s.u, s.b, s.d⟩ := ⟨_, rfl⟩
  rw [← hg0, ← hR] at HT
  have HRR : Hid (shrA g0 ⟨cf, X, s.t, s.u, s.b, s.d⟩ = (R.1, R.2)) := Go.Lib.hid hR.symm
  have HG0 := Go.Lib.hid hg0
  have hgl0 : g0 < 50000 := by omega
  have HTOT := Go.Lib.hid htot
  have HAV' : Hid (AT V (.slice a1 s.t.length p1) (.slice a2 s.u.length p2) (.slice a3 s.b.length p3) (.slice a4 s.d.length p4) ⟨cf, X, s.t, s.u, s.b, s.d⟩) := Go.Lib.hid ⟨HAV.out.t, HAV.out.u, HAV.out.b, HAV.out.d⟩
  clear HAV hR hg0 htot hW hU hV b0 b1 B0 u0 u0x u1 uk ub us y0 y1 yk yb ys h hXm hcc hqq
  clear hX
  go_enter Try.func135, Try.ntmps135
  go_wp2_with fail
  rw [← HW.out]
  refine (HCA.out _).mono ?_
  rintro e w1 ⟨rfl, rfl⟩
  go_wp2_with fail
  rw [← HU.out, ← HV.out]
  clear c0 c1 c2 c3 c4 c5 e0 e1 e2 e3 e4 e5 fz0 fz1 l0 l1' l2' l3' hmin
  go_loopg [6] g0 (fun g vo wr => ∃ (s1 : AS) (gone G2 : List Int) (a1 a2 a3 a4 : Option Addr) (q1 q2 q3 q4 : Nat), s1.c = cf ∧ s1.p = X ∧ s1.t.length + s1.u.length = g ∧ gone.length + g ≤ g0 ∧ s1.t.length + s1.u.length + s1.b.length + s1.d.length < 50000 ∧ shrA g s1 = (R.1, G2) ∧ gone ++ G2 = R.2 ∧ KL wr vo gone ∧ (∀ b, vo.ownBlock = some b → w.heap.size ≤ b ∧ (Value.slice a1 s1.t.length q1).ownBlock ≠ some b ∧ (Value.slice a2 s1.u.length q2).ownBlock ≠ some b ∧ (Value.slice a3 s1.b.length q3).ownBlock ≠ some b ∧ (Value.slice a4 s1.d.length q4).ownBlock ≠ some b) ∧ AT wr (.slice a1 s1.t.length q1) (.slice a2 s1.u.length q2) (.slice a3 s1.b.length q3) (.slice a4 s1.d.length q4) s1 ∧ Blk wr w.heap.size [.int .i64 cf, .int .i64 X, .slice a1 s1.t.length q1, .slice a2 s1.u.length q2, .slice a3 s1.b.length q3, .slice a4 s1.d.length q4] 73 ∧ Blk wr (w.heap.size + 1) [.int .i64 0, .int .i64 0, .slice none 0 0, .slice none 0 0, .slice none 0 0, .slice none 0 0] 73 ∧ Below w.heap.size w wr)
  case atStart => exact ⟨⟨cf, X, s.t, s.u, s.b, s.d⟩, [], R.2, a1, a2, a3, a4, p1, p2, p3, p4, rfl, rfl, HG0.out.symm, by simp, HTOT.out, HRR.out, rfl, KL.nil _, fun b hb => (by cases hb), HAV'.out, Hv0.out, Hv1.out, HBV.out⟩
  case round =>
    clear HAV' Hv0 Hv1 HBV HRR HG0 HTOT
    obtain ⟨s1, gone, G2, a1, a2, a3, a4, q1, q2, q3, q4, hsc, hsp, hg, hgl, htt, hsh, hgo, hko, hoo, hat, b0, b1, hbb⟩ := hrel
    have c0 := b0.cell 0
    have c1 := b0.cell 1
    have c2 := b0.cell 2
    have c3 := b0.cell 3
    have c4 := b0.cell 4
    have c5 := b0.cell 5
    simp only [List.getElem?_cons_zero, List.getElem?_cons_succ] at c0 c1 c2 c3 c4 c5
    have d0 := b1.cell 0
    have d1 := b1.cell 1
    have d2 := b1.cell 2
    have d3 := b1.cell 3
    have d4 := b1.cell 4
    have d5 := b1.cell 5
    simp only [List.getElem?_cons_zero, List.getElem?_cons_succ] at d0 d1 d2 d3 d4 d5
    have f0 := b1.frozen 0
    have f1 := b1.frozen 1
    have f2 := b1.frozen 2
    have f3 := b1.frozen 3
    have f4 := b1.frozen 4
    have f5 := b1.frozen 5
    have l0 := b0.lt
    have l1' := b1.lt
    have KO := Go.Lib.hid hko
    have OO := Go.Lib.hid hoo
    have HAT := Go.Lib.hid hat
    have Hb0 := Go.Lib.hid b0
    have Hb1 := Go.Lib.hid b1
    have HBB := Go.Lib.hid hbb
    have HGO := Go.Lib.hid hgo
    have HG := Go.Lib.hid hg
    have HGL := Go.Lib.hid hgl
    have HTT := Go.Lib.hid htt
    have HSC := Go.Lib.hid (⟨hsc, hsp⟩ : s1.c = cf ∧ s1.p = X)
    have hgk : gk < 50000 := by omega
    by_cases hlt : cf < (gk : Int)
    · obtain ⟨j, rfl⟩ : ∃ j, gk = j + 1 := ⟨gk - 1, by omega⟩
      have hev : evok s1 (manyA s1) := evok_many (by omega) (by omega) (by omega)
      rw [shrA_go' j s1 (by omega)] at hsh
      injection hsh with e1 e2
      obtain ⟨m1, m2, m3, m4, m5⟩ := evictA_len s1 (manyA s1) hev
      have HEV : Hid (∀ F, F = manyA s1 → Calls Try.prog 189 #[.agg #[.int .i64 cf, .int .i64 X, .slice a1 s1.t.length q1, .slice a2 s1.u.length q2, .slice a3 s1.b.length q3, .slice a4 s1.d.length q4], .bool F] wr fun e w' => ∃ x1 x2 x3 x4 vo, e = .returned (.tuple #[.agg #[.int .i64 cf, .int .i64 X, x1, x2, x3, x4], vo]) ∧ AT w' x1 x2 x3 x4 (evictA s1 (manyA s1)).1 ∧ OwA wr (.slice a1 s1.t.length q1) (.slice a2 s1.u.length q2) (.slice a3 s1.b.length q3) (.slice a4 s1.d.length q4) x1 x2 x3 x4 ∧ KL w' vo (evictA s1 (manyA s1)).2 ∧ (∀ k, vo.ownBlock = some k → wr.heap.size ≤ k) ∧ Below wr.heap.size wr w') := Go.Lib.hid (fun F hF => by
        have r := a11evict_any s1 (manyA s1) _ _ _ _ wr hev (by omega) (by omega) hat
        rw [hsc, hsp, ← hF] at r
        rw [← hF]
        exact r)
      obtain ⟨x, hx⟩ := evictA_one s1 (manyA s1)
      rw [hx] at e2 HEV
      have HMA : Hid (manyA s1 = (decide (X < (s1.t.length : Int)) || decide (s1.u.length = 0))) := Go.Lib.hid (by rw [← hsp]; rfl)
      have HE1 := Go.Lib.hid e1
      have HE2 : Hid (gone ++ [x] ++ (shrA j (evictA s1 (manyA s1)).1).2 = R.2) := Go.Lib.hid (by rw [← hgo, ← e2]; simp)
      have HLN : Hid ((evictA s1 (manyA s1)).1.c = cf ∧ (evictA s1 (manyA s1)).1.p = X ∧ (evictA s1 (manyA s1)).1.t.length + (evictA s1 (manyA s1)).1.u.length = j ∧ (evictA s1 (manyA s1)).1.t.length + (evictA s1 (manyA s1)).1.u.length + (evictA s1 (manyA s1)).1.b.length + (evictA s1 (manyA s1)).1.d.length < 50000) := Go.Lib.hid ⟨by omega, by omega, by omega, by omega⟩
      have hcmp : cf < (s1.t.length : Int) + s1.u.length := by omega
      have hn1 : s1.t.length < 50000 := by omega
      have hn2 : s1.u.length < 50000 := by omega
      have hn3 : s1.b.length < 50000 := by omega
      have hn4 : s1.d.length < 50000 := by omega
      have hgn : gone.length < 50000 := by omega
      have hok : ∀ b, u6.ownBlock = some b → b < wr.heap.size := fun b hb => (Row.lt hko hb).1
      have HOK := Go.Lib.hid hok
      clear hgo hg hgl htt hsc hsp hko hoo hat b0 b1 hbb e1 e2 hok d0 d1 d2 d3 d4 d5 f0 f1 f2 f3 f4 f5 hev m1 m2 m3 m4 m5 hx
      generalize manyA s1 = F at *
      generalize evictA s1 F = E at *
      generalize hr1 : s1.t.length = n1 at *
      generalize hr2 : s1.u.length = n2 at *
      generalize hr3 : s1.b.length = n3 at *
      generalize hr4 : s1.d.length = n4 at *
      clear hr1 hr2 hr3 hr4
      have hFq : X < (n1 : Int) ∨ ¬ X < (n1 : Int) := by omega
      rcases hFq with hq | hq
      · have HFT : Hid (true = F) := Go.Lib.hid (by rw [HMA.out, decide_eq_true hq]; rfl)
        have HFQ := HFT
        go_wp2_with fail
        refine (HEV.out _ (by first | exact HFT.out | exact HFQ.out)).mono ?_
        rintro e w2 ⟨x1, x2, x3, x4, vx, rfl, hat, how, hvo, hvn, hb2⟩
        obtain ⟨a5, p5, rfl⟩ := hat.t.form
        obtain ⟨a6, p6, rfl⟩ := hat.u.form
        obtain ⟨a7, p7, rfl⟩ := hat.b.form
        obtain ⟨a8, p8, rfl⟩ := hat.d.form
        have HAT2 := Go.Lib.hid hat
        have HOW := Go.Lib.hid how
        have HVO := Go.Lib.hid hvo
        have HVN := Go.Lib.hid hvn
        have b0 := Hb0.out.keep hb2
        have b1 := Hb1.out.keep hb2
        have HB2 := Go.Lib.hid (HBB.out.trans (hb2.mono HBB.out.size))
        have Jb0 := Go.Lib.hid b0
        have Jb1 := Go.Lib.hid b1
        have KO2 := Go.Lib.hid (KO.out.keep hb2)
        have hsz := hb2.size
        have f0 := b0.frozen 0
        have f1 := b0.frozen 1
        have f2 := b0.frozen 2
        have f3 := b0.frozen 3
        have f4 := b0.frozen 4
        have f5 := b0.frozen 5
        clear c0 c1 c2 c3 c4 c5
        have g0 := b0.cell 0
        have g1 := b0.cell 1
        have g2 := b0.cell 2
        have g3 := b0.cell 3
        have g4 := b0.cell 4
        have g5 := b0.cell 5
        simp only [List.getElem?_cons_zero, List.getElem?_cons_succ] at g0 g1 g2 g3 g4 g5
        have l2 := b0.lt
        have l3 := b1.lt
        have n12 : ¬ (w.heap.size = w2.heap.size) := by omega
        have n21 : ¬ (w2.heap.size = w.heap.size) := by omega
        clear hat how hvo hvn b0 b1 hb2
        generalize hl1 : E.1.t.length = y1 at *
        generalize hl2 : E.1.u.length = y2 at *
        generalize hl3 : E.1.b.length = y3 at *
        generalize hl4 : E.1.d.length = y4 at *
        have HL1 := Go.Lib.hid hl1
        have HL2 := Go.Lib.hid hl2
        have HL3 := Go.Lib.hid hl3
        have HL4 := Go.Lib.hid hl4
        clear hl1 hl2 hl3 hl4
        obtain ⟨W4, hW4⟩ : ∃ W4, W4 = (((((w2.setCell ⟨w.heap.size, 0, none⟩ (.int .i64 cf)).setCell ⟨w.heap.size, 1, none⟩ (.int .i64 X)).setCell ⟨w.heap.size, 2, none⟩ (.slice a5 y1 p5)).setCell ⟨w.heap.size, 3, none⟩ (.slice a6 y2 p6)).setCell ⟨w.heap.size, 4, none⟩ (.slice a7 y3 p7)).setCell ⟨w.heap.size, 5, none⟩ (.slice a8 y4 p8) := ⟨_, rfl⟩
        have F4 : Fr (fun k => k = w.heap.size ∨ k = w.heap.size + 1) w2 W4 := by rw [hW4]; exact (by repeat' (first | refine Fr.setEq ?_ ?_ _ | exact Fr.refl _ _ | exact .inl rfl | exact .inr rfl))
        have s4 : W4.heap.size = w2.heap.size := by rw [hW4]; simp
        have B4 : Below w.heap.size w W4 := by rw [hW4]; repeat' (first | refine below_set ?_ ?_ _ | exact HB2.out | omega)
        have b40 : Blk W4 w.heap.size [.int .i64 cf, .int .i64 X, .slice a5 y1 p5, .slice a6 y2 p6, .slice a7 y3 p7, .slice a8 y4 p8] 73 := by rw [hW4]; exact (((((Jb0.out.set 0 _).set 1 _).set 2 _).set 3 _).set 4 _).set 5 _
        have b41 : Blk W4 (w.heap.size + 1) [.int .i64 0, .int .i64 0, .slice none 0 0, .slice none 0 0, .slice none 0 0, .slice none 0 0] 73 := by
          rw [hW4]
          exact (((((Jb1.out.set_ne (a := ⟨w.heap.size, 0, none⟩) (by show w.heap.size + 1 ≠ w.heap.size; omega) _).set_ne (a := ⟨w.heap.size, 1, none⟩) (by show w.heap.size + 1 ≠ w.heap.size; omega) _).set_ne (a := ⟨w.heap.size, 2, none⟩) (by show w.heap.size + 1 ≠ w.heap.size; omega) _).set_ne (a := ⟨w.heap.size, 3, none⟩) (by show w.heap.size + 1 ≠ w.heap.size; omega) _).set_ne (a := ⟨w.heap.size, 4, none⟩) (by show w.heap.size + 1 ≠ w.heap.size; omega) _).set_ne (a := ⟨w.heap.size, 5, none⟩) (by show w.heap.size + 1 ≠ w.heap.size; omega) _
        obtain ⟨W5, hW5⟩ : ∃ W5, W5 = W4.alloc (.cells #[.int .i64 cf, .int .i64 X, .slice a5 y1 p5, .slice a6 y2 p6, .slice a7 y3 p7, .slice a8 y4 p8] 73) := ⟨_, rfl⟩
        have B45 : Below W4.heap.size W4 W5 := by rw [hW5]; exact (Below.refl _ _).alloc (Nat.le_refl _) _
        have KO5 := Go.Lib.hid ((KO2.out.two Jb0.out Jb1.out (by decide) (by decide) F4).keep B45)
        have KX5 := Go.Lib.hid ((HVO.out.two Jb0.out Jb1.out (by decide) (by decide) F4).keep B45)
        have RA5 := Go.Lib.hid ((HAT2.out.two Jb0.out Jb1.out (by decide) (by decide) F4).keep B45)
        have Jb05 := Go.Lib.hid (b40.keep B45)
        have Jb15 := Go.Lib.hid (b41.keep B45)
        have HB5 := Go.Lib.hid (B4.trans (B45.mono B4.size))
        have HW4 := Go.Lib.hid hW4
        have HW5 := Go.Lib.hid hW5
        have hs5 : w2.heap.size < W5.heap.size := by rw [hW5]; simp; omega
        obtain ⟨ax, px, rfl⟩ := KX5.out.form
        obtain ⟨gx, x', hgx, -, -, hcx, -, hx'⟩ := KX5.out.get (j := 0) (by simp)
        subst hgx
        obtain rfl : x = x' := by simpa using hx'
        have HCX := Go.Lib.hid hcx
        clear F4 B4 b40 b41 B45 hW4 hW5 s4 hcx hx'
        go_wp2_with (at_builtin; rw [← HW4.out, ← HW5.out]; refine wpList_append_row _ rfl (.tmp 46) (.tmp 47) 26 rfl 31 (.int .u64 0) 1 8 Try.underlying26 u64_info rfl (by decide) _ _ _ rfl KO5.out ⟨gx, 0, none⟩ 1 px [.int .u64 x] rfl (by decide) rfl ?c1 ?c2 ?b1 ?b2 ?next)
        case c1 => intro j u hu; match j, hu with | 0, hu => simp at hu; subst hu; exact HCX.out
        case c2 => intro u hu; simp at hu; subst hu; rfl
        case b1 => unfold maxLen; omega
        case b2 => omega
        case next =>
          intro g' cap' w3 hr3 hf3 hg3
          have hs1 : ∀ b, u6.ownBlock = some b → (Value.slice a5 y1 p5).ownBlock ≠ some b ∧ (Value.slice a6 y2 p6).ownBlock ≠ some b ∧ (Value.slice a7 y3 p7).ownBlock ≠ some b ∧ (Value.slice a8 y4 p8).ownBlock ≠ some b := by
            intro b hb
            have hlt := HOK.out b hb
            obtain ⟨_, o1, o2, o3, o4⟩ := OO.out b hb
            refine ⟨fun h => ?_, fun h => ?_, fun h => ?_, fun h => ?_⟩
            · rcases HOW.out.t b h with h | h
              · exact o1 h
              · omega
            · rcases HOW.out.u b h with h | h
              · exact o2 h
              · omega
            · rcases HOW.out.b b h with h | h
              · exact o3 h
              · omega
            · rcases HOW.out.d b h with h | h
              · exact o4 h
              · omega
          have ra := RA5.out
          have k1 : AT w3 (.slice a5 y1 p5) (.slice a6 y2 p6) (.slice a7 y3 p7) (.slice a8 y4 p8) E.1 := ⟨ra.t.frv hf3 (fun b hb => (hs1 b hb).1), ra.u.frv hf3 (fun b hb => (hs1 b hb).2.1), ra.b.frv hf3 (fun b hb => (hs1 b hb).2.2.1), ra.d.frv hf3 (fun b hb => (hs1 b hb).2.2.2)⟩
          have b0 := hf3.blk (fun hb => KL.ne KO5.out Jb05.out (by decide) _ hb rfl) Jb05.out
          have b1 := hf3.blk (fun hb => KL.ne KO5.out Jb15.out (by decide) _ hb rfl) Jb15.out
          have K4 : KL w3 (.slice (some ⟨g', 0, none⟩) (gone.length + 1) cap') (gone ++ [x]) := by
            unfold KL
            rw [List.map_append, List.length_append]
            exact hr3
          have B6 := below_fr HB5.out hf3 (by have := hsz; have := l0; omega) (fun b hb => (OO.out b hb).1)
          have O4 : ∀ b, (Value.slice (some ⟨g', 0, none⟩) (gone.length + 1) cap').ownBlock = some b → w.heap.size ≤ b ∧ (Value.slice a5 y1 p5).ownBlock ≠ some b ∧ (Value.slice a6 y2 p6).ownBlock ≠ some b ∧ (Value.slice a7 y3 p7).ownBlock ≠ some b ∧ (Value.slice a8 y4 p8).ownBlock ≠ some b := by
            intro b hb
            have e : g' = b := by simpa [Value.ownBlock] using hb
            subst e
            rcases hg3 with h | h
            · exact ⟨(OO.out _ h).1, hs1 _ h⟩
            · refine ⟨by omega, fun h' => ?_, fun h' => ?_, fun h' => ?_, fun h' => ?_⟩
              · have := (Row.lt ra.t h').1; omega
              · have := (Row.lt ra.u h').1; omega
              · have := (Row.lt ra.b h').1; omega
              · have := (Row.lt ra.d h').1; omega
          have k1' := Go.Lib.hid k1
          have b0' := Go.Lib.hid b0
          have b1' := Go.Lib.hid b1
          have K4' := Go.Lib.hid K4
          have O4' := Go.Lib.hid O4
          have B6' := Go.Lib.hid B6
          clear hs1 ra k1 b0 b1 K4 O4 B6 hr3 hf3 hg3
          go_wp2_with fail
          go_roundg j
          case rel =>
            have e1 := HL1.out
            have e2 := HL2.out
            have e3 := HL3.out
            have e4 := HL4.out
            subst e1; subst e2; subst e3; subst e4
            exact ⟨E.1, gone ++ [x], (shrA j E.1).2, a5, a6, a7, a8, p5, p6, p7, p8, HLN.out.1, HLN.out.2.1, HLN.out.2.2.1, by have := HGL.out; simp; omega, HLN.out.2.2.2, by rw [← HE1.out], HE2.out, K4'.out, O4'.out, k1'.out, b0'.out, b1'.out, B6'.out⟩
          case measure => omega
      · have HFT : Hid (((n2 : Int) == 0) = F) := Go.Lib.hid (by
          rw [HMA.out, decide_eq_false hq, Bool.false_or]
          by_cases h0 : n2 = 0 <;> simp [h0])
        have HFQ : Hid (decide (n2 = 0) = F) := Go.Lib.hid (by
          rw [HMA.out, decide_eq_false hq, Bool.false_or])
        go_wp2_with fail
        refine (HEV.out _ (by first | exact HFT.out | exact HFQ.out)).mono ?_
        rintro e w2 ⟨x1, x2, x3, x4, vx, rfl, hat, how, hvo, hvn, hb2⟩
        obtain ⟨a5, p5, rfl⟩ := hat.t.form
        obtain ⟨a6, p6, rfl⟩ := hat.u.form
        obtain ⟨a7, p7, rfl⟩ := hat.b.form
        obtain ⟨a8, p8, rfl⟩ := hat.d.form
        have HAT2 := Go.Lib.hid hat
        have HOW := Go.Lib.hid how
        have HVO := Go.Lib.hid hvo
        have HVN := Go.Lib.hid hvn
        have b0 := Hb0.out.keep hb2
        have b1 := Hb1.out.keep hb2
        have HB2 := Go.Lib.hid (HBB.out.trans (hb2.mono HBB.out.size))
        have Jb0 := Go.Lib.hid b0
        have Jb1 := Go.Lib.hid b1
        have KO2 := Go.Lib.hid (KO.out.keep hb2)
        have hsz := hb2.size
        have f0 := b0.frozen 0
        have f1 := b0.frozen 1
        have f2 := b0.frozen 2
        have f3 := b0.frozen 3
        have f4 := b0.frozen 4
        have f5 := b0.frozen 5
        clear c0 c1 c2 c3 c4 c5
        have g0 := b0.cell 0
        have g1 := b0.cell 1
        have g2 := b0.cell 2
        have g3 := b0.cell 3
        have g4 := b0.cell 4
        have g5 := b0.cell 5
        simp only [List.getElem?_cons_zero, List.getElem?_cons_succ] at g0 g1 g2 g3 g4 g5
        have l2 := b0.lt
        have l3 := b1.lt
        have n12 : ¬ (w.heap.size = w2.heap.size) := by omega
        have n21 : ¬ (w2.heap.size = w.heap.size) := by omega
        clear hat how hvo hvn b0 b1 hb2
        generalize hl1 : E.1.t.length = y1 at *
        generalize hl2 : E.1.u.length = y2 at *
        generalize hl3 : E.1.b.length = y3 at *
        generalize hl4 : E.1.d.length = y4 at *
        have HL1 := Go.Lib.hid hl1
        have HL2 := Go.Lib.hid hl2
        have HL3 := Go.Lib.hid hl3
        have HL4 := Go.Lib.hid hl4
        clear hl1 hl2 hl3 hl4
        obtain ⟨W4, hW4⟩ : ∃ W4, W4 = (((((w2.setCell ⟨w.heap.size, 0, none⟩ (.int .i64 cf)).setCell ⟨w.heap.size, 1, none⟩ (.int .i64 X)).setCell ⟨w.heap.size, 2, none⟩ (.slice a5 y1 p5)).setCell ⟨w.heap.size, 3, none⟩ (.slice a6 y2 p6)).setCell ⟨w.heap.size, 4, none⟩ (.slice a7 y3 p7)).setCell ⟨w.heap.size, 5, none⟩ (.slice a8 y4 p8) := ⟨_, rfl⟩
        have F4 : Fr (fun k => k = w.heap.size ∨ k = w.heap.size + 1) w2 W4 := by rw [hW4]; exact (by repeat' (first | refine Fr.setEq ?_ ?_ _ | exact Fr.refl _ _ | exact .inl rfl | exact .inr rfl))
        have s4 : W4.heap.size = w2.heap.size := by rw [hW4]; simp
        have B4 : Below w.heap.size w W4 := by rw [hW4]; repeat' (first | refine below_set ?_ ?_ _ | exact HB2.out | omega)
        have b40 : Blk W4 w.heap.size [.int .i64 cf, .int .i64 X, .slice a5 y1 p5, .slice a6 y2 p6, .slice a7 y3 p7, .slice a8 y4 p8] 73 := by rw [hW4]; exact (((((Jb0.out.set 0 _).set 1 _).set 2 _).set 3 _).set 4 _).set 5 _
        have b41 : Blk W4 (w.heap.size + 1) [.int .i64 0, .int .i64 0, .slice none 0 0, .slice none 0 0, .slice none 0 0, .slice none 0 0] 73 := by
          rw [hW4]
          exact (((((Jb1.out.set_ne (a := ⟨w.heap.size, 0, none⟩) (by show w.heap.size + 1 ≠ w.heap.size; omega) _).set_ne (a := ⟨w.heap.size, 1, none⟩) (by show w.heap.size + 1 ≠ w.heap.size; omega) _).set_ne (a := ⟨w.heap.size, 2, none⟩) (by show w.heap.size + 1 ≠ w.heap.size; omega) _).set_ne (a := ⟨w.heap.size, 3, none⟩) (by show w.heap.size + 1 ≠ w.heap.size; omega) _).set_ne (a := ⟨w.heap.size, 4, none⟩) (by show w.heap.size + 1 ≠ w.heap.size; omega) _).set_ne (a := ⟨w.heap.size, 5, none⟩) (by show w.heap.size + 1 ≠ w.heap.size; omega) _
        obtain ⟨W5, hW5⟩ : ∃ W5, W5 = W4.alloc (.cells #[.int .i64 cf, .int .i64 X, .slice a5 y1 p5, .slice a6 y2 p6, .slice a7 y3 p7, .slice a8 y4 p8] 73) := ⟨_, rfl⟩
        have B45 : Below W4.heap.size W4 W5 := by rw [hW5]; exact (Below.refl _ _).alloc (Nat.le_refl _) _
        have KO5 := Go.Lib.hid ((KO2.out.two Jb0.out Jb1.out (by decide) (by decide) F4).keep B45)
        have KX5 := Go.Lib.hid ((HVO.out.two Jb0.out Jb1.out (by decide) (by decide) F4).keep B45)
        have RA5 := Go.Lib.hid ((HAT2.out.two Jb0.out Jb1.out (by decide) (by decide) F4).keep B45)
        have Jb05 := Go.Lib.hid (b40.keep B45)
        have Jb15 := Go.Lib.hid (b41.keep B45)
        have HB5 := Go.Lib.hid (B4.trans (B45.mono B4.size))
        have HW4 := Go.Lib.hid hW4
        have HW5 := Go.Lib.hid hW5
        have hs5 : w2.heap.size < W5.heap.size := by rw [hW5]; simp; omega
        obtain ⟨ax, px, rfl⟩ := KX5.out.form
        obtain ⟨gx, x', hgx, -, -, hcx, -, hx'⟩ := KX5.out.get (j := 0) (by simp)
        subst hgx
        obtain rfl : x = x' := by simpa using hx'
        have HCX := Go.Lib.hid hcx
        clear F4 B4 b40 b41 B45 hW4 hW5 s4 hcx hx'
        go_wp2_with (at_builtin; rw [← HW4.out, ← HW5.out]; refine wpList_append_row _ rfl (.tmp 46) (.tmp 47) 26 rfl 31 (.int .u64 0) 1 8 Try.underlying26 u64_info rfl (by decide) _ _ _ rfl KO5.out ⟨gx, 0, none⟩ 1 px [.int .u64 x] rfl (by decide) rfl ?c1 ?c2 ?b1 ?b2 ?next)
        case c1 => intro j u hu; match j, hu with | 0, hu => simp at hu; subst hu; exact HCX.out
        case c2 => intro u hu; simp at hu; subst hu; rfl
        case b1 => unfold maxLen; omega
        case b2 => omega
        case next =>
          intro g' cap' w3 hr3 hf3 hg3
          have hs1 : ∀ b, u6.ownBlock = some b → (Value.slice a5 y1 p5).ownBlock ≠ some b ∧ (Value.slice a6 y2 p6).ownBlock ≠ some b ∧ (Value.slice a7 y3 p7).ownBlock ≠ some b ∧ (Value.slice a8 y4 p8).ownBlock ≠ some b := by
            intro b hb
            have hlt := HOK.out b hb
            obtain ⟨_, o1, o2, o3, o4⟩ := OO.out b hb
            refine ⟨fun h => ?_, fun h => ?_, fun h => ?_, fun h => ?_⟩
            · rcases HOW.out.t b h with h | h
              · exact o1 h
              · omega
            · rcases HOW.out.u b h with h | h
              · exact o2 h
              · omega
            · rcases HOW.out.b b h with h | h
              · exact o3 h
              · omega
            · rcases HOW.out.d b h with h | h
              · exact o4 h
              · omega
          have ra := RA5.out
          have k1 : AT w3 (.slice a5 y1 p5) (.slice a6 y2 p6) (.slice a7 y3 p7) (.slice a8 y4 p8) E.1 := ⟨ra.t.frv hf3 (fun b hb => (hs1 b hb).1), ra.u.frv hf3 (fun b hb => (hs1 b hb).2.1), ra.b.frv hf3 (fun b hb => (hs1 b hb).2.2.1), ra.d.frv hf3 (fun b hb => (hs1 b hb).2.2.2)⟩
          have b0 := hf3.blk (fun hb => KL.ne KO5.out Jb05.out (by decide) _ hb rfl) Jb05.out
          have b1 := hf3.blk (fun hb => KL.ne KO5.out Jb15.out (by decide) _ hb rfl) Jb15.out
          have K4 : KL w3 (.slice (some ⟨g', 0, none⟩) (gone.length + 1) cap') (gone ++ [x]) := by
            unfold KL
            rw [List.map_append, List.length_append]
            exact hr3
          have B6 := below_fr HB5.out hf3 (by have := hsz; have := l0; omega) (fun b hb => (OO.out b hb).1)
          have O4 : ∀ b, (Value.slice (some ⟨g', 0, none⟩) (gone.length + 1) cap').ownBlock = some b → w.heap.size ≤ b ∧ (Value.slice a5 y1 p5).ownBlock ≠ some b ∧ (Value.slice a6 y2 p6).ownBlock ≠ some b ∧ (Value.slice a7 y3 p7).ownBlock ≠ some b ∧ (Value.slice a8 y4 p8).ownBlock ≠ some b := by
            intro b hb
            have e : g' = b := by simpa [Value.ownBlock] using hb
            subst e
            rcases hg3 with h | h
            · exact ⟨(OO.out _ h).1, hs1 _ h⟩
            · refine ⟨by omega, fun h' => ?_, fun h' => ?_, fun h' => ?_, fun h' => ?_⟩
              · have := (Row.lt ra.t h').1; omega
              · have := (Row.lt ra.u h').1; omega
              · have := (Row.lt ra.b h').1; omega
              · have := (Row.lt ra.d h').1; omega
          have k1' := Go.Lib.hid k1
          have b0' := Go.Lib.hid b0
          have b1' := Go.Lib.hid b1
          have K4' := Go.Lib.hid K4
          have O4' := Go.Lib.hid O4
          have B6' := Go.Lib.hid B6
          clear hs1 ra k1 b0 b1 K4 O4 B6 hr3 hf3 hg3
          go_wp2_with fail
          go_roundg j
          case rel =>
            have e1 := HL1.out
            have e2 := HL2.out
            have e3 := HL3.out
            have e4 := HL4.out
            subst e1; subst e2; subst e3; subst e4
            exact ⟨E.1, gone ++ [x], (shrA j E.1).2, a5, a6, a7, a8, p5, p6, p7, p8, HLN.out.1, HLN.out.2.1, HLN.out.2.2.1, by have := HGL.out; simp; omega, HLN.out.2.2.2, by rw [← HE1.out], HE2.out, K4'.out, O4'.out, k1'.out, b0'.out, b1'.out, B6'.out⟩
          case measure => omega
    · have hse := shrA_end' gk s1 (by omega)
      rw [hse] at hsh
      injection hsh with e1 e2
      have HG2 : Hid (gone = R.2) := Go.Lib.hid (by rw [← e2, List.append_nil] at hgo; exact hgo)
      obtain ⟨c', p', t, u, b, d⟩ := s1
      simp only at hsc hsp hg htt hat b0 hat c2 c3 c4 c5 HAT Hb0 KO
      have hsc := hsc.symm
      have hsp := hsp.symm
      subst hsc
      subst hsp
      rw [← HG2.out] at HT
      have hcap3 := hat.b.cap
      have hcap4 := hat.d.cap
      obtain ⟨N2, hN2⟩ : ∃ N2 : Nat, N2 = (cf - (t.length : Int)).toNat := ⟨_, rfl⟩
      have hN3 : (N2 : Int) = cf - t.length := by omega
      obtain ⟨J, hJ⟩ : ∃ J : Nat, J = (cf - ((b.take N2).length : Int)).toNat := ⟨_, rfl⟩
      have hbl : (b.take N2).length ≤ N2 := by rw [List.length_take]; omega
      have hbl2 : (b.take N2).length ≤ b.length := by rw [List.length_take]; omega
      have hJ3 : (J : Int) = cf - (b.take N2).length := by omega
      have hfin : cutE (cutD (cutB R.1)) = ⟨cf, X, t, u, b.take N2, d.take J⟩ := by
        rw [← e1]
        simp only [cutB, cutD, cutE]
        rw [← hN2, ← hJ]
        rw [List.take_of_length_le (l := b.take N2)]
        have : (d.take J).length ≤ J := by rw [List.length_take]; omega
        omega
      rw [hfin] at HT
      have hl1 : t.length < 50000 := by omega
      have hl2 : u.length < 50000 := by omega
      have hl3 : b.length < 50000 := by omega
      have hl4 : d.length < 50000 := by omega
      have hle1 : ¬ cf < (t.length : Int) + u.length := by omega
      have htc : (t.length : Int) ≤ cf := by omega
      have HBL := Go.Lib.hid (⟨hN3, hJ3, hbl, hbl2⟩ : (N2 : Int) = cf - t.length ∧ (J : Int) = cf - (b.take N2).length ∧ (b.take N2).length ≤ N2 ∧ (b.take N2).length ≤ b.length)
      clear hgo hg hgl htt hko hoo hat b0 b1 hbb e1 e2 hse hfin hN2 hN3 hJ hJ3 hbl hbl2 HSC HG HGL HTT HGO OO d0 d1 d2 d3 d4 d5 f0 f1 f2 f3 f4 f5
      go_wp2_with fail
      clear hlt c0 c1 c2 c3 c4 c5
      go_loopg [] b.length (fun g wr => g ≤ b.length ∧ (N2 ≤ g ∨ g = b.length) ∧ KL wr u6 gone ∧ AT wr (.slice a1 t.length q1) (.slice a2 u.length q2) (.slice a3 g q3) (.slice a4 d.length q4) ⟨cf, X, t, u, b.take g, d⟩ ∧ Blk wr w.heap.size [.int .i64 cf, .int .i64 X, .slice a1 t.length q1, .slice a2 u.length q2, .slice a3 g q3, .slice a4 d.length q4] 73 ∧ Blk wr (w.heap.size + 1) [.int .i64 0, .int .i64 0, .slice none 0 0, .slice none 0 0, .slice none 0 0, .slice none 0 0] 73 ∧ Below w.heap.size w wr)
      case atStart => exact ⟨Nat.le_refl _, .inr rfl, KO.out, ⟨HAT.out.t, HAT.out.u, by rw [List.take_length]; exact HAT.out.b, HAT.out.d⟩, Hb0.out, Hb1.out, HBB.out⟩
      case round =>
        clear HAT Hb0 Hb1 HBB KO l0 l1'
        obtain ⟨hg, hng, hko, hat, b0, b1, hbb⟩ := hrel
        have c0 := b0.cell 0
        have c1 := b0.cell 1
        have c2 := b0.cell 2
        have c3 := b0.cell 3
        have c4 := b0.cell 4
        have c5 := b0.cell 5
        simp only [List.getElem?_cons_zero, List.getElem?_cons_succ] at c0 c1 c2 c3 c4 c5
        have fz := b0.frozen 4
        have l0 := b0.lt
        have l1' := b1.lt
        have KO := Go.Lib.hid hko
        have HAT := Go.Lib.hid hat
        have Hb0 := Go.Lib.hid b0
        have Hb1 := Go.Lib.hid b1
        have HBB := Go.Lib.hid hbb
        have HNG := Go.Lib.hid hng
        have hgk2 : gk < 50000 := by omega
        by_cases hlt : cf < (t.length : Int) + gk
        · obtain ⟨j, rfl⟩ : ∃ j, gk = j + 1 := ⟨gk - 1, by have := HBL.out.1; omega⟩
          obtain ⟨Y, hY, y0, y1, yk, yb, ys⟩ := st_set b0 b1 (by decide) 4 (.slice a3 j q3)
          have HY := Go.Lib.hid hY
          have Hy0 : Hid (Blk Y w.heap.size [.int .i64 cf, .int .i64 X, .slice a1 t.length q1, .slice a2 u.length q2, .slice a3 j q3, .slice a4 d.length q4] 73) := y0
          have Hy1 := Go.Lib.hid y1
          have hbt : KL wr (.slice a3 j q3) (b.take j) := by
            have r := hat.b.take (m := j) (by rw [List.length_take]; omega)
            rwa [List.take_take, Nat.min_eq_left (by omega)] at r
          have HYA : Hid (AT Y (.slice a1 t.length q1) (.slice a2 u.length q2) (.slice a3 j q3) (.slice a4 d.length q4) ⟨cf, X, t, u, b.take j, d⟩) := Go.Lib.hid ⟨yk _ _ hat.t, yk _ _ hat.u, yk _ _ hbt, yk _ _ hat.d⟩
          have HYK := Go.Lib.hid (yk _ _ hko)
          have HYB := Go.Lib.hid (yb _ _ (Nat.le_refl _) hbb)
          have HJN : Hid (N2 ≤ j) := Go.Lib.hid (by have := HBL.out.1; omega)
          have hjq : j + 1 ≤ q3 := by omega
          clear hY y0 y1 yk yb ys b0 b1 hbb hko hat hng hbt
          go_wp2_with fail
          rw [← HY.out]
          go_roundg j
          case rel => exact ⟨by omega, .inl HJN.out, HYK.out, HYA.out, Hy0.out, Hy1.out, HYB.out⟩
          case measure => omega
        · have htk : b.take gk = b.take N2 := by
            rcases hng with h | h
            · have := HBL.out.1
              have e : gk = N2 := by omega
              rw [e]
            · have := HBL.out.1
              rw [h, List.take_length, List.take_of_length_le (by omega)]
          have hgl : gk = (b.take N2).length := by rw [← htk, List.length_take]; omega
          rw [htk] at hat
          have HAT' := Go.Lib.hid hat
          have Hb0' := Go.Lib.hid b0
          have hgc : (gk : Int) ≤ cf := by have := HBL.out; omega
          have HGL := Go.Lib.hid hgl
          clear HAT Hb0 htk hng hat b0 b1 hbb hko HNG
          obtain ⟨Bl, hBl⟩ : ∃ Bl, Bl = b.take N2 := ⟨_, rfl⟩
          rw [← hBl] at HAT' HBL HT HGL
          clear hgl
          obtain ⟨nb, hnb⟩ : ∃ nb, nb = gk := ⟨_, rfl⟩
          subst hnb
          go_wp2_with fail
          clear hlt c0 c1 c2 c3 c4 c5 fz
          go_loopg [] d.length (fun g wr => g ≤ d.length ∧ (J ≤ g ∨ g = d.length) ∧ KL wr u6 gone ∧ AT wr (.slice a1 t.length q1) (.slice a2 u.length q2) (.slice a3 nb q3) (.slice a4 g q4) ⟨cf, X, t, u, Bl, d.take g⟩ ∧ Blk wr w.heap.size [.int .i64 cf, .int .i64 X, .slice a1 t.length q1, .slice a2 u.length q2, .slice a3 nb q3, .slice a4 g q4] 73 ∧ Blk wr (w.heap.size + 1) [.int .i64 0, .int .i64 0, .slice none 0 0, .slice none 0 0, .slice none 0 0, .slice none 0 0] 73 ∧ Below w.heap.size w wr)
          case atStart => exact ⟨Nat.le_refl _, .inr rfl, KO.out, ⟨HAT'.out.t, HAT'.out.u, HAT'.out.b, by rw [List.take_length]; exact HAT'.out.d⟩, Hb0'.out, Hb1.out, HBB.out⟩
          case round =>
            clear HAT' Hb0' Hb1 HBB KO l0 l1'
            obtain ⟨hg, hng, hko, hat, b0, b1, hbb⟩ := hrel
            have c0 := b0.cell 0
            have c1 := b0.cell 1
            have c2 := b0.cell 2
            have c3 := b0.cell 3
            have c4 := b0.cell 4
            have c5 := b0.cell 5
            simp only [List.getElem?_cons_zero, List.getElem?_cons_succ] at c0 c1 c2 c3 c4 c5
            have fz := b0.frozen 5
            have l0 := b0.lt
            have l1' := b1.lt
            have KO := Go.Lib.hid hko
            have HAT := Go.Lib.hid hat
            have Hb0 := Go.Lib.hid b0
            have Hb1 := Go.Lib.hid b1
            have HBB := Go.Lib.hid hbb
            have HNG := Go.Lib.hid hng
            have hgk3 : gk < 50000 := by omega
            by_cases hlt : cf < (nb : Int) + gk
            · obtain ⟨j, rfl⟩ : ∃ j, gk = j + 1 := ⟨gk - 1, by omega⟩
              obtain ⟨Y, hY, y0, y1, yk, yb, ys⟩ := st_set b0 b1 (by decide) 5 (.slice a4 j q4)
              have HY := Go.Lib.hid hY
              have Hy0 : Hid (Blk Y w.heap.size [.int .i64 cf, .int .i64 X, .slice a1 t.length q1, .slice a2 u.length q2, .slice a3 nb q3, .slice a4 j q4] 73) := y0
              have Hy1 := Go.Lib.hid y1
              have hbt : KL wr (.slice a4 j q4) (d.take j) := by
                have r := hat.d.take (m := j) (by rw [List.length_take]; omega)
                rwa [List.take_take, Nat.min_eq_left (by omega)] at r
              have HYA : Hid (AT Y (.slice a1 t.length q1) (.slice a2 u.length q2) (.slice a3 nb q3) (.slice a4 j q4) ⟨cf, X, t, u, Bl, d.take j⟩) := Go.Lib.hid ⟨yk _ _ hat.t, yk _ _ hat.u, yk _ _ hat.b, yk _ _ hbt⟩
              have HYK := Go.Lib.hid (yk _ _ hko)
              have HYB := Go.Lib.hid (yb _ _ (Nat.le_refl _) hbb)
              have HJN : Hid (J ≤ j) := Go.Lib.hid (by have := HBL.out.2.1; have := HGL.out; omega)
              have hjq : j + 1 ≤ q4 := by omega
              clear hY y0 y1 yk yb ys b0 b1 hbb hko hat hng hbt
              go_wp2_with fail
              rw [← HY.out]
              go_roundg j
              case rel => exact ⟨by omega, .inl HJN.out, HYK.out, HYA.out, Hy0.out, Hy1.out, HYB.out⟩
              case measure => omega
            · have htk : d.take gk = d.take J := by
                rcases hng with h | h
                · have := HBL.out.2.1; have := HGL.out
                  have e : gk = J := by omega
                  rw [e]
                · have := HBL.out.2.1; have := HGL.out
                  rw [h, List.take_length, List.take_of_length_le (by omega)]
              have hgl : gk = (d.take J).length := by rw [← htk, List.length_take]; omega
              rw [htk] at hat
              have HAT' := Go.Lib.hid hat
              have Hb0' := Go.Lib.hid b0
              have HGL3 := Go.Lib.hid hgl
              clear HAT Hb0 htk hng hat b0 b1 hbb hko HNG hgl
              obtain ⟨nd, hnd⟩ : ∃ nd, nd = gk := ⟨_, rfl⟩
              subst hnd
              go_wp2_with fail
              clear c0 c1 c2 c3 c4 c5 fz
              obtain ⟨D, hD⟩ : ∃ D, D = d.take J := ⟨_, rfl⟩
              rw [← hD] at HAT' HT
              go_loopg [] 0 (fun g wr => KL wr u6 gone ∧ AT wr (.slice a1 t.length q1) (.slice a2 u.length q2) (.slice a3 nb q3) (.slice a4 nd q4) ⟨cf, X, t, u, Bl, D⟩ ∧ Blk wr w.heap.size [.int .i64 cf, .int .i64 X, .slice a1 t.length q1, .slice a2 u.length q2, .slice a3 nb q3, .slice a4 nd q4] 73 ∧ Blk wr (w.heap.size + 1) [.int .i64 0, .int .i64 0, .slice none 0 0, .slice none 0 0, .slice none 0 0, .slice none 0 0] 73 ∧ Below w.heap.size w wr)
              case atStart => exact ⟨KO.out, HAT'.out, Hb0'.out, Hb1.out, HBB.out⟩
              case round =>
                clear HAT' Hb0' Hb1 HBB KO l0 l1'
                obtain ⟨hko, hat, b0, b1, hbb⟩ := hrel
                have c0 := b0.cell 0
                have c1 := b0.cell 1
                have c2 := b0.cell 2
                have c3 := b0.cell 3
                have c4 := b0.cell 4
                have c5 := b0.cell 5
                simp only [List.getElem?_cons_zero, List.getElem?_cons_succ] at c0 c1 c2 c3 c4 c5
                have e0 := b1.cell 0
                have e1 := b1.cell 1
                have e2 := b1.cell 2
                have e3 := b1.cell 3
                have e4 := b1.cell 4
                have e5 := b1.cell 5
                simp only [List.getElem?_cons_zero, List.getElem?_cons_succ] at e0 e1 e2 e3 e4 e5
                have f0 := b1.frozen 0
                have f1 := b1.frozen 1
                have f2 := b1.frozen 2
                have f3 := b1.frozen 3
                have f4 := b1.frozen 4
                have f5 := b1.frozen 5
                have l0 := b0.lt
                have l1' := b1.lt
                have KO := Go.Lib.hid hko
                have HAT := Go.Lib.hid hat
                have Hb0 := Go.Lib.hid b0
                have Hb1 := Go.Lib.hid b1
                have HBB := Go.Lib.hid hbb
                obtain ⟨ao, po, rfl⟩ := hko.form
                generalize hlo : gone.length = lo at *
                clear hko hat b0 b1 hbb hlo
                generalize t.length = l1 at *
                generalize u.length = l2 at *
                go_wp2_with fail
                refine bodyPost_ret (v := .tuple #[.agg #[.int .i64 cf, .int .i64 X, .slice a1 l1 q1, .slice a2 l2 q2, .slice a3 nb q3, .slice a4 nd q4], .slice ao lo po]) (by simp [results, Try.results135, go_sem, c0, c1, c2, c3, c4, c5, e0, e1, e2, e3, e4, e5]) rfl ⟨_, _, _, _, _, by rw [HT.out], by rw [HT.out]; exact HAT.out.two Hb0.out Hb1.out (by decide) (by decide) (by repeat' (first | refine Fr.setEq ?_ ?_ _ | exact Fr.refl _ _ | exact .inl rfl | exact .inr rfl)), by rw [HT.out]; exact KO.out.two Hb0.out Hb1.out (by decide) (by decide) (by repeat' (first | refine Fr.setEq ?_ ?_ _ | exact Fr.refl _ _ | exact .inl rfl | exact .inr rfl)), ?_⟩
                repeat' (first | refine below_set ?_ ?_ _ | exact HBB.out | omega)
set_option maxHeartbeats 25600000 in
theorem a11resize_hi (s : AS) (n : Int) (v1 v2 v3 v4 : Value) (w : World) (hp : 0 ≤ s.p ∧ s.p ≤ 1048576) (htot : s.t.length + s.u.length + s.b.length + s.d.length < 50000) (hmin : ¬ capF n < s.p) (h : AT w v1 v2 v3 v4 s) :
    Calls Try.prog 135 #[.agg #[.int .i64 s.c, .int .i64 s.p, v1, v2, v3, v4], .int .i64 n] w fun e w' => ∃ x1 x2 x3 x4 vo, e = .returned (.tuple #[.agg #[.int .i64 (resizeA s n).1.c, .int .i64 (resizeA s n).1.p, x1, x2, x3, x4], vo]) ∧ AT w' x1 x2 x3 x4 (resizeA s n).1 ∧ KL w' vo (resizeA s n).2 ∧ Below w.heap.size w w' := by
  obtain ⟨hp0, hp1⟩ := hp
  obtain ⟨hcf1, hcf2⟩ := capF_in n
  obtain ⟨a1, p1, rfl⟩ := h.t.form
  obtain ⟨a2, p2, rfl⟩ := h.u.form
  obtain ⟨a3, p3, rfl⟩ := h.b.form
  obtain ⟨a4, p4, rfl⟩ := h.d.form
  have HCA := Go.Lib.hid (fun w => cap_any n w)
  have HT : Hid (resizeA s n = (cutE (cutD (cutB (shrA (s.t.length + s.u.length) ⟨capF n, min s.p (capF n), s.t, s.u, s.b, s.d⟩).1)), (shrA (s.t.length + s.u.length) ⟨capF n, min s.p (capF n), s.t, s.u, s.b, s.d⟩).2)) := Go.Lib.hid rfl
  generalize capF n = cf at *
  obtain ⟨X, hX⟩ : ∃ X, X = s.p := ⟨_, rfl⟩
  have hXm : min s.p cf = X := by omega
  rw [hXm] at HT
  have hX0 : 0 ≤ X := by omega
  have hX1 : X ≤ 1048576 := by omega
  obtain ⟨c, hcc⟩ : ∃ c, c = s.c := ⟨_, rfl⟩
  obtain ⟨q, hqq⟩ : ∃ q, q = s.p := ⟨_, rfl⟩
  rw [← hcc]
  rw [← hqq] at hmin hX ⊢
  obtain ⟨W, hW, b0, b1, B0⟩ := two_blocks w [.int .i64 c, .int .i64 q, .slice a1 s.t.length p1, .slice a2 s.u.length p2, .slice a3 s.b.length p3, .slice a4 s.d.length p4] [.int .i64 0, .int .i64 0, .slice none 0 0, .slice none 0 0, .slice none 0 0, .slice none 0 0] 73
  obtain ⟨U, hU, u0, u1, uk, ub, us⟩ := st_set b0 b1 (by decide) 0 (.int .i64 cf)
  obtain ⟨V, hV, y0, y1, yk, yb, ys⟩ := st_set u0 u1 (by decide) 1 (.int .i64 (q))
  have Hv0 : Hid (Blk V w.heap.size [.int .i64 cf, .int .i64 X, .slice a1 s.t.length p1, .slice a2 s.u.length p2, .slice a3 s.b.length p3, .slice a4 s.d.length p4] 73) := Go.Lib.hid (by rw [hX]; exact y0)
  have Hv1 := Go.Lib.hid y1
  have HAV : Hid (AT V (.slice a1 s.t.length p1) (.slice a2 s.u.length p2) (.slice a3 s.b.length p3) (.slice a4 s.d.length p4) s) := Go.Lib.hid ⟨yk _ _ (uk _ _ (h.t.keep B0)), yk _ _ (uk _ _ (h.u.keep B0)), yk _ _ (uk _ _ (h.b.keep B0)), yk _ _ (uk _ _ (h.d.keep B0))⟩
  have HBV := Go.Lib.hid (yb _ _ (Nat.le_refl _) (ub _ _ (Nat.le_refl _) B0))
  have HW := Go.Lib.hid hW
  have HU := Go.Lib.hid hU
  have HV := Go.Lib.hid hV
  have c0 := b0.cell 0
  have c1 := b0.cell 1
  have c2 := b0.cell 2
  have c3 := b0.cell 3
  have c4 := b0.cell 4
  have c5 := b0.cell 5
  simp only [List.getElem?_cons_zero, List.getElem?_cons_succ] at c0 c1 c2 c3 c4 c5
  have u0x : Blk U w.heap.size [.int .i64 cf, .int .i64 q, .slice a1 s.t.length p1, .slice a2 s.u.length p2, .slice a3 s.b.length p3, .slice a4 s.d.length p4] 73 := u0
  have e0 := u0x.cell 0
  have e1 := u0x.cell 1
  have e2 := u0x.cell 2
  have e3 := u0x.cell 3
  have e4 := u0x.cell 4
  have e5 := u0x.cell 5
  simp only [List.getElem?_cons_zero, List.getElem?_cons_succ] at e0 e1 e2 e3 e4 e5
  have fz0 := b0.frozen 0
  have fz1 := b0.frozen 1
  have l0 := b0.lt
  have l1' := b1.lt
  have l2' := u0.lt
  have l3' := y0.lt
  obtain ⟨g0, hg0⟩ : ∃ g0, g0 = s.t.length + s.u.length := ⟨_, rfl⟩
  obtain ⟨R, hR⟩ : ∃ R, R = shrA g0 ⟨cf, X, s.t, s.u, s.b, s.d⟩ := ⟨_, rfl⟩
  rw [← hg0, ← hR] at HT
  have HRR : Hid (shrA g0 ⟨cf, X, s.t, s.u, s.b, s.d⟩ = (R.1, R.2)) := Go.Lib.hid hR.symm
  have HG0 := Go.Lib.hid hg0
  have hgl0 : g0 < 50000 := by omega
  have HTOT := Go.Lib.hid htot
  have HAV' : Hid (AT V (.slice a1 s.t.length p1) (.slice a2 s.u.length p2) (.slice a3 s.b.length p3) (.slice a4 s.d.length p4) ⟨cf, X, s.t, s.u, s.b, s.d⟩) := Go.Lib.hid ⟨HAV.out.t, HAV.out.u, HAV.out.b, HAV.out.d⟩
  clear HAV hR hg0 htot hW hU hV b0 b1 B0 u0 u0x u1 uk ub us y0 y1 yk yb ys h hXm hcc hqq
  clear hX
  go_enter Try.func135, Try.ntmps135
  go_wp2_with fail
  rw [← HW.out]
  refine (HCA.out _).mono ?_
  rintro e w1 ⟨rfl, rfl⟩
  go_wp2_with fail
  rw [← HU.out, ← HV.out]
  clear c0 c1 c2 c3 c4 c5 e0 e1 e2 e3 e4 e5 fz0 fz1 l0 l1' l2' l3' hmin
  go_loopg [6] g0 (fun g vo wr => ∃ (s1 : AS) (gone G2 : List Int) (a1 a2 a3 a4 : Option Addr) (q1 q2 q3 q4 : Nat), s1.c = cf ∧ s1.p = X ∧ s1.t.length + s1.u.length = g ∧ gone.length + g ≤ g0 ∧ s1.t.length + s1.u.length + s1.b.length + s1.d.length < 50000 ∧ shrA g s1 = (R.1, G2) ∧ gone ++ G2 = R.2 ∧ KL wr vo gone ∧ (∀ b, vo.ownBlock = some b → w.heap.size ≤ b ∧ (Value.slice a1 s1.t.length q1).ownBlock ≠ some b ∧ (Value.slice a2 s1.u.length q2).ownBlock ≠ some b ∧ (Value.slice a3 s1.b.length q3).ownBlock ≠ some b ∧ (Value.slice a4 s1.d.length q4).ownBlock ≠ some b) ∧ AT wr (.slice a1 s1.t.length q1) (.slice a2 s1.u.length q2) (.slice a3 s1.b.length q3) (.slice a4 s1.d.length q4) s1 ∧ Blk wr w.heap.size [.int .i64 cf, .int .i64 X, .slice a1 s1.t.length q1, .slice a2 s1.u.length q2, .slice a3 s1.b.length q3, .slice a4 s1.d.length q4] 73 ∧ Blk wr (w.heap.size + 1) [.int .i64 0, .int .i64 0, .slice none 0 0, .slice none 0 0, .slice none 0 0, .slice none 0 0] 73 ∧ Below w.heap.size w wr)
  case atStart => exact ⟨⟨cf, X, s.t, s.u, s.b, s.d⟩, [], R.2, a1, a2, a3, a4, p1, p2, p3, p4, rfl, rfl, HG0.out.symm, by simp, HTOT.out, HRR.out, rfl, KL.nil _, fun b hb => (by cases hb), HAV'.out, Hv0.out, Hv1.out, HBV.out⟩
  case round =>
    clear HAV' Hv0 Hv1 HBV HRR HG0 HTOT
    obtain ⟨s1, gone, G2, a1, a2, a3, a4, q1, q2, q3, q4, hsc, hsp, hg, hgl, htt, hsh, hgo, hko, hoo, hat, b0, b1, hbb⟩ := hrel
    have c0 := b0.cell 0
    have c1 := b0.cell 1
    have c2 := b0.cell 2
    have c3 := b0.cell 3
    have c4 := b0.cell 4
    have c5 := b0.cell 5
    simp only [List.getElem?_cons_zero, List.getElem?_cons_succ] at c0 c1 c2 c3 c4 c5
    have d0 := b1.cell 0
    have d1 := b1.cell 1
    have d2 := b1.cell 2
    have d3 := b1.cell 3
    have d4 := b1.cell 4
    have d5 := b1.cell 5
    simp only [List.getElem?_cons_zero, List.getElem?_cons_succ] at d0 d1 d2 d3 d4 d5
    have f0 := b1.frozen 0
    have f1 := b1.frozen 1
    have f2 := b1.frozen 2
    have f3 := b1.frozen 3
    have f4 := b1.frozen 4
    have f5 := b1.frozen 5
    have l0 := b0.lt
    have l1' := b1.lt
    have KO := Go.Lib.hid hko
    have OO := Go.Lib.hid hoo
    have HAT := Go.Lib.hid hat
    have Hb0 := Go.Lib.hid b0
    have Hb1 := Go.Lib.hid b1
    have HBB := Go.Lib.hid hbb
    have HGO := Go.Lib.hid hgo
    have HG := Go.Lib.hid hg
    have HGL := Go.Lib.hid hgl
    have HTT := Go.Lib.hid htt
    have HSC := Go.Lib.hid (⟨hsc, hsp⟩ : s1.c = cf ∧ s1.p = X)
    have hgk : gk < 50000 := by omega
    by_cases hlt : cf < (gk : Int)
    · obtain ⟨j, rfl⟩ : ∃ j, gk = j + 1 := ⟨gk - 1, by omega⟩
      have hev : evok s1 (manyA s1) := evok_many (by omega) (by omega) (by omega)
      rw [shrA_go' j s1 (by omega)] at hsh
      injection hsh with e1 e2
      obtain ⟨m1, m2, m3, m4, m5⟩ := evictA_len s1 (manyA s1) hev
      have HEV : Hid (∀ F, F = manyA s1 → Calls Try.prog 189 #[.agg #[.int .i64 cf, .int .i64 X, .slice a1 s1.t.length q1, .slice a2 s1.u.length q2, .slice a3 s1.b.length q3, .slice a4 s1.d.length q4], .bool F] wr fun e w' => ∃ x1 x2 x3 x4 vo, e = .returned (.tuple #[.agg #[.int .i64 cf, .int .i64 X, x1, x2, x3, x4], vo]) ∧ AT w' x1 x2 x3 x4 (evictA s1 (manyA s1)).1 ∧ OwA wr (.slice a1 s1.t.length q1) (.slice a2 s1.u.length q2) (.slice a3 s1.b.length q3) (.slice a4 s1.d.length q4) x1 x2 x3 x4 ∧ KL w' vo (evictA s1 (manyA s1)).2 ∧ (∀ k, vo.ownBlock = some k → wr.heap.size ≤ k) ∧ Below wr.heap.size wr w') := Go.Lib.hid (fun F hF => by
        have r := a11evict_any s1 (manyA s1) _ _ _ _ wr hev (by omega) (by omega) hat
        rw [hsc, hsp, ← hF] at r
        rw [← hF]
        exact r)
      obtain ⟨x, hx⟩ := evictA_one s1 (manyA s1)
      rw [hx] at e2 HEV
      have HMA : Hid (manyA s1 = (decide (X < (s1.t.length : Int)) || decide (s1.u.length = 0))) := Go.Lib.hid (by rw [← hsp]; rfl)
      have HE1 := Go.Lib.hid e1
      have HE2 : Hid (gone ++ [x] ++ (shrA j (evictA s1 (manyA s1)).1).2 = R.2) := Go.Lib.hid (by rw [← hgo, ← e2]; simp)
      have HLN : Hid ((evictA s1 (manyA s1)).1.c = cf ∧ (evictA s1 (manyA s1)).1.p = X ∧ (evictA s1 (manyA s1)).1.t.length + (evictA s1 (manyA s1)).1.u.length = j ∧ (evictA s1 (manyA s1)).1.t.length + (evictA s1 (manyA s1)).1.u.length + (evictA s1 (manyA s1)).1.b.length + (evictA s1 (manyA s1)).1.d.length < 50000) := Go.Lib.hid ⟨by omega, by omega, by omega, by omega⟩
      have hcmp : cf < (s1.t.length : Int) + s1.u.length := by omega
      have hn1 : s1.t.length < 50000 := by omega
      have hn2 : s1.u.length < 50000 := by omega
      have hn3 : s1.b.length < 50000 := by omega
      have hn4 : s1.d.length < 50000 := by omega
      have hgn : gone.length < 50000 := by omega
      have hok : ∀ b, u6.ownBlock = some b → b < wr.heap.size := fun b hb => (Row.lt hko hb).1
      have HOK := Go.Lib.hid hok
      clear hgo hg hgl htt hsc hsp hko hoo hat b0 b1 hbb e1 e2 hok d0 d1 d2 d3 d4 d5 f0 f1 f2 f3 f4 f5 hev m1 m2 m3 m4 m5 hx
      generalize manyA s1 = F at *
      generalize evictA s1 F = E at *
      generalize hr1 : s1.t.length = n1 at *
      generalize hr2 : s1.u.length = n2 at *
      generalize hr3 : s1.b.length = n3 at *
      generalize hr4 : s1.d.length = n4 at *
      clear hr1 hr2 hr3 hr4
      have hFq : X < (n1 : Int) ∨ ¬ X < (n1 : Int) := by omega
      rcases hFq with hq | hq
      · have HFT : Hid (true = F) := Go.Lib.hid (by rw [HMA.out, decide_eq_true hq]; rfl)
        have HFQ := HFT
        go_wp2_with fail
        refine (HEV.out _ (by first | exact HFT.out | exact HFQ.out)).mono ?_
        rintro e w2 ⟨x1, x2, x3, x4, vx, rfl, hat, how, hvo, hvn, hb2⟩
        obtain ⟨a5, p5, rfl⟩ := hat.t.form
        obtain ⟨a6, p6, rfl⟩ := hat.u.form
        obtain ⟨a7, p7, rfl⟩ := hat.b.form
        obtain ⟨a8, p8, rfl⟩ := hat.d.form
        have HAT2 := Go.Lib.hid hat
        have HOW := Go.Lib.hid how
        have HVO := Go.Lib.hid hvo
        have HVN := Go.Lib.hid hvn
        have b0 := Hb0.out.keep hb2
        have b1 := Hb1.out.keep hb2
        have HB2 := Go.Lib.hid (HBB.out.trans (hb2.mono HBB.out.size))
        have Jb0 := Go.Lib.hid b0
        have Jb1 := Go.Lib.hid b1
        have KO2 := Go.Lib.hid (KO.out.keep hb2)
        have hsz := hb2.size
        have f0 := b0.frozen 0
        have f1 := b0.frozen 1
        have f2 := b0.frozen 2
        have f3 := b0.frozen 3
        have f4 := b0.frozen 4
        have f5 := b0.frozen 5
        clear c0 c1 c2 c3 c4 c5
        have g0 := b0.cell 0
        have g1 := b0.cell 1
        have g2 := b0.cell 2
        have g3 := b0.cell 3
        have g4 := b0.cell 4
        have g5 := b0.cell 5
        simp only [List.getElem?_cons_zero, List.getElem?_cons_succ] at g0 g1 g2 g3 g4 g5
        have l2 := b0.lt
        have l3 := b1.lt
        have n12 : ¬ (w.heap.size = w2.heap.size) := by omega
        have n21 : ¬ (w2.heap.size = w.heap.size) := by omega
        clear hat how hvo hvn b0 b1 hb2
        generalize hl1 : E.1.t.length = y1 at *
        generalize hl2 : E.1.u.length = y2 at *
        generalize hl3 : E.1.b.length = y3 at *
        generalize hl4 : E.1.d.length = y4 at *
        have HL1 := Go.Lib.hid hl1
        have HL2 := Go.Lib.hid hl2
        have HL3 := Go.Lib.hid hl3
        have HL4 := Go.Lib.hid hl4
        clear hl1 hl2 hl3 hl4
        obtain ⟨W4, hW4⟩ : ∃ W4, W4 = (((((w2.setCell ⟨w.heap.size, 0, none⟩ (.int .i64 cf)).setCell ⟨w.heap.size, 1, none⟩ (.int .i64 X)).setCell ⟨w.heap.size, 2, none⟩ (.slice a5 y1 p5)).setCell ⟨w.heap.size, 3, none⟩ (.slice a6 y2 p6)).setCell ⟨w.heap.size, 4, none⟩ (.slice a7 y3 p7)).setCell ⟨w.heap.size, 5, none⟩ (.slice a8 y4 p8) := ⟨_, rfl⟩
        have F4 : Fr (fun k => k = w.heap.size ∨ k = w.heap.size + 1) w2 W4 := by rw [hW4]; exact (by repeat' (first | refine Fr.setEq ?_ ?_ _ | exact Fr.refl _ _ | exact .inl rfl | exact .inr rfl))
        have s4 : W4.heap.size = w2.heap.size := by rw [hW4]; simp
        have B4 : Below w.heap.size w W4 := by rw [hW4]; repeat' (first | refine below_set ?_ ?_ _ | exact HB2.out | omega)
        have b40 : Blk W4 w.heap.size [.int .i64 cf, .int .i64 X, .slice a5 y1 p5, .slice a6 y2 p6, .slice a7 y3 p7, .slice a8 y4 p8] 73 := by rw [hW4]; exact (((((Jb0.out.set 0 _).set 1 _).set 2 _).set 3 _).set 4 _).set 5 _
        have b41 : Blk W4 (w.heap.size + 1) [.int .i64 0, .int .i64 0, .slice none 0 0, .slice none 0 0, .slice none 0 0, .slice none 0 0] 73 := by
          rw [hW4]
          exact (((((Jb1.out.set_ne (a := ⟨w.heap.size, 0, none⟩) (by show w.heap.size + 1 ≠ w.heap.size; omega) _).set_ne (a := ⟨w.heap.size, 1, none⟩) (by show w.heap.size + 1 ≠ w.heap.size; omega) _).set_ne (a := ⟨w.heap.size, 2, none⟩) (by show w.heap.size + 1 ≠ w.heap.size; omega) _).set_ne (a := ⟨w.heap.size, 3, none⟩) (by show w.heap.size + 1 ≠ w.heap.size; omega) _).set_ne (a := ⟨w.heap.size, 4, none⟩) (by show w.heap.size + 1 ≠ w.heap.size; omega) _).set_ne (a := ⟨w.heap.size, 5, none⟩) (by show w.heap.size + 1 ≠ w.heap.size; omega) _
        obtain ⟨W5, hW5⟩ : ∃ W5, W5 = W4.alloc (.cells #[.int .i64 cf, .int .i64 X, .slice a5 y1 p5, .slice a6 y2 p6, .slice a7 y3 p7, .slice a8 y4 p8] 73) := ⟨_, rfl⟩
        have B45 : Below W4.heap.size W4 W5 := by rw [hW5]; exact (Below.refl _ _).alloc (Nat.le_refl _) _
        have KO5 := Go.Lib.hid ((KO2.out.two Jb0.out Jb1.out (by decide) (by decide) F4).keep B45)
        have KX5 := Go.Lib.hid ((HVO.out.two Jb0.out Jb1.out (by decide) (by decide) F4).keep B45)
        have RA5 := Go.Lib.hid ((HAT2.out.two Jb0.out Jb1.out (by decide) (by decide) F4).keep B45)
        have Jb05 := Go.Lib.hid (b40.keep B45)
        have Jb15 := Go.Lib.hid (b41.keep B45)
        have HB5 := Go.Lib.hid (B4.trans (B45.mono B4.size))
        have HW4 := Go.Lib.hid hW4
        have HW5 := Go.Lib.hid hW5
        have hs5 : w2.heap.size < W5.heap.size := by rw [hW5]; simp; omega
        obtain ⟨ax, px, rfl⟩ := KX5.out.form
        obtain ⟨gx, x', hgx, -, -, hcx, -, hx'⟩ := KX5.out.get (j := 0) (by simp)
        subst hgx
        obtain rfl : x = x' := by simpa using hx'
        have HCX := Go.Lib.hid hcx
        clear F4 B4 b40 b41 B45 hW4 hW5 s4 hcx hx'
        go_wp2_with (at_builtin; rw [← HW4.out, ← HW5.out]; refine wpList_append_row _ rfl (.tmp 46) (.tmp 47) 26 rfl 31 (.int .u64 0) 1 8 Try.underlying26 u64_info rfl (by decide) _ _ _ rfl KO5.out ⟨gx, 0, none⟩ 1 px [.int .u64 x] rfl (by decide) rfl ?c1 ?c2 ?b1 ?b2 ?next)
        case c1 => intro j u hu; match j, hu with | 0, hu => simp at hu; subst hu; exact HCX.out
        case c2 => intro u hu; simp at hu; subst hu; rfl
        case b1 => unfold maxLen; omega
        case b2 => omega
        case next =>
          intro g' cap' w3 hr3 hf3 hg3
          have hs1 : ∀ b, u6.ownBlock = some b → (Value.slice a5 y1 p5).ownBlock ≠ some b ∧ (Value.slice a6 y2 p6).ownBlock ≠ some b ∧ (Value.slice a7 y3 p7).ownBlock ≠ some b ∧ (Value.slice a8 y4 p8).ownBlock ≠ some b := by
            intro b hb
            have hlt := HOK.out b hb
            obtain ⟨_, o1, o2, o3, o4⟩ := OO.out b hb
            refine ⟨fun h => ?_, fun h => ?_, fun h => ?_, fun h => ?_⟩
            · rcases HOW.out.t b h with h | h
              · exact o1 h
              · omega
            · rcases HOW.out.u b h with h | h
              · exact o2 h
              · omega
            · rcases HOW.out.b b h with h | h
              · exact o3 h
              · omega
            · rcases HOW.out.d b h with h | h
              · exact o4 h
              · omega
          have ra := RA5.out
          have k1 : AT w3 (.slice a5 y1 p5) (.slice a6 y2 p6) (.slice a7 y3 p7) (.slice a8 y4 p8) E.1 := ⟨ra.t.frv hf3 (fun b hb => (hs1 b hb).1), ra.u.frv hf3 (fun b hb => (hs1 b hb).2.1), ra.b.frv hf3 (fun b hb => (hs1 b hb).2.2.1), ra.d.frv hf3 (fun b hb => (hs1 b hb).2.2.2)⟩
          have b0 := hf3.blk (fun hb => KL.ne KO5.out Jb05.out (by decide) _ hb rfl) Jb05.out
          have b1 := hf3.blk (fun hb => KL.ne KO5.out Jb15.out (by decide) _ hb rfl) Jb15.out
          have K4 : KL w3 (.slice (some ⟨g', 0, none⟩) (gone.length + 1) cap') (gone ++ [x]) := by
            unfold KL
            rw [List.map_append, List.length_append]
            exact hr3
          have B6 := below_fr HB5.out hf3 (by have := hsz; have := l0; omega) (fun b hb => (OO.out b hb).1)
          have O4 : ∀ b, (Value.slice (some ⟨g', 0, none⟩) (gone.length + 1) cap').ownBlock = some b → w.heap.size ≤ b ∧ (Value.slice a5 y1 p5).ownBlock ≠ some b ∧ (Value.slice a6 y2 p6).ownBlock ≠ some b ∧ (Value.slice a7 y3 p7).ownBlock ≠ some b ∧ (Value.slice a8 y4 p8).ownBlock ≠ some b := by
            intro b hb
            have e : g' = b := by simpa [Value.ownBlock] using hb
            subst e
            rcases hg3 with h | h
            · exact ⟨(OO.out _ h).1, hs1 _ h⟩
            · refine ⟨by omega, fun h' => ?_, fun h' => ?_, fun h' => ?_, fun h' => ?_⟩
              · have := (Row.lt ra.t h').1; omega
              · have := (Row.lt ra.u h').1; omega
              · have := (Row.lt ra.b h').1; omega
              · have := (Row.lt ra.d h').1; omega
          have k1' := Go.Lib.hid k1
          have b0' := Go.Lib.hid b0
          have b1' := Go.Lib.hid b1
          have K4' := Go.Lib.hid K4
          have O4' := Go.Lib.hid O4
          have B6' := Go.Lib.hid B6
          clear hs1 ra k1 b0 b1 K4 O4 B6 hr3 hf3 hg3
          go_wp2_with fail
          go_roundg j
          case rel =>
            have e1 := HL1.out
            have e2 := HL2.out
            have e3 := HL3.out
            have e4 := HL4.out
            subst e1; subst e2; subst e3; subst e4
            exact ⟨E.1, gone ++ [x], (shrA j E.1).2, a5, a6, a7, a8, p5, p6, p7, p8, HLN.out.1, HLN.out.2.1, HLN.out.2.2.1, by have := HGL.out; simp; omega, HLN.out.2.2.2, by rw [← HE1.out], HE2.out, K4'.out, O4'.out, k1'.out, b0'.out, b1'.out, B6'.out⟩
          case measure => omega
      · have HFT : Hid (((n2 : Int) == 0) = F) := Go.Lib.hid (by
          rw [HMA.out, decide_eq_false hq, Bool.false_or]
          by_cases h0 : n2 = 0 <;> simp [h0])
        have HFQ : Hid (decide (n2 = 0) = F) := Go.Lib.hid (by
          rw [HMA.out, decide_eq_false hq, Bool.false_or])
        go_wp2_with fail
        refine (HEV.out _ (by first | exact HFT.out | exact HFQ.out)).mono ?_
        rintro e w2 ⟨x1, x2, x3, x4, vx, rfl, hat, how, hvo, hvn, hb2⟩
        obtain ⟨a5, p5, rfl⟩ := hat.t.form
        obtain ⟨a6, p6, rfl⟩ := hat.u.form
        obtain ⟨a7, p7, rfl⟩ := hat.b.form
        obtain ⟨a8, p8, rfl⟩ := hat.d.form
        have HAT2 := Go.Lib.hid hat
        have HOW := Go.Lib.hid how
        have HVO := Go.Lib.hid hvo
        have HVN := Go.Lib.hid hvn
        have b0 := Hb0.out.keep hb2
        have b1 := Hb1.out.keep hb2
        have HB2 := Go.Lib.hid (HBB.out.trans (hb2.mono HBB.out.size))
        have Jb0 := Go.Lib.hid b0
        have Jb1 := Go.Lib.hid b1
        have KO2 := Go.Lib.hid (KO.out.keep hb2)
        have hsz := hb2.size
        have f0 := b0.frozen 0
        have f1 := b0.frozen 1
        have f2 := b0.frozen 2
        have f3 := b0.frozen 3
        have f4 := b0.frozen 4
        have f5 := b0.frozen 5
        clear c0 c1 c2 c3 c4 c5
        have g0 := b0.cell 0
        have g1 := b0.cell 1
        have g2 := b0.cell 2
        have g3 := b0.cell 3
        have g4 := b0.cell 4
        have g5 := b0.cell 5
        simp only [List.getElem?_cons_zero, List.getElem?_cons_succ] at g0 g1 g2 g3 g4 g5
        have l2 := b0.lt
        have l3 := b1.lt
        have n12 : ¬ (w.heap.size = w2.heap.size) := by omega
        have n21 : ¬ (w2.heap.size = w.heap.size) := by omega
        clear hat how hvo hvn b0 b1 hb2
        generalize hl1 : E.1.t.length = y1 at *
        generalize hl2 : E.1.u.length = y2 at *
        generalize hl3 : E.1.b.length = y3 at *
        generalize hl4 : E.1.d.length = y4 at *
        have HL1 := Go.Lib.hid hl1
        have HL2 := Go.Lib.hid hl2
        have HL3 := Go.Lib.hid hl3
        have HL4 := Go.Lib.hid hl4
        clear hl1 hl2 hl3 hl4
        obtain ⟨W4, hW4⟩ : ∃ W4, W4 = (((((w2.setCell ⟨w.heap.size, 0, none⟩ (.int .i64 cf)).setCell ⟨w.heap.size, 1, none⟩ (.int .i64 X)).setCell ⟨w.heap.size, 2, none⟩ (.slice a5 y1 p5)).setCell ⟨w.heap.size, 3, none⟩ (.slice a6 y2 p6)).setCell ⟨w.heap.size, 4, none⟩ (.slice a7 y3 p7)).setCell ⟨w.heap.size, 5, none⟩ (.slice a8 y4 p8) := ⟨_, rfl⟩
        have F4 : Fr (fun k => k = w.heap.size ∨ k = w.heap.size + 1) w2 W4 := by rw [hW4]; exact (by repeat' (first | refine Fr.setEq ?_ ?_ _ | exact Fr.refl _ _ | exact .inl rfl | exact .inr rfl))
        have s4 : W4.heap.size = w2.heap.size := by rw [hW4]; simp
        have B4 : Below w.heap.size w W4 := by rw [hW4]; repeat' (first | refine below_set ?_ ?_ _ | exact HB2.out | omega)
        have b40 : Blk W4 w.heap.size [.int .i64 cf, .int .i64 X, .slice a5 y1 p5, .slice a6 y2 p6, .slice a7 y3 p7, .slice a8 y4 p8] 73 := by rw [hW4]; exact (((((Jb0.out.set 0 _).set 1 _).set 2 _).set 3 _).set 4 _).set 5 _
        have b41 : Blk W4 (w.heap.size + 1) [.int .i64 0, .int .i64 0, .slice none 0 0, .slice none 0 0, .slice none 0 0, .slice none 0 0] 73 := by
          rw [hW4]
          exact (((((Jb1.out.set_ne (a := ⟨w.heap.size, 0, none⟩) (by show w.heap.size + 1 ≠ w.heap.size; omega) _).set_ne (a := ⟨w.heap.size, 1, none⟩) (by show w.heap.size + 1 ≠ w.heap.size; omega) _).set_ne (a := ⟨w.heap.size, 2, none⟩) (by show w.heap.size + 1 ≠ w.heap.size; omega) _).set_ne (a := ⟨w.heap.size, 3, none⟩) (by show w.heap.size + 1 ≠ w.heap.size; omega) _).set_ne (a := ⟨w.heap.size, 4, none⟩) (by show w.heap.size + 1 ≠ w.heap.size; omega) _).set_ne (a := ⟨w.heap.size, 5, none⟩) (by show w.heap.size + 1 ≠ w.heap.size; omega) _
        obtain ⟨W5, hW5⟩ : ∃ W5, W5 = W4.alloc (.cells #[.int .i64 cf, .int .i64 X, .slice a5 y1 p5, .slice a6 y2 p6, .slice a7 y3 p7, .slice a8 y4 p8] 73) := ⟨_, rfl⟩
        have B45 : Below W4.heap.size W4 W5 := by rw [hW5]; exact (Below.refl _ _).alloc (Nat.le_refl _) _
        have KO5 := Go.Lib.hid ((KO2.out.two Jb0.out Jb1.out (by decide) (by decide) F4).keep B45)
        have KX5 := Go.Lib.hid ((HVO.out.two Jb0.out Jb1.out (by decide) (by decide) F4).keep B45)
        have RA5 := Go.Lib.hid ((HAT2.out.two Jb0.out Jb1.out (by decide) (by decide) F4).keep B45)
        have Jb05 := Go.Lib.hid (b40.keep B45)
        have Jb15 := Go.Lib.hid (b41.keep B45)
        have HB5 := Go.Lib.hid (B4.trans (B45.mono B4.size))
        have HW4 := Go.Lib.hid hW4
        have HW5 := Go.Lib.hid hW5
        have hs5 : w2.heap.size < W5.heap.size := by rw [hW5]; simp; omega
        obtain ⟨ax, px, rfl⟩ := KX5.out.form
        obtain ⟨gx, x', hgx, -, -, hcx, -, hx'⟩ := KX5.out.get (j := 0) (by simp)
        subst hgx
        obtain rfl : x = x' := by simpa using hx'
        have HCX := Go.Lib.hid hcx
        clear F4 B4 b40 b41 B45 hW4 hW5 s4 hcx hx'
        go_wp2_with (at_builtin; rw [← HW4.out, ← HW5.out]; refine wpList_append_row _ rfl (.tmp 46) (.tmp 47) 26 rfl 31 (.int .u64 0) 1 8 Try.underlying26 u64_info rfl (by decide) _ _ _ rfl KO5.out ⟨gx, 0, none⟩ 1 px [.int .u64 x] rfl (by decide) rfl ?c1 ?c2 ?b1 ?b2 ?next)
        case c1 => intro j u hu; match j, hu with | 0, hu => simp at hu; subst hu; exact HCX.out
        case c2 => intro u hu; simp at hu; subst hu; rfl
        case b1 => unfold maxLen; omega
        case b2 => omega
        case next =>
          intro g' cap' w3 hr3 hf3 hg3
          have hs1 : ∀ b, u6.ownBlock = some b → (Value.slice a5 y1 p5).ownBlock ≠ some b ∧ (Value.slice a6 y2 p6).ownBlock ≠ some b ∧ (Value.slice a7 y3 p7).ownBlock ≠ some b ∧ (Value.slice a8 y4 p8).ownBlock ≠ some b := by
            intro b hb
            have hlt := HOK.out b hb
            obtain ⟨_, o1, o2, o3, o4⟩ := OO.out b hb
            refine ⟨fun h => ?_, fun h => ?_, fun h => ?_, fun h => ?_⟩
            · rcases HOW.out.t b h with h | h
              · exact o1 h
              · omega
            · rcases HOW.out.u b h with h | h
              · exact o2 h
              · omega
            · rcases HOW.out.b b h with h | h
              · exact o3 h
              · omega
            · rcases HOW.out.d b h with h | h
              · exact o4 h
              · omega
          have ra := RA5.out
          have k1 : AT w3 (.slice a5 y1 p5) (.slice a6 y2 p6) (.slice a7 y3 p7) (.slice a8 y4 p8) E.1 := ⟨ra.t.frv hf3 (fun b hb => (hs1 b hb).1), ra.u.frv hf3 (fun b hb => (hs1 b hb).2.1), ra.b.frv hf3 (fun b hb => (hs1 b hb).2.2.1), ra.d.frv hf3 (fun b hb => (hs1 b hb).2.2.2)⟩
          have b0 := hf3.blk (fun hb => KL.ne KO5.out Jb05.out (by decide) _ hb rfl) Jb05.out
          have b1 := hf3.blk (fun hb => KL.ne KO5.out Jb15.out (by decide) _ hb rfl) Jb15.out
          have K4 : KL w3 (.slice (some ⟨g', 0, none⟩) (gone.length + 1) cap') (gone ++ [x]) := by
            unfold KL
            rw [List.map_append, List.length_append]
            exact hr3
          have B6 := below_fr HB5.out hf3 (by have := hsz; have := l0; omega) (fun b hb => (OO.out b hb).1)
          have O4 : ∀ b, (Value.slice (some ⟨g', 0, none⟩) (gone.length + 1) cap').ownBlock = some b → w.heap.size ≤ b ∧ (Value.slice a5 y1 p5).ownBlock ≠ some b ∧ (Value.slice a6 y2 p6).ownBlock ≠ some b ∧ (Value.slice a7 y3 p7).ownBlock ≠ some b ∧ (Value.slice a8 y4 p8).ownBlock ≠ some b := by
            intro b hb
            have e : g' = b := by simpa [Value.ownBlock] using hb
            subst e
            rcases hg3 with h | h
            · exact ⟨(OO.out _ h).1, hs1 _ h⟩
            · refine ⟨by omega, fun h' => ?_, fun h' => ?_, fun h' => ?_, fun h' => ?_⟩
              · have := (Row.lt ra.t h').1; omega
              · have := (Row.lt ra.u h').1; omega
              · have := (Row.lt ra.b h').1; omega
              · have := (Row.lt ra.d h').1; omega
          have k1' := Go.Lib.hid k1
          have b0' := Go.Lib.hid b0
          have b1' := Go.Lib.hid b1
          have K4' := Go.Lib.hid K4
          have O4' := Go.Lib.hid O4
          have B6' := Go.Lib.hid B6
          clear hs1 ra k1 b0 b1 K4 O4 B6 hr3 hf3 hg3
          go_wp2_with fail
          go_roundg j
          case rel =>
            have e1 := HL1.out
            have e2 := HL2.out
            have e3 := HL3.out
            have e4 := HL4.out
            subst e1; subst e2; subst e3; subst e4
            exact ⟨E.1, gone ++ [x], (shrA j E.1).2, a5, a6, a7, a8, p5, p6, p7, p8, HLN.out.1, HLN.out.2.1, HLN.out.2.2.1, by have := HGL.out; simp; omega, HLN.out.2.2.2, by rw [← HE1.out], HE2.out, K4'.out, O4'.out, k1'.out, b0'.out, b1'.out, B6'.out⟩
          case measure => omega
    · have hse := shrA_end' gk s1 (by omega)
      rw [hse] at hsh
      injection hsh with e1 e2
      have HG2 : Hid (gone = R.2) := Go.Lib.hid (by rw [← e2, List.append_nil] at hgo; exact hgo)
      obtain ⟨c', p', t, u, b, d⟩ := s1
      simp only at hsc hsp hg htt hat b0 hat c2 c3 c4 c5 HAT Hb0 KO
      have hsc := hsc.symm
      have hsp := hsp.symm
      subst hsc
      subst hsp
      rw [← HG2.out] at HT
      have hcap3 := hat.b.cap
      have hcap4 := hat.d.cap
      obtain ⟨N2, hN2⟩ : ∃ N2 : Nat, N2 = (cf - (t.length : Int)).toNat := ⟨_, rfl⟩
      have hN3 : (N2 : Int) = cf - t.length := by omega
      obtain ⟨J, hJ⟩ : ∃ J : Nat, J = (cf - ((b.take N2).length : Int)).toNat := ⟨_, rfl⟩
      have hbl : (b.take N2).length ≤ N2 := by rw [List.length_take]; omega
      have hbl2 : (b.take N2).length ≤ b.length := by rw [List.length_take]; omega
      have hJ3 : (J : Int) = cf - (b.take N2).length := by omega
      have hfin : cutE (cutD (cutB R.1)) = ⟨cf, X, t, u, b.take N2, d.take J⟩ := by
        rw [← e1]
        simp only [cutB, cutD, cutE]
        rw [← hN2, ← hJ]
        rw [List.take_of_length_le (l := b.take N2)]
        have : (d.take J).length ≤ J := by rw [List.length_take]; omega
        omega
      rw [hfin] at HT
      have hl1 : t.length < 50000 := by omega
      have hl2 : u.length < 50000 := by omega
      have hl3 : b.length < 50000 := by omega
      have hl4 : d.length < 50000 := by omega
      have hle1 : ¬ cf < (t.length : Int) + u.length := by omega
      have htc : (t.length : Int) ≤ cf := by omega
      have HBL := Go.Lib.hid (⟨hN3, hJ3, hbl, hbl2⟩ : (N2 : Int) = cf - t.length ∧ (J : Int) = cf - (b.take N2).length ∧ (b.take N2).length ≤ N2 ∧ (b.take N2).length ≤ b.length)
      clear hgo hg hgl htt hko hoo hat b0 b1 hbb e1 e2 hse hfin hN2 hN3 hJ hJ3 hbl hbl2 HSC HG HGL HTT HGO OO d0 d1 d2 d3 d4 d5 f0 f1 f2 f3 f4 f5
      go_wp2_with fail
      clear hlt c0 c1 c2 c3 c4 c5
      go_loopg [] b.length (fun g wr => g ≤ b.length ∧ (N2 ≤ g ∨ g = b.length) ∧ KL wr u6 gone ∧ AT wr (.slice a1 t.length q1) (.slice a2 u.length q2) (.slice a3 g q3) (.slice a4 d.length q4) ⟨cf, X, t, u, b.take g, d⟩ ∧ Blk wr w.heap.size [.int .i64 cf, .int .i64 X, .slice a1 t.length q1, .slice a2 u.length q2, .slice a3 g q3, .slice a4 d.length q4] 73 ∧ Blk wr (w.heap.size + 1) [.int .i64 0, .int .i64 0, .slice none 0 0, .slice none 0 0, .slice none 0 0, .slice none 0 0] 73 ∧ Below w.heap.size w wr)
      case atStart => exact ⟨Nat.le_refl _, .inr rfl, KO.out, ⟨HAT.out.t, HAT.out.u, by rw [List.take_length]; exact HAT.out.b, HAT.out.d⟩, Hb0.out, Hb1.out, HBB.out⟩
      case round =>
        clear HAT Hb0 Hb1 HBB KO l0 l1'
        obtain ⟨hg, hng, hko, hat, b0, b1, hbb⟩ := hrel
        have c0 := b0.cell 0
        have c1 := b0.cell 1
        have c2 := b0.cell 2
        have c3 := b0.cell 3
        have c4 := b0.cell 4
        have c5 := b0.cell 5
        simp only [List.getElem?_cons_zero, List.getElem?_cons_succ] at c0 c1 c2 c3 c4 c5
        have fz := b0.frozen 4
        have l0 := b0.lt
        have l1' := b1.lt
        have KO := Go.Lib.hid hko
        have HAT := Go.Lib.hid hat
        have Hb0 := Go.Lib.hid b0
        have Hb1 := Go.Lib.hid b1
        have HBB := Go.Lib.hid hbb
        have HNG := Go.Lib.hid hng
        have hgk2 : gk < 50000 := by omega
        by_cases hlt : cf < (t.length : Int) + gk
        · obtain ⟨j, rfl⟩ : ∃ j, gk = j + 1 := ⟨gk - 1, by have := HBL.out.1; omega⟩
          obtain ⟨Y, hY, y0, y1, yk, yb, ys⟩ := st_set b0 b1 (by decide) 4 (.slice a3 j q3)
          have HY := Go.Lib.hid hY
          have Hy0 : Hid (Blk Y w.heap.size [.int .i64 cf, .int .i64 X, .slice a1 t.length q1, .slice a2 u.length q2, .slice a3 j q3, .slice a4 d.length q4] 73) := y0
          have Hy1 := Go.Lib.hid y1
          have hbt : KL wr (.slice a3 j q3) (b.take j) := by
            have r := hat.b.take (m := j) (by rw [List.length_take]; omega)
            rwa [List.take_take, Nat.min_eq_left (by omega)] at r
          have HYA : Hid (AT Y (.slice a1 t.length q1) (.slice a2 u.length q2) (.slice a3 j q3) (.slice a4 d.length q4) ⟨cf, X, t, u, b.take j, d⟩) := Go.Lib.hid ⟨yk _ _ hat.t, yk _ _ hat.u, yk _ _ hbt, yk _ _ hat.d⟩
          have HYK := Go.Lib.hid (yk _ _ hko)
          have HYB := Go.Lib.hid (yb _ _ (Nat.le_refl _) hbb)
          have HJN : Hid (N2 ≤ j) := Go.Lib.hid (by have := HBL.out.1; omega)
          have hjq : j + 1 ≤ q3 := by omega
          clear hY y0 y1 yk yb ys b0 b1 hbb hko hat hng hbt
          go_wp2_with fail
          rw [← HY.out]
          go_roundg j
          case rel => exact ⟨by omega, .inl HJN.out, HYK.out, HYA.out, Hy0.out, Hy1.out, HYB.out⟩
          case measure => omega
        · have htk : b.take gk = b.take N2 := by
            rcases hng with h | h
            · have := HBL.out.1
              have e : gk = N2 := by omega
              rw [e]
            · have := HBL.out.1
              rw [h, List.take_length, List.take_of_length_le (by omega)]
          have hgl : gk = (b.take N2).length := by rw [← htk, List.length_take]; omega
          rw [htk] at hat
          have HAT' := Go.Lib.hid hat
          have Hb0' := Go.Lib.hid b0
          have hgc : (gk : Int) ≤ cf := by have := HBL.out; omega
          have HGL := Go.Lib.hid hgl
          clear HAT Hb0 htk hng hat b0 b1 hbb hko HNG
          obtain ⟨Bl, hBl⟩ : ∃ Bl, Bl = b.take N2 := ⟨_, rfl⟩
          rw [← hBl] at HAT' HBL HT HGL
          clear hgl
          obtain ⟨nb, hnb⟩ : ∃ nb, nb = gk := ⟨_, rfl⟩
          subst hnb
          go_wp2_with fail
          clear hlt c0 c1 c2 c3 c4 c5 fz
          go_loopg [] d.length (fun g wr => g ≤ d.length ∧ (J ≤ g ∨ g = d.length) ∧ KL wr u6 gone ∧ AT wr (.slice a1 t.length q1) (.slice a2 u.length q2) (.slice a3 nb q3) (.slice a4 g q4) ⟨cf, X, t, u, Bl, d.take g⟩ ∧ Blk wr w.heap.size [.int .i64 cf, .int .i64 X, .slice a1 t.length q1, .slice a2 u.length q2, .slice a3 nb q3, .slice a4 g q4] 73 ∧ Blk wr (w.heap.size + 1) [.int .i64 0, .int .i64 0, .slice none 0 0, .slice none 0 0, .slice none 0 0, .slice none 0 0] 73 ∧ Below w.heap.size w wr)
          case atStart => exact ⟨Nat.le_refl _, .inr rfl, KO.out, ⟨HAT'.out.t, HAT'.out.u, HAT'.out.b, by rw [List.take_length]; exact HAT'.out.d⟩, Hb0'.out, Hb1.out, HBB.out⟩
          case round =>
            clear HAT' Hb0' Hb1 HBB KO l0 l1'
            obtain ⟨hg, hng, hko, hat, b0, b1, hbb⟩ := hrel
            have c0 := b0.cell 0
            have c1 := b0.cell 1
            have c2 := b0.cell 2
            have c3 := b0.cell 3
            have c4 := b0.cell 4
            have c5 := b0.cell 5
            simp only [List.getElem?_cons_zero, List.getElem?_cons_succ] at c0 c1 c2 c3 c4 c5
            have fz := b0.frozen 5
            have l0 := b0.lt
            have l1' := b1.lt
            have KO := Go.Lib.hid hko
            have HAT := Go.Lib.hid hat
            have Hb0 := Go.Lib.hid b0
            have Hb1 := Go.Lib.hid b1
            have HBB := Go.Lib.hid hbb
            have HNG := Go.Lib.hid hng
            have hgk3 : gk < 50000 := by omega
            by_cases hlt : cf < (nb : Int) + gk
            · obtain ⟨j, rfl⟩ : ∃ j, gk = j + 1 := ⟨gk - 1, by omega⟩
              obtain ⟨Y, hY, y0, y1, yk, yb, ys⟩ := st_set b0 b1 (by decide) 5 (.slice a4 j q4)
              have HY := Go.Lib.hid hY
              have Hy0 : Hid (Blk Y w.heap.size [.int .i64 cf, .int .i64 X, .slice a1 t.length q1, .slice a2 u.length q2, .slice a3 nb q3, .slice a4 j q4] 73) := y0
              have Hy1 := Go.Lib.hid y1
              have hbt : KL wr (.slice a4 j q4) (d.take j) := by
                have r := hat.d.take (m := j) (by rw [List.length_take]; omega)
                rwa [List.take_take, Nat.min_eq_left (by omega)] at r
              have HYA : Hid (AT Y (.slice a1 t.length q1) (.slice a2 u.length q2) (.slice a3 nb q3) (.slice a4 j q4) ⟨cf, X, t, u, Bl, d.take j⟩) := Go.Lib.hid ⟨yk _ _ hat.t, yk _ _ hat.u, yk _ _ hat.b, yk _ _ hbt⟩
              have HYK := Go.Lib.hid (yk _ _ hko)
              have HYB := Go.Lib.hid (yb _ _ (Nat.le_refl _) hbb)
              have HJN : Hid (J ≤ j) := Go.Lib.hid (by have := HBL.out.2.1; have := HGL.out; omega)
              have hjq : j + 1 ≤ q4 := by omega
              clear hY y0 y1 yk yb ys b0 b1 hbb hko hat hng hbt
              go_wp2_with fail
              rw [← HY.out]
              go_roundg j
              case rel => exact ⟨by omega, .inl HJN.out, HYK.out, HYA.out, Hy0.out, Hy1.out, HYB.out⟩
              case measure => omega
            · have htk : d.take gk = d.take J := by
                rcases hng with h | h
                · have := HBL.out.2.1; have := HGL.out
                  have e : gk = J := by omega
                  rw [e]
                · have := HBL.out.2.1; have := HGL.out
                  rw [h, List.take_length, List.take_of_length_le (by omega)]
              have hgl : gk = (d.take J).length := by rw [← htk, List.length_take]; omega
              rw [htk] at hat
              have HAT' := Go.Lib.hid hat
              have Hb0' := Go.Lib.hid b0
              have HGL3 := Go.Lib.hid hgl
              clear HAT Hb0 htk hng hat b0 b1 hbb hko HNG hgl
              obtain ⟨nd, hnd⟩ : ∃ nd, nd = gk := ⟨_, rfl⟩
              subst hnd
              go_wp2_with fail
              clear c0 c1 c2 c3 c4 c5 fz
              obtain ⟨D, hD⟩ : ∃ D, D = d.take J := ⟨_, rfl⟩
              rw [← hD] at HAT' HT
              go_loopg [] 0 (fun g wr => KL wr u6 gone ∧ AT wr (.slice a1 t.length q1) (.slice a2 u.length q2) (.slice a3 nb q3) (.slice a4 nd q4) ⟨cf, X, t, u, Bl, D⟩ ∧ Blk wr w.heap.size [.int .i64 cf, .int .i64 X, .slice a1 t.length q1, .slice a2 u.length q2, .slice a3 nb q3, .slice a4 nd q4] 73 ∧ Blk wr (w.heap.size + 1) [.int .i64 0, .int .i64 0, .slice none 0 0, .slice none 0 0, .slice none 0 0, .slice none 0 0] 73 ∧ Below w.heap.size w wr)
              case atStart => exact ⟨KO.out, HAT'.out, Hb0'.out, Hb1.out, HBB.out⟩
              case round =>
                clear HAT' Hb0' Hb1 HBB KO l0 l1'
                obtain ⟨hko, hat, b0, b1, hbb⟩ := hrel
                have c0 := b0.cell 0
                have c1 := b0.cell 1
                have c2 := b0.cell 2
                have c3 := b0.cell 3
                have c4 := b0.cell 4
                have c5 := b0.cell 5
                simp only [List.getElem?_cons_zero, List.getElem?_cons_succ] at c0 c1 c2 c3 c4 c5
                have e0 := b1.cell 0
                have e1 := b1.cell 1
                have e2 := b1.cell 2
                have e3 := b1.cell 3
                have e4 := b1.cell 4
                have e5 := b1.cell 5
                simp only [List.getElem?_cons_zero, List.getElem?_cons_succ] at e0 e1 e2 e3 e4 e5
                have f0 := b1.frozen 0
                have f1 := b1.frozen 1
                have f2 := b1.frozen 2
                have f3 := b1.frozen 3
                have f4 := b1.frozen 4
                have f5 := b1.frozen 5
                have l0 := b0.lt
                have l1' := b1.lt
                have KO := Go.Lib.hid hko
                have HAT := Go.Lib.hid hat
                have Hb0 := Go.Lib.hid b0
                have Hb1 := Go.Lib.hid b1
                have HBB := Go.Lib.hid hbb
                obtain ⟨ao, po, rfl⟩ := hko.form
                generalize hlo : gone.length = lo at *
                clear hko hat b0 b1 hbb hlo
                generalize t.length = l1 at *
                generalize u.length = l2 at *
                go_wp2_with fail
                refine bodyPost_ret (v := .tuple #[.agg #[.int .i64 cf, .int .i64 X, .slice a1 l1 q1, .slice a2 l2 q2, .slice a3 nb q3, .slice a4 nd q4], .slice ao lo po]) (by simp [results, Try.results135, go_sem, c0, c1, c2, c3, c4, c5, e0, e1, e2, e3, e4, e5]) rfl ⟨_, _, _, _, _, by rw [HT.out], by rw [HT.out]; exact HAT.out.two Hb0.out Hb1.out (by decide) (by decide) (by repeat' (first | refine Fr.setEq ?_ ?_ _ | exact Fr.refl _ _ | exact .inl rfl | exact .inr rfl)), by rw [HT.out]; exact KO.out.two Hb0.out Hb1.out (by decide) (by decide) (by repeat' (first | refine Fr.setEq ?_ ?_ _ | exact Fr.refl _ _ | exact .inl rfl | exact .inr rfl)), ?_⟩
                repeat' (first | refine below_set ?_ ?_ _ | exact HBB.out | omega)
theorem a11resize_any (s : AS) (n : Int) (v1 v2 v3 v4 : Value) (w : World) (hp : 0 ≤ s.p ∧ s.p ≤ 1048576) (htot : s.t.length + s.u.length + s.b.length + s.d.length < 50000) (h : AT w v1 v2 v3 v4 s) :
    Calls Try.prog 135 #[.agg #[.int .i64 s.c, .int .i64 s.p, v1, v2, v3, v4], .int .i64 n] w fun e w' => ∃ x1 x2 x3 x4 vo, e = .returned (.tuple #[.agg #[.int .i64 (resizeA s n).1.c, .int .i64 (resizeA s n).1.p, x1, x2, x3, x4], vo]) ∧ AT w' x1 x2 x3 x4 (resizeA s n).1 ∧ KL w' vo (resizeA s n).2 ∧ Below w.heap.size w w' := by
  by_cases hm : capF n < s.p
  · exact a11resize_lo s n v1 v2 v3 v4 w hp htot hm h
  · exact a11resize_hi s n v1 v2 v3 v4 w hp htot hm h
end Go.Proofs.Ytlakojncjldpbaa
