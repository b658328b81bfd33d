/- The reference of the adaptive cache: known. -/
import Derived.Test.YtlakojncjldpbaaRef11d
namespace Go.Proofs.Ytlakojncjldpbaa
open Go.RowKit Hop
set_option linter.unusedVariables false
set_option linter.unusedSimpArgs false
set_option maxRecDepth 100000
theorem replA_cp (s : AS) (again : Bool) : (replA s again).1.c = s.c ∧ (replA s again).1.p = s.p := by
  unfold replA evictA
  split
  · exact ⟨rfl, rfl⟩
  · split <;> exact ⟨rfl, rfl⟩
set_option maxHeartbeats 12800000 in
theorem a11known_true (s : AS) (k : Int) (v1 v2 v3 v4 : Value) (w : World) (hc : 1 ≤ s.c ∧ s.c ≤ 1048576) (hp : 0 ≤ s.p ∧ s.p ≤ s.c) (hk : k ∈ s.d) (hl : s.t.length < 50000 ∧ s.u.length < 50000 ∧ s.b.length < 50000 ∧ s.d.length < 50000) (h : AT w v1 v2 v3 v4 s) :
    Calls Try.prog 187 #[.agg #[.int .i64 s.c, .int .i64 s.p, v1, v2, v3, v4], .int .u64 k, .bool true] w fun e w' => ∃ x1 x2 x3 x4 vo, e = .returned (.tuple #[.agg #[.int .i64 (knownA s k true).1.c, .int .i64 (knownA s k true).1.p, x1, x2, x3, x4], vo]) ∧ AT w' x1 x2 x3 x4 (knownA s k true).1 ∧ KL w' vo (knownA s k true).2 ∧ Below w.heap.size w w' := by
  obtain ⟨hc1, hc2⟩ := hc
  obtain ⟨hp1, hp2⟩ := hp
  obtain ⟨hl1, hl2, hl3, hl4⟩ := hl
  obtain ⟨a1, p1, rfl⟩ := h.t.form
  obtain ⟨a2, p2, rfl⟩ := h.u.form
  obtain ⟨a3, p3, rfl⟩ := h.b.form
  obtain ⟨a4, p4, rfl⟩ := h.d.form
  obtain ⟨ks, hks⟩ : ∃ ks, ks = knownS s k true := ⟨_, rfl⟩
  have HKN : Hid (knownA s k true = (⟨(replA ks true).1.c, (replA ks true).1.p, (replA ks true).1.t, k :: wo (replA ks true).1.u k, (replA ks true).1.b, (replA ks true).1.d⟩, (replA ks true).2)) := Go.Lib.hid (by rw [hks]; rfl)
  have hpos : 0 < s.d.length := List.length_pos_iff.2 (by rintro h; rw [h] at hk; cases hk)
  have hwl := wo_len s.d k
  have hf : ks.c = s.c ∧ ks.t = s.t ∧ ks.u = s.u ∧ ks.b = s.b ∧ ks.d = wo s.d k := by rw [hks]; exact ⟨rfl, rfl, rfl, rfl, rfl⟩
  have hkp : ks.p = max (s.p - max ((s.b.length : Int) / s.d.length) 1) 0 := by rw [hks]; rfl
  obtain ⟨hf1, hf2, hf3, hf4, hf5⟩ := hf
  have HREP := Go.Lib.hid (fun v1 v2 v3 v4 w h => a11repl_any ks true v1 v2 v3 v4 w ⟨by omega, by omega⟩ (by rw [hf2, hf3, hf4, hf5]; exact ⟨by omega, by omega, by omega, by omega⟩) h)
  have HWO := Go.Lib.hid (fun w h => without_any (.slice a4 s.d.length p4) s.d k w (by omega) h)
  have HRU : Hid ((replA ks true).1.u.length < 50000) := Go.Lib.hid (by
    unfold replA
    split
    · simp only; rw [hf3]; omega
    · rename_i hh
      rcases evictA_cases ks (firstA ks true) (evok_first (by omega) hh) with ⟨e1, A, x, e2, e3⟩ | ⟨e1, A, x, e2, e3⟩
      · rw [e3]; simp only; rw [hf3]; omega
      · rw [e3]
        have := congrArg List.length e2
        rw [hf3] at this
        simp at this ⊢
        omega)
  obtain ⟨W, hW, b0, b1, B0⟩ := two_blocks w [.int .i64 s.c, .int .i64 s.p, .slice a1 s.t.length p1, .slice a2 s.u.length p2, .slice a3 s.b.length p3, .slice a4 s.d.length p4] [.int .i64 0, .int .i64 0, .slice none 0 0, .slice none 0 0, .slice none 0 0, .slice none 0 0] 73
  obtain ⟨h1, h2, h3, h4⟩ := h
  have K1 : Hid (KL W _ ks.t) := Go.Lib.hid (by rw [hf2]; exact h1.keep B0)
  have K2 : Hid (KL W _ ks.u) := Go.Lib.hid (by rw [hf3]; exact h2.keep B0)
  have K3 := Go.Lib.hid (h3.keep B0)
  have K4 := Go.Lib.hid (h4.keep B0)
  have HB0 := Go.Lib.hid B0
  have HW := Go.Lib.hid hW
  have Hb0 := Go.Lib.hid b0
  have Hb1 := Go.Lib.hid b1
  have c0 := b0.cell 0
  have c1 := b0.cell 1
  have c2 := b0.cell 2
  have c3 := b0.cell 3
  have c4 := b0.cell 4
  have c5 := b0.cell 5
  simp only [List.getElem?_cons_zero, List.getElem?_cons_succ] at c0 c1 c2 c3 c4 c5
  have fz := b0.frozen 1
  have q0 := b0.lt
  have q1 := b1.lt
  have HF4 := Go.Lib.hid hf4
  have HF5 : Hid (wo s.d k = ks.d) := Go.Lib.hid hf5.symm
  obtain ⟨c, hcc⟩ : ∃ c, c = s.c := ⟨_, rfl⟩
  obtain ⟨q, hqq⟩ : ∃ q, q = s.p := ⟨_, rfl⟩
  rw [← hcc] at hf1 hc1 hc2 hp2 Hb0 HW c0 ⊢
  rw [← hqq] at hkp hp1 hp2 Hb0 HW c1 ⊢
  generalize s.t.length = l1 at *
  generalize s.u.length = l2 at *
  generalize hn3 : s.b.length = l3 at *
  generalize hn4 : s.d.length = l4 at *
  have hD0 : 0 ≤ (l3 : Int) / l4 := Int.ediv_nonneg (by omega) (by omega)
  have hD1 : (l3 : Int) / l4 ≤ 50000 := by
    have := Int.ediv_le_self (a := (l3 : Int)) (l4 : Int) (by omega)
    omega
  obtain ⟨P, hP⟩ : ∃ P : Int, P = q - max ((l3 : Int) / l4) 1 := ⟨_, rfl⟩
  have HPW : Hid (wrap64 (q - (if wrap64 ((l3 : Int) / l4) < 1 then 1 else wrap64 ((l3 : Int) / l4))) = P) := Go.Lib.hid (by
    generalize (l3 : Int) / l4 = D at *
    rw [IntWalk.wrap64_in D ⟨by omega, by omega⟩]
    by_cases h : D < 1
    · rw [if_pos h, IntWalk.wrap64_in (q - 1) ⟨by omega, by omega⟩]; omega
    · rw [if_neg h, IntWalk.wrap64_in (q - D) ⟨by omega, by omega⟩]; omega)
  have HKP : Hid (ks.p = if P < 0 then 0 else P) := Go.Lib.hid (by rw [hkp]; split <;> omega)
  have hP1 : P ≤ 200000000 := by omega
  have hP2 : -200000000 ≤ P := by omega
  have hcp : (knownA s k true).1.c = c ∧ (knownA s k true).1.p = ks.p := by
    obtain ⟨r1, r2⟩ := replA_cp ks true
    rw [HKN.out]
    exact ⟨r1.trans hf1, r2⟩
  rw [hcp.1, hcp.2]
  rw [hf1] at HREP
  generalize replA ks true = R at *
  clear hcp
  clear hP hkp hD0 hD1 hf1 hf2 hf3 hf4 hf5 hks hn3 hn4 hwl hW B0 h1 h2 h3 h4 b0 b1 hcc hqq hk
  go_enter Try.func187, Try.ntmps187
  go_wp2_with fail
  rw [← HW.out]
  go_region
  rw [HPW.out]
  generalize (if wrap64 ((l3 : Int) / l4) < 1 then (1 : Int) else wrap64 ((l3 : Int) / l4)) = M
  generalize wrap64 ((l3 : Int) / l4) = N
  obtain ⟨U0, hU0, u0, u1, uk, ub, us⟩ := st_set Hb0.out Hb1.out (by decide) 1 (.int .i64 P)
  rw [← hU0]
  have BD : Below U0.heap.size U0 U0.drew := (Below.refl _ _).drew
  obtain ⟨U, hU⟩ : ∃ U, U = U0.drew := ⟨_, rfl⟩
  rw [← hU] at BD ⊢
  have V0 : Blk U w.heap.size [.int .i64 c, .int .i64 P, .slice a1 l1 p1, .slice a2 l2 p2, .slice a3 l3 p3, .slice a4 l4 p4] 73 := u0.keep BD
  have V1 := u1.keep BD
  have L1 := Go.Lib.hid ((uk _ _ K1.out).keep BD)
  have L2 := Go.Lib.hid ((uk _ _ K2.out).keep BD)
  have L3 := Go.Lib.hid ((uk _ _ K3.out).keep BD)
  have L4 := Go.Lib.hid ((uk _ _ K4.out).keep BD)
  have bU := ub _ _ (Nat.le_refl _) HB0.out
  have HBU := Go.Lib.hid (bU.trans (BD.mono bU.size))
  have HV0 := Go.Lib.hid V0
  have HV1 := Go.Lib.hid V1
  clear c0 c1 c2 c3 c4 c5 fz q0 q1
  have c0 := V0.cell 0
  have c1 := V0.cell 1
  have c2 := V0.cell 2
  have c3 := V0.cell 3
  have c4 := V0.cell 4
  have c5 := V0.cell 5
  simp only [List.getElem?_cons_zero, List.getElem?_cons_succ] at c0 c1 c2 c3 c4 c5
  have fz := V0.frozen 1
  have q0 := V0.lt
  have q1 := V1.lt
  clear hU hU0 u0 u1 uk ub us BD V0 V1 bU HPW hpos HW K1 K2 K3 K4 Hb0 Hb1
  by_cases hn : P < 0
  · obtain ⟨V, hV, v0, v1, vk, vb, vs⟩ := st_set HV0.out HV1.out (by decide) 1 (.int .i64 0)
    have HVV := Go.Lib.hid hV
    have Hv0 : Hid (Blk V w.heap.size [.int .i64 c, .int .i64 ks.p, .slice a1 l1 p1, .slice a2 l2 p2, .slice a3 l3 p3, .slice a4 l4 p4] 73) := Go.Lib.hid (by rw [HKP.out, if_pos hn]; exact v0)
    have Hv1 := Go.Lib.hid v1
    have M1 := Go.Lib.hid (vk _ _ L1.out)
    have M2 := Go.Lib.hid (vk _ _ L2.out)
    have M3 := Go.Lib.hid (vk _ _ L3.out)
    have M4 := Go.Lib.hid (vk _ _ L4.out)
    have HBV := Go.Lib.hid (vb _ _ (Nat.le_refl _) HBU.out)
    clear hV v0 v1 vk vb vs
    go_wp2_with fail
    rw [← HVV.out]
    clear hn c0 c1 c2 c3 c4 c5 fz q0 q1
    refine (HWO.out V M4.out).mono ?_
    rintro e w2 ⟨v, rfl, hk2, ho2, hb2⟩
    obtain ⟨e4, r4, rfl⟩ := hk2.form
    rw [HF5.out] at hk2 ⊢
    generalize hl : ks.d.length = m4 at *
    have b0 := Hv0.out.keep hb2
    have b1 := Hv1.out.keep hb2
    have fz := b0.frozen 5
    have c0 := b0.cell 0
    have c1 := b0.cell 1
    have c2 := b0.cell 2
    have c3 := b0.cell 3
    have c4 := b0.cell 4
    have c5 := b0.cell 5
    simp only [List.getElem?_cons_zero, List.getElem?_cons_succ] at c0 c1 c2 c3 c4 c5
    have q0 := b0.lt
    have q1 := b1.lt
    obtain ⟨X, hX, u0, u1, uk, ub, us⟩ := st_set b0 b1 (by decide) 5 (.slice e4 m4 r4)
    have HX := Go.Lib.hid hX
    have Hu0 : Hid (Blk X w.heap.size [.int .i64 c, .int .i64 ks.p, .slice a1 l1 p1, .slice a2 l2 p2, .slice a3 l3 p3, .slice e4 m4 r4] 73) := u0
    have Hu1 := Go.Lib.hid u1
    have g0 := u0.cell 0
    have HXT : Hid (AT X (.slice a1 l1 p1) (.slice a2 l2 p2) (.slice a3 l3 p3) (.slice e4 m4 r4) ks) := Go.Lib.hid ⟨uk _ _ (M1.out.keep hb2), uk _ _ (M2.out.keep hb2), by rw [HF4.out]; exact uk _ _ (M3.out.keep hb2), uk _ _ hk2⟩
    have HRX := Go.Lib.hid (HREP.out _ _ _ _ X HXT.out)
    have HBX := Go.Lib.hid (ub _ _ (Nat.le_refl _) (HBV.out.trans (hb2.mono HBV.out.size)))
    clear b0 b1 hk2 ho2 hb2 hX u0 u1 uk ub us hl g0
    go_wp2_with fail
    rw [← HX.out]
    refine HRX.out.mono ?_
    clear c0 c1 c2 c3 c4 c5 fz q0 q1
    rintro e w3 ⟨x1, x2, x3, x4, vo, rfl, hat, hvo, hb3⟩
    obtain ⟨b1', r1', rfl⟩ := hat.t.form
    obtain ⟨b2', r2', rfl⟩ := hat.u.form
    obtain ⟨b3', r3', rfl⟩ := hat.b.form
    obtain ⟨b4', r4', rfl⟩ := hat.d.form
    obtain ⟨bo', ro', rfl⟩ := hvo.form
    have b1 := Hu1.out.keep hb3
    have lb1 := b1.lt
    have n12 : ¬ (w.heap.size + 1 = w3.heap.size) := by omega
    have n21 : ¬ (w3.heap.size = w.heap.size + 1) := by omega
    have AL := (Below.refl w3.heap.size w3).alloc (Nat.le_refl _) (.cells #[.int .i64 c, .int .i64 ks.p, .slice b1' R.1.t.length r1', .slice b2' R.1.u.length r2', .slice b3' R.1.b.length r3', .slice b4' R.1.d.length r4'] 73)
    have Hb2 : Hid (Blk (w3.alloc (.cells #[.int .i64 c, .int .i64 ks.p, .slice b1' R.1.t.length r1', .slice b2' R.1.u.length r2', .slice b3' R.1.b.length r3', .slice b4' R.1.d.length r4'] 73)) w3.heap.size [.int .i64 c, .int .i64 ks.p, .slice b1' R.1.t.length r1', .slice b2' R.1.u.length r2', .slice b3' R.1.b.length r3', .slice b4' R.1.d.length r4'] 73) := Go.Lib.hid (Blk.new0 w3 [.int .i64 c, .int .i64 ks.p, .slice b1' R.1.t.length r1', .slice b2' R.1.u.length r2', .slice b3' R.1.b.length r3', .slice b4' R.1.d.length r4'] 73)
    have Hb12 := Go.Lib.hid (b1.keep AL)
    have HRT := Go.Lib.hid (hat.keep AL)
    have HRO := Go.Lib.hid (hvo.keep AL)
    have HFT := Go.Lib.hid (front_any _ R.1.u k _ HRU.out HRT.out.u)
    have B3 := HBX.out.trans (hb3.mono HBX.out.size)
    have HB4 := Go.Lib.hid (B3.trans (AL.mono B3.size))
    have sz3 := B3.size
    clear AL B3
    clear b1 hb3 hat hvo
    generalize hg1 : R.1.t.length = y1 at *
    generalize hg2 : R.1.u.length = y2 at *
    generalize hg3 : R.1.b.length = y3 at *
    generalize hg4 : R.1.d.length = y4 at *
    generalize hg5 : R.2.length = y5 at *
    clear hg1 hg2 hg3 hg4 hg5
    go_wp2_with fail
    refine HFT.out.mono ?_
    rintro e w4 ⟨v5, rfl, hk5, ho5, hb5⟩
    obtain ⟨b5', r5', rfl⟩ := hk5.form
    generalize hl7 : (k :: wo R.1.u k).length = y7 at *
    have b2 := Hb2.out.keep hb5
    have b1 := Hb12.out.keep hb5
    have g0 := b2.cell 0
    have g1 := b2.cell 1
    have g2 := b2.cell 2
    have g3 := b2.cell 3
    have g4 := b2.cell 4
    have g5 := b2.cell 5
    simp only [List.getElem?_cons_zero, List.getElem?_cons_succ] at g0 g1 g2 g3 g4 g5
    have f := b2.frozen 3
    have d0 := b1.cell 0
    have d1 := b1.cell 1
    have d2 := b1.cell 2
    have d3 := b1.cell 3
    have d4 := b1.cell 4
    have d5 := b1.cell 5
    simp only [List.getElem?_cons_zero, List.getElem?_cons_succ] at d0 d1 d2 d3 d4 d5
    have f0 := b1.frozen 0
    have f1 := b1.frozen 1
    have f2 := b1.frozen 2
    have f3 := b1.frozen 3
    have f4 := b1.frozen 4
    have f5 := b1.frozen 5
    have l2' := b2.lt
    have l3' := b1.lt
    have JA := Go.Lib.hid (HRT.out.keep hb5)
    have J5 := Go.Lib.hid hk5
    have JO := Go.Lib.hid (HRO.out.keep hb5)
    have Jb2 := Go.Lib.hid b2
    have Jb1 := Go.Lib.hid b1
    have HB5 := Go.Lib.hid (HB4.out.trans (hb5.mono HB4.out.size))
    clear b2 b1 hk5 ho5 hb5 hl7
    go_wp2_with fail
    refine bodyPost_ret (v := .tuple #[.agg #[.int .i64 c, .int .i64 ks.p, .slice b1' y1 r1', .slice b5' y7 r5', .slice b3' y3 r3', .slice b4' y4 r4'], .slice bo' y5 ro']) (by simp [results, Try.results187, go_sem, g0, g1, g2, g3, g4, g5, d0, d1, d2, d3, d4, d5, n12, n21]) rfl ⟨_, _, _, _, _, rfl, ?_, ?_, ?_⟩
    · rw [HKN.out]; exact ⟨JA.out.t.two Jb2.out Jb1.out (by decide) (by decide) (by repeat' (first | refine Fr.setEq ?_ ?_ _ | exact Fr.refl _ _ | exact .inl rfl | exact .inr rfl)), J5.out.two Jb2.out Jb1.out (by decide) (by decide) (by repeat' (first | refine Fr.setEq ?_ ?_ _ | exact Fr.refl _ _ | exact .inl rfl | exact .inr rfl)), JA.out.b.two Jb2.out Jb1.out (by decide) (by decide) (by repeat' (first | refine Fr.setEq ?_ ?_ _ | exact Fr.refl _ _ | exact .inl rfl | exact .inr rfl)), JA.out.d.two Jb2.out Jb1.out (by decide) (by decide) (by repeat' (first | refine Fr.setEq ?_ ?_ _ | exact Fr.refl _ _ | exact .inl rfl | exact .inr rfl))⟩
    · rw [HKN.out]; exact JO.out.two Jb2.out Jb1.out (by decide) (by decide) (by repeat' (first | refine Fr.setEq ?_ ?_ _ | exact Fr.refl _ _ | exact .inl rfl | exact .inr rfl))
    · repeat' (first | refine below_set ?_ ?_ _ | exact HB5.out | omega)
  · have Hv0 : Hid (Blk U w.heap.size [.int .i64 c, .int .i64 ks.p, .slice a1 l1 p1, .slice a2 l2 p2, .slice a3 l3 p3, .slice a4 l4 p4] 73) := Go.Lib.hid (by rw [HKP.out, if_neg hn]; exact HV0.out)
    go_wp2_with fail
    clear hn c0 c1 c2 c3 c4 c5 fz q0 q1
    refine (HWO.out U L4.out).mono ?_
    rintro e w2 ⟨v, rfl, hk2, ho2, hb2⟩
    obtain ⟨e4, r4, rfl⟩ := hk2.form
    rw [HF5.out] at hk2 ⊢
    generalize hl : ks.d.length = m4 at *
    have b0 := Hv0.out.keep hb2
    have b1 := HV1.out.keep hb2
    have fz := b0.frozen 5
    have c0 := b0.cell 0
    have c1 := b0.cell 1
    have c2 := b0.cell 2
    have c3 := b0.cell 3
    have c4 := b0.cell 4
    have c5 := b0.cell 5
    simp only [List.getElem?_cons_zero, List.getElem?_cons_succ] at c0 c1 c2 c3 c4 c5
    have q0 := b0.lt
    have q1 := b1.lt
    obtain ⟨X, hX, u0, u1, uk, ub, us⟩ := st_set b0 b1 (by decide) 5 (.slice e4 m4 r4)
    have HX := Go.Lib.hid hX
    have Hu0 : Hid (Blk X w.heap.size [.int .i64 c, .int .i64 ks.p, .slice a1 l1 p1, .slice a2 l2 p2, .slice a3 l3 p3, .slice e4 m4 r4] 73) := u0
    have Hu1 := Go.Lib.hid u1
    have g0 := u0.cell 0
    have HXT : Hid (AT X (.slice a1 l1 p1) (.slice a2 l2 p2) (.slice a3 l3 p3) (.slice e4 m4 r4) ks) := Go.Lib.hid ⟨uk _ _ (L1.out.keep hb2), uk _ _ (L2.out.keep hb2), by rw [HF4.out]; exact uk _ _ (L3.out.keep hb2), uk _ _ hk2⟩
    have HRX := Go.Lib.hid (HREP.out _ _ _ _ X HXT.out)
    have HBX := Go.Lib.hid (ub _ _ (Nat.le_refl _) (HBU.out.trans (hb2.mono HBU.out.size)))
    clear b0 b1 hk2 ho2 hb2 hX u0 u1 uk ub us hl g0
    go_wp2_with fail
    rw [← HX.out]
    refine HRX.out.mono ?_
    clear c0 c1 c2 c3 c4 c5 fz q0 q1
    rintro e w3 ⟨x1, x2, x3, x4, vo, rfl, hat, hvo, hb3⟩
    obtain ⟨b1', r1', rfl⟩ := hat.t.form
    obtain ⟨b2', r2', rfl⟩ := hat.u.form
    obtain ⟨b3', r3', rfl⟩ := hat.b.form
    obtain ⟨b4', r4', rfl⟩ := hat.d.form
    obtain ⟨bo', ro', rfl⟩ := hvo.form
    have b1 := Hu1.out.keep hb3
    have lb1 := b1.lt
    have n12 : ¬ (w.heap.size + 1 = w3.heap.size) := by omega
    have n21 : ¬ (w3.heap.size = w.heap.size + 1) := by omega
    have AL := (Below.refl w3.heap.size w3).alloc (Nat.le_refl _) (.cells #[.int .i64 c, .int .i64 ks.p, .slice b1' R.1.t.length r1', .slice b2' R.1.u.length r2', .slice b3' R.1.b.length r3', .slice b4' R.1.d.length r4'] 73)
    have Hb2 : Hid (Blk (w3.alloc (.cells #[.int .i64 c, .int .i64 ks.p, .slice b1' R.1.t.length r1', .slice b2' R.1.u.length r2', .slice b3' R.1.b.length r3', .slice b4' R.1.d.length r4'] 73)) w3.heap.size [.int .i64 c, .int .i64 ks.p, .slice b1' R.1.t.length r1', .slice b2' R.1.u.length r2', .slice b3' R.1.b.length r3', .slice b4' R.1.d.length r4'] 73) := Go.Lib.hid (Blk.new0 w3 [.int .i64 c, .int .i64 ks.p, .slice b1' R.1.t.length r1', .slice b2' R.1.u.length r2', .slice b3' R.1.b.length r3', .slice b4' R.1.d.length r4'] 73)
    have Hb12 := Go.Lib.hid (b1.keep AL)
    have HRT := Go.Lib.hid (hat.keep AL)
    have HRO := Go.Lib.hid (hvo.keep AL)
    have HFT := Go.Lib.hid (front_any _ R.1.u k _ HRU.out HRT.out.u)
    have B3 := HBX.out.trans (hb3.mono HBX.out.size)
    have HB4 := Go.Lib.hid (B3.trans (AL.mono B3.size))
    have sz3 := B3.size
    clear AL B3
    clear b1 hb3 hat hvo
    generalize hg1 : R.1.t.length = y1 at *
    generalize hg2 : R.1.u.length = y2 at *
    generalize hg3 : R.1.b.length = y3 at *
    generalize hg4 : R.1.d.length = y4 at *
    generalize hg5 : R.2.length = y5 at *
    clear hg1 hg2 hg3 hg4 hg5
    go_wp2_with fail
    refine HFT.out.mono ?_
    rintro e w4 ⟨v5, rfl, hk5, ho5, hb5⟩
    obtain ⟨b5', r5', rfl⟩ := hk5.form
    generalize hl7 : (k :: wo R.1.u k).length = y7 at *
    have b2 := Hb2.out.keep hb5
    have b1 := Hb12.out.keep hb5
    have g0 := b2.cell 0
    have g1 := b2.cell 1
    have g2 := b2.cell 2
    have g3 := b2.cell 3
    have g4 := b2.cell 4
    have g5 := b2.cell 5
    simp only [List.getElem?_cons_zero, List.getElem?_cons_succ] at g0 g1 g2 g3 g4 g5
    have f := b2.frozen 3
    have d0 := b1.cell 0
    have d1 := b1.cell 1
    have d2 := b1.cell 2
    have d3 := b1.cell 3
    have d4 := b1.cell 4
    have d5 := b1.cell 5
    simp only [List.getElem?_cons_zero, List.getElem?_cons_succ] at d0 d1 d2 d3 d4 d5
    have f0 := b1.frozen 0
    have f1 := b1.frozen 1
    have f2 := b1.frozen 2
    have f3 := b1.frozen 3
    have f4 := b1.frozen 4
    have f5 := b1.frozen 5
    have l2' := b2.lt
    have l3' := b1.lt
    have JA := Go.Lib.hid (HRT.out.keep hb5)
    have J5 := Go.Lib.hid hk5
    have JO := Go.Lib.hid (HRO.out.keep hb5)
    have Jb2 := Go.Lib.hid b2
    have Jb1 := Go.Lib.hid b1
    have HB5 := Go.Lib.hid (HB4.out.trans (hb5.mono HB4.out.size))
    clear b2 b1 hk5 ho5 hb5 hl7
    go_wp2_with fail
    refine bodyPost_ret (v := .tuple #[.agg #[.int .i64 c, .int .i64 ks.p, .slice b1' y1 r1', .slice b5' y7 r5', .slice b3' y3 r3', .slice b4' y4 r4'], .slice bo' y5 ro']) (by simp [results, Try.results187, go_sem, g0, g1, g2, g3, g4, g5, d0, d1, d2, d3, d4, d5, n12, n21]) rfl ⟨_, _, _, _, _, rfl, ?_, ?_, ?_⟩
    · rw [HKN.out]; exact ⟨JA.out.t.two Jb2.out Jb1.out (by decide) (by decide) (by repeat' (first | refine Fr.setEq ?_ ?_ _ | exact Fr.refl _ _ | exact .inl rfl | exact .inr rfl)), J5.out.two Jb2.out Jb1.out (by decide) (by decide) (by repeat' (first | refine Fr.setEq ?_ ?_ _ | exact Fr.refl _ _ | exact .inl rfl | exact .inr rfl)), JA.out.b.two Jb2.out Jb1.out (by decide) (by decide) (by repeat' (first | refine Fr.setEq ?_ ?_ _ | exact Fr.refl _ _ | exact .inl rfl | exact .inr rfl)), JA.out.d.two Jb2.out Jb1.out (by decide) (by decide) (by repeat' (first | refine Fr.setEq ?_ ?_ _ | exact Fr.refl _ _ | exact .inl rfl | exact .inr rfl))⟩
    · rw [HKN.out]; exact JO.out.two Jb2.out Jb1.out (by decide) (by decide) (by repeat' (first | refine Fr.setEq ?_ ?_ _ | exact Fr.refl _ _ | exact .inl rfl | exact .inr rfl))
    · repeat' (first | refine below_set ?_ ?_ _ | exact HB5.out | omega)
set_option maxHeartbeats 12800000 in
theorem a11known_false (s : AS) (k : Int) (v1 v2 v3 v4 : Value) (w : World) (hc : 1 ≤ s.c ∧ s.c ≤ 1048576) (hp : 0 ≤ s.p ∧ s.p ≤ s.c) (hk : k ∈ s.b) (hl : s.t.length < 50000 ∧ s.u.length < 50000 ∧ s.b.length < 50000 ∧ s.d.length < 50000) (h : AT w v1 v2 v3 v4 s) :
    Calls Try.prog 187 #[.agg #[.int .i64 s.c, .int .i64 s.p, v1, v2, v3, v4], .int .u64 k, .bool false] w fun e w' => ∃ x1 x2 x3 x4 vo, e = .returned (.tuple #[.agg #[.int .i64 (knownA s k false).1.c, .int .i64 (knownA s k false).1.p, x1, x2, x3, x4], vo]) ∧ AT w' x1 x2 x3 x4 (knownA s k false).1 ∧ KL w' vo (knownA s k false).2 ∧ Below w.heap.size w w' := by
  obtain ⟨hc1, hc2⟩ := hc
  obtain ⟨hp1, hp2⟩ := hp
  obtain ⟨hl1, hl2, hl3, hl4⟩ := hl
  obtain ⟨a1, p1, rfl⟩ := h.t.form
  obtain ⟨a2, p2, rfl⟩ := h.u.form
  obtain ⟨a3, p3, rfl⟩ := h.b.form
  obtain ⟨a4, p4, rfl⟩ := h.d.form
  obtain ⟨ks, hks⟩ : ∃ ks, ks = knownS s k false := ⟨_, rfl⟩
  have HKN : Hid (knownA s k false = (⟨(replA ks false).1.c, (replA ks false).1.p, (replA ks false).1.t, k :: wo (replA ks false).1.u k, (replA ks false).1.b, (replA ks false).1.d⟩, (replA ks false).2)) := Go.Lib.hid (by rw [hks]; rfl)
  have hpos : 0 < s.b.length := List.length_pos_iff.2 (by rintro h; rw [h] at hk; cases hk)
  have hwl := wo_len s.b k
  have hf : ks.c = s.c ∧ ks.t = s.t ∧ ks.u = s.u ∧ ks.b = wo s.b k ∧ ks.d = s.d := by rw [hks]; exact ⟨rfl, rfl, rfl, rfl, rfl⟩
  have hkp : ks.p = min (s.p + max ((s.d.length : Int) / s.b.length) 1) s.c := by rw [hks]; rfl
  obtain ⟨hf1, hf2, hf3, hf4, hf5⟩ := hf
  have HREP := Go.Lib.hid (fun v1 v2 v3 v4 w h => a11repl_any ks false v1 v2 v3 v4 w ⟨by omega, by omega⟩ (by rw [hf2, hf3, hf4, hf5]; exact ⟨by omega, by omega, by omega, by omega⟩) h)
  have HWO := Go.Lib.hid (fun w h => without_any (.slice a3 s.b.length p3) s.b k w (by omega) h)
  have HRU : Hid ((replA ks false).1.u.length < 50000) := Go.Lib.hid (by
    unfold replA
    split
    · simp only; rw [hf3]; omega
    · rename_i hh
      rcases evictA_cases ks (firstA ks false) (evok_first (by omega) hh) with ⟨e1, A, x, e2, e3⟩ | ⟨e1, A, x, e2, e3⟩
      · rw [e3]; simp only; rw [hf3]; omega
      · rw [e3]
        have := congrArg List.length e2
        rw [hf3] at this
        simp at this ⊢
        omega)
  obtain ⟨W, hW, b0, b1, B0⟩ := two_blocks w [.int .i64 s.c, .int .i64 s.p, .slice a1 s.t.length p1, .slice a2 s.u.length p2, .slice a3 s.b.length p3, .slice a4 s.d.length p4] [.int .i64 0, .int .i64 0, .slice none 0 0, .slice none 0 0, .slice none 0 0, .slice none 0 0] 73
  obtain ⟨h1, h2, h3, h4⟩ := h
  have K1 : Hid (KL W _ ks.t) := Go.Lib.hid (by rw [hf2]; exact h1.keep B0)
  have K2 : Hid (KL W _ ks.u) := Go.Lib.hid (by rw [hf3]; exact h2.keep B0)
  have K3 := Go.Lib.hid (h3.keep B0)
  have K4 := Go.Lib.hid (h4.keep B0)
  have HB0 := Go.Lib.hid B0
  have HW := Go.Lib.hid hW
  have Hb0 := Go.Lib.hid b0
  have Hb1 := Go.Lib.hid b1
  have c0 := b0.cell 0
  have c1 := b0.cell 1
  have c2 := b0.cell 2
  have c3 := b0.cell 3
  have c4 := b0.cell 4
  have c5 := b0.cell 5
  simp only [List.getElem?_cons_zero, List.getElem?_cons_succ] at c0 c1 c2 c3 c4 c5
  have fz := b0.frozen 1
  have q0 := b0.lt
  have q1 := b1.lt
  have HF4 := Go.Lib.hid hf5
  have HF5 : Hid (wo s.b k = ks.b) := Go.Lib.hid hf4.symm
  obtain ⟨c, hcc⟩ : ∃ c, c = s.c := ⟨_, rfl⟩
  obtain ⟨q, hqq⟩ : ∃ q, q = s.p := ⟨_, rfl⟩
  rw [← hcc] at hf1 hc1 hc2 hp2 Hb0 HW c0 hkp ⊢
  rw [← hqq] at hkp hp1 hp2 Hb0 HW c1 ⊢
  generalize s.t.length = l1 at *
  generalize s.u.length = l2 at *
  generalize hn3 : s.b.length = l3 at *
  generalize hn4 : s.d.length = l4 at *
  have hD0 : 0 ≤ (l4 : Int) / l3 := Int.ediv_nonneg (by omega) (by omega)
  have hD1 : (l4 : Int) / l3 ≤ 50000 := by
    have := Int.ediv_le_self (a := (l4 : Int)) (l3 : Int) (by omega)
    omega
  obtain ⟨P, hP⟩ : ∃ P : Int, P = q + max ((l4 : Int) / l3) 1 := ⟨_, rfl⟩
  have HPW : Hid (wrap64 (q + (if wrap64 ((l4 : Int) / l3) < 1 then 1 else wrap64 ((l4 : Int) / l3))) = P) := Go.Lib.hid (by
    generalize (l4 : Int) / l3 = D at *
    rw [IntWalk.wrap64_in D ⟨by omega, by omega⟩]
    by_cases h : D < 1
    · rw [if_pos h, IntWalk.wrap64_in (q + 1) ⟨by omega, by omega⟩]; omega
    · rw [if_neg h, IntWalk.wrap64_in (q + D) ⟨by omega, by omega⟩]; omega)
  have HKP : Hid (ks.p = if c < P then c else P) := Go.Lib.hid (by rw [hkp]; split <;> omega)
  have hP1 : P ≤ 200000000 := by omega
  have hP2 : -200000000 ≤ P := by omega
  have hcp : (knownA s k false).1.c = c ∧ (knownA s k false).1.p = ks.p := by
    obtain ⟨r1, r2⟩ := replA_cp ks false
    rw [HKN.out]
    exact ⟨r1.trans hf1, r2⟩
  rw [hcp.1, hcp.2]
  rw [hf1] at HREP
  generalize replA ks false = R at *
  clear hcp
  clear hP hkp hD0 hD1 hf1 hf2 hf3 hf4 hf5 hks hn3 hn4 hwl hW B0 h1 h2 h3 h4 b0 b1 hcc hqq hk
  go_enter Try.func187, Try.ntmps187
  go_wp2_with fail
  rw [← HW.out]
  go_region
  rw [HPW.out]
  generalize (if wrap64 ((l4 : Int) / l3) < 1 then (1 : Int) else wrap64 ((l4 : Int) / l3)) = M
  generalize wrap64 ((l4 : Int) / l3) = N
  obtain ⟨U0, hU0, u0, u1, uk, ub, us⟩ := st_set Hb0.out Hb1.out (by decide) 1 (.int .i64 P)
  rw [← hU0]
  have BD : Below U0.heap.size U0 U0.drew := (Below.refl _ _).drew
  obtain ⟨U, hU⟩ : ∃ U, U = U0.drew := ⟨_, rfl⟩
  rw [← hU] at BD ⊢
  have V0 : Blk U w.heap.size [.int .i64 c, .int .i64 P, .slice a1 l1 p1, .slice a2 l2 p2, .slice a3 l3 p3, .slice a4 l4 p4] 73 := u0.keep BD
  have V1 := u1.keep BD
  have L1 := Go.Lib.hid ((uk _ _ K1.out).keep BD)
  have L2 := Go.Lib.hid ((uk _ _ K2.out).keep BD)
  have L3 := Go.Lib.hid ((uk _ _ K3.out).keep BD)
  have L4 := Go.Lib.hid ((uk _ _ K4.out).keep BD)
  have bU := ub _ _ (Nat.le_refl _) HB0.out
  have HBU := Go.Lib.hid (bU.trans (BD.mono bU.size))
  have HV0 := Go.Lib.hid V0
  have HV1 := Go.Lib.hid V1
  clear c0 c1 c2 c3 c4 c5 fz q0 q1
  have c0 := V0.cell 0
  have c1 := V0.cell 1
  have c2 := V0.cell 2
  have c3 := V0.cell 3
  have c4 := V0.cell 4
  have c5 := V0.cell 5
  simp only [List.getElem?_cons_zero, List.getElem?_cons_succ] at c0 c1 c2 c3 c4 c5
  have fz := V0.frozen 1
  have q0 := V0.lt
  have q1 := V1.lt
  clear hU hU0 u0 u1 uk ub us BD V0 V1 bU HPW hpos HW K1 K2 K3 K4 Hb0 Hb1
  by_cases hn : c < P
  · obtain ⟨V, hV, v0, v1, vk, vb, vs⟩ := st_set HV0.out HV1.out (by decide) 1 (.int .i64 c)
    have HVV := Go.Lib.hid hV
    have Hv0 : Hid (Blk V w.heap.size [.int .i64 c, .int .i64 ks.p, .slice a1 l1 p1, .slice a2 l2 p2, .slice a3 l3 p3, .slice a4 l4 p4] 73) := Go.Lib.hid (by rw [HKP.out, if_pos hn]; exact v0)
    have Hv1 := Go.Lib.hid v1
    have M1 := Go.Lib.hid (vk _ _ L1.out)
    have M2 := Go.Lib.hid (vk _ _ L2.out)
    have M3 := Go.Lib.hid (vk _ _ L3.out)
    have M4 := Go.Lib.hid (vk _ _ L4.out)
    have HBV := Go.Lib.hid (vb _ _ (Nat.le_refl _) HBU.out)
    clear hV v0 v1 vk vb vs
    go_wp2_with fail
    rw [← HVV.out]
    clear hn c0 c1 c2 c3 c4 c5 fz q0 q1
    refine (HWO.out V M3.out).mono ?_
    rintro e w2 ⟨v, rfl, hk2, ho2, hb2⟩
    obtain ⟨e3, r3, rfl⟩ := hk2.form
    rw [HF5.out] at hk2 ⊢
    generalize hl : ks.b.length = m3 at *
    have b0 := Hv0.out.keep hb2
    have b1 := Hv1.out.keep hb2
    have fz := b0.frozen 4
    have c0 := b0.cell 0
    have c1 := b0.cell 1
    have c2 := b0.cell 2
    have c3 := b0.cell 3
    have c4 := b0.cell 4
    have c5 := b0.cell 5
    simp only [List.getElem?_cons_zero, List.getElem?_cons_succ] at c0 c1 c2 c3 c4 c5
    have q0 := b0.lt
    have q1 := b1.lt
    obtain ⟨X, hX, u0, u1, uk, ub, us⟩ := st_set b0 b1 (by decide) 4 (.slice e3 m3 r3)
    have HX := Go.Lib.hid hX
    have Hu0 : Hid (Blk X w.heap.size [.int .i64 c, .int .i64 ks.p, .slice a1 l1 p1, .slice a2 l2 p2, .slice e3 m3 r3, .slice a4 l4 p4] 73) := u0
    have Hu1 := Go.Lib.hid u1
    have g0 := u0.cell 0
    have HXT : Hid (AT X (.slice a1 l1 p1) (.slice a2 l2 p2) (.slice e3 m3 r3) (.slice a4 l4 p4) ks) := Go.Lib.hid ⟨uk _ _ (M1.out.keep hb2), uk _ _ (M2.out.keep hb2), uk _ _ hk2, by rw [HF4.out]; exact uk _ _ (M4.out.keep hb2)⟩
    have HRX := Go.Lib.hid (HREP.out _ _ _ _ X HXT.out)
    have HBX := Go.Lib.hid (ub _ _ (Nat.le_refl _) (HBV.out.trans (hb2.mono HBV.out.size)))
    clear b0 b1 hk2 ho2 hb2 hX u0 u1 uk ub us hl g0
    go_wp2_with fail
    rw [← HX.out]
    refine HRX.out.mono ?_
    clear c0 c1 c2 c3 c4 c5 fz q0 q1
    rintro e w3 ⟨x1, x2, x3, x4, vo, rfl, hat, hvo, hb3⟩
    obtain ⟨b1', r1', rfl⟩ := hat.t.form
    obtain ⟨b2', r2', rfl⟩ := hat.u.form
    obtain ⟨b3', r3', rfl⟩ := hat.b.form
    obtain ⟨b4', r4', rfl⟩ := hat.d.form
    obtain ⟨bo', ro', rfl⟩ := hvo.form
    have b1 := Hu1.out.keep hb3
    have lb1 := b1.lt
    have n12 : ¬ (w.heap.size + 1 = w3.heap.size) := by omega
    have n21 : ¬ (w3.heap.size = w.heap.size + 1) := by omega
    have AL := (Below.refl w3.heap.size w3).alloc (Nat.le_refl _) (.cells #[.int .i64 c, .int .i64 ks.p, .slice b1' R.1.t.length r1', .slice b2' R.1.u.length r2', .slice b3' R.1.b.length r3', .slice b4' R.1.d.length r4'] 73)
    have Hb2 : Hid (Blk (w3.alloc (.cells #[.int .i64 c, .int .i64 ks.p, .slice b1' R.1.t.length r1', .slice b2' R.1.u.length r2', .slice b3' R.1.b.length r3', .slice b4' R.1.d.length r4'] 73)) w3.heap.size [.int .i64 c, .int .i64 ks.p, .slice b1' R.1.t.length r1', .slice b2' R.1.u.length r2', .slice b3' R.1.b.length r3', .slice b4' R.1.d.length r4'] 73) := Go.Lib.hid (Blk.new0 w3 [.int .i64 c, .int .i64 ks.p, .slice b1' R.1.t.length r1', .slice b2' R.1.u.length r2', .slice b3' R.1.b.length r3', .slice b4' R.1.d.length r4'] 73)
    have Hb12 := Go.Lib.hid (b1.keep AL)
    have HRT := Go.Lib.hid (hat.keep AL)
    have HRO := Go.Lib.hid (hvo.keep AL)
    have HFT := Go.Lib.hid (front_any _ R.1.u k _ HRU.out HRT.out.u)
    have B3 := HBX.out.trans (hb3.mono HBX.out.size)
    have HB4 := Go.Lib.hid (B3.trans (AL.mono B3.size))
    have sz3 := B3.size
    clear AL B3
    clear b1 hb3 hat hvo
    generalize hg1 : R.1.t.length = y1 at *
    generalize hg2 : R.1.u.length = y2 at *
    generalize hg3 : R.1.b.length = y3 at *
    generalize hg4 : R.1.d.length = y4 at *
    generalize hg5 : R.2.length = y5 at *
    clear hg1 hg2 hg3 hg4 hg5
    go_wp2_with fail
    refine HFT.out.mono ?_
    rintro e w4 ⟨v5, rfl, hk5, ho5, hb5⟩
    obtain ⟨b5', r5', rfl⟩ := hk5.form
    generalize hl7 : (k :: wo R.1.u k).length = y7 at *
    have b2 := Hb2.out.keep hb5
    have b1 := Hb12.out.keep hb5
    have g0 := b2.cell 0
    have g1 := b2.cell 1
    have g2 := b2.cell 2
    have g3 := b2.cell 3
    have g4 := b2.cell 4
    have g5 := b2.cell 5
    simp only [List.getElem?_cons_zero, List.getElem?_cons_succ] at g0 g1 g2 g3 g4 g5
    have f := b2.frozen 3
    have d0 := b1.cell 0
    have d1 := b1.cell 1
    have d2 := b1.cell 2
    have d3 := b1.cell 3
    have d4 := b1.cell 4
    have d5 := b1.cell 5
    simp only [List.getElem?_cons_zero, List.getElem?_cons_succ] at d0 d1 d2 d3 d4 d5
    have f0 := b1.frozen 0
    have f1 := b1.frozen 1
    have f2 := b1.frozen 2
    have f3 := b1.frozen 3
    have f4 := b1.frozen 4
    have f5 := b1.frozen 5
    have l2' := b2.lt
    have l3' := b1.lt
    have JA := Go.Lib.hid (HRT.out.keep hb5)
    have J5 := Go.Lib.hid hk5
    have JO := Go.Lib.hid (HRO.out.keep hb5)
    have Jb2 := Go.Lib.hid b2
    have Jb1 := Go.Lib.hid b1
    have HB5 := Go.Lib.hid (HB4.out.trans (hb5.mono HB4.out.size))
    clear b2 b1 hk5 ho5 hb5 hl7
    go_wp2_with fail
    refine bodyPost_ret (v := .tuple #[.agg #[.int .i64 c, .int .i64 ks.p, .slice b1' y1 r1', .slice b5' y7 r5', .slice b3' y3 r3', .slice b4' y4 r4'], .slice bo' y5 ro']) (by simp [results, Try.results187, go_sem, g0, g1, g2, g3, g4, g5, d0, d1, d2, d3, d4, d5, n12, n21]) rfl ⟨_, _, _, _, _, rfl, ?_, ?_, ?_⟩
    · rw [HKN.out]; exact ⟨JA.out.t.two Jb2.out Jb1.out (by decide) (by decide) (by repeat' (first | refine Fr.setEq ?_ ?_ _ | exact Fr.refl _ _ | exact .inl rfl | exact .inr rfl)), J5.out.two Jb2.out Jb1.out (by decide) (by decide) (by repeat' (first | refine Fr.setEq ?_ ?_ _ | exact Fr.refl _ _ | exact .inl rfl | exact .inr rfl)), JA.out.b.two Jb2.out Jb1.out (by decide) (by decide) (by repeat' (first | refine Fr.setEq ?_ ?_ _ | exact Fr.refl _ _ | exact .inl rfl | exact .inr rfl)), JA.out.d.two Jb2.out Jb1.out (by decide) (by decide) (by repeat' (first | refine Fr.setEq ?_ ?_ _ | exact Fr.refl _ _ | exact .inl rfl | exact .inr rfl))⟩
    · rw [HKN.out]; exact JO.out.two Jb2.out Jb1.out (by decide) (by decide) (by repeat' (first | refine Fr.setEq ?_ ?_ _ | exact Fr.refl _ _ | exact .inl rfl | exact .inr rfl))
    · repeat' (first | refine below_set ?_ ?_ _ | exact HB5.out | omega)
  · have Hv0 : Hid (Blk U w.heap.size [.int .i64 c, .int .i64 ks.p, .slice a1 l1 p1, .slice a2 l2 p2, .slice a3 l3 p3, .slice a4 l4 p4] 73) := Go.Lib.hid (by rw [HKP.out, if_neg hn]; exact HV0.out)
    go_wp2_with fail
    clear hn c0 c1 c2 c3 c4 c5 fz q0 q1
    refine (HWO.out U L3.out).mono ?_
    rintro e w2 ⟨v, rfl, hk2, ho2, hb2⟩
    obtain ⟨e3, r3, rfl⟩ := hk2.form
    rw [HF5.out] at hk2 ⊢
    generalize hl : ks.b.length = m3 at *
    have b0 := Hv0.out.keep hb2
    have b1 := HV1.out.keep hb2
    have fz := b0.frozen 4
    have c0 := b0.cell 0
    have c1 := b0.cell 1
    have c2 := b0.cell 2
    have c3 := b0.cell 3
    have c4 := b0.cell 4
    have c5 := b0.cell 5
    simp only [List.getElem?_cons_zero, List.getElem?_cons_succ] at c0 c1 c2 c3 c4 c5
    have q0 := b0.lt
    have q1 := b1.lt
    obtain ⟨X, hX, u0, u1, uk, ub, us⟩ := st_set b0 b1 (by decide) 4 (.slice e3 m3 r3)
    have HX := Go.Lib.hid hX
    have Hu0 : Hid (Blk X w.heap.size [.int .i64 c, .int .i64 ks.p, .slice a1 l1 p1, .slice a2 l2 p2, .slice e3 m3 r3, .slice a4 l4 p4] 73) := u0
    have Hu1 := Go.Lib.hid u1
    have g0 := u0.cell 0
    have HXT : Hid (AT X (.slice a1 l1 p1) (.slice a2 l2 p2) (.slice e3 m3 r3) (.slice a4 l4 p4) ks) := Go.Lib.hid ⟨uk _ _ (L1.out.keep hb2), uk _ _ (L2.out.keep hb2), uk _ _ hk2, by rw [HF4.out]; exact uk _ _ (L4.out.keep hb2)⟩
    have HRX := Go.Lib.hid (HREP.out _ _ _ _ X HXT.out)
    have HBX := Go.Lib.hid (ub _ _ (Nat.le_refl _) (HBU.out.trans (hb2.mono HBU.out.size)))
    clear b0 b1 hk2 ho2 hb2 hX u0 u1 uk ub us hl g0
    go_wp2_with fail
    rw [← HX.out]
    refine HRX.out.mono ?_
    clear c0 c1 c2 c3 c4 c5 fz q0 q1
    rintro e w3 ⟨x1, x2, x3, x4, vo, rfl, hat, hvo, hb3⟩
    obtain ⟨b1', r1', rfl⟩ := hat.t.form
    obtain ⟨b2', r2', rfl⟩ := hat.u.form
    obtain ⟨b3', r3', rfl⟩ := hat.b.form
    obtain ⟨b4', r4', rfl⟩ := hat.d.form
    obtain ⟨bo', ro', rfl⟩ := hvo.form
    have b1 := Hu1.out.keep hb3
    have lb1 := b1.lt
    have n12 : ¬ (w.heap.size + 1 = w3.heap.size) := by omega
    have n21 : ¬ (w3.heap.size = w.heap.size + 1) := by omega
    have AL := (Below.refl w3.heap.size w3).alloc (Nat.le_refl _) (.cells #[.int .i64 c, .int .i64 ks.p, .slice b1' R.1.t.length r1', .slice b2' R.1.u.length r2', .slice b3' R.1.b.length r3', .slice b4' R.1.d.length r4'] 73)
    have Hb2 : Hid (Blk (w3.alloc (.cells #[.int .i64 c, .int .i64 ks.p, .slice b1' R.1.t.length r1', .slice b2' R.1.u.length r2', .slice b3' R.1.b.length r3', .slice b4' R.1.d.length r4'] 73)) w3.heap.size [.int .i64 c, .int .i64 ks.p, .slice b1' R.1.t.length r1', .slice b2' R.1.u.length r2', .slice b3' R.1.b.length r3', .slice b4' R.1.d.length r4'] 73) := Go.Lib.hid (Blk.new0 w3 [.int .i64 c, .int .i64 ks.p, .slice b1' R.1.t.length r1', .slice b2' R.1.u.length r2', .slice b3' R.1.b.length r3', .slice b4' R.1.d.length r4'] 73)
    have Hb12 := Go.Lib.hid (b1.keep AL)
    have HRT := Go.Lib.hid (hat.keep AL)
    have HRO := Go.Lib.hid (hvo.keep AL)
    have HFT := Go.Lib.hid (front_any _ R.1.u k _ HRU.out HRT.out.u)
    have B3 := HBX.out.trans (hb3.mono HBX.out.size)
    have HB4 := Go.Lib.hid (B3.trans (AL.mono B3.size))
    have sz3 := B3.size
    clear AL B3
    clear b1 hb3 hat hvo
    generalize hg1 : R.1.t.length = y1 at *
    generalize hg2 : R.1.u.length = y2 at *
    generalize hg3 : R.1.b.length = y3 at *
    generalize hg4 : R.1.d.length = y4 at *
    generalize hg5 : R.2.length = y5 at *
    clear hg1 hg2 hg3 hg4 hg5
    go_wp2_with fail
    refine HFT.out.mono ?_
    rintro e w4 ⟨v5, rfl, hk5, ho5, hb5⟩
    obtain ⟨b5', r5', rfl⟩ := hk5.form
    generalize hl7 : (k :: wo R.1.u k).length = y7 at *
    have b2 := Hb2.out.keep hb5
    have b1 := Hb12.out.keep hb5
    have g0 := b2.cell 0
    have g1 := b2.cell 1
    have g2 := b2.cell 2
    have g3 := b2.cell 3
    have g4 := b2.cell 4
    have g5 := b2.cell 5
    simp only [List.getElem?_cons_zero, List.getElem?_cons_succ] at g0 g1 g2 g3 g4 g5
    have f := b2.frozen 3
    have d0 := b1.cell 0
    have d1 := b1.cell 1
    have d2 := b1.cell 2
    have d3 := b1.cell 3
    have d4 := b1.cell 4
    have d5 := b1.cell 5
    simp only [List.getElem?_cons_zero, List.getElem?_cons_succ] at d0 d1 d2 d3 d4 d5
    have f0 := b1.frozen 0
    have f1 := b1.frozen 1
    have f2 := b1.frozen 2
    have f3 := b1.frozen 3
    have f4 := b1.frozen 4
    have f5 := b1.frozen 5
    have l2' := b2.lt
    have l3' := b1.lt
    have JA := Go.Lib.hid (HRT.out.keep hb5)
    have J5 := Go.Lib.hid hk5
    have JO := Go.Lib.hid (HRO.out.keep hb5)
    have Jb2 := Go.Lib.hid b2
    have Jb1 := Go.Lib.hid b1
    have HB5 := Go.Lib.hid (HB4.out.trans (hb5.mono HB4.out.size))
    clear b2 b1 hk5 ho5 hb5 hl7
    go_wp2_with fail
    refine bodyPost_ret (v := .tuple #[.agg #[.int .i64 c, .int .i64 ks.p, .slice b1' y1 r1', .slice b5' y7 r5', .slice b3' y3 r3', .slice b4' y4 r4'], .slice bo' y5 ro']) (by simp [results, Try.results187, go_sem, g0, g1, g2, g3, g4, g5, d0, d1, d2, d3, d4, d5, n12, n21]) rfl ⟨_, _, _, _, _, rfl, ?_, ?_, ?_⟩
    · rw [HKN.out]; exact ⟨JA.out.t.two Jb2.out Jb1.out (by decide) (by decide) (by repeat' (first | refine Fr.setEq ?_ ?_ _ | exact Fr.refl _ _ | exact .inl rfl | exact .inr rfl)), J5.out.two Jb2.out Jb1.out (by decide) (by decide) (by repeat' (first | refine Fr.setEq ?_ ?_ _ | exact Fr.refl _ _ | exact .inl rfl | exact .inr rfl)), JA.out.b.two Jb2.out Jb1.out (by decide) (by decide) (by repeat' (first | refine Fr.setEq ?_ ?_ _ | exact Fr.refl _ _ | exact .inl rfl | exact .inr rfl)), JA.out.d.two Jb2.out Jb1.out (by decide) (by decide) (by repeat' (first | refine Fr.setEq ?_ ?_ _ | exact Fr.refl _ _ | exact .inl rfl | exact .inr rfl))⟩
    · rw [HKN.out]; exact JO.out.two Jb2.out Jb1.out (by decide) (by decide) (by repeat' (first | refine Fr.setEq ?_ ?_ _ | exact Fr.refl _ _ | exact .inl rfl | exact .inr rfl))
    · repeat' (first | refine below_set ?_ ?_ _ | exact HB5.out | omega)
theorem a11known_any (s : AS) (k : Int) (again : Bool) (v1 v2 v3 v4 : Value) (w : World) (hc : 1 ≤ s.c ∧ s.c ≤ 1048576) (hp : 0 ≤ s.p ∧ s.p ≤ s.c) (hk : if again then k ∈ s.d else k ∈ s.b) (hl : s.t.length < 50000 ∧ s.u.length < 50000 ∧ s.b.length < 50000 ∧ s.d.length < 50000) (h : AT w v1 v2 v3 v4 s) :
    Calls Try.prog 187 #[.agg #[.int .i64 s.c, .int .i64 s.p, v1, v2, v3, v4], .int .u64 k, .bool again] w fun e w' => ∃ x1 x2 x3 x4 vo, e = .returned (.tuple #[.agg #[.int .i64 (knownA s k again).1.c, .int .i64 (knownA s k again).1.p, x1, x2, x3, x4], vo]) ∧ AT w' x1 x2 x3 x4 (knownA s k again).1 ∧ KL w' vo (knownA s k again).2 ∧ Below w.heap.size w w' := by
  cases again with
  | true => exact a11known_true s k v1 v2 v3 v4 w hc hp (by simpa using hk) hl h
  | false => exact a11known_false s k v1 v2 v3 v4 w hc hp (by simpa using hk) hl h
end Go.Proofs.Ytlakojncjldpbaa
