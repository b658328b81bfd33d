/- The reference of two queues: Admit, Resize. -/
import Derived.Test.YtlakojncjldpbaaGRef9
namespace Go.Proofs.Ytlakojncjldpbaa
open Go.RowKit Hop
set_option linter.unusedVariables false
set_option linter.unusedSimpArgs false
set_option maxRecDepth 100000
set_option maxHeartbeats 6400000 in
theorem q9admit_any (c : Int) (v1 v2 v3 : Value) (i o m : List Int) (k : Int) (w : World) (hc : 1 ≤ c ∧ c ≤ 40000) (hsi : i.length + m.length < 50000) (hso : o.length < 50000) (h1 : KL w v1 i) (h2 : KL w v2 o) (h3 : KL w v3 m) :
    Calls Try.prog 124 #[.agg #[.int .i64 c, v1, v2, v3], .int .u64 k] w fun e w' => ∃ v1' v2' v3' vo, e = .returned (.tuple #[.agg #[.int .i64 c, v1', v2', v3'], vo]) ∧ KL w' v1' (admitT ⟨c, i, o, m⟩ k).1.i ∧ KL w' v2' (admitT ⟨c, i, o, m⟩ k).1.o ∧ KL w' v3' (admitT ⟨c, i, o, m⟩ k).1.m ∧ KL w' vo (admitT ⟨c, i, o, m⟩ k).2 ∧ Below w.heap.size w w' := by
  obtain ⟨hc0, hc1⟩ := hc
  obtain ⟨a1, p1, rfl⟩ := h1.form
  obtain ⟨a2, p2, rfl⟩ := h2.form
  obtain ⟨a3, p3, rfl⟩ := h3.form
  obtain ⟨W, hW, b0, b1, B0⟩ := two_blocks w [.int .i64 c, .slice a1 i.length p1, .slice a2 o.length p2, .slice a3 m.length p3] [.int .i64 0, .slice none 0 0, .slice none 0 0, .slice none 0 0] 60
  have k1 := h1.keep B0
  have k2 := h2.keep B0
  have k3 := h3.keep B0
  have K1 := Go.Lib.hid k1
  have K2 := Go.Lib.hid k2
  have K3 := Go.Lib.hid k3
  have HKY := Go.Lib.hid (q9keys_any c (.slice a1 i.length p1) (.slice a2 o.length p2) (.slice a3 m.length p3) i m W (by omega) (by omega) k1 k3)
  have HHA := Go.Lib.hid (fun v w h => has_any v (i ++ m) k w h)
  have HHO := Go.Lib.hid (fun w h => has_any (.slice a2 o.length p2) o k w h)
  have HWO := Go.Lib.hid (fun w h => without_any (.slice a2 o.length p2) o k w (by omega) h)
  have HSH := Go.Lib.hid (fun v w h1 h2 h3 => q9shrink_any c (.slice a1 i.length p1) v (.slice a3 m.length p3) i (wo o k) m (c - 1) w ⟨hc0, by omega⟩ ⟨by omega, by omega⟩ (by have := wo_len o k; omega) hsi h1 h2 h3)
  obtain ⟨s1, s2, s3, s4, s5, s6, s7⟩ := shrT_props (c - 1) c (by omega) (i.length + m.length) i (wo o k) m rfl
  have HB0 := Go.Lib.hid B0
  have HW := Go.Lib.hid hW
  have Hb0 := Go.Lib.hid b0
  have Hb1 := Go.Lib.hid b1
  have c0 := b0.cell 0
  have c1 := b0.cell 1
  have c2 := b0.cell 2
  have c3 := b0.cell 3
  simp only [List.getElem?_cons_zero, List.getElem?_cons_succ] at c0 c1 c2 c3
  have l0 := b0.lt
  have l1 := b1.lt
  have HT : Hid (admitT ⟨c, i, o, m⟩ k = if k ∈ i ++ m then (⟨c, i, o, m⟩, []) else if k ∈ o then (⟨c, (shrT (c - 1) (i.length + m.length) ⟨c, i, wo o k, m⟩).1.i, (shrT (c - 1) (i.length + m.length) ⟨c, i, wo o k, m⟩).1.o, k :: wo (shrT (c - 1) (i.length + m.length) ⟨c, i, wo o k, m⟩).1.m k⟩, (shrT (c - 1) (i.length + m.length) ⟨c, i, wo o k, m⟩).2) else (⟨c, k :: wo (shrT (c - 1) (i.length + m.length) ⟨c, i, wo o k, m⟩).1.i k, (shrT (c - 1) (i.length + m.length) ⟨c, i, wo o k, m⟩).1.o, (shrT (c - 1) (i.length + m.length) ⟨c, i, wo o k, m⟩).1.m⟩, (shrT (c - 1) (i.length + m.length) ⟨c, i, wo o k, m⟩).2)) := Go.Lib.hid rfl
  have HRI : Hid ((shrT (c - 1) (i.length + m.length) ⟨c, i, wo o k, m⟩).1.i.length < 50000) := Go.Lib.hid (by omega)
  have HRM : Hid ((shrT (c - 1) (i.length + m.length) ⟨c, i, wo o k, m⟩).1.m.length < 50000) := Go.Lib.hid (by omega)
  clear hW B0 h1 h2 h3 k1 k2 k3 b0 b1 s1 s2 s3 s4 s5 s6 s7
  generalize shrT (c - 1) (i.length + m.length) ⟨c, i, wo o k, m⟩ = R at *
  obtain ⟨⟨rc, ri, ro, rm⟩, rg⟩ := R
  simp only at HSH HT HRI HRM
  generalize hl1 : i.length = l1' at *
  generalize hl2 : o.length = l2' at *
  generalize hl3 : m.length = l3' at *
  clear hl1 hl2 hl3
  go_enter Try.func124, Try.ntmps124
  go_wp2_with fail
  rw [← HW.out]
  refine HKY.out.mono ?_
  rintro e w1 ⟨v', rfl, hk1, hb1⟩
  have b0 := Hb0.out.keep hb1
  have b1 := Hb1.out.keep hb1
  have HHV := Go.Lib.hid (HHA.out v' w1 hk1)
  have HB1 := Go.Lib.hid (HB0.out.trans (hb1.mono HB0.out.size))
  have J1 := Go.Lib.hid (K1.out.keep hb1)
  have J2 := Go.Lib.hid (K2.out.keep hb1)
  have J3 := Go.Lib.hid (K3.out.keep hb1)
  have Ib0 := Go.Lib.hid b0
  have Ib1 := Go.Lib.hid b1
  clear c0 c1 c2 c3 l0 l1
  have c0 := b0.cell 0
  have c1 := b0.cell 1
  have c2 := b0.cell 2
  have c3 := b0.cell 3
  simp only [List.getElem?_cons_zero, List.getElem?_cons_succ] at c0 c1 c2 c3
  have l0 := b0.lt
  have l1 := b1.lt
  clear b0 b1 hk1 hb1
  by_cases hk : k ∈ i ++ m
  · have hd : decide (k ∈ i ++ m) = true := decide_eq_true hk
    rw [hd] at HHV
    rw [if_pos hk] at HT
    have d0 := Ib1.out.cell 0
    have d1 := Ib1.out.cell 1
    have d2 := Ib1.out.cell 2
    have d3 := Ib1.out.cell 3
    simp only [List.getElem?_cons_zero, List.getElem?_cons_succ] at d0 d1 d2 d3
    have f0 := Ib1.out.frozen 0
    have f1 := Ib1.out.frozen 1
    have f2 := Ib1.out.frozen 2
    have f3 := Ib1.out.frozen 3
    clear hk hd
    go_wp2_with fail
    refine HHV.out.mono ?_
    rintro e w2 ⟨rfl, rfl⟩
    go_wp2_with fail
    refine bodyPost_ret (v := .tuple #[.agg #[.int .i64 c, .slice a1 l1' p1, .slice a2 l2' p2, .slice a3 l3' p3], .slice none 0 0]) (by simp [results, Try.results124, go_sem, c0, c1, c2, c3, d0, d1, d2, d3]) rfl ⟨_, _, _, _, rfl, ?_, ?_, ?_, ?_, ?_⟩
    · rw [HT.out]; exact J1.out.two Ib0.out Ib1.out (by decide) (by decide) (by repeat' (first | exact Fr.refl _ _ | refine Fr.setEq ?_ ?_ _ | exact .inl rfl | exact .inr rfl))
    · rw [HT.out]; exact J2.out.two Ib0.out Ib1.out (by decide) (by decide) (by repeat' (first | exact Fr.refl _ _ | refine Fr.setEq ?_ ?_ _ | exact .inl rfl | exact .inr rfl))
    · rw [HT.out]; exact J3.out.two Ib0.out Ib1.out (by decide) (by decide) (by repeat' (first | exact Fr.refl _ _ | refine Fr.setEq ?_ ?_ _ | exact .inl rfl | exact .inr rfl))
    · rw [HT.out]; exact KL.nil _
    · repeat' (first | exact HB1.out | refine below_set ?_ ?_ _ | omega)
  have hd : decide (k ∈ i ++ m) = false := decide_eq_false hk
  rw [hd] at HHV
  rw [if_neg hk] at HT
  clear hk hd
  have HHW := Go.Lib.hid (HHO.out w1 J2.out)
  have HWW := Go.Lib.hid (HWO.out w1 J2.out)
  clear HKY HHA HHO HWO
  generalize hwo : wo o k = o' at *
  have hko : ∃ t : Bool, decide (k ∈ o) = t ∧ (t = true ↔ k ∈ o) := ⟨_, rfl, decide_eq_true_iff⟩
  obtain ⟨t, ht, hti⟩ := hko
  rw [ht] at HHW
  have HTI := Go.Lib.hid hti
  clear ht hti hwo
  go_wp2_with fail
  refine HHV.out.mono ?_
  rintro e w2 ⟨rfl, rfl⟩
  go_wp2_with fail
  refine HHW.out.mono ?_
  rintro e w2 ⟨rfl, rfl⟩
  go_wp2_with fail
  refine HWW.out.mono ?_
  rintro e w2 ⟨v4, rfl, hk4, ho4, hb4⟩
  obtain ⟨a4, p4, rfl⟩ := hk4.form
  have b0 := Ib0.out.keep hb4
  have b1 := Ib1.out.keep hb4
  clear c0 c1 c2 c3 l0 l1
  have c0 := b0.cell 0
  have c1 := b0.cell 1
  have c2 := b0.cell 2
  have c3 := b0.cell 3
  simp only [List.getElem?_cons_zero, List.getElem?_cons_succ] at c0 c1 c2 c3
  have f := b0.frozen 2
  have l0 := b0.lt
  have l1 := b1.lt
  obtain ⟨U, hU, u0, u1, uk, ub, us⟩ := st_set b0 b1 (by decide) 2 (.slice a4 o'.length p4)
  have HU := Go.Lib.hid hU
  have Hu0 : Hid (Blk U w.heap.size [.int .i64 c, .slice a1 l1' p1, .slice a4 o'.length p4, .slice a3 l3' p3] 60) := u0
  have Hu1 := Go.Lib.hid u1
  have HSU := Go.Lib.hid (HSH.out _ U (uk _ _ (J1.out.keep hb4)) (uk _ _ hk4) (uk _ _ (J3.out.keep hb4)))
  have HBU := Go.Lib.hid (ub _ _ (Nat.le_refl _) (HB1.out.trans (hb4.mono HB1.out.size)))
  clear b0 b1 hk4 ho4 hb4 hU u0 u1 uk ub us HSH
  generalize hl4 : o'.length = l4 at *
  clear hl4
  go_wp2_with fail
  rw [← HU.out]
  refine HSU.out.mono ?_
  clear c0 c1 c2 c3 f l0 l1
  rintro e w3 ⟨x1, x2, x3, xo, rfl, g1, g2, g3, go, hb3⟩
  obtain ⟨a4, p4, rfl⟩ := g1.form
  obtain ⟨a5, p5, rfl⟩ := g2.form
  obtain ⟨a6, p6, rfl⟩ := g3.form
  obtain ⟨ao, po, rfl⟩ := go.form
  have b1 := Hu1.out.keep hb3
  have lb1 := b1.lt
  have n12 : ¬ (w.heap.size + 1 = w3.heap.size) := by omega
  have n21 : ¬ (w3.heap.size = w.heap.size + 1) := by omega
  have AL := (Below.refl w3.heap.size w3).alloc (Nat.le_refl _) (.cells #[.int .i64 c, .slice a4 ri.length p4, .slice a5 ro.length p5, .slice a6 rm.length p6] 60)
  have Hb2 : Hid (Blk (w3.alloc (.cells #[.int .i64 c, .slice a4 ri.length p4, .slice a5 ro.length p5, .slice a6 rm.length p6] 60)) w3.heap.size [.int .i64 c, .slice a4 ri.length p4, .slice a5 ro.length p5, .slice a6 rm.length p6] 60) := Go.Lib.hid (Blk.new0 w3 [.int .i64 c, .slice a4 ri.length p4, .slice a5 ro.length p5, .slice a6 rm.length p6] 60)
  have Hb12 := Go.Lib.hid (b1.keep AL)
  have HR1 := Go.Lib.hid (g1.keep AL)
  have HR2 := Go.Lib.hid (g2.keep AL)
  have HR3 := Go.Lib.hid (g3.keep AL)
  have HRO := Go.Lib.hid (go.keep AL)
  have B3 := HBU.out.trans (hb3.mono HBU.out.size)
  have HB4 := Go.Lib.hid (B3.trans (AL.mono B3.size))
  have sz3 := B3.size
  clear g1 g2 g3 go b1 AL hb3 B3
  generalize hl4 : ri.length = l4 at *
  generalize hl5 : ro.length = l5 at *
  generalize hl6 : rm.length = l6 at *
  generalize hlo : rg.length = lo at *
  have HL4 := Go.Lib.hid hl4
  have HL6 := Go.Lib.hid hl6
  clear hl4 hl5 hl6 hlo
  cases t
  · have hko : k ∉ o := fun h => by simpa using HTI.out.2 h
    rw [if_neg hko] at HT
    clear hko
    go_wp2_with fail
    refine (front_any _ ri k _ (by rw [HL4.out]; exact HRI.out) HR1.out).mono ?_
    rintro e w4 ⟨v5, rfl, hk5, ho5, hb5⟩
    obtain ⟨a7, p7, rfl⟩ := hk5.form
    generalize hl7 : (k :: wo ri k).length = l7 at *
    have b2 := Hb2.out.keep hb5
    have b1 := Hb12.out.keep hb5
    have g0 := b2.cell 0
    have g1 := b2.cell 1
    have g2 := b2.cell 2
    have g3 := b2.cell 3
    simp only [List.getElem?_cons_zero, List.getElem?_cons_succ] at g0 g1 g2 g3
    have f := b2.frozen 1
    have d0 := b1.cell 0
    have d1 := b1.cell 1
    have d2 := b1.cell 2
    have d3 := b1.cell 3
    simp only [List.getElem?_cons_zero, List.getElem?_cons_succ] at d0 d1 d2 d3
    have f0 := b1.frozen 0
    have f1 := b1.frozen 1
    have f2 := b1.frozen 2
    have f3 := b1.frozen 3
    have l2 := b2.lt
    have l3 := b1.lt
    have J1 := Go.Lib.hid (HR1.out.keep hb5)
    have J2 := Go.Lib.hid (HR2.out.keep hb5)
    have J3 := Go.Lib.hid (HR3.out.keep hb5)
    have J4 := Go.Lib.hid (HRO.out.keep hb5)
    have J5 := Go.Lib.hid hk5
    have Jb2 := Go.Lib.hid b2
    have Jb1 := Go.Lib.hid b1
    have HB5 := Go.Lib.hid (HB4.out.trans (hb5.mono HB4.out.size))
    clear b2 b1 hk5 ho5 hb5 hl7
    go_wp2_with fail
    refine bodyPost_ret (v := .tuple #[.agg #[.int .i64 c, .slice a7 l7 p7, .slice a5 l5 p5, .slice a6 l6 p6], .slice ao lo po]) (by simp [results, Try.results124, go_sem, g0, g1, g2, g3, d0, d1, d2, d3, n12, n21]) rfl ⟨_, _, _, _, rfl, ?_, ?_, ?_, ?_, ?_⟩
    · rw [HT.out]; exact J5.out.two Jb2.out Jb1.out (by decide) (by decide) (by repeat' (first | exact Fr.refl _ _ | refine Fr.setEq ?_ ?_ _ | exact .inl rfl | exact .inr rfl))
    · rw [HT.out]; exact J2.out.two Jb2.out Jb1.out (by decide) (by decide) (by repeat' (first | exact Fr.refl _ _ | refine Fr.setEq ?_ ?_ _ | exact .inl rfl | exact .inr rfl))
    · rw [HT.out]; exact J3.out.two Jb2.out Jb1.out (by decide) (by decide) (by repeat' (first | exact Fr.refl _ _ | refine Fr.setEq ?_ ?_ _ | exact .inl rfl | exact .inr rfl))
    · rw [HT.out]; exact J4.out.two Jb2.out Jb1.out (by decide) (by decide) (by repeat' (first | exact Fr.refl _ _ | refine Fr.setEq ?_ ?_ _ | exact .inl rfl | exact .inr rfl))
    · repeat' (first | exact HB5.out | refine below_set ?_ ?_ _ | omega)
  · have hko : k ∈ o := HTI.out.1 rfl
    rw [if_pos hko] at HT
    clear hko
    go_wp2_with fail
    refine (front_any _ rm k _ (by rw [HL6.out]; exact HRM.out) HR3.out).mono ?_
    rintro e w4 ⟨v5, rfl, hk5, ho5, hb5⟩
    obtain ⟨a7, p7, rfl⟩ := hk5.form
    generalize hl7 : (k :: wo rm k).length = l7 at *
    have b2 := Hb2.out.keep hb5
    have b1 := Hb12.out.keep hb5
    have g0 := b2.cell 0
    have g1 := b2.cell 1
    have g2 := b2.cell 2
    have g3 := b2.cell 3
    simp only [List.getElem?_cons_zero, List.getElem?_cons_succ] at g0 g1 g2 g3
    have f := b2.frozen 3
    have d0 := b1.cell 0
    have d1 := b1.cell 1
    have d2 := b1.cell 2
    have d3 := b1.cell 3
    simp only [List.getElem?_cons_zero, List.getElem?_cons_succ] at d0 d1 d2 d3
    have f0 := b1.frozen 0
    have f1 := b1.frozen 1
    have f2 := b1.frozen 2
    have f3 := b1.frozen 3
    have l2 := b2.lt
    have l3 := b1.lt
    have J1 := Go.Lib.hid (HR1.out.keep hb5)
    have J2 := Go.Lib.hid (HR2.out.keep hb5)
    have J3 := Go.Lib.hid (HR3.out.keep hb5)
    have J4 := Go.Lib.hid (HRO.out.keep hb5)
    have J5 := Go.Lib.hid hk5
    have Jb2 := Go.Lib.hid b2
    have Jb1 := Go.Lib.hid b1
    have HB5 := Go.Lib.hid (HB4.out.trans (hb5.mono HB4.out.size))
    clear b2 b1 hk5 ho5 hb5 hl7
    go_wp2_with fail
    refine bodyPost_ret (v := .tuple #[.agg #[.int .i64 c, .slice a4 l4 p4, .slice a5 l5 p5, .slice a7 l7 p7], .slice ao lo po]) (by simp [results, Try.results124, go_sem, g0, g1, g2, g3, d0, d1, d2, d3, n12, n21]) rfl ⟨_, _, _, _, rfl, ?_, ?_, ?_, ?_, ?_⟩
    · rw [HT.out]; exact J1.out.two Jb2.out Jb1.out (by decide) (by decide) (by repeat' (first | exact Fr.refl _ _ | refine Fr.setEq ?_ ?_ _ | exact .inl rfl | exact .inr rfl))
    · rw [HT.out]; exact J2.out.two Jb2.out Jb1.out (by decide) (by decide) (by repeat' (first | exact Fr.refl _ _ | refine Fr.setEq ?_ ?_ _ | exact .inl rfl | exact .inr rfl))
    · rw [HT.out]; exact J5.out.two Jb2.out Jb1.out (by decide) (by decide) (by repeat' (first | exact Fr.refl _ _ | refine Fr.setEq ?_ ?_ _ | exact .inl rfl | exact .inr rfl))
    · rw [HT.out]; exact J4.out.two Jb2.out Jb1.out (by decide) (by decide) (by repeat' (first | exact Fr.refl _ _ | refine Fr.setEq ?_ ?_ _ | exact .inl rfl | exact .inr rfl))
    · repeat' (first | exact HB5.out | refine below_set ?_ ?_ _ | omega)
end Go.Proofs.Ytlakojncjldpbaa
