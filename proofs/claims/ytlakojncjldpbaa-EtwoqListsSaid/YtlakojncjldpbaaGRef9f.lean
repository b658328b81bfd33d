/- The reference of two queues: Resize. -/
import Derived.Test.YtlakojncjldpbaaRef9e
namespace Go.Proofs.Ytlakojncjldpbaa
open Go.RowKit Hop
set_option linter.unusedVariables false
set_option linter.unusedSimpArgs false
set_option maxRecDepth 100000
theorem admitT_c (s : TS) (k : Int) : (admitT s k).1.c = s.c := by
  unfold admitT
  split
  · rfl
  · simp only
    split <;> rfl
theorem touchT_c (s : TS) (k : Int) : (touchT s k).c = s.c := by
  unfold touchT
  split <;> rfl
set_option maxHeartbeats 6400000 in
theorem q9resize_any (c : Int) (v1 v2 v3 : Value) (i o m : List Int) (n : Int) (w : World) (hcn : capF n ≤ 40000) (hsi : i.length + m.length < 50000) (hso : o.length < 50000) (h1 : KL w v1 i) (h2 : KL w v2 o) (h3 : KL w v3 m) :
    Calls Try.prog 126 #[.agg #[.int .i64 c, v1, v2, v3], .int .i64 n] w fun e w' => ∃ v1' v2' v3' vo, e = .returned (.tuple #[.agg #[.int .i64 (capF n), v1', v2', v3'], vo]) ∧ KL w' v1' (resizeT ⟨c, i, o, m⟩ n).1.i ∧ KL w' v2' (resizeT ⟨c, i, o, m⟩ n).1.o ∧ KL w' v3' (resizeT ⟨c, i, o, m⟩ n).1.m ∧ KL w' vo (resizeT ⟨c, i, o, m⟩ n).2 ∧ Below w.heap.size w w' := by
  obtain ⟨hcf1, hcf2⟩ := capF_in n
  obtain ⟨a1, p1, rfl⟩ := h1.form
  obtain ⟨a2, p2, rfl⟩ := h2.form
  obtain ⟨a3, p3, rfl⟩ := h3.form
  have HCA := Go.Lib.hid (fun w => cap_any n w)
  have HT : Hid (resizeT ⟨c, i, o, m⟩ n = (⟨capF n, (shrT (capF n) (i.length + m.length) ⟨capF n, i, o, m⟩).1.i, (shrT (capF n) (i.length + m.length) ⟨capF n, i, o, m⟩).1.o.take (capF n / 2).toNat, (shrT (capF n) (i.length + m.length) ⟨capF n, i, o, m⟩).1.m⟩, (shrT (capF n) (i.length + m.length) ⟨capF n, i, o, m⟩).2)) := Go.Lib.hid rfl
  generalize capF n = cf at *
  obtain ⟨W, hW, b0, b1, B0⟩ := two_blocks w [.int .i64 c, .slice a1 i.length p1, .slice a2 o.length p2, .slice a3 m.length p3] [.int .i64 0, .slice none 0 0, .slice none 0 0, .slice none 0 0] 60
  obtain ⟨U, hU, u0, u1, uk, ub, us⟩ := st_set b0 b1 (by decide) 0 (.int .i64 cf)
  have Hu0 : Hid (Blk U w.heap.size [.int .i64 cf, .slice a1 i.length p1, .slice a2 o.length p2, .slice a3 m.length p3] 60) := u0
  have Hu1 := Go.Lib.hid u1
  have HSU := Go.Lib.hid (q9shrink_any cf (.slice a1 i.length p1) (.slice a2 o.length p2) (.slice a3 m.length p3) i o m cf U ⟨hcf1, by omega⟩ ⟨by omega, by omega⟩ hso hsi (uk _ _ (h1.keep B0)) (uk _ _ (h2.keep B0)) (uk _ _ (h3.keep B0)))
  have HBU := Go.Lib.hid (ub _ _ (Nat.le_refl _) B0)
  have HW := Go.Lib.hid hW
  have HU := Go.Lib.hid hU
  have c0 := b0.cell 0
  have c1 := b0.cell 1
  have c2 := b0.cell 2
  have c3 := b0.cell 3
  simp only [List.getElem?_cons_zero, List.getElem?_cons_succ] at c0 c1 c2 c3
  have f := b0.frozen 0
  have l0 := b0.lt
  have l1 := b1.lt
  clear hW hU u0 u1 uk ub us B0 b0 b1 h1 h2 h3
  generalize shrT cf (i.length + m.length) ⟨cf, i, o, m⟩ = R at *
  obtain ⟨⟨rc, ri, ro, rm⟩, rg⟩ := R
  simp only at HSU HT
  generalize hl1 : i.length = l1' at *
  generalize hl2 : o.length = l2' at *
  generalize hl3 : m.length = l3' at *
  clear hl1 hl2 hl3
  go_enter Try.func126, Try.ntmps126
  go_wp2_with fail
  rw [← HW.out]
  refine (HCA.out _).mono ?_
  rintro e w1 ⟨rfl, rfl⟩
  go_wp2_with fail
  rw [← HU.out]
  refine HSU.out.mono ?_
  clear c0 c1 c2 c3 f l0 l1
  rintro e w3 ⟨x1, x2, x3, xo, rfl, g1, g2, g3, go, hb3⟩
  obtain ⟨a4, p4, rfl⟩ := g1.form
  obtain ⟨a5, p5, rfl⟩ := g2.form
  obtain ⟨a6, p6, rfl⟩ := g3.form
  obtain ⟨ao, po, rfl⟩ := go.form
  have b1 := Hu1.out.keep hb3
  have lb1 := b1.lt
  have n12 : ¬ (w.heap.size + 1 = w3.heap.size) := by omega
  have n21 : ¬ (w3.heap.size = w.heap.size + 1) := by omega
  have AL := (Below.refl w3.heap.size w3).alloc (Nat.le_refl _) (.cells #[.int .i64 cf, .slice a4 ri.length p4, .slice a5 ro.length p5, .slice a6 rm.length p6] 60)
  have Hb12 := Go.Lib.hid (b1.keep AL)
  have HFL := Go.Lib.hid (q9fall_any cf _ _ _ ri ro rm _ ⟨by omega, hcf2⟩ (g1.keep AL) (g2.keep AL) (g3.keep AL))
  have HRO := Go.Lib.hid (go.keep AL)
  have B3 := HBU.out.trans (hb3.mono HBU.out.size)
  have HB4 := Go.Lib.hid (B3.trans (AL.mono B3.size))
  have sz3 := B3.size
  clear g1 g2 g3 go b1 AL hb3 B3
  generalize hl4 : ri.length = l4 at *
  generalize hl5 : ro.length = l5 at *
  generalize hl6 : rm.length = l6 at *
  generalize hlo : rg.length = lo at *
  clear hl4 hl5 hl6 hlo
  go_wp2_with fail
  refine HFL.out.mono ?_
  rintro e w4 ⟨v5, rfl, hk1, hk2, hk3, how, hb5⟩
  obtain ⟨a7, p7, rfl⟩ := hk2.form
  generalize hl7 : (ro.take (cf / 2).toNat).length = l7 at *
  have b1 := Hb12.out.keep hb5
  have d0 := b1.cell 0
  have d1 := b1.cell 1
  have d2 := b1.cell 2
  have d3 := b1.cell 3
  simp only [List.getElem?_cons_zero, List.getElem?_cons_succ] at d0 d1 d2 d3
  have f0 := b1.frozen 0
  have f1 := b1.frozen 1
  have f2 := b1.frozen 2
  have f3 := b1.frozen 3
  have l3 := b1.lt
  have J1 := Go.Lib.hid hk1
  have J2 := Go.Lib.hid hk2
  have J3 := Go.Lib.hid hk3
  have J4 := Go.Lib.hid (HRO.out.keep hb5)
  have Jb1 := Go.Lib.hid b1
  have HB5 := Go.Lib.hid (HB4.out.trans (hb5.mono HB4.out.size))
  clear b1 hk1 hk2 hk3 how hb5 hl7
  go_wp2_with fail
  refine bodyPost_ret (v := .tuple #[.agg #[.int .i64 cf, .slice a4 l4 p4, .slice a7 l7 p7, .slice a6 l6 p6], .slice ao lo po]) (by simp [results, Try.results126, go_sem, d0, d1, d2, d3, n12, n21]) rfl ⟨_, _, _, _, rfl, ?_, ?_, ?_, ?_, ?_⟩
  · rw [HT.out]; exact J1.out.two Jb1.out Jb1.out (by decide) (by decide) (by repeat' (first | exact Fr.refl _ _ | refine Fr.setEq ?_ ?_ _ | exact .inl rfl | exact .inr rfl))
  · rw [HT.out]; exact J2.out.two Jb1.out Jb1.out (by decide) (by decide) (by repeat' (first | exact Fr.refl _ _ | refine Fr.setEq ?_ ?_ _ | exact .inl rfl | exact .inr rfl))
  · rw [HT.out]; exact J3.out.two Jb1.out Jb1.out (by decide) (by decide) (by repeat' (first | exact Fr.refl _ _ | refine Fr.setEq ?_ ?_ _ | exact .inl rfl | exact .inr rfl))
  · rw [HT.out]; exact J4.out.two Jb1.out Jb1.out (by decide) (by decide) (by repeat' (first | exact Fr.refl _ _ | refine Fr.setEq ?_ ?_ _ | exact .inl rfl | exact .inr rfl))
  · repeat' (first | exact HB5.out | refine below_set ?_ ?_ _ | omega)
end Go.Proofs.Ytlakojncjldpbaa

namespace Go.Proofs.Ytlakojncjldpbaa
open Go.RowKit Hop
set_option linter.unusedVariables false
set_option linter.unusedSimpArgs false
set_option maxRecDepth 100000
/-- Three lists of keys lie in three slices. -/
structure TL (w : World) (v1 v2 v3 : Value) (s : TS) : Prop where
  i : KL w v1 s.i
  o : KL w v2 s.o
  m : KL w v3 s.m
theorem TL.keep {w w' : World} {v1 v2 v3 : Value} {s : TS} (h : TL w v1 v2 v3 s) (hb : Below w.heap.size w w') : TL w' v1 v2 v3 s := ⟨h.i.keep hb, h.o.keep hb, h.m.keep hb⟩
theorem three_blocks (w : World) (X : List Value) (T : Nat) (Y : List Value) (T' : Nat) (V : List Value) (T'' : Nat) : ∃ W, W = ((w.alloc (.cells X.toArray T)).alloc (.cells Y.toArray T')).alloc (.cells V.toArray T'') ∧ Blk W w.heap.size X T ∧ Blk W (w.heap.size + 1) Y T' ∧ Blk W (w.heap.size + 1 + 1) V T'' ∧ Below w.heap.size w W :=
  ⟨_, rfl, ((Blk.new0 w X T).alloc _).alloc _, (Blk.new1 w _ Y T').alloc _, Blk.new2 w _ _ V T'', (((Below.refl w.heap.size w).alloc (Nat.le_refl _) _).alloc (by simp) _).alloc (by simp; omega) _⟩
set_option maxHeartbeats 6400000 in
theorem q9do_any (s : TS) (v1 v2 v3 : Value) (x : Ac) (w : World) (hx : x.ok) (hs : s.ok) (h : TL w v1 v2 v3 s) :
    Calls Try.prog 45 #[.agg #[.int .i64 s.c, v1, v2, v3], .agg #[.int .u8 x.kind, .int .u64 x.key, .int .u16 x.n]] w fun e w' => ∃ v1' v2' v3' vo, e = .returned (.tuple #[.agg #[.int .i64 (doT s x).1.c, v1', v2', v3'], vo]) ∧ TL w' v1' v2' v3' (doT s x).1 ∧ KL w' vo (doT s x).2 ∧ Below w.heap.size w w' := by
  obtain ⟨c, i, o, m⟩ := s
  obtain ⟨kd, k, n⟩ := x
  obtain ⟨hx1, hx2, hx3⟩ := hx
  obtain ⟨hs1, hs2, hs3, hs4⟩ := hs
  obtain ⟨h1, h2, h3⟩ := h
  have hz := sizeF_in hx3.1
  have hcz := capF_id hz
  simp only at h1 h2 h3 hs1 hs2 hs3 hs4 hx1 hx2 hx3 hz hcz ⊢
  obtain ⟨a1, p1, rfl⟩ := h1.form
  obtain ⟨a2, p2, rfl⟩ := h2.form
  obtain ⟨a3, p3, rfl⟩ := h3.form
  obtain ⟨W, hW, b0, b1, b2, B0⟩ := three_blocks w [.int .i64 c, .slice a1 i.length p1, .slice a2 o.length p2, .slice a3 m.length p3] 60 [.int .u8 kd, .int .u64 k, .int .u16 n] 34 [.int .i64 0, .slice none 0 0, .slice none 0 0, .slice none 0 0] 60
  have k1 := h1.keep B0
  have k2 := h2.keep B0
  have k3 := h3.keep B0
  have hBd : Below W.heap.size W W.drew := (Below.refl _ _).drew
  have HKY := Go.Lib.hid (q9keys_any c (.slice a1 i.length p1) (.slice a2 o.length p2) (.slice a3 m.length p3) i m W.drew (by omega) (by omega) (k1.keep hBd) (k3.keep hBd))
  have HHA := Go.Lib.hid (fun v w h => has_any v (i ++ m) k w h)
  have HKD := Go.Lib.hid (fun t w => kind_any kd k n t w hx1)
  have HCT := Go.Lib.hid (fun w h1 h2 h3 => q9touch_any c (.slice a1 i.length p1) (.slice a2 o.length p2) (.slice a3 m.length p3) i o m k w (by omega) h1 h2 h3)
  have HCA := Go.Lib.hid (fun w h1 h2 h3 => q9admit_any c (.slice a1 i.length p1) (.slice a2 o.length p2) (.slice a3 m.length p3) i o m k w ⟨hs1, by omega⟩ (by omega) (by omega) h1 h2 h3)
  have HCD := Go.Lib.hid (fun w h1 h2 h3 => q9drop_any c (.slice a1 i.length p1) (.slice a2 o.length p2) (.slice a3 m.length p3) i o m k w (by omega) (by omega) (by omega) h1 h2 h3)
  have HCR := Go.Lib.hid (fun w h1 h2 h3 => q9resize_any c (.slice a1 i.length p1) (.slice a2 o.length p2) (.slice a3 m.length p3) i o m (sizeF n) w (by omega) (by omega) (by omega) h1 h2 h3)
  have HSZ := Go.Lib.hid (fun w => sizeof_any kd k n w hx3)
  have HD : Hid (doT ⟨c, i, o, m⟩ ⟨kd, k, n⟩ = if kindF kd (decide (k ∈ i ++ m)) = 1 then (touchT ⟨c, i, o, m⟩ k, []) else if kindF kd (decide (k ∈ i ++ m)) = 2 then admitT ⟨c, i, o, m⟩ k else if kindF kd (decide (k ∈ i ++ m)) = 3 then (dropT ⟨c, i, o, m⟩ k, []) else resizeT ⟨c, i, o, m⟩ (sizeF n)) := Go.Lib.hid rfl
  have HTC := Go.Lib.hid (touchT_c ⟨c, i, o, m⟩ k)
  have HAC := Go.Lib.hid (admitT_c ⟨c, i, o, m⟩ k)
  have HDC : Hid (dropT ⟨c, i, o, m⟩ k = ⟨c, wo i k, wo o k, wo m k⟩) := Go.Lib.hid rfl
  have HRC : Hid ((resizeT ⟨c, i, o, m⟩ (sizeF n)).1.c = capF (sizeF n)) := Go.Lib.hid rfl
  generalize touchT ⟨c, i, o, m⟩ k = rT at *
  generalize admitT ⟨c, i, o, m⟩ k = rA at *
  generalize resizeT ⟨c, i, o, m⟩ (sizeF n) = rR at *
  generalize dropT ⟨c, i, o, m⟩ k = rD at *
  generalize i.length = l1 at *
  generalize o.length = l2 at *
  generalize m.length = l3 at *
  generalize decide (k ∈ i ++ m) = there at *
  have K1 := Go.Lib.hid k1
  have K2 := Go.Lib.hid k2
  have K3 := Go.Lib.hid k3
  have HB0 := Go.Lib.hid B0
  have HW := Go.Lib.hid hW
  have Hb0 := Go.Lib.hid b0
  have Hb1 := Go.Lib.hid b1
  have Hb2 := Go.Lib.hid b2
  have HBd := Go.Lib.hid hBd
  have SS : ∀ W', Below W.heap.size W W' → (W'.cell? ⟨w.heap.size, 0, none⟩ = some (.int .i64 c) ∧ W'.cell? ⟨w.heap.size, 1, none⟩ = some (.slice a1 l1 p1) ∧ W'.cell? ⟨w.heap.size, 2, none⟩ = some (.slice a2 l2 p2) ∧ W'.cell? ⟨w.heap.size, 3, none⟩ = some (.slice a3 l3 p3) ∧ W'.cell? ⟨w.heap.size + 1, 0, none⟩ = some (.int .u8 kd) ∧ W'.cell? ⟨w.heap.size + 1, 1, none⟩ = some (.int .u64 k) ∧ W'.cell? ⟨w.heap.size + 1, 2, none⟩ = some (.int .u16 n)) := fun W' hb =>
    have q0 := b0.keep hb
    have q1 := b1.keep hb
    ⟨q0.cell 0, q0.cell 1, q0.cell 2, q0.cell 3, q1.cell 0, q1.cell 1, q1.cell 2⟩
  have HS1 := Go.Lib.hid (fun W' (hb : Below W.drew.heap.size W.drew W') => SS W' (hBd.trans hb))
  have HS0 := Go.Lib.hid (SS _ hBd)
  clear hW B0 h1 h2 h3 k1 k2 k3 b0 b1 b2 hBd SS hx1 hx2 hx3 hs1 hs2 hs3 hs4 hz hcz
  go_enter Try.func45, Try.ntmps45
  go_wp2_with fail
  rw [← HW.out]
  go_region_held3 (fun W' => (W'.cell? ⟨w.heap.size, 0, none⟩ = some (.int .i64 c) ∧ W'.cell? ⟨w.heap.size, 1, none⟩ = some (.slice a1 l1 p1) ∧ W'.cell? ⟨w.heap.size, 2, none⟩ = some (.slice a2 l2 p2) ∧ W'.cell? ⟨w.heap.size, 3, none⟩ = some (.slice a3 l3 p3) ∧ W'.cell? ⟨w.heap.size + 1, 0, none⟩ = some (.int .u8 kd) ∧ W'.cell? ⟨w.heap.size + 1, 1, none⟩ = some (.int .u64 k) ∧ W'.cell? ⟨w.heap.size + 1, 2, none⟩ = some (.int .u16 n)))
    (first | with_reducible exact HS1.out _ hb3' | with_reducible exact HS1.out _ hb1 | exact HS0.out)
    (first | (go_at_call 48; refine HKY.out.mono ?_; rintro e w1 ⟨vk, rfl, hkk, hb1⟩) | (go_at_call 33; refine (HHA.out _ _ hkk).mono ?_; rintro e w2 ⟨rfl, rfl⟩) | (go_at_call 94; refine (HKD.out _ _).mono ?_; rintro e w3 ⟨rfl, hb3⟩; have hb3' := hb1.trans (hb3.mono hb1.size)))
  have HB1 := Go.Lib.hid (HBd.out.trans hb3')
  clear hkk hb1 hb3 hb3'
  generalize kindF kd there = kk at *
  have b0 := Hb0.out.keep HB1.out
  have b1 := Hb1.out.keep HB1.out
  have c0 := b0.cell 0
  have c1 := b0.cell 1
  have c2 := b0.cell 2
  have c3 := b0.cell 3
  simp only [List.getElem?_cons_zero, List.getElem?_cons_succ] at c0 c1 c2 c3
  have g0 := b1.cell 0
  have g1 := b1.cell 1
  have g2 := b1.cell 2
  simp only [List.getElem?_cons_zero, List.getElem?_cons_succ] at g0 g1 g2
  have l0 := b0.lt
  have l1' := b1.lt
  have Kb0 := Go.Lib.hid b0
  have Kb1 := Go.Lib.hid b1
  have Hb2' := Go.Lib.hid (Hb2.out.keep HB1.out)
  have l2' := Hb2'.out.lt
  have Q1 := Go.Lib.hid (K1.out.keep HB1.out)
  have Q2 := Go.Lib.hid (K2.out.keep HB1.out)
  have Q3 := Go.Lib.hid (K3.out.keep HB1.out)
  have HBw := Go.Lib.hid (HB0.out.trans (HB1.out.mono HB0.out.size))
  clear b0 b1
  by_cases h1 : kk = 1
  · subst h1
    rw [if_pos rfl] at HD
    go_wp2_with fail
    refine (HCT.out _ Q1.out Q2.out Q3.out).mono ?_
    rintro e w3 ⟨v4, v5, v6, rfl, hk1, hk2, hk3, hb3⟩
    obtain ⟨a4, p4, rfl⟩ := hk1.form
    obtain ⟨a5, p5, rfl⟩ := hk2.form
    obtain ⟨a6, p6, rfl⟩ := hk3.form
    have b2 := Hb2'.out.keep hb3
    have d0 := b2.cell 0
    have d1 := b2.cell 1
    have d2 := b2.cell 2
    have d3 := b2.cell 3
    simp only [List.getElem?_cons_zero, List.getElem?_cons_succ] at d0 d1 d2 d3
    have f0 := b2.frozen 0
    have f1 := b2.frozen 1
    have f2 := b2.frozen 2
    have f3 := b2.frozen 3
    have l3 := b2.lt
    have J1 := Go.Lib.hid hk1
    have J2 := Go.Lib.hid hk2
    have J3 := Go.Lib.hid hk3
    have Jb := Go.Lib.hid b2
    have HB3 := Go.Lib.hid (HBw.out.trans (hb3.mono HBw.out.size))
    clear b2 hk1 hk2 hk3 hb3
    generalize hm4 : rT.i.length = m4 at *
    generalize hm5 : rT.o.length = m5 at *
    generalize hm6 : rT.m.length = m6 at *
    clear hm4 hm5 hm6
    clear c0 c1 c2 c3 g0 g1 g2
    go_wp2_with fail
    refine bodyPost_ret (v := .tuple #[.agg #[.int .i64 c, .slice a4 m4 p4, .slice a5 m5 p5, .slice a6 m6 p6], .slice none 0 0]) (by simp [results, Try.results45, go_sem, d0, d1, d2, d3]) rfl ⟨.slice a4 m4 p4, .slice a5 m5 p5, .slice a6 m6 p6, .slice none 0 0, by rw [HD.out]; simp only [HTC.out], ?_, ?_, ?_⟩
    · rw [HD.out]
      exact ⟨J1.out.two Jb.out Jb.out (by decide) (by decide) (by repeat' (first | exact Fr.refl _ _ | refine Fr.setEq ?_ ?_ _ | exact .inl rfl | exact .inr rfl)), J2.out.two Jb.out Jb.out (by decide) (by decide) (by repeat' (first | exact Fr.refl _ _ | refine Fr.setEq ?_ ?_ _ | exact .inl rfl | exact .inr rfl)), J3.out.two Jb.out Jb.out (by decide) (by decide) (by repeat' (first | exact Fr.refl _ _ | refine Fr.setEq ?_ ?_ _ | exact .inl rfl | exact .inr rfl))⟩
    · rw [HD.out]
      exact KL.nil _
    · repeat' (first | exact HB3.out | refine below_set ?_ ?_ _ | omega)
  · rw [if_neg h1] at HD
    by_cases h2 : kk = 2
    · subst h2
      rw [if_pos rfl] at HD
      go_wp2_with fail
      refine (HCA.out _ Q1.out Q2.out Q3.out).mono ?_
      rintro e w3 ⟨v4, v5, v6, vo, rfl, hk1, hk2, hk3, hko, hb3⟩
      obtain ⟨a4, p4, rfl⟩ := hk1.form
      obtain ⟨a5, p5, rfl⟩ := hk2.form
      obtain ⟨a6, p6, rfl⟩ := hk3.form
      obtain ⟨ao, po, rfl⟩ := hko.form
      have b2 := Hb2'.out.keep hb3
      have d0 := b2.cell 0
      have d1 := b2.cell 1
      have d2 := b2.cell 2
      have d3 := b2.cell 3
      simp only [List.getElem?_cons_zero, List.getElem?_cons_succ] at d0 d1 d2 d3
      have f0 := b2.frozen 0
      have f1 := b2.frozen 1
      have f2 := b2.frozen 2
      have f3 := b2.frozen 3
      have l3 := b2.lt
      have J1 := Go.Lib.hid hk1
      have J2 := Go.Lib.hid hk2
      have J3 := Go.Lib.hid hk3
      have J4 := Go.Lib.hid hko
      have Jb := Go.Lib.hid b2
      have HB3 := Go.Lib.hid (HBw.out.trans (hb3.mono HBw.out.size))
      clear b2 hk1 hk2 hk3 hb3 hko
      generalize hm4 : rA.1.i.length = m4 at *
      generalize hm5 : rA.1.o.length = m5 at *
      generalize hm6 : rA.1.m.length = m6 at *
      generalize hmo : rA.2.length = mo at *
      clear hm4 hm5 hm6 hmo
      clear c0 c1 c2 c3 g0 g1 g2
      go_wp2_with fail
      refine bodyPost_ret (v := .tuple #[.agg #[.int .i64 c, .slice a4 m4 p4, .slice a5 m5 p5, .slice a6 m6 p6], .slice ao mo po]) (by simp [results, Try.results45, go_sem, d0, d1, d2, d3]) rfl ⟨.slice a4 m4 p4, .slice a5 m5 p5, .slice a6 m6 p6, .slice ao mo po, by rw [HD.out, HAC.out], ?_, ?_, ?_⟩
      · rw [HD.out]
        exact ⟨J1.out.two Jb.out Jb.out (by decide) (by decide) (by repeat' (first | exact Fr.refl _ _ | refine Fr.setEq ?_ ?_ _ | exact .inl rfl | exact .inr rfl)), J2.out.two Jb.out Jb.out (by decide) (by decide) (by repeat' (first | exact Fr.refl _ _ | refine Fr.setEq ?_ ?_ _ | exact .inl rfl | exact .inr rfl)), J3.out.two Jb.out Jb.out (by decide) (by decide) (by repeat' (first | exact Fr.refl _ _ | refine Fr.setEq ?_ ?_ _ | exact .inl rfl | exact .inr rfl))⟩
      · rw [HD.out]
        exact J4.out.two Jb.out Jb.out (by decide) (by decide) (by repeat' (first | exact Fr.refl _ _ | refine Fr.setEq ?_ ?_ _ | exact .inl rfl | exact .inr rfl))
      · repeat' (first | exact HB3.out | refine below_set ?_ ?_ _ | omega)
    · rw [if_neg h2] at HD
      by_cases h3 : kk = 3
      · subst h3
        rw [if_pos rfl, HDC.out] at HD
        go_wp2_with fail
        refine (HCD.out _ Q1.out Q2.out Q3.out).mono ?_
        rintro e w3 ⟨v4, v5, v6, rfl, hk1, hk2, hk3, hb3⟩
        obtain ⟨a4, p4, rfl⟩ := hk1.form
        obtain ⟨a5, p5, rfl⟩ := hk2.form
        obtain ⟨a6, p6, rfl⟩ := hk3.form
        have b2 := Hb2'.out.keep hb3
        have d0 := b2.cell 0
        have d1 := b2.cell 1
        have d2 := b2.cell 2
        have d3 := b2.cell 3
        simp only [List.getElem?_cons_zero, List.getElem?_cons_succ] at d0 d1 d2 d3
        have f0 := b2.frozen 0
        have f1 := b2.frozen 1
        have f2 := b2.frozen 2
        have f3 := b2.frozen 3
        have l3 := b2.lt
        have J1 := Go.Lib.hid hk1
        have J2 := Go.Lib.hid hk2
        have J3 := Go.Lib.hid hk3
        have Jb := Go.Lib.hid b2
        have HB3 := Go.Lib.hid (HBw.out.trans (hb3.mono HBw.out.size))
        clear b2 hk1 hk2 hk3 hb3
        generalize hm4 : (wo i k).length = m4 at *
        generalize hm5 : (wo o k).length = m5 at *
        generalize hm6 : (wo m k).length = m6 at *
        clear hm4 hm5 hm6
        clear c0 c1 c2 c3 g0 g1 g2
        go_wp2_with fail
        refine bodyPost_ret (v := .tuple #[.agg #[.int .i64 c, .slice a4 m4 p4, .slice a5 m5 p5, .slice a6 m6 p6], .slice none 0 0]) (by simp [results, Try.results45, go_sem, d0, d1, d2, d3]) rfl ⟨.slice a4 m4 p4, .slice a5 m5 p5, .slice a6 m6 p6, .slice none 0 0, by rw [HD.out], ?_, ?_, ?_⟩
        · rw [HD.out]
          exact ⟨J1.out.two Jb.out Jb.out (by decide) (by decide) (by repeat' (first | exact Fr.refl _ _ | refine Fr.setEq ?_ ?_ _ | exact .inl rfl | exact .inr rfl)), J2.out.two Jb.out Jb.out (by decide) (by decide) (by repeat' (first | exact Fr.refl _ _ | refine Fr.setEq ?_ ?_ _ | exact .inl rfl | exact .inr rfl)), J3.out.two Jb.out Jb.out (by decide) (by decide) (by repeat' (first | exact Fr.refl _ _ | refine Fr.setEq ?_ ?_ _ | exact .inl rfl | exact .inr rfl))⟩
        · rw [HD.out]
          exact KL.nil _
        · repeat' (first | exact HB3.out | refine below_set ?_ ?_ _ | omega)
      · rw [if_neg h3] at HD
        have SS : ∀ W', Blk W' w.heap.size [.int .i64 c, .slice a1 l1 p1, .slice a2 l2 p2, .slice a3 l3 p3] 60 → Blk W' (w.heap.size + 1) [.int .u8 kd, .int .u64 k, .int .u16 n] 34 → (W'.cell? ⟨w.heap.size, 0, none⟩ = some (.int .i64 c) ∧ W'.cell? ⟨w.heap.size, 1, none⟩ = some (.slice a1 l1 p1) ∧ W'.cell? ⟨w.heap.size, 2, none⟩ = some (.slice a2 l2 p2) ∧ W'.cell? ⟨w.heap.size, 3, none⟩ = some (.slice a3 l3 p3) ∧ W'.cell? ⟨w.heap.size + 1, 0, none⟩ = some (.int .u8 kd) ∧ W'.cell? ⟨w.heap.size + 1, 1, none⟩ = some (.int .u64 k) ∧ W'.cell? ⟨w.heap.size + 1, 2, none⟩ = some (.int .u16 n)) := fun W' q0 q1 => ⟨q0.cell 0, q0.cell 1, q0.cell 2, q0.cell 3, q1.cell 0, q1.cell 1, q1.cell 2⟩
        have hBd : Below w3.heap.size w3 w3.drew := (Below.refl _ _).drew
        have T1 := fun W' (hb : Below w3.drew.heap.size w3.drew W') => SS W' (Kb0.out.keep (hBd.trans hb)) (Kb1.out.keep (hBd.trans hb))
        have T4 := fun W' u0 u1 u2 u3 (hb : Below w3.drew.heap.size w3.drew W') => SS _ (((((Kb0.out.keep (hBd.trans hb)).set_ne (a := ⟨w.heap.size + 1 + 1, 0, none⟩) (by show w.heap.size ≠ w.heap.size + 1 + 1; omega) u0).set_ne (a := ⟨w.heap.size + 1 + 1, 1, none⟩) (by show w.heap.size ≠ w.heap.size + 1 + 1; omega) u1).set_ne (a := ⟨w.heap.size + 1 + 1, 2, none⟩) (by show w.heap.size ≠ w.heap.size + 1 + 1; omega) u2).set_ne (a := ⟨w.heap.size + 1 + 1, 3, none⟩) (by show w.heap.size ≠ w.heap.size + 1 + 1; omega) u3) (((((Kb1.out.keep (hBd.trans hb)).set_ne (a := ⟨w.heap.size + 1 + 1, 0, none⟩) (by show w.heap.size + 1 ≠ w.heap.size + 1 + 1; omega) u0).set_ne (a := ⟨w.heap.size + 1 + 1, 1, none⟩) (by show w.heap.size + 1 ≠ w.heap.size + 1 + 1; omega) u1).set_ne (a := ⟨w.heap.size + 1 + 1, 2, none⟩) (by show w.heap.size + 1 ≠ w.heap.size + 1 + 1; omega) u2).set_ne (a := ⟨w.heap.size + 1 + 1, 3, none⟩) (by show w.heap.size + 1 ≠ w.heap.size + 1 + 1; omega) u3)
        have HT1 := Go.Lib.hid T1
        have HT4 := Go.Lib.hid T4
        have HT0 := Go.Lib.hid (T1 _ (Below.refl _ _))
        have HBd3 := Go.Lib.hid hBd
        have HCR' := Go.Lib.hid (fun W' (hb : Below w3.drew.heap.size w3.drew W') => HCR.out W' (Q1.out.keep (hBd.trans hb)) (Q2.out.keep (hBd.trans hb)) (Q3.out.keep (hBd.trans hb)))
        clear SS hBd T1 T4
        generalize hr4 : rR.1.i.length = m4 at *
        generalize hr5 : rR.1.o.length = m5 at *
        generalize hr6 : rR.1.m.length = m6 at *
        generalize hr7 : rR.2.length = mo at *
        have HM : Hid (rR.1.i.length = m4 ∧ rR.1.o.length = m5 ∧ rR.1.m.length = m6 ∧ rR.2.length = mo) := Go.Lib.hid ⟨hr4, hr5, hr6, hr7⟩
        clear hr4 hr5 hr6 hr7
        go_wp2_with fail
        go_region_held3 (fun W' => (W'.cell? ⟨w.heap.size, 0, none⟩ = some (.int .i64 c) ∧ W'.cell? ⟨w.heap.size, 1, none⟩ = some (.slice a1 l1 p1) ∧ W'.cell? ⟨w.heap.size, 2, none⟩ = some (.slice a2 l2 p2) ∧ W'.cell? ⟨w.heap.size, 3, none⟩ = some (.slice a3 l3 p3) ∧ W'.cell? ⟨w.heap.size + 1, 0, none⟩ = some (.int .u8 kd) ∧ W'.cell? ⟨w.heap.size + 1, 1, none⟩ = some (.int .u64 k) ∧ W'.cell? ⟨w.heap.size + 1, 2, none⟩ = some (.int .u16 n)))
          (first | with_reducible exact HT4.out _ _ _ _ _ hb5' | with_reducible exact HT1.out _ hb5' | with_reducible exact HT1.out _ hb4 | exact HT0.out)
          (first | (go_at_call 100; refine (HSZ.out _).mono ?_; rintro e w4 ⟨rfl, hb4⟩) | (go_at_call 126; refine (HCR'.out _ hb4).mono ?_; rintro e w5 ⟨v4, v5, v6, vo, rfl, hk1, hk2, hk3, hko, hb5⟩; obtain ⟨a4, p4, rfl⟩ := hk1.form; obtain ⟨a5, p5, rfl⟩ := hk2.form; obtain ⟨a6, p6, rfl⟩ := hk3.form; obtain ⟨ao, po, rfl⟩ := hko.form; rw [HM.out.1] at hk1 ⊢; rw [HM.out.2.1] at hk2 ⊢; rw [HM.out.2.2.1] at hk3 ⊢; rw [HM.out.2.2.2] at hko ⊢; have hb5' := hb4.trans (hb5.mono hb4.size); have b2 := Hb2'.out.keep (HBd3.out.trans hb5'); have d0 := b2.cell 0; have d1 := b2.cell 1; have d2 := b2.cell 2; have d3 := b2.cell 3; have f0 := b2.frozen 0; have f1 := b2.frozen 1; have f2 := b2.frozen 2; have f3 := b2.frozen 3; simp only [List.getElem?_cons_zero, List.getElem?_cons_succ] at d0 d1 d2 d3; have l3 := b2.lt))
        have J1 := Go.Lib.hid hk1
        have J2 := Go.Lib.hid hk2
        have J3 := Go.Lib.hid hk3
        have J4 := Go.Lib.hid hko
        have Jb := Go.Lib.hid b2
        have HB3 := Go.Lib.hid (HBw.out.trans ((HBd3.out.trans hb5').mono HBw.out.size))
        clear b2 hk1 hk2 hk3 hko hb5 hb5' hb4 c0 c1 c2 c3 g0 g1 g2
        go_wp2_with fail
        refine bodyPost_ret (v := .tuple #[.agg #[.int .i64 (capF (sizeF n)), .slice a4 m4 p4, .slice a5 m5 p5, .slice a6 m6 p6], .slice ao mo po]) (by simp [results, Try.results45, go_sem, d0, d1, d2, d3]) rfl ⟨.slice a4 m4 p4, .slice a5 m5 p5, .slice a6 m6 p6, .slice ao mo po, by rw [HD.out, HRC.out], ?_, ?_, ?_⟩
        · rw [HD.out]
          exact ⟨J1.out.two Jb.out Jb.out (by decide) (by decide) (by repeat' (first | exact Fr.refl _ _ | refine Fr.setEq ?_ ?_ _ | exact .inl rfl | exact .inr rfl)), J2.out.two Jb.out Jb.out (by decide) (by decide) (by repeat' (first | exact Fr.refl _ _ | refine Fr.setEq ?_ ?_ _ | exact .inl rfl | exact .inr rfl)), J3.out.two Jb.out Jb.out (by decide) (by decide) (by repeat' (first | exact Fr.refl _ _ | refine Fr.setEq ?_ ?_ _ | exact .inl rfl | exact .inr rfl))⟩
        · rw [HD.out]
          exact J4.out.two Jb.out Jb.out (by decide) (by decide) (by repeat' (first | exact Fr.refl _ _ | refine Fr.setEq ?_ ?_ _ | exact .inl rfl | exact .inr rfl))
        · repeat' (first | exact HB3.out | refine below_set ?_ ?_ _ | omega)
end Go.Proofs.Ytlakojncjldpbaa
