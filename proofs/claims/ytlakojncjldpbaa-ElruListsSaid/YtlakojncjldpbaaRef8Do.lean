/- The reference of lru: Do. -/
import Derived.Test.YtlakojncjldpbaaRef8
namespace Go.Proofs.Ytlakojncjldpbaa
open Go.RowKit Hop
set_option linter.unusedVariables false
set_option linter.unusedSimpArgs false
set_option maxRecDepth 100000
/-- An act. -/
structure Ac where
  kind : Int
  key : Int
  n : Int
def Ac.ok (a : Ac) : Prop := (0 ≤ a.kind ∧ a.kind < 256) ∧ (0 ≤ a.key ∧ a.key < 18446744073709551616) ∧ (0 ≤ a.n ∧ a.n < 65536)
structure LS where
  c : Int
  l : List Int
def doS (s : LS) (a : Ac) : LS × List Int :=
  let k := kindF a.kind (decide (a.key ∈ s.l))
  if k = 1 then (⟨s.c, touchL s.l a.key⟩, [])
  else if k = 2 then (⟨s.c, admitL s.c s.l a.key⟩, admitO s.c s.l a.key)
  else if k = 3 then (⟨s.c, wo s.l a.key⟩, [])
  else (⟨capF (sizeF a.n), s.l.take (capF (sizeF a.n)).toNat⟩, fallL s.l (capF (sizeF a.n)))
set_option maxHeartbeats 3200000 in
theorem r8do_any (s : LS) (v : Value) (x : Ac) (w : World) (hx : x.ok) (hc : 1 ≤ s.c ∧ s.c ≤ 1048576) (hsm : s.l.length < 50000) (h : KL w v s.l) :
    Calls Try.prog 23 #[.agg #[.int .i64 s.c, v], .agg #[.int .u8 x.kind, .int .u64 x.key, .int .u16 x.n]] w fun e w' => ∃ v' vo, e = .returned (.tuple #[.agg #[.int .i64 (doS s x).1.c, v'], vo]) ∧ KL w' v' (doS s x).1.l ∧ KL w' vo (doS s x).2 ∧ Below w.heap.size w w' := by
  obtain ⟨c, L⟩ := s
  obtain ⟨kd, k, n⟩ := x
  obtain ⟨hx1, hx2, hx3⟩ := hx
  simp only at h hc hsm hx1 hx2 hx3 ⊢
  obtain ⟨a, cap, rfl⟩ := h.form
  generalize hv : Value.slice a L.length cap = v at *
  have B0 := (((Below.refl w.heap.size w).alloc (Nat.le_refl _) (.cells #[.int .i64 c, v] 28)).alloc (by simp) (.cells #[.int .u8 kd, .int .u64 k, .int .u16 n] 34)).alloc (by simp; omega) (.cells #[.int .i64 0, .slice none 0 0] 28)
  obtain ⟨W, hW⟩ : ∃ W, W = ((w.alloc (.cells #[.int .i64 c, v] 28)).alloc (.cells #[.int .u8 kd, .int .u64 k, .int .u16 n] 34)).alloc (.cells #[.int .i64 0, .slice none 0 0] 28) := ⟨_, rfl⟩
  have b0 : Blk W w.heap.size [.int .i64 c, v] 28 := by rw [hW]; exact ((Blk.new0 w [.int .i64 c, v] 28).alloc _).alloc _
  have b1 : Blk W (w.heap.size + 1) [.int .u8 kd, .int .u64 k, .int .u16 n] 34 := by rw [hW]; exact (Blk.new1 w (.cells #[.int .i64 c, v] 28) [.int .u8 kd, .int .u64 k, .int .u16 n] 34).alloc _
  have b2 : Blk W (w.heap.size + 1 + 1) [.int .i64 0, .slice none 0 0] 28 := by rw [hW]; exact Blk.new2 w (.cells #[.int .i64 c, v] 28) (.cells #[.int .u8 kd, .int .u64 k, .int .u16 n] 34) [.int .i64 0, .slice none 0 0] 28
  rw [← hW] at B0
  have hHW : KL W v L := h.keep B0
  have HH := Go.Lib.hid hHW
  have HB0 := Go.Lib.hid B0
  have HW := Go.Lib.hid hW
  have Hb0 := Go.Lib.hid b0
  have Hb1 := Go.Lib.hid b1
  have Hb2 := Go.Lib.hid b2
  have g00 := b0.cell 0
  have g01 := b0.cell 1
  have g10 := b1.cell 0
  have g11 := b1.cell 1
  have g12 := b1.cell 2
  simp only [List.getElem?_cons_zero, List.getElem?_cons_succ] at g00 g01 g10 g11 g12
  have HA := Go.Lib.hid (fun W' h' => has_any v L k W' h')
  have HKD := Go.Lib.hid (fun t w => kind_any kd k n t w hx1)
  have HHd : Hid (KL W.drew v L) := Go.Lib.hid (hHW.keep (Below.refl _ _).drew)
  have hBd : Below W.heap.size W W.drew := (Below.refl _ _).drew
  have HBd := Go.Lib.hid hBd
  have HX := Go.Lib.hid hx3
  have S1 := fun W' (hb : Below W.drew.heap.size W.drew W') =>
    have q : Below W.heap.size W W' := hBd.trans hb
    (⟨(b0.keep q).cell 1, (b1.keep q).cell 0, (b1.keep q).cell 1, (b1.keep q).cell 2, q⟩ : W'.cell? ⟨w.heap.size, 1, none⟩ = some v ∧ W'.cell? ⟨w.heap.size + 1, 0, none⟩ = some (.int .u8 kd) ∧ W'.cell? ⟨w.heap.size + 1, 1, none⟩ = some (.int .u64 k) ∧ W'.cell? ⟨w.heap.size + 1, 2, none⟩ = some (.int .u16 n) ∧ Below W.heap.size W W')
  have HS1 := Go.Lib.hid S1
  have l0 := b0.lt
  have l1 := b1.lt
  have l2 := b2.lt
  subst hv
  clear hHW hW b0 b1 b2 B0 h hBd hx3 hx1 S1
  go_enter Try.func23, Try.ntmps23
  go_wp2_with fail
  rw [← HW.out]
  go_region_held3 (fun W' => W'.cell? ⟨w.heap.size, 1, none⟩ = some (.slice a L.length cap) ∧ W'.cell? ⟨w.heap.size + 1, 0, none⟩ = some (.int .u8 kd) ∧ W'.cell? ⟨w.heap.size + 1, 1, none⟩ = some (.int .u64 k) ∧ W'.cell? ⟨w.heap.size + 1, 2, none⟩ = some (.int .u16 n) ∧ Below W.heap.size W W')
    (first | with_reducible exact HS1.out _ hb1 | exact ⟨g01, g10, g11, g12, HBd.out⟩)
    (first | (go_at_call 33; refine (HA.out _ HHd.out).mono ?_; rintro e w1 ⟨rfl, rfl⟩) | (go_at_call 94; refine (HKD.out _ _).mono ?_; rintro e w1 ⟨rfl, hb1⟩))
  have HB1 := Go.Lib.hid (HBd.out.trans hb1)
  clear hb1 g00 g01 g10 g11 g12
  have HD : Hid (doS ⟨c, L⟩ ⟨kd, k, n⟩ = if kindF kd (decide (k ∈ L)) = 1 then (⟨c, touchL L k⟩, []) else if kindF kd (decide (k ∈ L)) = 2 then (⟨c, admitL c L k⟩, admitO c L k) else if kindF kd (decide (k ∈ L)) = 3 then (⟨c, wo L k⟩, []) else (⟨capF (sizeF n), L.take (capF (sizeF n)).toNat⟩, fallL L (capF (sizeF n)))) := Go.Lib.hid rfl
  generalize kindF kd (decide (k ∈ L)) = kk at *
  have K1 := HH.out.keep HB1.out
  have b0 := Hb0.out.keep HB1.out
  have b1 := Hb1.out.keep HB1.out
  have b2 := Hb2.out.keep HB1.out
  have g00 := b0.cell 0
  have g01 := b0.cell 1
  have g10 := b1.cell 0
  have g11 := b1.cell 1
  have g12 := b1.cell 2
  simp only [List.getElem?_cons_zero, List.getElem?_cons_succ] at g00 g01 g10 g11 g12
  have l0 := b0.lt
  have l1 := b1.lt
  have l2 := b2.lt
  have HK1 := Go.Lib.hid K1
  have Hb2' := Go.Lib.hid b2
  have HBw := Go.Lib.hid (HB0.out.trans (HB1.out.mono HB0.out.size))
  clear b0 b1 b2 K1
  by_cases h1 : kk = 1
  · subst h1
    rw [if_pos rfl] at HD
    go_wp2_with fail
    refine (r8touch_any c _ L k w1 hsm HK1.out).mono ?_
    rintro e w3 ⟨v3, rfl, hk3, hb3⟩
    obtain ⟨a3, cap3, rfl⟩ := hk3.form
    generalize hL2 : touchL L k = L2 at *
    have HL2 := Go.Lib.hid hL2
    have b2 := Hb2'.out.keep hb3
    have d0 := b2.cell 0
    have d1 := b2.cell 1
    have f0 := b2.frozen 0
    have f1 := b2.frozen 1
    simp only [List.getElem?_cons_zero, List.getElem?_cons_succ] at d0 d1
    have l3 := b2.lt
    have HK3 := Go.Lib.hid hk3
    have N1 := Go.Lib.hid (hk3.ne b2 (by decide))
    have HB3 := Go.Lib.hid (HBw.out.trans (hb3.mono HBw.out.size))
    clear b2 hk3 hb3 hL2 g00 g01 g10 g11 g12
    go_wp2_with fail
    refine bodyPost_ret (v := .tuple #[.agg #[.int .i64 c, .slice a3 L2.length cap3], .slice none 0 0]) (by simp [results, Try.results23, go_sem, d0, d1]) rfl ⟨.slice a3 L2.length cap3, .slice none 0 0, by rw [HD.out], ?_, ?_, ?_⟩
    · rw [HD.out]
      exact (HK3.out.set_ne N1.out _).set_ne N1.out _
    · rw [HD.out]
      exact KL.nil _
    · exact below_set (below_set HB3.out (by omega) _) (by omega) _
  · rw [if_neg h1] at HD
    by_cases h2 : kk = 2
    · subst h2
      rw [if_pos rfl] at HD
      go_wp2_with fail
      refine (r8admit_any c _ L k w1 hc hsm HK1.out).mono ?_
      rintro e w3 ⟨v3, vo, rfl, hk3, hko, hb3⟩
      obtain ⟨a3, cap3, rfl⟩ := hk3.form
      obtain ⟨ao, capo, rfl⟩ := hko.form
      generalize hL2 : admitL c L k = L2 at *
      generalize hFO : admitO c L k = FO at *
      have HL2 := Go.Lib.hid hL2
      have HFO := Go.Lib.hid hFO
      have b2 := Hb2'.out.keep hb3
      have d0 := b2.cell 0
      have d1 := b2.cell 1
      have f0 := b2.frozen 0
      have f1 := b2.frozen 1
      simp only [List.getElem?_cons_zero, List.getElem?_cons_succ] at d0 d1
      have l3 := b2.lt
      have HK3 := Go.Lib.hid hk3
      have N1 := Go.Lib.hid (hk3.ne b2 (by decide))
      have HKO := Go.Lib.hid hko
      have M1 := Go.Lib.hid (hko.ne b2 (by decide))
      have HB3 := Go.Lib.hid (HBw.out.trans (hb3.mono HBw.out.size))
      clear b2 hk3 hb3 hL2 g00 g01 g10 g11 g12 hko hFO
      go_wp2_with fail
      refine bodyPost_ret (v := .tuple #[.agg #[.int .i64 c, .slice a3 L2.length cap3], .slice ao FO.length capo]) (by simp [results, Try.results23, go_sem, d0, d1]) rfl ⟨.slice a3 L2.length cap3, .slice ao FO.length capo, by rw [HD.out], ?_, ?_, ?_⟩
      · rw [HD.out]
        exact (HK3.out.set_ne N1.out _).set_ne N1.out _
      · rw [HD.out]
        exact (HKO.out.set_ne M1.out _).set_ne M1.out _
      · exact below_set (below_set HB3.out (by omega) _) (by omega) _
    · rw [if_neg h2] at HD
      by_cases h3 : kk = 3
      · subst h3
        rw [if_pos rfl] at HD
        go_wp2_with fail
        refine (r8drop_any c _ L k w1 hsm HK1.out).mono ?_
        rintro e w3 ⟨v3, rfl, hk3, hb3⟩
        obtain ⟨a3, cap3, rfl⟩ := hk3.form
        generalize hL2 : wo L k = L2 at *
        have HL2 := Go.Lib.hid hL2
        have b2 := Hb2'.out.keep hb3
        have d0 := b2.cell 0
        have d1 := b2.cell 1
        have f0 := b2.frozen 0
        have f1 := b2.frozen 1
        simp only [List.getElem?_cons_zero, List.getElem?_cons_succ] at d0 d1
        have l3 := b2.lt
        have HK3 := Go.Lib.hid hk3
        have N1 := Go.Lib.hid (hk3.ne b2 (by decide))
        have HB3 := Go.Lib.hid (HBw.out.trans (hb3.mono HBw.out.size))
        clear b2 hk3 hb3 hL2 g00 g01 g10 g11 g12
        go_wp2_with fail
        refine bodyPost_ret (v := .tuple #[.agg #[.int .i64 c, .slice a3 L2.length cap3], .slice none 0 0]) (by simp [results, Try.results23, go_sem, d0, d1]) rfl ⟨.slice a3 L2.length cap3, .slice none 0 0, by rw [HD.out], ?_, ?_, ?_⟩
        · rw [HD.out]
          exact (HK3.out.set_ne N1.out _).set_ne N1.out _
        · rw [HD.out]
          exact KL.nil _
        · exact below_set (below_set HB3.out (by omega) _) (by omega) _
      · rw [if_neg h3] at HD
        have HSZ := Go.Lib.hid (fun w => sizeof_any kd k n w HX.out)
        have HRZ := Go.Lib.hid (fun w h => r8resize_any c (.slice a L.length cap) L (sizeF n) w hsm h)
        have q1 := Hb0.out.keep HB1.out
        have q2 := Hb1.out.keep HB1.out
        have q3 := Hb2'.out
        have S0 : ∀ W', Blk W' w.heap.size [.int .i64 c, .slice a L.length cap] 28 → Blk W' (w.heap.size + 1) [.int .u8 kd, .int .u64 k, .int .u16 n] 34 → (W'.cell? ⟨w.heap.size, 0, none⟩ = some (.int .i64 c) ∧ W'.cell? ⟨w.heap.size, 1, none⟩ = some (.slice a L.length cap) ∧ W'.cell? ⟨w.heap.size + 1, 0, none⟩ = some (.int .u8 kd) ∧ W'.cell? ⟨w.heap.size + 1, 1, none⟩ = some (.int .u64 k) ∧ W'.cell? ⟨w.heap.size + 1, 2, none⟩ = some (.int .u16 n)) :=
          fun W' h1 h2 => ⟨h1.cell 0, h1.cell 1, h2.cell 0, h2.cell 1, h2.cell 2⟩
        have S1 := fun W' (hb : Below w1.drew.heap.size w1.drew W') =>
          have q : Below w1.heap.size w1 W' := (Below.refl _ _).drew.trans hb
          S0 W' (q1.keep q) (q2.keep q)
        have S4 := fun W' u1 u2 (hb : Below w1.drew.heap.size w1.drew W') =>
          have q : Below w1.heap.size w1 W' := (Below.refl _ _).drew.trans hb
          S0 _ (((q1.keep q).set_ne (a := ⟨w.heap.size + 1 + 1, 0, none⟩) (by show w.heap.size ≠ w.heap.size + 1 + 1; omega) u1).set_ne (a := ⟨w.heap.size + 1 + 1, 1, none⟩) (by show w.heap.size ≠ w.heap.size + 1 + 1; omega) u2)
            (((q2.keep q).set_ne (a := ⟨w.heap.size + 1 + 1, 0, none⟩) (by show w.heap.size + 1 ≠ w.heap.size + 1 + 1; omega) u1).set_ne (a := ⟨w.heap.size + 1 + 1, 1, none⟩) (by show w.heap.size + 1 ≠ w.heap.size + 1 + 1; omega) u2)
        have HS1 := Go.Lib.hid S1
        have HS4 := Go.Lib.hid S4
        have HS0 := Go.Lib.hid (S1 _ (Below.refl _ _))
        have HQ3 := Go.Lib.hid q3
        clear S0 S1 S4 q1 q2 q3
        go_wp2_with fail
        go_region_held3 (fun W' => W'.cell? ⟨w.heap.size, 0, none⟩ = some (.int .i64 c) ∧ W'.cell? ⟨w.heap.size, 1, none⟩ = some (.slice a L.length cap) ∧ W'.cell? ⟨w.heap.size + 1, 0, none⟩ = some (.int .u8 kd) ∧ W'.cell? ⟨w.heap.size + 1, 1, none⟩ = some (.int .u64 k) ∧ W'.cell? ⟨w.heap.size + 1, 2, none⟩ = some (.int .u16 n))
          (first | with_reducible exact HS4.out _ _ _ hb3' | with_reducible exact HS1.out _ hb3' | with_reducible exact HS1.out _ hb2 | exact HS0.out)
          (first | (go_at_call 100; refine (HSZ.out _).mono ?_; rintro e w2 ⟨rfl, hb2⟩) | (go_at_call 115; refine (HRZ.out _ (HK1.out.keep ((Below.refl _ _).drew.trans hb2))).mono ?_; rintro e w3 ⟨v3, vo, rfl, hk3, hko, hb3⟩; obtain ⟨a3, cap3, rfl⟩ := hk3.form; obtain ⟨ao, capo, rfl⟩ := hko.form; have hb3' := hb2.trans (hb3.mono hb2.size); have b2 := HQ3.out.keep ((Below.refl _ _).drew.trans hb3'); have d0 := b2.cell 0; have d1 := b2.cell 1; have f0 := b2.frozen 0; have f1 := b2.frozen 1; simp only [List.getElem?_cons_zero, List.getElem?_cons_succ] at d0 d1; have l3 := b2.lt))
        have N1 := Go.Lib.hid (hk3.ne b2 (by decide))
        have M1 := Go.Lib.hid (hko.ne b2 (by decide))
        have HK3 := Go.Lib.hid hk3
        have HKO := Go.Lib.hid hko
        have HB3 := Go.Lib.hid (HBw.out.trans (((Below.refl _ _).drew.trans hb3').mono HBw.out.size))
        clear b2 hk3 hko hb3 hb3' hb2
        go_wp2_with fail
        refine bodyPost_ret (v := .tuple #[.agg #[.int .i64 (capF (sizeF n)), .slice a3 (min (capF (sizeF n)).toNat L.length) cap3], .slice ao (fallL L (capF (sizeF n))).length capo]) (by simp [results, Try.results23, go_sem, d0, d1]) rfl ⟨.slice a3 (min (capF (sizeF n)).toNat L.length) cap3, .slice ao (fallL L (capF (sizeF n))).length capo, by rw [HD.out], ?_, ?_, ?_⟩
        · rw [HD.out, ← List.length_take]
          exact (HK3.out.set_ne N1.out _).set_ne N1.out _
        · rw [HD.out]
          exact (HKO.out.set_ne M1.out _).set_ne M1.out _
        · exact below_set (below_set HB3.out (by omega) _) (by omega) _
end Go.Proofs.Ytlakojncjldpbaa
