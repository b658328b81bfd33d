/- The statements' own functions: do, same, awake (two queues). -/
import Derived.Test.YtlakojncjldpbaaGTqf
import Derived.Test.YtlakojncjldpbaaGRef9f
namespace Go.Proofs.Ytlakojncjldpbaa
open Go.RowKit Hop
set_option linter.unusedVariables false
set_option linter.unusedSimpArgs false
set_option maxRecDepth 100000
theorem Tqa.frame {w w' : World} {px : Nat} {O : Nat → Prop} {s : TS} {p : Nat} (h : Tqa w px O s p) {own : Nat → Prop} (hf : Fr own w w') (hn : ∀ k, O k → ¬ own k) : Tqa w' px O s p := by
  obtain ⟨ps, O1, h1, h2, h3, h4⟩ := h
  subst h4
  exact ⟨ps, O1, hf.blk (fun e => hn px (.inl rfl) e) h1, h2.frame hf (fun k hk => hn k (.inr hk)), h3, rfl⟩
theorem Tqa.typ {w : World} {px : Nat} {O : Nat → Prop} {s : TS} {p : Nat} (H : Tqa w px O s p) {b : Nat} {cs : List Value} {T : Nat} (hb : Blk w b cs T) (h0 : T ≠ 121)
    (hT : T ≠ 160 ∧ T ≠ 192 ∧ T ≠ 189 ∧ T ≠ 195 ∧ T ≠ 208 ∧ T ≠ 201 ∧ T ≠ 213 ∧ T ≠ 21) : ¬ O b := by
  obtain ⟨ps, O1, h1, h2, h3, rfl⟩ := H
  rintro (e | e)
  · exact hb.ne h1 h0 e
  · exact h2.typ hb hT e
theorem Tqa.kl {w : World} {px : Nat} {O : Nat → Prop} {s : TS} {L' : List Int} {p : Nat} {v : Value} (H : Tqa w px O s p) (h : KL w v L') : ∀ b, v.ownBlock = some b → ¬ O b := by
  intro b hb
  obtain ⟨_, cs, h'⟩ := Row.lt h hb
  exact H.typ h' (by decide) (by decide)
section
variable {O : Nat → Prop} {p : Nat}
set_option maxHeartbeats 3200000 in
theorem qdo_any (px : Nat) (s : TS) (x : Ac) (w : World) (hx : x.ok) (hc : s.ok) (hp : p < 49999) (H : Tqa w px O s p) :
    Calls Try.prog 44 #[P0 px, .agg #[.int .u8 x.kind, .int .u64 x.key, .int .u16 x.n]] w fun e w' => ∃ vo O' p', e = .returned vo ∧ KL w' vo (doT s x).2 ∧ Tqa w' px O' (doT s x).1 p' ∧ Chg O O' w w' ∧ (p' : Int) ≤ max (p : Int) (2 * s.c) := by
  obtain ⟨kd, k, n⟩ := x
  obtain ⟨hx1, ⟨hk0, hk1⟩, hx3⟩ := hx
  simp only at hx1 hk0 hk1 hx3 ⊢
  have A0 := (Below.refl w.heap.size w).alloc (Nat.le_refl _) (.cells #[.int .u8 kd, .int .u64 k, .int .u16 n] 34)
  obtain ⟨W, hW⟩ : ∃ W, W = w.alloc (.cells #[.int .u8 kd, .int .u64 k, .int .u16 n] 34) := ⟨_, rfl⟩
  have b0 : Blk W w.heap.size [.int .u8 kd, .int .u64 k, .int .u16 n] 34 := by rw [hW]; exact Blk.new0 w _ _
  rw [← hW] at A0
  have EW := H.keep A0
  have HA0 := Go.Lib.hid A0
  have HW := Go.Lib.hid hW
  have Hb0 := Go.Lib.hid b0
  have HEW := Go.Lib.hid EW
  have HHS := Go.Lib.hid (thas_any px k W.drew hk0 hk1 (EW.keep (Below.refl _ _).drew))
  have HKD := Go.Lib.hid (fun t w => kind_any kd k n t w hx1)
  have HX := Go.Lib.hid hx3
  have HD : Hid (doT s ⟨kd, k, n⟩ = if kindF kd (decide (k ∈ s.i ++ s.m)) = 1 then (touchT s k, []) else if kindF kd (decide (k ∈ s.i ++ s.m)) = 2 then admitT s k else if kindF kd (decide (k ∈ s.i ++ s.m)) = 3 then (dropT s k, []) else resizeT s (sizeF n)) := Go.Lib.hid rfl
  have S0 : ∀ W', Blk W' w.heap.size [.int .u8 kd, .int .u64 k, .int .u16 n] 34 → (W'.cell? ⟨w.heap.size, 0, none⟩ = some (.int .u8 kd) ∧ W'.cell? ⟨w.heap.size, 1, none⟩ = some (.int .u64 k) ∧ W'.cell? ⟨w.heap.size, 2, none⟩ = some (.int .u16 n)) := fun W' h => ⟨h.cell 0, h.cell 1, h.cell 2⟩
  have S1 := fun W' (hb : Below W.drew.heap.size W.drew W') => S0 W' (b0.keep ((Below.refl _ _).drew.trans hb))
  have HS0 := Go.Lib.hid (S1 _ (Below.refl _ _))
  have HS1 := Go.Lib.hid S1
  have lb := b0.lt
  clear hW b0 A0 EW H S0 S1 hx3 hx1
  generalize decide (k ∈ s.i ++ s.m) = there at *
  go_enter Try.func44, Try.ntmps44
  go_wp2_with fail
  rw [← HW.out]
  go_region_held3 (fun W' => W'.cell? ⟨w.heap.size, 0, none⟩ = some (.int .u8 kd) ∧ W'.cell? ⟨w.heap.size, 1, none⟩ = some (.int .u64 k) ∧ W'.cell? ⟨w.heap.size, 2, none⟩ = some (.int .u16 n))
    (first | with_reducible exact HS1.out _ hb2' | with_reducible exact HS1.out _ hb1 | exact HS0.out)
    (first | (go_at_call 50; refine HHS.out.mono ?_; rintro e w1 ⟨rfl, hb1⟩) | (go_at_call 94; refine (HKD.out _ _).mono ?_; rintro e w2 ⟨rfl, hb2⟩; have hb2' := hb1.trans (hb2.mono hb1.size)))
  have HB2 : Hid (Below W.heap.size W w2) := Go.Lib.hid ((Below.refl _ _).drew.trans hb2')
  clear hb1 hb2 hb2'
  generalize kindF kd there = kk at *
  have E2 := HEW.out.keep HB2.out
  have b2 := Hb0.out.keep HB2.out
  have g0 := b2.cell 0
  have g1 := b2.cell 1
  have g2 := b2.cell 2
  simp only [List.getElem?_cons_zero, List.getElem?_cons_succ] at g0 g1 g2
  have lb2 := b2.lt
  have HE2 := Go.Lib.hid E2
  have Hb2 := Go.Lib.hid b2
  have HBw := Go.Lib.hid (HA0.out.trans (HB2.out.mono HA0.out.size))
  clear E2 b2
  by_cases h1 : kk = 1
  · subst h1
    rw [if_pos rfl] at HD
    have HC := Go.Lib.hid (ttouch_any px k w2 hk0 hk1 HE2.out)
    go_wp2_with fail
    refine HC.out.mono ?_
    rintro e w3 ⟨rfl, O', hE, hC⟩
    have HE := Go.Lib.hid hE
    have HCC := Go.Lib.hid hC
    clear hE hC g0 g1 g2
    go_wp2_with fail
    go_ret
    refine ⟨_, O', p, rfl, ?_, ?_, (Chg.of_below HBw.out).trans HCC.out, by omega⟩
    · rw [HD.out]; exact KL.nil _
    · rw [HD.out]; exact HE.out
  · rw [if_neg h1] at HD
    by_cases h2 : kk = 2
    · subst h2
      rw [if_pos rfl] at HD
      have HC := Go.Lib.hid (tadmit_any px k w2 hk0 hk1 hc hp HE2.out)
      go_wp2_with fail
      refine HC.out.mono ?_
      rintro e w3 ⟨vo, O', p', rfl, hK, hE, hC, hp'⟩
      have HK := Go.Lib.hid hK
      have HE := Go.Lib.hid hE
      have HCC := Go.Lib.hid hC
      have HP := Go.Lib.hid hp'
      clear hE hC hK hp' g0 g1 g2
      go_wp2_with fail
      go_ret
      refine ⟨_, O', p', rfl, ?_, ?_, (Chg.of_below HBw.out).trans HCC.out, ?_⟩
      · rw [HD.out]; exact HK.out
      · rw [HD.out]; exact HE.out
      · exact HP.out
    · rw [if_neg h2] at HD
      by_cases h3 : kk = 3
      · subst h3
        rw [if_pos rfl] at HD
        have HC := Go.Lib.hid (tdrop_any px k w2 hk0 hk1 HE2.out)
        go_wp2_with fail
        refine HC.out.mono ?_
        rintro e w3 ⟨rfl, O', hE, hC⟩
        have HE := Go.Lib.hid hE
        have HCC := Go.Lib.hid hC
        clear hE hC g0 g1 g2
        go_wp2_with fail
        go_ret
        refine ⟨_, O', p, rfl, ?_, ?_, (Chg.of_below HBw.out).trans HCC.out, by omega⟩
        · rw [HD.out]; exact KL.nil _
        · rw [HD.out]; exact HE.out
      · rw [if_neg h3] at HD
        have HSZ := Go.Lib.hid (sizeof_any kd k n w2 HX.out)
        have HC := Go.Lib.hid (fun w h => tresize_any (p := p) (O := O) (s := s) px (sizeF n) w h)
        go_wp2_with fail
        refine HSZ.out.mono ?_
        rintro e w3 ⟨rfl, hb3⟩
        have HB3 := Go.Lib.hid hb3
        clear hb3 g0 g1 g2
        go_wp2_with fail
        refine (HC.out w3 (HE2.out.keep HB3.out)).mono ?_
        rintro e w4 ⟨vo, O', rfl, hK, hE, hC⟩
        have HK := Go.Lib.hid hK
        have HE := Go.Lib.hid hE
        have HCC := Go.Lib.hid hC
        clear hE hC hK
        go_wp2_with fail
        go_ret
        refine ⟨_, O', p, rfl, ?_, ?_, (Chg.of_below (HBw.out.trans (HB3.out.mono HBw.out.size))).trans HCC.out, by omega⟩
        · rw [HD.out]; exact HK.out
        · rw [HD.out]; exact HE.out
end
set_option maxHeartbeats 3200000 in
theorem qsame_eq (s : TS) (v1 v2 v3 u1 u2 u3 : Value) (w : World) (h1 : KL w v1 s.i) (h2 : KL w v2 s.o) (h3 : KL w v3 s.m) (g : TL w u1 u2 u3 s) :
    Calls Try.prog 46 #[.agg #[.int .i64 s.c, v1, v2, v3], .agg #[.int .i64 s.c, u1, u2, u3]] w fun e w' => e = .returned (.bool true) ∧ Below w.heap.size w w' := by
  obtain ⟨g1, g2, g3⟩ := g
  obtain ⟨a1, p1, rfl⟩ := h1.form
  obtain ⟨a2, p2, rfl⟩ := h2.form
  obtain ⟨a3, p3, rfl⟩ := h3.form
  obtain ⟨a4, p4, rfl⟩ := g1.form
  obtain ⟨a5, p5, rfl⟩ := g2.form
  obtain ⟨a6, p6, rfl⟩ := g3.form
  obtain ⟨W, hW⟩ : ∃ W, W = (w.alloc (.cells #[.int .i64 s.c, .slice a1 s.i.length p1, .slice a2 s.o.length p2, .slice a3 s.m.length p3] 66)).alloc (.cells #[.int .i64 s.c, .slice a4 s.i.length p4, .slice a5 s.o.length p5, .slice a6 s.m.length p6] 60) := ⟨_, rfl⟩
  have B0 : Below w.heap.size w W := by rw [hW]; exact ((Below.refl w.heap.size w).alloc (Nat.le_refl _) _).alloc (by simp) _
  have b0 : Blk W w.heap.size [.int .i64 s.c, .slice a1 s.i.length p1, .slice a2 s.o.length p2, .slice a3 s.m.length p3] 66 := by rw [hW]; exact (Blk.new0 w [.int .i64 s.c, .slice a1 s.i.length p1, .slice a2 s.o.length p2, .slice a3 s.m.length p3] 66).alloc _
  have b1 : Blk W (w.heap.size + 1) [.int .i64 s.c, .slice a4 s.i.length p4, .slice a5 s.o.length p5, .slice a6 s.m.length p6] 60 := by rw [hW]; exact Blk.new1 w (.cells #[.int .i64 s.c, .slice a1 s.i.length p1, .slice a2 s.o.length p2, .slice a3 s.m.length p3] 66) [.int .i64 s.c, .slice a4 s.i.length p4, .slice a5 s.o.length p5, .slice a6 s.m.length p6] 60
  have t1 : decide (s.i = s.i) = true := by simp
  have t2 : decide (s.o = s.o) = true := by simp
  have t3 : decide (s.m = s.m) = true := by simp
  have HS1 := same_any _ _ s.i s.i W (h1.keep B0) (g1.keep B0)
  have HS2 := fun w' (hb : Below W.heap.size W w') => same_any _ _ s.o s.o w' ((h2.keep B0).keep hb) ((g2.keep B0).keep hb)
  have HS3 := fun w' (hb : Below W.heap.size W w') => same_any _ _ s.m s.m w' ((h3.keep B0).keep hb) ((g3.keep B0).keep hb)
  rw [t1] at HS1
  rw [t2] at HS2
  rw [t3] at HS3
  have HS1 := Go.Lib.hid HS1
  have HS2 := Go.Lib.hid HS2
  have HS3 := Go.Lib.hid HS3
  have HB0 := Go.Lib.hid B0
  have HW := Go.Lib.hid hW
  have Hb0 := Go.Lib.hid b0
  have Hb1 := Go.Lib.hid b1
  clear t1 t2 t3 hW B0 h1 h2 h3 g1 g2 g3 b0 b1
  go_enter Try.func46, Try.ntmps46
  go_wp2_with fail
  rw [← HW.out]
  refine HS1.out.mono ?_
  rintro e w1 ⟨rfl, hb1⟩
  have x0 := Hb0.out.keep hb1
  have x1 := Hb1.out.keep hb1
  have c0 := x0.cell 0
  have c1 := x0.cell 1
  have c2 := x0.cell 2
  have c3 := x0.cell 3
  simp only [List.getElem?_cons_zero, List.getElem?_cons_succ] at c0 c1 c2 c3
  have d0 := x1.cell 0
  have d1 := x1.cell 1
  have d2 := x1.cell 2
  have d3 := x1.cell 3
  simp only [List.getElem?_cons_zero, List.getElem?_cons_succ] at d0 d1 d2 d3
  have l0 := x0.lt
  have l1 := x1.lt
  have HB1 := Go.Lib.hid hb1
  clear x0 x1 hb1
  go_wp2_with fail
  refine (HS2.out _ HB1.out).mono ?_
  rintro e w2 ⟨rfl, hb2⟩
  have hb2' := HB1.out.trans (hb2.mono HB1.out.size)
  have x0 := Hb0.out.keep hb2'
  have x1 := Hb1.out.keep hb2'
  clear c0 c1 c2 c3 d0 d1 d2 d3 l0 l1
  have c0 := x0.cell 0
  have c1 := x0.cell 1
  have c2 := x0.cell 2
  have c3 := x0.cell 3
  simp only [List.getElem?_cons_zero, List.getElem?_cons_succ] at c0 c1 c2 c3
  have d0 := x1.cell 0
  have d1 := x1.cell 1
  have d2 := x1.cell 2
  have d3 := x1.cell 3
  simp only [List.getElem?_cons_zero, List.getElem?_cons_succ] at d0 d1 d2 d3
  have l0 := x0.lt
  have l1 := x1.lt
  have HB2 := Go.Lib.hid hb2'
  clear x0 x1 hb2 hb2'
  go_wp2_with fail
  refine (HS3.out _ HB2.out).mono ?_
  rintro e w3 ⟨rfl, hb3⟩
  have HB3 := Go.Lib.hid (HB0.out.trans ((HB2.out.trans (hb3.mono HB2.out.size)).mono HB0.out.size))
  clear hb3
  go_wp2_with fail
  go_ret
  exact ⟨rfl, HB3.out⟩
theorem KL.lit2 (w : World) (x y : Int) : KL (w.alloc (.cells #[.int .u64 x, .int .u64 y] 31)) (.slice (some ⟨w.heap.size, 0, none⟩) 2 2) [x, y] :=
  ⟨rfl, .inr ⟨w.heap.size, 2, _, rfl, Blk.new0 w [.int .u64 x, .int .u64 y] 31, Nat.le_refl _, by decide, Nat.le_refl _, rfl⟩⟩
theorem twS_m (c : Int) (v1 v2 v3 : Value) (w : World) : (Instr.field 66 (.agg #[.int .i64 c, v1, v2, v3]) 3).run Try.prog w = .ok v3 w := by kernel_rfl
def q0 : TS := ⟨2, [], [], []⟩
theorem q0_ok : q0.ok := ⟨by decide, by decide, by decide, by decide⟩
theorem q1_eq : admitT q0 1 = (⟨2, [1], [], []⟩, []) := rfl
theorem q2_eq : admitT ⟨2, [1], [], []⟩ 2 = (⟨2, [2, 1], [], []⟩, []) := rfl
theorem q3_eq : admitT ⟨2, [2, 1], [], []⟩ 3 = (⟨2, [3, 2], [1], []⟩, [1]) := rfl
theorem q4_eq : admitT ⟨2, [3, 2], [1], []⟩ 1 = (⟨2, [3], [2], [1]⟩, [2]) := rfl
set_option maxHeartbeats 6400000 in
theorem qawake_any (w : World) :
    Calls Try.prog 41 #[] w fun e w' => e = .returned (.bool true) ∧ Below w.heap.size w w' := by
  have f0 := twS_m
  have e4 : capF 2 = 2 := by decide
  go_enter Try.func41, Try.ntmps41
  go_wp2_with fail
  refine (tnew_any' 2 w).mono ?_
  rintro e w1 ⟨px, O1, rfl, hE1, ho1, hb1⟩
  rw [e4] at hE1
  have HE1 : Hid (Tqa w1 px O1 q0 0) := Go.Lib.hid hE1
  have HO1 := Go.Lib.hid ho1
  have HB1 := Go.Lib.hid hb1
  clear hE1 ho1 hb1 e4
  go_wp2_with fail
  refine (tadmit_any px 1 w1 (by omega) (by omega) q0_ok (by omega) HE1.out).mono ?_
  rintro e w2 ⟨vo1, O2, p2, rfl, hk1, hE2, hc2, hp2⟩
  have ok2 := admitT_ok (k := 1) q0_ok
  rw [q1_eq] at hk1 hE2 ok2
  simp only at hk1 hE2 ok2
  have hq2 : p2 ≤ 4 := by simp only [q0] at hp2; omega
  have HK1 := Go.Lib.hid hk1
  have HE2 := Go.Lib.hid hE2
  have HC2 := Go.Lib.hid hc2
  clear hk1 hE2 hc2 hp2
  go_wp2_with fail
  refine (tadmit_any px 2 w2 (by omega) (by omega) ok2 (by omega) HE2.out).mono ?_
  rintro e w3 ⟨vo2, O3, p3, rfl, hk2, hE3, hc3, hp3⟩
  have ok3 := admitT_ok (k := 2) ok2
  rw [q2_eq] at hk2 hE3 ok3
  simp only at hk2 hE3 ok3
  have hq3 : p3 ≤ 4 := by simp only [q0] at hp3; omega
  have HK2 := Go.Lib.hid hk2
  have HE3 := Go.Lib.hid hE3
  have HC3 := Go.Lib.hid hc3
  clear hk2 hE3 hc3 hp3
  go_wp2_with fail
  refine (tadmit_any px 3 w3 (by omega) (by omega) ok3 (by omega) HE3.out).mono ?_
  rintro e w4 ⟨vo3, O4, p4, rfl, hk3, hE4, hc4, hp4⟩
  have ok4 := admitT_ok (k := 3) ok3
  rw [q3_eq] at hk3 hE4 ok4
  simp only at hk3 hE4 ok4
  have hq4 : p4 ≤ 4 := by simp only [q0] at hp4; omega
  have HK3 := Go.Lib.hid hk3
  have HE4 := Go.Lib.hid hE4
  have HC4 := Go.Lib.hid hc4
  clear hk3 hE4 hc4 hp4
  go_wp2_with fail
  refine (tadmit_any px 1 w4 (by omega) (by omega) ok4 (by omega) HE4.out).mono ?_
  rintro e w5 ⟨vo4, O5, p5, rfl, hk4, hE5, hc5, hp5⟩
  have ok5 := admitT_ok (k := 1) ok4
  rw [q4_eq] at hk4 hE5 ok5
  simp only at hk4 hE5 ok5
  have hq5 : p5 ≤ 4 := by simp only [q0] at hp5; omega
  have HK4 := Go.Lib.hid hk4
  have HE5 := Go.Lib.hid hE5
  have HC5 := Go.Lib.hid hc5
  clear hk4 hE5 hc5 hp5
  clear ok2 ok3 ok4 ok5
  go_wp2_with fail
  have HK3' := Go.Lib.hid (Row.frame HK3.out HC5.out.fr (HE4.out.kl HK3.out) : KL w5 vo3 [1])
  have A5 := (Below.refl w5.heap.size w5).alloc (Nat.le_refl _) (.cells #[.int .u64 1] 31)
  refine (same_any vo3 _ [1] [1] _ (HK3'.out.keep A5) (KL.lit w5 1)).mono ?_
  rintro e w6 ⟨rfl, hb6⟩
  have HB6 : Hid (Below w5.heap.size w5 w6) := Go.Lib.hid (A5.trans (hb6.mono A5.size))
  clear A5 hb6
  go_wp2_with fail
  have A6 := (Below.refl w6.heap.size w6).alloc (Nat.le_refl _) (.cells #[.int .u64 2] 31)
  refine (same_any vo4 _ [2] [2] _ ((HK4.out.keep HB6.out).keep A6) (KL.lit w6 2)).mono ?_
  rintro e w7 ⟨rfl, hb7⟩
  have HB7 := Go.Lib.hid (HB6.out.trans ((A6.trans (hb7.mono A6.size)).mono HB6.out.size))
  clear A6 hb7
  go_wp2_with fail
  refine (thas_any px 1 w7 (by omega) (by omega) (HE5.out.keep HB7.out)).mono ?_
  rintro e w8 ⟨rfl, hb8⟩
  have HB8 := Go.Lib.hid (HB7.out.trans (hb8.mono HB7.out.size))
  clear hb8
  go_wp2_with fail
  refine (thas_any px 2 w8 (by omega) (by omega) (HE5.out.keep HB8.out)).mono ?_
  rintro e w9 ⟨rfl, hb9⟩
  have HB9 := Go.Lib.hid (HB8.out.trans (hb9.mono HB8.out.size))
  clear hb9
  go_wp2_with fail
  refine (tghosts_any px w9 (HE5.out.keep HB9.out)).mono ?_
  rintro e w9' ⟨rfl, rfl⟩
  go_wp2_with fail
  refine (tstate_any px w9 (HE5.out.keep HB9.out)).mono ?_
  rintro e w10 ⟨v1, v2, v3, rfl, hk1, hk2, hk3, hb10⟩
  have HB10 := Go.Lib.hid (HB9.out.trans (hb10.mono HB9.out.size))
  have HM := Go.Lib.hid hk3
  clear hb10 hk1 hk2 hk3
  go_wp2_with fail
  have A10 := (Below.refl w10.heap.size w10).alloc (Nat.le_refl _) (.cells #[.int .u64 1] 31)
  refine (same_any v3 _ [1] [1] _ (HM.out.keep A10) (KL.lit w10 1)).mono ?_
  rintro e w11 ⟨rfl, hb11⟩
  have HB11 := Go.Lib.hid (HB10.out.trans ((A10.trans (hb11.mono A10.size)).mono HB10.out.size))
  clear A10 hb11
  go_wp2_with fail
  refine (tkeys_any px w11 (HE5.out.keep HB11.out)).mono ?_
  rintro e w12 ⟨v12, rfl, hk12, hb12⟩
  have HB12 := Go.Lib.hid (HB11.out.trans (hb12.mono HB11.out.size))
  have HK12 := Go.Lib.hid hk12
  clear hb12 hk12
  go_wp2_with fail
  have A12 := (Below.refl w12.heap.size w12).alloc (Nat.le_refl _) (.cells #[.int .u64 3, .int .u64 1] 31)
  refine (same_any v12 _ [3, 1] [3, 1] _ (HK12.out.keep A12) (KL.lit2 w12 3 1)).mono ?_
  rintro e w13 ⟨rfl, hb13⟩
  have HB13 := Go.Lib.hid (HB12.out.trans ((A12.trans (hb13.mono A12.size)).mono HB12.out.size))
  clear A12 hb13
  go_wp2_with fail
  go_ret
  refine ⟨rfl, ?_⟩
  have F : Fr (fun _ => False) w w13 := by
    have c1 : Chg (fun _ => False) O1 w w1 := ⟨Fr.of_below HB1.out, fun k hk => .inr (HO1.out k hk)⟩
    exact (((((c1.trans HC2.out).trans HC3.out).trans HC4.out).trans HC5.out).below HB13.out).fr
  exact F.below
end Go.Proofs.Ytlakojncjldpbaa
