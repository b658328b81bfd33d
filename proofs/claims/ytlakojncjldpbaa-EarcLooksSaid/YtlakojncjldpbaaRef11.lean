/- The reference of the adaptive cache: New, Ghosts, evict. -/
import Derived.Test.YtlakojncjldpbaaTwo
import Derived.Test.YtlakojncjldpbaaTa
namespace Go.Proofs.Ytlakojncjldpbaa
open Go.RowKit Hop
set_option linter.unusedVariables false
set_option linter.unusedSimpArgs false
set_option maxRecDepth 100000
/-- Four lists of keys lie in four slices. -/
structure AT (w : World) (v1 v2 v3 v4 : Value) (s : AS) : Prop where
  t : KL w v1 s.t
  u : KL w v2 s.u
  b : KL w v3 s.b
  d : KL w v4 s.d
theorem AT.keep {w w' : World} {v1 v2 v3 v4 : Value} {s : AS} (h : AT w v1 v2 v3 v4 s) (hb : Below w.heap.size w w') : AT w' v1 v2 v3 v4 s := ⟨h.t.keep hb, h.u.keep hb, h.b.keep hb, h.d.keep hb⟩
theorem AT.two {w w' : World} {v1 v2 v3 v4 : Value} {s : AS} (h : AT w v1 v2 v3 v4 s) {A B : Nat} {cs cs' : List Value} {T T' : Nat} (hA : Blk w A cs T) (hB : Blk w B cs' T') (h1 : 31 ≠ T) (h2 : 31 ≠ T')
    (hf : Fr (fun k => k = A ∨ k = B) w w') : AT w' v1 v2 v3 v4 s := ⟨h.t.two hA hB h1 h2 hf, h.u.two hA hB h1 h2 hf, h.b.two hA hB h1 h2 hf, h.d.two hA hB h1 h2 hf⟩
/-- The slices' blocks are those of others, or new. -/
structure OwA (w : World) (v1 v2 v3 v4 x1 x2 x3 x4 : Value) : Prop where
  t : Ow w v1 x1
  u : Ow w v2 x2
  b : Ow w v3 x3
  d : Ow w v4 x4
theorem Ow.same (w : World) (v : Value) : Ow w v v := fun b h => .inl h
set_option maxHeartbeats 800000 in
theorem a11new_any (c : Int) (w : World) :
    Calls Try.prog 62 #[.int .i64 c] w fun e w' => e = .returned (.agg #[.int .i64 (capF c), .int .i64 0, .slice none 0 0, .slice none 0 0, .slice none 0 0, .slice none 0 0]) ∧ Below w.heap.size w w' := by
  have HB := Go.Lib.hid ((Below.refl w.heap.size w).alloc (Nat.le_refl _) (.cells #[.int .i64 (capF c), .int .i64 0, .slice none 0 0, .slice none 0 0, .slice none 0 0, .slice none 0 0] 73))
  go_enter Try.func62, Try.ntmps62
  go_wp2_with fail
  refine (cap_any c _).mono ?_
  rintro e w1 ⟨rfl, rfl⟩
  go_wp2_with fail
  refine bodyPost_ret (v := .agg #[.int .i64 (capF c), .int .i64 0, .slice none 0 0, .slice none 0 0, .slice none 0 0, .slice none 0 0]) (by simp [results, Try.results62, go_sem]) rfl ⟨rfl, HB.out⟩
set_option maxHeartbeats 400000 in
theorem a11ghosts_any (c p : Int) (v1 v2 v3 v4 : Value) (s : AS) (w : World) (hl : s.b.length + s.d.length < 100000) (h : AT w v1 v2 v3 v4 s) :
    Calls Try.prog 71 #[.agg #[.int .i64 c, .int .i64 p, v1, v2, v3, v4]] w fun e w' => e = .returned (.int .i64 (s.b.length + s.d.length : Nat)) ∧ Below w.heap.size w w' := by
  obtain ⟨a3, p3, rfl⟩ := h.b.form
  obtain ⟨a4, p4, rfl⟩ := h.d.form
  have HB := Go.Lib.hid ((Below.refl w.heap.size w).alloc (Nat.le_refl _) (.cells #[.int .i64 c, .int .i64 p, v1, v2, .slice a3 s.b.length p3, .slice a4 s.d.length p4] 73))
  clear h
  generalize s.b.length = n1 at *
  generalize s.d.length = n2 at *
  go_enter Try.func71, Try.ntmps71
  go_wp2_with fail
  go_ret
  exact ⟨rfl, HB.out⟩
set_option maxHeartbeats 6400000 in
theorem a11evict_t (c q : Int) (v1 v2 v3 v4 : Value) (t u b d : List Int) (L : List Int) (x : Int) (w : World) (hL : t = L ++ [x]) (hsm : b.length < 50000) (h : AT w v1 v2 v3 v4 ⟨c, q, t, u, b, d⟩) :
    Calls Try.prog 189 #[.agg #[.int .i64 c, .int .i64 q, v1, v2, v3, v4], .bool true] w fun e w' => ∃ x1 x2 x3 x4 vo, e = .returned (.tuple #[.agg #[.int .i64 c, .int .i64 q, x1, x2, x3, x4], vo]) ∧ AT w' x1 x2 x3 x4 ⟨c, q, L, u, x :: wo b x, d⟩ ∧ OwA w v1 v2 v3 v4 x1 x2 x3 x4 ∧ KL w' vo [x] ∧ (∀ k, vo.ownBlock = some k → w.heap.size ≤ k) ∧ Below w.heap.size w w' := by
  subst hL
  obtain ⟨h1, h2, h3, h4⟩ := h
  simp only at h1 h2 h3 h4
  obtain ⟨a1, p1, rfl⟩ := h1.form
  obtain ⟨a2, p2, rfl⟩ := h2.form
  obtain ⟨a3, p3, rfl⟩ := h3.form
  obtain ⟨a4, p4, rfl⟩ := h4.form
  have hle := h1.le
  have hcap : L.length + 1 ≤ p1 := by
    rcases h1.2 with ⟨e1, e2⟩ | ⟨g, cap', cs, e1, e2, e3, e4⟩
    · simp at e2
    · injection e1 with q1 q2 q3; simp at e3; omega
  have hlx : (L ++ [x]).length = L.length + 1 := by simp
  rw [hlx] at h1 hle ⊢
  unfold maxLen at hle
  generalize hl2 : u.length = l2 at *
  generalize hl3 : b.length = l3 at *
  generalize hl4 : d.length = l4 at *
  have HLD := Go.Lib.hid hl3
  clear hl2 hl3 hl4
  obtain ⟨W, hW, b0, b1, B0⟩ := two_blocks w [.int .i64 c, .int .i64 q, .slice a1 (L.length + 1) p1, .slice a2 l2 p2, .slice a3 l3 p3, .slice a4 l4 p4] [.int .i64 0, .int .i64 0, .slice none 0 0, .slice none 0 0, .slice none 0 0, .slice none 0 0] 73
  have k1 : KL W (.slice a1 (L.length + 1) p1) (L ++ [x]) := h1.keep B0
  have k1' : KL W (.slice a1 L.length p1) L := by
    have := k1.take (m := L.length) (by simp)
    rwa [List.take_left'] at this
    rfl
  have HBK := Go.Lib.hid (back_key _ L x W k1)
  obtain ⟨U, hU, u0, u1, uk, ub, us⟩ := st_set b0 b1 (by decide) 2 (.slice a1 L.length p1)
  have Hu0 : Hid (Blk U w.heap.size [.int .i64 c, .int .i64 q, .slice a1 L.length p1, .slice a2 l2 p2, .slice a3 l3 p3, .slice a4 l4 p4] 73) := u0
  have Hu1 := Go.Lib.hid u1
  have J1 := Go.Lib.hid (uk _ _ k1')
  have J2 := Go.Lib.hid (uk _ _ (h2.keep B0))
  have J3 := Go.Lib.hid (uk _ _ (h3.keep B0))
  have J4 := Go.Lib.hid (uk _ _ (h4.keep B0))
  have HFR := Go.Lib.hid (front_any _ b x U (by rw [HLD.out]; exact hsm) J3.out)
  have HBU := Go.Lib.hid (ub _ _ (Nat.le_refl _) B0)
  have HU := Go.Lib.hid hU
  have HW := Go.Lib.hid hW
  have c0 := b0.cell 0
  have c1 := b0.cell 1
  have c2 := b0.cell 2
  have c3 := b0.cell 3
  have c4 := b0.cell 4
  have c5 := b0.cell 5
  simp only [List.getElem?_cons_zero, List.getElem?_cons_succ] at c0 c1 c2 c3 c4 c5
  have f := b0.frozen 2
  have l0 := b0.lt
  have l0' := b1.lt
  generalize hL5 : x :: wo b x = L5 at *
  clear hW hU B0 k1 k1' uk ub us u0 u1 b0 b1 hlx h1 h2 h3 h4
  go_enter Try.func189, Try.ntmps189
  go_wp2_with fail
  rw [← HW.out]
  refine HBK.out.mono ?_
  rintro e w1 ⟨rfl, rfl⟩
  go_wp2_with fail
  rw [← HU.out]
  refine HFR.out.mono ?_
  clear c0 c1 c2 c3 c4 c5 f l0 l0'
  rintro e w2 ⟨v5, rfl, hk5, ho5, hb5⟩
  obtain ⟨a5, p5, rfl⟩ := hk5.form
  generalize hl5 : L5.length = l5 at *
  have b0 := Hu0.out.keep hb5
  have b1 := Hu1.out.keep hb5
  have g0 := b0.cell 0
  have g1 := b0.cell 1
  have g2 := b0.cell 2
  have g3 := b0.cell 3
  have g4 := b0.cell 4
  have g5 := b0.cell 5
  simp only [List.getElem?_cons_zero, List.getElem?_cons_succ] at g0 g1 g2 g3 g4 g5
  have e0 := b1.cell 0
  have e1 := b1.cell 1
  have e2 := b1.cell 2
  have e3 := b1.cell 3
  have e4 := b1.cell 4
  have e5 := b1.cell 5
  simp only [List.getElem?_cons_zero, List.getElem?_cons_succ] at e0 e1 e2 e3 e4 e5
  have f := b0.frozen 4
  have f0 := b1.frozen 0
  have f1 := b1.frozen 1
  have f2 := b1.frozen 2
  have f3 := b1.frozen 3
  have f4 := b1.frozen 4
  have f5 := b1.frozen 5
  have lb0 := b0.lt
  have lb1 := b1.lt
  have A2 := (Below.refl w2.heap.size w2).alloc (Nat.le_refl _) (.cells #[.int .u64 x] 31)
  have n1 : ¬ (w.heap.size = w2.heap.size) := by omega
  have n2 : ¬ (w.heap.size + 1 = w2.heap.size) := by omega
  have Q3 := Go.Lib.hid hk5
  have Q1 := Go.Lib.hid (J1.out.keep hb5)
  have Q2 := Go.Lib.hid (J2.out.keep hb5)
  have Q4 := Go.Lib.hid (J4.out.keep hb5)
  have Jb0 := Go.Lib.hid b0
  have Jb1 := Go.Lib.hid b1
  have HO5 : Hid (∀ k, (Value.slice a5 l5 p5).ownBlock = some k → w.heap.size ≤ k) := Go.Lib.hid (fun k hk => by have h1 := ho5 k hk; have h2 := HBU.out.size; omega)
  have HB5 := Go.Lib.hid (HBU.out.trans (hb5.mono HBU.out.size))
  have sz5 := HB5.out.size
  clear b0 b1 hk5 ho5 hb5 hl5 A2
  go_wp2_with fail
  obtain ⟨Y, hY⟩ : ∃ Y, Y = (((((((w2.setCell ⟨w.heap.size, 4, none⟩ (.slice a5 l5 p5)).setCell ⟨w.heap.size + 1, 0, none⟩ (.int .i64 c)).setCell ⟨w.heap.size + 1, 1, none⟩ (.int .i64 q)).setCell ⟨w.heap.size + 1, 2, none⟩ (.slice a1 L.length p1)).setCell ⟨w.heap.size + 1, 3, none⟩ (.slice a2 l2 p2)).setCell ⟨w.heap.size + 1, 4, none⟩ (.slice a5 l5 p5)).setCell ⟨w.heap.size + 1, 5, none⟩ (.slice a4 l4 p4)) := ⟨_, rfl⟩
  rw [← hY]
  have sY : Y.heap.size = w2.heap.size := by rw [hY]; simp
  have FY : Fr (fun k => k = w.heap.size ∨ k = w.heap.size + 1) w2 Y := by rw [hY]; exact (by repeat' (first | refine Fr.setEq ?_ ?_ _ | exact Fr.refl _ _ | exact .inl rfl | exact .inr rfl))
  have bY : Blk Y (w.heap.size + 1) [.int .i64 c, .int .i64 q, .slice a1 L.length p1, .slice a2 l2 p2, .slice a5 l5 p5, .slice a4 l4 p4] 73 := by rw [hY]; exact (((((((Jb1.out.set_ne (a := ⟨w.heap.size, 4, none⟩) (by show w.heap.size + 1 ≠ w.heap.size; omega) _).set 0 _).set 1 _).set 2 _).set 3 _).set 4 _).set 5 _)
  have BYw : Below w.heap.size w Y := by
    rw [hY]
    repeat' (first | refine below_set ?_ ?_ _ | exact HB5.out | omega)
  have AY := (Below.refl Y.heap.size Y).alloc (Nat.le_refl _) (.cells #[.int .u64 x] 31)
  have bYA := bY.keep AY
  have d0 := bYA.cell 0
  have d1 := bYA.cell 1
  have d2 := bYA.cell 2
  have d3 := bYA.cell 3
  have d4 := bYA.cell 4
  have d5 := bYA.cell 5
  simp only [List.getElem?_cons_zero, List.getElem?_cons_succ] at d0 d1 d2 d3 d4 d5
  refine bodyPost_ret (v := .tuple #[.agg #[.int .i64 c, .int .i64 q, .slice a1 L.length p1, .slice a2 l2 p2, .slice a5 l5 p5, .slice a4 l4 p4], .slice (some ⟨w2.heap.size, 0, none⟩) 1 1]) (by simp [results, Try.results189, go_sem, d0, d1, d2, d3, d4, d5]) rfl ⟨_, _, _, _, _, rfl, ⟨?_, ?_, ?_, ?_⟩, ⟨?_, ?_, ?_, ?_⟩, ?_, ?_, ?_⟩
  · exact (Q1.out.two Jb0.out Jb1.out (by decide) (by decide) FY).keep AY
  · exact (Q2.out.two Jb0.out Jb1.out (by decide) (by decide) FY).keep AY
  · exact (Q3.out.two Jb0.out Jb1.out (by decide) (by decide) FY).keep AY
  · exact (Q4.out.two Jb0.out Jb1.out (by decide) (by decide) FY).keep AY
  · exact fun b hb => .inl (own_cut hb)
  · exact Ow.same _ _
  · exact fun b hb => .inr (HO5.out b hb)
  · exact Ow.same _ _
  · rw [← sY]; exact KL.lit Y x
  · intro k hk
    have e : w2.heap.size = k := by simpa [Value.ownBlock] using hk
    omega
  · exact BYw.trans (AY.mono BYw.size)
set_option maxHeartbeats 6400000 in
theorem a11evict_u (c q : Int) (v1 v2 v3 v4 : Value) (t u b d : List Int) (L : List Int) (x : Int) (w : World) (hL : u = L ++ [x]) (hsm : d.length < 50000) (h : AT w v1 v2 v3 v4 ⟨c, q, t, u, b, d⟩) :
    Calls Try.prog 189 #[.agg #[.int .i64 c, .int .i64 q, v1, v2, v3, v4], .bool false] w fun e w' => ∃ x1 x2 x3 x4 vo, e = .returned (.tuple #[.agg #[.int .i64 c, .int .i64 q, x1, x2, x3, x4], vo]) ∧ AT w' x1 x2 x3 x4 ⟨c, q, t, L, b, x :: wo d x⟩ ∧ OwA w v1 v2 v3 v4 x1 x2 x3 x4 ∧ KL w' vo [x] ∧ (∀ k, vo.ownBlock = some k → w.heap.size ≤ k) ∧ Below w.heap.size w w' := by
  subst hL
  obtain ⟨h1, h2, h3, h4⟩ := h
  simp only at h1 h2 h3 h4
  obtain ⟨a1, p1, rfl⟩ := h1.form
  obtain ⟨a2, p2, rfl⟩ := h2.form
  obtain ⟨a3, p3, rfl⟩ := h3.form
  obtain ⟨a4, p4, rfl⟩ := h4.form
  have hle := h2.le
  have hcap : L.length + 1 ≤ p2 := by
    rcases h2.2 with ⟨e1, e2⟩ | ⟨g, cap', cs, e1, e2, e3, e4⟩
    · simp at e2
    · injection e1 with q1 q2 q3; simp at e3; omega
  have hlx : (L ++ [x]).length = L.length + 1 := by simp
  rw [hlx] at h2 hle ⊢
  unfold maxLen at hle
  generalize hl1 : t.length = l1 at *
  generalize hl3 : b.length = l3 at *
  generalize hl4 : d.length = l4 at *
  have HLD := Go.Lib.hid hl4
  clear hl1 hl3 hl4
  obtain ⟨W, hW, b0, b1, B0⟩ := two_blocks w [.int .i64 c, .int .i64 q, .slice a1 l1 p1, .slice a2 (L.length + 1) p2, .slice a3 l3 p3, .slice a4 l4 p4] [.int .i64 0, .int .i64 0, .slice none 0 0, .slice none 0 0, .slice none 0 0, .slice none 0 0] 73
  have k1 : KL W (.slice a2 (L.length + 1) p2) (L ++ [x]) := h2.keep B0
  have k1' : KL W (.slice a2 L.length p2) L := by
    have := k1.take (m := L.length) (by simp)
    rwa [List.take_left'] at this
    rfl
  have HBK := Go.Lib.hid (back_key _ L x W k1)
  obtain ⟨U, hU, u0, u1, uk, ub, us⟩ := st_set b0 b1 (by decide) 3 (.slice a2 L.length p2)
  have Hu0 : Hid (Blk U w.heap.size [.int .i64 c, .int .i64 q, .slice a1 l1 p1, .slice a2 L.length p2, .slice a3 l3 p3, .slice a4 l4 p4] 73) := u0
  have Hu1 := Go.Lib.hid u1
  have J2 := Go.Lib.hid (uk _ _ k1')
  have J1 := Go.Lib.hid (uk _ _ (h1.keep B0))
  have J3 := Go.Lib.hid (uk _ _ (h3.keep B0))
  have J4 := Go.Lib.hid (uk _ _ (h4.keep B0))
  have HFR := Go.Lib.hid (front_any _ d x U (by rw [HLD.out]; exact hsm) J4.out)
  have HBU := Go.Lib.hid (ub _ _ (Nat.le_refl _) B0)
  have HU := Go.Lib.hid hU
  have HW := Go.Lib.hid hW
  have c0 := b0.cell 0
  have c1 := b0.cell 1
  have c2 := b0.cell 2
  have c3 := b0.cell 3
  have c4 := b0.cell 4
  have c5 := b0.cell 5
  simp only [List.getElem?_cons_zero, List.getElem?_cons_succ] at c0 c1 c2 c3 c4 c5
  have f := b0.frozen 3
  have l0 := b0.lt
  have l0' := b1.lt
  generalize hL5 : x :: wo d x = L5 at *
  clear hW hU B0 k1 k1' uk ub us u0 u1 b0 b1 hlx h1 h2 h3 h4
  go_enter Try.func189, Try.ntmps189
  go_wp2_with fail
  rw [← HW.out]
  refine HBK.out.mono ?_
  rintro e w1 ⟨rfl, rfl⟩
  go_wp2_with fail
  rw [← HU.out]
  refine HFR.out.mono ?_
  clear c0 c1 c2 c3 c4 c5 f l0 l0'
  rintro e w2 ⟨v5, rfl, hk5, ho5, hb5⟩
  obtain ⟨a5, p5, rfl⟩ := hk5.form
  generalize hl5 : L5.length = l5 at *
  have b0 := Hu0.out.keep hb5
  have b1 := Hu1.out.keep hb5
  have g0 := b0.cell 0
  have g1 := b0.cell 1
  have g2 := b0.cell 2
  have g3 := b0.cell 3
  have g4 := b0.cell 4
  have g5 := b0.cell 5
  simp only [List.getElem?_cons_zero, List.getElem?_cons_succ] at g0 g1 g2 g3 g4 g5
  have e0 := b1.cell 0
  have e1 := b1.cell 1
  have e2 := b1.cell 2
  have e3 := b1.cell 3
  have e4 := b1.cell 4
  have e5 := b1.cell 5
  simp only [List.getElem?_cons_zero, List.getElem?_cons_succ] at e0 e1 e2 e3 e4 e5
  have f := b0.frozen 5
  have f0 := b1.frozen 0
  have f1 := b1.frozen 1
  have f2 := b1.frozen 2
  have f3 := b1.frozen 3
  have f4 := b1.frozen 4
  have f5 := b1.frozen 5
  have lb0 := b0.lt
  have lb1 := b1.lt
  have A2 := (Below.refl w2.heap.size w2).alloc (Nat.le_refl _) (.cells #[.int .u64 x] 31)
  have n1 : ¬ (w.heap.size = w2.heap.size) := by omega
  have n2 : ¬ (w.heap.size + 1 = w2.heap.size) := by omega
  have Q4 := Go.Lib.hid hk5
  have Q1 := Go.Lib.hid (J1.out.keep hb5)
  have Q2 := Go.Lib.hid (J2.out.keep hb5)
  have Q3 := Go.Lib.hid (J3.out.keep hb5)
  have Jb0 := Go.Lib.hid b0
  have Jb1 := Go.Lib.hid b1
  have HO5 : Hid (∀ k, (Value.slice a5 l5 p5).ownBlock = some k → w.heap.size ≤ k) := Go.Lib.hid (fun k hk => by have h1 := ho5 k hk; have h2 := HBU.out.size; omega)
  have HB5 := Go.Lib.hid (HBU.out.trans (hb5.mono HBU.out.size))
  have sz5 := HB5.out.size
  clear b0 b1 hk5 ho5 hb5 hl5 A2
  go_wp2_with fail
  obtain ⟨Y, hY⟩ : ∃ Y, Y = (((((((w2.setCell ⟨w.heap.size, 5, none⟩ (.slice a5 l5 p5)).setCell ⟨w.heap.size + 1, 0, none⟩ (.int .i64 c)).setCell ⟨w.heap.size + 1, 1, none⟩ (.int .i64 q)).setCell ⟨w.heap.size + 1, 2, none⟩ (.slice a1 l1 p1)).setCell ⟨w.heap.size + 1, 3, none⟩ (.slice a2 L.length p2)).setCell ⟨w.heap.size + 1, 4, none⟩ (.slice a3 l3 p3)).setCell ⟨w.heap.size + 1, 5, none⟩ (.slice a5 l5 p5)) := ⟨_, rfl⟩
  rw [← hY]
  have sY : Y.heap.size = w2.heap.size := by rw [hY]; simp
  have FY : Fr (fun k => k = w.heap.size ∨ k = w.heap.size + 1) w2 Y := by rw [hY]; exact (by repeat' (first | refine Fr.setEq ?_ ?_ _ | exact Fr.refl _ _ | exact .inl rfl | exact .inr rfl))
  have bY : Blk Y (w.heap.size + 1) [.int .i64 c, .int .i64 q, .slice a1 l1 p1, .slice a2 L.length p2, .slice a3 l3 p3, .slice a5 l5 p5] 73 := by rw [hY]; exact (((((((Jb1.out.set_ne (a := ⟨w.heap.size, 5, none⟩) (by show w.heap.size + 1 ≠ w.heap.size; omega) _).set 0 _).set 1 _).set 2 _).set 3 _).set 4 _).set 5 _)
  have BYw : Below w.heap.size w Y := by
    rw [hY]
    repeat' (first | refine below_set ?_ ?_ _ | exact HB5.out | omega)
  have AY := (Below.refl Y.heap.size Y).alloc (Nat.le_refl _) (.cells #[.int .u64 x] 31)
  have bYA := bY.keep AY
  have d0 := bYA.cell 0
  have d1 := bYA.cell 1
  have d2 := bYA.cell 2
  have d3 := bYA.cell 3
  have d4 := bYA.cell 4
  have d5 := bYA.cell 5
  simp only [List.getElem?_cons_zero, List.getElem?_cons_succ] at d0 d1 d2 d3 d4 d5
  refine bodyPost_ret (v := .tuple #[.agg #[.int .i64 c, .int .i64 q, .slice a1 l1 p1, .slice a2 L.length p2, .slice a3 l3 p3, .slice a5 l5 p5], .slice (some ⟨w2.heap.size, 0, none⟩) 1 1]) (by simp [results, Try.results189, go_sem, d0, d1, d2, d3, d4, d5]) rfl ⟨_, _, _, _, _, rfl, ⟨?_, ?_, ?_, ?_⟩, ⟨?_, ?_, ?_, ?_⟩, ?_, ?_, ?_⟩
  · exact (Q1.out.two Jb0.out Jb1.out (by decide) (by decide) FY).keep AY
  · exact (Q2.out.two Jb0.out Jb1.out (by decide) (by decide) FY).keep AY
  · exact (Q3.out.two Jb0.out Jb1.out (by decide) (by decide) FY).keep AY
  · exact (Q4.out.two Jb0.out Jb1.out (by decide) (by decide) FY).keep AY
  · exact Ow.same _ _
  · exact fun b hb => .inl (own_cut hb)
  · exact Ow.same _ _
  · exact fun b hb => .inr (HO5.out b hb)
  · rw [← sY]; exact KL.lit Y x
  · intro k hk
    have e : w2.heap.size = k := by simpa [Value.ownBlock] using hk
    omega
  · exact BYw.trans (AY.mono BYw.size)
end Go.Proofs.Ytlakojncjldpbaa
