/- The statements' own function same (law 17). -/
import Derived.Test.YtlakojncjldpbaaAlaw
import Derived.Test.YtlakojncjldpbaaRef11i
namespace Go.Proofs.Ytlakojncjldpbaa
open Go.RowKit Hop
set_option linter.unusedVariables false
set_option linter.unusedSimpArgs false
set_option maxRecDepth 100000
set_option maxHeartbeats 6400000 in
theorem asame_eq (s : AS) (v1 v2 v3 v4 u1 u2 u3 u4 : Value) (w : World) (h1 : KL w v1 s.t) (h2 : KL w v2 s.u) (h3 : KL w v3 s.b) (h4 : KL w v4 s.d) (g : AT w u1 u2 u3 u4 s) :
    Calls Try.prog 65 #[.agg #[.int .i64 s.c, .int .i64 s.p, v1, v2, v3, v4], .agg #[.int .i64 s.c, .int .i64 s.p, u1, u2, u3, u4]] w fun e w' => e = .returned (.bool true) ∧ Below w.heap.size w w' := by
  obtain ⟨a1, p1, rfl⟩ := h1.form
  obtain ⟨a2, p2, rfl⟩ := h2.form
  obtain ⟨a3, p3, rfl⟩ := h3.form
  obtain ⟨a4, p4, rfl⟩ := h4.form
  obtain ⟨a5, p5, rfl⟩ := g.t.form
  obtain ⟨a6, p6, rfl⟩ := g.u.form
  obtain ⟨a7, p7, rfl⟩ := g.b.form
  obtain ⟨a8, p8, rfl⟩ := g.d.form
  obtain ⟨W, hW⟩ : ∃ W, W = (w.alloc (.cells #[.int .i64 s.c, .int .i64 s.p, .slice a1 s.t.length p1, .slice a2 s.u.length p2, .slice a3 s.b.length p3, .slice a4 s.d.length p4] 79)).alloc (.cells #[.int .i64 s.c, .int .i64 s.p, .slice a5 s.t.length p5, .slice a6 s.u.length p6, .slice a7 s.b.length p7, .slice a8 s.d.length p8] 73) := ⟨_, rfl⟩
  have B0 : Below w.heap.size w W := by rw [hW]; exact ((Below.refl w.heap.size w).alloc (Nat.le_refl _) _).alloc (by simp) _
  have b0 : Blk W w.heap.size [.int .i64 s.c, .int .i64 s.p, .slice a1 s.t.length p1, .slice a2 s.u.length p2, .slice a3 s.b.length p3, .slice a4 s.d.length p4] 79 := by rw [hW]; exact (Blk.new0 w [.int .i64 s.c, .int .i64 s.p, .slice a1 s.t.length p1, .slice a2 s.u.length p2, .slice a3 s.b.length p3, .slice a4 s.d.length p4] 79).alloc _
  have b1 : Blk W (w.heap.size + 1) [.int .i64 s.c, .int .i64 s.p, .slice a5 s.t.length p5, .slice a6 s.u.length p6, .slice a7 s.b.length p7, .slice a8 s.d.length p8] 73 := by rw [hW]; exact Blk.new1 w (.cells #[.int .i64 s.c, .int .i64 s.p, .slice a1 s.t.length p1, .slice a2 s.u.length p2, .slice a3 s.b.length p3, .slice a4 s.d.length p4] 79) [.int .i64 s.c, .int .i64 s.p, .slice a5 s.t.length p5, .slice a6 s.u.length p6, .slice a7 s.b.length p7, .slice a8 s.d.length p8] 73
  have t1 : decide (s.t = s.t) = true := by simp
  have HS1 := fun w' (hb : Below W.heap.size W w') => same_any _ _ s.t s.t w' ((h1.keep B0).keep hb) ((g.t.keep B0).keep hb)
  rw [t1] at HS1
  have HS1 := Go.Lib.hid HS1
  have t2 : decide (s.u = s.u) = true := by simp
  have HS2 := fun w' (hb : Below W.heap.size W w') => same_any _ _ s.u s.u w' ((h2.keep B0).keep hb) ((g.u.keep B0).keep hb)
  rw [t2] at HS2
  have HS2 := Go.Lib.hid HS2
  have t3 : decide (s.b = s.b) = true := by simp
  have HS3 := fun w' (hb : Below W.heap.size W w') => same_any _ _ s.b s.b w' ((h3.keep B0).keep hb) ((g.b.keep B0).keep hb)
  rw [t3] at HS3
  have HS3 := Go.Lib.hid HS3
  have t4 : decide (s.d = s.d) = true := by simp
  have HS4 := fun w' (hb : Below W.heap.size W w') => same_any _ _ s.d s.d w' ((h4.keep B0).keep hb) ((g.d.keep B0).keep hb)
  rw [t4] at HS4
  have HS4 := Go.Lib.hid HS4
  have HB0 := Go.Lib.hid B0
  have HW := Go.Lib.hid hW
  have Hb0 := Go.Lib.hid b0
  have Hb1 := Go.Lib.hid b1
  clear t1 t2 t3 t4 hW B0 g b0 b1 h1 h2 h3 h4
  generalize s.t.length = n1 at *
  generalize s.u.length = n2 at *
  generalize s.b.length = n3 at *
  generalize s.d.length = n4 at *
  go_enter Try.func65, Try.ntmps65
  go_wp2_with fail
  rw [← HW.out]
  refine (HS1.out _ (Below.refl _ _)).mono ?_
  rintro e w1 ⟨rfl, hb1⟩
  have HB1 := Go.Lib.hid hb1
  clear hb1
  have x0 := Hb0.out.keep HB1.out
  have x1 := Hb1.out.keep HB1.out
  have c0 := x0.cell 0
  have c1 := x0.cell 1
  have c2 := x0.cell 2
  have c3 := x0.cell 3
  have c4 := x0.cell 4
  have c5 := x0.cell 5
  have d0 := x1.cell 0
  have d1 := x1.cell 1
  have d2 := x1.cell 2
  have d3 := x1.cell 3
  have d4 := x1.cell 4
  have d5 := x1.cell 5
  simp only [List.getElem?_cons_zero, List.getElem?_cons_succ] at c0 d0 c1 d1 c2 d2 c3 d3 c4 d4 c5 d5
  have l0 := x0.lt
  have l1 := x1.lt
  clear x0 x1
  go_wp2_with fail
  refine (HS2.out _ HB1.out).mono ?_
  rintro e w2 ⟨rfl, hb2⟩
  have HB2 := Go.Lib.hid (HB1.out.trans (hb2.mono HB1.out.size))
  clear hb2
  clear c0 d0 c1 d1 c2 d2 c3 d3 c4 d4 c5 d5 l0 l1
  have x0 := Hb0.out.keep HB2.out
  have x1 := Hb1.out.keep HB2.out
  have c0 := x0.cell 0
  have c1 := x0.cell 1
  have c2 := x0.cell 2
  have c3 := x0.cell 3
  have c4 := x0.cell 4
  have c5 := x0.cell 5
  have d0 := x1.cell 0
  have d1 := x1.cell 1
  have d2 := x1.cell 2
  have d3 := x1.cell 3
  have d4 := x1.cell 4
  have d5 := x1.cell 5
  simp only [List.getElem?_cons_zero, List.getElem?_cons_succ] at c0 d0 c1 d1 c2 d2 c3 d3 c4 d4 c5 d5
  have l0 := x0.lt
  have l1 := x1.lt
  clear x0 x1
  go_wp2_with fail
  refine (HS3.out _ HB2.out).mono ?_
  rintro e w3 ⟨rfl, hb3⟩
  have HB3 := Go.Lib.hid (HB2.out.trans (hb3.mono HB2.out.size))
  clear hb3
  clear c0 d0 c1 d1 c2 d2 c3 d3 c4 d4 c5 d5 l0 l1
  have x0 := Hb0.out.keep HB3.out
  have x1 := Hb1.out.keep HB3.out
  have c0 := x0.cell 0
  have c1 := x0.cell 1
  have c2 := x0.cell 2
  have c3 := x0.cell 3
  have c4 := x0.cell 4
  have c5 := x0.cell 5
  have d0 := x1.cell 0
  have d1 := x1.cell 1
  have d2 := x1.cell 2
  have d3 := x1.cell 3
  have d4 := x1.cell 4
  have d5 := x1.cell 5
  simp only [List.getElem?_cons_zero, List.getElem?_cons_succ] at c0 d0 c1 d1 c2 d2 c3 d3 c4 d4 c5 d5
  have l0 := x0.lt
  have l1 := x1.lt
  clear x0 x1
  go_wp2_with fail
  refine (HS4.out _ HB3.out).mono ?_
  rintro e w4 ⟨rfl, hb4⟩
  have HB4 := Go.Lib.hid (HB3.out.trans (hb4.mono HB3.out.size))
  clear hb4
  clear c0 d0 c1 d1 c2 d2 c3 d3 c4 d4 c5 d5 l0 l1
  have x0 := Hb0.out.keep HB4.out
  have x1 := Hb1.out.keep HB4.out
  have c0 := x0.cell 0
  have c1 := x0.cell 1
  have c2 := x0.cell 2
  have c3 := x0.cell 3
  have c4 := x0.cell 4
  have c5 := x0.cell 5
  have d0 := x1.cell 0
  have d1 := x1.cell 1
  have d2 := x1.cell 2
  have d3 := x1.cell 3
  have d4 := x1.cell 4
  have d5 := x1.cell 5
  simp only [List.getElem?_cons_zero, List.getElem?_cons_succ] at c0 d0 c1 d1 c2 d2 c3 d3 c4 d4 c5 d5
  have l0 := x0.lt
  have l1 := x1.lt
  clear x0 x1
  go_wp2_with fail
  go_ret
  exact ⟨rfl, HB0.out.trans (HB4.out.mono HB0.out.size)⟩
end Go.Proofs.Ytlakojncjldpbaa
