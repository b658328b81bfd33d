/- The lists' two queues: Resize, Keys, Ghosts. -/
import Derived.Test.YtlakojncjldpbaaLt6
import Derived.Test.YtlakojncjldpbaaTqd
namespace Go.Proofs.Ytlakojncjldpbaa
open Go.RowKit Hop
set_option linter.unusedVariables false
set_option linter.unusedSimpArgs false
set_option maxRecDepth 100000
theorem resizeT_eq {c : Int} {i o m : List Int} {n : Int} {r : TS × List Int} (hr : shrT (capF n) (i.length + m.length) ⟨capF n, i, o, m⟩ = r) : resizeT ⟨c, i, o, m⟩ n = (⟨capF n, r.1.i, r.1.o.take (capF n / 2).toNat, r.1.m⟩, r.2) := by
  subst hr; rfl
set_option maxHeartbeats 6400000 in
theorem twresize_any (c n : Int) (v1 v2 v3 : Value) (i o m : List Int) (w : World) (hc0 : 1 ≤ capF n) (hc1 : capF n ≤ 1000) (hi : i.length < 10000) (ho : o.length < 10000) (hm : m.length < 10000) (h1 : KL w v1 i) (h2 : KL w v2 o) (h3 : KL w v3 m) :
    Calls Try.prog 108 #[twV c v1 v2 v3, .int .i64 n] w fun e w' => ∃ u1 u2 u3 vo, e = .returned (.tuple #[twV (capF n) u1 u2 u3, vo]) ∧ KL w' u1 (resizeT ⟨c, i, o, m⟩ n).1.i ∧ KL w' u2 (resizeT ⟨c, i, o, m⟩ n).1.o ∧ KL w' u3 (resizeT ⟨c, i, o, m⟩ n).1.m ∧ KL w' vo (resizeT ⟨c, i, o, m⟩ n).2 ∧ Below w.heap.size w w' := by
  obtain ⟨a1, p1, rfl⟩ := h1.form
  obtain ⟨a2, p2, rfl⟩ := h2.form
  obtain ⟨a3, p3, rfl⟩ := h3.form
  generalize hn1 : i.length = n1 at *
  generalize hn2 : o.length = n2 at *
  generalize hn3 : m.length = n3 at *
  have HP := shrT_props (capF n) (capF n) (by omega) (i.length + m.length) i o m rfl
  generalize hr : shrT (capF n) (i.length + m.length) ⟨capF n, i, o, m⟩ = r at HP
  rw [resizeT_eq hr]
  have HOL : Hid (r.1.o.length < 50000) := Go.Lib.hid (by have := HP.2.2.2.2.2.1; omega)
  clear HP
  rw [hn1, hn3] at hr
  have HNW := Go.Lib.hid (fun w => twnew_any n w)
  generalize capF n = cn at *
  have HR1 : Hid (shrT cn (i.length + m.length) ⟨cn, i, o, m⟩ = r) := Go.Lib.hid (by rw [hn1, hn3]; exact hr)
  clear hr
  obtain ⟨W, hW⟩ : ∃ W, W = (w.alloc (.cells #[.int .i64 c, .slice a1 n1 p1, .slice a2 n2 p2, .slice a3 n3 p3] 66)).alloc (.cells #[.int .i64 0, .slice none 0 0, .slice none 0 0, .slice none 0 0] 66) := ⟨_, rfl⟩
  have T0 : TwS w W c (.slice a1 n1 p1) (.slice a2 n2 p2) (.slice a3 n3 p3) i o m := by rw [hW]; exact TwS.start h1 h2 h3
  have HCP := Go.Lib.hid (twcopied_f c _ _ _ i o m W (by omega) (by omega) (by omega) T0.k1 T0.k2 T0.k3)
  obtain ⟨c0, c1, c2, c3⟩ := T0.cells
  have l0 := T0.b0.lt
  have HT0 := Go.Lib.hid T0
  have HW := Go.Lib.hid hW
  clear hW T0 h1 h2 h3
  go_enter Try.func108, Try.ntmps108
  go_wp2_with fail
  rw [← HW.out]
  refine HCP.out.mono ?_
  rintro e w1 ⟨a4, n4, p4, a5, n5, p5, a6, n6, p6, rfl, hk4, hk5, hk6, hb1⟩
  have T1 := HT0.out.keep hb1
  obtain ⟨V, hV⟩ : ∃ V, V = set4 w1 w.heap.size c (.slice a4 n4 p4) (.slice a5 n5 p5) (.slice a6 n6 p6) := ⟨_, rfl⟩
  have T2 : TwS w V c (.slice a4 n4 p4) (.slice a5 n5 p5) (.slice a6 n6 p6) i o m := by rw [hV]; exact T1.put4 c hk4 hk5 hk6
  obtain ⟨e0, e1, e2, e3⟩ := T1.cells
  have f0 := T1.b0.frozen 0
  have f1 := T1.b0.frozen 1
  have f2 := T1.b0.frozen 2
  have f3 := T1.b0.frozen 3
  have m0 := T1.b0.lt
  have HT2 := Go.Lib.hid T2
  unfold set4 at hV
  have HV := Go.Lib.hid hV
  have HT1 := Go.Lib.hid T1
  clear hV T1 T2 hk4 hk5 hk6 hb1 c0 c1 c2 c3 l0 HCP HT0
  have T2 := HT2.out
  go_wp2_with fail
  rw [← HV.out]
  refine (HNW.out _).mono ?_
  rintro e w2 ⟨rfl, hb2⟩
  clear e0 e1 e2 e3 f0 f1 f2 f3 m0
  have T3 := T2.keep hb2
  obtain ⟨V3, hV3⟩ : ∃ V3, V3 = w2.setCell ⟨w.heap.size, 0, none⟩ (.int .i64 cn) := ⟨_, rfl⟩
  have T4 := T3.put0 cn
  rw [← hV3] at T4
  have HV3 := Go.Lib.hid hV3
  have HT4 := Go.Lib.hid T4
  have HSH := Go.Lib.hid (twshrink_any cn cn (.slice a4 n4 p4) (.slice a5 n5 p5) (.slice a6 n6 p6) i o m V3 hc0 (by omega) (by omega) (by omega) (by omega) (by omega) (by omega) T4.k1 T4.k2 T4.k3)
  rw [HR1.out] at HSH
  obtain ⟨e0, e1, e2, e3⟩ := T3.cells
  have f0 := T3.b0.frozen 0
  have m0 := T3.b0.lt
  have fld := fun (x : World) => twS_c cn (.slice none 0 0) (.slice none 0 0) (.slice none 0 0) x
  clear T2 T3 T4 hb2 hV3 HT2 HT1
  go_wp2_with fail
  rw [← HV3.out]
  refine HSH.out.mono ?_
  rintro e w5 ⟨u1, u2, u3, vo, rfl, hk8, hk9, hk10, hk11, hb8⟩
  obtain ⟨a8, p8, rfl⟩ := hk8.form
  obtain ⟨a9, p9, rfl⟩ := hk9.form
  obtain ⟨a10, p10, rfl⟩ := hk10.form
  obtain ⟨a11, p11, rfl⟩ := hk11.form
  have HFG := Go.Lib.hid (fun (W' : World) (n8 n9 n10 : Nat) (kk : KL W' (.slice a9 n9 p9) r.1.o) => twforget_any cn a8 a9 a10 n8 n9 n10 p8 p9 p10 r.1.o W' hc0 (by omega) HOL.out kk)
  generalize r.1.i.length = n8 at *
  generalize r.1.o.length = n9 at hk9
  generalize r.1.m.length = n10 at *
  generalize r.2.length = n11 at *
  have T6 := HT4.out.keep hb8
  obtain ⟨V6, hV6⟩ : ∃ V6, V6 = set4 w5 w.heap.size cn (.slice a8 n8 p8) (.slice a9 n9 p9) (.slice a10 n10 p10) := ⟨_, rfl⟩
  have T7 := T6.put4 cn hk8 hk9 hk10
  rw [← hV6] at T7
  have S7 : KL V6 (.slice a11 n11 p11) r.2 := by rw [hV6]; exact T6.side hk11
  unfold set4 at hV6
  have HV6 := Go.Lib.hid hV6
  have HT7 := Go.Lib.hid T7
  have HS7 := Go.Lib.hid S7
  clear e0 e1 e2 e3 f0 m0
  obtain ⟨e0, e1, e2, e3⟩ := T6.cells
  have f0 := T6.b0.frozen 0
  have f1 := T6.b0.frozen 1
  have f2 := T6.b0.frozen 2
  have f3 := T6.b0.frozen 3
  have m1 := T6.b0.lt
  have HFO := Go.Lib.hid (HFG.out V6 n8 n9 n10 T7.k2)
  clear T6 T7 S7 hV6 hk8 hk9 hk10 hk11 hb8 HSH HV3 HV HFG
  go_wp2_with fail
  rw [← HV6.out]
  refine HFO.out.mono ?_
  rintro e w7 ⟨a12, n12, p12, rfl, hk12, ho12, hb12⟩
  have T8 := HT7.out.keep hb12
  have TO := T8.give2 cn T8.k1 hk12 T8.k3
  obtain ⟨R, hR⟩ : ∃ R, R = set4 w7 (w.heap.size + 1) cn (.slice a8 n8 p8) (.slice a12 n12 p12) (.slice a10 n10 p10) := ⟨_, rfl⟩
  rw [← hR] at TO
  have SO : KL R (.slice a11 n11 p11) r.2 := by rw [hR]; exact T8.give_side (HS7.out.keep hb12)
  have HSO := Go.Lib.hid SO
  unfold set4 at hR
  have HR := Go.Lib.hid hR
  have HTO := Go.Lib.hid TO
  clear e0 e1 e2 e3 f0 f1 f2 f3
  obtain ⟨y0, y1, y2, y3⟩ := T8.zeros
  have yf0 := T8.b1.frozen 0
  have yf1 := T8.b1.frozen 1
  have yf2 := T8.b1.frozen 2
  have yf3 := T8.b1.frozen 3
  have ly := T8.b1.lt
  obtain ⟨d0, d1, d2, d3⟩ := TO.cells
  have ld := TO.b1.lt
  clear hR TO SO T8 hk12 ho12 hb12 HFO
  go_wp2_with fail
  rw [← HR.out]
  refine bodyPost_ret (v := .tuple #[.agg #[.int .i64 cn, .slice a8 n8 p8, .slice a12 n12 p12, .slice a10 n10 p10], .slice a11 n11 p11]) (by simp [results, Try.results108, go_sem, d0, d1, d2, d3]) rfl ?_
  exact ⟨_, _, _, _, rfl, HTO.out.k1, HTO.out.k2, HTO.out.k3, HSO.out, HTO.out.hb⟩
set_option maxHeartbeats 1600000 in
theorem twkeys_any (c : Int) (v1 v2 v3 : Value) (i o m : List Int) (w : World) (hi : i.length < 10000) (hm : m.length < 10000) (h1 : KL w v1 i) (h2 : KL w v2 o) (h3 : KL w v3 m) :
    Calls Try.prog 109 #[twV c v1 v2 v3] w fun e w' => ∃ v, e = .returned v ∧ KL w' v (i ++ m) ∧ Below w.heap.size w w' := by
  have hlen : i.length + m.length < 100000 := by omega
  obtain ⟨a1, p1, rfl⟩ := h1.form
  obtain ⟨a2, p2, rfl⟩ := h2.form
  obtain ⟨a3, p3, rfl⟩ := h3.form
  have A1 := (Below.refl w.heap.size w).alloc (Nat.le_refl _) (.cells #[.int .i64 c, .slice a1 i.length p1, .slice a2 o.length p2, .slice a3 m.length p3] 66)
  have A2 := A1.alloc (by simp) (.cells #[.slice a1 i.length p1, .slice a3 m.length p3] 26)
  have HCC := Go.Lib.hid (sconcat2_any (w.heap.size + 1) (.slice a1 i.length p1) (.slice a3 m.length p3) i m _ hlen (Blk.new1 w (.cells #[.int .i64 c, .slice a1 i.length p1, .slice a2 o.length p2, .slice a3 m.length p3] 66) [.slice a1 i.length p1, .slice a3 m.length p3] 26) (h1.keep A2) (h3.keep A2))
  have HB1 := Go.Lib.hid A2
  clear h1 h2 h3 A1 A2 hlen
  go_enter Try.func109, Try.ntmps109
  go_wp2_with fail
  refine HCC.out.mono ?_
  rintro e w2 ⟨v, rfl, hk, hb2⟩
  have HK := Go.Lib.hid hk
  have HB2 := Go.Lib.hid (HB1.out.trans (hb2.mono HB1.out.size))
  clear hk hb2
  go_wp2_with fail
  go_ret
  exact ⟨_, rfl, HK.out, HB2.out⟩
theorem twghosts_any (c : Int) (a1 a2 a3 : Option Addr) (n1 n2 n3 p1 p2 p3 : Nat) (w : World) :
    Calls Try.prog 110 #[twV c (.slice a1 n1 p1) (.slice a2 n2 p2) (.slice a3 n3 p3)] w fun e w' => e = .returned (.int .i64 n2) ∧ Below w.heap.size w w' := by
  go_enter Try.func110, Try.ntmps110
  go_wp2_with fail
  go_ret
  exact ⟨rfl, (Below.refl _ _).alloc (Nat.le_refl _) _⟩
end Go.Proofs.Ytlakojncjldpbaa
