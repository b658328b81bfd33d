/- The lists' two queues: copied, forget, one reclaimed. -/
import Derived.Test.YtlakojncjldpbaaLq6
import Derived.Test.YtlakojncjldpbaaTq
import Derived.Deep.RegionHeld3
namespace Go.Proofs.Ytlakojncjldpbaa
open Go.RowKit Hop
set_option linter.unusedVariables false
set_option linter.unusedSimpArgs false
set_option maxRecDepth 100000
theorem KL.fr2 {own : Nat → Prop} {w w' : World} {v : Value} {L : List Int} (h : KL w v L) (f : Fr own w w') (ho : ∀ b, v.ownBlock = some b → ¬ own b) : KL w' v L := Row.frame h f ho
abbrev twV (c : Int) (v1 v2 v3 : Value) : Value := .agg #[.int .i64 c, v1, v2, v3]
abbrev twC (c : Int) (v1 v2 v3 : Value) : List Value := [.int .i64 c, v1, v2, v3]
theorem clone_f (v : Value) (L : List Int) (w : World) (hsm : L.length < 100000) (h : KL w v L) :
    Calls Try.prog 155 #[v] w fun e w' => ∃ a1 n1 cap1, e = .returned (.slice a1 n1 cap1) ∧ KL w' (.slice a1 n1 cap1) L ∧ (∀ b, (Value.slice a1 n1 cap1).ownBlock = some b → w.heap.size ≤ b) ∧ Below w.heap.size w w' :=
  (slclone_any v L w hsm h).mono fun e w' ⟨v', h1, h2, h3, h4⟩ => by
    obtain ⟨a, cap, rfl⟩ := h2.form
    exact ⟨a, _, cap, h1, h2, h3, h4⟩
set_option maxHeartbeats 6400000 in
theorem twcopied_any (c : Int) (v1 v2 v3 : Value) (i o m : List Int) (w : World) (hi : i.length < 50000) (ho : o.length < 50000) (hm : m.length < 50000) (h1 : KL w v1 i) (h2 : KL w v2 o) (h3 : KL w v3 m) :
    Calls Try.prog 160 #[twV c v1 v2 v3] w fun e w' => ∃ u1 u2 u3, e = .returned (twV c u1 u2 u3) ∧ KL w' u1 i ∧ KL w' u2 o ∧ KL w' u3 m ∧ Below w.heap.size w w' := by
  obtain ⟨a1, p1, rfl⟩ := h1.form
  obtain ⟨a2, p2, rfl⟩ := h2.form
  obtain ⟨a3, p3, rfl⟩ := h3.form
  generalize hn1 : i.length = n1 at *
  generalize hn2 : o.length = n2 at *
  generalize hn3 : m.length = n3 at *
  obtain ⟨W, hW⟩ : ∃ W, W = (w.alloc (.cells #[.int .i64 c, .slice a1 n1 p1, .slice a2 n2 p2, .slice a3 n3 p3] 66)).alloc (.cells #[.int .i64 0, .slice none 0 0, .slice none 0 0, .slice none 0 0] 66) := ⟨_, rfl⟩
  have b0 : Blk W w.heap.size (twC c (.slice a1 n1 p1) (.slice a2 n2 p2) (.slice a3 n3 p3)) 66 := by rw [hW]; exact (Blk.new0 w (twC c (.slice a1 n1 p1) (.slice a2 n2 p2) (.slice a3 n3 p3)) 66).alloc _
  have b1 : Blk W (w.heap.size + 1) (twC 0 (.slice none 0 0) (.slice none 0 0) (.slice none 0 0)) 66 := by
    have q := Blk.new0 (w.alloc (.cells #[.int .i64 c, .slice a1 n1 p1, .slice a2 n2 p2, .slice a3 n3 p3] 66)) (twC 0 (.slice none 0 0) (.slice none 0 0) (.slice none 0 0)) 66
    rw [World.size_alloc] at q
    rw [hW]; exact q
  have B0 : Below w.heap.size w W := by rw [hW]; exact ((Below.refl _ _).alloc (Nat.le_refl _) _).alloc (by simp) _
  have Dr := (Below.refl W.heap.size W).drew
  have H1 := Go.Lib.hid (clone_f _ i W.drew (by omega) ((h1.keep B0).keep Dr))
  have H2 := Go.Lib.hid (fun W' (hb : Below W.drew.heap.size W.drew W') => clone_f _ o W' (by omega) (((h2.keep B0).keep Dr).keep hb))
  have H3 := Go.Lib.hid (fun W' (hb : Below W.drew.heap.size W.drew W') => clone_f _ m W' (by omega) (((h3.keep B0).keep Dr).keep hb))
  have HS0 := Go.Lib.hid ((⟨b0.drew.cell 0, b0.drew.cell 1, b0.drew.cell 2, b0.drew.cell 3⟩ : W.drew.cell? ⟨w.heap.size, 0, none⟩ = some (.int .i64 c) ∧ W.drew.cell? ⟨w.heap.size, 1, none⟩ = some (.slice a1 n1 p1) ∧ W.drew.cell? ⟨w.heap.size, 2, none⟩ = some (.slice a2 n2 p2) ∧ W.drew.cell? ⟨w.heap.size, 3, none⟩ = some (.slice a3 n3 p3)))
  have HS := Go.Lib.hid (fun W' (hb : Below W.drew.heap.size W.drew W') => (have q := b0.drew.keep hb; (⟨q.cell 0, q.cell 1, q.cell 2, q.cell 3⟩ : W'.cell? ⟨w.heap.size, 0, none⟩ = some (.int .i64 c) ∧ W'.cell? ⟨w.heap.size, 1, none⟩ = some (.slice a1 n1 p1) ∧ W'.cell? ⟨w.heap.size, 2, none⟩ = some (.slice a2 n2 p2) ∧ W'.cell? ⟨w.heap.size, 3, none⟩ = some (.slice a3 n3 p3))))
  have HS3 := Go.Lib.hid (fun W' x0 x1 x2 x3 (hb : Below W.drew.heap.size W.drew W') => (have q := ((((b0.drew.keep hb).set_ne (a := ⟨w.heap.size + 1, 0, none⟩) (by simp) x0).set_ne (a := ⟨w.heap.size + 1, 1, none⟩) (by simp) x1).set_ne (a := ⟨w.heap.size + 1, 2, none⟩) (by simp) x2).set_ne (a := ⟨w.heap.size + 1, 3, none⟩) (by simp) x3; (⟨q.cell 0, q.cell 1, q.cell 2, q.cell 3⟩ : ((((W'.setCell ⟨w.heap.size + 1, 0, none⟩ x0).setCell ⟨w.heap.size + 1, 1, none⟩ x1).setCell ⟨w.heap.size + 1, 2, none⟩ x2).setCell ⟨w.heap.size + 1, 3, none⟩ x3).cell? ⟨w.heap.size, 0, none⟩ = some (.int .i64 c) ∧ ((((W'.setCell ⟨w.heap.size + 1, 0, none⟩ x0).setCell ⟨w.heap.size + 1, 1, none⟩ x1).setCell ⟨w.heap.size + 1, 2, none⟩ x2).setCell ⟨w.heap.size + 1, 3, none⟩ x3).cell? ⟨w.heap.size, 1, none⟩ = some (.slice a1 n1 p1) ∧ ((((W'.setCell ⟨w.heap.size + 1, 0, none⟩ x0).setCell ⟨w.heap.size + 1, 1, none⟩ x1).setCell ⟨w.heap.size + 1, 2, none⟩ x2).setCell ⟨w.heap.size + 1, 3, none⟩ x3).cell? ⟨w.heap.size, 2, none⟩ = some (.slice a2 n2 p2) ∧ ((((W'.setCell ⟨w.heap.size + 1, 0, none⟩ x0).setCell ⟨w.heap.size + 1, 1, none⟩ x1).setCell ⟨w.heap.size + 1, 2, none⟩ x2).setCell ⟨w.heap.size + 1, 3, none⟩ x3).cell? ⟨w.heap.size, 3, none⟩ = some (.slice a3 n3 p3))))
  have HQ := Go.Lib.hid (fun W' (hb : Below W.drew.heap.size W.drew W') => b1.drew.keep hb)
  have HBD := Go.Lib.hid (B0.trans (Dr.mono B0.size))
  have HL1 := Go.Lib.hid b1.lt
  have HW := Go.Lib.hid hW
  clear hW b0 b1 B0 Dr h1 h2 h3
  go_enter Try.func160, Try.ntmps160
  go_wp2_with fail
  rw [← HW.out]
  go_region_held3 (fun W' => W'.cell? ⟨w.heap.size, 0, none⟩ = some (.int .i64 c) ∧ W'.cell? ⟨w.heap.size, 1, none⟩ = some (.slice a1 n1 p1) ∧ W'.cell? ⟨w.heap.size, 2, none⟩ = some (.slice a2 n2 p2) ∧ W'.cell? ⟨w.heap.size, 3, none⟩ = some (.slice a3 n3 p3))
    (first | with_reducible exact HS3.out _ _ _ _ _ hb6 | with_reducible exact HS.out _ hb6 | with_reducible exact HS.out _ hb5 | with_reducible exact HS.out _ hb4 | exact HS0.out)
    (first | (go_at_call 155; have z := hb5.size; refine (H3.out _ hb5).mono ?_; rintro e w6 ⟨c3, m3, q3, rfl, hk3, ho3, hb6'⟩; have hb6 := hb5.trans (hb6'.mono z); (have qb := HQ.out _ hb6; have r0 := qb.cell 0; have r1 := qb.cell 1; have r2 := qb.cell 2; have r3 := qb.cell 3; have y0 := qb.frozen 0; have y1 := qb.frozen 1; have y2 := qb.frozen 2; have y3 := qb.frozen 3); simp only [List.getElem?_cons_zero, List.getElem?_cons_succ] at r0 r1 r2 r3; have rl := qb.lt) | (go_at_call 155; have z := hb4.size; refine (H2.out _ hb4).mono ?_; rintro e w5 ⟨c2, m2, q2, rfl, hk2, ho2, hb5'⟩; have hb5 := hb4.trans (hb5'.mono z)) | (go_at_call 155; refine H1.out.mono ?_; rintro e w4 ⟨c1, m1, q1, rfl, hk1, ho1, hb4⟩))
  obtain ⟨W7, hW7⟩ : ∃ W7, W7 = (((w6.setCell ⟨w.heap.size + 1, 0, none⟩ (.int .i64 c)).setCell ⟨w.heap.size + 1, 1, none⟩ (.slice c1 m1 q1)).setCell ⟨w.heap.size + 1, 2, none⟩ (.slice c2 m2 q2)).setCell ⟨w.heap.size + 1, 3, none⟩ (.slice c3 m3 q3) := ⟨_, rfl⟩
  have F7 : Fr (fun k => k = w.heap.size + 1) w6 W7 := by rw [hW7]; exact ((((Fr.refl (fun k => k = w.heap.size + 1) w6).setEq rfl _).setEq rfl _).setEq rfl _).setEq rfl _
  have b7 : Blk W7 (w.heap.size + 1) (twC c (.slice c1 m1 q1) (.slice c2 m2 q2) (.slice c3 m3 q3)) 66 := by rw [hW7]; exact (((qb.set 0 _).set 1 _).set 2 _).set 3 _
  have hl := HL1.out
  have e1 : W.drew.heap.size = W.heap.size := rfl
  have z4 := hb4.size
  have z5 := hb5.size
  have k1 : KL W7 (.slice c1 m1 q1) i := ((hk1.keep (hb5'.mono (Nat.le_refl _))).keep (hb6'.mono (Nat.le_refl _))).fr2 F7 (fun g hg e => by have := ho1 g hg; omega)
  have k2 : KL W7 (.slice c2 m2 q2) o := (hk2.keep (hb6'.mono (Nat.le_refl _))).fr2 F7 (fun g hg e => by have := ho2 g hg; omega)
  have k3 : KL W7 (.slice c3 m3 q3) m := hk3.fr2 F7 (fun g hg e => by have := ho3 g hg; omega)
  have B7 := below_fr (HBD.out.trans (hb6.mono HBD.out.size)) F7 (Nat.le_refl _) (fun i hi => by omega)
  have HN := Go.Lib.hid (⟨k1, k2, k3, B7⟩ : KL W7 (.slice c1 m1 q1) i ∧ KL W7 (.slice c2 m2 q2) o ∧ KL W7 (.slice c3 m3 q3) m ∧ Below w.heap.size w W7)
  rw [← hW7]
  clear hW7 F7 k1 k2 k3 B7 hb4 hb5 hb6 hb5' hb6' ho1 ho2 ho3 hk1 hk2 hk3 qb r0 r1 r2 r3 y0 y1 y2 y3 rl
  have d0 := b7.cell 0
  have d1 := b7.cell 1
  have d2 := b7.cell 2
  have d3 := b7.cell 3
  simp only [List.getElem?_cons_zero, List.getElem?_cons_succ] at d0 d1 d2 d3
  have dl := b7.lt
  clear b7
  go_wp2_with fail
  refine bodyPost_ret (v := .agg #[.int .i64 c, .slice c1 m1 q1, .slice c2 m2 q2, .slice c3 m3 q3]) (by simp [results, Try.results160, go_sem, d0, d1, d2, d3]) rfl ⟨.slice c1 m1 q1, .slice c2 m2 q2, .slice c3 m3 q3, rfl, HN.out⟩
end Go.Proofs.Ytlakojncjldpbaa
