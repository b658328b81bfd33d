/- The adaptive cache over a store: State, Keys; of none at all. -/
import Derived.Test.YtlakojncjldpbaaGreatAca6
import Derived.Test.YtlakojncjldpbaaGreatGApp
import Derived.Test.YtlakojncjldpbaaGreatTwo
namespace Go.Proofs.YtlakojncjldpbaaGreat
open Go.RowKit Hop
set_option linter.unusedVariables false
set_option linter.unusedSimpArgs false
set_option maxRecDepth 100000
section
variable {ps : Nat} {O : Nat → Prop} {p : Nat} {s : AS}
set_option maxHeartbeats 3200000 in
theorem astate_any (px : Nat) (w : World) (H : Aca w px O s p) :
    Calls Tryz.prog 60 #[P0 px] w fun e w' => ∃ v1 v2 v3 v4, e = .returned (.agg #[.int .i64 s.c, .int .i64 s.p, v1, v2, v3, v4]) ∧ KL w' v1 s.t ∧ KL w' v2 s.u ∧ KL w' v3 s.b ∧ KL w' v4 s.d ∧ Below w.heap.size w w' := by
  obtain ⟨ps, O1, hx, hs, hn, rfl⟩ := H
  obtain ⟨c, q, t, u, b, d⟩ := s
  simp only [lsA] at hx hs ⊢
  have A0 := (Below.refl w.heap.size w).alloc (Nat.le_refl _) (.cells #[.int .i64 0, .int .i64 0, .slice none 0 0, .slice none 0 0, .slice none 0 0, .slice none 0 0] 55)
  obtain ⟨W, hW⟩ : ∃ W, W = w.alloc (.cells #[.int .i64 0, .int .i64 0, .slice none 0 0, .slice none 0 0, .slice none 0 0, .slice none 0 0] 55) := ⟨_, rfl⟩
  have b0 : Blk W w.heap.size [.int .i64 0, .int .i64 0, .slice none 0 0, .slice none 0 0, .slice none 0 0, .slice none 0 0] 55 := by rw [hW]; exact Blk.new0 w [.int .i64 0, .int .i64 0, .slice none 0 0, .slice none 0 0, .slice none 0 0, .slice none 0 0] 55
  rw [← hW] at A0
  have xW := hx.keep A0
  have sW := hs.keep A0
  have hBd : Below W.heap.size W W.drew := (Below.refl _ _).drew
  have HA0 := Go.Lib.hid A0
  have HW := Go.Lib.hid hW
  have Hb0 := Go.Lib.hid b0
  have HBd := Go.Lib.hid hBd
  have HK0 : Hid (Calls Tryz.prog 54 #[P0 ps, .int .i64 0] W.drew fun e w' => ∃ v, e = .returned v ∧ KL w' v t ∧ Below W.drew.heap.size W.drew w') := Go.Lib.hid ((keys_k 0 W.drew (by simp) (sW.keep hBd)).mono (fun e w' ⟨v, h1, h2, h3, h4⟩ => ⟨v, h1, h2, h4⟩))
  have HK1 : Hid (∀ x, Below W.drew.heap.size W.drew x → Calls Tryz.prog 54 #[P0 ps, .int .i64 1] x fun e w' => ∃ v, e = .returned v ∧ KL w' v u ∧ Below x.heap.size x w' ∧ Below W.drew.heap.size W.drew w') := Go.Lib.hid (fun x hu => (keys_k 1 x (by simp) (sW.keep (hBd.trans hu))).mono (fun e w' ⟨v, h1, h2, h3, h4⟩ => ⟨v, h1, h2, h4, hu.trans (h4.mono hu.size)⟩))
  have HK2 : Hid (∀ x, Below W.drew.heap.size W.drew x → Calls Tryz.prog 54 #[P0 ps, .int .i64 2] x fun e w' => ∃ v, e = .returned v ∧ KL w' v b ∧ Below x.heap.size x w' ∧ Below W.drew.heap.size W.drew w') := Go.Lib.hid (fun x hu => (keys_k 2 x (by simp) (sW.keep (hBd.trans hu))).mono (fun e w' ⟨v, h1, h2, h3, h4⟩ => ⟨v, h1, h2, h4, hu.trans (h4.mono hu.size)⟩))
  have HK3 : Hid (∀ x, Below W.drew.heap.size W.drew x → Calls Tryz.prog 54 #[P0 ps, .int .i64 3] x fun e w' => ∃ v, e = .returned v ∧ KL w' v d ∧ Below x.heap.size x w' ∧ Below W.drew.heap.size W.drew w') := Go.Lib.hid (fun x hu => (keys_k 3 x (by simp) (sW.keep (hBd.trans hu))).mono (fun e w' ⟨v, h1, h2, h3, h4⟩ => ⟨v, h1, h2, h4, hu.trans (h4.mono hu.size)⟩))
  have ne : px ≠ w.heap.size := by have := hx.lt; omega
  have SS : ∀ W', Blk W' px [P0 ps, .int .i64 c, .int .i64 q] 96 → (W'.cell? ⟨px, 0, none⟩ = some (P0 ps) ∧ W'.cell? ⟨px, 1, none⟩ = some (.int .i64 c) ∧ W'.cell? ⟨px, 2, none⟩ = some (.int .i64 q)) := fun W' h => ⟨h.cell 0, h.cell 1, h.cell 2⟩
  have HS1 := Go.Lib.hid (fun W' (hb : Below W.drew.heap.size W.drew W') => SS W' (xW.keep (hBd.trans hb)))
  have HS4 := Go.Lib.hid (fun W' u0 u1 u2 u3 u4 u5 (hb : Below W.drew.heap.size W.drew W') => SS _ (((((((xW.keep (hBd.trans hb)).set_ne (a := ⟨w.heap.size, 0, none⟩) ne u0).set_ne (a := ⟨w.heap.size, 1, none⟩) ne u1).set_ne (a := ⟨w.heap.size, 2, none⟩) ne u2).set_ne (a := ⟨w.heap.size, 3, none⟩) ne u3).set_ne (a := ⟨w.heap.size, 4, none⟩) ne u4).set_ne (a := ⟨w.heap.size, 5, none⟩) ne u5))
  have HS0 := Go.Lib.hid (SS _ (xW.keep hBd))
  have lx := xW.lt
  clear hW b0 A0 hx hs hn xW sW SS hBd
  go_enter Tryz.func60, Tryz.ntmps60
  go_wp2_with fail
  rw [← HW.out]
  go_region_held3 (fun W' => W'.cell? ⟨px, 0, none⟩ = some (P0 ps) ∧ W'.cell? ⟨px, 1, none⟩ = some (.int .i64 c) ∧ W'.cell? ⟨px, 2, none⟩ = some (.int .i64 q))
    (first | with_reducible exact HS4.out _ _ _ _ _ _ _ hb4 | with_reducible exact HS1.out _ hb4 | with_reducible exact HS1.out _ hb3 | with_reducible exact HS1.out _ hb2 | with_reducible exact HS1.out _ hb1 | exact HS0.out)
    (first | (have qq := hb3; go_at_call 54; refine (HK3.out _ qq).mono ?_; rintro e w4 ⟨v4, rfl, hr4, hb4', hb4⟩; obtain ⟨a4, p4, rfl⟩ := hr4.form; have b1 := Hb0.out.keep (HBd.out.trans hb4); have d0 := b1.cell 0; have d1 := b1.cell 1; have d2 := b1.cell 2; have d3 := b1.cell 3; have d4 := b1.cell 4; have d5 := b1.cell 5; have f0 := b1.frozen 0; have f1 := b1.frozen 1; have f2 := b1.frozen 2; have f3 := b1.frozen 3; have f4 := b1.frozen 4; have f5 := b1.frozen 5; simp only [List.getElem?_cons_zero, List.getElem?_cons_succ] at d0 d1 d2 d3 d4 d5; have l3 := b1.lt) | (have qq := hb2; go_at_call 54; refine (HK2.out _ qq).mono ?_; rintro e w3 ⟨v3, rfl, hr3, hb3', hb3⟩; obtain ⟨a3, p3, rfl⟩ := hr3.form) | (have qq := hb1; go_at_call 54; refine (HK1.out _ qq).mono ?_; rintro e w2 ⟨v2, rfl, hr2, hb2', hb2⟩; obtain ⟨a2, p2, rfl⟩ := hr2.form) | (go_at_call 54; refine HK0.out.mono ?_; rintro e w1 ⟨v1, rfl, hr1, hb1⟩; obtain ⟨a1, p1, rfl⟩ := hr1.form))
  have J4 := Go.Lib.hid hr4
  have J3 := Go.Lib.hid (hr3.keep hb4')
  have J2 := Go.Lib.hid ((hr2.keep hb3').keep hb4')
  have J1 := Go.Lib.hid (((hr1.keep hb2').keep hb3').keep hb4')
  have Jb := Go.Lib.hid b1
  have HB1 := Go.Lib.hid (HA0.out.trans ((HBd.out.trans hb4).mono HA0.out.size))
  clear b1 hr1 hr2 hr3 hr4 hb1 hb2 hb2' hb3 hb3' hb4 hb4'
  generalize t.length = l1 at *
  generalize u.length = l2 at *
  generalize b.length = l4 at *
  generalize d.length = l5 at *
  go_wp2_with fail
  refine bodyPost_ret (v := .agg #[.int .i64 c, .int .i64 q, .slice a1 l1 p1, .slice a2 l2 p2, .slice a3 l4 p3, .slice a4 l5 p4]) (by simp [results, Tryz.results60, go_sem, d0, d1, d2, d3, d4, d5]) rfl ⟨_, _, _, _, rfl, ?_, ?_, ?_, ?_, ?_⟩
  · exact J1.out.two Jb.out Jb.out (by decide) (by decide) (by repeat' (first | refine Fr.setEq ?_ ?_ _ | exact Fr.refl _ _ | exact .inl rfl | exact .inr rfl))
  · exact J2.out.two Jb.out Jb.out (by decide) (by decide) (by repeat' (first | refine Fr.setEq ?_ ?_ _ | exact Fr.refl _ _ | exact .inl rfl | exact .inr rfl))
  · exact J3.out.two Jb.out Jb.out (by decide) (by decide) (by repeat' (first | refine Fr.setEq ?_ ?_ _ | exact Fr.refl _ _ | exact .inl rfl | exact .inr rfl))
  · exact J4.out.two Jb.out Jb.out (by decide) (by decide) (by repeat' (first | refine Fr.setEq ?_ ?_ _ | exact Fr.refl _ _ | exact .inl rfl | exact .inr rfl))
  · repeat' (first | refine below_set ?_ ?_ _ | exact HB1.out | omega)
set_option maxHeartbeats 1600000 in
theorem akeys_any (px : Nat) (w : World) (H : Aca w px O s p) :
    Calls Tryz.prog 32 #[P0 px] w fun e w' => ∃ v, e = .returned v ∧ KL w' v (s.t ++ s.u) ∧ Below w.heap.size w w' := by
  have hl := H.len
  have hlen : s.t.length + s.u.length < 100000 := by omega
  have HS := Go.Lib.hid (astate_any px w H)
  have HL := Go.Lib.hid hlen
  clear H hl hlen
  go_enter Tryz.func32, Tryz.ntmps32
  go_wp2_with fail
  refine HS.out.mono ?_
  rintro e w1 ⟨v1, v2, v3, v4, rfl, h1, h2, h3, h4, hb⟩
  obtain ⟨a1, p1, rfl⟩ := h1.form
  obtain ⟨a2, p2, rfl⟩ := h2.form
  obtain ⟨a3, p3, rfl⟩ := h3.form
  obtain ⟨a4, p4, rfl⟩ := h4.form
  have A1 := (Below.refl w1.heap.size w1).alloc (Nat.le_refl _) (.cells #[.int .i64 s.c, .int .i64 s.p, .slice a1 s.t.length p1, .slice a2 s.u.length p2, .slice a3 s.b.length p3, .slice a4 s.d.length p4] 55)
  have A2 := A1.alloc (by simp) (.cells #[.slice a1 s.t.length p1, .slice a2 s.u.length p2] 27)
  have HCC := Go.Lib.hid (sconcat2_any (w1.heap.size + 1) (.slice a1 s.t.length p1) (.slice a2 s.u.length p2) s.t s.u _ HL.out (Blk.new1 w1 (.cells #[.int .i64 s.c, .int .i64 s.p, .slice a1 s.t.length p1, .slice a2 s.u.length p2, .slice a3 s.b.length p3, .slice a4 s.d.length p4] 55) [.slice a1 s.t.length p1, .slice a2 s.u.length p2] 27) (h1.keep A2) (h2.keep A2))
  have HB1 := Go.Lib.hid (hb.trans (A2.mono hb.size))
  clear h1 h2 h3 h4 hb A1 A2
  go_wp2_with fail
  refine HCC.out.mono ?_
  rintro e w2 ⟨v, rfl, hk, hb2⟩
  have HK := Go.Lib.hid hk
  have HB2 := Go.Lib.hid (HB1.out.trans (hb2.mono HB1.out.size))
  clear hk hb2
  go_wp2_with fail
  go_ret
  exact ⟨_, rfl, HK.out, HB2.out⟩
end
/-! Of none at all. -/
set_option maxHeartbeats 400000 in
theorem ahas_nil (k : Int) (w : World) : Calls Tryz.prog 61 #[.pointer none, .int .u64 k] w fun e w' => e = .returned (.bool false) ∧ w = w' := by
  go_enter Tryz.func61, Tryz.ntmps61
  go_wp2_with fail
  go_ret
  exact ⟨rfl, rfl⟩
set_option maxHeartbeats 400000 in
theorem atouch_nil (k : Int) (w : World) : Calls Tryz.prog 59 #[.pointer none, .int .u64 k] w fun e w' => e = .returned (.tuple #[]) ∧ w = w' := by
  go_enter Tryz.func59, Tryz.ntmps59
  go_wp2_with fail
  refine (ahas_nil k w).mono ?_
  rintro e w' ⟨rfl, rfl⟩
  go_wp2_with fail
  go_end0
  exact ⟨rfl, rfl⟩
set_option maxHeartbeats 400000 in
theorem adrop_nil (k : Int) (w : World) : Calls Tryz.prog 71 #[.pointer none, .int .u64 k] w fun e w' => e = .returned (.tuple #[]) ∧ w = w' := by
  go_enter Tryz.func71, Tryz.ntmps71
  go_wp2_with fail
  go_end0
  exact ⟨rfl, rfl⟩
set_option maxHeartbeats 400000 in
theorem aadmit_nil (k : Int) (w : World) : Calls Tryz.prog 58 #[.pointer none, .int .u64 k] w fun e w' => e = .returned (.slice none 0 0) ∧ w = w' := by
  go_enter Tryz.func58, Tryz.ntmps58
  go_wp2_with fail
  go_ret
  exact ⟨rfl, rfl⟩
set_option maxHeartbeats 400000 in
theorem aresize_nil (n : Int) (w : World) : Calls Tryz.prog 72 #[.pointer none, .int .i64 n] w fun e w' => e = .returned (.slice none 0 0) ∧ w = w' := by
  go_enter Tryz.func72, Tryz.ntmps72
  go_wp2_with fail
  go_ret
  exact ⟨rfl, rfl⟩
set_option maxHeartbeats 400000 in
theorem aghosts_nil (w : World) : Calls Tryz.prog 34 #[.pointer none] w fun e w' => e = .returned (.int .i64 0) ∧ w = w' := by
  go_enter Tryz.func34, Tryz.ntmps34
  go_wp2_with fail
  go_ret
  exact ⟨rfl, rfl⟩
set_option maxHeartbeats 400000 in
theorem astate_nil (w : World) : Calls Tryz.prog 60 #[.pointer none] w fun e w' => e = .returned (.agg #[.int .i64 0, .int .i64 0, .slice none 0 0, .slice none 0 0, .slice none 0 0, .slice none 0 0]) ∧ Below w.heap.size w w' := by
  have HB := Go.Lib.hid ((Below.refl w.heap.size w).alloc (Nat.le_refl _) (.cells #[.int .i64 0, .int .i64 0, .slice none 0 0, .slice none 0 0, .slice none 0 0, .slice none 0 0] 55))
  go_enter Tryz.func60, Tryz.ntmps60
  go_wp2_with fail
  refine bodyPost_ret (v := .agg #[.int .i64 0, .int .i64 0, .slice none 0 0, .slice none 0 0, .slice none 0 0, .slice none 0 0]) (by simp [results, Tryz.results60, go_sem]) rfl ⟨rfl, ?_⟩
  repeat' (first | refine below_set ?_ ?_ _ | exact HB.out | omega)
set_option maxHeartbeats 800000 in
theorem akeys_nil (w : World) : Calls Tryz.prog 32 #[.pointer none] w fun e w' => ∃ v, e = .returned v ∧ KL w' v [] ∧ Below w.heap.size w w' := by
  go_enter Tryz.func32, Tryz.ntmps32
  go_wp2_with fail
  refine (astate_nil w).mono ?_
  rintro e w1 ⟨rfl, hb⟩
  have A1 := (Below.refl w1.heap.size w1).alloc (Nat.le_refl _) (.cells #[.int .i64 0, .int .i64 0, .slice none 0 0, .slice none 0 0, .slice none 0 0, .slice none 0 0] 55)
  have A2 := A1.alloc (by simp) (.cells #[.slice none 0 0, .slice none 0 0] 27)
  have HCC := Go.Lib.hid (sconcat2_any (w1.heap.size + 1) (.slice none 0 0) (.slice none 0 0) [] [] _ (by simp) (Blk.new1 w1 (.cells #[.int .i64 0, .int .i64 0, .slice none 0 0, .slice none 0 0, .slice none 0 0, .slice none 0 0] 55) [.slice none 0 0, .slice none 0 0] 27) (KL.nil _) (KL.nil _))
  have HB1 := Go.Lib.hid (hb.trans (A2.mono hb.size))
  clear hb A1 A2
  go_wp2_with fail
  refine HCC.out.mono ?_
  rintro e w2 ⟨v, rfl, hk, hb2⟩
  have HK := Go.Lib.hid hk
  have HB2 := Go.Lib.hid (HB1.out.trans (hb2.mono HB1.out.size))
  clear hk hb2
  go_wp2_with fail
  go_ret
  exact ⟨_, rfl, HK.out, HB2.out⟩
end Go.Proofs.YtlakojncjldpbaaGreat
