/- The statements' own function do (law 18). -/
import Derived.Test.YtlakojncjldpbaaLcD
import Derived.Deep.RegionHeld3
namespace Go.Proofs.Ytlakojncjldpbaa
open Go.RowKit Hop
set_option linter.unusedVariables false
set_option linter.unusedSimpArgs false
set_option maxRecDepth 100000
theorem new_ok {c : Int} (h1 : 1 ≤ c) (h2 : c ≤ 14) : LS.ok ⟨c, [], []⟩ :=
  ⟨h1, h2, ⟨by simp [keysL], by simp, by simp, by simp⟩, by show ((0 : Nat) : Int) ≤ c - 1; omega, by show ((0 : Nat) : Int) + (0 : Nat) ≤ c; omega, by show ((0 : Nat) : Int) ≤ c; omega⟩
section
variable {O : Nat → Prop} {p1 p2 : Nat}
set_option maxHeartbeats 3200000 in
theorem ldo_any (px : Nat) (s : LS) (x : Ac) (w : World) (hx : x.ok) (hc : s.ok) (hp : p1 < 1000 ∧ p2 < 1000) (H : Lca w px O s p1 p2) :
    Calls Try.prog 81 #[P0 px, .agg #[.int .u8 x.kind, .int .u64 x.key, .int .u16 x.n]] w fun e w' => ∃ vo O' p1' p2', e = .returned vo ∧ KL w' vo (doL s x).2 ∧ Lca w' px O' (doL s x).1 p1' p2' ∧ Chg O O' w w' ∧ ((p1' : Int) ≤ max (p1 : Int) (2 * s.c + 1) ∧ (p2' : Int) ≤ max (p2 : Int) s.c) := by
  obtain ⟨kd, k, n⟩ := x
  obtain ⟨hx1, ⟨hk0, hk1⟩, hx3⟩ := hx
  simp only at hx1 hk0 hk1 hx3 ⊢
  have A0 := (Below.refl w.heap.size w).alloc (Nat.le_refl _) (.cells #[.int .u8 kd, .int .u64 k, .int .u16 n] 34)
  obtain ⟨W, hW⟩ : ∃ W, W = w.alloc (.cells #[.int .u8 kd, .int .u64 k, .int .u16 n] 34) := ⟨_, rfl⟩
  have b0 : Blk W w.heap.size [.int .u8 kd, .int .u64 k, .int .u16 n] 34 := by rw [hW]; exact Blk.new0 w _ _
  rw [← hW] at A0
  have EW := H.keep A0
  have HA0 := Go.Lib.hid A0
  have HW := Go.Lib.hid hW
  have Hb0 := Go.Lib.hid b0
  have HEW := Go.Lib.hid EW
  have HHS := Go.Lib.hid (has_ca k W.drew hk0 hk1 (EW.keep (Below.refl _ _).drew))
  have HKD := Go.Lib.hid (fun t w => kind_any kd k n t w hx1)
  have HX := Go.Lib.hid hx3
  have HD : Hid (doL s ⟨kd, k, n⟩ = if kindF kd (decide (k ∈ allL s)) = 1 then (touchL s k, []) else if kindF kd (decide (k ∈ allL s)) = 2 then admitL s k else if kindF kd (decide (k ∈ allL s)) = 3 then (dropL s k, []) else resizeL s (sizeF n)) := Go.Lib.hid rfl
  have S0 : ∀ W', Blk W' w.heap.size [.int .u8 kd, .int .u64 k, .int .u16 n] 34 → (W'.cell? ⟨w.heap.size, 0, none⟩ = some (.int .u8 kd) ∧ W'.cell? ⟨w.heap.size, 1, none⟩ = some (.int .u64 k) ∧ W'.cell? ⟨w.heap.size, 2, none⟩ = some (.int .u16 n)) := fun W' h => ⟨h.cell 0, h.cell 1, h.cell 2⟩
  have S1 := fun W' (hb : Below W.drew.heap.size W.drew W') => S0 W' (b0.keep ((Below.refl _ _).drew.trans hb))
  have HS0 := Go.Lib.hid (S1 _ (Below.refl _ _))
  have HS1 := Go.Lib.hid S1
  have lb := b0.lt
  clear hW b0 A0 EW H S0 S1 hx3 hx1
  generalize decide (k ∈ allL s) = there at *
  go_enter Try.func81, Try.ntmps81
  go_wp2_with fail
  rw [← HW.out]
  go_region_held3 (fun W' => W'.cell? ⟨w.heap.size, 0, none⟩ = some (.int .u8 kd) ∧ W'.cell? ⟨w.heap.size, 1, none⟩ = some (.int .u64 k) ∧ W'.cell? ⟨w.heap.size, 2, none⟩ = some (.int .u16 n))
    (first | with_reducible exact HS1.out _ hb2' | with_reducible exact HS1.out _ hb1 | exact HS0.out)
    (first | (go_at_call 91; refine HHS.out.mono ?_; rintro e w1 ⟨rfl, hb1⟩) | (go_at_call 94; refine (HKD.out _ _).mono ?_; rintro e w2 ⟨rfl, hb2⟩; have hb2' := hb1.trans (hb2.mono hb1.size)))
  have HB2 : Hid (Below W.heap.size W w2) := Go.Lib.hid ((Below.refl _ _).drew.trans hb2')
  clear hb1 hb2 hb2'
  generalize kindF kd there = kk at *
  have E2 := HEW.out.keep HB2.out
  have b2 := Hb0.out.keep HB2.out
  have g0 := b2.cell 0
  have g1 := b2.cell 1
  have g2 := b2.cell 2
  simp only [List.getElem?_cons_zero, List.getElem?_cons_succ] at g0 g1 g2
  have lb2 := b2.lt
  have HE2 := Go.Lib.hid E2
  have Hb2 := Go.Lib.hid b2
  have HBw := Go.Lib.hid (HA0.out.trans (HB2.out.mono HA0.out.size))
  clear E2 b2
  by_cases h1 : kk = 1
  · subst h1
    rw [if_pos rfl] at HD
    have HC := Go.Lib.hid (touch_ca k w2 hk0 hk1 hc hp HE2.out)
    go_wp2_with fail
    refine HC.out.mono ?_
    rintro e w3 ⟨rfl, O', p1', p2', hE, hpp, hC⟩
    have HPP := Go.Lib.hid hpp
    have HE := Go.Lib.hid hE
    have HCC := Go.Lib.hid hC
    clear hE hC hpp g0 g1 g2
    go_wp2_with fail
    go_ret
    refine ⟨_, O', p1', p2', rfl, ?_, ?_, (Chg.of_below HBw.out).trans HCC.out, HPP.out⟩
    · rw [HD.out]; exact KL.nil _
    · rw [HD.out]; exact HE.out
  · rw [if_neg h1] at HD
    by_cases h2 : kk = 2
    · subst h2
      rw [if_pos rfl] at HD
      have HC := Go.Lib.hid (admit_ca k w2 hk0 hk1 hc hp HE2.out)
      go_wp2_with fail
      refine HC.out.mono ?_
      rintro e w3 ⟨vo, O', p1', p2', rfl, hE, hp', hC, hK, _⟩
      have HK := Go.Lib.hid hK
      have HE := Go.Lib.hid hE
      have HCC := Go.Lib.hid hC
      have HP := Go.Lib.hid hp'
      clear hE hC hK hp' g0 g1 g2
      go_wp2_with fail
      go_ret
      refine ⟨_, O', p1', p2', rfl, ?_, ?_, (Chg.of_below HBw.out).trans HCC.out, ?_⟩
      · rw [HD.out]; exact HK.out
      · rw [HD.out]; exact HE.out
      · exact HP.out
    · rw [if_neg h2] at HD
      by_cases h3 : kk = 3
      · subst h3
        rw [if_pos rfl] at HD
        have HC := Go.Lib.hid (drop_ca k w2 hk0 hk1 hc HE2.out)
        go_wp2_with fail
        refine HC.out.mono ?_
        rintro e w3 ⟨rfl, O', hE, hC⟩
        have HE := Go.Lib.hid hE
        have HCC := Go.Lib.hid hC
        clear hE hC g0 g1 g2
        go_wp2_with fail
        go_ret
        refine ⟨_, O', p1, p2, rfl, ?_, ?_, (Chg.of_below HBw.out).trans HCC.out, ⟨by omega, by omega⟩⟩
        · rw [HD.out]; exact KL.nil _
        · rw [HD.out]; exact HE.out
      · rw [if_neg h3] at HD
        have HSZ := Go.Lib.hid (sizeof_any kd k n w2 HX.out)
        have HC := Go.Lib.hid (fun w h => resize_ca (p1 := p1) (p2 := p2) (O := O) (s := s) (px := px) (sizeF n) w (by have hz := sizeF_in HX.out.1; rw [capF_id hz]; exact hz) hc hp h)
        go_wp2_with fail
        refine HSZ.out.mono ?_
        rintro e w3 ⟨rfl, hb3⟩
        have HB3 := Go.Lib.hid hb3
        clear hb3 g0 g1 g2
        go_wp2_with fail
        refine (HC.out w3 (HE2.out.keep HB3.out)).mono ?_
        rintro e w4 ⟨vo, O', p2', rfl, hE, hpp, hC, hK, _⟩
        have HPP := Go.Lib.hid hpp
        have HK := Go.Lib.hid hK
        have HE := Go.Lib.hid hE
        have HCC := Go.Lib.hid hC
        clear hE hC hK hpp
        go_wp2_with fail
        go_ret
        refine ⟨_, O', p1, p2', rfl, ?_, ?_, (Chg.of_below (HBw.out.trans (HB3.out.mono HBw.out.size))).trans HCC.out, ⟨by omega, HPP.out⟩⟩
        · rw [HD.out]; exact HK.out
        · rw [HD.out]; exact HE.out
end
end Go.Proofs.Ytlakojncjldpbaa
