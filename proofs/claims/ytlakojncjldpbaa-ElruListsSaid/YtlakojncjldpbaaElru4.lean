/- The cache over a store: State, Keys; of none at all. -/
import Derived.Test.YtlakojncjldpbaaElru3
namespace Go.Proofs.Ytlakojncjldpbaa
open Go.RowKit Hop
set_option linter.unusedVariables false
set_option linter.unusedSimpArgs false
set_option maxRecDepth 100000
section
variable {ps : Nat} {O : Nat → Prop} {p : Nat} {L : List Int} {c : Int}
set_option maxHeartbeats 1600000 in
theorem estate_any (px : Nat) (w : World) (H : Ela w px O L c p) :
    Calls Try.prog 26 #[P0 px] w fun e w' => ∃ v, e = .returned (.agg #[.int .i64 c, v]) ∧ KL w' v L ∧ Below w.heap.size w w' := by
  obtain ⟨ps, O1, hx, hs, hn, rfl⟩ := H
  have A0 := (Below.refl w.heap.size w).alloc (Nat.le_refl _) (.cells #[.int .i64 0, .slice none 0 0] 39)
  obtain ⟨W, hW⟩ : ∃ W, W = w.alloc (.cells #[.int .i64 0, .slice none 0 0] 39) := ⟨_, rfl⟩
  have b0 : Blk W w.heap.size [.int .i64 0, .slice none 0 0] 39 := by rw [hW]; exact Blk.new0 w [.int .i64 0, .slice none 0 0] 39
  rw [← hW] at A0
  have xW := hx.keep A0
  have sW := hs.keep A0
  have HA0 := Go.Lib.hid A0
  have HW := Go.Lib.hid hW
  have Hb0 := Go.Lib.hid b0
  have HSd : Hid (Sta W.drew ps O1 (qL L) p) := Go.Lib.hid (sW.keep (Below.refl _ _).drew)
  have HK := Go.Lib.hid (fun w' (h : Sta w' ps O1 (qL L) p) => keys_sta 0 w' (by unfold qL; simp) h)
  have e0 : (qL L).getD 0 [] = L.map kE := rfl
  have e1 : (L.map kE).length = L.length := by simp
  have e2 : (L.map kE).map (fun e => Value.int .u64 e.key) = L.map (Value.int .u64) := by rw [List.map_map]; rfl
  simp only [e0, e1, e2] at HK
  have ne : px ≠ w.heap.size := by have := hx.lt; omega
  have S0 : ∀ W', Blk W' px [P0 ps, .int .i64 c] 113 → (W'.cell? ⟨px, 0, none⟩ = some (P0 ps) ∧ W'.cell? ⟨px, 1, none⟩ = some (.int .i64 c)) := fun W' h => ⟨h.cell 0, h.cell 1⟩
  have S1 := fun W' (hb : Below W.drew.heap.size W.drew W') => S0 W' (xW.keep ((Below.refl _ _).drew.trans hb))
  have S4 := fun W' u1 u2 (hb : Below W.drew.heap.size W.drew W') => S0 _ (((xW.keep ((Below.refl _ _).drew.trans hb)).set_ne (a := ⟨w.heap.size, 0, none⟩) ne u1).set_ne (a := ⟨w.heap.size, 1, none⟩) ne u2)
  have HS0 := Go.Lib.hid (S1 _ (Below.refl _ _))
  have HS1 := Go.Lib.hid S1
  have HS4 := Go.Lib.hid S4
  have lx := xW.lt
  clear hW b0 A0 hx hs hn xW sW S0 S1 S4 e0 e1 e2
  go_enter Try.func26, Try.ntmps26
  go_wp2_with fail
  rw [← HW.out]
  go_region_held3 (fun W' => W'.cell? ⟨px, 0, none⟩ = some (P0 ps) ∧ W'.cell? ⟨px, 1, none⟩ = some (.int .i64 c))
    (first | with_reducible exact HS4.out _ _ _ hb1 | with_reducible exact HS1.out _ hb1 | exact HS0.out)
    (first | (go_at_call 116; refine (HK.out _ HSd.out).mono ?_; rintro e w1 ⟨v1, rfl, hr1, ho1, hb1⟩; obtain ⟨a1, cap1, rfl⟩ := row_form hr1; have b1 := Hb0.out.keep ((Below.refl _ _).drew.trans hb1); have d0 := b1.cell 0; have d1 := b1.cell 1; have f0 := b1.frozen 0; have f1 := b1.frozen 1; simp only [List.getElem?_cons_zero, List.getElem?_cons_succ] at d0 d1; have l3 := b1.lt))
  have N1 := Go.Lib.hid (KL.ne (L := L) hr1 b1 (by decide))
  have HK1 : Hid (KL w1 (.slice a1 L.length cap1) L) := Go.Lib.hid hr1
  have HB1 := Go.Lib.hid (HA0.out.trans (((Below.refl _ _).drew.trans hb1).mono HA0.out.size))
  clear b1 hr1 ho1 hb1
  go_wp2_with fail
  refine bodyPost_ret (v := .agg #[.int .i64 c, .slice a1 L.length cap1]) (by simp [results, Try.results26, go_sem, d0, d1]) rfl ⟨_, rfl, ?_, ?_⟩
  · exact (HK1.out.set_ne N1.out _).set_ne N1.out _
  · exact below_set (below_set HB1.out (Nat.le_refl _) _) (Nat.le_refl _) _
set_option maxHeartbeats 800000 in
theorem ekeys_any (px : Nat) (w : World) (H : Ela w px O L c p) :
    Calls Try.prog 30 #[P0 px] w fun e w' => ∃ v, e = .returned v ∧ KL w' v L ∧ Below w.heap.size w w' := by
  have f0 := lus_l
  have HS := Go.Lib.hid (estate_any px w H)
  clear H
  go_enter Try.func30, Try.ntmps30
  go_wp2_with fail
  refine HS.out.mono ?_
  rintro e w1 ⟨v, rfl, hk, hb⟩
  have HK := Go.Lib.hid hk
  have HB := Go.Lib.hid hb
  clear hk hb
  go_wp2_with fail
  go_ret
  exact ⟨_, rfl, HK.out, HB.out⟩
end
/-! Of none at all. -/
set_option maxHeartbeats 400000 in
theorem ehas_nil (k : Int) (w : World) : Calls Try.prog 32 #[.pointer none, .int .u64 k] w fun e w' => e = .returned (.bool false) ∧ w = w' := by
  go_enter Try.func32, Try.ntmps32
  go_wp2_with fail
  go_ret
  exact ⟨rfl, rfl⟩
set_option maxHeartbeats 400000 in
theorem etouch_nil (k : Int) (w : World) : Calls Try.prog 36 #[.pointer none, .int .u64 k] w fun e w' => e = .returned (.tuple #[]) ∧ w = w' := by
  go_enter Try.func36, Try.ntmps36
  go_wp2_with fail
  go_end0
  exact ⟨rfl, rfl⟩
set_option maxHeartbeats 400000 in
theorem edrop_nil (k : Int) (w : World) : Calls Try.prog 37 #[.pointer none, .int .u64 k] w fun e w' => e = .returned (.tuple #[]) ∧ w = w' := by
  go_enter Try.func37, Try.ntmps37
  go_wp2_with fail
  go_end0
  exact ⟨rfl, rfl⟩
set_option maxHeartbeats 400000 in
theorem eadmit_nil (k : Int) (w : World) : Calls Try.prog 38 #[.pointer none, .int .u64 k] w fun e w' => e = .returned (.slice none 0 0) ∧ w = w' := by
  go_enter Try.func38, Try.ntmps38
  go_wp2_with fail
  go_ret
  exact ⟨rfl, rfl⟩
set_option maxHeartbeats 400000 in
theorem eresize_nil (n : Int) (w : World) : Calls Try.prog 39 #[.pointer none, .int .i64 n] w fun e w' => e = .returned (.slice none 0 0) ∧ w = w' := by
  go_enter Try.func39, Try.ntmps39
  go_wp2_with fail
  go_ret
  exact ⟨rfl, rfl⟩
set_option maxHeartbeats 400000 in
theorem erooms_nil (w : World) : Calls Try.prog 28 #[.pointer none] w fun e w' => e = .returned (.tuple #[.int .i64 0, .int .i64 0]) ∧ w = w' := by
  go_enter Try.func28, Try.ntmps28
  go_wp2_with fail
  go_ret2
  exact ⟨rfl, rfl⟩
set_option maxHeartbeats 400000 in
theorem eghosts_nil (w : World) : Calls Try.prog 34 #[.pointer none] w fun e w' => e = .returned (.int .i64 0) ∧ w = w' := by
  go_enter Try.func34, Try.ntmps34
  go_wp2_with fail
  go_ret
  exact ⟨rfl, rfl⟩
set_option maxHeartbeats 400000 in
theorem estate_nil (w : World) : Calls Try.prog 26 #[.pointer none] w fun e w' => e = .returned (.agg #[.int .i64 0, .slice none 0 0]) ∧ Below w.heap.size w w' := by
  have HB := Go.Lib.hid ((Below.refl w.heap.size w).alloc (Nat.le_refl _) (.cells #[.int .i64 0, .slice none 0 0] 39))
  go_enter Try.func26, Try.ntmps26
  go_wp2_with fail
  refine bodyPost_ret (v := .agg #[.int .i64 0, .slice none 0 0]) (by simp [results, Try.results26, go_sem]) rfl ⟨rfl, ?_⟩
  first | exact HB.out | (simp only [World.setCell_alloc_new] ; exact HB.out) | exact below_set (below_set HB.out (Nat.le_refl _) _) (Nat.le_refl _) _
set_option maxHeartbeats 400000 in
theorem ekeys_nil (w : World) : Calls Try.prog 30 #[.pointer none] w fun e w' => e = .returned (.slice none 0 0) ∧ Below w.heap.size w w' := by
  have f0 := lus_l
  go_enter Try.func30, Try.ntmps30
  go_wp2_with fail
  refine (estate_nil _).mono ?_
  rintro e w1 ⟨rfl, hb⟩
  have HB := Go.Lib.hid hb
  clear hb
  go_wp2_with fail
  go_ret
  exact ⟨rfl, HB.out⟩
end Go.Proofs.Ytlakojncjldpbaa
