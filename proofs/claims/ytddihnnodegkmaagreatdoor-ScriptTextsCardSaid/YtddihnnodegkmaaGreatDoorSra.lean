/- ScriptTexts: the reference's text, and the law's walk. -/
import Derived.Test.YtddihnnodegkmaaGreatDoorSr9
namespace Go.Proofs.YtddihnnodegkmaaGreatDoor
open Go.RowKit Hop
set_option linter.unusedVariables false
set_option linter.unusedSimpArgs false
set_option maxRecDepth 100000
theorem textF_snoc (L : List Op4) (o : Op4) : textF (L ++ [o]) = textF L ++ lineF o ++ ⟨#[10]⟩ := by
  have q := textF_append L [o]
  rw [q]
  have e : textF [o] = lineF o ++ ⟨#[10]⟩ := ba_ext (by
    show (textL [o]).toArray.toList = _
    rw [app_data]
    simp [textL])
  rw [e]
  exact ba_ext (by simp only [app_data, List.append_assoc])
set_option maxHeartbeats 3200000 in
theorem rtext_any (v : Value) (L : List Op4) (w : World) (hlen : L.length ≤ 100000) (h : OL w v L) :
    Calls Tryz.prog 7 #[v] w fun e w' => e = .returned (.string (textF L)) ∧ Below w.heap.size w w' := by
  have HOL := Go.Lib.hid h
  obtain ⟨a, cap, rfl, hm, hok, hcell⟩ := h
  have HOK := Go.Lib.hid hok
  unfold maxLen at hm
  clear hok hcell
  go_enter Tryz.func7, Tryz.ntmps7
  go_wp2_with fail
  go_loopw [3, 4] (fun t i wr => ∃ j : Nat, j ≤ L.length ∧ i = .int .i64 j ∧ t = .string (textF (L.take j)) ∧ Below w.heap.size w wr) (fun t i _ => L.length - (intOf i).toNat)
  case atStart => exact ⟨0, Nat.zero_le _, rfl, rfl, Below.refl _ _⟩
  case round =>
    obtain ⟨j, hj, rfl, rfl, hB⟩ := hrel
    by_cases hlt : j < L.length
    · obtain ⟨x, hx⟩ : ∃ x, L[j]? = some x := ⟨L[j], List.getElem?_eq_getElem hlt⟩
      have hxo : x.ok := HOK.out x (List.mem_of_getElem? hx)
      have hn1 := lineF_size hxo
      have hn2 := textF_size (L := L.take j) (fun y hy => HOK.out y (List.mem_of_mem_take hy))
      have hn3 : (L.take j).length ≤ 100000 := by rw [List.length_take]; omega
      obtain ⟨a', cap', e1, _, _, hcl⟩ := HOL.out.keep hB
      injection e1 with e2 e3 e4
      subst e2; subst e4
      obtain ⟨ad, rfl, g1, g2, g3, g4, g5⟩ := hcl j x hx
      have e2 : Hid (textF (L.take (j + 1)) = textF (L.take j) ++ lineF x ++ ⟨#[10]⟩) := Go.Lib.hid (by rw [take_snoc_op hx, textF_snoc])
      have HB := Go.Lib.hid hB
      have HLN := Go.Lib.hid (fun w => rline_any x w hxo)
      have gab : (ad.add (j * 4)).block < wr.heap.size := by rw [add_block]; exact g1
      have q1 : ¬ (9223372036854775807 < (textF (L.take j)).size + (lineF x).size) := by omega
      have q2 : ¬ (9223372036854775807 < (textF (L.take j)).size + (lineF x).size + 1) := by omega
      clear hx hxo hn1 hn2 hn3 hcl hB e3
      generalize lineF x = S at *
      generalize textF (L.take j) = T at *
      go_wp2_with fail
      refine (HLN.out _).mono ?_
      rintro e w1 ⟨rfl, hb⟩
      have HB1 := Go.Lib.hid (HB.out.trans (hb.mono HB.out.size))
      clear hb g2 g3 g4 g5
      go_wp2_with fail
      go_roundw
      case rel => exact ⟨j + 1, by omega, by go_num, by rw [e2.out] <;> rfl, HB1.out⟩
      case measure => simp [intOf]; omega
    · have e : j = L.length := by omega
      subst e
      rw [List.take_length]
      have HB := Go.Lib.hid hB
      clear hB
      generalize eT : textF L = T at *
      have ET := Go.Lib.hid eT
      clear eT
      go_wp2_with fail
      go_ret
      exact ⟨by rw [ET.out] <;> rfl, HB.out⟩
set_option maxHeartbeats 6400000 in
theorem texts_any (v : Value) (A : List Op4) (o : Op4) (w : World) (h : Env w) (hA : OL w v A) : Calls Tryz.prog 3 #[v, vOp o] w fun e w' => e = .returned (.bool true) ∧ Below w.heap.size w w' := by
  have HA0 := Go.Lib.hid hA
  have okA := Go.Lib.hid hA.ok
  obtain ⟨a, cap, rfl, hm, _, _⟩ := hA
  unfold maxLen at hm
  obtain ⟨W, hW⟩ : ∃ W, W = w.alloc (.cells #[.int .i64 o.kind, .int .u64 o.key, .int .u64 o.val, .int .i64 o.n] 25) := ⟨_, rfl⟩
  have B0 : Below w.heap.size w W := by rw [hW]; exact (Below.refl _ _).alloc (Nat.le_refl _) _
  have b0 : Blk W w.heap.size [.int .i64 o.kind, .int .u64 o.key, .int .u64 o.val, .int .i64 o.n] 25 := by rw [hW]; exact Blk.new0 w [.int .i64 o.kind, .int .u64 o.key, .int .u64 o.val, .int .i64 o.n] 25
  have HE := Go.Lib.hid (h.keep (B0.mono (Nat.le_refl _)))
  have HA := Go.Lib.hid (HA0.out.keep B0)
  have HW := Go.Lib.hid hW
  have HB0 := Go.Lib.hid B0
  have Hb0 := Go.Lib.hid b0
  clear h HA0 hW B0 b0
  go_enter Tryz.func3, Tryz.ntmps3
  go_wp2_with fail
  rw [← HW.out]
  refine (awake20_any W HE.out).mono ?_
  rintro e w1 ⟨rfl, hb⟩
  have HB1 := Go.Lib.hid (HB0.out.trans (hb.mono HB0.out.size))
  have HE1 := Go.Lib.hid (HE.out.keep hb)
  have HA1 := Go.Lib.hid (HA.out.keep hb)
  have Hb1 := Go.Lib.hid (Hb0.out.keep hb)
  clear hb
  by_cases h1 : 60 < A.length
  · go_wp2_with fail
    go_ret
    exact ⟨rfl, HB1.out⟩
  have HBD : Hid (Below w.heap.size w w1.drew) := Go.Lib.hid (HB1.out.trans ((Below.refl _ _).drew.mono HB1.out.size))
  have bD := (Below.refl w1.heap.size w1).drew
  have HTX : Hid (Calls Tryz.prog 6 #[.slice a A.length cap] w1.drew fun e w' => e = .returned (.string (textF A)) ∧ Below w1.drew.heap.size w1.drew w') := Go.Lib.hid (text_any _ _ _ (by omega) (HA1.out.keep bD) (HE1.out.keep bD).p10)
  have HTR : Hid (∀ w', Below w1.drew.heap.size w1.drew w' → Calls Tryz.prog 7 #[.slice a A.length cap] w' fun e w'' => e = .returned (.string (textF A)) ∧ Below w'.heap.size w' w'') := Go.Lib.hid (fun w' hb => rtext_any _ _ _ (by omega) ((HA1.out.keep bD).keep hb))
  have HS0 := Go.Lib.hid (have q := Hb1.out.keep bD; (⟨q.cell 0, q.cell 1, q.cell 2, q.cell 3⟩ : w1.drew.cell? ⟨w.heap.size, 0, none⟩ = some (.int .i64 o.kind) ∧ w1.drew.cell? ⟨w.heap.size, 1, none⟩ = some (.int .u64 o.key) ∧ w1.drew.cell? ⟨w.heap.size, 2, none⟩ = some (.int .u64 o.val) ∧ w1.drew.cell? ⟨w.heap.size, 3, none⟩ = some (.int .i64 o.n)))
  have HS := Go.Lib.hid (fun w' (hb : Below w1.drew.heap.size w1.drew w') => (have q := (Hb1.out.keep bD).keep hb; (⟨q.cell 0, q.cell 1, q.cell 2, q.cell 3⟩ : w'.cell? ⟨w.heap.size, 0, none⟩ = some (.int .i64 o.kind) ∧ w'.cell? ⟨w.heap.size, 1, none⟩ = some (.int .u64 o.key) ∧ w'.cell? ⟨w.heap.size, 2, none⟩ = some (.int .u64 o.val) ∧ w'.cell? ⟨w.heap.size, 3, none⟩ = some (.int .i64 o.n))))
  have HSB := Go.Lib.hid (fun w => bare_any o w)
  have HRB := Go.Lib.hid (fun w => rbare_any o w)
  clear bD
  obtain ⟨k, y, x, n⟩ := o
  simp only [vOp] at *
  generalize bareF ⟨k, y, x, n⟩ = Y at *
  generalize textF A = T at *
  go_wp2_with fail
  go_region_held3 (fun W' => W'.cell? ⟨w.heap.size, 0, none⟩ = some (.int .i64 k) ∧ W'.cell? ⟨w.heap.size, 1, none⟩ = some (.int .u64 y) ∧ W'.cell? ⟨w.heap.size, 2, none⟩ = some (.int .u64 x) ∧ W'.cell? ⟨w.heap.size, 3, none⟩ = some (.int .i64 n))
    (first | with_reducible exact HS.out _ hb5 | with_reducible exact HS.out _ hb4 | with_reducible exact HS.out _ hb3 | with_reducible exact HS.out _ hb2 | exact HS0.out)
    (first | (go_at_call 6; refine HTX.out.mono ?_; rintro e w2 ⟨rfl, hb2⟩) | (go_at_call 7; refine (HTR.out _ hb2).mono ?_; rintro e w3 ⟨rfl, hb⟩; have hb3 := hb2.trans (hb.mono hb2.size)) | (go_at_call 8; refine (HSB.out _).mono ?_; rintro e w4 ⟨rfl, hbb⟩; have hb4 := hb3.trans (hbb.mono hb3.size)) | (go_at_call 9; refine (HRB.out _).mono ?_; rintro e w5 ⟨rfl, hbc⟩; have hb5 := hb4.trans (hbc.mono hb4.size)))
  have HB5 := Go.Lib.hid (HBD.out.trans (hb5.mono HBD.out.size))
  clear hb2 hb3 hb4 hb5 hb hbb hbc
  go_wp2_with fail
  go_ret
  exact ⟨rfl, HB5.out⟩
end Go.Proofs.YtddihnnodegkmaaGreatDoor
