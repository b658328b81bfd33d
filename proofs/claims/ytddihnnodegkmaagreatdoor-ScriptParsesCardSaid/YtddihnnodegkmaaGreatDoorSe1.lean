/- awake (layer 20), Same. -/
import Derived.Test.YtddihnnodegkmaaGreatDoorSe0
import Derived.BigQuiet
namespace Go.Proofs.YtddihnnodegkmaaGreatDoor
open Go.RowKit Hop
set_option linter.unusedVariables false
set_option linter.unusedSimpArgs false
set_option maxRecDepth 100000
deriving instance DecidableEq for Op4
theorem linesA : lnF (ByteArray.size ⟨#[112, 117, 116, 32, 49, 32, 53, 10, 103, 101, 116, 32, 49]⟩) ⟨#[112, 117, 116, 32, 49, 32, 53, 10, 103, 101, 116, 32, 49]⟩ = [⟨#[112, 117, 116, 32, 49, 32, 53]⟩, ⟨#[103, 101, 116, 32, 49]⟩] := by decide +kernel
theorem linesB : lnF (ByteArray.size ⟨#[108, 101, 110, 10, 103, 101, 116, 32, 48, 49, 10]⟩) ⟨#[108, 101, 110, 10, 103, 101, 116, 32, 48, 49, 10]⟩ = [⟨#[108, 101, 110]⟩] ++ ⟨#[103, 101, 116, 32, 48, 49]⟩ :: [] := by decide +kernel
theorem rdA1 : rdF ⟨#[112, 117, 116, 32, 49, 32, 53]⟩ = ⟨2, 1, 5, 0⟩ := by decide +kernel
theorem rdA2 : rdF ⟨#[103, 101, 116, 32, 49]⟩ = ⟨1, 1, 0, 0⟩ := by decide +kernel
theorem okA1 : okL ⟨#[112, 117, 116, 32, 49, 32, 53]⟩ = true := by decide +kernel
theorem okA2 : okL ⟨#[103, 101, 116, 32, 49]⟩ = true := by decide +kernel
theorem okB1 : okL ⟨#[108, 101, 110]⟩ = true := by decide +kernel
theorem okB2 : okL ⟨#[103, 101, 116, 32, 48, 49]⟩ = false := by decide +kernel
theorem textA : textF [⟨2, 1, 5, 0⟩, ⟨1, 1, 0, 0⟩] = ⟨#[112, 117, 116, 32, 49, 32, 53, 10, 103, 101, 116, 32, 49, 10]⟩ := by decide +kernel
theorem sLine_list : sLine.toList = [108, 105, 110, 101] := by decide +kernel
theorem parseA (w : World) (h : Env w) : Calls Tryz.prog 10 #[.string ⟨#[112, 117, 116, 32, 49, 32, 53, 10, 103, 101, 116, 32, 49]⟩] w fun e w' =>
    ∃ g cap, e = .returned (.tuple #[.slice (some ⟨g, 0, none⟩) 2 cap, .nilIface]) ∧ OL w' (.slice (some ⟨g, 0, none⟩) 2 cap) [⟨2, 1, 5, 0⟩, ⟨1, 1, 0, 0⟩] ∧ w'.ownsRow (w.heap.size + 5) 25 4 (.slice (some ⟨g, 0, none⟩) 2 cap) 2 ([⟨2, 1, 5, 0⟩, ⟨1, 1, 0, 0⟩].flatMap cOp) ∧ Below w.heap.size w w' := by
  refine (parse_good _ w (by decide) h ?_).mono ?_
  · rw [linesA]
    intro l hl
    rcases List.mem_cons.1 hl with rfl | hl
    · exact okA1
    · have e : l = ⟨#[103, 101, 116, 32, 49]⟩ := by simpa using hl
      rw [e]; exact okA2
  · rintro e w' ⟨v, rfl, h1, h2, hb⟩
    rw [linesA] at h1 h2
    simp only [List.map_cons, List.map_nil, rdA1, rdA2, List.length_cons, List.length_nil] at h1 h2
    obtain ⟨g, cap, rfl⟩ := ownsRow_succ h2
    exact ⟨g, cap, rfl, h1, h2, hb⟩
theorem parseB (w : World) (h : Env w) : Calls Tryz.prog 10 #[.string ⟨#[108, 101, 110, 10, 103, 101, 116, 32, 48, 49, 10]⟩] w fun e w' =>
    ∃ b, e = .returned (.tuple #[.slice none 0 0, .iface 56 (.pointer (some ⟨b, 0, none⟩))]) ∧ Blk w' b [.string sLine, .int .i64 2, .iface 40 (.int .i64 3)] 58 ∧ Below w.heap.size w w' := by
  refine (parse_bad _ w (by decide) h [⟨#[108, 101, 110]⟩] ⟨#[103, 101, 116, 32, 48, 49]⟩ [] linesB ?_ okB2).mono ?_
  · intro l hl
    have e : l = ⟨#[108, 101, 110]⟩ := by simpa using hl
    rw [e]; exact okB1
  · rintro e w' ⟨b, rfl, h1, hb⟩
    exact ⟨b, rfl, h1, hb⟩
set_option maxHeartbeats 3200000 in
theorem awake20_any (w : World) (h : Env w) : Calls Tryz.prog 5 #[] w fun e w' => e = .returned (.bool true) ∧ Below w.heap.size w w' := by
  have HE := Go.Lib.hid h
  have hs := sLine_list
  clear h
  go_enter Tryz.func5, Tryz.ntmps5
  go_wp2_with fail
  refine (parseA w HE.out).mono ?_
  rintro e w1 ⟨g, cap, rfl, hOL, hrow, hb⟩
  have HO := Go.Lib.hid hOL
  have HR := Go.Lib.hid hrow
  have HB1 := Go.Lib.hid hb
  have HE1 := Go.Lib.hid (HE.out.keep hb)
  clear hOL hrow hb
  go_wp2_with fail
  refine (parseB w1 HE1.out).mono ?_
  rintro e w2 ⟨b, rfl, hbad, hb⟩
  have HO2 := Go.Lib.hid (HO.out.keep hb)
  have HBD := Go.Lib.hid hbad
  have HB2 := Go.Lib.hid (HB1.out.trans (hb.mono HB1.out.size))
  have HE2 := Go.Lib.hid (HE1.out.keep hb)
  have HC : Hid (∀ (j : Nat) (u : Value), ([⟨2, 1, 5, 0⟩, ⟨1, 1, 0, 0⟩].flatMap cOp)[j]? = some u → g < w2.heap.size ∧ w2.cell? ⟨g, j, none⟩ = some u) := Go.Lib.hid (fun j u hj => by
    have q := row_cell HR.out j u hj
    exact ⟨by have := hb.size; omega, cell_keep hb q.2⟩)
  clear hb hbad
  go_wp2_with fail
  refine (field_bad b sLine 2 _ w2 HBD.out HE2.out.et).mono ?_
  rintro e w3 ⟨rfl, hb⟩
  have HO3 := Go.Lib.hid (HO2.out.keep hb)
  have HBD3 := Go.Lib.hid (HBD.out.keep hb)
  have HB3 := Go.Lib.hid (HB2.out.trans (hb.mono HB2.out.size))
  have HE3 := Go.Lib.hid (HE2.out.keep hb)
  have c0 := cell_keep hb (HC.out 0 _ rfl).2
  have c1 := cell_keep hb (HC.out 1 _ rfl).2
  have c2 := cell_keep hb (HC.out 2 _ rfl).2
  have c3 := cell_keep hb (HC.out 3 _ rfl).2
  have lg : g < w3.heap.size := Nat.lt_of_lt_of_le (HC.out 0 _ rfl).1 hb.size
  clear hb
  go_wp2_with fail
  refine (text_any _ _ w3 (by decide) HO3.out HE3.out.p10).mono ?_
  rintro e w4 ⟨rfl, hb⟩
  rw [textA]
  have HBD4 := Go.Lib.hid (HBD3.out.keep hb)
  have HB4 := Go.Lib.hid (HB3.out.trans (hb.mono HB3.out.size))
  clear hb c0 c1 c2 c3 lg
  go_wp2_with fail
  refine (eIs_any 3 3 true rfl 1 _ w4 (Ch.one HBD4.out)).mono ?_
  rintro e w5 ⟨rfl, rfl⟩
  go_wp2_with fail
  refine (bare_any ⟨9, 0, 0, 3⟩ w4).mono ?_
  rintro e w5 ⟨rfl, hb⟩
  have HB5 := Go.Lib.hid (HB4.out.trans (hb.mono HB4.out.size))
  clear hb
  rw [show bareF ⟨9, 0, 0, 3⟩ = ⟨9, 0, 0, 0⟩ from rfl]
  go_wp2_with fail
  go_ret
  exact ⟨rfl, HB5.out⟩
/-- Same, at equal operations. -/
theorem OL.cells {w : World} {v : Value} {L : List Op4} (h : OL w v L) {j : Nat} {x : Op4} (hx : L[j]? = some x) : ∃ ad cap, v = .slice (some ad) L.length cap ∧ ad.block < w.heap.size ∧
    w.cell? (ad.add (j * 4)) = some (.int .i64 x.kind) ∧ w.cell? ⟨(ad.add (j * 4)).block, (ad.add (j * 4)).off + 1, none⟩ = some (.int .u64 x.key) ∧ w.cell? ⟨(ad.add (j * 4)).block, (ad.add (j * 4)).off + 2, none⟩ = some (.int .u64 x.val) ∧ w.cell? ⟨(ad.add (j * 4)).block, (ad.add (j * 4)).off + 3, none⟩ = some (.int .i64 x.n) := by
  obtain ⟨a, cap, rfl, _, _, hc⟩ := h
  obtain ⟨ad, rfl, q⟩ := hc j x hx
  exact ⟨ad, cap, rfl, q⟩
set_option maxHeartbeats 3200000 in
theorem same20_any (v v' : Value) (L : List Op4) (w : World) (hl : L.length ≤ 100000) (h : OL w v L) (h' : OL w v' L) : Calls Tryz.prog 13 #[v, v'] w fun e w' => e = .returned (.bool true) ∧ Below w.heap.size w w' := by
  have HO := Go.Lib.hid h
  have HO' := Go.Lib.hid h'
  obtain ⟨a, cap, rfl, hm, hok, hcell⟩ := h
  obtain ⟨a', cap', rfl, hm', hok', hcell'⟩ := h'
  unfold maxLen at hm hm'
  clear hok hok' hcell hcell'
  go_enter Tryz.func13, Tryz.ntmps13
  go_wp2_with fail
  go_loopw [5] (fun i wr => ∃ j : Nat, j ≤ L.length ∧ i = .int .i64 j ∧ Below w.heap.size w wr) (fun i _ => L.length - (intOf i).toNat)
  case atStart => exact ⟨0, Nat.zero_le _, rfl, Below.refl _ _⟩
  case round =>
    obtain ⟨j, hj, rfl, hB⟩ := hrel
    have HB := Go.Lib.hid hB
    by_cases hlt : j < L.length
    · obtain ⟨x, hx⟩ : ∃ x, L[j]? = some x := ⟨L[j], List.getElem?_eq_getElem hlt⟩
      obtain ⟨ad, cp, e1, g1, g2, g3, g4, g5⟩ := (HO.out.keep hB).cells hx
      obtain ⟨ad', cp', e1', g1', g2', g3', g4', g5'⟩ := (HO'.out.keep hB).cells hx
      injection e1 with e2 e3 e4
      injection e1' with e2' e3' e4'
      subst e2; subst e4; subst e2'; subst e4'
      have gab : (ad.add (j * 4)).block < wr.heap.size := by rw [add_block]; exact g1
      have gab' : (ad'.add (j * 4)).block < wr.heap.size := by rw [add_block]; exact g1'
      clear hx hB e3 e3'
      go_wp2_with fail
      go_quiet (fail)
      go_wp2_with fail
      go_roundw
      case rel => exact ⟨j + 1, by omega, by go_num, ⟨HB.out.os, HB.out.tape, HB.out.output, HB.out.size, HB.out.block⟩⟩
      case measure => simp [intOf]; omega
    · have e : j = L.length := by omega
      subst e
      go_wp2_with fail
      go_ret
      exact ⟨rfl, HB.out⟩
end Go.Proofs.YtddihnnodegkmaaGreatDoor
