/- Operations in a slice; Text. -/
import Derived.Test.YtddihnnodegkmaaGreatDoorSc3
namespace Go.Proofs.YtddihnnodegkmaaGreatDoor
open Go.RowKit Hop
set_option linter.unusedVariables false
set_option linter.unusedSimpArgs false
set_option maxRecDepth 100000
/-- Operations lie in a slice. -/
def OL (w : World) (v : Value) (L : List Op4) : Prop :=
  ∃ a cap, v = .slice a L.length cap ∧ L.length ≤ maxLen ∧ (∀ x ∈ L, x.ok) ∧ ∀ j x, L[j]? = some x → ∃ ad, a = some ad ∧ ad.block < w.heap.size ∧
    w.cell? (ad.add (j * 4)) = some (.int .i64 x.kind) ∧ w.cell? ⟨(ad.add (j * 4)).block, (ad.add (j * 4)).off + 1, none⟩ = some (.int .u64 x.key) ∧ w.cell? ⟨(ad.add (j * 4)).block, (ad.add (j * 4)).off + 2, none⟩ = some (.int .u64 x.val) ∧ w.cell? ⟨(ad.add (j * 4)).block, (ad.add (j * 4)).off + 3, none⟩ = some (.int .i64 x.n)
theorem add_block (ad : Addr) (n : Nat) : (ad.add n).block = ad.block := by unfold Addr.add; split <;> rfl
theorem OL.keep {w w' : World} {v : Value} {A : List Op4} (h : OL w v A) (hb : Below w.heap.size w w') : OL w' v A := by
  obtain ⟨a, cap, h1, h2, h3, h4⟩ := h
  refine ⟨a, cap, h1, h2, h3, fun j x hj => ?_⟩
  obtain ⟨ad, g1, g2, g3, g4, g5, g6⟩ := h4 j x hj
  have hs := hb.size
  refine ⟨ad, g1, by omega, ?_, ?_, ?_, ?_⟩
  · rw [hb.cell (by rw [add_block]; exact g2)]; exact g3
  · rw [hb.cell (by show (ad.add (j * 4)).block < _; rw [add_block]; exact g2)]; exact g4
  · rw [hb.cell (by show (ad.add (j * 4)).block < _; rw [add_block]; exact g2)]; exact g5
  · rw [hb.cell (by show (ad.add (j * 4)).block < _; rw [add_block]; exact g2)]; exact g6
theorem size_dS_le {m : Nat} (h : m ≤ 18446744073709551615) : (dS m).data.toList.length ≤ 20 := by
  have := dS_size' h
  simpa [ByteArray.size] using this
theorem lineF_size {o : Op4} (h : o.ok) : (lineF o).size ≤ 60 := by
  obtain ⟨k0, k1, y0, y1, v0, v1, n0, n1⟩ := h
  have a1 := dS_size' (m := o.key.toNat) (by omega)
  have a2 := dS_size' (m := o.val.toNat) (by omega)
  have a3 := iS_size n0 n1
  have a4 := iS_size k0 k1
  have b1 : sGet.size = 4 := rfl
  have b2 : sPut.size = 4 := rfl
  have b3 : sDel.size = 7 := rfl
  have b4 : sRes.size = 7 := rfl
  have b5 : sLen.size = 3 := rfl
  have b6 : sOpS.size = 3 := rfl
  have b7 : sSp.size = 1 := rfl
  unfold lineF
  (repeat' split) <;> first | omega | (simp only [ByteArray.size_append]; omega)
def textL (L : List Op4) : List UInt8 := L.flatMap fun o => (lineF o).data.toList ++ [10]
abbrev textF (L : List Op4) : ByteArray := ⟨(textL L).toArray⟩
theorem textL_snoc (L : List Op4) (o : Op4) : textL (L ++ [o]) = textL L ++ ((lineF o).data.toList ++ [10]) := by simp [textL]
theorem textL_length {L : List Op4} (h : ∀ x ∈ L, x.ok) : (textL L).length ≤ L.length * 61 := by
  induction L with
  | nil => simp [textL]
  | cons o r ih =>
    have h1 := lineF_size (h o (by simp))
    have h2 := ih (fun x hx => h x (by simp [hx]))
    have e : textL (o :: r) = ((lineF o).data.toList ++ [10]) ++ textL r := by simp [textL]
    rw [e]
    simp only [List.length_append, List.length_cons, List.length_nil, Array.length_toList]
    have : (lineF o).data.size = (lineF o).size := rfl
    omega
theorem take_snoc_op {L : List Op4} {j : Nat} {x : Op4} (h : L[j]? = some x) : L.take (j + 1) = L.take j ++ [x] := by
  rw [List.take_add_one, h]; rfl
theorem isB_keep {T e B b : Nat} {bs : List Value} {w w' : World} (h : Lib.IsBuilder T e B b bs w) (hb : Below w.heap.size w w') : Lib.IsBuilder T e B b bs w' := by
  have K : ∀ p, Lib.BuilderAt T e B b p bs w → Lib.BuilderAt T e B b p bs w' := by
    rintro p ⟨h1, v, h2, h3, h4⟩
    refine ⟨h1, v, ?_, ?_, h4⟩
    · rw [hb.block b (by rcases Nat.lt_or_ge b w.heap.size with q | q; exact q; rw [Array.getElem?_eq_none q] at h2; cases h2)]; exact h2
    · exact h3.kept (row := none) ⟨hb.os, hb.tape, hb.output, hb.size, fun k hk _ => hb.block k hk⟩ (by by_cases hv : v.ownBlock = none; exact .inl hv; exact .inr hv)
  exact h.elim (fun x => .inl (K _ x)) (fun x => .inr (K _ x))
set_option maxHeartbeats 3200000 in
theorem text_any (v : Value) (L : List Op4) (w : World) (hlen : L.length ≤ 100000) (h : OL w v L) (ht : P10 w) :
    Calls Tryz.prog 6 #[v] w fun e w' => e = .returned (.string (textF L)) ∧ Below w.heap.size w w' := by
  have HOL := Go.Lib.hid h
  obtain ⟨a, cap, rfl, hm, hok, hcell⟩ := h
  have HOK := Go.Lib.hid hok
  unfold maxLen at hm
  obtain ⟨W, hW⟩ : ∃ W, W = w.alloc (.cells #[.pointer none, .slice none 0 0] 45) := ⟨_, rfl⟩
  have hI : Lib.IsBuilder 45 5 w.heap.size w.heap.size (Lib.byteCells (textL (L.take 0))) W := by
    rw [hW]; exact Lib.fresh_isBuilder 45 5 w
  have B0 : Below w.heap.size w W := by rw [hW]; exact (Below.refl _ _).alloc (Nat.le_refl _) _
  have HI := Go.Lib.hid hI
  have HB0 := Go.Lib.hid B0
  have HW := Go.Lib.hid hW
  have HT := Go.Lib.hid ht
  clear hok hcell hW hI B0 ht
  go_enter Tryz.func6, Tryz.ntmps6
  go_wp2_with fail
  rw [← HW.out]
  go_loopw [8] (fun i wr => ∃ j : Nat, j ≤ L.length ∧ i = .int .i64 j ∧ Lib.IsBuilder 45 5 w.heap.size w.heap.size (Lib.byteCells (textL (L.take j))) wr ∧ Below w.heap.size w wr) (fun i _ => L.length - (intOf i).toNat)
  case atStart => exact ⟨0, Nat.zero_le _, rfl, HI.out, HB0.out⟩
  case round =>
    obtain ⟨j, hj, rfl, hI, hB⟩ := hrel
    clear HI HB0 HW
    by_cases hlt : j < L.length
    · obtain ⟨x, hx⟩ : ∃ x, L[j]? = some x := ⟨L[j], List.getElem?_eq_getElem hlt⟩
      have hxo : x.ok := HOK.out x (List.mem_of_getElem? hx)
      have hn1 := lineF_size hxo
      have hn2 := textL_length (L := L.take j) (fun y hy => HOK.out y (List.mem_of_mem_take hy))
      have hn3 : (L.take j).length ≤ 100000 := by rw [List.length_take]; omega
      have hn4 : (Lib.byteCells (textL (L.take j))).length = (textL (L.take j)).length := Lib.byteCells_length _
      obtain ⟨a', cap', e1, _, _, hcl⟩ := HOL.out.keep hB
      injection e1 with e2 e3 e4
      subst e2; subst e4
      obtain ⟨ad, rfl, g1, g2, g3, g4, g5⟩ := hcl j x hx
      have e : textL (L.take (j + 1)) = textL (L.take j) ++ ((lineF x).data.toList ++ [10]) := by rw [take_snoc_op hx, textL_snoc]
      have e2 : Hid (Lib.byteCells (textL (L.take (j + 1))) = (Lib.byteCells (textL (L.take j)) ++ Lib.strCells (lineF x)) ++ [.int .u8 10]) := Go.Lib.hid (by
        rw [e, Lib.byteCells_append, Lib.byteCells_append, Lib.strCells_eq, List.append_assoc]; rfl)
      have HB := Go.Lib.hid hB
      have A1 := (Below.refl wr.heap.size wr).alloc (Nat.le_refl _) (.cells #[.int .i64 x.kind, .int .u64 x.key, .int .u64 x.val, .int .i64 x.n] 25)
      have HLN := Go.Lib.hid (line_any x (wr.alloc (.cells #[.int .i64 x.kind, .int .u64 x.key, .int .u64 x.val, .int .i64 x.n] 25)) hxo ((HT.out.keep hB).keep A1))
      have HA1 := Go.Lib.hid A1
      have HI := Go.Lib.hid hI
      have gab : (ad.add (j * 4)).block < wr.heap.size := by rw [add_block]; exact g1
      have hws : w.heap.size ≤ wr.heap.size := hB.size
      generalize lineF x = S at *
      generalize Lib.byteCells (textL (L.take j)) = C0 at *
      clear hx hxo hcl hI hB e3 e A1 g1
      go_wp2_with fail
      refine HLN.out.mono ?_
      rintro e w1 ⟨rfl, hb1⟩
      have HB1 : Hid (Below wr.heap.size wr w1) := Go.Lib.hid (HA1.out.trans (hb1.mono HA1.out.size))
      clear hb1
      have hs1 := HB1.out.size
      have hI1 : Lib.IsBuilder 45 5 w.heap.size w.heap.size C0 w1 := isB_keep HI.out HB1.out
      go_wp2_with fail
      refine (wstring_any w.heap.size w.heap.size C0 S w1 hI1 (by omega) (by omega)).mono ?_
      rintro e w2 ⟨rfl, hI2, hb2⟩
      have hl2 : (C0 ++ Lib.strCells S).length + 1 ≤ 140737488355328 := by rw [List.length_append, Lib.strCells_length]; omega
      have HB2 : Hid (Below w.heap.size w1 w2) := Go.Lib.hid hb2
      have hs2 := hb2.size
      have HI2 := Go.Lib.hid hI2
      clear hI1 hI2 hb2
      go_wp2_with fail
      refine (wbyte_any w.heap.size w.heap.size _ 10 w2 (.inr HI2.out) hl2 (by omega)).mono ?_
      rintro e w3 ⟨rfl, hI3, hb3⟩
      have HI3 := Go.Lib.hid hI3
      have HB3 : Hid (Below w.heap.size w w3) := Go.Lib.hid (((HB.out.trans (HB1.out.mono HB.out.size)).trans HB2.out).trans hb3)
      clear hI3 hb3
      go_wp2_with fail
      go_roundw
      case rel => exact ⟨j + 1, by omega, by go_num, by rw [e2.out]; exact .inr HI3.out, HB3.out⟩
      case measure => simp [intOf]; omega
    · have e : j = L.length := by omega
      subst e
      rw [List.take_length] at hI
      have HS := Go.Lib.hid (Tryz.Builder_String_any w.heap.size w.heap.size (textL L) wr hI hB.size)
      have HB := Go.Lib.hid hB
      clear hI hB
      go_wp2_with fail
      refine HS.out.mono ?_
      rintro e w1 ⟨rfl, hb1⟩
      have HB1 := Go.Lib.hid (HB.out.trans hb1)
      clear hb1
      go_wp2_with fail
      go_ret
      exact ⟨rfl, HB1.out⟩
end Go.Proofs.YtddihnnodegkmaaGreatDoor
