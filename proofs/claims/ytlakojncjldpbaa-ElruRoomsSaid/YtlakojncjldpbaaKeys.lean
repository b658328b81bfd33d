/- A store, told by its queues alone: Keys. -/
import Derived.Test.YtlakojncjldpbaaSta3
namespace Go.Proofs.Ytlakojncjldpbaa
open Go.RowKit Hop
set_option linter.unusedVariables false
set_option linter.unusedSimpArgs false
set_option maxRecDepth 100000
theorem below_fr {own : Nat → Prop} {B : Nat} {a b c : World} (h : Below B a b) (k : Fr own b c) (hB : B ≤ a.heap.size) (hs : ∀ i, own i → B ≤ i) : Below B a c :=
  ⟨k.os.trans h.os, k.tape.trans h.tape, k.output.trans h.output, Nat.le_trans h.size k.size, fun i hi => (k.block i (by have := h.size; omega) (fun ho => by have := hs i ho; omega)).trans (h.block i hi)⟩
theorem u64_info : (Try.prog.info? 31).map (fun i => (i.zero, i.size, i.bytes)) = some (some (.int .u64 0), 1, 8) := by kernel_rfl
theorem row_form {w : World} {E k : Nat} {v : Value} {n : Nat} {xs : List Value} (h : Row w E k v n xs) : ∃ a cap, v = .slice a n cap := by
  rcases h.2 with ⟨h1, rfl⟩ | ⟨g, cap, cs, h1, _⟩
  · exact ⟨_, _, h1⟩
  · exact ⟨_, _, h1⟩
theorem row_cell {w : World} {E : Nat} {a : Option Addr} {n cap : Nat} {xs : List Value} (h : Row w E 1 (.slice a n cap) n xs) {j : Nat} (hj : j < n) : ∃ g, a = some ⟨g, 0, none⟩ ∧ n ≤ cap ∧ cap ≤ maxLen ∧ w.cell? ⟨g, j, none⟩ = xs[j]? := by
  rcases h.2 with ⟨_, h2⟩ | ⟨g, cap', cs, h1, h2, h3, h4, h5, h6⟩
  · omega
  · injection h1 with e1 e2 e3
    subst e1; subst e3
    refine ⟨g, rfl, h3, h4, ?_⟩
    rw [h2.cell, ← h6, List.getElem?_take, if_pos (by omega)]
section
variable {ps : Nat} {O : Nat → Prop} {Q : List (List En)} {p : Nat} {L : Hop.Loc} {s : St} {q : List (List Int)}
set_option maxHeartbeats 1600000 in
theorem skeys_any (t : Nat) (w : World) (ht : t < q.length) (R : SRep w L s) (G : Good s q p) :
    Calls Try.prog 116 #[P0 L.ps, .int .i64 t] w fun e w' => ∃ v, e = .returned v ∧ Row w' 31 1 v (q.getD t []).length ((q.getD t []).map (fun i => Value.int .u64 (ndT s.slots i).key)) ∧ (∀ b, v.ownBlock = some b → w.heap.size ≤ b) ∧ Below w.heap.size w w' := by
  have hll := G.gl.len
  have h8 := G.q8
  have hb1 := G.b1
  have hb3 := G.b3
  have hb4 := G.b4
  have hlt : (q.getD t []).length ≤ total q := by
    have := sum_set q t [] ht
    simp at this ⊢
    omega
  have hd := G.gl.hd t ht
  have HAL := Go.Lib.hid (all_any L.pl L.pa L.bl L.ba s.slots s.lists L.fv (.int .i64 s.next) (.int .i64 s.live) t (q.getD t []) w (by omega) (by omega) (by omega) (by omega) (G.gl.seg t ht) (G.gl.nd t ht) (by rw [hd]) (by omega) R.lrep)
  have hmem : ∀ x ∈ q.getD t [], x ≤ 2147483647 := fun x hx => by
    have := isT_lt (G.gl.tag ht hx).1
    omega
  have HM := Go.Lib.hid hmem
  have hsl : s.slots.length < 1000000 := by omega
  have hcl : (q.getD t []).length < 100000 := by omega
  have HRR := Go.Lib.hid R
  have c0 := R.hs.cell 0
  simp only [List.getElem?_cons_zero, List.getElem?_cons_succ] at c0
  clear hmem hd hlt hb4 hb3 hb1 h8 hll G R
  generalize q.getD t [] = c at *
  go_enter Try.func116, Try.ntmps116
  go_wp2_with fail
  refine HAL.out.mono ?_
  rintro e w1 ⟨v0, rfl, hrow, hown, hb⟩
  obtain ⟨a0, cap0, rfl⟩ := row_form hrow
  have HROW := Go.Lib.hid hrow
  have HOWN := Go.Lib.hid hown
  have HB := Go.Lib.hid hb
  have sz := hb.size
  clear hrow hown hb
  go_wp2_with fail
  go_loopw [5, 18] (fun v i wr => ∃ k : Nat, k ≤ c.length ∧ i = .int .i64 k ∧ Row wr 31 1 v k ((c.take k).map (fun i => Value.int .u64 (ndT s.slots i).key)) ∧ (∀ b, v.ownBlock = some b → w1.heap.size ≤ b) ∧ Below w1.heap.size w1 wr) (fun _ i _ => c.length - (intOf i).toNat)
  case atStart => exact ⟨0, by omega, rfl, Row.nil _ _ _, fun b hb => (by cases hb), Below.refl _ _⟩
  case round =>
    obtain ⟨k, hk, rfl, hr, ho, hbr⟩ := hrel
    by_cases hlt : k < c.length
    · obtain ⟨g, rfl, hc1, hc2, hcell⟩ := row_cell (HROW.out.keep hbr) hlt
      have hx : ((c.map (Value.int .i32))[k]? : Option Value) = some (.int .i32 c[k]) := by simp [hlt]
      rw [hx] at hcell
      have hle := HM.out c[k] (List.getElem_mem hlt)
      have R1 := (HRR.out.keep HB.out).keep hbr
      have c1 := R1.hs.cell 1
      simp only [List.getElem?_cons_zero, List.getElem?_cons_succ] at c1
      have HAT := Go.Lib.hid (at_any L.pa L.ba s.slots L.fv (.int .i64 s.next) (.int .i64 s.live) c[k] wr hle hsl R1.ha R1.ba)
      have htk : c.take (k + 1) = c.take k ++ [c[k]] := by rw [List.take_add_one, List.getElem?_eq_getElem hlt]; rfl
      have HTK := Go.Lib.hid htk
      have HR := Go.Lib.hid hr
      have HO := Go.Lib.hid ho
      have HBR := Go.Lib.hid hbr
      have gl := (HROW.out.keep hbr).lt (b := g) rfl
      clear hx hr ho hbr R1 htk
      generalize c[k] = x at *
      have hkey : ∀ n : Nd, n = ndT s.slots x → (ndT s.slots x).key = n.key := fun n e => by rw [e]
      obtain ⟨nn, hnn⟩ : ∃ nn, nn = ndT s.slots x := ⟨_, rfl⟩
      have HKK := Go.Lib.hid (hkey _ hnn)
      rw [← hnn] at HAT
      clear hnn hkey
      obtain ⟨nk, nv, nfl, ntg, npv, nnt⟩ := nn
      simp only [encN] at HAT
      have nf := node_key
      go_wp2_with fail
      refine HAT.out.mono ?_
      rintro e w2 ⟨rfl, hb2⟩
      have HB2 := Go.Lib.hid hb2
      clear hb2
      go_wp2_with (at_builtin; refine wpList_append_row _ rfl (.tmp 22) (.tmp 30) 26 rfl 31 (.int .u64 0) 1 8 Try.underlying26 u64_info rfl (by decide) _ _ _ rfl ((HR.out.keep HB2.out).keep ((Below.refl _ _).alloc (Nat.le_refl _) _)) ⟨w2.heap.size, 0, none⟩ 1 1 [.int .u64 nk] rfl (by decide) rfl ?c1 ?c2 ?b1 ?b2 ?next)
      case c1 => intro j u hj; match j, hj with | 0, hj => simp at hj; subst hj; simp [Addr.add]
      case c2 => intro u hu; simp at hu; subst hu; rfl
      case b1 => unfold maxLen; omega
      case b2 => omega
      case next =>
        intro g' cap' w3 hr3 hf3 hg3
        have B2 := HBR.out.trans (HB2.out.mono HBR.out.size)
        have sz2 := HB2.out.size
        have sz3 := HBR.out.size
        have B3 := B2.alloc B2.size (.cells #[.int .u64 nk] 31)
        have B4 := below_fr B3 hf3 (Nat.le_refl _) HO.out
        have e1 : ((c.take (k + 1)).map (fun i => Value.int .u64 (ndT s.slots i).key)) = (c.take k).map (fun i => Value.int .u64 (ndT s.slots i).key) ++ [.int .u64 nk] := by
          rw [HTK.out, List.map_append, List.map_singleton, HKK.out]
        have HR3 : Hid (Row w3 31 1 (.slice (some ⟨g', 0, none⟩) (k + 1) cap') (k + 1) ((c.take (k + 1)).map (fun i => Value.int .u64 (ndT s.slots i).key))) := by
          rw [e1, List.map_take]; exact hr3
        have HB4 := Go.Lib.hid B4
        have HO3 : Hid (∀ b, (Value.slice (some ⟨g', 0, none⟩) (k + 1) cap').ownBlock = some b → w1.heap.size ≤ b) := by
          intro b hb
          have e : g' = b := by simpa [Value.ownBlock] using hb
          subst e
          rcases hg3 with h | h
          · exact HO.out _ h
          · omega
        clear B4 B3 B2 hr3 hf3 hg3 e1
        go_wp2_with fail
        go_roundw
        case rel => exact ⟨k + 1, by omega, by go_num, HR3.out, HO3.out, HB4.out⟩
        case measure => simp [intOf]; omega
    · have e : k = c.length := by omega
      subst e
      go_wp2_with fail
      go_ret
      refine ⟨_, rfl, ?_, fun b hb => ?_, HB.out.trans (hbr.mono sz)⟩
      · rw [List.take_length] at hr
        exact hr
      · have := ho b hb; omega
theorem keys_sta (t : Nat) (w : World) (ht : t < Q.length) (H : Sta w ps O Q p) :
    Calls Try.prog 116 #[P0 ps, .int .i64 t] w fun e w' => ∃ v, e = .returned v ∧ Row w' 31 1 v (Q.getD t []).length ((Q.getD t []).map (fun e => Value.int .u64 e.key)) ∧ (∀ b, v.ownBlock = some b → w.heap.size ≤ b) ∧ Below w.heap.size w w' := by
  obtain ⟨L, s, q, rfl, rfl, R, G, rfl⟩ := H
  have ht' : t < q.length := by unfold vw at ht; rwa [List.length_map] at ht
  have h := skeys_any t w ht' R G
  rw [vw_getD, List.length_map, List.map_map]
  exact h
end
end Go.Proofs.Ytlakojncjldpbaa
