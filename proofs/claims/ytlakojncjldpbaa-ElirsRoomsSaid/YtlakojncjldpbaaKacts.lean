/- An argument that is a slice of acts, opened. -/
import Derived.Test.YtlakojncjldpbaaGRef
import Derived.Test.YtlakojncjldpbaaRows
import Derived.ProofKit
import Derived.OpenShut
import Derived.Carry
import Derived.Deep.Slices
namespace Go.Proofs.Ytlakojncjldpbaa
open Go.ChangeShapes Go.WideShapes Go.ChangeAt Go.RowKit Hop
set_option linter.unusedVariables false
set_option linter.unusedSimpArgs false
set_option maxRecDepth 100000
theorem cellsAct : Try.prog.cellsOf 34 = 3 := by kernel_rfl
theorem cellsU8 : Try.prog.cellsOf 5 = 1 := by kernel_rfl
theorem cellsU64 : Try.prog.cellsOf 31 = 1 := by kernel_rfl
theorem cellsU16 : Try.prog.cellsOf 32 = 1 := by kernel_rfl
theorem cell_lt {w : World} {a : Addr} {v : Value} (h : w.cell? a = some v) : a.block < w.heap.size := by
  rcases Nat.lt_or_ge a.block w.heap.size with q | q
  · exact q
  · unfold World.cell? at h
    rw [Array.getElem?_eq_none q] at h
    simp at h
theorem add_lit3 (a : Addr) (i j : Nat) (hj : 0 < j) : (a.add i).add j = ⟨(a.add i).block, (a.add i).off + j, none⟩ := by
  show (if j = 0 then a.add i else _) = _
  rw [if_neg (by omega)]
section
variable {H : Type} {enc : TypeId × Value → H} {w : World} {base : Nat} {spare : Nat → Bool} {held : Bool}
theorem open_acts {fuel : Nat} {cs : List Value} {x : DataW H × List MemPlace} (h : DataW.trod enc Try.prog w base spare held fuel 22 cs = some x) : ∃ v A, cs = [v] ∧ AL w v A := by
  rcases Go.Deep.open_slice Try.underlying22 h with ⟨rfl, _⟩ | ⟨a, len, cap, m, n, D, Pl, rfl, hb, hl, hm, hmm, _, hx⟩
  · exact ⟨_, [], rfl, none, 0, rfl, Nat.zero_le _, fun x hx => (by cases hx), fun j x hj => (by simp at hj)⟩
  · have hlm : len ≤ m := by rw [hmm]; split <;> omega
    have each : ∀ i, ∃ y : Ac, i < len → y.ok ∧ w.cell? (a.add (i * 3)) = some (.int .u8 y.kind) ∧ w.cell? ⟨(a.add (i * 3)).block, (a.add (i * 3)).off + 1, none⟩ = some (.int .u64 y.key) ∧ w.cell? ⟨(a.add (i * 3)).block, (a.add (i * 3)).off + 2, none⟩ = some (.int .u16 y.n) := by
      intro i
      by_cases hi : i < len
      · obtain ⟨cs', h1, h2⟩ := hx i (by omega)
        rw [cellsAct] at h1
        obtain ⟨_, hlen, hcell⟩ := World.cells?_some h1
        obtain ⟨xs, k, hk, hxy, _, hxl, hf⟩ := DataW.trod_struct Try.underlying34 h2
        match cs', hlen with
        | [v0, v1, v2], _ =>
          have g0 := hf 0 _ rfl
          have g1 := hf 1 _ rfl
          have g2 := hf 2 _ rfl
          have hl3 : xs.length = 3 := hxl
          match xs, hl3 with
          | [y0, y1, y2], _ =>
            simp only [cellsU8, cellsU64, cellsU16, List.drop_zero, List.take_succ_cons, List.take_zero, List.drop_succ_cons, List.getElem?_cons_zero, List.getElem?_cons_succ] at g0 g1 g2
            obtain ⟨n0, e0, _, w0⟩ := DataW.trod_int Try.underlying5 g0
            obtain ⟨n1, e1, _, w1⟩ := DataW.trod_int Try.underlying31 g1
            obtain ⟨n2, e2, _, w2⟩ := DataW.trod_int Try.underlying32 g2
            have c0 := hcell 0 (by omega)
            have c1 := hcell 1 (by omega)
            have c2 := hcell 2 (by omega)
            rw [add_lit3 _ _ _ (by omega)] at c1 c2
            injection e0 with e0; injection e1 with e1; injection e2 with e2
            subst e0; subst e1; subst e2
            refine ⟨⟨n0, n1, n2⟩, fun _ => ⟨⟨?_, ?_, ?_⟩, c0, c1, c2⟩⟩
            · simp [Lit.wf, IntKind.min, IntKind.max, IntKind.signed, IntKind.bits] at w0; show 0 ≤ n0 ∧ n0 < 256; omega
            · simp [Lit.wf, IntKind.min, IntKind.max, IntKind.signed, IntKind.bits] at w1; show 0 ≤ n1 ∧ n1 < 18446744073709551616; omega
            · simp [Lit.wf, IntKind.min, IntKind.max, IntKind.signed, IntKind.bits] at w2; show 0 ≤ n2 ∧ n2 < 65536; omega
      · exact ⟨⟨0, 0, 0⟩, fun h => absurd h hi⟩
    obtain ⟨f, hf⟩ := Classical.axiomOfChoice each
    refine ⟨_, (List.range len).map f, rfl, some a, cap, by simp, by simp; omega, ?_, ?_⟩
    · intro y hy
      obtain ⟨i, hi, rfl⟩ := List.mem_map.1 hy
      exact (hf i (List.mem_range.1 hi)).1
    · intro j y hj
      rw [List.getElem?_map] at hj
      obtain ⟨i, hi, rfl⟩ := Option.map_eq_some_iff.1 hj
      obtain ⟨hlt, e⟩ := List.getElem?_eq_some_iff.1 hi
      rw [List.length_range] at hlt
      rw [List.getElem_range] at e
      subst e
      obtain ⟨_, g1, g2, g3⟩ := hf j hlt
      refine ⟨a, rfl, ?_, g1, g2, g3⟩
      have := cell_lt g1
      rwa [add_block] at this
end
end Go.Proofs.Ytlakojncjldpbaa
