/- An argument that is a slice of operations, opened. -/
import Derived.Test.YtddihnnodegkmaaGreatDoorCsl
import Derived.ProofKit
import Derived.OpenShut
import Derived.Carry
import Derived.Deep.Slices
namespace Go.Proofs.YtddihnnodegkmaaGreatDoor
open Go.ChangeShapes Go.WideShapes Go.RowKit Hop
set_option linter.unusedVariables false
set_option linter.unusedSimpArgs false
set_option maxRecDepth 100000
theorem cellsOp : Tryz.prog.cellsOf 25 = 4 := by kernel_rfl
theorem cellsInt : Tryz.prog.cellsOf 3 = 1 := by kernel_rfl
theorem cellsU64 : Tryz.prog.cellsOf 23 = 1 := by kernel_rfl
theorem add_lit3 (a : Addr) (i j : Nat) (hj : 0 < j) : (a.add i).add j = ⟨(a.add i).block, (a.add i).off + j, none⟩ := by
  show (if j = 0 then a.add i else _) = _
  rw [if_neg (by omega)]
section
variable {H : Type} {enc : TypeId × Value → H} {w : World} {base : Nat} {spare : Nat → Bool} {held : Bool}
theorem open_ops {fuel : Nat} {cs : List Value} {x : DataW H × List MemPlace} (h : DataW.trod enc Tryz.prog w base spare held fuel 22 cs = some x) : ∃ v A, cs = [v] ∧ OL w v A := by
  rcases Go.Deep.open_slice Tryz.underlying22 h with ⟨rfl, _⟩ | ⟨a, len, cap, m, n, D, Pl, rfl, hb, hl, hm, hmm, _, hx⟩
  · exact ⟨_, [], rfl, none, 0, rfl, Nat.zero_le _, fun x hx => (by cases hx), fun j x hj => (by simp at hj)⟩
  · have hlm : len ≤ m := by rw [hmm]; split <;> omega
    have each : ∀ i, ∃ y : Op4, i < len → y.ok ∧ w.cell? (a.add (i * 4)) = some (.int .i64 y.kind) ∧ w.cell? ⟨(a.add (i * 4)).block, (a.add (i * 4)).off + 1, none⟩ = some (.int .u64 y.key) ∧ w.cell? ⟨(a.add (i * 4)).block, (a.add (i * 4)).off + 2, none⟩ = some (.int .u64 y.val) ∧ w.cell? ⟨(a.add (i * 4)).block, (a.add (i * 4)).off + 3, none⟩ = some (.int .i64 y.n) := by
      intro i
      by_cases hi : i < len
      · obtain ⟨cs', h1, h2⟩ := hx i (by omega)
        rw [cellsOp] at h1
        obtain ⟨_, hlen, hcell⟩ := World.cells?_some h1
        obtain ⟨xs, k, hk, hxy, _, hxl, hf⟩ := DataW.trod_struct Tryz.underlying25 h2
        match cs', hlen with
        | [v0, v1, v2, v3], _ =>
          have g0 := hf 0 _ rfl
          have g1 := hf 1 _ rfl
          have g2 := hf 2 _ rfl
          have g3 := hf 3 _ rfl
          have hl3 : xs.length = 4 := hxl
          match xs, hl3 with
          | [y0, y1, y2, y3], _ =>
            simp only [cellsInt, cellsU64, List.drop_zero, List.take_succ_cons, List.take_zero, List.drop_succ_cons, List.getElem?_cons_zero, List.getElem?_cons_succ] at g0 g1 g2 g3
            obtain ⟨n0, e0, _, w0⟩ := DataW.trod_int Tryz.underlying3 g0
            obtain ⟨n1, e1, _, w1⟩ := DataW.trod_int Tryz.underlying23 g1
            obtain ⟨n2, e2, _, w2⟩ := DataW.trod_int Tryz.underlying23 g2
            obtain ⟨n3, e3, _, w3⟩ := DataW.trod_int Tryz.underlying3 g3
            have c0 := hcell 0 (by omega)
            have c1 := hcell 1 (by omega)
            have c2 := hcell 2 (by omega)
            have c3 := hcell 3 (by omega)
            rw [add_lit3 _ _ _ (by omega)] at c1 c2 c3
            injection e0 with e0; injection e1 with e1; injection e2 with e2; injection e3 with e3
            subst e0; subst e1; subst e2; subst e3
            simp [Lit.wf, IntKind.min, IntKind.max, IntKind.signed, IntKind.bits] at w0 w1 w2 w3
            refine ⟨⟨n0, n1, n2, n3⟩, fun _ => ⟨?_, c0, c1, c2, c3⟩⟩
            constructor <;> simp only <;> omega
      · exact ⟨⟨0, 0, 0, 0⟩, fun h => absurd h hi⟩
    obtain ⟨f, hf⟩ := Classical.axiomOfChoice each
    refine ⟨_, (List.range len).map f, rfl, some a, cap, by simp, by simp; omega, ?_, ?_⟩
    · intro y hy
      obtain ⟨i, hi, rfl⟩ := List.mem_map.1 hy
      exact (hf i (List.mem_range.1 hi)).1
    · intro j y hj
      rw [List.getElem?_map] at hj
      obtain ⟨i, hi, rfl⟩ := Option.map_eq_some_iff.1 hj
      obtain ⟨hlt, e⟩ := List.getElem?_eq_some_iff.1 hi
      rw [List.length_range] at hlt
      rw [List.getElem_range] at e
      subst e
      obtain ⟨_, g1, g2, g3, g4⟩ := hf j hlt
      refine ⟨a, rfl, ?_, g1, g2, g3, g4⟩
      have := cell_lt g1
      rwa [add_block] at this
end
end Go.Proofs.YtddihnnodegkmaaGreatDoor
