/- An argument that is an operation, opened. -/
import Derived.Test.YtddihnnodegkmaaGreatDoorCso
namespace Go.Proofs.YtddihnnodegkmaaGreatDoor
open Go.ChangeShapes Go.WideShapes Go.RowKit Hop
set_option linter.unusedVariables false
set_option linter.unusedSimpArgs false
set_option maxRecDepth 100000
section
variable {H : Type} {enc : TypeId × Value → H} {W W1 : World} {r : Reach} {base b0 : Nat} {sp : Nat → Bool} {held : Bool}
theorem open_op {v : Value} {d : DataW H} {ps : List MemPlace} (hval : Value.okWide Tryz.prog W1 r b0 25 v) (hd : DataW.Trod enc Tryz.prog W base sp held 25 v d ps) : ∃ o : Op4, v = vOp o := by
  simp only [Value.okWide, Tryz.underlying25] at hval
  obtain ⟨cs, rfl, h2, _⟩ := hval
  rw [cellsOp] at h2
  obtain ⟨fuel, hf⟩ := hd
  have hf' : DataW.trod enc Tryz.prog W base sp held fuel 25 cs.toList = some (d, ps) := hf
  obtain ⟨l⟩ := cs
  have hlen : l.length = 4 := by simpa using h2
  obtain ⟨xs, k, hk, hxy, _, hxl, hg⟩ := DataW.trod_struct Tryz.underlying25 hf'
  match l, hlen with
  | [v0, v1, v2, v3], _ =>
    have g0 := hg 0 _ rfl
    have g1 := hg 1 _ rfl
    have g2 := hg 2 _ rfl
    have g3 := hg 3 _ rfl
    have hl3 : xs.length = 4 := hxl
    match xs, hl3 with
    | [y0, y1, y2, y3], _ =>
      simp only [cellsInt, cellsU64, List.drop_zero, List.take_succ_cons, List.take_zero, List.drop_succ_cons, List.getElem?_cons_zero, List.getElem?_cons_succ] at g0 g1 g2 g3
      obtain ⟨n0, e0, _, w0⟩ := DataW.trod_int Tryz.underlying3 g0
      obtain ⟨n1, e1, _, w1⟩ := DataW.trod_int Tryz.underlying23 g1
      obtain ⟨n2, e2, _, w2⟩ := DataW.trod_int Tryz.underlying23 g2
      obtain ⟨n3, e3, _, w3⟩ := DataW.trod_int Tryz.underlying3 g3
      injection e0 with e0; injection e1 with e1; injection e2 with e2; injection e3 with e3
      subst e0; subst e1; subst e2; subst e3
      exact ⟨⟨n0, n1, n2, n3⟩, rfl⟩
end
end Go.Proofs.YtddihnnodegkmaaGreatDoor
