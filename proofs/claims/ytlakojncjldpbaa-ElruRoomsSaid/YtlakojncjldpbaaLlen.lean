/- How many a list has. -/
import Derived.Test.YtlakojncjldpbaaLay
namespace Go.Proofs.Ytlakojncjldpbaa
open Go.RowKit Hop
set_option linter.unusedVariables false
set_option linter.unusedSimpArgs false
set_option maxRecDepth 100000
section
variable (pl pa bl ba : Nat) (S : List Sl) (ls : List Li) (f nx li : Value)
set_option maxHeartbeats 400000 in
theorem llen_yes (t : Nat) (w : World) (hn : ls.length < 1000) (ht : t < ls.length) (h : LRep w pl pa bl ba S ls f nx li) :
    Calls Try.prog 186 #[P0 pl, .int .i64 t] w fun e w' => e = .returned (.int .i64 (lg ls t).many) ∧ w = w' := by
  have c1 := list_cell h.bl ht (j := 2) (by omega)
  simp only [encL, List.getElem?_cons_zero, List.getElem?_cons_succ] at c1
  go_enter Try.func186, Try.ntmps186
  go_wp2_with fail
  refine (list_yes pl pa bl ba S ls f nx li t _ hn ht h).mono ?_
  rintro e w1 ⟨rfl, rfl⟩
  go_wp2_with fail
  go_ret
  exact ⟨rfl, rfl⟩
end
end Go.Proofs.Ytlakojncjldpbaa
