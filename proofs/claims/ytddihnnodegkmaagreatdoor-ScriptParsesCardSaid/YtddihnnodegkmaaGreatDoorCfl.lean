/- The variables that the rows list: what they give a walk, and worlds that hold them. -/
import Derived.Test.YtddihnnodegkmaaGreatDoorRows
import Derived.Test.YtddihnnodegkmaaGreatDoorTie
import Derived.ChangeSame
import Derived.ChangeVars
import Derived.JoinedOf
import Derived.RowKit
import Derived.RowKitTokens
import Derived.LaidLaws
import Derived.LaidHandle
import Derived.LaidSub
import Derived.ProofKit
import Derived.OpenShut
import Derived.Carry
import Derived.ChangeMaps5
import Derived.Lib.LaidTab
import Derived.Shelf.Strconv.Itoa3
import Derived.Stop.Joined
namespace Go.Proofs.YtddihnnodegkmaaGreatDoor
open Go.ChangeShapes Go.WideShapes Go.RowKit
set_option linter.unusedVariables false
set_option maxRecDepth 100000
theorem etG : Tryz.prog.globalNamed "errors.errorType" = some 0 := by kernel_rfl
theorem rtT : (Tryz.prog.cutTypes.find? (·.1 == "internal/reflectlite.rtype")).map (·.2) = some 91 := by kernel_rfl
theorem oneRow : ((List.range 179).filter fun t => Tryz.prog.rowNamed t [101, 114, 114, 111, 114]) = [31] := by kernel_rfl
theorem nty : Tryz.prog.types.size = 179 := by kernel_rfl
/-- What the condition gives a walk: the variable's one cell. -/
theorem handle_of_laid {W : World} (h : laidMetH Tryz.prog [("errors.errorType", Rows.laid_errors_errorType)] W) : W.cell? ⟨0, 0, none⟩ = some (.iface 91 (.agg #[.pointer (some ⟨9, 31, none⟩)])) := by
  have h' : laidMet Tryz.prog [] W ∧ handlesMet Tryz.prog [("errors.errorType", Rows.laid_errors_errorType)] W := h
  obtain ⟨name, u, ty, e1, e2, e3, e4, e5⟩ := h'.2 _ (List.mem_singleton.2 rfl)
  have en : name = [101, 114, 114, 111, 114] := (Option.some.inj e1).symm
  subst en
  obtain rfl := Option.some.inj (rtT.symm.trans e2)
  have hm : ty ∈ (List.range 179).filter fun t => Tryz.prog.rowNamed t [101, 114, 114, 111, 114] := List.mem_filter.2 ⟨List.mem_range.2 (by rw [← nty]; exact e3), e4⟩
  rw [oneRow] at hm
  obtain rfl := List.mem_singleton.1 hm
  have hh : typeHandle Tryz.prog 31 = .pointer (some ⟨9, 31, none⟩) := by kernel_rfl
  rw [hh] at e5
  simpa using World.var?_cell etG e5 0
/-- The same, out of whatever list. -/
theorem handle_of {W : World} {l : List (String × DataW Unit)} (h : laidMetH Tryz.prog l W) (e : l.filter (fun x => x.1 == "errors.errorType") = [("errors.errorType", Rows.laid_errors_errorType)] := by rfl) : W.cell? ⟨0, 0, none⟩ = some (.iface 91 (.agg #[.pointer (some ⟨9, 31, none⟩)])) := by
  have h' := laidMetH.filter (fun x => x.1 == "errors.errorType") h
  rw [e] at h'
  exact handle_of_laid h'
/-- A world that meets the condition: the settled one, the variable's cell laid. -/
noncomputable def laidWorld (os : Os) : World :=
  let w0 := World.holding Tryz.prog os ⟨#[], #[], []⟩
  { w0 with heap := w0.heap.modify 0 fun
      | .cells _ t frozen => .cells #[.iface 91 (.agg #[.pointer (some ⟨9, 31, none⟩)])] t frozen
      | o => o }
theorem laidWorld_met (os : Os) (args : Array Value) : laidMetH Tryz.prog [("errors.errorType", Rows.laid_errors_errorType)] ((laidWorld os).forCall (fun _ _ => 0) ⟨#[], args, []⟩).memory :=
  laidMetH_of_parts (laidMet_nil _ _) (by kernel_rfl)
/-- The cells of a table's datum. -/
def dcells (d : DataW Unit) : Array Value := match d with
  | .agg ds => (ds.map fun x => match x with | .lit (.int k z) => Value.int k z | _ => Value.nilIface).toArray
  | _ => #[]
/-- The same, and the tables. -/
noncomputable def laidWorld4 (os : Os) : World :=
  let w0 := laidWorld os
  { w0 with heap := ((w0.heap.modify 1 fun
      | .cells _ t frozen => .cells (dcells Rows.laid_internal_strconv_uint64pow10) t frozen
      | o => o).modify 5 fun
      | .cells _ t frozen => .cells (dcells Rows.laid_math_bits_deBruijn32tab) t frozen
      | o => o).modify 6 fun
      | .cells _ t frozen => .cells (dcells Rows.laid_math_bits_deBruijn64tab) t frozen
      | o => o }
theorem laidWorld4_met (os : Os) (args : Array Value) : laidMetH Tryz.prog [("math/bits.deBruijn32tab", Rows.laid_math_bits_deBruijn32tab), ("math/bits.deBruijn64tab", Rows.laid_math_bits_deBruijn64tab), ("internal/strconv.uint64pow10", Rows.laid_internal_strconv_uint64pow10), ("errors.errorType", Rows.laid_errors_errorType)] ((laidWorld4 os).forCall (fun _ _ => 0) ⟨#[], args, []⟩).memory :=
  laidMetH_of_parts (laidMet_of_run' 8 (by kernel_rfl) (by kernel_rfl)) (by kernel_rfl)
/-- The library's table of powers, out of whatever list. -/
theorem tab_of {W : World} {l : List (String × DataW Unit)} (h : laidMetH Tryz.prog l W) (e : l.filter (fun x => x.1 == "internal/strconv.uint64pow10") = [("internal/strconv.uint64pow10", Rows.laid_internal_strconv_uint64pow10)] := by rfl) : Lib.TabIs Tryz.prog W "internal/strconv.uint64pow10" .u64 Lib.pow10Tab := by
  have h' := laidMetH.filter (fun x => x.1 == "internal/strconv.uint64pow10") h
  rw [e] at h'
  have h2 : laidMet Tryz.prog (("internal/strconv.uint64pow10", Lib.tabData .u64 Lib.pow10Tab) :: []) W := h'
  exact Lib.tabIs_of_head (g := 1) (t := 127) (e := 23) (n := 20) (by kernel_rfl) (by kernel_rfl) Tryz.underlying127 Tryz.underlying23 (by kernel_rfl) (by kernel_rfl) h2
section
variable {H : Type} {enc : TypeId × Value → H} {W : World} {base : Nat} {sp : Nat → Bool} {held : Bool}
theorem cells1 : Tryz.prog.cellsOf 5 = 1 := by kernel_rfl
end
theorem no_standin {l : Array TypeId} {j t : Nat} (h : l[j]? = some t) (hl : l.toList.all (fun t => !Tryz.prog.wantsStandIn t) = true) : Tryz.prog.wantsStandIn t = false := by
  have hm : t ∈ l.toList := by
    have := List.mem_of_getElem? (l := l.toList) (i := j) (a := t) (by simpa using h)
    exact this
  simpa using List.all_eq_true.1 hl t hm
end Go.Proofs.YtddihnnodegkmaaGreatDoor
