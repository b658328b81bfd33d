/- The variables that the rows list: what they give a walk, and worlds that hold them. -/
import Derived.Test.YtddihnnodegkmaaDoorRows
import Derived.Test.YtddihnnodegkmaaDoorTie
import Derived.ChangeSame
import Derived.ChangeVars
import Derived.JoinedOf
import Derived.RowKit
import Derived.RowKitTokens
import Derived.LaidLaws
import Derived.LaidHandle
import Derived.LaidSub
import Derived.ProofKit
import Derived.OpenShut
import Derived.Carry
import Derived.ChangeMaps5
import Derived.Lib.LaidTab
import Derived.Shelf.Strconv.Itoa3
import Derived.Stop.Joined
namespace Go.Proofs.YtddihnnodegkmaaDoor
open Go.ChangeShapes Go.WideShapes Go.RowKit
set_option linter.unusedVariables false
set_option maxRecDepth 100000
theorem etG : Tryd.prog.globalNamed "errors.errorType" = some 0 := by kernel_rfl
theorem rtT : (Tryd.prog.cutTypes.find? (·.1 == "internal/reflectlite.rtype")).map (·.2) = some 78 := by kernel_rfl
theorem oneRow : ((List.range 193).filter fun t => Tryd.prog.rowNamed t [101, 114, 114, 111, 114]) = [24] := by kernel_rfl
theorem nty : Tryd.prog.types.size = 193 := by kernel_rfl
/-- What the condition gives a walk: the variable's one cell. -/
theorem handle_of_laid {W : World} (h : laidMetH Tryd.prog [("errors.errorType", Rows.laid_errors_errorType)] W) : W.cell? ⟨0, 0, none⟩ = some (.iface 78 (.agg #[.pointer (some ⟨14, 24, none⟩)])) := by
  have h' : laidMet Tryd.prog [] W ∧ handlesMet Tryd.prog [("errors.errorType", Rows.laid_errors_errorType)] W := h
  obtain ⟨name, u, ty, e1, e2, e3, e4, e5⟩ := h'.2 _ (List.mem_singleton.2 rfl)
  have en : name = [101, 114, 114, 111, 114] := (Option.some.inj e1).symm
  subst en
  obtain rfl := Option.some.inj (rtT.symm.trans e2)
  have hm : ty ∈ (List.range 193).filter fun t => Tryd.prog.rowNamed t [101, 114, 114, 111, 114] := List.mem_filter.2 ⟨List.mem_range.2 (by rw [← nty]; exact e3), e4⟩
  rw [oneRow] at hm
  obtain rfl := List.mem_singleton.1 hm
  have hh : typeHandle Tryd.prog 24 = .pointer (some ⟨14, 24, none⟩) := by kernel_rfl
  rw [hh] at e5
  simpa using World.var?_cell etG e5 0
/-- The same, out of whatever list. -/
theorem handle_of {W : World} {l : List (String × DataW Unit)} (h : laidMetH Tryd.prog l W) (e : l.filter (fun x => x.1 == "errors.errorType") = [("errors.errorType", Rows.laid_errors_errorType)] := by rfl) : W.cell? ⟨0, 0, none⟩ = some (.iface 78 (.agg #[.pointer (some ⟨14, 24, none⟩)])) := by
  have h' := laidMetH.filter (fun x => x.1 == "errors.errorType") h
  rw [e] at h'
  exact handle_of_laid h'
/-- A world that meets the condition: the settled one, the variable's cell laid. -/
noncomputable def laidWorld (os : Os) : World :=
  let w0 := World.holding Tryd.prog os ⟨#[], #[], []⟩
  { w0 with heap := w0.heap.modify 0 fun
      | .cells _ t frozen => .cells #[.iface 78 (.agg #[.pointer (some ⟨14, 24, none⟩)])] t frozen
      | o => o }
theorem laidWorld_met (os : Os) (args : Array Value) : laidMetH Tryd.prog [("errors.errorType", Rows.laid_errors_errorType)] ((laidWorld os).forCall (fun _ _ => 0) ⟨#[], args, []⟩).memory :=
  laidMetH_of_parts (laidMet_nil _ _) (by kernel_rfl)
/-- The cells of a table's datum. -/
def dcells (d : DataW Unit) : Array Value := match d with
  | .agg ds => (ds.map fun x => match x with | .lit (.int k z) => Value.int k z | _ => Value.nilIface).toArray
  | _ => #[]
/-- The same, and the tables. -/
noncomputable def laidWorld4 (os : Os) : World :=
  let w0 := laidWorld os
  { w0 with heap := ((w0.heap.modify 1 fun
      | .cells _ t frozen => .cells (dcells Rows.laid_internal_strconv_uint64pow10) t frozen
      | o => o).modify 5 fun
      | .cells _ t frozen => .cells (dcells Rows.laid_math_bits_deBruijn32tab) t frozen
      | o => o).modify 6 fun
      | .cells _ t frozen => .cells (dcells Rows.laid_math_bits_deBruijn64tab) t frozen
      | o => o }
theorem laidWorld4_met (os : Os) (args : Array Value) : laidMetH Tryd.prog [("math/bits.deBruijn32tab", Rows.laid_math_bits_deBruijn32tab), ("math/bits.deBruijn64tab", Rows.laid_math_bits_deBruijn64tab), ("internal/strconv.uint64pow10", Rows.laid_internal_strconv_uint64pow10), ("errors.errorType", Rows.laid_errors_errorType)] ((laidWorld4 os).forCall (fun _ _ => 0) ⟨#[], args, []⟩).memory :=
  laidMetH_of_parts (laidMet_of_run' 8 (by kernel_rfl) (by kernel_rfl)) (by kernel_rfl)
/-- The library's table of powers, out of whatever list. -/
theorem tab_of {W : World} {l : List (String × DataW Unit)} (h : laidMetH Tryd.prog l W) (e : l.filter (fun x => x.1 == "internal/strconv.uint64pow10") = [("internal/strconv.uint64pow10", Rows.laid_internal_strconv_uint64pow10)] := by rfl) : Lib.TabIs Tryd.prog W "internal/strconv.uint64pow10" .u64 Lib.pow10Tab := by
  have h' := laidMetH.filter (fun x => x.1 == "internal/strconv.uint64pow10") h
  rw [e] at h'
  have h2 : laidMet Tryd.prog (("internal/strconv.uint64pow10", Lib.tabData .u64 Lib.pow10Tab) :: []) W := h'
  exact Lib.tabIs_of_head (g := 1) (t := 131) (e := 46) (n := 20) (by kernel_rfl) (by kernel_rfl) Tryd.underlying131 Tryd.underlying46 (by kernel_rfl) (by kernel_rfl) h2
section
variable {H : Type} {enc : TypeId × Value → H} {W : World} {base : Nat} {sp : Nat → Bool} {held : Bool}
theorem cells2 : Tryd.prog.cellsOf 37 = 2 := by kernel_rfl
theorem cells1 : Tryd.prog.cellsOf 5 = 1 := by kernel_rfl
/-- An argument of two bytes, opened. -/
theorem open_code {W1 : World} {r : Reach} {b0 : Nat} {v : Value} {d : DataW H} {ps : List MemPlace} (hval : Value.okWide Tryd.prog W1 r b0 37 v) (hd : DataW.Trod enc Tryd.prog W base sp held 37 v d ps) :
    ∃ a0 a1 : Int, v = .agg #[.int .u8 a0, .int .u8 a1] ∧ d = .agg [.lit (.int .u8 a0), .lit (.int .u8 a1)] ∧ ps = [] ∧ (Lit.int .u8 a0).wf = true ∧ (Lit.int .u8 a1).wf = true := by
  simp only [Value.okWide, Tryd.underlying37] at hval
  obtain ⟨cs, rfl, h2, _⟩ := hval
  rw [cells2] at h2
  obtain ⟨fuel, hf⟩ := hd
  cases fuel with
  | zero => simp [DataW.trod] at hf
  | succ m =>
    rw [DataW.trod_step] at hf
    unfold DataW.trodStep at hf
    simp only [Tryd.underlying37, Value.cells] at hf
    rw [if_pos (by rw [cells2]; simpa using h2)] at hf
    simp only [Option.map_eq_some_iff] at hf
    obtain ⟨ys, hy, e1⟩ := hf
    have hr : List.range 2 = [0, 1] := by decide
    rw [hr, cells1] at hy
    simp only [List.mapM_cons, List.mapM_nil, bind, Option.bind_eq_some_iff, pure, Option.some.injEq] at hy
    obtain ⟨x0, hx0, y1, ⟨x1, hx1, y2, rfl, rfl⟩, rfl⟩ := hy
    obtain ⟨a0, ea0, rfl, wa0⟩ := DataW.trod_int Tryd.underlying5 hx0
    obtain ⟨a1, ea1, rfl, wa1⟩ := DataW.trod_int Tryd.underlying5 hx1
    simp only [Prod.mk.injEq] at e1
    refine ⟨a0, a1, ?_, by rw [← e1.1]; rfl, by rw [← e1.2]; rfl, wa0, wa1⟩
    cases cs with
    | mk l =>
      match l, h2 with
      | [u0, u1], _ =>
        simp at ea0 ea1
        rw [ea0, ea1]
theorem shut_code {a0 a1 : Int} (w0 : (Lit.int .u8 a0).wf = true) (w1 : (Lit.int .u8 a1).wf = true) : DataW.Trod enc Tryd.prog W base sp held 37 (.agg #[.int .u8 a0, .int .u8 a1]) (.agg [.lit (.int .u8 a0), .lit (.int .u8 a1)]) [] := by
  refine ⟨2, ?_⟩
  rw [DataW.trod_step]
  unfold DataW.trodStep
  simp only [Tryd.underlying37, Value.cells]
  rw [if_pos (by rw [cells2]; rfl)]
  have hr : List.range 2 = [0, 1] := by decide
  rw [hr, cells1]
  simp [DataW.trod, Tryd.underlying5, w0, w1]
end
theorem no_standin {l : Array TypeId} {j t : Nat} (h : l[j]? = some t) (hl : l.toList.all (fun t => !Tryd.prog.wantsStandIn t) = true) : Tryd.prog.wantsStandIn t = false := by
  have hm : t ∈ l.toList := by
    have := List.mem_of_getElem? (l := l.toList) (i := j) (a := t) (by simpa using h)
    exact this
  simpa using List.all_eq_true.1 hl t hm
end Go.Proofs.YtddihnnodegkmaaDoor
