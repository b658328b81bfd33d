/- The variables that Script's rows list: what they give a walk. -/
import Derived.Test.YtddihnnodegkmaaGreatDoorCfl
import Derived.Test.YtddihnnodegkmaaGreatDoorSe3
import Derived.Stop.LaidErr
import Derived.Stop.ErrReads
import Derived.LaidMore
import Derived.HandedShaped
import Derived.Shelf.Vars
import Derived.Deep.Slices
namespace Go.Proofs.YtddihnnodegkmaaGreatDoor
open Go.ChangeShapes Go.WideShapes Go.RowKit
set_option linter.unusedVariables false
set_option maxRecDepth 100000
theorem star : "*" ++ "errors.errorString" = "*errors.errorString" := by decide
theorem rowErrS (u : TypeId) (h : Tryz.prog.typeName? 3 u = some "*errors.errorString") : u = 143 :=
  typeName_ptr_named (nm := "errors.errorString") (by rw [star]; kernel_rfl) (by kernel_rfl) (by decide) u (by rw [star]; exact h)
theorem gES : Tryz.prog.globalNamed "strconv.ErrSyntax" = some 3 := by kernel_rfl
theorem gER : Tryz.prog.globalNamed "strconv.ErrRange" = some 4 := by kernel_rfl
theorem gEST : (Tryz.prog.globals[3]?).map (·.type) = some 31 := by kernel_rfl
theorem gERT : (Tryz.prog.globals[4]?).map (·.type) = some 31 := by kernel_rfl
theorem cellsES : Tryz.prog.cellsOf 145 = 1 := by kernel_rfl
theorem cellsStr : Tryz.prog.cellsOf 9 = 1 := by kernel_rfl
theorem es_of {W : World} {l : List (String × DataW Unit)} (h : laidMetH Tryz.prog l W) (e : l.filter (fun x => x.1 == "strconv.ErrSyntax") = [("strconv.ErrSyntax", Rows.laid_strconv_ErrSyntax)] := by rfl) : ∃ te pe, W.cell? ⟨3, 0, none⟩ = some (.iface te pe) := by
  have h' := laidMetH.filter (fun x => x.1 == "strconv.ErrSyntax") h
  rw [e] at h'
  obtain ⟨a, s, hv, _⟩ := laid_sentinel (show laidMet Tryz.prog [("strconv.ErrSyntax", Rows.laid_strconv_ErrSyntax)] W from h') gES gEST Tryz.underlying31 rowErrS Tryz.underlying143 Tryz.underlying145 rfl rfl Tryz.underlying9 cellsES cellsStr
  exact ⟨_, _, by simpa using World.var?_cell gES hv 0⟩
theorem er_of {W : World} {l : List (String × DataW Unit)} (h : laidMetH Tryz.prog l W) (e : l.filter (fun x => x.1 == "strconv.ErrRange") = [("strconv.ErrRange", Rows.laid_strconv_ErrRange)] := by rfl) : ∃ te pe, W.cell? ⟨4, 0, none⟩ = some (.iface te pe) := by
  have h' := laidMetH.filter (fun x => x.1 == "strconv.ErrRange") h
  rw [e] at h'
  obtain ⟨a, s, hv, _⟩ := laid_sentinel (show laidMet Tryz.prog [("strconv.ErrRange", Rows.laid_strconv_ErrRange)] W from h') gER gERT Tryz.underlying31 rowErrS Tryz.underlying143 Tryz.underlying145 rfl rfl Tryz.underlying9 cellsES cellsStr
  exact ⟨_, _, by simpa using World.var?_cell gER hv 0⟩
theorem ml_of {W : World} (h : W.ShapedOpen Tryz.prog) : ∃ m, W.cell? ⟨2, 0, none⟩ = some (.int .i64 m) :=
  cell_of_shapedOpen_int (t := 3) (zero := #[.int .i64 0]) h (by decide +kernel) (by kernel_rfl) rfl (by kernel_rfl) (by kernel_rfl) Tryz.underlying3
theorem env_of {W : World} (hL : laidMetH Tryz.prog Rows.scriptTextsRow.laid W) (hS : W.ShapedOpen Tryz.prog) : Env W :=
  ⟨handle_of hL, tab_of hL, es_of hL, er_of hL, ml_of hS⟩
/-- The wrap, with what the row lists and the world's shape. -/
theorem returns_shaped {H : Type} {enc : TypeId × Value → H} {a : Assume} {C : Checked} {os : Os} {f : FuncId} {fn : Func} {s : ChangeSpec} {conds : List PathCond} {apart fresh handsOn again : Bool} {X : World → Array Value → Prop}
    (hX : ∀ (w w' : World) (args : Array Value), w.heap = w'.heap → X w args → X w' args)
    (own : ownKnob C.prog.godebug = none) (started : os.Started) (noInit : C.prog.inits.idxOf? f = none) (hfn : C.prog.funcs[f]? = some fn)
    (witness : ∃ (w : World) (tape : Tape) (i : Input), w.os = os ∧ (w.forCall tape i).Shaped C.prog ∧ i.vars = [] ∧ Input.okWide C.prog (w.forCall tape i) .any w.heap.size f i ∧
      ((s.pre enc C.prog fn conds apart (w.forCall tape i).memory i.args ∧ X (w.forCall tape i).memory i.args) ∧ sizedMet enc C.prog fn (OpenSpec.ofChange s) apart (w.forCall tape i).memory i.args) ∧ a.holds C.prog (lone (Frame.enter C.prog f i.args .normal) [] (w.forCall tape i)))
    (contract : ∀ (W : World) (base : Nat) (args : Array Value) (ds gs : List (DataW H)) (before : List MemPlace),
      (∀ (j : Nat) t v, fn.params[j]? = some t → args[j]? = some v → Value.okWide C.prog W .any base t v) →
      DataW.Whole enc C.prog fn.params.toList s.vars apart W args.toList ds gs before →
      conds.all (PathCond.test C.prog ⟨fn.params.toList, ds, s.plain.varTypes C.prog, gs⟩) = true →
      (DataW.weightsEach C.prog (fn.params.toList ++ s.plain.varTypes C.prog) (ds ++ gs)).all (· ≤ reachBytes) = true → X W args → W.ShapedOpen C.prog →
      Calls C.prog f args W fun e W' => ∃ v, e = .returned v ∧ s.post enc C.prog fn apart fresh handsOn again W args v W') :
    ReturnsInHanded a C os f .any (fun w args => (s.pre enc C.prog fn conds apart w args ∧ X w args) ∧ sizedMet enc C.prog fn (OpenSpec.ofChange s) apart w args) (s.post enc C.prog fn apart fresh handsOn again) := by
  refine returnsInHanded_of_calls own started noInit witness ?_
  intro w tape i _ hsh _ hok hpre hholds
  obtain ⟨_, _, _, fn', hfn', _, _, _, _, hval⟩ := hok
  have e : fn' = fn := Option.some.inj (hfn'.symm.trans hfn)
  subst e
  obtain ⟨⟨⟨ds, gs, before, hw, hc⟩, hx⟩, hz⟩ := hpre
  have hw' := DataW.Whole.of_heap (w' := w.forCall tape i) (by rfl) hw
  refine (contract (w.forCall tape i) w.heap.size i.args ds gs before hval hw' hc (hz.weights hw) (hX _ _ _ (by rfl) hx) hsh).mono fun e W' ⟨v, he, hp⟩ => ?_
  subst he
  exact ChangeSpec.post_blind hp
end Go.Proofs.YtddihnnodegkmaaGreatDoor
