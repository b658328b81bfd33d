/- A region that draws its order, within a round of a range over a function: by the laws for worlds of a class. -/
import Derived.Test.YtlakojncjldpbaaGRef
import Derived.RangeFuncNested
import Derived.RangeFuncCalls
import Derived.OrdersIn
import Derived.Deep.RegionHeld
namespace Go.Proofs.Ytlakojncjldpbaa
open Go.RowKit Hop
set_option linter.unusedVariables false
set_option linter.unusedSimpArgs false
section
variable {P : Program} {ops : Array Oper} {Q : Exit → Act → World → Prop} {md : Region.Mode} {n l : Nat} {S : World → Prop}
theorem rows_round {row : String} {args : Array Value} {w : World} {R : Value → World → Prop} (h : Rows P row args w R) : RowsIn (Fence.wide.inRound l) n P row args w R :=
  fun c cs _ => let ⟨v, w', r, s⟩ := h c cs; ⟨v, w', r, stepsIn_wide.2 s⟩
theorem op_round {o : Oper} (hd : ∀ c, o.op ≠ .defer c) {a : Act} {w : World} {K K' : Act → World → Prop} (hK : ∀ a w, K a w → K' a w) (h : o.wp P a w K Q) : o.wpIn (Fence.wide.inRound l) n P a w K' Q := by
  refine ⟨fun _ _ => trivial, ?_⟩
  show o.uponIn (Fence.wide.inRound l) n P a K' Q ((o.semAt (some l) a.eval).run P w)
  rw [Oper.semAt_some l _ _ hd]
  unfold Oper.wp at h
  generalize (execOp a.eval o).run P w = r at *
  cases r with
  | ok x w' =>
    cases x with
    | value v => exact hK _ _ h
    | skip => exact hK _ _ h
    | defer d => exact hK _ _ h
    | enter f args =>
      refine ⟨fun h => (by cases h), CallsIn.inRound l (callsIn_wide.2 (Calls.mono h fun e w'' he => ?_))⟩
      cases e with
      | returned u => exact hK _ _ he
      | panicked c => exact he
      | outgrown => exact he
    | row row args => exact ⟨fun h => (by cases h), rows_round (Rows.mono h fun u w'' he => hK _ _ he)⟩
    | _ => exact False.elim h
  | halt x w' =>
    cases x with
    | panic v => exact h
    | _ => exact False.elim h
theorem any_round (hlo : ¬ LetsOut Q) (hd : ∀ (j : Nat) (o : Oper), ops[j]? = some o → ∀ c, o.op ≠ .defer c) :
    ∀ (fuel : Nat) (listed : Array Bool) (a : Act) (w : World), wpAny P md ops Q fuel listed a w → wpAnyIn (Fence.wide.inRound l) n P md ops Q fuel listed a w := by
  intro fuel
  induction fuel with
  | zero => intro listed a w h; exact h
  | succ fuel ih =>
    intro listed a w h
    refine ⟨h.1, fun i hi => ?_⟩
    have hq := h.2 i hi
    unfold wpOp at hq
    unfold wpOpIn
    cases ho : ops[i]? with
    | none => rw [ho] at hq; exact ih _ _ _ hq
    | some o =>
      rw [ho] at hq
      simp only at hq ⊢
      split
      · rename_i hw
        rw [if_pos hw] at hq
        rcases hq with hq | ⟨_, hq⟩
        · exact op_round (hd i o ho) (fun a w h => ih _ a w h) hq
        · exact absurd hq hlo
      · rename_i hw
        rw [if_neg hw] at hq
        exact ⟨fun _ _ => trivial, ih _ _ _ hq⟩
def noDefer (o : Oper) : Bool := match o.op with
  | .defer _ => false
  | _ => true
theorem noDefer_all (h : ops.toList.all noDefer = true) (j : Nat) (o : Oper) (ho : ops[j]? = some o) (c : Call) : o.op ≠ .defer c := by
  intro e
  have h1 := List.all_eq_true.1 h o (by
    rw [← Array.getElem?_toList] at ho
    exact List.mem_of_getElem? ho)
  unfold noDefer at h1
  rw [e] at h1
  cases h1
theorem region_round {id : Nat} {a : Act} {w : World} (hm : P.follows .mixedOrders = true) (hlo : ¬ LetsOut Q) (hd : ops.toList.all noDefer = true) (hS : S w.drew)
    (h : S w.drew → wpAnyH P .any ops Q S ops.size (Array.replicate ops.size false) a w.drew) : (Code.region id ops true).wpIn (Fence.wide.inRound l) n P Q a w :=
  wpIn_region_any hm (any_round hlo (noDefer_all hd) _ _ _ _ (wpAny_of_held _ _ _ _ (h hS)))
end
end Go.Proofs.Ytlakojncjldpbaa
