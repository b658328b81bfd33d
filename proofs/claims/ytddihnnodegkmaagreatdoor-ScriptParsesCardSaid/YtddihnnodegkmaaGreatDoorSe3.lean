/- ScriptBack: the law's walk. -/
import Derived.Test.YtddihnnodegkmaaGreatDoorSe2
namespace Go.Proofs.YtddihnnodegkmaaGreatDoor
open Go.RowKit Hop
set_option linter.unusedVariables false
set_option linter.unusedSimpArgs false
set_option maxRecDepth 100000
theorem row_own {w : World} {base : Nat} {v : Value} {k : Nat} {xs : List Value} (h : w.ownsRow base 25 4 v k xs) : ∀ q, some q = v.ownBlock → base ≤ q := by
  intro q hq
  rcases h.2 with ⟨h1, _⟩ | ⟨g, cap, cur, h1, h2, _⟩
  · rw [h1] at hq; cases hq
  · rw [h1] at hq
    have e : q = g := by simpa [Value.ownBlock] using hq
    subst e; exact h2
theorem below_grown {n₀ : Nat} {w w1 w2 : World} {r : Option Nat} (h : Below n₀ w w1) (hn : n₀ ≤ w.heap.size) (hg : w1.grownBy w2 r) (hr : ∀ q, some q = r → n₀ ≤ q) : Below n₀ w w2 :=
  fr_below h hn (fr_grown hg) hr
theorem row_keep {w w' : World} {base : Nat} {v : Value} {k : Nat} {xs : List Value} (h : w.ownsRow base 25 4 v k xs) (hb : Below w.heap.size w w') : w'.ownsRow base 25 4 v k xs := by
  refine ⟨h.1, ?_⟩
  rcases h.2 with q | ⟨g, cap, cur, q1, q2, q3, q4⟩
  · exact .inl q
  · exact .inr ⟨g, cap, cur, q1, q2, (hb.block g (Array.getElem?_eq_some_iff.1 q3).1).trans q3, q4⟩
end Go.Proofs.YtddihnnodegkmaaGreatDoor
