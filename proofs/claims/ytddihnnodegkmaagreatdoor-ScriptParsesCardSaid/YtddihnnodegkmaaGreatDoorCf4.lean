/- config.May, wrap, and the texts of errors. -/
import Derived.Test.YtddihnnodegkmaaGreatDoorCf2
namespace Go.Proofs.YtddihnnodegkmaaGreatDoor
open Go.RowKit Go.Extern.Stop Go.Stop Go.Extern Hop
set_option linter.unusedVariables false
set_option linter.unusedSimpArgs false
set_option maxRecDepth 100000
def sPolicy : ByteArray := ⟨#[112, 111, 108, 105, 99, 121]⟩
def sCapacity : ByteArray := ⟨#[99, 97, 112, 97, 99, 105, 116, 121]⟩
def sX : ByteArray := ⟨#[120]⟩
def okP (p : Int) : Prop := 1 ≤ p ∧ p ≤ 5
def okC (c : Int) : Prop := 1 ≤ c ∧ c ≤ 1048576
def mayF (p c : Int) : Int := if p < 1 ∨ 5 < p then 1 else if c < 1 ∨ 1048576 < c then 2 else 0
/-- nil, or an error. -/
def Er (v : Value) : Prop := v = .nilIface ∨ ∃ T x, v = .iface T x
theorem Ch.er {w : World} {k : Nat} {v e : Value} (h : Ch w k v e) (he : Er e) : Er v := by
  cases k with
  | zero => have e' : v = e := h; rw [e']; exact he
  | succ k => obtain ⟨b, f, n, v', h1, _⟩ := h; exact .inr ⟨_, _, h1⟩
end Go.Proofs.YtddihnnodegkmaaGreatDoor
