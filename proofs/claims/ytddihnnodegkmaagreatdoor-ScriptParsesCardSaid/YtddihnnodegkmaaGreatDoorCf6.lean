/- The statements' own awake (law 01). -/
import Derived.Test.YtddihnnodegkmaaGreatDoorCf3
import Derived.Test.YtddihnnodegkmaaGreatDoorCf4
import Derived.Test.YtddihnnodegkmaaGreatDoorCf5
namespace Go.Proofs.YtddihnnodegkmaaGreatDoor
open Go.RowKit Go.Extern.Stop Go.Stop Go.Extern Hop
set_option linter.unusedVariables false
set_option linter.unusedSimpArgs false
set_option maxRecDepth 100000
theorem Ety.keep {w w' : World} (h : Ety w) (hb : Below w.heap.size w w') : Ety w' := cell_below hb h
theorem sPolicy_list : sPolicy.toList = [112, 111, 108, 105, 99, 121] := by decide +kernel
theorem sCapacity_list : sCapacity.toList = [99, 97, 112, 97, 99, 105, 116, 121] := by decide +kernel
theorem pol9 : sPolicy ++ ⟨#[58, 32]⟩ ++ ⟨(Lib.decDigits 9).toArray⟩ ++ (⟨#[58, 32]⟩ ++ nmF 1) = ⟨#[112, 111, 108, 105, 99, 121, 58, 32, 57, 58, 32, 99, 111, 110, 102, 105, 103]⟩ := by decide +kernel
/-- A Bad over a number is a chain of one. -/
theorem Ch.one {w : World} {b : Nat} {f : ByteArray} {n c : Int} (h : Blk w b [.string f, .int .i64 n, .iface 40 (.int .i64 c)] 58) : Ch w 1 (.iface 56 (.pointer (some ⟨b, 0, none⟩))) (.iface 40 (.int .i64 c)) :=
  ⟨b, f, n, _, rfl, h, rfl⟩
theorem itoa_nine (w : World) : Calls Tryz.prog 29 #[.int .i64 9] w fun e w' => e = .returned (.string ⟨(Lib.decDigits 9).toArray⟩) ∧ Below w.heap.size w w' := itoa_small 9 (by decide) w
end Go.Proofs.YtddihnnodegkmaaGreatDoor
