/- A world that meets the list of Script's rows. -/
import Derived.Test.YtddihnnodegkmaaGreatDoorCsl
namespace Go.Proofs.YtddihnnodegkmaaGreatDoor
open Go.ChangeShapes Go.WideShapes Go.RowKit
set_option linter.unusedVariables false
set_option maxRecDepth 100000
/-- The door's world, the pinned table laid. -/
noncomputable def world8 (os : Os) : World :=
  let w0 := World.doorLaid Tryz.prog 79 os
  { w0 with heap := w0.heap.modify 7 fun
      | .cells _ t frozen => .cells (dcells Rows.laid_unicode_utf8_first) t frozen
      | o => o }
theorem met8 (os : Os) (args : Array Value) : laidMetH Tryz.prog Rows.scriptTextsRow.laid ((world8 os).forCall (fun _ _ => 0) ⟨#[], args, []⟩).memory :=
  laidMetH_of_parts (laidMet_of_run' 8 (by kernel_rfl) (by kernel_rfl)) (by kernel_rfl)
end Go.Proofs.YtddihnnodegkmaaGreatDoor
