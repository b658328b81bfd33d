/- The statements ConfigIs, ConfigField, ConfigNobody: the walks. -/
import Derived.Test.YtddihnnodegkmaaGreatDoorCf6
namespace Go.Proofs.YtddihnnodegkmaaGreatDoor
open Go.RowKit Go.Extern.Stop Go.Stop Go.Extern Hop
set_option linter.unusedVariables false
set_option linter.unusedSimpArgs false
set_option maxRecDepth 100000
theorem mayF_ok {p c : Int} (hp : okP p) (hc : okC c) : mayF p c = 0 := by unfold mayF; unfold okP at hp; unfold okC at hc; rw [if_neg (by omega), if_neg (by omega)]
theorem mayF_pol {p c : Int} (hp : ¬ okP p) : mayF p c = 1 := by unfold mayF; unfold okP at hp; rw [if_pos (by omega)]
theorem mayF_cap {p c : Int} (hp : okP p) (hc : ¬ okC c) : mayF p c = 2 := by unfold mayF; unfold okP at hp; unfold okC at hc; rw [if_neg (by omega), if_pos (by omega)]
end Go.Proofs.YtddihnnodegkmaaGreatDoor
