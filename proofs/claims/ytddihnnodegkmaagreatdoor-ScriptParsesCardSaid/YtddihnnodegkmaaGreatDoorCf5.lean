/- The texts of errors. -/
import Derived.Test.YtddihnnodegkmaaGreatDoorCf2
import Derived.Test.YtddihnnodegkmaaGreatDoorShI
import Derived.Deep.RegionHeld3
namespace Go.Proofs.YtddihnnodegkmaaGreatDoor
open Go.RowKit Go.Extern.Stop Go.Stop Go.Extern Hop
set_option linter.unusedVariables false
set_option linter.unusedSimpArgs false
set_option maxRecDepth 100000
def nmF (c : Int) : ByteArray := if c = 0 then ⟨#[111, 107]⟩ else if c = 1 then ⟨#[99, 111, 110, 102, 105, 103]⟩ else if c = 2 then ⟨#[111, 112]⟩ else if c = 3 then ⟨#[102, 111, 114, 109]⟩ else ⟨#[117, 110, 107, 110, 111, 119, 110]⟩
theorem str_add {P : Program} {t : TypeId} (w : World) (a b : ByteArray) (h : a.size + b.size ≤ 9223372036854775807) : (binOp .add t (.string a) (.string b)).run P w = .ok (.string (a ++ b)) w := by
  rw [binOp_string_add]
  exact run_string_add_sum w a b h
theorem nmF_size (c : Int) : (nmF c).size ≤ 7 := by unfold nmF; (repeat' split) <;> decide
set_option maxHeartbeats 400000 in
theorem bad_unwrap_nil (w : World) : Calls Tryz.prog 111 #[.pointer none] w fun e w' => e = .returned .nilIface ∧ w = w' := by
  go_enter Tryz.func111, Tryz.ntmps111
  go_wp2_with fail
  go_ret
  exact ⟨rfl, rfl⟩
theorem itoa_small (n : Nat) (hn : n < 100) (w : World) : Calls Tryz.prog 29 #[.int .i64 n] w fun e w' => e = .returned (.string ⟨(Lib.decDigits n).toArray⟩) ∧ Below w.heap.size w w' :=
  (Tryz.strconv_Itoa_small n hn w).mono (fun e w' ⟨h1, h2⟩ => ⟨h1, by rw [h2]; exact Below.refl _ _⟩)
end Go.Proofs.YtddihnnodegkmaaGreatDoor
