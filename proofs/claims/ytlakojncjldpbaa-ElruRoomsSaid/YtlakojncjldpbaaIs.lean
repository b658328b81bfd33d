/- The arena's reads. -/
import Derived.Test.YtlakojncjldpbaaRep
import Derived.Test.YtlakojncjldpbaaProg
import Derived.BigQuiet
import Derived.Deep.QuietTactic
import Derived.Lib.Hide
import Derived.StillTailTactics
import Derived.Deep.DeepFit
import Derived.Deep.RegionWith
import Derived.Deep.RegionHeld3
import Derived.Deep.DeepCutAuto
import Derived.Deep.CutBlock
import Derived.Deep.LoopGhost
import Derived.WalkSpells
import Derived.BigGuardPart
namespace Go.Proofs.Ytlakojncjldpbaa
open Go.RowKit Hop
set_option linter.unusedVariables false
set_option linter.unusedSimpArgs false
set_option maxRecDepth 100000
set_option maxHeartbeats 400000 in
theorem is_yes (pa ba : Nat) (S : List Sl) (f nx lv : Value) (i : Int) (w : World) (h0 : 0 < i) (h1 : i < S.length) (hn : S.length < 1000000)
    (ha : Blk w pa [.slice (some ⟨ba, 0, none⟩) S.length S.length, f, nx, lv] 189) (hb : Blk w ba (flat encS S) 201) :
    Calls Try.prog 202 #[.pointer (some ⟨pa, 0, none⟩), .int .i32 i] w fun e w' => e = .returned (.bool (sg S i).taken) ∧ w = w' := by
  have c0 := ha.cell 0
  simp only [List.getElem?_cons_zero] at c0
  obtain ⟨n, rfl⟩ := Int.eq_ofNat_of_zero_le (Int.le_of_lt h0)
  have c1 : w.cell? ⟨ba, n * 7 + 6, none⟩ = some (.bool (sg S n).taken) := by
    rw [hb.cell, flat_get encS_len S n 6 (by omega) (by omega)]
    simp [encS, gt, show n < S.length by omega]
  clear ha hb
  have h0' : 0 < n := by omega
  have h1' : n < S.length := by omega
  go_enter Try.func202, Try.ntmps202
  go_wp2
  go_ret
  exact ⟨by simp [gt], rfl⟩

/-- 'Is' of any number. -/
theorem is_any (pa ba : Nat) (S : List Sl) (f nx lv : Value) (i : Int) (w : World) (hi : i ≤ 2147483647) (hn : S.length < 1000000)
    (ha : Blk w pa [.slice (some ⟨ba, 0, none⟩) S.length S.length, f, nx, lv] 189) (hb : Blk w ba (flat encS S) 201) :
    Calls Try.prog 202 #[.pointer (some ⟨pa, 0, none⟩), .int .i32 i] w fun e w' => e = .returned (.bool (isT S i)) ∧ w = w' := by
  by_cases h0 : 0 < i
  · by_cases h1 : i < S.length
    · have e : isT S i = (sg S i).taken := by simp [isT, h0, h1]
      rw [e]
      exact is_yes pa ba S f nx lv i w h0 h1 hn ha hb
    · have e : isT S i = false := by simp [isT, h1]
      rw [e]
      have c0 := ha.cell 0
      simp only [List.getElem?_cons_zero] at c0
      clear ha hb
      go_enter Try.func202, Try.ntmps202
      go_wp2
      go_ret
      exact ⟨rfl, rfl⟩
  · have e : isT S i = false := by simp [isT, h0]
    rw [e]
    clear ha hb
    go_enter Try.func202, Try.ntmps202
    go_wp2
    go_ret
    exact ⟨rfl, rfl⟩
end Go.Proofs.Ytlakojncjldpbaa
