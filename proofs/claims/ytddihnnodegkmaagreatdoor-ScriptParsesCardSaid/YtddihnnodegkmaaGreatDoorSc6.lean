/- A line's operation, as the program reads it: the walk. -/
import Derived.Test.YtddihnnodegkmaaGreatDoorSc5
import Derived.Lib.SplitLaws
namespace Go.Proofs.YtddihnnodegkmaaGreatDoor
open Go.RowKit Hop
set_option linter.unusedVariables false
set_option linter.unusedSimpArgs false
set_option maxRecDepth 100000
theorem splitB_small (sep : ByteArray) : ∀ (k : Nat) (s x : ByteArray), x ∈ Lib.splitB sep 0 k s → x.size ≤ s.size
  | 0, s, x, h => by simp [Lib.splitB] at h; rw [h]; exact Nat.le_refl _
  | k + 1, s, x, h => by
    unfold Lib.splitB at h
    split at h
    · simp at h; rw [h]; exact Nat.le_refl _
    · rcases List.mem_cons.1 h with h | h
      · rw [h]; simp [ByteArray.size_extract]; omega
      · have := splitB_small sep k _ x h
        simp [ByteArray.size_extract] at this
        omega
theorem wdF_length (s : ByteArray) : (wdF s).length = Lib.countB s sSp + 1 := Lib.splitB_all sSp (by decide) 0 _ s rfl
abbrev wd (s : ByteArray) (i : Nat) : ByteArray := (wdF s).getD i ⟨#[]⟩
theorem wd_size (s : ByteArray) (i : Nat) : (wd s i).size ≤ s.size := by
  unfold wd
  rw [List.getD_eq_getElem?_getD]
  cases h : (wdF s)[i]? with
  | none => exact Nat.zero_le _
  | some x => exact splitB_small _ _ _ _ (List.mem_of_getElem? h)
set_option maxHeartbeats 800000 in
/-- The closure 'at'. -/
theorem word_any (s : ByteArray) (i b g : Nat) (w : World) (hi : i < 100) (hc : Lib.countB s sSp < 1000000) (hb : Blk w b [.slice (some ⟨g, 0, none⟩) (Lib.countB s sSp + 1) (Lib.countB s sSp + 1)] 72) (hg : Blk w g ((wdF s).map Value.string) 9) :
    Calls Tryz.prog 35 #[.int .i64 (i : Int), .pointer (some ⟨b, 0, none⟩)] w fun e w' => e = .returned (.string (wd s i)) ∧ w = w' := by
  have c0 := hb.cell 0
  simp only [List.getElem?_cons_zero] at c0
  have hlb := hb.lt
  have hl := wdF_length s
  by_cases h : i < (wdF s).length
  · have h1 : (i : Int) < (Lib.countB s sSp : Int) + 1 := by omega
    have h0 : 0 ≤ (i : Int) := by omega
    have e : (wdF s)[i]? = some (wd s i) := by unfold wd; rw [List.getD_eq_getElem?_getD, List.getElem?_eq_getElem h]; rfl
    have c1 := hg.cell i
    rw [List.getElem?_map, e] at c1
    simp only [Option.map_some] at c1
    generalize wd s i = x at *
    generalize Lib.countB s sSp = n at *
    have hlg := hg.lt
    clear hg hb e hl h
    go_enter Tryz.func35, Tryz.ntmps35
    go_wp2_with fail
    go_ret
    exact ⟨rfl, rfl⟩
  · have h1 : ¬ ((i : Int) < (Lib.countB s sSp : Int) + 1) := by omega
    have e : wd s i = ⟨#[]⟩ := by unfold wd; rw [List.getD_eq_getElem?_getD, List.getElem?_eq_none (by omega)]; rfl
    rw [e]
    generalize Lib.countB s sSp = n at *
    clear hg hb e hl h
    go_enter Tryz.func35, Tryz.ntmps35
    go_wp2_with fail
    go_ret
    exact ⟨rfl, rfl⟩
end Go.Proofs.YtddihnnodegkmaaGreatDoor
