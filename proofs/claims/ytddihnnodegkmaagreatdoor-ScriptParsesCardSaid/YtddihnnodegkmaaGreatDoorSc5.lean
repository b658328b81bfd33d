/- A line's operation, as the program reads it. -/
import Derived.Test.YtddihnnodegkmaaGreatDoorSc4
import Derived.Lib.AtoiErrMem
namespace Go.Proofs.YtddihnnodegkmaaGreatDoor
open Go.RowKit Hop
set_option linter.unusedVariables false
set_option linter.unusedSimpArgs false
set_option maxRecDepth 100000
/-- What the package-level variables hold that are read on the way. -/
structure Env (w : World) : Prop where
  et : Ety w
  p10 : P10 w
  es : ∃ te pe, w.cell? ⟨3, 0, none⟩ = some (.iface te pe)
  er : ∃ te pe, w.cell? ⟨4, 0, none⟩ = some (.iface te pe)
  ml : ∃ m, w.cell? ⟨2, 0, none⟩ = some (.int .i64 m)
theorem cell_keep {w w' : World} (hb : Below w.heap.size w w') {a : Addr} {v : Value} (h : w.cell? a = some v) : w'.cell? a = some v := by
  rw [hb.cell]
  · exact h
  · rcases Nat.lt_or_ge a.block w.heap.size with h' | h'
    · exact h'
    · simp [World.cell?, Array.getElem?_eq_none h'] at h
theorem Env.keep {w w' : World} (h : Env w) (hb : Below w.heap.size w w') : Env w' := by
  obtain ⟨h1, h2, ⟨a, b, h3⟩, ⟨c, d, h4⟩, ⟨m, h5⟩⟩ := h
  exact ⟨h1.keep hb, h2.keep hb, ⟨a, b, cell_keep hb h3⟩, ⟨c, d, cell_keep hb h4⟩, ⟨m, cell_keep hb h5⟩⟩
def aF (s : ByteArray) : Int := match Lib.atoiAll s.data.toList with | .ok v => v | .range => Lib.atoiSat s.data.toList | _ => 0
def uF (s : ByteArray) : Int := match Lib.parseUintB 64 s.data.toList with | .ok u => (u : Int) | .range => 18446744073709551615 | _ => 0
theorem atoi_any (s : ByteArray) (w : World) (hs : s.size ≤ 100000) (h : Env w) :
    Calls Tryz.prog 36 #[.string s] w fun e w' => ∃ ev, e = .returned (.tuple #[.int .i64 (aF s), ev]) ∧ Below w.heap.size w w' := by
  obtain ⟨_, _, ⟨te, pe, h3⟩, ⟨tr, pr, h4⟩, _⟩ := h
  unfold aF
  cases hx : Lib.atoiAll s.data.toList with
  | ok v =>
    refine (Tryz.strconv_Atoi_ok s (by omega) v hx w).mono ?_
    rintro e w' ⟨rfl, hw⟩
    refine ⟨_, rfl, ?_⟩
    rcases hw with rfl | ⟨t, rfl⟩
    · exact Below.refl _ _
    · exact Lib.bytesWorld_below _ _ _
  | range =>
    refine (Tryz.strconv_Atoi_range s (by omega) hx _ w h4 (.inr ⟨_, _, rfl⟩)).mono ?_
    rintro e w' ⟨N, rfl, _, _, hb⟩
    exact ⟨_, rfl, hb⟩
  | _ =>
    refine (Tryz.strconv_Atoi_syntax s (by omega) hx _ w h3 (.inr ⟨_, _, rfl⟩)).mono ?_
    rintro e w' ⟨N, rfl, _, _, hb⟩
    exact ⟨_, rfl, hb⟩
theorem puint_any (s : ByteArray) (w : World) (hs : s.size ≤ 100000) (h : Env w) :
    Calls Tryz.prog 37 #[.string s, .int .i64 10, .int .i64 64] w fun e w' => ∃ ev, e = .returned (.tuple #[.int .u64 (uF s), ev]) ∧ Below w.heap.size w w' := by
  obtain ⟨_, _, ⟨te, pe, h3⟩, ⟨tr, pr, h4⟩, _⟩ := h
  unfold uF
  cases hx : Lib.parseUintB 64 s.data.toList with
  | ok v =>
    refine (Tryz.strconv_ParseUint_10_at64_ok s (by omega) v hx w).mono ?_
    rintro e w' ⟨rfl, hw⟩
    refine ⟨_, rfl, ?_⟩
    rcases hw with rfl | rfl
    · exact Below.refl _ _
    · exact Lib.bytesWorld_below _ _ _
  | range =>
    refine (Tryz.strconv_ParseUint_10_at64_range s (by omega) hx _ w h4 (.inr ⟨_, _, rfl⟩)).mono ?_
    rintro e w' ⟨N, rfl, _, _, hb⟩
    exact ⟨_, rfl, hb⟩
  | _ =>
    refine (Tryz.strconv_ParseUint_10_at64_syntax s (by omega) hx _ w h3 (.inr ⟨_, _, rfl⟩)).mono ?_
    rintro e w' ⟨N, rfl, _, _, hb⟩
    exact ⟨_, rfl, hb⟩
theorem aF_in (s : ByteArray) : -9223372036854775808 ≤ aF s ∧ aF s ≤ 9223372036854775807 := by
  unfold aF
  cases hx : Lib.atoiAll s.data.toList with
  | ok v => exact Lib.atoiAll_bounds hx
  | range => simp only; unfold Lib.atoiSat; split <;> omega
  | _ => simp
theorem uF_in (s : ByteArray) : 0 ≤ uF s ∧ uF s < 18446744073709551616 := by
  unfold uF
  cases hx : Lib.parseUintB 64 s.data.toList with
  | ok v => have := Lib.parseUintB_le hx; simp only; omega
  | range => simp
  | _ => simp
/-- A line's words. -/
abbrev wdF (s : ByteArray) : List ByteArray := Lib.splitB sSp 0 (Lib.countB s sSp) s
theorem split_any (s : ByteArray) (w : World) (hs : s.size ≤ 100000) (h : Env w) :
    Calls Tryz.prog 34 #[.string s, .string sSp] w fun e w' => e = .returned (.slice (some ⟨w.heap.size, 0, none⟩) (Lib.countB s sSp + 1) (Lib.countB s sSp + 1)) ∧ w' = w.alloc (.cells ((wdF s).map Value.string).toArray 9) := by
  obtain ⟨m, hm⟩ := h.ml
  exact Tryz.strings_Split s sSp m w (by omega) hm (by decide)
theorem splitB_length (sep : ByteArray) : ∀ (k : Nat) (s : ByteArray), (Lib.splitB sep 0 k s).length ≤ k + 1
  | 0, s => by simp [Lib.splitB]
  | k + 1, s => by
    unfold Lib.splitB
    split
    · simp
    · simp only [List.length_cons]
      have := splitB_length sep k (s.extract ((Lib.indexB s sep).toNat + sep.size) s.size)
      omega
end Go.Proofs.YtddihnnodegkmaaGreatDoor
