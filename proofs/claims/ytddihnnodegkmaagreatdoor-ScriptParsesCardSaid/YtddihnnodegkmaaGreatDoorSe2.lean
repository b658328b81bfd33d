/- ScriptOnce, ScriptJoins: the laws' walks. -/
import Derived.Test.YtddihnnodegkmaaGreatDoorSe1
namespace Go.Proofs.YtddihnnodegkmaaGreatDoor
open Go.RowKit Hop
set_option linter.unusedVariables false
set_option linter.unusedSimpArgs false
set_option maxRecDepth 100000
theorem OL.none (w : World) : OL w (.slice none 0 0) [] := ⟨.none, 0, rfl, by simp, by simp, by simp⟩
theorem cutA_head {s : ByteArray} {c : UInt8} {r : List UInt8} (h : s.data.toList = c :: r) (hc : c ≠ 10) : (cutA s).data.toList.head? = some c := by
  show (Lib.cut _ [10]).1.toArray.toList.head? = _
  by_cases hm : (10 : UInt8) ∈ s.data.toList
  · obtain ⟨a, t, e, hn⟩ := List.eq_append_cons_of_mem hm
    rw [e, cut_clean hn]
    cases a with
    | nil =>
      rw [h] at e
      have := (List.cons.inj e).1
      exact absurd this hc
    | cons y a =>
      rw [h] at e
      have := (List.cons.inj e).1
      simp [this]
  · rw [cut_free hm, h]
    rfl
theorem joins_bad (A : List Op4) (s : ByteArray) : ∃ x r, lnF (textF A ++ ⟨#[120]⟩ ++ s).size (textF A ++ ⟨#[120]⟩ ++ s) = A.map lineF ++ x :: r ∧ okL x = false := by
  have e : textF A ++ (⟨#[120]⟩ : ByteArray) ++ s = textF A ++ ((⟨#[120]⟩ : ByteArray) ++ s) := by
    apply ba_ext
    simp only [app_data, List.append_assoc]
  have ed : ((⟨#[120]⟩ : ByteArray) ++ s).data.toList = 120 :: s.data.toList := by rw [app_data]; rfl
  have hne : ((⟨#[120]⟩ : ByteArray) ++ s).size ≠ 0 := by rw [← size_data, ed]; simp
  rw [e, lnF_text, lnF_step _ hne]
  refine ⟨_, _, rfl, ?_⟩
  cases ho : okL (cutA ((⟨#[120]⟩ : ByteArray) ++ s)) with
  | false => rfl
  | true =>
    have h1 := cutA_head ed (by decide)
    rw [← okL_eq ho] at h1
    exact absurd h1 (lineF_head _)
theorem okL_lines {L : List Op4} (h : ∀ x ∈ L, x.ok) : ∀ l ∈ L.map lineF, okL l = true := by
  intro l hl
  obtain ⟨x, hx, rfl⟩ := List.mem_map.1 hl
  exact okL_line (h x hx)
theorem textF_size {L : List Op4} (h : ∀ x ∈ L, x.ok) : (textF L).size ≤ L.length * 61 := by
  rw [← size_data]
  exact textL_length h
theorem OL.ok {w : World} {v : Value} {L : List Op4} (h : OL w v L) : ∀ x ∈ L, x.ok := by
  obtain ⟨_, _, _, _, h, _⟩ := h; exact h
end Go.Proofs.YtddihnnodegkmaaGreatDoor
