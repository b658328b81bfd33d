/- Parse: what a caller needs. -/
import Derived.Test.YtddihnnodegkmaaGreatDoorSd2
namespace Go.Proofs.YtddihnnodegkmaaGreatDoor
open Go.RowKit Hop
set_option linter.unusedVariables false
set_option linter.unusedSimpArgs false
theorem row_cell {w : World} {base g k cap : Nat} {xs : List Value} (h : w.ownsRow base 25 4 (.slice (some ⟨g, 0, none⟩) k cap) k xs) (j : Nat) (u : Value) (hj : xs[j]? = some u) : g < w.heap.size ∧ w.cell? ⟨g, j, none⟩ = some u := by
  rcases h.2 with ⟨q, _⟩ | ⟨g', cap', cur, q1, q2, q3, q4, q5, q6, q7⟩
  · cases q
  · injection q1 with e1 e2 e3
    injection e1 with e1
    injection e1 with e1 _ _
    subst e1
    refine ⟨(Array.getElem?_eq_some_iff.1 q3).1, ?_⟩
    have hl := h.1
    have hj2 : j < k * 4 := by
      have := (List.getElem?_eq_some_iff.1 hj).1
      omega
    simp only [World.cell?, q3]
    rw [← q7, List.getElem?_take] at hj
    rw [if_pos hj2] at hj
    simpa using hj
theorem cOp_flat : ∀ (L : List Op4) (j : Nat) (x : Op4), L[j]? = some x → (L.flatMap cOp)[j * 4]? = some (.int .i64 x.kind) ∧ (L.flatMap cOp)[j * 4 + 1]? = some (.int .u64 x.key) ∧ (L.flatMap cOp)[j * 4 + 2]? = some (.int .u64 x.val) ∧ (L.flatMap cOp)[j * 4 + 3]? = some (.int .i64 x.n)
  | [], j, x, h => by simp at h
  | y :: L, 0, x, h => by
    have e : y = x := by simpa using h
    subst e
    simp [cOp]
  | y :: L, j + 1, x, h => by
    have ih := cOp_flat L j x (by simpa using h)
    have e : ∀ i, ((y :: L).flatMap cOp)[(j + 1) * 4 + i]? = (L.flatMap cOp)[j * 4 + i]? := fun i => by
      rw [List.flatMap_cons, List.getElem?_append_right (by show 4 ≤ _; omega)]
      congr 1
      show (j + 1) * 4 + i - 4 = _
      omega
    have e0 := e 0
    rw [Nat.add_zero, Nat.add_zero] at e0
    rw [e0, e 1, e 2, e 3]
    exact ih
theorem OL.of_row {w : World} {base : Nat} {v : Value} {L : List Op4} (h : w.ownsRow base 25 4 v L.length (L.flatMap cOp)) (hok : ∀ x ∈ L, x.ok) : OL w v L := by
  have h' := h
  rcases h'.2 with ⟨q, q2⟩ | ⟨g, cap, cur, q1, q2, q3, q4, q5, q6, q7⟩
  · have e : L = [] := List.length_eq_zero_iff.1 q2
    subst e
    exact ⟨none, 0, q, by simp, hok, by simp⟩
  · refine ⟨some ⟨g, 0, none⟩, cap, q1, Nat.le_trans q4 q5, hok, fun j x hj => ⟨⟨g, 0, none⟩, rfl, (Array.getElem?_eq_some_iff.1 q3).1, ?_⟩⟩
    subst q1
    obtain ⟨c0, c1, c2, c3⟩ := cOp_flat L j x hj
    have ea : Addr.add ⟨g, 0, none⟩ (j * 4) = ⟨g, j * 4, none⟩ := by simp [Addr.add]; try omega
    rw [ea]
    exact ⟨(row_cell h _ _ c0).2, (row_cell h _ _ c1).2, (row_cell h _ _ c2).2, (row_cell h _ _ c3).2⟩
/-- Parse of a text that is operations'. -/
theorem parse_good (s : ByteArray) (w : World) (hs : s.size ≤ 100000) (h : Env w) (hok : ∀ l ∈ lnF s.size s, okL l = true) :
    Calls Tryz.prog 10 #[.string s] w fun e w' => ∃ v, e = .returned (.tuple #[v, .nilIface]) ∧ OL w' v ((lnF s.size s).map rdF) ∧ w'.ownsRow (w.heap.size + 5) 25 4 v (lnF s.size s).length (((lnF s.size s).map rdF).flatMap cOp) ∧ Below w.heap.size w w' := by
  have hz := lnF_size s.size s rfl
  refine (parse_any s w hs (fun l hl => by have := hz.1 l hl; omega) (by have := hz.2; omega) h).mono ?_
  rintro e w' ⟨v, ev, rfl, hsaid, hb⟩
  rcases hsaid with ⟨_, rfl, hr⟩ | ⟨p, x, r, b, h1, h2, h3, _⟩
  · refine ⟨v, rfl, OL.of_row (base := w.heap.size + 5) (by rw [List.length_map]; exact hr) ?_, hr, hb⟩
    intro x hx
    obtain ⟨l, _, rfl⟩ := List.mem_map.1 hx
    exact rdF_ok l
  · have := hok x (by rw [h1]; simp)
    rw [this] at h3
    cases h3
/-- Parse of a text with a line that is no operation's. -/
theorem parse_bad (s : ByteArray) (w : World) (hs : s.size ≤ 100000) (h : Env w) (p : List ByteArray) (x : ByteArray) (r : List ByteArray) (hl : lnF s.size s = p ++ x :: r) (hp : ∀ l ∈ p, okL l = true) (hx : okL x = false) :
    Calls Tryz.prog 10 #[.string s] w fun e w' => ∃ b, e = .returned (.tuple #[.slice none 0 0, .iface 56 (.pointer (some ⟨b, 0, none⟩))]) ∧ Blk w' b [.string sLine, .int .i64 ((p.length : Int) + 1), .iface 40 (.int .i64 3)] 58 ∧ Below w.heap.size w w' := by
  have hz := lnF_size s.size s rfl
  refine (parse_any s w hs (fun l hl => by have := hz.1 l hl; omega) (by have := hz.2; omega) h).mono ?_
  rintro e w' ⟨v, ev, rfl, hsaid, hb⟩
  rcases hsaid with ⟨hall, rfl, hr⟩ | ⟨p', x', r', b, h1, h2, h3, rfl, rfl, _, h4⟩
  · have := hall x (by rw [hl]; simp)
    rw [this] at hx
    cases hx
  · have e : p'.length = p.length := by
      rw [hl] at h1
      clear hl h4
      clear hz hb hs h
      induction p generalizing p' with
      | nil =>
        cases p' with
        | nil => rfl
        | cons y q => 
          have e1 : x = y := by simpa using (List.cons.inj h1).1
          have := h2 y (by simp)
          rw [← e1, hx] at this
          cases this
      | cons z p ih =>
        cases p' with
        | nil =>
          have e1 : z = x' := by simpa using (List.cons.inj h1).1
          have := hp z (by simp)
          rw [e1, h3] at this
          cases this
        | cons y q =>
          have := ih (fun l hl => hp l (by simp [hl])) q (List.cons.inj h1).2 (fun l hl => h2 l (by simp [hl]))
          simp [this]
    rw [e] at h4
    exact ⟨b, rfl, h4, hb⟩
/-- Parse: either of the two. -/
theorem bad_split : ∀ (L : List ByteArray), (∀ l ∈ L, okL l = true) ∨ ∃ p x r, L = p ++ x :: r ∧ (∀ l ∈ p, okL l = true) ∧ okL x = false
  | [] => .inl (by simp)
  | l :: L => by
    cases h : okL l with
    | false => exact .inr ⟨[], l, L, rfl, by simp, h⟩
    | true =>
      rcases bad_split L with q | ⟨p, x, r, q1, q2, q3⟩
      · exact .inl (fun y hy => by rcases List.mem_cons.1 hy with rfl | hy; exact h; exact q y hy)
      · exact .inr ⟨l :: p, x, r, by rw [q1]; rfl, fun y hy => by rcases List.mem_cons.1 hy with rfl | hy; exact h; exact q2 y hy, q3⟩
end Go.Proofs.YtddihnnodegkmaaGreatDoor
