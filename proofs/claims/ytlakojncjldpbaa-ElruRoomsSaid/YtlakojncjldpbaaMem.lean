/- Blocks of memory known whole, rows of structs, and what one cell's store does to them. No program in sight. -/
import Derived.Test.YtlakojncjldpbaaTab
namespace Go.Proofs.Ytlakojncjldpbaa
namespace Hop
set_option linter.unusedVariables false
set_option linter.unusedSimpArgs false
/-- A block, known whole. -/
def Blk (w : World) (b : Nat) (cs : List Value) (T : Nat) : Prop := w.heap[b]? = some (.cells cs.toArray T (0, 0))
section
variable {w w' : World} {b : Nat} {cs : List Value} {T : Nat}
theorem Blk.lt (h : Blk w b cs T) : b < w.heap.size := (Array.getElem?_eq_some_iff.1 h).1
theorem Blk.cell (h : Blk w b cs T) (o : Nat) : w.cell? ⟨b, o, none⟩ = cs[o]? := by
  unfold Blk at h
  simp only [World.cell?, h]
  simp
theorem Blk.frozen (h : Blk w b cs T) (o : Nat) : w.frozen? ⟨b, o, none⟩ = false := by
  unfold Blk at h
  simp only [World.frozen?, h]
  simp
theorem Blk.of_heap (h : Blk w b cs T) (e : w'.heap[b]? = w.heap[b]?) : Blk w' b cs T := by unfold Blk at *; rw [e]; exact h
theorem Blk.alloc (h : Blk w b cs T) (o : Obj) : Blk (w.alloc o) b cs T := h.of_heap (Go.RowKit.Below.heap_alloc w o b h.lt)
theorem Blk.drew (h : Blk w b cs T) : Blk w.drew b cs T := h
theorem Blk.set (h : Blk w b cs T) (o : Nat) (v : Value) : Blk (w.setCell ⟨b, o, none⟩ v) b (cs.set o v) T := by
  unfold Blk at *
  simp only [World.setCell, Array.getElem?_modify, h]
  simp
theorem Blk.set_ne (h : Blk w b cs T) {a : Addr} (hn : b ≠ a.block) (v : Value) : Blk (w.setCell a v) b cs T :=
  h.of_heap (Go.RowKit.Below.heap_setCell w a v b hn)
theorem Blk.ne {b' : Nat} {cs' : List Value} {T' : Nat} (h : Blk w b cs T) (h' : Blk w b' cs' T') (hT : T ≠ T') : b ≠ b' := by
  rintro rfl
  unfold Blk at *
  rw [h] at h'
  injection h' with h'
  injection h' with _ h2 _
  exact hT h2
theorem Blk.eq {cs' : List Value} {T' : Nat} (h : Blk w b cs T) (h' : Blk w b cs' T') : cs = cs' := by
  unfold Blk at *
  rw [h] at h'
  injection h' with h'
  injection h' with h1 _ _
  injection h1
theorem Blk.new0 (w : World) (cs : List Value) (T : Nat) : Blk (w.alloc (.cells cs.toArray T)) w.heap.size cs T := by
  unfold Blk World.alloc
  simp
theorem Blk.new1 (w : World) (X : Obj) (cs : List Value) (T : Nat) : Blk ((w.alloc X).alloc (.cells cs.toArray T)) (w.heap.size + 1) cs T := by
  have h := Blk.new0 (w.alloc X) cs T
  rwa [World.size_alloc] at h
theorem Blk.new2 (w : World) (X Y : Obj) (cs : List Value) (T : Nat) : Blk (((w.alloc X).alloc Y).alloc (.cells cs.toArray T)) (w.heap.size + 1 + 1) cs T := by
  have h := Blk.new1 (w.alloc X) Y cs T
  rwa [World.size_alloc] at h
theorem Blk.new (w : World) (cs : List Value) (T : Nat) : Blk (w.alloc (.cells cs.toArray T)) w.heap.size cs T := by
  unfold Blk World.alloc
  simp
end

/-- Rows of elements of one width. -/
def flat {α : Type} (enc : α → List Value) (l : List α) : List Value := l.flatMap enc
section
variable {α : Type} {enc : α → List Value} {k : Nat} (hk : ∀ x, (enc x).length = k)
include hk
theorem flat_length (l : List α) : (flat enc l).length = l.length * k := by
  unfold flat
  induction l with
  | nil => simp
  | cons x r ih => simp only [List.flatMap_cons, List.length_append, hk, ih, List.length_cons, Nat.add_mul]; omega
theorem flat_get (l : List α) : ∀ (i j : Nat) (h : i < l.length), j < k → (flat enc l)[i * k + j]? = (enc (l[i]'h))[j]? := by
  unfold flat
  induction l with
  | nil => intro i j h; simp at h
  | cons x r ih =>
    intro i j h hj
    cases i with
    | zero => simp only [Nat.zero_mul, Nat.zero_add, List.flatMap_cons, List.getElem_cons_zero]; rw [List.getElem?_append_left (by rw [hk]; exact hj)]
    | succ i =>
      simp only [List.flatMap_cons, List.getElem_cons_succ]
      rw [List.getElem?_append_right (by rw [hk, Nat.add_mul]; omega), hk, ← ih i j (by simpa using h) hj]
      congr 1
      rw [Nat.add_mul]; omega
theorem flat_set (l : List α) : ∀ (i j : Nat) (h : i < l.length) (v : Value) (y : α), j < k → enc y = (enc (l[i]'h)).set j v → (flat enc l).set (i * k + j) v = flat enc (l.set i y) := by
  unfold flat
  induction l with
  | nil => intro i j h; simp at h
  | cons x r ih =>
    intro i j h v y hj he
    cases i with
    | zero =>
      simp only [List.getElem_cons_zero] at he
      simp only [Nat.zero_mul, Nat.zero_add, List.flatMap_cons, List.set_cons_zero, he]
      rw [List.set_append_left _ _ (by rw [hk]; exact hj)]
    | succ i =>
      simp only [List.getElem_cons_succ] at he
      simp only [List.flatMap_cons, List.set_cons_succ]
      rw [List.set_append_right _ _ (by rw [hk, Nat.add_mul]; omega), hk, ← ih i j (by simpa using h) v y hj he]
      congr 2
      rw [Nat.add_mul]; omega
end
end Hop
end Go.Proofs.Ytlakojncjldpbaa
