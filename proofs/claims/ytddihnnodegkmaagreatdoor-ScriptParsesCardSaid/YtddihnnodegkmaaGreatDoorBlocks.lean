/- Blocks of memory known whole, and what a call may turn. No program in sight. -/
import Derived.WalkKit
import Derived.Lib.Hide
namespace Go.Proofs.YtddihnnodegkmaaGreatDoor
namespace Hop
open Go.RowKit
set_option linter.unusedVariables false
set_option linter.unusedSimpArgs false
/-- A block, known whole. -/
def Blk (w : World) (b : Nat) (cs : List Value) (T : Nat) : Prop := w.heap[b]? = some (.cells cs.toArray T (0, 0))
section
variable {w w' : World} {b : Nat} {cs : List Value} {T : Nat}
theorem Blk.lt (h : Blk w b cs T) : b < w.heap.size := (Array.getElem?_eq_some_iff.1 h).1
theorem Blk.cell (h : Blk w b cs T) (o : Nat) : w.cell? ⟨b, o, none⟩ = cs[o]? := by
  unfold Blk at h
  simp only [World.cell?, h]
  simp
theorem Blk.frozen (h : Blk w b cs T) (o : Nat) : w.frozen? ⟨b, o, none⟩ = false := by
  unfold Blk at h
  simp only [World.frozen?, h]
  simp
theorem Blk.of_heap (h : Blk w b cs T) (e : w'.heap[b]? = w.heap[b]?) : Blk w' b cs T := by unfold Blk at *; rw [e]; exact h
theorem Blk.alloc (h : Blk w b cs T) (o : Obj) : Blk (w.alloc o) b cs T := h.of_heap (Go.RowKit.Below.heap_alloc w o b h.lt)
theorem Blk.drew (h : Blk w b cs T) : Blk w.drew b cs T := h
theorem Blk.set (h : Blk w b cs T) (o : Nat) (v : Value) : Blk (w.setCell ⟨b, o, none⟩ v) b (cs.set o v) T := by
  unfold Blk at *
  simp only [World.setCell, Array.getElem?_modify, h]
  simp
theorem Blk.set_ne (h : Blk w b cs T) {a : Addr} (hn : b ≠ a.block) (v : Value) : Blk (w.setCell a v) b cs T :=
  h.of_heap (Go.RowKit.Below.heap_setCell w a v b hn)
theorem Blk.ne {b' : Nat} {cs' : List Value} {T' : Nat} (h : Blk w b cs T) (h' : Blk w b' cs' T') (hT : T ≠ T') : b ≠ b' := by
  rintro rfl
  unfold Blk at *
  rw [h] at h'
  injection h' with h'
  injection h' with _ h2 _
  exact hT h2
theorem Blk.eq {cs' : List Value} {T' : Nat} (h : Blk w b cs T) (h' : Blk w b cs' T') : cs = cs' := by
  unfold Blk at *
  rw [h] at h'
  injection h' with h'
  injection h' with h1 _ _
  injection h1
theorem Blk.new0 (w : World) (cs : List Value) (T : Nat) : Blk (w.alloc (.cells cs.toArray T)) w.heap.size cs T := by
  unfold Blk World.alloc
  simp
theorem Blk.new1 (w : World) (X : Obj) (cs : List Value) (T : Nat) : Blk ((w.alloc X).alloc (.cells cs.toArray T)) (w.heap.size + 1) cs T := by
  have h := Blk.new0 (w.alloc X) cs T
  rwa [World.size_alloc] at h
theorem Blk.new2 (w : World) (X Y : Obj) (cs : List Value) (T : Nat) : Blk (((w.alloc X).alloc Y).alloc (.cells cs.toArray T)) (w.heap.size + 1 + 1) cs T := by
  have h := Blk.new1 (w.alloc X) Y cs T
  rwa [World.size_alloc] at h
theorem Blk.new (w : World) (cs : List Value) (T : Nat) : Blk (w.alloc (.cells cs.toArray T)) w.heap.size cs T := by
  unfold Blk World.alloc
  simp
end

/-- What a call may turn: blocks of a kind; all others stay. -/
structure Fr (own : Nat → Prop) (w w' : World) : Prop where
  os : w'.os = w.os
  tape : w'.tape = w.tape
  output : w'.output = w.output
  size : w.heap.size ≤ w'.heap.size
  block : ∀ k, k < w.heap.size → ¬ own k → w'.heap[k]? = w.heap[k]?
section
variable {own own' : Nat → Prop} {a b c w w' : World}
theorem Fr.refl (own : Nat → Prop) (w : World) : Fr own w w := ⟨rfl, rfl, rfl, Nat.le_refl _, fun _ _ _ => rfl⟩
theorem Fr.trans (h : Fr own a b) (k : Fr own' b c) (hs : ∀ i, own' i → own i ∨ a.heap.size ≤ i) : Fr own a c :=
  ⟨k.os.trans h.os, k.tape.trans h.tape, k.output.trans h.output, Nat.le_trans h.size k.size, fun i hi hn =>
    (k.block i (Nat.lt_of_lt_of_le hi h.size) (fun ho => (hs i ho).elim hn (fun hge => by omega))).trans (h.block i hi hn)⟩
theorem Fr.mono (h : Fr own w w') (hs : ∀ i, own i → own' i) : Fr own' w w' := ⟨h.os, h.tape, h.output, h.size, fun i hi hn => h.block i hi (fun ho => hn (hs i ho))⟩
theorem Fr.of_below (h : Below w.heap.size w w') : Fr own w w' := ⟨h.os, h.tape, h.output, h.size, fun i hi _ => h.block i hi⟩
theorem Fr.below (h : Fr (fun _ => False) w w') : Below w.heap.size w w' := ⟨h.os, h.tape, h.output, h.size, fun i hi => h.block i hi (fun f => f)⟩
theorem Fr.alloc (h : Fr own a w) (o : Obj) : Fr own a (w.alloc o) := h.trans (own' := fun _ => False) (Fr.of_below ((Below.refl _ _).alloc (Nat.le_refl _) o)) (fun _ f => f.elim)
theorem Fr.drew (h : Fr own a w) : Fr own a w.drew := ⟨h.os, h.tape, h.output, h.size, h.block⟩
theorem Fr.setCell (h : Fr own a w) {p : Addr} (hp : own p.block ∨ a.heap.size ≤ p.block) (u : Value) : Fr own a (w.setCell p u) :=
  h.trans (own' := fun i => i = p.block) ⟨rfl, rfl, rfl, by simp [World.setCell], fun i hi hn => Below.heap_setCell _ _ _ _ hn⟩ (fun i e => e ▸ hp)
theorem Fr.setEq (h : Fr own a w) {b o : Nat} (hp : own b) (u : Value) : Fr own a (w.setCell ⟨b, o, none⟩ u) := h.setCell (.inl hp) u
theorem Fr.setNew (h : Fr own a w) {b o : Nat} (hp : a.heap.size ≤ b) (u : Value) : Fr own a (w.setCell ⟨b, o, none⟩ u) := h.setCell (.inr hp) u
theorem Fr.and_below (h : Fr own a b) (k : Below b.heap.size b c) : Fr own a c := h.trans (own' := fun _ => False) (Fr.of_below k) (fun _ f => f.elim)
theorem Fr.blk {x : Nat} {cs : List Value} {T : Nat} (h : Fr own w w') (hx : ¬ own x) (hb : Blk w x cs T) : Blk w' x cs T := hb.of_heap (h.block x hb.lt hx)
theorem Blk.keep {x : Nat} {cs : List Value} {T : Nat} (hb : Blk w x cs T) (h : Below w.heap.size w w') : Blk w' x cs T := hb.of_heap (h.block x hb.lt)
end

theorem below_set {B : Nat} {a b : World} (h : Below B a b) {x o : Nat} (hx : B ≤ x) (u : Value) : Below B a (b.setCell ⟨x, o, none⟩ u) := h.setCell (p := ⟨x, o, none⟩) hx u
end Hop
end Go.Proofs.YtddihnnodegkmaaGreatDoor
