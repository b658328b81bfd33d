/- Blocks ahead of a walk, and lists beside them. -/
import Derived.Test.YtlakojncjldpbaaGRef
namespace Go.Proofs.Ytlakojncjldpbaa
open Go.RowKit Hop
set_option linter.unusedVariables false
set_option linter.unusedSimpArgs false
set_option maxRecDepth 100000
theorem own_cut {a : Option Addr} {n n' c c' b : Nat} (h : (Value.slice a n c).ownBlock = some b) : (Value.slice a n' c').ownBlock = some b := by
  cases a with
  | none => simp [Value.ownBlock] at h
  | some a => simp [Value.ownBlock] at h ⊢; exact h
/-- A list of keys is not touched where two blocks of other types are. -/
theorem KL.two {w w' : World} {v : Value} {L : List Int} (h : KL w v L) {A B : Nat} {cs cs' : List Value} {T T' : Nat} (hA : Blk w A cs T) (hB : Blk w B cs' T') (h1 : 31 ≠ T) (h2 : 31 ≠ T')
    (hf : Fr (fun k => k = A ∨ k = B) w w') : KL w' v L :=
  Row.frame h hf (fun b hb => by
    rintro (e | e)
    · exact h.ne hA h1 b hb e
    · exact h.ne hB h2 b hb e)
/-- Its own and its result's block, ahead of a walk. -/
theorem two_blocks (w : World) (X Y : List Value) (T : Nat) : ∃ W, W = (w.alloc (.cells X.toArray T)).alloc (.cells Y.toArray T) ∧ Blk W w.heap.size X T ∧ Blk W (w.heap.size + 1) Y T ∧ Below w.heap.size w W :=
  ⟨_, rfl, (Blk.new0 w X T).alloc _, Blk.new1 w _ Y T, ((Below.refl w.heap.size w).alloc (Nat.le_refl _) _).alloc (by simp) _⟩
/-- A slice's block is another's, or new. -/
def Ow (w : World) (v v' : Value) : Prop := ∀ b, v'.ownBlock = some b → v.ownBlock = some b ∨ w.heap.size ≤ b
theorem KL.frv {w w' : World} {v vo : Value} {L : List Int} (h : KL w v L) (hf : Fr (fun b => vo.ownBlock = some b) w w') (hn : ∀ b, vo.ownBlock = some b → v.ownBlock ≠ some b) : KL w' v L :=
  Row.frame h hf (fun b hb hv => hn b hv hb)
/-- Behind a store into the first of two blocks. -/
theorem st_set {w : World} {A : Nat} {cs cs' : List Value} {T : Nat} (b0 : Blk w A cs T) (b1 : Blk w (A + 1) cs' T) (hT : 31 ≠ T) (j : Nat) (v : Value) :
    ∃ W, W = w.setCell ⟨A, j, none⟩ v ∧ Blk W A (cs.set j v) T ∧ Blk W (A + 1) cs' T ∧ (∀ u L, KL w u L → KL W u L) ∧ (∀ (B : Nat) (a : World), B ≤ A → Below B a w → Below B a W) ∧ W.heap.size = w.heap.size :=
  ⟨_, rfl, b0.set j v, b1.set_ne (a := ⟨A, j, none⟩) (by show A + 1 ≠ A; omega) v, fun u L h => h.two b0 b1 hT hT ((Fr.refl _ _).setEq (.inl rfl) _), fun B a h k => below_set k h v, by simp⟩
theorem three_blocks (w : World) (X : List Value) (T : Nat) (Y : List Value) (T' : Nat) (V : List Value) (T'' : Nat) : ∃ W, W = ((w.alloc (.cells X.toArray T)).alloc (.cells Y.toArray T')).alloc (.cells V.toArray T'') ∧ Blk W w.heap.size X T ∧ Blk W (w.heap.size + 1) Y T' ∧ Blk W (w.heap.size + 1 + 1) V T'' ∧ Below w.heap.size w W :=
  ⟨_, rfl, ((Blk.new0 w X T).alloc _).alloc _, (Blk.new1 w _ Y T').alloc _, Blk.new2 w _ _ V T'', (((Below.refl w.heap.size w).alloc (Nat.le_refl _) _).alloc (by simp) _).alloc (by simp; omega) _⟩
theorem KL.lit2 (w : World) (x y : Int) : KL (w.alloc (.cells #[.int .u64 x, .int .u64 y] 31)) (.slice (some ⟨w.heap.size, 0, none⟩) 2 2) [x, y] :=
  ⟨rfl, .inr ⟨w.heap.size, 2, _, rfl, Blk.new0 w [.int .u64 x, .int .u64 y] 31, Nat.le_refl _, by decide, Nat.le_refl _, rfl⟩⟩
end Go.Proofs.Ytlakojncjldpbaa
