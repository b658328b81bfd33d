/- A range over a function that writes a variable of its own between two rounds (its block: Z): the caller's law. -/
import Derived.Test.YtddihnnodegkmaaGreatDoorBlocks
import Derived.RangeFuncNested
import Derived.RangeFuncBound
import Derived.RangeFuncCalls
import Derived.RangeFuncLeaves
import Derived.RangeFuncBox
import Derived.Shelf.Abstract
import Derived.Shelf.RegionOpen
import Derived.OwnWalkIn
import Derived.TacticsInMore
import Derived.LoopNIn
import Derived.LoopIn
namespace Go.Proofs.YtddihnnodegkmaaGreatDoor
open Go.RowKit Go.Shelf Hop
set_option linter.unusedVariables false
set_option linter.unusedSimpArgs false
section
variable {F : Fence} {n : Nat} {P : Program}
/-- Blocks of cells stay, but for Z; so does all below n₀. -/
structure Turn (n₀ Z : Nat) (W W' : World) : Prop where
  os : W'.os = W.os
  tape : W'.tape = W.tape
  output : W'.output = W.output
  size : W.heap.size ≤ W'.heap.size
  low : ∀ k, k < n₀ → k < W.heap.size → W'.heap[k]? = W.heap[k]?
  cells : ∀ k o, k ≠ Z → W.heap[k]? = some o → o.isCells = true → W'.heap[k]? = some o
/-- What a round keeps: the loop's book-keeping, and the iterator's variable. -/
structure Book (n₀ B Z : Nat) (W W' : World) : Prop where
  same : ∀ k o, B ≤ k → W.heap[k]? = some o → o.isCells = false → W'.heap[k]? = some o
  z : W'.heap[Z]? = W.heap[Z]?
  low : ∀ k, k < n₀ → k < W.heap.size → W'.heap[k]? = W.heap[k]?
  size : W.heap.size ≤ W'.heap.size
theorem turn_put {n₀ Z l : Nat} {W : World} {o o' : Obj} (hl : n₀ ≤ l) (h : W.heap[l]? = some o) (hc : o.isCells = false) : Turn n₀ Z W (W.putObj l o') :=
  ⟨rfl, rfl, rfl, by simp, fun k hk _ => World.putObj_heap_other (by omega), fun k u hk hu hcu => by
    rw [World.putObj_heap_other (by rintro rfl; rw [h] at hu; cases hu; rw [hc] at hcu; cases hcu)]; exact hu⟩
theorem turn_alloc {n₀ Z : Nat} (W : World) (o : Obj) : Turn n₀ Z W (W.alloc o) :=
  ⟨rfl, rfl, rfl, by simp, fun k _ hk => Below.heap_alloc _ _ _ hk, fun k u _ hu _ => by
    rw [Below.heap_alloc _ _ _ (Array.getElem?_eq_some_iff.1 hu).1]; exact hu⟩
theorem turn_fr {n₀ Z : Nat} {W W' : World} (hZ : n₀ ≤ Z) (h : Fr (fun k => k = Z) W W') : Turn n₀ Z W W' :=
  ⟨h.os, h.tape, h.output, h.size, fun k hk hl => h.block k hl (by omega), fun k u hk hu _ => by
    rw [h.block k (Array.getElem?_eq_some_iff.1 hu).1 hk]; exact hu⟩
/-- How a round may end: it goes on, or the function returns out of it. -/
def roundZ {α : Type} (n₀ B Z : Nat) (I Ix : List α → World → Prop) (xs : List α) (W : World) : Exit → Act → World → Prop
  | .normal, _, W' => Book n₀ B Z W W' ∧ I xs W'
  | .ret, _, W' => Book n₀ B Z W W' ∧ Ix xs W'
  | _, _, _ => False
/-- The iterator's word: S of all that came, Sp of what came until a round said no. -/
def IterZ {α : Type} (F : Fence) (n : Nat) (P : Program) (gf : Nat) (lb : Array Value) (enc : α → Value) (n₀ Z : Nat) (S Sp : List α → Prop) (N : Nat) (w : World) : Prop :=
  ∀ (l : Nat) (J Jx : List α → World → Prop) (W : World), Below w.heap.size w W → (∀ s A B, Fr (fun k => k = Z) A B → J s A → J s B) → (∀ s A B, Fr (fun k => k = Z) A B → Jx s A → Jx s B) →
    (∀ pre x W1, J pre W1 → pre.length < N → Sp (pre ++ [x]) → YieldAt F (n - 1) P l #[enc x] W1 fun e W' =>
      (e = .returned (.bool true) ∧ J (pre ++ [x]) W' ∧ W'.heap[Z]? = W1.heap[Z]? ∧ (∀ k, k < n₀ → k < W1.heap.size → W'.heap[k]? = W1.heap[k]?) ∧ W1.heap.size ≤ W'.heap.size) ∨ (e = .returned (.bool false) ∧ Jx (pre ++ [x]) W')) →
    J [] W →
    CallsIn F n P gf (#[.func (.yield l) #[] #[]] ++ lb) W fun e W' => (∃ v, e = .returned v) ∧ ((∃ xs, S xs ∧ J xs W') ∨ (∃ pre, Sp pre ∧ Jx pre W'))
theorem range_over {α : Type} {g : Operand} {p : Tmp} {assign body : Code} {Q : Exit → Act → World → Prop} {a : Act} {w : World}
    (hro : F.round = none) (h1 : 1 ≤ n) {gf : Nat} {lb : Array Value} (hg : a.eval g = .func (.func gf) #[] lb) (hFg : F.fn gf) (eg : ∀ args w, (callFunc gf args).run P w = .ok (.enter gf args) w)
    {enc : α → Value} {S Sp : List α → Prop} {N n₀ Z : Nat} (hit : IterZ F (n - 1) P gf lb enc n₀ Z S Sp N w) (hn : n₀ ≤ w.heap.size) (hZ : n₀ ≤ Z) (hZw : Z < w.heap.size)
    (I Ix : List α → World → Prop) (sI : ∀ s A B, Turn n₀ Z A B → I s A → I s B) (sIx : ∀ s A B, Turn n₀ Z A B → Ix s A → Ix s B) (h0 : I [] w) (a₁ : α → Act)
    (hassign : ∀ (l : Nat) (x : α) (W : World) (K : Act → World → Prop), K (a₁ x) W →
      assign.wpIn (F.inRound l) (n - 1 - 1) P (Exit.then K (fun _ _ _ => False)) { tmps := a.tmps.setIfInBounds p (enc x), defers := [] } W)
    (hbody : ∀ (l : Nat) (pre : List α) (x : α) (W : World), I pre W → pre.length < N → Sp (pre ++ [x]) → body.wpIn (F.inRound l) (n - 1 - 1) P (roundZ n₀ w.heap.size Z I Ix (pre ++ [x]) W) (a₁ x) W)
    (hdone : ∀ (xs : List α) (W : World), S xs → I xs W → W.heap[w.heap.size]? = some (.deferred (some [])) → Q .normal { a with defers := { target := .collected w.heap.size, args := #[] } :: a.defers } W)
    (hstop : ∀ (pre : List α) (W : World), Sp pre → Ix pre W → W.heap[w.heap.size]? = some (.deferred (some [])) → Code.ret.wpIn F n P Q { a with defers := { target := .collected w.heap.size, args := #[] } :: a.defers } W) :
    (Code.rangeFunc g #[p] assign body).wpIn F n P Q a w := by
  refine wpIn_rangeFunc fun fn hfn => ?_
  rw [hro]
  generalize hr : (fun (st : LoopState) (pe : Option Code) => ({ state := st, pending := pe, fn := fn, tmps := a.tmps, params := #[p], assign := assign, body := body, defers := w.heap.size } : Loop)) = rec
  have er : ∀ st pe, rec st pe = { state := st, pending := pe, fn := fn, tmps := a.tmps, params := #[p], assign := assign, body := body, defers := w.heap.size } := fun st pe => by rw [← hr]
  obtain ⟨V, hV⟩ : ∃ V, V = (w.alloc (.deferred (some []))).alloc (.loop (rec .ready none)) := ⟨_, rfl⟩
  have vl : V.heap[w.heap.size + 1]? = some (.loop (rec .ready none)) := by
    have := World.alloc_heap_new (w.alloc (.deferred (some []))) (.loop (rec .ready none))
    rw [World.size_alloc] at this
    rw [hV]; exact this
  have vd : V.heap[w.heap.size]? = some (.deferred (some [])) := by
    rw [hV, Below.heap_alloc _ _ _ (by simp)]; exact World.alloc_heap_new w _
  have vI : I [] V := by rw [hV]; exact sI _ _ _ (turn_alloc _ _) (sI _ _ _ (turn_alloc _ _) h0)
  have vB : Below w.heap.size w V := by rw [hV]; exact ((Below.refl _ w).alloc (Nat.le_refl _) _).alloc (by simp) _
  refine ⟨w.heap.size + 1, [{ target := .collected w.heap.size, args := #[] }], V, { target := .fn (.func gf) lb, args := #[.func (.yield (w.heap.size + 1)) #[] #[]] }, V, gf,
    #[.func (.yield (w.heap.size + 1)) #[] #[]] ++ lb, V, ?_, ?_, ?_, ?_, fun _ => h1, ?_⟩
  · rw [hV, er]; exact run_enterLoop_outer _ _ _ _ _
  · simp only [resolve, hg]
    simp [go_sem]
  · intro f' hf'
    simp [Target.leads] at hf'
    subst hf'
    exact hFg
  · simp [invoke, go_sem, eg]
  have kb : ∀ {A B : World} (k : Nat) (o : Obj), Fr (fun k => k = Z) A B → w.heap.size ≤ k → A.heap[k]? = some o → B.heap[k]? = some o := fun k o h hk ho => by
    rw [h.block k (Array.getElem?_eq_some_iff.1 ho).1 (by omega)]; exact ho
  refine (hit (w.heap.size + 1)
    (fun pre W => I pre W ∧ W.heap[w.heap.size + 1]? = some (.loop (rec .ready none)) ∧ W.heap[w.heap.size]? = some (.deferred (some [])))
    (fun pre W => Ix pre W ∧ W.heap[w.heap.size + 1]? = some (.loop (rec .done (some .ret))) ∧ W.heap[w.heap.size]? = some (.deferred (some [])))
    V vB (fun s A B h q => ⟨sI _ _ _ (turn_fr hZ h) q.1, kb _ _ h (by omega) q.2.1, kb _ _ h (Nat.le_refl _) q.2.2⟩) (fun s A B h q => ⟨sIx _ _ _ (turn_fr hZ h) q.1, kb _ _ h (by omega) q.2.1, kb _ _ h (Nat.le_refl _) q.2.2⟩)
    ?_ ⟨vI, vl, vd⟩).mono ?_
  · rintro pre x W ⟨wi, wl, wd⟩ hlen hsp
    have hy := run_yield (P := P) (args := #[enc x]) wl (by rw [er]; rfl)
    rw [er] at hy
    have hy : (Instr.yield (w.heap.size + 1) #[enc x]).run P W = .ok (.round (w.heap.size + 1) fn (a.tmps.setIfInBounds p (enc x)) assign body) W := by simpa using hy
    refine ⟨fn, _, assign, body, hy, roundIn_of_wpIn hfn (hassign _ x W _ ?_)⟩
    refine ⟨_, run_beginRound wl (by rw [er]), ?_⟩
    have hlt := (Array.getElem?_eq_some_iff.1 wl).1
    obtain ⟨U, hU⟩ : ∃ U, U = W.putObj (w.heap.size + 1) (.loop { rec .ready none with state := .busy }) := ⟨_, rfl⟩
    have ul : U.heap[w.heap.size + 1]? = some (.loop { rec .ready none with state := .busy }) := by rw [hU]; exact World.putObj_heap_same hlt
    have ud : U.heap[w.heap.size]? = some (.deferred (some [])) := by rw [hU, World.putObj_heap_other (by omega)]; exact wd
    have uz : U.heap[Z]? = W.heap[Z]? := by rw [hU]; exact World.putObj_heap_other (by omega)
    have us : U.heap.size = W.heap.size := by rw [hU]; simp
    have ui : I pre U := by rw [hU]; exact sI _ _ _ (turn_put (by omega) wl rfl) wi
    rw [← hU]
    refine wpIn_mono (hbody _ pre x U ui hlen hsp) ?_
    have fin : ∀ (j : Option Code) (X : World), Book n₀ w.heap.size Z U X →
        (Instr.endRound (w.heap.size + 1) j).run P X = .ok (.bool j.isNone) (X.putObj (w.heap.size + 1) (.loop (rec (if j.isNone then .ready else .done) j))) ∧ X.heap[w.heap.size + 1]? = some (.loop { rec .ready none with state := .busy }) ∧
        (X.putObj (w.heap.size + 1) (.loop (rec (if j.isNone then .ready else .done) j))).heap[w.heap.size + 1]? = some (.loop (rec (if j.isNone then .ready else .done) j)) ∧
        (X.putObj (w.heap.size + 1) (.loop (rec (if j.isNone then .ready else .done) j))).heap[w.heap.size]? = some (.deferred (some [])) := by
      intro j X hX
      have xl := hX.same _ _ (by omega) ul rfl
      have q := run_endRound (P := P) j xl
      refine ⟨?_, xl, World.putObj_heap_same (Array.getElem?_eq_some_iff.1 xl).1, (World.putObj_heap_other (by omega)).trans (hX.same _ _ (Nat.le_refl _) ud rfl)⟩
      rw [q, er, er]
    rintro e b X hp
    match e, hp with
    | .normal, ⟨hX, xi⟩ =>
      obtain ⟨q1, q2, q3, q4⟩ := fin none X hX
      refine ⟨_, _, q1, .inl ⟨rfl, ⟨sI _ _ _ (turn_put (by omega) q2 rfl) xi, q3, q4⟩, ?_, ?_, ?_⟩⟩
      · rw [World.putObj_heap_other (by omega), hX.z, uz]
      · intro k hk hl
        rw [World.putObj_heap_other (by omega), hX.low k hk (by omega), hU]
        exact World.putObj_heap_other (by omega)
      · rw [World.putObj_size, ← us]; exact hX.size
    | .ret, ⟨hX, xi⟩ =>
      obtain ⟨q1, q2, q3, q4⟩ := fin (some .ret) X hX
      exact ⟨_, _, q1, .inr ⟨rfl, sIx _ _ _ (turn_put (by omega) q2 rfl) xi, q3, q4⟩⟩
  · rintro e X ⟨⟨v, rfl⟩, (⟨xs, hS, xi, xl, xd⟩ | ⟨pre, hS, xi, xl, xd⟩)⟩
    · refine ⟨none, _, ?_, hdone xs _ hS (sI _ _ _ (turn_put (o' := .loop (rec .exhausted none)) (by omega) xl rfl) xi) ((World.putObj_heap_other (by omega)).trans xd)⟩
      have q := run_endLoop (P := P) xl (by rw [er]; simp)
      rw [q, er, er]
    · refine ⟨some .ret, _, ?_, hstop pre _ hS (sIx _ _ _ (turn_put (o' := .loop (rec .exhausted (some .ret))) (by omega) xl rfl) xi) ((World.putObj_heap_other (by omega)).trans xd)⟩
      have q := run_endLoop (P := P) xl (by rw [er]; simp)
      rw [q, er, er]
end
end Go.Proofs.YtddihnnodegkmaaGreatDoor
