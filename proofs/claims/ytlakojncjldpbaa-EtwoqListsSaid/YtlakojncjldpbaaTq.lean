/- The policy of two queues, on lists. -/
import Derived.Test.YtlakojncjldpbaaGRef
namespace Go.Proofs.Ytlakojncjldpbaa
open Go.RowKit Hop
set_option linter.unusedVariables false
set_option linter.unusedSimpArgs false
set_option maxRecDepth 100000
/-- A capacity, and the keys that came in, that went out, and that came again. -/
structure TS where
  c : Int
  i : List Int
  o : List Int
  m : List Int
def kinT (c : Int) : Int := max (c / 4) 1
def reclT (s : TS) : TS × Int :=
  if kinT s.c < (s.i.length : Int) ∨ s.m = [] then (⟨s.c, s.i.dropLast, (s.i.getLastD 0 :: wo s.o (s.i.getLastD 0)).take (s.c / 2).toNat, s.m⟩, s.i.getLastD 0)
  else (⟨s.c, s.i, s.o, s.m.dropLast⟩, s.m.getLastD 0)
def shrT (n : Int) : Nat → TS → TS × List Int
  | 0, s => (s, [])
  | f + 1, s => if (s.i.length : Int) + s.m.length ≤ n then (s, []) else ((shrT n f (reclT s).1).1, (reclT s).2 :: (shrT n f (reclT s).1).2)
theorem reclT_in (c : Int) (i : List Int) (x : Int) (o m : List Int) (h : kinT c < ((i ++ [x]).length : Int) ∨ m = []) : reclT ⟨c, i ++ [x], o, m⟩ = (⟨c, i, (x :: wo o x).take (c / 2).toNat, m⟩, x) := by
  unfold reclT
  simp only
  rw [if_pos h]
  simp
theorem reclT_main (c : Int) (i o m : List Int) (x : Int) (h : ¬ kinT c < (i.length : Int)) : reclT ⟨c, i, o, m ++ [x]⟩ = (⟨c, i, o, m⟩, x) := by
  unfold reclT
  simp only
  rw [if_neg (by rintro (h' | h'); exact h h'; simp at h')]
  simp
theorem snoc_of_ne {L : List Int} (h : L ≠ []) : ∃ A x, L = A ++ [x] := by
  rcases List.eq_nil_or_concat L with h' | ⟨A, x, h'⟩
  · exact absurd h' h
  · exact ⟨A, x, by rw [h', List.concat_eq_append]⟩
/-- What a round of reclaiming does. -/
theorem recl_cases (c : Int) (i o m : List Int) (h : 0 < i.length + m.length) :
    (∃ i' x, i = i' ++ [x] ∧ (kinT c < (i.length : Int) ∨ m = []) ∧ reclT ⟨c, i, o, m⟩ = (⟨c, i', (x :: wo o x).take (c / 2).toNat, m⟩, x)) ∨
    (∃ m' x, m = m' ++ [x] ∧ ¬ kinT c < (i.length : Int) ∧ reclT ⟨c, i, o, m⟩ = (⟨c, i, o, m'⟩, x)) := by
  by_cases hc : kinT c < (i.length : Int) ∨ m = []
  · have hi : i ≠ [] := by
      rintro rfl
      rcases hc with hc | rfl
      · have : 1 ≤ kinT c := by unfold kinT; omega
        simp at hc; omega
      · simp at h
    obtain ⟨i', x, rfl⟩ := snoc_of_ne hi
    exact .inl ⟨i', x, rfl, hc, reclT_in c i' x o m hc⟩
  · have hm : m ≠ [] := fun e => hc (.inr e)
    obtain ⟨m', x, rfl⟩ := snoc_of_ne hm
    exact .inr ⟨m', x, rfl, fun h => hc (.inl h), reclT_main c i o m' x (fun h => hc (.inl h))⟩
theorem shrT_end (n : Int) (f : Nat) (c : Int) (i o m : List Int) (h : (i.length : Int) + m.length ≤ n) : shrT n f ⟨c, i, o, m⟩ = (⟨c, i, o, m⟩, []) := by
  cases f with
  | zero => rfl
  | succ f => unfold shrT; rw [if_pos h]
theorem shrT_go (n : Int) (f : Nat) (s : TS) (h : ¬ (s.i.length : Int) + s.m.length ≤ n) : shrT n (f + 1) s = ((shrT n f (reclT s).1).1, (reclT s).2 :: (shrT n f (reclT s).1).2) := by
  conv => lhs; unfold shrT
  rw [if_neg h]
/-- What is left behind a shrink. -/
theorem shrT_props (n c : Int) (hn : 0 ≤ n) : ∀ (f : Nat) (i o m : List Int), i.length + m.length = f →
    (shrT n f ⟨c, i, o, m⟩).1.c = c ∧ (((shrT n f ⟨c, i, o, m⟩).1.i.length : Int) + (shrT n f ⟨c, i, o, m⟩).1.m.length ≤ n) ∧
    (∀ x ∈ (shrT n f ⟨c, i, o, m⟩).1.i, x ∈ i) ∧ (∀ x ∈ (shrT n f ⟨c, i, o, m⟩).1.m, x ∈ m) ∧ (∀ x ∈ (shrT n f ⟨c, i, o, m⟩).1.o, x ∈ o ∨ x ∈ i) ∧
    (shrT n f ⟨c, i, o, m⟩).1.o.length ≤ max o.length (c / 2).toNat ∧ (shrT n f ⟨c, i, o, m⟩).2.length ≤ f := by
  intro f
  induction f with
  | zero =>
    intro i o m hf
    have h1 : i = [] := List.eq_nil_of_length_eq_zero (by omega)
    have h2 : m = [] := List.eq_nil_of_length_eq_zero (by omega)
    subst h1; subst h2
    refine ⟨rfl, by simpa [shrT] using hn, fun x hx => hx, fun x hx => hx, fun x hx => .inl hx, by simp only [shrT]; omega, by simp [shrT]⟩
  | succ f ih =>
    intro i o m hf
    by_cases h : (i.length : Int) + m.length ≤ n
    · rw [shrT_end n _ c i o m h]
      exact ⟨rfl, h, fun x hx => hx, fun x hx => hx, fun x hx => .inl hx, by simp only; omega, by simp⟩
    · rw [shrT_go n f ⟨c, i, o, m⟩ h]
      rcases recl_cases c i o m (by omega) with ⟨i', x, rfl, _, e⟩ | ⟨m', x, rfl, _, e⟩
      · rw [e]
        simp only
        obtain ⟨a1, a2, a3, a4, a5, a6, a7⟩ := ih i' ((x :: wo o x).take (c / 2).toNat) m (by simp at hf; omega)
        refine ⟨a1, a2, fun y hy => List.mem_append_left _ (a3 y hy), a4, fun y hy => ?_, ?_, by simp; omega⟩
        · rcases a5 y hy with h | h
          · rcases List.mem_cons.1 (List.mem_of_mem_take h) with rfl | h
            · exact .inr (by simp)
            · exact .inl (mem_wo.1 h).1
          · exact .inr (List.mem_append_left _ h)
        · have : ((x :: wo o x).take (c / 2).toNat).length ≤ (c / 2).toNat := by rw [List.length_take]; omega
          omega
      · rw [e]
        simp only
        obtain ⟨a1, a2, a3, a4, a5, a6, a7⟩ := ih i o m' (by simp at hf; omega)
        exact ⟨a1, a2, a3, fun y hy => List.mem_append_left _ (a4 y hy), a5, a6, by simp; omega⟩
def touchT (s : TS) (k : Int) : TS := if k ∈ s.m then ⟨s.c, s.i, s.o, k :: wo s.m k⟩ else s
def admitT (s : TS) (k : Int) : TS × List Int :=
  if k ∈ s.i ++ s.m then (s, [])
  else
    let r := shrT (s.c - 1) (s.i.length + s.m.length) ⟨s.c, s.i, wo s.o k, s.m⟩
    if k ∈ s.o then (⟨s.c, r.1.i, r.1.o, k :: wo r.1.m k⟩, r.2) else (⟨s.c, k :: wo r.1.i k, r.1.o, r.1.m⟩, r.2)
def dropT (s : TS) (k : Int) : TS := ⟨s.c, wo s.i k, wo s.o k, wo s.m k⟩
def resizeT (s : TS) (n : Int) : TS × List Int :=
  let r := shrT (capF n) (s.i.length + s.m.length) ⟨capF n, s.i, s.o, s.m⟩
  (⟨capF n, r.1.i, r.1.o.take (capF n / 2).toNat, r.1.m⟩, r.2)
def doT (s : TS) (a : Ac) : TS × List Int :=
  let k := kindF a.kind (decide (a.key ∈ s.i ++ s.m))
  if k = 1 then (touchT s a.key, [])
  else if k = 2 then admitT s a.key
  else if k = 3 then (dropT s a.key, [])
  else resizeT s (sizeF a.n)
structure TS.ok (s : TS) : Prop where
  lo : 1 ≤ s.c
  hi : s.c ≤ 14
  im : (s.i.length : Int) + s.m.length ≤ s.c
  ou : (s.o.length : Int) ≤ s.c / 2
theorem cons_wo_len {L : List Int} {k : Int} (h : k ∈ L) : (k :: wo L k).length ≤ L.length := by
  have h1 : wo L k ≠ L := fun e => by
    have : k ∈ wo L k := by rw [e]; exact h
    exact (mem_wo.1 this).2 rfl
  have h2 := wo_len L k
  have h3 : (wo L k).length ≠ L.length := fun e => h1 (List.filter_eq_self.2 (List.length_filter_eq_length_iff.1 e))
  simp only [List.length_cons]
  omega
theorem touchT_ok {s : TS} {k : Int} (h : s.ok) : (touchT s k).ok := by
  unfold touchT
  split
  · rename_i hk
    have := cons_wo_len hk
    have h3 := h.im
    exact ⟨h.lo, h.hi, by simp only at *; omega, h.ou⟩
  · exact h
theorem dropT_ok {s : TS} {k : Int} (h : s.ok) : (dropT s k).ok := by
  have h1 := wo_len s.i k
  have h2 := wo_len s.o k
  have h3 := wo_len s.m k
  have h4 := h.im
  have h5 := h.ou
  exact ⟨h.lo, h.hi, by simp only [dropT]; omega, by simp only [dropT]; omega⟩
theorem admitT_ok {s : TS} {k : Int} (h : s.ok) : (admitT s k).1.ok := by
  have g1 := h.lo
  have g2 := h.ou
  obtain ⟨a1, a2, a3, a4, a5, a6, a7⟩ := shrT_props (s.c - 1) s.c (by omega) (s.i.length + s.m.length) s.i (wo s.o k) s.m rfl
  have h2 := wo_len s.o k
  unfold admitT
  split
  · exact h
  · simp only
    generalize shrT (s.c - 1) (s.i.length + s.m.length) ⟨s.c, s.i, wo s.o k, s.m⟩ = r at *
    split
    · have h1 := wo_len r.1.m k
      exact ⟨h.lo, h.hi, by simp only [List.length_cons]; omega, by simp only; omega⟩
    · have h1 := wo_len r.1.i k
      exact ⟨h.lo, h.hi, by simp only [List.length_cons]; omega, by simp only; omega⟩
theorem resizeT_ok {s : TS} {n : Int} (hn : 1 ≤ capF n ∧ capF n ≤ 14) : (resizeT s n).1.ok := by
  obtain ⟨a1, a2, a3, a4, a5, a6, a7⟩ := shrT_props (capF n) (capF n) (by omega) (s.i.length + s.m.length) s.i s.o s.m rfl
  unfold resizeT
  simp only
  exact ⟨hn.1, hn.2, a2, by simp only [List.length_take]; omega⟩
theorem doT_ok {s : TS} {x : Ac} (h : s.ok) (hx : x.ok) : (doT s x).1.ok := by
  have hz := sizeF_in hx.2.2.1
  have hc := capF_id hz
  unfold doT
  simp only
  split
  · exact touchT_ok h
  · split
    · exact admitT_ok h
    · split
      · exact dropT_ok h
      · exact resizeT_ok (by rw [hc]; exact hz)
end Go.Proofs.Ytlakojncjldpbaa
