/- The policy of adaptive replacement, on lists. -/
import Derived.Test.YtlakojncjldpbaaGreatGRef
namespace Go.Proofs.YtlakojncjldpbaaGreat
open Go.RowKit Hop
set_option linter.unusedVariables false
set_option linter.unusedSimpArgs false
set_option maxRecDepth 100000
/-- A capacity, a target, and four lists. -/
structure AS where
  c : Int
  p : Int
  t : List Int
  u : List Int
  b : List Int
  d : List Int
def evictA (s : AS) (first : Bool) : AS × List Int :=
  if first then (⟨s.c, s.p, s.t.dropLast, s.u, s.t.getLastD 0 :: wo s.b (s.t.getLastD 0), s.d⟩, [s.t.getLastD 0])
  else (⟨s.c, s.p, s.t, s.u.dropLast, s.b, s.u.getLastD 0 :: wo s.d (s.u.getLastD 0)⟩, [s.u.getLastD 0])
def firstA (s : AS) (again : Bool) : Bool := decide (s.u.length = 0) || (decide (0 < s.t.length) && (decide (s.p < (s.t.length : Int)) || (decide ((s.t.length : Int) = s.p) && again)))
def replA (s : AS) (again : Bool) : AS × List Int := if (s.t.length : Int) + s.u.length < s.c then (s, []) else evictA s (firstA s again)
def touchA (s : AS) (k : Int) : AS := if k ∈ s.t ++ s.u then ⟨s.c, s.p, wo s.t k, k :: wo s.u k, s.b, s.d⟩ else s
def knownS (s : AS) (k : Int) (again : Bool) : AS :=
  if again then ⟨s.c, max (s.p - max ((s.b.length : Int) / s.d.length) 1) 0, s.t, s.u, s.b, wo s.d k⟩
  else ⟨s.c, min (s.p + max ((s.d.length : Int) / s.b.length) 1) s.c, s.t, s.u, wo s.b k, s.d⟩
def knownA (s : AS) (k : Int) (again : Bool) : AS × List Int :=
  let r := replA (knownS s k again) again
  (⟨r.1.c, r.1.p, r.1.t, k :: wo r.1.u k, r.1.b, r.1.d⟩, r.2)
def freshA (s : AS) : AS × List Int :=
  if s.c ≤ (s.t.length : Int) + s.b.length then
    if (s.t.length : Int) < s.c then replA ⟨s.c, s.p, s.t, s.u, s.b.dropLast, s.d⟩ false
    else (⟨s.c, s.p, s.t.dropLast, s.u, s.b, s.d⟩, [s.t.getLastD 0])
  else if (s.t.length : Int) + s.u.length + s.b.length + s.d.length < s.c then (s, [])
  else if 2 * s.c ≤ (s.t.length : Int) + s.u.length + s.b.length + s.d.length ∧ 0 < s.d.length then replA ⟨s.c, s.p, s.t, s.u, s.b, s.d.dropLast⟩ false
  else replA s false
def admitA (s : AS) (k : Int) : AS × List Int :=
  if k ∈ s.t ++ s.u then (s, [])
  else if k ∈ s.b then knownA s k false
  else if k ∈ s.d then knownA s k true
  else
    let r := freshA s
    (⟨r.1.c, r.1.p, k :: wo r.1.t k, r.1.u, r.1.b, r.1.d⟩, r.2)
def dropA (s : AS) (k : Int) : AS := ⟨s.c, s.p, wo s.t k, wo s.u k, wo s.b k, wo s.d k⟩
def manyA (s : AS) : Bool := decide (s.p < (s.t.length : Int)) || decide (s.u.length = 0)
def shrA : Nat → AS → AS × List Int
  | 0, s => (s, [])
  | f + 1, s => if (s.t.length : Int) + s.u.length ≤ s.c then (s, []) else ((shrA f (evictA s (manyA s)).1).1, (evictA s (manyA s)).2 ++ (shrA f (evictA s (manyA s)).1).2)
def cutB (s : AS) : AS := ⟨s.c, s.p, s.t, s.u, s.b.take (s.c - s.t.length).toNat, s.d⟩
def cutD (s : AS) : AS := ⟨s.c, s.p, s.t, s.u, s.b, s.d.take (s.c - s.b.length).toNat⟩
def cutE (s : AS) : AS := ⟨s.c, s.p, s.t, s.u, s.b.take (s.c - s.d.length).toNat, s.d⟩
def resizeA (s : AS) (n : Int) : AS × List Int :=
  let r := shrA (s.t.length + s.u.length) ⟨capF n, min s.p (capF n), s.t, s.u, s.b, s.d⟩
  (cutE (cutD (cutB r.1)), r.2)
def doA (s : AS) (a : Ac) : AS × List Int :=
  let k := kindF a.kind (decide (a.key ∈ s.t ++ s.u))
  if k = 1 then (touchA s a.key, [])
  else if k = 2 then admitA s a.key
  else if k = 3 then (dropA s a.key, [])
  else resizeA s (sizeF a.n)
structure AS.ok (s : AS) : Prop where
  lo : 1 ≤ s.c
  hi : s.c ≤ 14
  p0 : 0 ≤ s.p
  p1 : s.p ≤ s.c
  tu : (s.t.length : Int) + s.u.length ≤ s.c
  al : (s.t.length : Int) + s.u.length + s.b.length + s.d.length ≤ 2 * s.c
theorem snoc_of_ne {L : List Int} (h : L ≠ []) : ∃ A x, L = A ++ [x] := by
  rcases List.eq_nil_or_concat L with h' | ⟨A, x, h'⟩
  · exact absurd h' h
  · exact ⟨A, x, by rw [h', List.concat_eq_append]⟩
theorem snoc_of_pos {L : List Int} (h : 0 < L.length) : ∃ A x, L = A ++ [x] := snoc_of_ne (by rintro rfl; simp at h)
theorem evictA_t (c p : Int) (t : List Int) (x : Int) (u b d : List Int) : evictA ⟨c, p, t ++ [x], u, b, d⟩ true = (⟨c, p, t, u, x :: wo b x, d⟩, [x]) := by
  unfold evictA
  simp
theorem evictA_u (c p : Int) (t u : List Int) (x : Int) (b d : List Int) : evictA ⟨c, p, t, u ++ [x], b, d⟩ false = (⟨c, p, t, u, b, x :: wo d x⟩, [x]) := by
  unfold evictA
  simp
/-- What is evicted is there. -/
def evok (s : AS) (first : Bool) : Prop := if first then 0 < s.t.length else 0 < s.u.length
theorem evictA_cases (s : AS) (f : Bool) (h : evok s f) :
    (f = true ∧ ∃ t x, s.t = t ++ [x] ∧ evictA s f = (⟨s.c, s.p, t, s.u, x :: wo s.b x, s.d⟩, [x])) ∨ (f = false ∧ ∃ u x, s.u = u ++ [x] ∧ evictA s f = (⟨s.c, s.p, s.t, u, s.b, x :: wo s.d x⟩, [x])) := by
  obtain ⟨c, p, t, u, b, d⟩ := s
  cases f with
  | true =>
    obtain ⟨t, x, rfl⟩ := snoc_of_pos (L := t) h
    exact .inl ⟨rfl, t, x, rfl, evictA_t c p t x u b d⟩
  | false =>
    obtain ⟨u, x, rfl⟩ := snoc_of_pos (L := u) h
    exact .inr ⟨rfl, u, x, rfl, evictA_u c p t u x b d⟩
theorem evok_first {s : AS} {again : Bool} (hc : 1 ≤ s.c) (h : ¬ (s.t.length : Int) + s.u.length < s.c) : evok s (firstA s again) := by
  unfold evok
  by_cases h0 : s.u.length = 0
  · have e : firstA s again = true := by unfold firstA; rw [decide_eq_true h0]; rfl
    rw [e, if_pos rfl]
    omega
  · split
    · rename_i h1
      unfold firstA at h1
      rw [decide_eq_false h0] at h1
      simp at h1
      exact h1.1
    · omega
theorem evok_many {s : AS} (hc : 1 ≤ s.c) (hp : 0 ≤ s.p) (h : ¬ (s.t.length : Int) + s.u.length ≤ s.c) : evok s (manyA s) := by
  unfold evok
  by_cases h0 : s.u.length = 0
  · have e : manyA s = true := by unfold manyA; rw [decide_eq_true h0, Bool.or_true]
    rw [e, if_pos rfl]
    omega
  · split
    · rename_i h1
      unfold manyA at h1
      rw [decide_eq_false h0, Bool.or_false, decide_eq_true_eq] at h1
      omega
    · omega
theorem cons_wo_len' {L : List Int} {k : Int} : (k :: wo L k).length ≤ L.length + 1 := by
  have := wo_len L k
  simp only [List.length_cons]
  omega
theorem wo_mem_len {L : List Int} {k : Int} (h : k ∈ L) : (wo L k).length + 1 ≤ L.length := by
  have h1 : wo L k ≠ L := fun e => by
    have : k ∈ wo L k := by rw [e]; exact h
    exact (mem_wo.1 this).2 rfl
  have h2 := wo_len L k
  have h3 : (wo L k).length ≠ L.length := fun e => h1 (List.filter_eq_self.2 (List.length_filter_eq_length_iff.1 e))
  omega
/-- An eviction, by the lengths alone. -/
theorem evictA_len (s : AS) (f : Bool) (h : evok s f) : (evictA s f).1.c = s.c ∧ (evictA s f).1.p = s.p ∧ (evictA s f).1.t.length + (evictA s f).1.u.length + 1 = s.t.length + s.u.length ∧
    (evictA s f).1.t.length + (evictA s f).1.u.length + (evictA s f).1.b.length + (evictA s f).1.d.length ≤ s.t.length + s.u.length + s.b.length + s.d.length ∧ (evictA s f).2.length = 1 := by
  rcases evictA_cases s f h with ⟨rfl, t, x, e1, e2⟩ | ⟨rfl, u, x, e1, e2⟩
  · rw [e2, e1]
    have := wo_len s.b x
    simp only [List.length_append, List.length_cons, List.length_nil]
    exact ⟨trivial, trivial, by omega, by omega, trivial⟩
  · rw [e2, e1]
    have := wo_len s.d x
    simp only [List.length_append, List.length_cons, List.length_nil]
    exact ⟨trivial, trivial, by omega, by omega, trivial⟩
theorem replA_len (s : AS) (again : Bool) (hc : 1 ≤ s.c) (hb : (s.t.length : Int) + s.u.length ≤ s.c) : (replA s again).1.c = s.c ∧ (replA s again).1.p = s.p ∧ ((replA s again).1.t.length : Int) + (replA s again).1.u.length ≤ s.c - 1 ∧
    (replA s again).1.t.length + (replA s again).1.u.length + (replA s again).1.b.length + (replA s again).1.d.length ≤ s.t.length + s.u.length + s.b.length + s.d.length := by
  unfold replA
  split
  · exact ⟨rfl, rfl, by simp only; omega, by simp only; omega⟩
  · rename_i h
    obtain ⟨a1, a2, a3, a4, a5⟩ := evictA_len s (firstA s again) (evok_first hc h)
    exact ⟨a1, a2, by omega, a4⟩
theorem touchA_ok {s : AS} {k : Int} (h : s.ok) : (touchA s k).ok := by
  obtain ⟨h1, h2, h3, h4, h5, h6⟩ := h
  unfold touchA
  split
  · rename_i hk
    have a1 := wo_len s.t k
    have a2 := wo_len s.u k
    rcases List.mem_append.1 hk with hk | hk
    · have a3 := wo_mem_len hk
      exact ⟨h1, h2, h3, h4, by simp only [List.length_cons]; omega, by simp only [List.length_cons]; omega⟩
    · have a3 := wo_mem_len hk
      exact ⟨h1, h2, h3, h4, by simp only [List.length_cons]; omega, by simp only [List.length_cons]; omega⟩
  · exact ⟨h1, h2, h3, h4, h5, h6⟩
theorem dropA_ok {s : AS} {k : Int} (h : s.ok) : (dropA s k).ok := by
  obtain ⟨h1, h2, h3, h4, h5, h6⟩ := h
  have a1 := wo_len s.t k
  have a2 := wo_len s.u k
  have a3 := wo_len s.b k
  have a4 := wo_len s.d k
  exact ⟨h1, h2, h3, h4, by simp only [dropA]; omega, by simp only [dropA]; omega⟩
theorem knownA_ok {s : AS} {k : Int} {again : Bool} (h : s.ok) (hk : if again then k ∈ s.d else k ∈ s.b) : (knownA s k again).1.ok ∧ (knownS s k again).c = s.c ∧ 0 ≤ (knownS s k again).p ∧ (knownS s k again).p ≤ s.c := by
  obtain ⟨h1, h2, h3, h4, h5, h6⟩ := h
  have hs : (knownS s k again).c = s.c ∧ 0 ≤ (knownS s k again).p ∧ (knownS s k again).p ≤ s.c ∧ (knownS s k again).t = s.t ∧ (knownS s k again).u = s.u ∧ (knownS s k again).b.length + (knownS s k again).d.length + 1 ≤ s.b.length + s.d.length := by
    unfold knownS
    cases again with
    | true =>
      have := wo_mem_len (L := s.d) (k := k) hk
      exact ⟨rfl, by simp only [if_true]; omega, by simp only [if_true]; omega, rfl, rfl, by simp only [if_true]; omega⟩
    | false =>
      have := wo_mem_len (L := s.b) (k := k) hk
      refine ⟨rfl, ?_, ?_, rfl, rfl, by simp only [Bool.false_eq_true, if_false]; omega⟩
      · simp only [Bool.false_eq_true, if_false]; omega
      · simp only [Bool.false_eq_true, if_false]; omega
  obtain ⟨e1, e2, e3, e4, e5, e6⟩ := hs
  obtain ⟨r1, r2, r3, r4⟩ := replA_len (knownS s k again) again (by omega) (by rw [e1, e4, e5]; exact h5)
  have a := cons_wo_len' (L := (replA (knownS s k again) again).1.u) (k := k)
  rw [e4, e5] at r4
  refine ⟨⟨?_, ?_, ?_, ?_, ?_, ?_⟩, e1, e2, e3⟩
  all_goals unfold knownA; simp only
  · omega
  · omega
  · omega
  · omega
  · omega
  · omega
theorem freshA_len (s : AS) (h : s.ok) : (freshA s).1.c = s.c ∧ (freshA s).1.p = s.p ∧ ((freshA s).1.t.length : Int) + (freshA s).1.u.length ≤ s.c - 1 ∧
    ((freshA s).1.t.length : Int) + (freshA s).1.u.length + (freshA s).1.b.length + (freshA s).1.d.length ≤ 2 * s.c - 1 := by
  obtain ⟨h1, h2, h3, h4, h5, h6⟩ := h
  unfold freshA
  split
  · split
    · rename_i g1 g2
      obtain ⟨r1, r2, r3, r4⟩ := replA_len ⟨s.c, s.p, s.t, s.u, s.b.dropLast, s.d⟩ false h1 h5
      simp only [List.length_dropLast] at r1 r2 r3 r4
      exact ⟨r1, r2, r3, by omega⟩
    · refine ⟨rfl, rfl, ?_, ?_⟩ <;> simp only [List.length_dropLast] <;> omega
  · split
    · exact ⟨rfl, rfl, by simp only; omega, by simp only; omega⟩
    · split
      · rename_i g1 g2 g3
        obtain ⟨r1, r2, r3, r4⟩ := replA_len ⟨s.c, s.p, s.t, s.u, s.b, s.d.dropLast⟩ false h1 h5
        simp only [List.length_dropLast] at r1 r2 r3 r4
        exact ⟨r1, r2, r3, by omega⟩
      · rename_i g1 g2 g3
        obtain ⟨r1, r2, r3, r4⟩ := replA_len s false h1 h5
        exact ⟨r1, r2, r3, by omega⟩
theorem admitA_ok {s : AS} {k : Int} (h : s.ok) : (admitA s k).1.ok := by
  unfold admitA
  split
  · exact h
  · split
    · rename_i g1 g2
      exact (knownA_ok (again := false) h (by simpa using g2)).1
    · split
      · rename_i g1 g2 g3
        exact (knownA_ok (again := true) h (by simpa using g3)).1
      · obtain ⟨r1, r2, r3, r4⟩ := freshA_len s h
        obtain ⟨h1, h2, h3, h4, h5, h6⟩ := h
        have a := cons_wo_len' (L := (freshA s).1.t) (k := k)
        refine ⟨?_, ?_, ?_, ?_, ?_, ?_⟩ <;> simp only <;> omega
theorem shrA_len : ∀ (f : Nat) (s : AS), 1 ≤ s.c → 0 ≤ s.p → s.t.length + s.u.length ≤ f → (shrA f s).1.c = s.c ∧ (shrA f s).1.p = s.p ∧ ((shrA f s).1.t.length : Int) + (shrA f s).1.u.length ≤ s.c := by
  intro f
  induction f with
  | zero =>
    intro s h1 h2 h3
    exact ⟨rfl, rfl, by simp only [shrA]; omega⟩
  | succ f ih =>
    intro s h1 h2 h3
    unfold shrA
    split
    · rename_i h
      exact ⟨rfl, rfl, h⟩
    · rename_i h
      obtain ⟨a1, a2, a3, a4, a5⟩ := evictA_len s (manyA s) (evok_many h1 h2 h)
      obtain ⟨b1, b2, b3⟩ := ih (evictA s (manyA s)).1 (by omega) (by omega) (by omega)
      exact ⟨by simp only; omega, by simp only; omega, by simp only; omega⟩
theorem resizeA_ok {s : AS} {n : Int} (hn : 1 ≤ capF n ∧ capF n ≤ 14) (hp : 0 ≤ s.p) : (resizeA s n).1.ok := by
  obtain ⟨a1, a2, a3⟩ := shrA_len (s.t.length + s.u.length) ⟨capF n, min s.p (capF n), s.t, s.u, s.b, s.d⟩ hn.1 (by simp only; omega) (Nat.le_refl _)
  simp only at a1 a2 a3
  unfold resizeA
  simp only
  generalize (shrA (s.t.length + s.u.length) ⟨capF n, min s.p (capF n), s.t, s.u, s.b, s.d⟩).1 = r at *
  refine ⟨?_, ?_, ?_, ?_, ?_, ?_⟩ <;> simp only [cutE, cutD, cutB, List.length_take] <;> omega
theorem doA_ok {s : AS} {x : Ac} (h : s.ok) (hx : x.ok) : (doA s x).1.ok := by
  have hz := sizeF_in hx.2.2.1
  have hc := capF_id hz
  unfold doA
  simp only
  split
  · exact touchA_ok h
  · split
    · exact admitA_ok h
    · split
      · exact dropA_ok h
      · exact resizeA_ok (by rw [hc]; exact hz) h.p0
end Go.Proofs.YtlakojncjldpbaaGreat
