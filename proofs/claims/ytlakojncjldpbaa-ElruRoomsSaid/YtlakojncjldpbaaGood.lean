/- A store that is as it should be: arena, lists and table agree. Plain lists; no program in sight. -/
import Derived.Test.YtlakojncjldpbaaAll
namespace Go.Proofs.Ytlakojncjldpbaa
open Go.RowKit Hop
set_option linter.unusedVariables false
set_option linter.unusedSimpArgs false
/-- The arena: which slots are free. -/
structure AI (S : List Sl) (freed : List Int) (next : Int) (n : Nat) : Prop where
  lo : 1 ≤ next
  hi : next ≤ S.length
  tk : ∀ i, isT S i = true → i < next
  fr : ∀ i ∈ freed, 0 < i ∧ i < next ∧ isT S i = false
  nd : freed.Nodup
  cn : (freed.length : Int) + n + 1 = next
theorem isT_st {S : List Sl} {i : Int} {x : Sl} (h0 : 0 < i) (h1 : i < S.length) (j : Int) : isT (st S i x) j = if j = i then x.taken else isT S j := by
  by_cases hj : 0 < j
  · have e : (sg (st S i x) j).taken = if i = j then x.taken else (sg S j).taken := by
      show (gt (st S i x) j Sl.z).taken = _
      rw [gt_st _ _ (by omega) h1 (by omega)]
      split <;> rfl
    unfold isT
    rw [st_length, e]
    by_cases hij : j = i
    · subst hij
      simp [h0, h1]
    · rw [if_neg (by omega), if_neg hij]
  · have hne : j ≠ i := by omega
    rw [if_neg hne]
    unfold isT
    simp [hj]
theorem ndT_st {S : List Sl} {i : Int} {x : Nd} (h0 : 0 < i) (h1 : i < S.length) (j : Int) : ndT (st S i ⟨x, true⟩) j = if j = i then x else ndT S j := by
  unfold ndT
  rw [isT_st h0 h1]
  by_cases hij : j = i
  · subst hij
    rw [if_pos rfl, if_pos rfl, if_pos rfl]
    show (gt (st S j _) j Sl.z).nd = x
    rw [gt_st_same _ _ (by omega) h1]
  · rw [if_neg hij, if_neg hij]
    by_cases ht : isT S j = true
    · rw [if_pos ht, if_pos ht]
      have := isT_lt ht
      show (gt (st S i _) j Sl.z).nd = _
      rw [gt_st_ne _ _ (by omega) (by omega) (by omega)]
    · rw [if_neg ht, if_neg ht]
theorem ndT_stz {S : List Sl} {i : Int} (h0 : 0 < i) (h1 : i < S.length) (j : Int) (hj : j ≠ i) : ndT (st S i Sl.z) j = ndT S j := by
  unfold ndT
  rw [isT_st h0 h1, if_neg hj]
  by_cases ht : isT S j = true
  · rw [if_pos ht, if_pos ht]
    have := isT_lt ht
    show (gt (st S i _) j Sl.z).nd = _
    rw [gt_st_ne _ _ (by omega) (by omega) (by omega)]
  · rw [if_neg ht, if_neg ht]
theorem gt_append {α : Type} (l : List α) (n : Nat) (z : α) (j : Int) : gt (l ++ List.replicate n z) j z = gt l j z := by
  unfold gt
  simp only [List.getD_eq_getElem?_getD]
  rcases Nat.lt_or_ge j.toNat l.length with h | h
  · rw [List.getElem?_append_left h]
  · rw [List.getElem?_append_right h, List.getElem?_eq_none h, List.getElem?_replicate]
    split <;> rfl
theorem isT_more (S : List Sl) (n : Nat) (j : Int) : isT (S ++ List.replicate n Sl.z) j = isT S j := by
  unfold isT
  show (decide (0 < j) && (decide (j < ((S ++ List.replicate n Sl.z).length : Int)) && (gt (S ++ List.replicate n Sl.z) j Sl.z).taken)) = (decide (0 < j) && (decide (j < (S.length : Int)) && (gt S j Sl.z).taken))
  rw [gt_append]
  by_cases h0 : 0 < j
  · by_cases h1 : j < S.length
    · have : j < ((S ++ List.replicate n Sl.z).length : Int) := by simp; omega
      simp only [h1, this]
    · have e : gt S j Sl.z = Sl.z := by unfold gt; rw [List.getD_eq_getElem?_getD, List.getElem?_eq_none (by omega)]; rfl
      rw [e]
      simp [Sl.z]
  · simp [h0]
theorem ndT_more (S : List Sl) (n : Nat) (j : Int) : ndT (S ++ List.replicate n Sl.z) j = ndT S j := by
  unfold ndT
  rw [isT_more]
  show (if isT S j = true then (gt (S ++ List.replicate n Sl.z) j Sl.z).nd else Nd.z) = _
  rw [gt_append]
/-- What a store is behind a slot taken. -/
structure Took (S S1 : List Sl) (i : Int) : Prop where
  lo : 0 < i
  hi : i < S1.length
  was : isT S i = false
  tk : ∀ j, isT S1 j = if j = i then true else isT S j
  nd : ∀ j, ndT S1 j = if j = i then Nd.z else ndT S j
theorem AI.freed {S : List Sl} {fs : List Int} {i next : Int} {n : Nat} (A : AI S (fs ++ [i]) next n) : AI (st S i ⟨Nd.z, true⟩) fs next (n + 1) ∧ Took S (st S i ⟨Nd.z, true⟩) i := by
  obtain ⟨lo, hi, tk, fr, nd, cn⟩ := A
  obtain ⟨f0, f1, f2⟩ := fr i (by simp)
  have hl : i < S.length := by omega
  have key := fun j => isT_st (x := ⟨Nd.z, true⟩) f0 hl j
  have nd' := List.nodup_append.1 nd
  refine ⟨⟨lo, by rw [st_length]; exact hi, ?_, ?_, nd'.1, ?_⟩, ⟨f0, by rw [st_length]; exact hl, f2, key, fun j => ndT_st f0 hl j⟩⟩
  · intro j hj
    rw [key] at hj
    split at hj
    · omega
    · exact tk j hj
  · intro j hj
    obtain ⟨g0, g1, g2⟩ := fr j (by simp [hj])
    have hne : j ≠ i := fun e => nd'.2.2 j hj i (by simp) e
    rw [key, if_neg hne]
    exact ⟨g0, g1, g2⟩
  · rw [List.length_append, List.length_singleton] at cn
    omega
theorem AI.room {S : List Sl} {next : Int} {n : Nat} (A : AI S [] next n) (h : next < S.length) : AI (st S next ⟨Nd.z, true⟩) [] (next + 1) (n + 1) ∧ Took S (st S next ⟨Nd.z, true⟩) next := by
  obtain ⟨lo, hi, tk, fr, nd, cn⟩ := A
  have key := fun j => isT_st (x := ⟨Nd.z, true⟩) (by omega : 0 < next) h j
  have hw : isT S next = false := by
    cases hq : isT S next with
    | false => rfl
    | true => have := tk next hq; omega
  refine ⟨⟨by omega, by rw [st_length]; omega, ?_, (by intro i hi; cases hi), nd, ?_⟩, ⟨by omega, by rw [st_length]; exact h, hw, key, fun j => ndT_st (by omega) h j⟩⟩
  · intro j hj
    rw [key] at hj
    split at hj
    · omega
    · have := tk j hj; omega
  · simp at cn ⊢; omega
theorem AI.more {S : List Sl} {fs : List Int} {next : Int} {n m : Nat} (A : AI S fs next n) : AI (S ++ List.replicate m Sl.z) fs next n := by
  obtain ⟨lo, hi, tk, fr, nd, cn⟩ := A
  exact ⟨lo, by rw [List.length_append]; omega, fun i h => tk i (by rw [isT_more] at h; exact h), fun i h => by rw [isT_more]; exact fr i h, nd, cn⟩
theorem AI.free {S : List Sl} {fs : List Int} {next i : Int} {n : Nat} (A : AI S fs next (n + 1)) (hi : isT S i = true) : AI (st S i Sl.z) (fs ++ [i]) next n ∧ (∀ j, isT (st S i Sl.z) j = if j = i then false else isT S j) ∧ (∀ j, j ≠ i → ndT (st S i Sl.z) j = ndT S j) := by
  obtain ⟨lo, hin, tk, fr, nd, cn⟩ := A
  obtain ⟨h0, h1, h2⟩ := isT_lt hi
  have key := fun j => isT_st (x := Sl.z) h0 h1 j
  have hlt := tk i hi
  have hnf : i ∉ fs := fun h => by have := (fr i h).2.2; rw [hi] at this; cases this
  refine ⟨⟨lo, by rw [st_length]; exact hin, ?_, ?_, ?_, ?_⟩, key, fun j hj => ndT_stz h0 h1 j hj⟩
  · intro j hj
    rw [key] at hj
    split at hj
    · cases hj
    · exact tk j hj
  · intro j hj
    rw [key]
    rcases List.mem_append.1 hj with h | h
    · obtain ⟨g0, g1, g2⟩ := fr j h
      refine ⟨g0, g1, ?_⟩
      split
      · rfl
      · exact g2
    · have e : j = i := by simpa using h
      subst e
      rw [if_pos rfl]
      exact ⟨h0, hlt, rfl⟩
  · exact List.nodup_append.2 ⟨nd, by simp, fun a ha b hb e => hnf (by
      have hb' : b = i := by simpa using hb
      rw [← hb', ← e]
      exact ha)⟩
  · rw [List.length_append, List.length_singleton]; omega
theorem AI.congr {S S' : List Sl} {fs : List Int} {next : Int} {n : Nat} (A : AI S fs next n) (hl : S'.length = S.length) (h : ∀ j, isT S' j = isT S j) : AI S' fs next n :=
  ⟨A.lo, by rw [hl]; exact A.hi, fun i hi => A.tk i (by rw [← h]; exact hi), fun i hi => by rw [h]; exact A.fr i hi, A.nd, A.cn⟩

/-- A key, its value and its flag. -/
structure En where
  key : Int
  val : Int
  flag : Int
def en (S : List Sl) (i : Int) : En := ⟨(ndT S i).key, (ndT S i).val, (ndT S i).flag⟩
def total (q : List (List Int)) : Nat := (q.map List.length).sum
def inQ (q : List (List Int)) (i : Int) : Prop := ∃ t : Nat, t < q.length ∧ i ∈ q.getD t []
/-- All of a store agrees. -/
structure Good (s : St) (q : List (List Int)) (p : Nat) : Prop where
  gl : LG s.slots s.lists q
  qn : (q.length : Int) = s.queues
  q8 : 1 ≤ q.length ∧ q.length ≤ 8
  tk : ∀ i, isT s.slots i = true ↔ inQ q i
  ai : AI s.slots s.freed s.next (total q)
  lv : s.live = total q
  ti : Ti hmF s.tab
  p2 : P2 s.tab.length
  cn : cnt s.tab = total q
  mn : s.many = total q
  fit : 4 * cnt s.tab ≤ 3 * s.tab.length
  tin : ∀ k v, Tin s.tab k v ↔ isT s.slots v = true ∧ (ndT s.slots v).key = k
  ks : ∀ i, isT s.slots i = true → 0 ≤ (ndT s.slots i).key ∧ (ndT s.slots i).key < 18446744073709551616
  b1 : s.slots.length ≤ 8 + 2 * p
  b2 : 3 * s.tab.length ≤ 24 + 8 * p
  b3 : total q ≤ p
  b4 : p < 50000
  b5 : s.slots.length % 8 = 0 ∧ 8 ≤ s.slots.length ∧ s.tab.length % 8 = 0 ∧ 8 ≤ s.tab.length
theorem Good.one {s : St} {q : List (List Int)} {p : Nat} (G : Good s q p) {i j : Int} (hi : isT s.slots i = true) (hj : isT s.slots j = true) (h : (ndT s.slots i).key = (ndT s.slots j).key) : i = j := by
  obtain ⟨a, a0, a1, af, ak, av⟩ := (G.tin _ _).2 ⟨hi, rfl⟩
  obtain ⟨b, c0, c1, bf, bk, bv⟩ := (G.tin _ _).2 ⟨hj, rfl⟩
  have := G.ti.one a b a0 a1 c0 c1 af bf (by rw [ak, bk, h])
  subst this
  rw [← av, ← bv]
theorem Good.keys {s : St} {q : List (List Int)} {p : Nat} (G : Good s q p) : ∀ a : Int, 0 ≤ a → a < s.tab.length → (tg s.tab a).full = true → 0 ≤ (tg s.tab a).key ∧ (tg s.tab a).key < 18446744073709551616 := by
  intro a a0 a1 af
  obtain ⟨h1, h2⟩ := (G.tin (tg s.tab a).key (tg s.tab a).num).1 ⟨a, a0, a1, af, rfl, rfl⟩
  rw [← h2]
  exact G.ks _ h1
theorem sum_set (q : List (List Int)) : ∀ (t : Nat) (c : List Int), t < q.length → total (q.set t c) + (q.getD t []).length = total q + c.length := by
  unfold total
  induction q with
  | nil => intro t c h; simp at h
  | cons x r ih =>
    intro t c h
    cases t with
    | zero => simp; omega
    | succ t =>
      have := ih t c (by simpa using h)
      simp at this ⊢
      omega
theorem inQ_set {q : List (List Int)} {t : Nat} {c : List Int} (ht : t < q.length) (i : Int) : inQ (q.set t c) i ↔ i ∈ c ∨ ∃ u : Nat, u < q.length ∧ u ≠ t ∧ i ∈ q.getD u [] := by
  unfold inQ
  rw [List.length_set]
  constructor
  · rintro ⟨u, hu, h⟩
    rw [getD_set q t c _ u ht] at h
    by_cases e : t = u
    · rw [if_pos e] at h; exact .inl h
    · rw [if_neg e] at h; exact .inr ⟨u, hu, fun h' => e h'.symm, h⟩
  · rintro (h | ⟨u, hu, hne, h⟩)
    · exact ⟨t, ht, by rw [getD_set q t c _ t ht, if_pos rfl]; exact h⟩
    · exact ⟨u, hu, by rw [getD_set q t c _ u ht, if_neg (fun e => hne e.symm)]; exact h⟩
end Go.Proofs.Ytlakojncjldpbaa
