/- The policy of low inter-reference recency, on lists: what stays true. -/
import Derived.Test.YtlakojncjldpbaaTl
namespace Go.Proofs.Ytlakojncjldpbaa
open Go.RowKit Hop
set_option linter.unusedVariables false
set_option linter.unusedSimpArgs false
set_option maxRecDepth 100000
structure LS.st (s : LS) : Prop where
  ns : (keysL s.s).Nodup
  nq : s.q.Nodup
  ks : ∀ x ∈ s.s, x.kind = 0 ∨ x.kind = 1 ∨ x.kind = 2
  cq : ∀ x ∈ s.s, x.kind = 1 ↔ x.key ∈ s.q
structure LS.ok (s : LS) : Prop where
  lo : 1 ≤ s.c
  hi : s.c ≤ 14
  st : s.st
  hr : (manyL s.s 2 : Int) ≤ s.c - 1
  al : (manyL s.s 2 : Int) + s.q.length ≤ s.c
  gn : (manyL s.s 0 : Int) ≤ s.c
theorem LS.st.many1 {s : LS} (h : s.st) : manyL s.s 1 ≤ s.q.length := by
  have h1 : ((s.s.filter (fun x => decide (x.kind = 1))).map LI.key).Nodup := h.ns.sublist (List.filter_sublist.map _)
  have h2 := sub_len (M := s.q) h1 (fun k hk => by
    obtain ⟨x, hx, rfl⟩ := List.mem_map.1 hk
    obtain ⟨h3, h4⟩ := List.mem_filter.1 hx
    exact (h.cq x h3).1 (by simpa using h4))
  rw [List.length_map] at h2
  exact h2
theorem LS.st.len {s : LS} (h : s.st) : s.s.length ≤ manyL s.s 0 + s.q.length + manyL s.s 2 := by
  have h1 := many_all h.ks
  have h2 := h.many1
  omega
theorem LS.st.sub {s : LS} (h : s.st) {S : List LI} (hs : S.Sublist s.s) (c : Int) : (LS.mk c S s.q).st :=
  ⟨h.ns.sublist (hs.map _), h.nq, fun x hx => h.ks x (hs.subset hx), fun x hx => h.cq x (hs.subset hx)⟩
theorem LS.st.kind1 {s : LS} (h : s.st) {k : Int} (hk : k ∈ keysL s.s) : kindOf s.s k = 1 ↔ k ∈ s.q := by
  obtain ⟨x, hx, rfl⟩ := mem_keysL.1 hk
  rw [kindOf_mem h.ns hx]
  exact h.cq x hx
theorem LS.st.hotq {s : LS} (h : s.st) {k : Int} (hk : kindOf s.s k = 2) : k ∉ s.q := by
  intro hq
  have := (h.kind1 (kindOf_ne hk (by decide))).2 hq
  omega
theorem LS.st.kinds {s : LS} (h : s.st) (k : Int) : kindOf s.s k = 0 ∨ kindOf s.s k = 1 ∨ kindOf s.s k = 2 := by
  by_cases hk : k ∈ keysL s.s
  · obtain ⟨x, hx, rfl⟩ := mem_keysL.1 hk
    rw [kindOf_mem h.ns hx]
    exact h.ks x hx
  · exact .inl (kindOf_not hk)
theorem mem_setL {S : List LI} {k f : Int} {y : LI} (h : y ∈ setL S k f) : (y.key = k ∧ y.kind = f ∧ k ∈ keysL S) ∨ (y.key ≠ k ∧ y ∈ S) := by
  unfold setL at h
  obtain ⟨z, hz, rfl⟩ := List.mem_map.1 h
  by_cases e : z.key = k
  · rw [if_pos e]; exact .inl ⟨e, rfl, mem_keysL.2 ⟨z, hz, e⟩⟩
  · rw [if_neg e]; exact .inr ⟨e, hz⟩
theorem LS.st.prune {s : LS} (h : s.st) : (pruneS s).st := h.sub (pruneL_sub _) _
theorem nodup_snoc {L : List Int} {k : Int} (h : L.Nodup) (hk : k ∉ L) : (L ++ [k]).Nodup := by
  refine List.nodup_append.2 ⟨h, by simp, ?_⟩
  intro x hx y hy e
  rw [List.mem_singleton] at hy
  exact hk (by rw [← hy, ← e]; exact hx)
/-- A hot item is cold. -/
structure Cooled (s t : LS) : Prop where
  st : t.st
  c : t.c = s.c
  m2 : manyL t.s 2 + 1 = manyL s.s 2
  m0 : manyL t.s 0 ≤ manyL s.s 0
  q : t.q.length = s.q.length + 1
  len : t.s.length ≤ s.s.length
theorem LS.st.setCold {s : LS} (h : s.st) {k : Int} (hk : kindOf s.s k = 2) : (LS.mk s.c (setL s.s k 1) (s.q ++ [k])).st := by
  have hq := h.hotq hk
  refine ⟨by rw [keys_setL]; exact h.ns, nodup_snoc h.nq hq, ?_, ?_⟩
  · intro y hy
    rcases mem_setL hy with ⟨_, e, _⟩ | ⟨_, hy⟩
    · exact .inr (.inl e)
    · exact h.ks y hy
  · intro y hy
    rcases mem_setL hy with ⟨e1, e2, _⟩ | ⟨e1, hy⟩
    · rw [e1, e2]; simp
    · rw [h.cq y hy]; simp [e1]
theorem LS.st.cooled {s : LS} (h : s.st) (hp : 0 < manyL s.s 2) : Cooled s (cool1 s) ∧ kindOf s.s (lastK s.s 2) = 2 ∧ wo s.q (lastK s.s 2) = s.q := by
  obtain ⟨A, x, B, e, hx, hB⟩ := last_split hp
  have hl : lastK s.s 2 = x.key := by rw [e]; exact lastK_eq hx hB
  have hxm : x ∈ s.s := by rw [e]; simp
  have hk : kindOf s.s (lastK s.s 2) = 2 := by rw [hl, kindOf_mem h.ns hxm]; exact hx
  have hq := h.hotq hk
  have hc := h.setCold hk
  have hkk := kindOf_ne hk (by decide)
  have m2 := many_setL h.ns hkk 1 2
  have m0 := many_setL h.ns hkk 1 0
  rw [hk] at m2 m0
  simp at m2 m0
  have p2 := pruneL_many2 (setL s.s (lastK s.s 2) 1)
  have p0 := pruneL_many (setL s.s (lastK s.s 2) 1) 0
  have pl := pruneL_len (setL s.s (lastK s.s 2) 1)
  rw [setL_len] at pl
  refine ⟨⟨?_, rfl, ?_, ?_, ?_, pl⟩, hk, wo_id hq⟩
  · unfold cool1
    rw [wo_id hq]
    exact hc.prune
  · show manyL (pruneL _) 2 + 1 = _
    omega
  · show manyL (pruneL _) 0 ≤ _
    omega
  · unfold cool1
    rw [wo_id hq]
    simp
theorem coolF_step {s : LS} (h : s.st) (hc : 1 ≤ s.c) : coolF s = if (manyL s.s 2 : Int) ≤ s.c - 1 then s else coolF (cool1 s) := by
  unfold coolF
  cases hm : manyL s.s 2 with
  | zero =>
    unfold coolL
    rw [if_pos (by omega)]
  | succ m =>
    have := (h.cooled (by omega)).1.m2
    have e : manyL (cool1 s).s 2 = m := by omega
    rw [e, coolL, hm]
structure CoolDone (s t : LS) : Prop where
  st : t.st
  c : t.c = s.c
  m2 : (manyL t.s 2 : Int) ≤ s.c - 1
  m2' : manyL t.s 2 ≤ manyL s.s 2
  m0 : manyL t.s 0 ≤ manyL s.s 0
  q : manyL t.s 2 + t.q.length = manyL s.s 2 + s.q.length
  len : t.s.length ≤ s.s.length
theorem coolF_done : ∀ (n : Nat) {s : LS}, manyL s.s 2 = n → s.st → 1 ≤ s.c → CoolDone s (coolF s) := by
  intro n
  induction n with
  | zero =>
    intro s hm h hc
    rw [coolF_step h hc, if_pos (by omega)]
    exact ⟨h, rfl, by omega, Nat.le_refl _, Nat.le_refl _, rfl, Nat.le_refl _⟩
  | succ n ih =>
    intro s hm h hc
    rw [coolF_step h hc]
    split
    · rename_i h1
      exact ⟨h, rfl, h1, Nat.le_refl _, Nat.le_refl _, rfl, Nat.le_refl _⟩
    · obtain ⟨C, _, _⟩ := h.cooled (by omega)
      have D := ih (s := cool1 s) (by have := C.m2; omega) C.st (by rw [C.c]; exact hc)
      have := C.m2
      have := C.m0
      have := C.q
      have := C.len
      have := C.c
      have := D.m0
      have := D.m2
      have := D.m2'
      have := D.q
      have := D.len
      exact ⟨D.st, by rw [D.c, C.c], by omega, by omega, by omega, by omega, by omega⟩
theorem LS.st.coolD {s : LS} (h : s.st) (hc : 1 ≤ s.c) : CoolDone s (coolF s) := coolF_done _ rfl h hc
theorem LS.st.out {s : LS} {k : Int} {r : List Int} (h : s.st) (hq : s.q = k :: r) : (LS.mk s.c (setL s.s k 0) r).st ∧ manyL (setL s.s k 0) 2 = manyL s.s 2 ∧ manyL (setL s.s k 0) 0 ≤ manyL s.s 0 + 1 ∧ (k ∈ keysL s.s → kindOf s.s k = 1) := by
  have nq := h.nq
  rw [hq] at nq
  obtain ⟨n1, n2⟩ := List.nodup_cons.1 nq
  have hk1 : k ∈ keysL s.s → kindOf s.s k = 1 := fun hk => (h.kind1 hk).2 (by rw [hq]; simp)
  refine ⟨⟨by rw [keys_setL]; exact h.ns, n2, ?_, ?_⟩, ?_, ?_, hk1⟩
  · intro y hy
    rcases mem_setL hy with ⟨_, e, _⟩ | ⟨_, hy⟩
    · exact .inl e
    · exact h.ks y hy
  · intro y hy
    rcases mem_setL hy with ⟨e1, e2, _⟩ | ⟨e1, hy⟩
    · rw [e1, e2]; simp [n1]
    · rw [h.cq y hy, hq]; simp [e1]
  · by_cases hk : k ∈ keysL s.s
    · have m2 := many_setL h.ns hk 0 2
      rw [hk1 hk] at m2
      simpa using m2
    · rw [setL_id hk]
  · by_cases hk : k ∈ keysL s.s
    · have m0 := many_setL h.ns hk 0 0
      rw [hk1 hk] at m0
      simp at m0
      omega
    · rw [setL_id hk]; omega
structure ShrDone (s t : LS) (n : Int) (out : List Int) : Prop where
  st : t.st
  c : t.c = s.c
  m2 : manyL t.s 2 = manyL s.s 2
  m0 : manyL t.s 0 ≤ manyL s.s 0 + out.length
  al : (manyL t.s 2 : Int) + t.q.length ≤ n
  q : t.q.length + out.length = s.q.length
  less : out ≠ [] → (manyL t.s 2 : Int) + t.q.length = n
  len : t.s.length = s.s.length
  sub : ∀ x ∈ t.q, x ∈ s.q
  keys : keysL t.s = keysL s.s
  hot : ∀ k, kindOf t.s k = 2 → kindOf s.s k = 2
theorem kindOf_setL {S : List LI} {k f x : Int} : kindOf (setL S k f) x = if x = k ∧ k ∈ keysL S then f else kindOf S x := by
  induction S with
  | nil => simp [setL, kindOf, keysL]
  | cons y r ih =>
    have e0 : setL (y :: r) k f = (if y.key = k then ⟨y.key, f⟩ else y) :: setL r k f := rfl
    rw [e0, keysL_cons]
    unfold kindOf
    by_cases e : y.key = k
    · rw [if_pos e]
      simp only
      by_cases h : y.key = x
      · rw [if_pos h, if_pos ⟨by rw [← h, e], by simp [e]⟩]
      · rw [if_neg h, ih, if_neg h]
        by_cases hx : x = k
        · exact absurd (by rw [e, hx]) h
        · simp [hx]
    · rw [if_neg e]
      by_cases h : y.key = x
      · have hxk : ¬ x = k := fun e2 => e (by rw [h, e2])
        simp [h, hxk]
      · rw [if_neg h, if_neg h, ih]
        have : ¬ k = y.key := fun e2 => e e2.symm
        simp [this]
theorem shrinkS_done : ∀ (Q : List Int) (S : List LI) (c n : Int), (LS.mk c S Q).st → (manyL S 2 : Int) ≤ n → ShrDone ⟨c, S, Q⟩ ⟨c, (shrinkS n S Q).1, (shrinkS n S Q).2.1⟩ n (shrinkS n S Q).2.2 := by
  intro Q
  induction Q with
  | nil =>
    intro S c n h hm
    exact ⟨h, rfl, rfl, by simp [shrinkS], by simpa [shrinkS] using hm, rfl, fun h => absurd rfl h, rfl, fun x hx => hx, rfl, fun k h => h⟩
  | cons k r ih =>
    intro S c n h hm
    unfold shrinkS
    split
    · rename_i h1
      exact ⟨h, rfl, rfl, by simp, by simpa using h1, by simp, fun h => absurd rfl h, rfl, fun x hx => hx, rfl, fun k h => h⟩
    · rename_i h1
      obtain ⟨a1, a2, a3, a4⟩ := h.out (k := k) (r := r) rfl
      simp only at a1 a2 a3 a4
      have D := ih (setL S k 0) c n a1 (by omega)
      obtain ⟨d1, d2, d3, d4, d5, d6, d7, d8, d9, d10, d11⟩ := D
      simp only at d1 d2 d3 d4 d5 d6 d7 d8 d9 d10 d11 ⊢
      rw [setL_len] at d8
      rw [keys_setL] at d10
      refine ⟨d1, rfl, d3.trans a2, by simp only [List.length_cons]; omega, by simpa using d5, by simp only [List.length_cons]; omega, fun _ => ?_, d8, fun x hx => List.mem_cons_of_mem _ (d9 x hx), d10, fun x hx => ?_⟩
      · by_cases h0 : (shrinkS n (setL S k 0) r).2.2 = []
        · rw [h0] at d6
          simp at d6 h1
          simp
          omega
        · exact d7 h0
      · have := d11 x hx
        rw [kindOf_setL] at this
        split at this
        · cases this
        · exact this
theorem LS.st.shrink {s : LS} {n : Int} (h : s.st) (hm : (manyL s.s 2 : Int) ≤ n) : ShrDone s (shrinkL s n).1 n (shrinkL s n).2 := shrinkS_done s.q s.s s.c n h hm
structure FogDone (c : Int) (S T : List LI) : Prop where
  sub : T.Sublist S
  m0 : (manyL T 0 : Int) ≤ c
  m2 : manyL T 2 = manyL S 2
theorem woL_sub (S : List LI) (k : Int) : (woL S k).Sublist S := List.filter_sublist
theorem last_gone {S : List LI} {f : Int} (nd : (keysL S).Nodup) (h : 0 < manyL S f) : kindOf S (lastK S f) = f ∧ lastK S f ∈ keysL S := by
  obtain ⟨A, x, B, e, hx, hB⟩ := last_split h
  have hl : lastK S f = x.key := by rw [e]; exact lastK_eq hx hB
  have hxm : x ∈ S := by rw [e]; simp
  exact ⟨by rw [hl, kindOf_mem nd hxm]; exact hx, by rw [hl]; exact mem_keysL.2 ⟨x, hxm, rfl⟩⟩
theorem forgetL_done : ∀ (n : Nat) (c : Int) (S : List LI), (keysL S).Nodup → 0 ≤ c → manyL S 0 ≤ n → FogDone c S (forgetL c n S) := by
  intro n
  induction n with
  | zero =>
    intro c S nd hc h
    exact ⟨List.Sublist.refl _, by unfold forgetL; omega, rfl⟩
  | succ n ih =>
    intro c S nd hc h
    unfold forgetL
    split
    · rename_i h1
      exact ⟨List.Sublist.refl _, h1, rfl⟩
    · rename_i h1
      obtain ⟨a1, a2⟩ := last_gone (f := 0) nd (by omega)
      have m0 := many_woL nd (lastK S 0) 0
      have m2 := many_woL nd (lastK S 0) 2
      rw [a1] at m0 m2
      simp [a2] at m0 m2
      obtain ⟨b1, b2, b3⟩ := ih c (woL S (lastK S 0)) (nd.sublist ((woL_sub _ _).map _)) hc (by omega)
      exact ⟨b1.trans (woL_sub _ _), b2, by omega⟩
theorem forgetF_done (c : Int) (S : List LI) (nd : (keysL S).Nodup) (hc : 0 ≤ c) : FogDone c S (forgetF c S) := forgetL_done _ c S nd hc (Nat.le_refl _)
theorem forgetF_step {c : Int} {S : List LI} (nd : (keysL S).Nodup) (hc : 0 ≤ c) : forgetF c S = if (manyL S 0 : Int) ≤ c then S else forgetF c (woL S (lastK S 0)) := by
  unfold forgetF
  cases hm : manyL S 0 with
  | zero =>
    unfold forgetL
    rw [if_pos (by omega)]
  | succ m =>
    obtain ⟨a1, a2⟩ := last_gone (f := 0) nd (by omega)
    have m0 := many_woL nd (lastK S 0) 0
    rw [a1] at m0
    simp [a2] at m0
    have e : manyL (woL S (lastK S 0)) 0 = m := by omega
    rw [e, forgetL, hm]
theorem LS.st.allNd {s : LS} (h : s.st) {k : Int} : k ∈ allL s ↔ k ∈ s.q ∨ kindOf s.s k = 2 := by
  unfold allL
  rw [List.mem_append, hots_mem h.ns]
  exact Or.comm
theorem kindOf_woL {S : List LI} {k x : Int} (h : x ≠ k) : kindOf (woL S k) x = kindOf S x := by
  induction S with
  | nil => rfl
  | cons y r ih =>
    by_cases e : y.key = k
    · have e1 : woL (y :: r) k = woL r k := by unfold woL; rw [List.filter_cons, if_neg (by simp [e])]
      rw [e1, ih]
      conv => rhs; unfold kindOf
      rw [if_neg (fun e2 => h (by rw [← e2, e]))]
    · have e1 : woL (y :: r) k = y :: woL r k := by unfold woL; rw [List.filter_cons, if_pos (by simp [e])]
      rw [e1]
      unfold kindOf
      rw [ih]
theorem not_mem_woL {S : List LI} {k : Int} : k ∉ keysL (woL S k) := by
  rw [keys_woL]
  intro h
  exact (mem_wo.1 h).2 rfl
theorem keys_top {S : List LI} {k f : Int} (nd : (keysL S).Nodup) : (keysL (⟨k, f⟩ :: woL S k)).Nodup := by
  rw [keysL_cons]
  exact List.nodup_cons.2 ⟨not_mem_woL, nd.sublist ((woL_sub _ _).map _)⟩
/-- A key on top as hot; it leaves the queue. -/
theorem LS.st.topHot {s : LS} (h : s.st) (k : Int) : (LS.mk s.c (⟨k, 2⟩ :: woL s.s k) (wo s.q k)).st := by
  refine ⟨keys_top h.ns, nodup_wo h.nq k, ?_, ?_⟩
  · intro y hy
    rcases List.mem_cons.1 hy with rfl | hy
    · exact .inr (.inr rfl)
    · exact h.ks y (mem_woL.1 hy).1
  · intro y hy
    rcases List.mem_cons.1 hy with rfl | hy
    · simp [mem_wo]
    · obtain ⟨h1, h2⟩ := mem_woL.1 hy
      rw [h.cq y h1]
      simp [mem_wo, h2]
/-- A key on top as cold, and behind. -/
theorem LS.st.topCold {s : LS} (h : s.st) (k : Int) : (behindS (topS s k 1) k).st := by
  have hk : k ∉ wo s.q k := fun h => (mem_wo.1 h).2 rfl
  refine ⟨keys_top h.ns, nodup_snoc (nodup_wo h.nq k) hk, ?_, ?_⟩
  · intro y hy
    rcases List.mem_cons.1 hy with rfl | hy
    · exact .inr (.inl rfl)
    · exact h.ks y (mem_woL.1 hy).1
  · intro y hy
    show _ ↔ y.key ∈ wo s.q k ++ [k]
    rcases List.mem_cons.1 hy with rfl | hy
    · simp
    · obtain ⟨h1, h2⟩ := mem_woL.1 hy
      rw [h.cq y h1]
      simp [mem_wo, h2]
theorem many_top (S : List LI) (k g f : Int) (nd : (keysL S).Nodup) : manyL (⟨k, g⟩ :: woL S k) f + (if k ∈ keysL S ∧ kindOf S k = f then 1 else 0) = manyL S f + (if g = f then 1 else 0) := by
  have := many_woL nd k f
  rw [many_cons]
  simp only
  omega
theorem wo_len_mem {L : List Int} {k : Int} (h : k ∈ L) : (wo L k).length + 1 ≤ L.length := by
  have h1 : wo L k ≠ L := fun e => by
    have : k ∈ wo L k := by rw [e]; exact h
    exact (mem_wo.1 this).2 rfl
  have h2 := wo_len L k
  have h3 : (wo L k).length ≠ L.length := fun e => h1 (List.filter_eq_self.2 (List.length_filter_eq_length_iff.1 e))
  omega
end Go.Proofs.Ytlakojncjldpbaa
