/- The policy of low inter-reference recency, on lists. -/
import Derived.Test.YtlakojncjldpbaaGRef
namespace Go.Proofs.Ytlakojncjldpbaa
open Go.RowKit Hop
set_option linter.unusedVariables false
set_option linter.unusedSimpArgs false
set_option maxRecDepth 100000
/-- An item: a key, and its kind. -/
structure LI where
  key : Int
  kind : Int
/-- A capacity, a stack of items, a queue. -/
structure LS where
  c : Int
  s : List LI
  q : List Int
def lE (x : LI) : En := ⟨x.key, 0, x.kind⟩
def keysL (S : List LI) : List Int := S.map LI.key
def kindOf : List LI → Int → Int
  | [], _ => 0
  | x :: r, k => if x.key = k then x.kind else kindOf r k
def woL (S : List LI) (k : Int) : List LI := S.filter (fun x => decide (x.key ≠ k))
def setL (S : List LI) (k f : Int) : List LI := S.map (fun x => if x.key = k then ⟨x.key, f⟩ else x)
def manyL (S : List LI) (f : Int) : Nat := (S.filter (fun x => decide (x.kind = f))).length
def hotsL (S : List LI) : List Int := (S.filter (fun x => decide (x.kind = 2))).map LI.key
theorem keysL_cons (x : LI) (S : List LI) : keysL (x :: S) = x.key :: keysL S := rfl
theorem keysL_append (A B : List LI) : keysL (A ++ B) = keysL A ++ keysL B := List.map_append
theorem mem_keysL {S : List LI} {k : Int} : k ∈ keysL S ↔ ∃ x ∈ S, x.key = k := by unfold keysL; exact List.mem_map
theorem kindOf_mem : ∀ {S : List LI}, (keysL S).Nodup → ∀ {x : LI}, x ∈ S → kindOf S x.key = x.kind := by
  intro S
  induction S with
  | nil => intro _ x h; cases h
  | cons y r ih =>
    intro nd x hx
    rw [keysL_cons] at nd
    obtain ⟨h1, h2⟩ := List.nodup_cons.1 nd
    unfold kindOf
    rcases List.mem_cons.1 hx with rfl | hx
    · rw [if_pos rfl]
    · rw [if_neg (fun e => h1 (by rw [e]; exact mem_keysL.2 ⟨x, hx, rfl⟩)), ih h2 hx]
theorem kindOf_not {S : List LI} {k : Int} (h : k ∉ keysL S) : kindOf S k = 0 := by
  induction S with
  | nil => rfl
  | cons y r ih =>
    rw [keysL_cons, List.mem_cons, not_or] at h
    unfold kindOf
    rw [if_neg (fun e => h.1 e.symm), ih h.2]
theorem kindOf_ne {S : List LI} {k f : Int} (h : kindOf S k = f) (hf : f ≠ 0) : k ∈ keysL S := by
  by_cases hk : k ∈ keysL S
  · exact hk
  · rw [kindOf_not hk] at h; exact absurd h.symm hf
theorem kindOf_at {S : List LI} (nd : (keysL S).Nodup) {k : Int} (h : k ∈ keysL S) : ∃ x ∈ S, x.key = k ∧ x.kind = kindOf S k := by
  obtain ⟨x, hx, rfl⟩ := mem_keysL.1 h
  exact ⟨x, hx, rfl, (kindOf_mem nd hx).symm⟩
theorem woL_id {S : List LI} {k : Int} (h : k ∉ keysL S) : woL S k = S :=
  List.filter_eq_self.2 (fun x hx => by simp; rintro rfl; exact h (mem_keysL.2 ⟨x, hx, rfl⟩))
theorem keys_woL (S : List LI) (k : Int) : keysL (woL S k) = wo (keysL S) k := by
  unfold keysL woL wo
  rw [List.filter_map]
  rfl
theorem keys_setL (S : List LI) (k f : Int) : keysL (setL S k f) = keysL S := by
  unfold keysL setL
  rw [List.map_map]
  refine List.map_congr_left (fun x _ => ?_)
  simp only [Function.comp]
  split <;> rfl
theorem setL_id {S : List LI} {k f : Int} (h : k ∉ keysL S) : setL S k f = S := by
  unfold setL
  have : ∀ x ∈ S, (if x.key = k then (⟨x.key, f⟩ : LI) else x) = id x := fun x hx => by
    rw [if_neg (fun e => h (mem_keysL.2 ⟨x, hx, e⟩))]; rfl
  rw [List.map_congr_left this, List.map_id]
theorem mem_woL {S : List LI} {k : Int} {x : LI} : x ∈ woL S k ↔ x ∈ S ∧ x.key ≠ k := by unfold woL; rw [List.mem_filter]; simp
theorem nodup_wo {L : List Int} (h : L.Nodup) (k : Int) : (wo L k).Nodup := h.sublist List.filter_sublist
theorem woL_len (S : List LI) (k : Int) : (woL S k).length ≤ S.length := List.length_filter_le _ _
theorem setL_len (S : List LI) (k f : Int) : (setL S k f).length = S.length := List.length_map _
theorem keysL_len (S : List LI) : (keysL S).length = S.length := List.length_map _
theorem many_cons (x : LI) (S : List LI) (f : Int) : manyL (x :: S) f = (if x.kind = f then 1 else 0) + manyL S f := by
  unfold manyL
  rw [List.filter_cons]
  by_cases h : x.kind = f
  · simp [h]; omega
  · simp [h]
theorem many_append (A B : List LI) (f : Int) : manyL (A ++ B) f = manyL A f + manyL B f := by
  unfold manyL
  rw [List.filter_append, List.length_append]
theorem many_nil (f : Int) : manyL [] f = 0 := rfl
theorem many_le (S : List LI) (f : Int) : manyL S f ≤ S.length := List.length_filter_le _ _
theorem many_zero {S : List LI} {f : Int} (h : ∀ x ∈ S, x.kind ≠ f) : manyL S f = 0 := by
  unfold manyL
  rw [List.filter_eq_nil_iff.2 (fun x hx => by simpa using h x hx)]
  rfl
theorem many_pos {S : List LI} {f : Int} {x : LI} (hx : x ∈ S) (h : x.kind = f) : 0 < manyL S f :=
  List.length_pos_of_mem (List.mem_filter.2 ⟨hx, by simpa using h⟩)
theorem many_woL {S : List LI} (nd : (keysL S).Nodup) (k f : Int) : manyL (woL S k) f + (if k ∈ keysL S ∧ kindOf S k = f then 1 else 0) = manyL S f := by
  induction S with
  | nil => simp [keysL, woL, manyL]
  | cons y r ih =>
    rw [keysL_cons] at nd
    obtain ⟨h1, h2⟩ := List.nodup_cons.1 nd
    have ih' := ih h2
    rw [many_cons, keysL_cons]
    by_cases e : y.key = k
    · have h3 : k ∉ keysL r := by rw [← e]; exact h1
      have e1 : woL (y :: r) k = woL r k := by unfold woL; rw [List.filter_cons, if_neg (by simp [e])]
      rw [e1, woL_id h3]
      unfold kindOf
      rw [if_pos e]
      by_cases h : y.kind = f
      · rw [if_pos ⟨by simp [e], h⟩, if_pos h]; omega
      · rw [if_neg (fun q => h q.2), if_neg h]; omega
    · have e1 : woL (y :: r) k = y :: woL r k := by unfold woL; rw [List.filter_cons, if_pos (by simp [e])]
      rw [e1, many_cons]
      unfold kindOf
      rw [if_neg e]
      have e2 : (k ∈ y.key :: keysL r ∧ kindOf r k = f) = (k ∈ keysL r ∧ kindOf r k = f) := by
        rw [List.mem_cons]
        have : ¬ k = y.key := fun h => e h.symm
        simp [this]
      simp only [e2]
      omega
theorem many_setL {S : List LI} (nd : (keysL S).Nodup) {k : Int} (hk : k ∈ keysL S) (g f : Int) : manyL (setL S k g) f + (if kindOf S k = f then 1 else 0) = manyL S f + (if g = f then 1 else 0) := by
  induction S with
  | nil => cases hk
  | cons y r ih =>
    rw [keysL_cons] at nd hk
    obtain ⟨h1, h2⟩ := List.nodup_cons.1 nd
    have e0 : setL (y :: r) k g = (if y.key = k then ⟨y.key, g⟩ else y) :: setL r k g := rfl
    rw [many_cons, e0, many_cons]
    unfold kindOf
    by_cases e : y.key = k
    · have h3 : k ∉ keysL r := by rw [← e]; exact h1
      rw [if_pos e, if_pos e, setL_id h3]
      simp only
      omega
    · have hk' : k ∈ keysL r := (List.mem_cons.1 hk).resolve_left (fun h => e h.symm)
      rw [if_neg e, if_neg e]
      have := ih h2 hk'
      omega
theorem many_all {S : List LI} (h : ∀ x ∈ S, x.kind = 0 ∨ x.kind = 1 ∨ x.kind = 2) : S.length = manyL S 0 + manyL S 1 + manyL S 2 := by
  induction S with
  | nil => rfl
  | cons y r ih =>
    have h1 := ih (fun x hx => h x (List.mem_cons_of_mem _ hx))
    have h2 := h y (by simp)
    rw [many_cons, many_cons, many_cons, List.length_cons]
    rcases h2 with e | e | e <;> rw [e] <;> simp <;> omega
theorem sub_len : ∀ {L M : List Int}, L.Nodup → (∀ x ∈ L, x ∈ M) → L.length ≤ M.length := by
  intro L
  induction L with
  | nil => intro M _ _; simp
  | cons x r ih =>
    intro M nd h
    obtain ⟨h1, h2⟩ := List.nodup_cons.1 nd
    have h3 := ih (M := wo M x) h2 (fun y hy => mem_wo.2 ⟨h y (List.mem_cons_of_mem _ hy), fun e => h1 (by rw [← e]; exact hy)⟩)
    have h4 : (wo M x).length < M.length := by
      have h5 := wo_len M x
      have h6 : (wo M x).length ≠ M.length := fun e => by
        have h7 : wo M x = M := List.filter_eq_self.2 (List.length_filter_eq_length_iff.1 e)
        have h8 : x ∈ wo M x := by rw [h7]; exact h x (by simp)
        exact (mem_wo.1 h8).2 rfl
      omega
    rw [List.length_cons]
    omega
theorem hots_mem {S : List LI} (nd : (keysL S).Nodup) {k : Int} : k ∈ hotsL S ↔ kindOf S k = 2 := by
  unfold hotsL
  rw [List.mem_map]
  constructor
  · rintro ⟨x, hx, rfl⟩
    obtain ⟨h1, h2⟩ := List.mem_filter.1 hx
    rw [kindOf_mem nd h1]
    simpa using h2
  · intro h
    obtain ⟨x, hx, rfl, h2⟩ := kindOf_at nd (kindOf_ne h (by decide))
    exact ⟨x, List.mem_filter.2 ⟨hx, by simpa using h2.trans h⟩, rfl⟩
theorem hots_len (S : List LI) : (hotsL S).length = manyL S 2 := by unfold hotsL manyL; exact List.length_map _
/-- The key of the last item of a kind. -/
def lastK (S : List LI) (f : Int) : Int := ((S.reverse.find? (fun x => decide (x.kind = f))).map LI.key).getD 0
theorem lastK_eq {A B : List LI} {x : LI} {f : Int} (hx : x.kind = f) (hB : ∀ y ∈ B, y.kind ≠ f) : lastK (A ++ x :: B) f = x.key := by
  unfold lastK
  rw [List.reverse_append, List.reverse_cons, List.append_assoc, List.find?_append]
  have h1 : List.find? (fun x => decide (x.kind = f)) B.reverse = none := by
    rw [List.find?_eq_none]
    intro y hy
    simpa using hB y (List.mem_reverse.1 hy)
  rw [h1]
  simp [hx]
theorem last_split {S : List LI} {f : Int} (h : 0 < manyL S f) : ∃ A x B, S = A ++ x :: B ∧ x.kind = f ∧ ∀ y ∈ B, y.kind ≠ f := by
  induction S with
  | nil => simp [manyL] at h
  | cons y r ih =>
    by_cases h0 : 0 < manyL r f
    · obtain ⟨A, x, B, rfl, h1, h2⟩ := ih h0
      exact ⟨y :: A, x, B, rfl, h1, h2⟩
    · rw [many_cons] at h
      have hy : y.kind = f := by
        by_cases e : y.kind = f
        · exact e
        · rw [if_neg e] at h; omega
      refine ⟨[], y, r, rfl, hy, fun z hz e => h0 (many_pos hz e)⟩
/-- Items that aren't hot fall off the back. -/
def pruneL (S : List LI) : List LI := (S.reverse.dropWhile (fun x => decide (x.kind ≠ 2))).reverse
theorem pruneL_nil : pruneL [] = [] := rfl
theorem pruneL_hot (A : List LI) {x : LI} (h : x.kind = 2) : pruneL (A ++ [x]) = A ++ [x] := by
  unfold pruneL
  rw [List.reverse_append, List.reverse_singleton, List.singleton_append, List.dropWhile_cons, if_neg (by simp [h])]
  simp
theorem pruneL_not (A : List LI) {x : LI} (h : x.kind ≠ 2) : pruneL (A ++ [x]) = pruneL A := by
  unfold pruneL
  rw [List.reverse_append, List.reverse_singleton, List.singleton_append, List.dropWhile_cons, if_pos (by simp [h])]
theorem pruneL_split (S : List LI) : ∃ B, S = pruneL S ++ B ∧ ∀ x ∈ B, x.kind ≠ 2 := by
  rcases List.eq_nil_or_concat S with rfl | ⟨A, x, rfl⟩
  · exact ⟨[], rfl, by simp⟩
  · rw [List.concat_eq_append]
    by_cases h : x.kind = 2
    · exact ⟨[], by rw [pruneL_hot A h]; simp, by simp⟩
    · obtain ⟨B, h1, h2⟩ := pruneL_split A
      refine ⟨B ++ [x], ?_, ?_⟩
      · rw [pruneL_not A h, ← List.append_assoc, ← h1]
      · intro y hy
        rcases List.mem_append.1 hy with hy | hy
        · exact h2 y hy
        · rw [List.mem_singleton.1 hy]; exact h
termination_by S.length
decreasing_by simp_all
theorem pruneL_len (S : List LI) : (pruneL S).length ≤ S.length := by
  obtain ⟨B, h, _⟩ := pruneL_split S
  have := congrArg List.length h
  rw [List.length_append] at this
  omega
theorem pruneL_mem {S : List LI} {x : LI} (h : x ∈ pruneL S) : x ∈ S := by
  obtain ⟨B, e, _⟩ := pruneL_split S
  rw [e]
  exact List.mem_append_left _ h
theorem pruneL_sub (S : List LI) : (pruneL S).Sublist S := by
  obtain ⟨B, e, _⟩ := pruneL_split S
  have : (pruneL S).Sublist (pruneL S ++ B) := List.sublist_append_left _ _
  rwa [← e] at this
theorem pruneL_nd {S : List LI} (h : (keysL S).Nodup) : (keysL (pruneL S)).Nodup := h.sublist ((pruneL_sub S).map _)
theorem pruneL_many (S : List LI) (f : Int) : manyL (pruneL S) f ≤ manyL S f := ((pruneL_sub S).filter _).length_le
theorem pruneL_many2 (S : List LI) : manyL (pruneL S) 2 = manyL S 2 := by
  obtain ⟨B, e, h⟩ := pruneL_split S
  have := many_append (pruneL S) B 2
  rw [← e, many_zero h] at this
  omega
def cool1 (s : LS) : LS := ⟨s.c, pruneL (setL s.s (lastK s.s 2) 1), wo s.q (lastK s.s 2) ++ [lastK s.s 2]⟩
def coolL : Nat → LS → LS
  | 0, s => s
  | f + 1, s => if (manyL s.s 2 : Int) ≤ s.c - 1 then s else coolL f (cool1 s)
def coolF (s : LS) : LS := coolL (manyL s.s 2) s
def shrinkS (n : Int) : List LI → List Int → List LI × List Int × List Int
  | S, [] => (S, [], [])
  | S, k :: r => if (manyL S 2 : Int) + (r.length + 1 : Nat) ≤ n then (S, k :: r, []) else ((shrinkS n (setL S k 0) r).1, (shrinkS n (setL S k 0) r).2.1, k :: (shrinkS n (setL S k 0) r).2.2)
def shrinkL (s : LS) (n : Int) : LS × List Int := (⟨s.c, (shrinkS n s.s s.q).1, (shrinkS n s.s s.q).2.1⟩, (shrinkS n s.s s.q).2.2)
def forgetL (c : Int) : Nat → List LI → List LI
  | 0, S => S
  | f + 1, S => if (manyL S 0 : Int) ≤ c then S else forgetL c f (woL S (lastK S 0))
def forgetF (c : Int) (S : List LI) : List LI := forgetL c (manyL S 0) S
def pruneS (s : LS) : LS := ⟨s.c, pruneL s.s, s.q⟩
def forgetS (s : LS) : LS := ⟨s.c, forgetF s.c s.s, s.q⟩
def topS (s : LS) (k f : Int) : LS := ⟨s.c, ⟨k, f⟩ :: woL s.s k, s.q⟩
def behindS (s : LS) (k : Int) : LS := ⟨s.c, s.s, wo s.q k ++ [k]⟩
def allL (s : LS) : List Int := hotsL s.s ++ s.q
def touchL (s : LS) (k : Int) : LS :=
  if k ∈ allL s then
    if k ∈ keysL s.s then pruneS (coolF ⟨s.c, ⟨k, 2⟩ :: woL s.s k, wo s.q k⟩)
    else pruneS (behindS (topS s k 1) k)
  else s
def admitL (s : LS) (k : Int) : LS × List Int :=
  if k ∈ allL s then (s, [])
  else
    let t := shrinkL s (s.c - 1)
    (forgetS (pruneS (if k ∈ keysL t.1.s ∨ (manyL t.1.s 2 : Int) < t.1.c - 1 then coolF (topS t.1 k 2) else behindS (topS t.1 k 1) k)), t.2)
def dropL (s : LS) (k : Int) : LS := ⟨s.c, pruneL (woL s.s k), wo s.q k⟩
def resizeL (s : LS) (n : Int) : LS × List Int :=
  let t := shrinkL (coolF ⟨capF n, s.s, s.q⟩) (capF n)
  (forgetS (pruneS t.1), t.2)
def doL (s : LS) (a : Ac) : LS × List Int :=
  let k := kindF a.kind (decide (a.key ∈ allL s))
  if k = 1 then (touchL s a.key, [])
  else if k = 2 then admitL s a.key
  else if k = 3 then (dropL s a.key, [])
  else resizeL s (sizeF a.n)
end Go.Proofs.Ytlakojncjldpbaa
