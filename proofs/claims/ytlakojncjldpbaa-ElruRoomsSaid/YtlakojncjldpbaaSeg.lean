/- Linked lists of slots, as plain lists: what laying in and taking out do to them. No program in sight. -/
import Derived.Test.YtlakojncjldpbaaLay
namespace Go.Proofs.Ytlakojncjldpbaa
open Go.RowKit Hop
set_option linter.unusedVariables false
set_option linter.unusedSimpArgs false
def hdD (d : Int) : List Int → Int
  | [] => d
  | x :: _ => x
def lsD (d : Int) : List Int → Int
  | [] => d
  | x :: r => lsD x r
theorem lsD_append (d : Int) : ∀ (a b : List Int), lsD d (a ++ b) = lsD (lsD d a) b := by
  intro a
  induction a generalizing d with
  | nil => intro b; rfl
  | cons x r ih => intro b; exact ih x b
theorem hdD_append (d : Int) (a b : List Int) : hdD d (a ++ b) = hdD (hdD d b) a := by
  cases a <;> rfl
theorem lsD_mem (d : Int) : ∀ (a : List Int), a ≠ [] → lsD d a ∈ a := by
  intro a
  induction a generalizing d with
  | nil => intro h; exact absurd rfl h
  | cons x r ih =>
    intro _
    cases r with
    | nil => simp [lsD]
    | cons y r => exact List.mem_cons_of_mem _ (ih x (by simp))
theorem hdD_mem (d : Int) (a : List Int) (h : a ≠ []) : hdD d a ∈ a := by
  cases a with
  | nil => exact absurd rfl h
  | cons x r => simp [hdD]
/-- A node's links. -/
def lk (S : List Sl) (i t p n : Int) : Prop := isT S i = true ∧ (ndT S i).tag = t + 1 ∧ (ndT S i).prev = p ∧ (ndT S i).next = n
def seg (S : List Sl) (t : Int) : Int → List Int → Int → Prop
  | _, [], _ => True
  | p, x :: r, nx => lk S x t p (hdD nx r) ∧ seg S t x r nx
theorem ndT_up {S : List Sl} {i : Int} (hi : isT S i = true) (f : Nd → Nd) (j : Int) : ndT (up S i f) j = if i = j then f (ndT S i) else ndT S j := by
  obtain ⟨h0, h1, h2⟩ := isT_lt hi
  unfold ndT
  rw [isT_up hi, if_pos hi]
  by_cases hij : i = j
  · subst hij
    rw [if_pos rfl, if_pos hi]
    show (gt (st S i _) i Sl.z).nd = _
    rw [gt_st_same _ _ (by omega) h1]
  · rw [if_neg hij]
    by_cases hj : isT S j = true
    · rw [if_pos hj, if_pos hj]
      have := isT_lt hj
      show (gt (st S i _) j Sl.z).nd = _
      rw [gt_st_ne _ _ (by omega) (by omega) hij]
    · rw [if_neg hj, if_neg hj]
theorem ndT_jS {S : List Sl} {a b : Int} (ha : a = 0 ∨ isT S a = true) (hb : b = 0 ∨ isT S b = true) (j : Int) (hj : j ≠ 0) :
    ndT (jS S a b) j = (if b = j then prevTo a else id) ((if a = j then nextTo b else id) (ndT S j)) := by
  have h1 : ∀ j, j ≠ 0 → ndT (jS1 S a b) j = (if a = j then nextTo b else id) (ndT S j) := by
    intro j hj
    unfold jS1
    by_cases h : a = 0
    · rw [if_pos h, if_neg (by omega)]; rfl
    · rw [if_neg h, ndT_up (ha.resolve_left h)]
      split
      · rename_i e; subst e; rfl
      · rfl
  have h2 : ∀ j, isT (jS1 S a b) j = isT S j := by
    intro j
    unfold jS1
    split
    · rfl
    · rename_i h; exact isT_up (ha.resolve_left h)
  unfold jS
  by_cases h : b = 0
  · rw [if_pos h, if_neg (by omega : ¬ b = j), h1 j hj]; rfl
  · rw [if_neg h, ndT_up (by rw [h2]; exact hb.resolve_left h)]
    by_cases e : b = j
    · subst e; rw [if_pos rfl, if_pos rfl, h1 b hj]
    · rw [if_neg e, if_neg e, h1 j hj]; rfl
theorem seg_congr {S S' : List Sl} {t : Int} : ∀ {c : List Int} {p nx : Int}, (∀ x ∈ c, isT S' x = isT S x ∧ (ndT S' x).tag = (ndT S x).tag ∧ (ndT S' x).prev = (ndT S x).prev ∧ (ndT S' x).next = (ndT S x).next) → seg S t p c nx → seg S' t p c nx := by
  intro c
  induction c with
  | nil => intro p nx _ _; trivial
  | cons x r ih =>
    intro p nx h hs
    obtain ⟨h1, h2, h3, h4⟩ := h x (by simp)
    refine ⟨?_, ih (fun y hy => h y (List.mem_cons_of_mem _ hy)) hs.2⟩
    unfold lk
    rw [h1, h2, h3, h4]
    exact hs.1
theorem seg_append {S : List Sl} {t : Int} : ∀ {a b : List Int} {p nx : Int}, seg S t p (a ++ b) nx ↔ seg S t p a (hdD nx b) ∧ seg S t (lsD p a) b nx := by
  intro a
  induction a with
  | nil => intro b p nx; simp [seg, lsD]
  | cons x r ih =>
    intro b p nx
    simp only [List.cons_append, seg, lsD, ih, hdD_append]
    constructor
    · rintro ⟨h1, h2, h3⟩; exact ⟨⟨h1, h2⟩, h3⟩
    · rintro ⟨⟨h1, h2⟩, h3⟩; exact ⟨h1, h2, h3⟩
theorem seg_mem {S : List Sl} {t : Int} : ∀ {c : List Int} {p nx x : Int}, seg S t p c nx → x ∈ c → isT S x = true ∧ (ndT S x).tag = t + 1 := by
  intro c
  induction c with
  | nil => intro p nx x _ h; cases h
  | cons y r ih =>
    intro p nx x hs h
    rcases List.mem_cons.1 h with rfl | h
    · exact ⟨hs.1.1, hs.1.2.1⟩
    · exact ih hs.2 h
theorem isT_ne0 {S : List Sl} {x : Int} (h : isT S x = true) : x ≠ 0 := by have := isT_lt h; omega
/-- The last one's next is another. -/
theorem seg_next {S S' : List Sl} {t : Int} : ∀ {c : List Int} {p nx nx' : Int}, c.Nodup → (∀ x ∈ c, isT S' x = isT S x ∧ (ndT S' x).tag = (ndT S x).tag ∧ (ndT S' x).prev = (ndT S x).prev ∧ (ndT S' x).next = if x = lsD p c then nx' else (ndT S x).next) →
    seg S t p c nx → seg S' t p c nx' := by
  intro c
  induction c with
  | nil => intro p nx nx' _ _ _; trivial
  | cons y r ih =>
    intro p nx nx' hnd h hs
    obtain ⟨h1, h2, h3, h4⟩ := h y (by simp)
    have hnd' := List.nodup_cons.1 hnd
    refine ⟨?_, ih hnd'.2 (fun x hx => h x (List.mem_cons_of_mem _ hx)) hs.2⟩
    unfold lk
    rw [h1, h2, h3, h4]
    refine ⟨hs.1.1, hs.1.2.1, hs.1.2.2.1, ?_⟩
    cases r with
    | nil => simp [lsD, hdD]
    | cons z r =>
      have hne : y ≠ lsD p (y :: z :: r) := by
        intro e
        have : lsD p (y :: z :: r) ∈ z :: r := lsD_mem y (z :: r) (by simp)
        rw [← e] at this
        exact hnd'.1 this
      rw [if_neg hne]
      exact hs.1.2.2.2
/-- The first one's prev is another. -/
theorem seg_prev {S S' : List Sl} {t : Int} {c : List Int} {p p' nx : Int} (hnd : c.Nodup) (h : ∀ x ∈ c, isT S' x = isT S x ∧ (ndT S' x).tag = (ndT S x).tag ∧ (ndT S' x).prev = (if x = hdD 0 c then p' else (ndT S x).prev) ∧ (ndT S' x).next = (ndT S x).next)
    (hs : seg S t p c nx) : seg S' t p' c nx := by
  cases c with
  | nil => trivial
  | cons y r =>
    obtain ⟨h1, h2, h3, h4⟩ := h y (by simp)
    have hnd' := List.nodup_cons.1 hnd
    refine ⟨?_, seg_congr (fun x hx => ?_) hs.2⟩
    · unfold lk
      rw [h1, h2, h3, h4]
      exact ⟨hs.1.1, hs.1.2.1, by simp [hdD], hs.1.2.2.2⟩
    · obtain ⟨h1, h2, h3, h4⟩ := h x (List.mem_cons_of_mem _ hx)
      have hne : x ≠ hdD 0 (y :: r) := by intro e; apply hnd'.1; rw [show y = x from e.symm]; exact hx
      rw [if_neg hne] at h3
      exact ⟨h1, h2, h3, h4⟩
/-- Lists in slots, with their headers. -/
structure LG (S : List Sl) (ls : List Li) (q : List (List Int)) : Prop where
  len : ls.length = q.length
  seg : ∀ t : Nat, t < q.length → seg S t 0 (q.getD t []) 0
  nd : ∀ t : Nat, t < q.length → (q.getD t []).Nodup
  hd : ∀ t : Nat, t < q.length → lg ls t = ⟨hdD 0 (q.getD t []), lsD 0 (q.getD t []), (q.getD t []).length⟩
theorem getD_set {α : Type} (q : List α) (t : Nat) (c : α) (d : α) (u : Nat) (ht : t < q.length) : (q.set t c).getD u d = if t = u then c else q.getD u d := by
  simp only [List.getD_eq_getElem?_getD, List.getElem?_set]
  split
  · simp [ht]
  · rfl
/-- One whose links no list uses may be turned. -/
theorem LG.other {S S' : List Sl} {ls : List Li} {q : List (List Int)} (G : LG S ls q) (h : ∀ x, isT S x = true → (ndT S x).tag ≠ 0 → isT S' x = true ∧ (ndT S' x).tag = (ndT S x).tag ∧ (ndT S' x).prev = (ndT S x).prev ∧ (ndT S' x).next = (ndT S x).next) : LG S' ls q := by
  refine ⟨G.len, fun t ht => seg_congr (fun x hx => ?_) (G.seg t ht), G.nd, G.hd⟩
  have q := seg_mem (G.seg t ht) hx
  obtain ⟨h1, h2⟩ := h x q.1 (by omega)
  exact ⟨by rw [h1, q.1], h2⟩
/-- A slot without a list, laid to a list's front. -/
theorem LG.push {S : List Sl} {ls : List Li} {q : List (List Int)} (G : LG S ls q) {t : Nat} (ht : t < q.length) {i : Int} (hi : isT S i = true) (h0 : (ndT S i).tag = 0) :
    LG (layS S t 0 i (hdD 0 (q.getD t []))) (st ls t (layL (lg ls t) 0 i (hdD 0 (q.getD t [])))) (q.set t (i :: q.getD t [])) ∧
      (hdD 0 (q.getD t []) = 0 ∨ isT S (hdD 0 (q.getD t [])) = true) ∧
      (∀ j, isT (layS S t 0 i (hdD 0 (q.getD t []))) j = isT S j) ∧
      (∀ j, j ≠ 0 → (ndT (layS S t 0 i (hdD 0 (q.getD t []))) j).key = (ndT S j).key ∧ (ndT (layS S t 0 i (hdD 0 (q.getD t []))) j).val = (ndT S j).val ∧ (ndT (layS S t 0 i (hdD 0 (q.getD t []))) j).flag = (ndT S j).flag ∧
        (j ≠ i → (ndT (layS S t 0 i (hdD 0 (q.getD t []))) j).tag = (ndT S j).tag)) := by
  generalize hc : q.getD t [] = c
  have hs := G.seg t ht
  have hnd := G.nd t ht
  rw [hc] at hs hnd
  have hi0 := isT_ne0 hi
  have hn : hdD 0 c = 0 ∨ isT S (hdD 0 c) = true := by
    cases c with
    | nil => exact .inl rfl
    | cons y r => exact .inr hs.1.1
  have hnc : i ∉ c := fun h => by have := (seg_mem hs h).2; omega
  have hni : hdD 0 c ≠ i := by
    intro e
    cases c with
    | nil => exact hi0 e.symm
    | cons y r => exact hnc (by rw [← e]; simp [hdD])
  have hy0 : ∀ y r, c = y :: r → y ≠ 0 := by
    rintro y r rfl
    exact isT_ne0 hs.1.1
  generalize hnn : hdD 0 c = n at *
  have u1 : ∀ j, isT (up S i (layN t 0 n)) j = isT S j := fun j => isT_up hi
  have a1 : (0 : Int) = 0 ∨ isT (up S i (layN t 0 n)) 0 = true := .inl rfl
  have a2 : i = 0 ∨ isT (up S i (layN t 0 n)) i = true := .inr (by rw [u1]; exact hi)
  have u2 : ∀ j, isT (jS (up S i (layN t 0 n)) 0 i) j = isT S j := fun j => by rw [jS_isT a1 a2, u1]
  have a3 : i = 0 ∨ isT (jS (up S i (layN t 0 n)) 0 i) i = true := .inr (by rw [u2]; exact hi)
  have a4 : n = 0 ∨ isT (jS (up S i (layN t 0 n)) 0 i) n = true := by rw [u2]; exact hn
  have u3 : ∀ j, isT (layS S t 0 i n) j = isT S j := fun j => by unfold layS; rw [jS_isT a3 a4, u2]
  have key : ∀ j, j ≠ 0 → ndT (layS S t 0 i n) j = if j = i then { ndT S i with tag := t + 1, prev := 0, next := n } else if j = n then prevTo i (ndT S j) else ndT S j := by
    intro j hj
    unfold layS
    rw [ndT_jS a3 a4 j hj, ndT_jS a1 a2 j hj, ndT_up hi]
    by_cases e : j = i
    · subst e
      rw [if_neg (by omega : ¬ n = j), if_pos rfl, if_pos rfl, if_neg (by omega : ¬ (0 : Int) = j), if_pos rfl, if_pos rfl]
      rfl
    · rw [if_neg e, if_neg (by omega : ¬ i = j), if_neg (by omega : ¬ i = j), if_neg (by omega : ¬ i = j), if_neg (by omega : ¬ (0 : Int) = j)]
      by_cases e2 : j = n
      · rw [if_pos e2, if_pos e2.symm]; rfl
      · rw [if_neg e2, if_neg (fun h => e2 h.symm)]; rfl
  refine ⟨⟨?_, ?_, ?_, ?_⟩, hn, u3, ?_⟩
  · rw [st_length, List.length_set]; exact G.len
  · intro u hu
    rw [List.length_set] at hu
    rw [getD_set q t _ _ u ht]
    by_cases e : t = u
    · subst e
      rw [if_pos rfl]
      refine ⟨?_, ?_⟩
      · refine ⟨by rw [u3]; exact hi, ?_, ?_, ?_⟩ <;> rw [key i hi0, if_pos rfl]
        exact hnn.symm
      · refine seg_prev hnd (fun x hx => ?_) hs
        have hx0 := isT_ne0 (seg_mem hs hx).1
        have hxi : x ≠ i := fun e => hnc (e ▸ hx)
        rw [u3, key x hx0, if_neg hxi, hnn]
        split
        · exact ⟨rfl, rfl, rfl, rfl⟩
        · exact ⟨rfl, rfl, rfl, rfl⟩
    · rw [if_neg e]
      refine seg_congr (fun x hx => ?_) (G.seg u hu)
      have hm := seg_mem (G.seg u hu) hx
      have hx0 := isT_ne0 hm.1
      have hxi : x ≠ i := by rintro rfl; omega
      have hxn : x ≠ n := by
        intro e2
        have hcne : c ≠ [] := by
          rintro rfl
          exact hx0 (e2.trans hnn.symm)
        have hmc := seg_mem hs (hdD_mem 0 c hcne)
        rw [hnn, ← e2] at hmc
        omega
      rw [u3, key x hx0, if_neg hxi, if_neg hxn]
      exact ⟨rfl, rfl, rfl, rfl⟩
  · intro u hu
    rw [List.length_set] at hu
    rw [getD_set q t _ _ u ht]
    split
    · exact List.nodup_cons.2 ⟨hnc, hnd⟩
    · exact G.nd u hu
  · intro u hu
    rw [List.length_set] at hu
    rw [getD_set q t _ _ u ht]
    have hul : (u : Int) < ls.length := by rw [G.len]; omega
    have htl : (t : Int) < ls.length := by rw [G.len]; omega
    show gt (st ls t _) u Li.z = _
    rw [gt_st _ _ (by omega) htl (by omega)]
    by_cases e : t = u
    · subst e
      rw [if_pos rfl, if_pos rfl, G.hd t ht, hc]
      unfold layL more jL
      simp only [if_true, if_neg hi0]
      cases c with
      | nil =>
        have : n = 0 := hnn.symm
        subst this
        simp [hdD, lsD]
      | cons y r =>
        have hyn : y = n := hnn
        have hn0 : n ≠ 0 := by rw [← hyn]; exact hy0 y r rfl
        simp [hdD, lsD, hn0]
    · rw [if_neg (by omega), if_neg e]
      exact G.hd u hu
  · intro j hj
    rw [key j hj]
    split
    · rename_i e; subst e; exact ⟨rfl, rfl, rfl, fun h => absurd rfl h⟩
    · split <;> exact ⟨rfl, rfl, rfl, fun _ => rfl⟩
/-- A slot taken out of its list. -/
theorem LG.take {S : List Sl} {ls : List Li} {q : List (List Int)} (G : LG S ls q) {t : Nat} (ht : t < q.length) {i : Int} (hic : i ∈ q.getD t []) :
    LG (outS S i) (st ls t (outL S (lg ls t) i)) (q.set t ((q.getD t []).erase i)) ∧
      ((ndT S i).prev = 0 ∨ isT S (ndT S i).prev = true) ∧ ((ndT S i).next = 0 ∨ isT S (ndT S i).next = true) ∧
      (∀ j, isT (outS S i) j = isT S j) ∧
      (∀ j, j ≠ 0 → (ndT (outS S i) j).key = (ndT S j).key ∧ (ndT (outS S i) j).val = (ndT S j).val ∧ (ndT (outS S i) j).flag = (ndT S j).flag ∧ (j ≠ i → (ndT (outS S i) j).tag = (ndT S j).tag)) ∧
      (ndT (outS S i) i).tag = 0 := by
  generalize hc : q.getD t [] = c at *
  have hs := G.seg t ht
  have hnd := G.nd t ht
  rw [hc] at hs hnd
  obtain ⟨a, b, rfl⟩ := List.append_of_mem hic
  have hm := seg_mem hs hic
  have hi0 := isT_ne0 hm.1
  rw [seg_append] at hs
  obtain ⟨hsa, ⟨hlk, hsb⟩⟩ := hs
  obtain ⟨hlk1, hlk2, hlk3, hlk4⟩ := hlk
  have hnd' := List.nodup_append.1 hnd
  obtain ⟨hnda, hndib, hdis⟩ := hnd'
  obtain ⟨hnib, hndb⟩ := List.nodup_cons.1 hndib
  have hnia : i ∉ a := fun h => hdis i h i (by simp) rfl
  have hab : ∀ x, x ∈ a → x ∉ b := fun x hx hxb => hdis x hx x (List.mem_cons_of_mem _ hxb) rfl
  have her : (a ++ i :: b).erase i = a ++ b := by rw [List.erase_append_right _ hnia, List.erase_cons_head]
  rw [her]
  have hp : (ndT S i).prev = 0 ∨ isT S (ndT S i).prev = true := by
    rw [hlk3]
    cases a with
    | nil => exact .inl rfl
    | cons y r => exact .inr (seg_mem hsa (lsD_mem 0 (y :: r) (by simp))).1
  have hx : (ndT S i).next = 0 ∨ isT S (ndT S i).next = true := by
    rw [hlk4]
    cases b with
    | nil => exact .inl rfl
    | cons y r => exact .inr (seg_mem hsb (hdD_mem 0 (y :: r) (by simp))).1
  have hpi : (ndT S i).prev ≠ i := by
    rw [hlk3]
    intro e
    cases a with
    | nil => exact hi0 e.symm
    | cons y r => exact hnia (e ▸ lsD_mem 0 (y :: r) (by simp))
  have hxi : (ndT S i).next ≠ i := by
    rw [hlk4]
    intro e
    cases b with
    | nil => exact hi0 e.symm
    | cons y r => exact hnib (e ▸ hdD_mem 0 (y :: r) (by simp))
  have u1 : ∀ j, isT (jS S (ndT S i).prev (ndT S i).next) j = isT S j := fun j => jS_isT hp hx j
  have hji : isT (jS S (ndT S i).prev (ndT S i).next) i = true := by rw [u1]; exact hm.1
  have u2 : ∀ j, isT (outS S i) j = isT S j := fun j => by unfold outS; rw [isT_up hji, u1]
  have key : ∀ j, j ≠ 0 → ndT (outS S i) j = if j = i then outN (ndT S i) else (if (ndT S i).next = j then prevTo (ndT S i).prev else id) ((if (ndT S i).prev = j then nextTo (ndT S i).next else id) (ndT S j)) := by
    intro j hj
    unfold outS
    rw [ndT_up hji]
    by_cases e : j = i
    · subst e
      rw [if_pos rfl, if_pos rfl, ndT_jS hp hx j hj, if_neg hxi, if_neg hpi]
      rfl
    · rw [if_neg (by omega), if_neg e, ndT_jS hp hx j hj]
  rw [hlk3, hlk4] at key
  refine ⟨⟨?_, ?_, ?_, ?_⟩, hp, hx, u2, ?_, ?_⟩
  · rw [st_length, List.length_set]; exact G.len
  · intro u hu
    rw [List.length_set] at hu
    rw [getD_set q t _ _ u ht]
    by_cases e : t = u
    · subst e
      rw [if_pos rfl, seg_append]
      constructor
      · refine seg_next (nx := i) hnda (fun x hxa => ?_) hsa
        have hmx := seg_mem hsa hxa
        have hx0 := isT_ne0 hmx.1
        have hxi' : x ≠ i := fun e => hnia (e ▸ hxa)
        have hxn : ¬ hdD 0 b = x := by
          intro e
          cases b with
          | nil => exact hx0 e.symm
          | cons y r => exact hab x hxa (e ▸ hdD_mem 0 (y :: r) (by simp))
        rw [u2, key x hx0, if_neg hxi', if_neg hxn]
        by_cases e3 : lsD 0 a = x
        · rw [if_pos e3, if_pos e3.symm]; exact ⟨rfl, rfl, rfl, rfl⟩
        · rw [if_neg e3, if_neg (fun h => e3 h.symm)]; exact ⟨rfl, rfl, rfl, rfl⟩
      · refine seg_prev (p := i) hndb (fun x hxb => ?_) hsb
        have hmx := seg_mem hsb hxb
        have hx0 := isT_ne0 hmx.1
        have hxi' : x ≠ i := fun e => hnib (e ▸ hxb)
        have hxp : ¬ lsD 0 a = x := by
          intro e
          cases a with
          | nil => exact hx0 e.symm
          | cons y r => exact hab x (e ▸ lsD_mem 0 (y :: r) (by simp)) hxb
        rw [u2, key x hx0, if_neg hxi', if_neg hxp]
        by_cases e3 : hdD 0 b = x
        · rw [if_pos e3, if_pos e3.symm]; exact ⟨rfl, rfl, rfl, rfl⟩
        · rw [if_neg e3, if_neg (fun h => e3 h.symm)]; exact ⟨rfl, rfl, rfl, rfl⟩
    · rw [if_neg e]
      refine seg_congr (fun x hxu => ?_) (G.seg u hu)
      have hmu := seg_mem (G.seg u hu) hxu
      have hx0 := isT_ne0 hmu.1
      have hxi' : x ≠ i := by rintro rfl; have := hm.2; omega
      have hxn : ¬ hdD 0 b = x := by
        intro e2
        cases b with
        | nil => exact hx0 e2.symm
        | cons y r =>
          have hmc := seg_mem hsb (hdD_mem 0 (y :: r) (by simp))
          rw [e2] at hmc
          omega
      have hxp : ¬ lsD 0 a = x := by
        intro e2
        cases a with
        | nil => exact hx0 e2.symm
        | cons y r =>
          have hmc := seg_mem hsa (lsD_mem 0 (y :: r) (by simp))
          rw [e2] at hmc
          omega
      rw [u2, key x hx0, if_neg hxi', if_neg hxn, if_neg hxp]
      exact ⟨rfl, rfl, rfl, rfl⟩
  · intro u hu
    rw [List.length_set] at hu
    rw [getD_set q t _ _ u ht]
    split
    · exact List.nodup_append.2 ⟨hnda, hndb, fun x hxa y hyb e => hab x hxa (e ▸ hyb)⟩
    · exact G.nd u hu
  · intro u hu
    rw [List.length_set] at hu
    rw [getD_set q t _ _ u ht]
    have hul : (u : Int) < ls.length := by rw [G.len]; omega
    have htl : (t : Int) < ls.length := by rw [G.len]; omega
    show gt (st ls t _) u Li.z = _
    rw [gt_st _ _ (by omega) htl (by omega)]
    by_cases e : t = u
    · subst e
      rw [if_pos rfl, if_pos rfl, G.hd t ht, hc]
      unfold outL more jL
      rw [hlk3, hlk4]
      simp only [List.length_append, List.length_cons]
      cases a with
      | nil =>
        cases b with
        | nil => simp [hdD, lsD]
        | cons z r =>
          have hz0 : z ≠ 0 := isT_ne0 (seg_mem hsb (by simp)).1
          simp [hdD, lsD, hz0] <;> omega
      | cons y r =>
        have hl0 : lsD y r ≠ 0 := isT_ne0 (seg_mem hsa (lsD_mem 0 (y :: r) (by simp))).1
        cases b with
        | nil => simp [hdD, lsD, lsD_append, hl0] <;> omega
        | cons z r' =>
          have hz0 : z ≠ 0 := isT_ne0 (seg_mem hsb (by simp)).1
          simp [hdD, lsD, lsD_append, hl0, hz0] <;> omega
    · rw [if_neg (by omega), if_neg e]
      exact G.hd u hu
  · intro j hj
    rw [key j hj]
    split
    · rename_i e; subst e; exact ⟨rfl, rfl, rfl, fun h => absurd rfl h⟩
    · (repeat' split) <;> exact ⟨rfl, rfl, rfl, fun _ => rfl⟩
  · rw [key i hi0, if_pos rfl]; rfl
end Go.Proofs.Ytlakojncjldpbaa
