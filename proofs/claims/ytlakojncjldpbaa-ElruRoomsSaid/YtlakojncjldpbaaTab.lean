/- The table with open addressing, as plain lists: what find comes to, and that laying in and taking out keep the rule of the probes. No program in sight. -/
import Derived.WalkKit
import Derived.Deep.LoopGhost
namespace Go.Proofs.Ytlakojncjldpbaa
namespace Hop
set_option linter.unusedVariables false
set_option linter.unusedSimpArgs false
/-- A list's element at a whole number. -/
def gt {α : Type} (l : List α) (i : Int) (d : α) : α := l.getD i.toNat d
def st {α : Type} (l : List α) (i : Int) (v : α) : List α := l.set i.toNat v
theorem st_length {α : Type} (l : List α) (i : Int) (v : α) : (st l i v).length = l.length := by simp [st]
theorem gt_st_same {α : Type} {l : List α} {i : Int} (v d : α) (h0 : 0 ≤ i) (h1 : i < l.length) : gt (st l i v) i d = v := by
  unfold gt st; rw [List.getD_eq_getElem?_getD, List.getElem?_set_self (by omega)]; rfl
theorem gt_st_ne {α : Type} {l : List α} {i j : Int} (v d : α) (h0 : 0 ≤ i) (h1 : 0 ≤ j) (h : i ≠ j) : gt (st l i v) j d = gt l j d := by
  unfold gt st; rw [List.getD_eq_getElem?_getD, List.getElem?_set_ne (by omega), List.getD_eq_getElem?_getD]
theorem gt_st {α : Type} {l : List α} {i j : Int} (v d : α) (h0 : 0 ≤ i) (h1 : i < l.length) (h2 : 0 ≤ j) : gt (st l i v) j d = if i = j then v else gt l j d := by
  split
  · rename_i h; subst h; exact gt_st_same v d h0 h1
  · rename_i h; exact gt_st_ne v d h0 h2 h

/-- A slot of the table. -/
structure Ts where
  key : Int
  num : Int
  full : Bool
def Ts.z : Ts := ⟨0, 0, false⟩
abbrev tg (t : List Ts) (a : Int) : Ts := gt t a Ts.z

/-- How far a place is behind another one; the place so far behind. -/
def ap (n h a : Int) : Int := if h ≤ a then a - h else a + n - h
def adv (n h j : Int) : Int := if h + j < n then h + j else h + j - n

theorem ap_lt {n h a : Int} (h0 : 0 ≤ h) (h1 : h < n) (a0 : 0 ≤ a) (a1 : a < n) : 0 ≤ ap n h a ∧ ap n h a < n := by unfold ap; split <;> omega
theorem adv_lt {n h j : Int} (h0 : 0 ≤ h) (h1 : h < n) (a0 : 0 ≤ j) (a1 : j < n) : 0 ≤ adv n h j ∧ adv n h j < n := by unfold adv; split <;> omega
theorem adv_ap {n h a : Int} (h0 : 0 ≤ h) (h1 : h < n) (a0 : 0 ≤ a) (a1 : a < n) : adv n h (ap n h a) = a := by unfold ap adv; (repeat' split) <;> omega
theorem ap_adv {n h j : Int} (h0 : 0 ≤ h) (h1 : h < n) (a0 : 0 ≤ j) (a1 : j < n) : ap n h (adv n h j) = j := by unfold ap adv; (repeat' split) <;> omega
theorem ap_self {n h : Int} : ap n h h = 0 := by unfold ap; split <;> omega
theorem adv_zero {n h : Int} (h1 : h < n) : adv n h 0 = h := by unfold adv; split <;> omega
theorem adv_succ {n h j : Int} (h0 : 0 ≤ h) (h1 : h < n) (a0 : 0 ≤ j) (a1 : j + 1 < n) : adv n h (j + 1) = adv n (adv n h j) 1 := by unfold adv; (repeat' split) <;> omega

section
variable (hm : Int → Int → Int)   -- a key's home in so many slots

/-- The rule of the probes, but for the slot h (-1: for none). -/
structure Ti (t : List Ts) : Prop where
  gap : ∀ a : Int, 0 ≤ a → a < t.length → (tg t a).full = true → ∀ y : Int, 0 ≤ y → y < t.length → ap t.length (hm (tg t a).key t.length) y < ap t.length (hm (tg t a).key t.length) a → (tg t y).full = true
  one : ∀ a b : Int, 0 ≤ a → a < t.length → 0 ≤ b → b < t.length → (tg t a).full = true → (tg t b).full = true → (tg t a).key = (tg t b).key → a = b
  zero : ∀ a : Int, 0 ≤ a → a < t.length → (tg t a).full = false → (tg t a).num = 0

/-- A key has a number. -/
def Tin (t : List Ts) (k v : Int) : Prop := ∃ a, 0 ≤ a ∧ a < (t.length : Int) ∧ (tg t a).full = true ∧ (tg t a).key = k ∧ (tg t a).num = v

def cnt (t : List Ts) : Nat := (t.filter (·.full)).length

theorem cnt_le (t : List Ts) : cnt t ≤ t.length := List.length_filter_le _ _

theorem exists_empty {t : List Ts} (h : cnt t < t.length) : ∃ e : Int, 0 ≤ e ∧ e < t.length ∧ (tg t e).full = false := by
  induction t with
  | nil => simp [cnt] at h
  | cons x r ih =>
    cases hx : x.full with
    | false => exact ⟨0, by omega, by rw [List.length_cons]; omega, by simpa [gt] using hx⟩
    | true =>
      obtain ⟨e, h0, h1, h2⟩ := ih (by simp [cnt, hx] at h ⊢; omega)
      refine ⟨e + 1, by omega, by rw [List.length_cons]; omega, ?_⟩
      have : (e + 1).toNat = e.toNat + 1 := by omega
      simpa [gt, this] using h2

theorem cnt_set (t : List Ts) : ∀ (i : Nat) (x : Ts), i < t.length → cnt (t.set i x) + (if (t.getD i Ts.z).full then 1 else 0) = cnt t + (if x.full then 1 else 0) := by
  induction t with
  | nil => intro i x h; simp at h
  | cons y r ih =>
    intro i x h
    cases i with
    | zero => cases hy : y.full <;> cases hx : x.full <;> simp [cnt, hy, hx]
    | succ i =>
      have := ih i x (by simpa using h)
      cases hy : y.full <;> simp [cnt, hy] at this ⊢ <;> omega

theorem cnt_st {t : List Ts} {i : Int} (x : Ts) (h0 : 0 ≤ i) (h1 : i < t.length) : cnt (st t i x) + (if (tg t i).full then 1 else 0) = cnt t + (if x.full then 1 else 0) :=
  cnt_set t i.toNat x (by omega)

/-- Where one comes to, looking for a key: ahead of it all slots from its home on are full, with other keys. -/
structure Fnd (t : List Ts) (k r : Int) : Prop where
  lo : 0 ≤ r
  hi : r < t.length
  ahead : ∀ y : Int, 0 ≤ y → y < t.length → ap t.length (hm k t.length) y < ap t.length (hm k t.length) r → (tg t y).full = true ∧ (tg t y).key ≠ k
  stop : (tg t r).full = false ∨ (tg t r).key = k

variable {hm}
theorem Fnd.hit {t : List Ts} {k r v : Int} (T : Ti hm t) (F : Fnd hm t k r) (h0 : 0 ≤ hm k t.length) (h1 : hm k t.length < t.length) (H : Tin t k v) : (tg t r).full = true ∧ (tg t r).key = k ∧ (tg t r).num = v := by
  obtain ⟨a, a0, a1, af, ak, av⟩ := H
  have hr : r = a := by
    have q1 := ap_lt h0 h1 F.lo F.hi
    have q2 := ap_lt h0 h1 a0 a1
    rcases Int.lt_trichotomy (ap t.length (hm k t.length) a) (ap t.length (hm k t.length) r) with hlt | heq | hgt
    · exact absurd ak (F.ahead a a0 a1 hlt).2
    · rw [← adv_ap h0 h1 F.lo F.hi, ← heq, adv_ap h0 h1 a0 a1]
    · have hf := T.gap a a0 a1 af r F.lo F.hi (by rw [ak]; exact hgt)
      rcases F.stop with hs | hs
      · rw [hf] at hs; cases hs
      · exact T.one r a F.lo F.hi a0 a1 hf af (hs.trans ak.symm)
  subst hr
  exact ⟨af, ak, av⟩

theorem Fnd.miss {t : List Ts} {k r : Int} (F : Fnd hm t k r) (H : ∀ v, ¬ Tin t k v) : (tg t r).full = false := by
  rcases F.stop with hs | hs
  · exact hs
  · cases hf : (tg t r).full with
    | false => rfl
    | true => exact absurd ⟨r, F.lo, F.hi, hf, hs, rfl⟩ (H (tg t r).num)

theorem Fnd.eq {t : List Ts} {k r r' : Int} (F : Fnd hm t k r) (F' : Fnd hm t k r') (h0 : 0 ≤ hm k t.length) (h1 : hm k t.length < t.length) : r = r' := by
  have q1 := ap_lt h0 h1 F.lo F.hi
  have q2 := ap_lt h0 h1 F'.lo F'.hi
  rcases Int.lt_trichotomy (ap t.length (hm k t.length) r) (ap t.length (hm k t.length) r') with hlt | heq | hgt
  · have q := F'.ahead r F.lo F.hi hlt
    rcases F.stop with hs | hs
    · rw [q.1] at hs; cases hs
    · exact absurd hs q.2
  · rw [← adv_ap h0 h1 F.lo F.hi, heq, adv_ap h0 h1 F'.lo F'.hi]
  · have q := F.ahead r' F'.lo F'.hi hgt
    rcases F'.stop with hs | hs
    · rw [q.1] at hs; cases hs
    · exact absurd hs q.2
/-- One comes to a slot, if there is an empty one. -/
theorem Fnd.ex {t : List Ts} (k : Int) (h0 : 0 ≤ hm k t.length) (h1 : hm k t.length < t.length) (he : ∃ e : Int, 0 ≤ e ∧ e < t.length ∧ (tg t e).full = false) : ∃ r, Fnd hm t k r := by
  obtain ⟨e, e0, e1, e2⟩ := he
  have stops : ∃ d : Nat, (d : Int) < t.length ∧ ((tg t (adv t.length (hm k t.length) d)).full = false ∨ (tg t (adv t.length (hm k t.length) d)).key = k) := by
    have q := ap_lt h0 h1 e0 e1
    refine ⟨(ap t.length (hm k t.length) e).toNat, by omega, .inl ?_⟩
    rw [Int.toNat_of_nonneg q.1, adv_ap h0 h1 e0 e1]
    exact e2
  obtain ⟨d, ⟨hd, hs⟩, hmin⟩ := exists_least stops
  have q := adv_lt h0 h1 (by omega : (0 : Int) ≤ d) hd
  refine ⟨adv t.length (hm k t.length) d, q.1, q.2, ?_, hs⟩
  intro y y0 y1 hy
  rw [ap_adv h0 h1 (by omega) hd] at hy
  have q2 := ap_lt h0 h1 y0 y1
  have hlt : (ap t.length (hm k t.length) y).toNat < d := by omega
  have hno : ¬ ((((ap t.length (hm k t.length) y).toNat : Nat) : Int) < t.length ∧ ((tg t (adv t.length (hm k t.length) (ap t.length (hm k t.length) y).toNat)).full = false ∨ (tg t (adv t.length (hm k t.length) (ap t.length (hm k t.length) y).toNat)).key = k)) :=
    fun h => absurd (hmin _ h) (by omega)
  rw [Int.toNat_of_nonneg q2.1, adv_ap h0 h1 y0 y1] at hno
  constructor
  · cases hf : (tg t y).full with
    | true => rfl
    | false => exact absurd ⟨q2.2, .inl hf⟩ hno
  · intro hk
    exact hno ⟨q2.2, .inr hk⟩

/-- A key that was not there, laid where one came to. -/
theorem Fnd.lay {t : List Ts} {k r v : Int} (T : Ti hm t) (F : Fnd hm t k r) (H : ∀ v, ¬ Tin t k v) :
    Ti hm (st t r ⟨k, v, true⟩) ∧ (∀ k' v', Tin (st t r ⟨k, v, true⟩) k' v' ↔ Tin t k' v' ∨ (k' = k ∧ v' = v)) ∧ cnt (st t r ⟨k, v, true⟩) = cnt t + 1 := by
  have he := F.miss H
  have g : ∀ a : Int, 0 ≤ a → tg (st t r ⟨k, v, true⟩) a = if r = a then ⟨k, v, true⟩ else tg t a := fun a h => gt_st _ _ F.lo F.hi h
  have hl : (st t r (⟨k, v, true⟩ : Ts)).length = t.length := st_length _ _ _
  refine ⟨⟨?_, ?_, ?_⟩, ?_, ?_⟩
  · intro a a0 a1 af y y0 y1 hy
    rw [hl] at a1 y1 hy
    rw [g a a0] at af hy
    rw [g y y0]
    split
    · rfl
    · by_cases hra : r = a
      · subst hra
        simp only [if_true] at hy
        exact (F.ahead y y0 y1 hy).1
      · rw [if_neg hra] at af hy
        exact T.gap a a0 a1 af y y0 y1 hy
  · intro a b a0 a1 b0 b1 af bf hab
    rw [hl] at a1 b1
    rw [g a a0] at af hab
    rw [g b b0] at bf hab
    by_cases hra : r = a <;> by_cases hrb : r = b
    · omega
    · rw [if_pos hra, if_neg hrb] at hab
      rw [if_neg hrb] at bf
      exact absurd ⟨b, b0, b1, bf, hab.symm, rfl⟩ (H (tg t b).num)
    · rw [if_neg hra, if_pos hrb] at hab
      rw [if_neg hra] at af
      exact absurd ⟨a, a0, a1, af, hab, rfl⟩ (H (tg t a).num)
    · rw [if_neg hra] at af
      rw [if_neg hrb] at bf
      rw [if_neg hra, if_neg hrb] at hab
      exact T.one a b a0 a1 b0 b1 af bf hab
  · intro a a0 a1 af
    rw [hl] at a1
    rw [g a a0] at af ⊢
    by_cases hra : r = a
    · rw [if_pos hra] at af; cases af
    · rw [if_neg hra] at af ⊢
      exact T.zero a a0 a1 af
  · intro k' v'
    constructor
    · rintro ⟨a, a0, a1, af, ak, av⟩
      rw [hl] at a1
      rw [g a a0] at af ak av
      by_cases hra : r = a
      · rw [if_pos hra] at ak av
        exact .inr ⟨ak.symm, av.symm⟩
      · rw [if_neg hra] at af ak av
        exact .inl ⟨a, a0, a1, af, ak, av⟩
    · rintro (⟨a, a0, a1, af, ak, av⟩ | ⟨rfl, rfl⟩)
      · have hra : r ≠ a := by rintro rfl; rw [he] at af; cases af
        exact ⟨a, a0, by rw [hl]; exact a1, by rw [g a a0, if_neg hra]; exact af, by rw [g a a0, if_neg hra]; exact ak, by rw [g a a0, if_neg hra]; exact av⟩
      · exact ⟨r, F.lo, by rw [hl]; exact F.hi, by rw [g r F.lo, if_pos rfl], by rw [g r F.lo, if_pos rfl], by rw [g r F.lo, if_pos rfl]⟩
  · have := cnt_st (t := t) ⟨k, v, true⟩ F.lo F.hi
    rw [he] at this
    simpa using this

/-- A taking out on its way: the slot h is a hole, though what it had still lies there; a is the slot that is looked at. -/
structure Hole (hm : Int → Int → Int) (t : List Ts) (t0 : List Ts) (k h a : Int) : Prop where
  len : t.length = t0.length
  h0 : 0 ≤ h
  h1 : h < t.length
  a0 : 0 ≤ a
  a1 : a < t.length
  hf : (tg t h).full = true
  gap : ∀ x : Int, 0 ≤ x → x < t.length → x ≠ h → (tg t x).full = true → ∀ y : Int, 0 ≤ y → y < t.length → ap t.length (hm (tg t x).key t.length) y < ap t.length (hm (tg t x).key t.length) x → (tg t y).full = true
  far : ∀ x : Int, 0 ≤ x → x < t.length → x ≠ h → (tg t x).full = true → ap t.length (hm (tg t x).key t.length) h < ap t.length (hm (tg t x).key t.length) x → ap t.length h a ≤ ap t.length h x
  one : ∀ x y : Int, 0 ≤ x → x < t.length → 0 ≤ y → y < t.length → x ≠ h → y ≠ h → (tg t x).full = true → (tg t y).full = true → (tg t x).key = (tg t y).key → x = y
  zero : ∀ x : Int, 0 ≤ x → x < t.length → (tg t x).full = false → (tg t x).num = 0
  ins : ∀ k' v', (∃ x, 0 ≤ x ∧ x < (t.length : Int) ∧ x ≠ h ∧ (tg t x).full = true ∧ (tg t x).key = k' ∧ (tg t x).num = v') ↔ (Tin t0 k' v' ∧ k' ≠ k)
  same : ∀ x : Int, 0 ≤ x → x < t.length → (tg t x).full = (tg t0 x).full
  cn : cnt t = cnt t0
  home : ∀ k', 0 ≤ hm k' t.length ∧ hm k' t.length < t.length

theorem Hole.begin {t : List Ts} {k h : Int} (T : Ti hm t) (h0 : 0 ≤ h) (h1 : h < t.length) (hf : (tg t h).full = true) (hk : (tg t h).key = k) (hh : ∀ k', 0 ≤ hm k' t.length ∧ hm k' t.length < t.length) (hn : 2 ≤ t.length) :
    Hole hm t t k h (adv t.length h 1) := by
  have hn' : (2 : Int) ≤ t.length := by omega
  refine ⟨rfl, h0, h1, (adv_lt h0 h1 (by omega) (by omega)).1, (adv_lt h0 h1 (by omega) (by omega)).2, hf, ?_, ?_, ?_, T.zero, ?_, fun _ _ _ => rfl, rfl, hh⟩
  · intro x x0 x1 _ xf y y0 y1 hy
    exact T.gap x x0 x1 xf y y0 y1 hy
  · intro x x0 x1 xh _ _
    rw [ap_adv h0 h1 (by omega) (by omega)]
    unfold ap; split <;> omega
  · intro x y x0 x1 y0 y1 _ _ xf yf
    exact T.one x y x0 x1 y0 y1 xf yf
  · intro k' v'
    constructor
    · rintro ⟨x, x0, x1, xh, xf, xk, xv⟩
      exact ⟨⟨x, x0, x1, xf, xk, xv⟩, by rintro rfl; exact xh (T.one x h x0 x1 h0 h1 xf hf (xk.trans hk.symm))⟩
    · rintro ⟨⟨x, x0, x1, xf, xk, xv⟩, hne⟩
      exact ⟨x, x0, x1, by rintro rfl; exact hne (xk.symm.trans hk), xf, xk, xv⟩

/-- The key there fits into the hole: it is moved; the hole is where it was. -/
theorem Hole.move {t t0 : List Ts} {k h a : Int} (H : Hole hm t t0 k h a) (af : (tg t a).full = true) (hah : a ≠ h)
    (hfit : ap t.length h a ≤ ap t.length (hm (tg t a).key t.length) a) (hn : 2 ≤ t.length) : Hole hm (st t h (tg t a)) t0 k a (adv t.length a 1) := by
  have hn' : (2 : Int) ≤ t.length := by omega
  obtain ⟨len, h0, h1, a0, a1, hf, gap, far, one, zero, ins, same, cn, home⟩ := H
  have g : ∀ x : Int, 0 ≤ x → tg (st t h (tg t a)) x = if h = x then tg t a else tg t x := fun x hx => gt_st _ _ h0 h1 hx
  have hl : (st t h (tg t a)).length = t.length := st_length _ _ _
  have full : ∀ x : Int, 0 ≤ x → x < t.length → (tg (st t h (tg t a)) x).full = (tg t x).full := by
    intro x x0 x1
    rw [g x x0]; split
    · rename_i e; subst e; rw [af, hf]
    · rfl
  have hm' := home (tg t a).key
  refine ⟨hl.trans len, a0, by rw [hl]; exact a1, ?_, ?_, ?_, ?_, ?_, ?_, ?_, ?_, ?_, ?_, ?_⟩
  · exact (adv_lt a0 a1 (by omega) (by omega)).1
  · rw [hl]; exact (adv_lt a0 a1 (by omega) (by omega)).2
  · rw [full a a0 a1]; exact af
  · intro x x0 x1 xa xf y y0 y1 hy
    rw [hl] at x1 y1 hy
    rw [full x x0 x1] at xf
    rw [full y y0 y1]
    rw [g x x0] at hy
    by_cases hx : h = x
    · subst hx
      rw [if_pos rfl] at hy
      refine gap a a0 a1 hah af y y0 y1 ?_
      revert hfit hy
      unfold ap
      (repeat' split) <;> omega
    · rw [if_neg hx] at hy
      exact gap x x0 x1 (by omega) xf y y0 y1 hy
  · intro x x0 x1 xa xf hp
    rw [hl] at x1 ⊢
    rw [ap_adv a0 a1 (by omega) (by omega)]
    unfold ap; split <;> omega
  · intro x y x0 x1 y0 y1 xa ya xf yf hxy
    rw [hl] at x1 y1
    rw [full x x0 x1] at xf
    rw [full y y0 y1] at yf
    rw [g x x0, g y y0] at hxy
    by_cases hx : h = x <;> by_cases hy : h = y
    · omega
    · rw [if_pos hx, if_neg hy] at hxy
      exact absurd (one a y a0 a1 y0 y1 hah (by omega) af yf hxy) (by omega)
    · rw [if_neg hx, if_pos hy] at hxy
      exact absurd (one x a x0 x1 a0 a1 (by omega) hah xf af hxy) (by omega)
    · rw [if_neg hx, if_neg hy] at hxy
      exact one x y x0 x1 y0 y1 (by omega) (by omega) xf yf hxy
  · intro x x0 x1 xf
    rw [hl] at x1
    rw [full x x0 x1] at xf
    rw [g x x0]
    split
    · rename_i e; subst e; rw [hf] at xf; cases xf
    · exact zero x x0 x1 xf
  · intro k' v'
    rw [← ins k' v']
    constructor
    · rintro ⟨x, x0, x1, xa, xf, xk, xv⟩
      rw [hl] at x1
      rw [full x x0 x1] at xf
      rw [g x x0] at xk xv
      by_cases hx : h = x
      · rw [if_pos hx] at xk xv
        exact ⟨a, a0, a1, hah, af, xk, xv⟩
      · rw [if_neg hx] at xk xv
        exact ⟨x, x0, x1, by omega, xf, xk, xv⟩
    · rintro ⟨x, x0, x1, xh, xf, xk, xv⟩
      by_cases hx : x = a
      · subst hx
        exact ⟨h, h0, by rw [hl]; exact h1, by omega, by rw [full h h0 h1]; exact hf, by rw [g h h0, if_pos rfl]; exact xk, by rw [g h h0, if_pos rfl]; exact xv⟩
      · exact ⟨x, x0, by rw [hl]; exact x1, hx, by rw [full x x0 x1]; exact xf, by rw [g x x0, if_neg (by omega)]; exact xk, by rw [g x x0, if_neg (by omega)]; exact xv⟩
  · intro x x0 x1
    rw [hl] at x1
    rw [full x x0 x1]; exact same x x0 x1
  · have := cnt_st (t := t) (tg t a) h0 h1
    rw [hf, af] at this
    omega
  · intro k'; rw [hl]; exact home k'

/-- The key there does not fit: one looks further. -/
theorem Hole.stay {t t0 : List Ts} {k h a : Int} (H : Hole hm t t0 k h a) (af : (tg t a).full = true) (hah : a ≠ h)
    (hfit : ap t.length (hm (tg t a).key t.length) a < ap t.length h a) (hn : 2 ≤ t.length) : Hole hm t t0 k h (adv t.length a 1) := by
  have hn' : (2 : Int) ≤ t.length := by omega
  obtain ⟨len, h0, h1, a0, a1, hf, gap, far, one, zero, ins, same, cn, home⟩ := H
  have hm' := home (tg t a).key
  refine ⟨len, h0, h1, (adv_lt a0 a1 (by omega) (by omega)).1, (adv_lt a0 a1 (by omega) (by omega)).2, hf, gap, ?_, one, zero, ins, same, cn, home⟩
  intro x x0 x1 xh xf hp
  have h2 := far x x0 x1 xh xf hp
  have hxa : x ≠ a := by
    rintro rfl
    revert hfit hp
    unfold ap
    (repeat' split) <;> omega
  revert h2
  unfold ap adv
  (repeat' split) <;> omega

/-- An empty slot is come to: the hole is made empty. -/
theorem Hole.done {t t0 : List Ts} {k h a : Int} (H : Hole hm t t0 k h a) (af : (tg t a).full = false) :
    Ti hm (st t h Ts.z) ∧ (∀ k' v', Tin (st t h Ts.z) k' v' ↔ Tin t0 k' v' ∧ k' ≠ k) ∧ cnt (st t h Ts.z) + 1 = cnt t0 ∧ (st t h Ts.z).length = t0.length := by
  obtain ⟨len, h0, h1, a0, a1, hf, gap, far, one, zero, ins, same, cn, home⟩ := H
  have g : ∀ x : Int, 0 ≤ x → tg (st t h Ts.z) x = if h = x then Ts.z else tg t x := fun x hx => gt_st _ _ h0 h1 hx
  have hl : (st t h Ts.z).length = t.length := st_length _ _ _
  have hah : a ≠ h := by rintro rfl; rw [hf] at af; cases af
  refine ⟨⟨?_, ?_, ?_⟩, ?_, ?_, hl.trans len⟩
  · intro x x0 x1 xf y y0 y1 hy
    rw [hl] at x1 y1 hy
    rw [g x x0] at xf hy
    by_cases hx : h = x
    · rw [if_pos hx] at xf; cases xf
    · rw [if_neg hx] at xf hy
      have hyf := gap x x0 x1 (by omega) xf y y0 y1 hy
      rw [g y y0]
      by_cases hyh : h = y
      · exfalso
        subst hyh
        have h2 := far x x0 x1 (by omega) xf hy
        have hxa : x ≠ a := by rintro rfl; rw [af] at xf; cases xf
        have hm' := home (tg t x).key
        have h3 := gap x x0 x1 (by omega) xf a a0 a1 (by
          revert h2 hy
          unfold ap
          (repeat' split) <;> omega)
        rw [af] at h3; cases h3
      · rw [if_neg hyh]; exact hyf
  · intro x y x0 x1 y0 y1 xf yf hxy
    rw [hl] at x1 y1
    rw [g x x0] at xf hxy
    rw [g y y0] at yf hxy
    by_cases hx : h = x
    · rw [if_pos hx] at xf; cases xf
    · by_cases hy : h = y
      · rw [if_pos hy] at yf; cases yf
      · rw [if_neg hx] at xf hxy
        rw [if_neg hy] at yf hxy
        exact one x y x0 x1 y0 y1 (by omega) (by omega) xf yf hxy
  · intro x x0 x1 xf
    rw [hl] at x1
    rw [g x x0] at xf ⊢
    by_cases hx : h = x
    · rw [if_pos hx]; rfl
    · rw [if_neg hx] at xf ⊢
      exact zero x x0 x1 xf
  · intro k' v'
    rw [← ins k' v']
    constructor
    · rintro ⟨x, x0, x1, xf, xk, xv⟩
      rw [hl] at x1
      rw [g x x0] at xf xk xv
      by_cases hx : h = x
      · rw [if_pos hx] at xf; cases xf
      · rw [if_neg hx] at xf xk xv
        exact ⟨x, x0, x1, by omega, xf, xk, xv⟩
    · rintro ⟨x, x0, x1, xh, xf, xk, xv⟩
      exact ⟨x, x0, by rw [hl]; exact x1, by rw [g x x0, if_neg (by omega)]; exact xf, by rw [g x x0, if_neg (by omega)]; exact xk, by rw [g x x0, if_neg (by omega)]; exact xv⟩
  · have := cnt_st (t := t) Ts.z h0 h1
    have hz : Ts.z.full = false := rfl
    rw [hf, hz] at this
    simp only [if_true, Bool.false_eq_true, if_false] at this
    omega

/-- The slot that is looked at lies behind the hole, and not behind an empty slot e; g slots are still to come. -/
structure Around (n h a e g : Int) : Prop where
  e0 : 0 ≤ e
  e1 : e < n
  lo : 1 ≤ ap n h a
  hi : ap n h a ≤ ap n h e
  eg : g = ap n a e
theorem Around.begin {n h e : Int} (h0 : 0 ≤ h) (h1 : h < n) (e0 : 0 ≤ e) (e1 : e < n) (he : h ≠ e) : Around n h (adv n h 1) e (ap n (adv n h 1) e) := by
  refine ⟨e0, e1, ?_, ?_, rfl⟩ <;> unfold ap adv <;> (repeat' split) <;> omega
theorem Around.ne {n h a e g : Int} (A : Around n h a e g) : a ≠ h := by
  rintro rfl
  have := A.lo
  rw [ap_self] at this
  omega
theorem Around.stay {n h a e g : Int} (A : Around n h a e g) (h0 : 0 ≤ h) (h1 : h < n) (a0 : 0 ≤ a) (a1 : a < n) (hae : a ≠ e) : Around n h (adv n a 1) e (g - 1) ∧ 0 < g := by
  obtain ⟨e0, e1, lo, hi, eg⟩ := A
  refine ⟨⟨e0, e1, ?_, ?_, ?_⟩, ?_⟩
  · revert lo hi; unfold ap adv; (repeat' split) <;> omega
  · revert lo hi; unfold ap adv; (repeat' split) <;> omega
  · rw [eg]; unfold ap adv; (repeat' split) <;> omega
  · rw [eg]; unfold ap; split <;> omega
theorem Around.move {n h a e g : Int} (A : Around n h a e g) (a0 : 0 ≤ a) (a1 : a < n) (hae : a ≠ e) : Around n a (adv n a 1) e (g - 1) ∧ 0 < g := by
  obtain ⟨e0, e1, lo, hi, eg⟩ := A
  have B := Around.begin a0 a1 e0 e1 hae
  refine ⟨⟨e0, e1, B.lo, B.hi, ?_⟩, ?_⟩
  · rw [eg]; unfold ap adv; (repeat' split) <;> omega
  · rw [eg]; unfold ap; split <;> omega

/-- All keys of the first slots, laid into twice as many. -/
structure Grw (hm : Int → Int → Int) (t t' : List Ts) (i : Nat) : Prop where
  len : t'.length = 2 * t.length
  ti : Ti hm t'
  ins : ∀ k v, Tin t' k v ↔ ∃ a : Int, 0 ≤ a ∧ a < i ∧ (tg t a).full = true ∧ (tg t a).key = k ∧ (tg t a).num = v
  cn : cnt t' = cnt (t.take i)
theorem cnt_take (t : List Ts) (i : Nat) (h : i < t.length) : cnt (t.take (i + 1)) = cnt (t.take i) + (if (tg t i).full then 1 else 0) := by
  have e : tg t i = t[i] := by show gt t i Ts.z = _; simp [gt, h]
  rw [List.take_succ_eq_append_getElem h, e]
  unfold cnt
  rw [List.filter_append, List.length_append]
  cases hf : t[i].full <;> simp [List.filter_cons, hf]
theorem Grw.skip {t t' : List Ts} {i : Nat} (G : Grw hm t t' i) (h : i < t.length) (hf : (tg t i).full = false) : Grw hm t t' (i + 1) := by
  refine ⟨G.len, G.ti, fun k v => ?_, by rw [cnt_take t i h, hf, G.cn]; rfl⟩
  rw [G.ins]
  constructor
  · rintro ⟨a, a0, a1, h⟩
    exact ⟨a, a0, by omega, h⟩
  · rintro ⟨a, a0, a1, h⟩
    refine ⟨a, a0, ?_, h⟩
    have : a ≠ i := by rintro rfl; rw [hf] at h; cases h.1
    omega
theorem Grw.absent {t t' : List Ts} {i : Nat} (T : Ti hm t) (G : Grw hm t t' i) (h : i < t.length) (hf : (tg t i).full = true) : ∀ v, ¬ Tin t' (tg t i).key v := by
  intro v hv
  obtain ⟨a, a0, a1, af, ak, av⟩ := (G.ins _ _).1 hv
  have := T.one a i a0 (by omega) (by omega) (by omega) af hf ak
  omega
theorem Grw.step {t t' : List Ts} {i : Nat} {r : Int} (T : Ti hm t) (G : Grw hm t t' i) (h : i < t.length) (hf : (tg t i).full = true) (F : Fnd hm t' (tg t i).key r) : Grw hm t (st t' r ⟨(tg t i).key, (tg t i).num, true⟩) (i + 1) := by
  have L := F.lay G.ti (v := (tg t i).num) (G.absent T h hf)
  refine ⟨(st_length _ _ _).trans G.len, L.1, fun k v => ?_, by rw [L.2.2, cnt_take t i h, hf, G.cn]; rfl⟩
  rw [L.2.1, G.ins]
  constructor
  · rintro (⟨a, a0, a1, h⟩ | ⟨rfl, rfl⟩)
    · exact ⟨a, a0, by omega, h⟩
    · exact ⟨i, by omega, by omega, hf, rfl, rfl⟩
  · rintro ⟨a, a0, a1, af, ak, av⟩
    by_cases e : a = i
    · subst e; exact .inr ⟨ak.symm, av.symm⟩
    · exact .inl ⟨a, a0, by omega, af, ak, av⟩
theorem Grw.done {t t' : List Ts} (G : Grw hm t t' t.length) : Ti hm t' ∧ (∀ k v, Tin t' k v ↔ Tin t k v) ∧ cnt t' = cnt t ∧ t'.length = 2 * t.length :=
  ⟨G.ti, fun k v => G.ins k v, by rw [G.cn, List.take_length], G.len⟩

/-- A table of empty slots. -/
theorem Ti.empty (n : Nat) : Ti hm (List.replicate n Ts.z) ∧ (∀ k v, ¬ Tin (List.replicate n Ts.z) k v) ∧ cnt (List.replicate n Ts.z) = 0 := by
  have g : ∀ x, tg (List.replicate n Ts.z) x = Ts.z := by
    intro x; show gt _ x Ts.z = _; unfold gt; rw [List.getD_eq_getElem?_getD, List.getElem?_replicate]; split <;> rfl
  refine ⟨⟨?_, ?_, ?_⟩, ?_, ?_⟩
  · intro a _ _ af; rw [g] at af; cases af
  · intro a b _ _ _ _ af; rw [g] at af; cases af
  · intro a _ _ _; rw [g]; rfl
  · rintro k v ⟨a, _, _, af, _⟩; rw [g] at af; cases af
  · simp [cnt, Ts.z]
theorem Grw.begin (t : List Ts) : Grw hm t (List.replicate (2 * t.length) Ts.z) 0 := by
  obtain ⟨h1, h2, h3⟩ := Ti.empty (hm := hm) (2 * t.length)
  refine ⟨by simp, h1, fun k v => ⟨fun h => absurd h (h2 k v), ?_⟩, by rw [h3]; rfl⟩
  rintro ⟨a, a0, a1, _⟩
  omega
end
end Hop
end Go.Proofs.Ytlakojncjldpbaa
