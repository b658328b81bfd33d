/- The table with open addressing, as plain lists: what find comes to, and that laying in and taking out keep the rule of the probes. No program in sight. -/
import Derived.WalkKit
import Derived.Deep.LoopGhost
import Derived.Laws.CopyOwn
import Derived.OwnWalk
import Derived.ArgAppend
namespace Go.Proofs.Ytlakojncjldpbaa
namespace Hop
set_option linter.unusedVariables false
set_option linter.unusedSimpArgs false
/-- A list's element at a whole number. -/
def gt {α : Type} (l : List α) (i : Int) (d : α) : α := l.getD i.toNat d
def st {α : Type} (l : List α) (i : Int) (v : α) : List α := l.set i.toNat v
theorem st_length {α : Type} (l : List α) (i : Int) (v : α) : (st l i v).length = l.length := by simp [st]
theorem gt_st_same {α : Type} {l : List α} {i : Int} (v d : α) (h0 : 0 ≤ i) (h1 : i < l.length) : gt (st l i v) i d = v := by
  unfold gt st; rw [List.getD_eq_getElem?_getD, List.getElem?_set_self (by omega)]; rfl
theorem gt_st_ne {α : Type} {l : List α} {i j : Int} (v d : α) (h0 : 0 ≤ i) (h1 : 0 ≤ j) (h : i ≠ j) : gt (st l i v) j d = gt l j d := by
  unfold gt st; rw [List.getD_eq_getElem?_getD, List.getElem?_set_ne (by omega), List.getD_eq_getElem?_getD]
theorem gt_st {α : Type} {l : List α} {i j : Int} (v d : α) (h0 : 0 ≤ i) (h1 : i < l.length) (h2 : 0 ≤ j) : gt (st l i v) j d = if i = j then v else gt l j d := by
  split
  · rename_i h; subst h; exact gt_st_same v d h0 h1
  · rename_i h; exact gt_st_ne v d h0 h2 h

/-- A slot of the table. -/
structure Ts where
  key : Int
  num : Int
  full : Bool
def Ts.z : Ts := ⟨0, 0, false⟩
abbrev tg (t : List Ts) (a : Int) : Ts := gt t a Ts.z

/-- How far a place is behind another one; the place so far behind. -/
def ap (n h a : Int) : Int := if h ≤ a then a - h else a + n - h
def adv (n h j : Int) : Int := if h + j < n then h + j else h + j - n

theorem ap_lt {n h a : Int} (h0 : 0 ≤ h) (h1 : h < n) (a0 : 0 ≤ a) (a1 : a < n) : 0 ≤ ap n h a ∧ ap n h a < n := by unfold ap; split <;> omega
theorem adv_lt {n h j : Int} (h0 : 0 ≤ h) (h1 : h < n) (a0 : 0 ≤ j) (a1 : j < n) : 0 ≤ adv n h j ∧ adv n h j < n := by unfold adv; split <;> omega
theorem adv_ap {n h a : Int} (h0 : 0 ≤ h) (h1 : h < n) (a0 : 0 ≤ a) (a1 : a < n) : adv n h (ap n h a) = a := by unfold ap adv; (repeat' split) <;> omega
theorem ap_adv {n h j : Int} (h0 : 0 ≤ h) (h1 : h < n) (a0 : 0 ≤ j) (a1 : j < n) : ap n h (adv n h j) = j := by unfold ap adv; (repeat' split) <;> omega
theorem ap_self {n h : Int} : ap n h h = 0 := by unfold ap; split <;> omega
theorem adv_zero {n h : Int} (h1 : h < n) : adv n h 0 = h := by unfold adv; split <;> omega
theorem adv_succ {n h j : Int} (h0 : 0 ≤ h) (h1 : h < n) (a0 : 0 ≤ j) (a1 : j + 1 < n) : adv n h (j + 1) = adv n (adv n h j) 1 := by unfold adv; (repeat' split) <;> omega

section
variable (hm : Int → Int → Int)   -- a key's home in so many slots

/-- The rule of the probes, but for the slot h (-1: for none). -/
structure Ti (t : List Ts) : Prop where
  gap : ∀ a : Int, 0 ≤ a → a < t.length → (tg t a).full = true → ∀ y : Int, 0 ≤ y → y < t.length → ap t.length (hm (tg t a).key t.length) y < ap t.length (hm (tg t a).key t.length) a → (tg t y).full = true
  one : ∀ a b : Int, 0 ≤ a → a < t.length → 0 ≤ b → b < t.length → (tg t a).full = true → (tg t b).full = true → (tg t a).key = (tg t b).key → a = b
  zero : ∀ a : Int, 0 ≤ a → a < t.length → (tg t a).full = false → (tg t a).num = 0

/-- A key has a number. -/
def Tin (t : List Ts) (k v : Int) : Prop := ∃ a, 0 ≤ a ∧ a < (t.length : Int) ∧ (tg t a).full = true ∧ (tg t a).key = k ∧ (tg t a).num = v

def cnt (t : List Ts) : Nat := (t.filter (·.full)).length

theorem cnt_le (t : List Ts) : cnt t ≤ t.length := List.length_filter_le _ _

theorem exists_empty {t : List Ts} (h : cnt t < t.length) : ∃ e : Int, 0 ≤ e ∧ e < t.length ∧ (tg t e).full = false := by
  induction t with
  | nil => simp [cnt] at h
  | cons x r ih =>
    cases hx : x.full with
    | false => exact ⟨0, by omega, by rw [List.length_cons]; omega, by simpa [gt] using hx⟩
    | true =>
      obtain ⟨e, h0, h1, h2⟩ := ih (by simp [cnt, hx] at h ⊢; omega)
      refine ⟨e + 1, by omega, by rw [List.length_cons]; omega, ?_⟩
      have : (e + 1).toNat = e.toNat + 1 := by omega
      simpa [gt, this] using h2

theorem cnt_set (t : List Ts) : ∀ (i : Nat) (x : Ts), i < t.length → cnt (t.set i x) + (if (t.getD i Ts.z).full then 1 else 0) = cnt t + (if x.full then 1 else 0) := by
  induction t with
  | nil => intro i x h; simp at h
  | cons y r ih =>
    intro i x h
    cases i with
    | zero => cases hy : y.full <;> cases hx : x.full <;> simp [cnt, hy, hx]
    | succ i =>
      have := ih i x (by simpa using h)
      cases hy : y.full <;> simp [cnt, hy] at this ⊢ <;> omega

theorem cnt_st {t : List Ts} {i : Int} (x : Ts) (h0 : 0 ≤ i) (h1 : i < t.length) : cnt (st t i x) + (if (tg t i).full then 1 else 0) = cnt t + (if x.full then 1 else 0) :=
  cnt_set t i.toNat x (by omega)

/-- Where one comes to, looking for a key: ahead of it all slots from its home on are full, with other keys. -/
structure Fnd (t : List Ts) (k r : Int) : Prop where
  lo : 0 ≤ r
  hi : r < t.length
  ahead : ∀ y : Int, 0 ≤ y → y < t.length → ap t.length (hm k t.length) y < ap t.length (hm k t.length) r → (tg t y).full = true ∧ (tg t y).key ≠ k
  stop : (tg t r).full = false ∨ (tg t r).key = k

variable {hm}
theorem Fnd.hit {t : List Ts} {k r v : Int} (T : Ti hm t) (F : Fnd hm t k r) (h0 : 0 ≤ hm k t.length) (h1 : hm k t.length < t.length) (H : Tin t k v) : (tg t r).full = true ∧ (tg t r).key = k ∧ (tg t r).num = v := by
  obtain ⟨a, a0, a1, af, ak, av⟩ := H
  have hr : r = a := by
    have q1 := ap_lt h0 h1 F.lo F.hi
    have q2 := ap_lt h0 h1 a0 a1
    rcases Int.lt_trichotomy (ap t.length (hm k t.length) a) (ap t.length (hm k t.length) r) with hlt | heq | hgt
    · exact absurd ak (F.ahead a a0 a1 hlt).2
    · rw [← adv_ap h0 h1 F.lo F.hi, ← heq, adv_ap h0 h1 a0 a1]
    · have hf := T.gap a a0 a1 af r F.lo F.hi (by rw [ak]; exact hgt)
      rcases F.stop with hs | hs
      · rw [hf] at hs; cases hs
      · exact T.one r a F.lo F.hi a0 a1 hf af (hs.trans ak.symm)
  subst hr
  exact ⟨af, ak, av⟩

theorem Fnd.miss {t : List Ts} {k r : Int} (F : Fnd hm t k r) (H : ∀ v, ¬ Tin t k v) : (tg t r).full = false := by
  rcases F.stop with hs | hs
  · exact hs
  · cases hf : (tg t r).full with
    | false => rfl
    | true => exact absurd ⟨r, F.lo, F.hi, hf, hs, rfl⟩ (H (tg t r).num)

theorem Fnd.eq {t : List Ts} {k r r' : Int} (F : Fnd hm t k r) (F' : Fnd hm t k r') (h0 : 0 ≤ hm k t.length) (h1 : hm k t.length < t.length) : r = r' := by
  have q1 := ap_lt h0 h1 F.lo F.hi
  have q2 := ap_lt h0 h1 F'.lo F'.hi
  rcases Int.lt_trichotomy (ap t.length (hm k t.length) r) (ap t.length (hm k t.length) r') with hlt | heq | hgt
  · have q := F'.ahead r F.lo F.hi hlt
    rcases F.stop with hs | hs
    · rw [q.1] at hs; cases hs
    · exact absurd hs q.2
  · rw [← adv_ap h0 h1 F.lo F.hi, heq, adv_ap h0 h1 F'.lo F'.hi]
  · have q := F.ahead r' F'.lo F'.hi hgt
    rcases F'.stop with hs | hs
    · rw [q.1] at hs; cases hs
    · exact absurd hs q.2
/-- One comes to a slot, if there is an empty one. -/
theorem Fnd.ex {t : List Ts} (k : Int) (h0 : 0 ≤ hm k t.length) (h1 : hm k t.length < t.length) (he : ∃ e : Int, 0 ≤ e ∧ e < t.length ∧ (tg t e).full = false) : ∃ r, Fnd hm t k r := by
  obtain ⟨e, e0, e1, e2⟩ := he
  have stops : ∃ d : Nat, (d : Int) < t.length ∧ ((tg t (adv t.length (hm k t.length) d)).full = false ∨ (tg t (adv t.length (hm k t.length) d)).key = k) := by
    have q := ap_lt h0 h1 e0 e1
    refine ⟨(ap t.length (hm k t.length) e).toNat, by omega, .inl ?_⟩
    rw [Int.toNat_of_nonneg q.1, adv_ap h0 h1 e0 e1]
    exact e2
  obtain ⟨d, ⟨hd, hs⟩, hmin⟩ := exists_least stops
  have q := adv_lt h0 h1 (by omega : (0 : Int) ≤ d) hd
  refine ⟨adv t.length (hm k t.length) d, q.1, q.2, ?_, hs⟩
  intro y y0 y1 hy
  rw [ap_adv h0 h1 (by omega) hd] at hy
  have q2 := ap_lt h0 h1 y0 y1
  have hlt : (ap t.length (hm k t.length) y).toNat < d := by omega
  have hno : ¬ ((((ap t.length (hm k t.length) y).toNat : Nat) : Int) < t.length ∧ ((tg t (adv t.length (hm k t.length) (ap t.length (hm k t.length) y).toNat)).full = false ∨ (tg t (adv t.length (hm k t.length) (ap t.length (hm k t.length) y).toNat)).key = k)) :=
    fun h => absurd (hmin _ h) (by omega)
  rw [Int.toNat_of_nonneg q2.1, adv_ap h0 h1 y0 y1] at hno
  constructor
  · cases hf : (tg t y).full with
    | true => rfl
    | false => exact absurd ⟨q2.2, .inl hf⟩ hno
  · intro hk
    exact hno ⟨q2.2, .inr hk⟩

/-- A key that was not there, laid where one came to. -/
theorem Fnd.lay {t : List Ts} {k r v : Int} (T : Ti hm t) (F : Fnd hm t k r) (H : ∀ v, ¬ Tin t k v) :
    Ti hm (st t r ⟨k, v, true⟩) ∧ (∀ k' v', Tin (st t r ⟨k, v, true⟩) k' v' ↔ Tin t k' v' ∨ (k' = k ∧ v' = v)) ∧ cnt (st t r ⟨k, v, true⟩) = cnt t + 1 := by
  have he := F.miss H
  have g : ∀ a : Int, 0 ≤ a → tg (st t r ⟨k, v, true⟩) a = if r = a then ⟨k, v, true⟩ else tg t a := fun a h => gt_st _ _ F.lo F.hi h
  have hl : (st t r (⟨k, v, true⟩ : Ts)).length = t.length := st_length _ _ _
  refine ⟨⟨?_, ?_, ?_⟩, ?_, ?_⟩
  · intro a a0 a1 af y y0 y1 hy
    rw [hl] at a1 y1 hy
    rw [g a a0] at af hy
    rw [g y y0]
    split
    · rfl
    · by_cases hra : r = a
      · subst hra
        simp only [if_true] at hy
        exact (F.ahead y y0 y1 hy).1
      · rw [if_neg hra] at af hy
        exact T.gap a a0 a1 af y y0 y1 hy
  · intro a b a0 a1 b0 b1 af bf hab
    rw [hl] at a1 b1
    rw [g a a0] at af hab
    rw [g b b0] at bf hab
    by_cases hra : r = a <;> by_cases hrb : r = b
    · omega
    · rw [if_pos hra, if_neg hrb] at hab
      rw [if_neg hrb] at bf
      exact absurd ⟨b, b0, b1, bf, hab.symm, rfl⟩ (H (tg t b).num)
    · rw [if_neg hra, if_pos hrb] at hab
      rw [if_neg hra] at af
      exact absurd ⟨a, a0, a1, af, hab, rfl⟩ (H (tg t a).num)
    · rw [if_neg hra] at af
      rw [if_neg hrb] at bf
      rw [if_neg hra, if_neg hrb] at hab
      exact T.one a b a0 a1 b0 b1 af bf hab
  · intro a a0 a1 af
    rw [hl] at a1
    rw [g a a0] at af ⊢
    by_cases hra : r = a
    · rw [if_pos hra] at af; cases af
    · rw [if_neg hra] at af ⊢
      exact T.zero a a0 a1 af
  · intro k' v'
    constructor
    · rintro ⟨a, a0, a1, af, ak, av⟩
      rw [hl] at a1
      rw [g a a0] at af ak av
      by_cases hra : r = a
      · rw [if_pos hra] at ak av
        exact .inr ⟨ak.symm, av.symm⟩
      · rw [if_neg hra] at af ak av
        exact .inl ⟨a, a0, a1, af, ak, av⟩
    · rintro (⟨a, a0, a1, af, ak, av⟩ | ⟨rfl, rfl⟩)
      · have hra : r ≠ a := by rintro rfl; rw [he] at af; cases af
        exact ⟨a, a0, by rw [hl]; exact a1, by rw [g a a0, if_neg hra]; exact af, by rw [g a a0, if_neg hra]; exact ak, by rw [g a a0, if_neg hra]; exact av⟩
      · exact ⟨r, F.lo, by rw [hl]; exact F.hi, by rw [g r F.lo, if_pos rfl], by rw [g r F.lo, if_pos rfl], by rw [g r F.lo, if_pos rfl]⟩
  · have := cnt_st (t := t) ⟨k, v, true⟩ F.lo F.hi
    rw [he] at this
    simpa using this

/-- A taking out on its way: the slot h is a hole, though what it had still lies there; a is the slot that is looked at. -/
structure Hole (hm : Int → Int → Int) (t : List Ts) (t0 : List Ts) (k h a : Int) : Prop where
  len : t.length = t0.length
  h0 : 0 ≤ h
  h1 : h < t.length
  a0 : 0 ≤ a
  a1 : a < t.length
  hf : (tg t h).full = true
  gap : ∀ x : Int, 0 ≤ x → x < t.length → x ≠ h → (tg t x).full = true → ∀ y : Int, 0 ≤ y → y < t.length → ap t.length (hm (tg t x).key t.length) y < ap t.length (hm (tg t x).key t.length) x → (tg t y).full = true
  far : ∀ x : Int, 0 ≤ x → x < t.length → x ≠ h → (tg t x).full = true → ap t.length (hm (tg t x).key t.length) h < ap t.length (hm (tg t x).key t.length) x → ap t.length h a ≤ ap t.length h x
  one : ∀ x y : Int, 0 ≤ x → x < t.length → 0 ≤ y → y < t.length → x ≠ h → y ≠ h → (tg t x).full = true → (tg t y).full = true → (tg t x).key = (tg t y).key → x = y
  zero : ∀ x : Int, 0 ≤ x → x < t.length → (tg t x).full = false → (tg t x).num = 0
  ins : ∀ k' v', (∃ x, 0 ≤ x ∧ x < (t.length : Int) ∧ x ≠ h ∧ (tg t x).full = true ∧ (tg t x).key = k' ∧ (tg t x).num = v') ↔ (Tin t0 k' v' ∧ k' ≠ k)
  same : ∀ x : Int, 0 ≤ x → x < t.length → (tg t x).full = (tg t0 x).full
  cn : cnt t = cnt t0
  home : ∀ k', 0 ≤ hm k' t.length ∧ hm k' t.length < t.length

theorem Hole.begin {t : List Ts} {k h : Int} (T : Ti hm t) (h0 : 0 ≤ h) (h1 : h < t.length) (hf : (tg t h).full = true) (hk : (tg t h).key = k) (hh : ∀ k', 0 ≤ hm k' t.length ∧ hm k' t.length < t.length) (hn : 2 ≤ t.length) :
    Hole hm t t k h (adv t.length h 1) := by
  have hn' : (2 : Int) ≤ t.length := by omega
  refine ⟨rfl, h0, h1, (adv_lt h0 h1 (by omega) (by omega)).1, (adv_lt h0 h1 (by omega) (by omega)).2, hf, ?_, ?_, ?_, T.zero, ?_, fun _ _ _ => rfl, rfl, hh⟩
  · intro x x0 x1 _ xf y y0 y1 hy
    exact T.gap x x0 x1 xf y y0 y1 hy
  · intro x x0 x1 xh _ _
    rw [ap_adv h0 h1 (by omega) (by omega)]
    unfold ap; split <;> omega
  · intro x y x0 x1 y0 y1 _ _ xf yf
    exact T.one x y x0 x1 y0 y1 xf yf
  · intro k' v'
    constructor
    · rintro ⟨x, x0, x1, xh, xf, xk, xv⟩
      exact ⟨⟨x, x0, x1, xf, xk, xv⟩, by rintro rfl; exact xh (T.one x h x0 x1 h0 h1 xf hf (xk.trans hk.symm))⟩
    · rintro ⟨⟨x, x0, x1, xf, xk, xv⟩, hne⟩
      exact ⟨x, x0, x1, by rintro rfl; exact hne (xk.symm.trans hk), xf, xk, xv⟩

/-- The key there fits into the hole: it is moved; the hole is where it was. -/
theorem Hole.move {t t0 : List Ts} {k h a : Int} (H : Hole hm t t0 k h a) (af : (tg t a).full = true) (hah : a ≠ h)
    (hfit : ap t.length h a ≤ ap t.length (hm (tg t a).key t.length) a) (hn : 2 ≤ t.length) : Hole hm (st t h (tg t a)) t0 k a (adv t.length a 1) := by
  have hn' : (2 : Int) ≤ t.length := by omega
  obtain ⟨len, h0, h1, a0, a1, hf, gap, far, one, zero, ins, same, cn, home⟩ := H
  have g : ∀ x : Int, 0 ≤ x → tg (st t h (tg t a)) x = if h = x then tg t a else tg t x := fun x hx => gt_st _ _ h0 h1 hx
  have hl : (st t h (tg t a)).length = t.length := st_length _ _ _
  have full : ∀ x : Int, 0 ≤ x → x < t.length → (tg (st t h (tg t a)) x).full = (tg t x).full := by
    intro x x0 x1
    rw [g x x0]; split
    · rename_i e; subst e; rw [af, hf]
    · rfl
  have hm' := home (tg t a).key
  refine ⟨hl.trans len, a0, by rw [hl]; exact a1, ?_, ?_, ?_, ?_, ?_, ?_, ?_, ?_, ?_, ?_, ?_⟩
  · exact (adv_lt a0 a1 (by omega) (by omega)).1
  · rw [hl]; exact (adv_lt a0 a1 (by omega) (by omega)).2
  · rw [full a a0 a1]; exact af
  · intro x x0 x1 xa xf y y0 y1 hy
    rw [hl] at x1 y1 hy
    rw [full x x0 x1] at xf
    rw [full y y0 y1]
    rw [g x x0] at hy
    by_cases hx : h = x
    · subst hx
      rw [if_pos rfl] at hy
      refine gap a a0 a1 hah af y y0 y1 ?_
      revert hfit hy
      unfold ap
      (repeat' split) <;> omega
    · rw [if_neg hx] at hy
      exact gap x x0 x1 (by omega) xf y y0 y1 hy
  · intro x x0 x1 xa xf hp
    rw [hl] at x1 ⊢
    rw [ap_adv a0 a1 (by omega) (by omega)]
    unfold ap; split <;> omega
  · intro x y x0 x1 y0 y1 xa ya xf yf hxy
    rw [hl] at x1 y1
    rw [full x x0 x1] at xf
    rw [full y y0 y1] at yf
    rw [g x x0, g y y0] at hxy
    by_cases hx : h = x <;> by_cases hy : h = y
    · omega
    · rw [if_pos hx, if_neg hy] at hxy
      exact absurd (one a y a0 a1 y0 y1 hah (by omega) af yf hxy) (by omega)
    · rw [if_neg hx, if_pos hy] at hxy
      exact absurd (one x a x0 x1 a0 a1 (by omega) hah xf af hxy) (by omega)
    · rw [if_neg hx, if_neg hy] at hxy
      exact one x y x0 x1 y0 y1 (by omega) (by omega) xf yf hxy
  · intro x x0 x1 xf
    rw [hl] at x1
    rw [full x x0 x1] at xf
    rw [g x x0]
    split
    · rename_i e; subst e; rw [hf] at xf; cases xf
    · exact zero x x0 x1 xf
  · intro k' v'
    rw [← ins k' v']
    constructor
    · rintro ⟨x, x0, x1, xa, xf, xk, xv⟩
      rw [hl] at x1
      rw [full x x0 x1] at xf
      rw [g x x0] at xk xv
      by_cases hx : h = x
      · rw [if_pos hx] at xk xv
        exact ⟨a, a0, a1, hah, af, xk, xv⟩
      · rw [if_neg hx] at xk xv
        exact ⟨x, x0, x1, by omega, xf, xk, xv⟩
    · rintro ⟨x, x0, x1, xh, xf, xk, xv⟩
      by_cases hx : x = a
      · subst hx
        exact ⟨h, h0, by rw [hl]; exact h1, by omega, by rw [full h h0 h1]; exact hf, by rw [g h h0, if_pos rfl]; exact xk, by rw [g h h0, if_pos rfl]; exact xv⟩
      · exact ⟨x, x0, by rw [hl]; exact x1, hx, by rw [full x x0 x1]; exact xf, by rw [g x x0, if_neg (by omega)]; exact xk, by rw [g x x0, if_neg (by omega)]; exact xv⟩
  · intro x x0 x1
    rw [hl] at x1
    rw [full x x0 x1]; exact same x x0 x1
  · have := cnt_st (t := t) (tg t a) h0 h1
    rw [hf, af] at this
    omega
  · intro k'; rw [hl]; exact home k'

/-- The key there does not fit: one looks further. -/
theorem Hole.stay {t t0 : List Ts} {k h a : Int} (H : Hole hm t t0 k h a) (af : (tg t a).full = true) (hah : a ≠ h)
    (hfit : ap t.length (hm (tg t a).key t.length) a < ap t.length h a) (hn : 2 ≤ t.length) : Hole hm t t0 k h (adv t.length a 1) := by
  have hn' : (2 : Int) ≤ t.length := by omega
  obtain ⟨len, h0, h1, a0, a1, hf, gap, far, one, zero, ins, same, cn, home⟩ := H
  have hm' := home (tg t a).key
  refine ⟨len, h0, h1, (adv_lt a0 a1 (by omega) (by omega)).1, (adv_lt a0 a1 (by omega) (by omega)).2, hf, gap, ?_, one, zero, ins, same, cn, home⟩
  intro x x0 x1 xh xf hp
  have h2 := far x x0 x1 xh xf hp
  have hxa : x ≠ a := by
    rintro rfl
    revert hfit hp
    unfold ap
    (repeat' split) <;> omega
  revert h2
  unfold ap adv
  (repeat' split) <;> omega

/-- An empty slot is come to: the hole is made empty. -/
theorem Hole.done {t t0 : List Ts} {k h a : Int} (H : Hole hm t t0 k h a) (af : (tg t a).full = false) :
    Ti hm (st t h Ts.z) ∧ (∀ k' v', Tin (st t h Ts.z) k' v' ↔ Tin t0 k' v' ∧ k' ≠ k) ∧ cnt (st t h Ts.z) + 1 = cnt t0 ∧ (st t h Ts.z).length = t0.length := by
  obtain ⟨len, h0, h1, a0, a1, hf, gap, far, one, zero, ins, same, cn, home⟩ := H
  have g : ∀ x : Int, 0 ≤ x → tg (st t h Ts.z) x = if h = x then Ts.z else tg t x := fun x hx => gt_st _ _ h0 h1 hx
  have hl : (st t h Ts.z).length = t.length := st_length _ _ _
  have hah : a ≠ h := by rintro rfl; rw [hf] at af; cases af
  refine ⟨⟨?_, ?_, ?_⟩, ?_, ?_, hl.trans len⟩
  · intro x x0 x1 xf y y0 y1 hy
    rw [hl] at x1 y1 hy
    rw [g x x0] at xf hy
    by_cases hx : h = x
    · rw [if_pos hx] at xf; cases xf
    · rw [if_neg hx] at xf hy
      have hyf := gap x x0 x1 (by omega) xf y y0 y1 hy
      rw [g y y0]
      by_cases hyh : h = y
      · exfalso
        subst hyh
        have h2 := far x x0 x1 (by omega) xf hy
        have hxa : x ≠ a := by rintro rfl; rw [af] at xf; cases xf
        have hm' := home (tg t x).key
        have h3 := gap x x0 x1 (by omega) xf a a0 a1 (by
          revert h2 hy
          unfold ap
          (repeat' split) <;> omega)
        rw [af] at h3; cases h3
      · rw [if_neg hyh]; exact hyf
  · intro x y x0 x1 y0 y1 xf yf hxy
    rw [hl] at x1 y1
    rw [g x x0] at xf hxy
    rw [g y y0] at yf hxy
    by_cases hx : h = x
    · rw [if_pos hx] at xf; cases xf
    · by_cases hy : h = y
      · rw [if_pos hy] at yf; cases yf
      · rw [if_neg hx] at xf hxy
        rw [if_neg hy] at yf hxy
        exact one x y x0 x1 y0 y1 (by omega) (by omega) xf yf hxy
  · intro x x0 x1 xf
    rw [hl] at x1
    rw [g x x0] at xf ⊢
    by_cases hx : h = x
    · rw [if_pos hx]; rfl
    · rw [if_neg hx] at xf ⊢
      exact zero x x0 x1 xf
  · intro k' v'
    rw [← ins k' v']
    constructor
    · rintro ⟨x, x0, x1, xf, xk, xv⟩
      rw [hl] at x1
      rw [g x x0] at xf xk xv
      by_cases hx : h = x
      · rw [if_pos hx] at xf; cases xf
      · rw [if_neg hx] at xf xk xv
        exact ⟨x, x0, x1, by omega, xf, xk, xv⟩
    · rintro ⟨x, x0, x1, xh, xf, xk, xv⟩
      exact ⟨x, x0, by rw [hl]; exact x1, by rw [g x x0, if_neg (by omega)]; exact xf, by rw [g x x0, if_neg (by omega)]; exact xk, by rw [g x x0, if_neg (by omega)]; exact xv⟩
  · have := cnt_st (t := t) Ts.z h0 h1
    have hz : Ts.z.full = false := rfl
    rw [hf, hz] at this
    simp only [if_true, Bool.false_eq_true, if_false] at this
    omega

/-- The slot that is looked at lies behind the hole, and not behind an empty slot e; g slots are still to come. -/
structure Around (n h a e g : Int) : Prop where
  e0 : 0 ≤ e
  e1 : e < n
  lo : 1 ≤ ap n h a
  hi : ap n h a ≤ ap n h e
  eg : g = ap n a e
theorem Around.begin {n h e : Int} (h0 : 0 ≤ h) (h1 : h < n) (e0 : 0 ≤ e) (e1 : e < n) (he : h ≠ e) : Around n h (adv n h 1) e (ap n (adv n h 1) e) := by
  refine ⟨e0, e1, ?_, ?_, rfl⟩ <;> unfold ap adv <;> (repeat' split) <;> omega
theorem Around.ne {n h a e g : Int} (A : Around n h a e g) : a ≠ h := by
  rintro rfl
  have := A.lo
  rw [ap_self] at this
  omega
theorem Around.stay {n h a e g : Int} (A : Around n h a e g) (h0 : 0 ≤ h) (h1 : h < n) (a0 : 0 ≤ a) (a1 : a < n) (hae : a ≠ e) : Around n h (adv n a 1) e (g - 1) ∧ 0 < g := by
  obtain ⟨e0, e1, lo, hi, eg⟩ := A
  refine ⟨⟨e0, e1, ?_, ?_, ?_⟩, ?_⟩
  · revert lo hi; unfold ap adv; (repeat' split) <;> omega
  · revert lo hi; unfold ap adv; (repeat' split) <;> omega
  · rw [eg]; unfold ap adv; (repeat' split) <;> omega
  · rw [eg]; unfold ap; split <;> omega
theorem Around.move {n h a e g : Int} (A : Around n h a e g) (a0 : 0 ≤ a) (a1 : a < n) (hae : a ≠ e) : Around n a (adv n a 1) e (g - 1) ∧ 0 < g := by
  obtain ⟨e0, e1, lo, hi, eg⟩ := A
  have B := Around.begin a0 a1 e0 e1 hae
  refine ⟨⟨e0, e1, B.lo, B.hi, ?_⟩, ?_⟩
  · rw [eg]; unfold ap adv; (repeat' split) <;> omega
  · rw [eg]; unfold ap; split <;> omega

/-- All keys of the first slots, laid into twice as many. -/
structure Grw (hm : Int → Int → Int) (t t' : List Ts) (i : Nat) : Prop where
  len : t'.length = 2 * t.length
  ti : Ti hm t'
  ins : ∀ k v, Tin t' k v ↔ ∃ a : Int, 0 ≤ a ∧ a < i ∧ (tg t a).full = true ∧ (tg t a).key = k ∧ (tg t a).num = v
  cn : cnt t' = cnt (t.take i)
theorem cnt_take (t : List Ts) (i : Nat) (h : i < t.length) : cnt (t.take (i + 1)) = cnt (t.take i) + (if (tg t i).full then 1 else 0) := by
  have e : tg t i = t[i] := by show gt t i Ts.z = _; simp [gt, h]
  rw [List.take_succ_eq_append_getElem h, e]
  unfold cnt
  rw [List.filter_append, List.length_append]
  cases hf : t[i].full <;> simp [List.filter_cons, hf]
theorem Grw.skip {t t' : List Ts} {i : Nat} (G : Grw hm t t' i) (h : i < t.length) (hf : (tg t i).full = false) : Grw hm t t' (i + 1) := by
  refine ⟨G.len, G.ti, fun k v => ?_, by rw [cnt_take t i h, hf, G.cn]; rfl⟩
  rw [G.ins]
  constructor
  · rintro ⟨a, a0, a1, h⟩
    exact ⟨a, a0, by omega, h⟩
  · rintro ⟨a, a0, a1, h⟩
    refine ⟨a, a0, ?_, h⟩
    have : a ≠ i := by rintro rfl; rw [hf] at h; cases h.1
    omega
theorem Grw.absent {t t' : List Ts} {i : Nat} (T : Ti hm t) (G : Grw hm t t' i) (h : i < t.length) (hf : (tg t i).full = true) : ∀ v, ¬ Tin t' (tg t i).key v := by
  intro v hv
  obtain ⟨a, a0, a1, af, ak, av⟩ := (G.ins _ _).1 hv
  have := T.one a i a0 (by omega) (by omega) (by omega) af hf ak
  omega
theorem Grw.step {t t' : List Ts} {i : Nat} {r : Int} (T : Ti hm t) (G : Grw hm t t' i) (h : i < t.length) (hf : (tg t i).full = true) (F : Fnd hm t' (tg t i).key r) : Grw hm t (st t' r ⟨(tg t i).key, (tg t i).num, true⟩) (i + 1) := by
  have L := F.lay G.ti (v := (tg t i).num) (G.absent T h hf)
  refine ⟨(st_length _ _ _).trans G.len, L.1, fun k v => ?_, by rw [L.2.2, cnt_take t i h, hf, G.cn]; rfl⟩
  rw [L.2.1, G.ins]
  constructor
  · rintro (⟨a, a0, a1, h⟩ | ⟨rfl, rfl⟩)
    · exact ⟨a, a0, by omega, h⟩
    · exact ⟨i, by omega, by omega, hf, rfl, rfl⟩
  · rintro ⟨a, a0, a1, af, ak, av⟩
    by_cases e : a = i
    · subst e; exact .inr ⟨ak.symm, av.symm⟩
    · exact .inl ⟨a, a0, by omega, af, ak, av⟩
theorem Grw.done {t t' : List Ts} (G : Grw hm t t' t.length) : Ti hm t' ∧ (∀ k v, Tin t' k v ↔ Tin t k v) ∧ cnt t' = cnt t ∧ t'.length = 2 * t.length :=
  ⟨G.ti, fun k v => G.ins k v, by rw [G.cn, List.take_length], G.len⟩

/-- A table of empty slots. -/
theorem Ti.empty (n : Nat) : Ti hm (List.replicate n Ts.z) ∧ (∀ k v, ¬ Tin (List.replicate n Ts.z) k v) ∧ cnt (List.replicate n Ts.z) = 0 := by
  have g : ∀ x, tg (List.replicate n Ts.z) x = Ts.z := by
    intro x; show gt _ x Ts.z = _; unfold gt; rw [List.getD_eq_getElem?_getD, List.getElem?_replicate]; split <;> rfl
  refine ⟨⟨?_, ?_, ?_⟩, ?_, ?_⟩
  · intro a _ _ af; rw [g] at af; cases af
  · intro a b _ _ _ _ af; rw [g] at af; cases af
  · intro a _ _ _; rw [g]; rfl
  · rintro k v ⟨a, _, _, af, _⟩; rw [g] at af; cases af
  · simp [cnt, Ts.z]
theorem Grw.begin (t : List Ts) : Grw hm t (List.replicate (2 * t.length) Ts.z) 0 := by
  obtain ⟨h1, h2, h3⟩ := Ti.empty (hm := hm) (2 * t.length)
  refine ⟨by simp, h1, fun k v => ⟨fun h => absurd h (h2 k v), ?_⟩, by rw [h3]; rfl⟩
  rintro ⟨a, a0, a1, _⟩
  omega
end
end Hop
end Go.Proofs.Ytlakojncjldpbaa

namespace Go.Proofs.Ytlakojncjldpbaa
namespace Hop
set_option linter.unusedVariables false
set_option linter.unusedSimpArgs false
/-- A block, known whole. -/
def Blk (w : World) (b : Nat) (cs : List Value) (T : Nat) : Prop := w.heap[b]? = some (.cells cs.toArray T (0, 0))
section
variable {w w' : World} {b : Nat} {cs : List Value} {T : Nat}
theorem Blk.lt (h : Blk w b cs T) : b < w.heap.size := (Array.getElem?_eq_some_iff.1 h).1
theorem Blk.cell (h : Blk w b cs T) (o : Nat) : w.cell? ⟨b, o, none⟩ = cs[o]? := by
  unfold Blk at h
  simp only [World.cell?, h]
  simp
theorem Blk.frozen (h : Blk w b cs T) (o : Nat) : w.frozen? ⟨b, o, none⟩ = false := by
  unfold Blk at h
  simp only [World.frozen?, h]
  simp
theorem Blk.of_heap (h : Blk w b cs T) (e : w'.heap[b]? = w.heap[b]?) : Blk w' b cs T := by unfold Blk at *; rw [e]; exact h
theorem Blk.alloc (h : Blk w b cs T) (o : Obj) : Blk (w.alloc o) b cs T := h.of_heap (Go.RowKit.Below.heap_alloc w o b h.lt)
theorem Blk.drew (h : Blk w b cs T) : Blk w.drew b cs T := h
theorem Blk.set (h : Blk w b cs T) (o : Nat) (v : Value) : Blk (w.setCell ⟨b, o, none⟩ v) b (cs.set o v) T := by
  unfold Blk at *
  simp only [World.setCell, Array.getElem?_modify, h]
  simp
theorem Blk.set_ne (h : Blk w b cs T) {a : Addr} (hn : b ≠ a.block) (v : Value) : Blk (w.setCell a v) b cs T :=
  h.of_heap (Go.RowKit.Below.heap_setCell w a v b hn)
theorem Blk.ne {b' : Nat} {cs' : List Value} {T' : Nat} (h : Blk w b cs T) (h' : Blk w b' cs' T') (hT : T ≠ T') : b ≠ b' := by
  rintro rfl
  unfold Blk at *
  rw [h] at h'
  injection h' with h'
  injection h' with _ h2 _
  exact hT h2
theorem Blk.eq {cs' : List Value} {T' : Nat} (h : Blk w b cs T) (h' : Blk w b cs' T') : cs = cs' := by
  unfold Blk at *
  rw [h] at h'
  injection h' with h'
  injection h' with h1 _ _
  injection h1
theorem Blk.new0 (w : World) (cs : List Value) (T : Nat) : Blk (w.alloc (.cells cs.toArray T)) w.heap.size cs T := by
  unfold Blk World.alloc
  simp
theorem Blk.new1 (w : World) (X : Obj) (cs : List Value) (T : Nat) : Blk ((w.alloc X).alloc (.cells cs.toArray T)) (w.heap.size + 1) cs T := by
  have h := Blk.new0 (w.alloc X) cs T
  rwa [World.size_alloc] at h
theorem Blk.new2 (w : World) (X Y : Obj) (cs : List Value) (T : Nat) : Blk (((w.alloc X).alloc Y).alloc (.cells cs.toArray T)) (w.heap.size + 1 + 1) cs T := by
  have h := Blk.new1 (w.alloc X) Y cs T
  rwa [World.size_alloc] at h
theorem Blk.new (w : World) (cs : List Value) (T : Nat) : Blk (w.alloc (.cells cs.toArray T)) w.heap.size cs T := by
  unfold Blk World.alloc
  simp
end

/-- Rows of elements of one width. -/
def flat {α : Type} (enc : α → List Value) (l : List α) : List Value := l.flatMap enc
section
variable {α : Type} {enc : α → List Value} {k : Nat} (hk : ∀ x, (enc x).length = k)
include hk
theorem flat_length (l : List α) : (flat enc l).length = l.length * k := by
  unfold flat
  induction l with
  | nil => simp
  | cons x r ih => simp only [List.flatMap_cons, List.length_append, hk, ih, List.length_cons, Nat.add_mul]; omega
theorem flat_get (l : List α) : ∀ (i j : Nat) (h : i < l.length), j < k → (flat enc l)[i * k + j]? = (enc (l[i]'h))[j]? := by
  unfold flat
  induction l with
  | nil => intro i j h; simp at h
  | cons x r ih =>
    intro i j h hj
    cases i with
    | zero => simp only [Nat.zero_mul, Nat.zero_add, List.flatMap_cons, List.getElem_cons_zero]; rw [List.getElem?_append_left (by rw [hk]; exact hj)]
    | succ i =>
      simp only [List.flatMap_cons, List.getElem_cons_succ]
      rw [List.getElem?_append_right (by rw [hk, Nat.add_mul]; omega), hk, ← ih i j (by simpa using h) hj]
      congr 1
      rw [Nat.add_mul]; omega
theorem flat_set (l : List α) : ∀ (i j : Nat) (h : i < l.length) (v : Value) (y : α), j < k → enc y = (enc (l[i]'h)).set j v → (flat enc l).set (i * k + j) v = flat enc (l.set i y) := by
  unfold flat
  induction l with
  | nil => intro i j h; simp at h
  | cons x r ih =>
    intro i j h v y hj he
    cases i with
    | zero =>
      simp only [List.getElem_cons_zero] at he
      simp only [Nat.zero_mul, Nat.zero_add, List.flatMap_cons, List.set_cons_zero, he]
      rw [List.set_append_left _ _ (by rw [hk]; exact hj)]
    | succ i =>
      simp only [List.getElem_cons_succ] at he
      simp only [List.flatMap_cons, List.set_cons_succ]
      rw [List.set_append_right _ _ (by rw [hk, Nat.add_mul]; omega), hk, ← ih i j (by simpa using h) v y hj he]
      congr 2
      rw [Nat.add_mul]; omega
end
end Hop
end Go.Proofs.Ytlakojncjldpbaa

namespace Go.Proofs.Ytlakojncjldpbaa
namespace Hop
open Go.RowKit
set_option linter.unusedVariables false
set_option linter.unusedSimpArgs false
structure Nd where
  key : Int
  val : Int
  flag : Int
  tag : Int
  prev : Int
  next : Int
def Nd.z : Nd := ⟨0, 0, 0, 0, 0, 0⟩
structure Sl where
  nd : Nd
  taken : Bool
def Sl.z : Sl := ⟨Nd.z, false⟩
structure Li where
  front : Int
  back : Int
  many : Int
def Li.z : Li := ⟨0, 0, 0⟩
abbrev sg (S : List Sl) (i : Int) : Sl := gt S i Sl.z
def encN (n : Nd) : List Value := [.int .u64 n.key, .int .u64 n.val, .int .i64 n.flag, .int .i64 n.tag, .int .i32 n.prev, .int .i32 n.next]
def encS (s : Sl) : List Value := [.int .u64 s.nd.key, .int .u64 s.nd.val, .int .i64 s.nd.flag, .int .i64 s.nd.tag, .int .i32 s.nd.prev, .int .i32 s.nd.next, .bool s.taken]
def encL (x : Li) : List Value := [.int .i32 x.front, .int .i32 x.back, .int .i64 x.many]
def encT (x : Ts) : List Value := [.int .u64 x.key, .int .i32 x.num, .bool x.full]
theorem encS_len (s : Sl) : (encS s).length = 7 := rfl
theorem encL_len (s : Li) : (encL s).length = 3 := rfl
theorem encT_len (s : Ts) : (encT s).length = 3 := rfl
/-- Is a slot taken? -/
def isT (S : List Sl) (i : Int) : Bool := decide (0 < i) && (decide (i < S.length) && (sg S i).taken)

/-- What a call may turn: blocks of a kind; all others stay. -/
structure Fr (own : Nat → Prop) (w w' : World) : Prop where
  os : w'.os = w.os
  tape : w'.tape = w.tape
  output : w'.output = w.output
  size : w.heap.size ≤ w'.heap.size
  block : ∀ k, k < w.heap.size → ¬ own k → w'.heap[k]? = w.heap[k]?
section
variable {own own' : Nat → Prop} {a b c w w' : World}
theorem Fr.refl (own : Nat → Prop) (w : World) : Fr own w w := ⟨rfl, rfl, rfl, Nat.le_refl _, fun _ _ _ => rfl⟩
theorem Fr.trans (h : Fr own a b) (k : Fr own' b c) (hs : ∀ i, own' i → own i ∨ a.heap.size ≤ i) : Fr own a c :=
  ⟨k.os.trans h.os, k.tape.trans h.tape, k.output.trans h.output, Nat.le_trans h.size k.size, fun i hi hn =>
    (k.block i (Nat.lt_of_lt_of_le hi h.size) (fun ho => (hs i ho).elim hn (fun hge => by omega))).trans (h.block i hi hn)⟩
theorem Fr.mono (h : Fr own w w') (hs : ∀ i, own i → own' i) : Fr own' w w' := ⟨h.os, h.tape, h.output, h.size, fun i hi hn => h.block i hi (fun ho => hn (hs i ho))⟩
theorem Fr.of_below (h : Below w.heap.size w w') : Fr own w w' := ⟨h.os, h.tape, h.output, h.size, fun i hi _ => h.block i hi⟩
theorem Fr.below (h : Fr (fun _ => False) w w') : Below w.heap.size w w' := ⟨h.os, h.tape, h.output, h.size, fun i hi => h.block i hi (fun f => f)⟩
theorem Fr.alloc (h : Fr own a w) (o : Obj) : Fr own a (w.alloc o) := h.trans (own' := fun _ => False) (Fr.of_below ((Below.refl _ _).alloc (Nat.le_refl _) o)) (fun _ f => f.elim)
theorem Fr.drew (h : Fr own a w) : Fr own a w.drew := ⟨h.os, h.tape, h.output, h.size, h.block⟩
theorem Fr.setCell (h : Fr own a w) {p : Addr} (hp : own p.block ∨ a.heap.size ≤ p.block) (u : Value) : Fr own a (w.setCell p u) :=
  h.trans (own' := fun i => i = p.block) ⟨rfl, rfl, rfl, by simp [World.setCell], fun i hi hn => Below.heap_setCell _ _ _ _ hn⟩ (fun i e => e ▸ hp)
theorem Fr.setEq (h : Fr own a w) {b o : Nat} (hp : own b) (u : Value) : Fr own a (w.setCell ⟨b, o, none⟩ u) := h.setCell (.inl hp) u
theorem Fr.setNew (h : Fr own a w) {b o : Nat} (hp : a.heap.size ≤ b) (u : Value) : Fr own a (w.setCell ⟨b, o, none⟩ u) := h.setCell (.inr hp) u
theorem Fr.and_below (h : Fr own a b) (k : Below b.heap.size b c) : Fr own a c := h.trans (own' := fun _ => False) (Fr.of_below k) (fun _ f => f.elim)
theorem Fr.blk {x : Nat} {cs : List Value} {T : Nat} (h : Fr own w w') (hx : ¬ own x) (hb : Blk w x cs T) : Blk w' x cs T := hb.of_heap (h.block x hb.lt hx)
theorem Blk.keep {x : Nat} {cs : List Value} {T : Nat} (hb : Blk w x cs T) (h : Below w.heap.size w w') : Blk w' x cs T := hb.of_heap (h.block x hb.lt)
end

/-- The store's lists, as they lie. -/
structure St where
  slots : List Sl
  freed : List Int
  next : Int
  live : Int
  lists : List Li
  tab : List Ts
  many : Int
  queues : Int
/-- Where the store lies. -/
structure Loc where
  ps : Nat
  pl : Nat
  pa : Nat
  pt : Nat
  bl : Nat
  ba : Nat
  bt : Nat
  fv : Value
def Loc.has (L : Loc) (k : Nat) : Prop := k = L.ps ∨ k = L.pl ∨ k = L.pa ∨ k = L.pt ∨ k = L.bl ∨ k = L.ba ∨ k = L.bt ∨ L.fv.ownBlock = some k
abbrev P0 (b : Nat) : Value := .pointer (some ⟨b, 0, none⟩)
abbrev S0 (b n : Nat) : Value := .slice (some ⟨b, 0, none⟩) n n
/-- A slice that is nil, or begins at a block's head: n elements of k cells each. -/
def Row (w : World) (E k : Nat) (v : Value) (n : Nat) (xs : List Value) : Prop :=
  xs.length = n * k ∧ ((v = .slice none 0 0 ∧ n = 0) ∨ ∃ g cap cs, v = .slice (some ⟨g, 0, none⟩) n cap ∧ Blk w g cs E ∧ n ≤ cap ∧ cap ≤ maxLen ∧ cap * k ≤ cs.length ∧ cs.take (n * k) = xs)
theorem Row.nil (w : World) (E k : Nat) : Row w E k (.slice none 0 0) 0 [] := ⟨by simp, .inl ⟨rfl, rfl⟩⟩
theorem Row.frame {own : Nat → Prop} {w w' : World} {E k : Nat} {v : Value} {n : Nat} {xs : List Value} (h : Row w E k v n xs) (hf : Fr own w w') (ho : ∀ b, v.ownBlock = some b → ¬ own b) : Row w' E k v n xs := by
  refine ⟨h.1, ?_⟩
  rcases h.2 with h1 | ⟨g, cap, cs, h1, h2, h3⟩
  · exact .inl h1
  · exact .inr ⟨g, cap, cs, h1, hf.blk (ho g (by rw [h1]; rfl)) h2, h3⟩
theorem Row.keep {w w' : World} {E k : Nat} {v : Value} {n : Nat} {xs : List Value} (h : Row w E k v n xs) (hb : Below w.heap.size w w') : Row w' E k v n xs :=
  h.frame (own := fun _ => False) (Fr.of_below hb) (fun _ _ f => f)
theorem Row.lt {w : World} {E k : Nat} {v : Value} {n : Nat} {xs : List Value} (h : Row w E k v n xs) {b : Nat} (hb : v.ownBlock = some b) : b < w.heap.size ∧ ∃ cs, Blk w b cs E := by
  rcases h.2 with ⟨h1, _⟩ | ⟨g, cap, cs, h1, h2, h3⟩
  · rw [h1] at hb; cases hb
  · rw [h1] at hb
    have e : g = b := by simpa [Value.ownBlock] using hb
    subst e
    exact ⟨h2.lt, cs, h2⟩
/-- The freed slots' numbers. -/
def Frv (w : World) (v : Value) (l : List Int) : Prop := Row w 21 1 v l.length (l.map (Value.int .i32))
structure SRep (w : World) (L : Loc) (s : St) : Prop where
  hs : Blk w L.ps [P0 L.pl, P0 L.pa, P0 L.pt, .int .i64 s.queues] 160
  hl : Blk w L.pl [P0 L.pa, S0 L.bl s.lists.length] 192
  ha : Blk w L.pa [S0 L.ba s.slots.length, L.fv, .int .i64 s.next, .int .i64 s.live] 189
  ht : Blk w L.pt [S0 L.bt s.tab.length, .int .i64 s.many] 195
  bl : Blk w L.bl (flat encL s.lists) 208
  ba : Blk w L.ba (flat encS s.slots) 201
  bt : Blk w L.bt (flat encT s.tab) 213
  fr : Frv w L.fv s.freed
section
variable {w w' : World} {L : Loc} {s : St}
theorem Frv.keep {v : Value} {l : List Int} (h : Frv w v l) (hb : Below w.heap.size w w') : Frv w' v l := Row.keep h hb
theorem Frv.frame {own : Nat → Prop} {v : Value} {l : List Int} (h : Frv w v l) (hf : Fr own w w') (ho : ∀ k, v.ownBlock = some k → ¬ own k) : Frv w' v l := Row.frame h hf ho
theorem SRep.keep (h : SRep w L s) (hb : Below w.heap.size w w') : SRep w' L s :=
  ⟨h.hs.keep hb, h.hl.keep hb, h.ha.keep hb, h.ht.keep hb, h.bl.keep hb, h.ba.keep hb, h.bt.keep hb, h.fr.keep hb⟩
theorem SRep.frame {own : Nat → Prop} (h : SRep w L s) (hf : Fr own w w') (ho : ∀ k, L.has k → ¬ own k) : SRep w' L s :=
  ⟨hf.blk (ho _ (by simp [Loc.has])) h.hs, hf.blk (ho _ (by simp [Loc.has])) h.hl, hf.blk (ho _ (by simp [Loc.has])) h.ha, hf.blk (ho _ (by simp [Loc.has])) h.ht,
    hf.blk (ho _ (by simp [Loc.has])) h.bl, hf.blk (ho _ (by simp [Loc.has])) h.ba, hf.blk (ho _ (by simp [Loc.has])) h.bt, h.fr.frame hf (fun k hk => ho k (by simp [Loc.has, hk]))⟩
theorem Frv.lt {v : Value} {l : List Int} (h : Frv w v l) {k : Nat} (hk : v.ownBlock = some k) : k < w.heap.size ∧ ∃ cs, Blk w k cs 21 := Row.lt h hk
theorem SRep.lt (h : SRep w L s) {k : Nat} (hk : L.has k) : k < w.heap.size := by
  rcases hk with rfl | rfl | rfl | rfl | rfl | rfl | rfl | hk
  · exact h.hs.lt
  · exact h.hl.lt
  · exact h.ha.lt
  · exact h.ht.lt
  · exact h.bl.lt
  · exact h.ba.lt
  · exact h.bt.lt
  · exact (h.fr.lt hk).1
end
end Hop
end Go.Proofs.Ytlakojncjldpbaa

namespace Go.Proofs.Ytlakojncjldpbaa
namespace Hop
open Go.RowKit
set_option linter.unusedVariables false
set_option linter.unusedSimpArgs false
theorem run_copy_rows {P : Program} (w : World) (dT sT ty elem : TypeId) (g dLen dCap : Nat) (a : Addr) (sLen sCap n k : Nat) (cur : Array Value) (t : TypeId) (cs : List Value)
    (hu : P.underlying dT = some (.slice elem)) (hs : (P.info? elem).map (·.size) = some k)
    (hg : w.heap[g]? = some (.cells cur t (0, 0))) (hn : n = Nat.min sLen dLen) (hcs : cs.length = n * k)
    (hsrc : ∀ j v, cs[j]? = some v → w.cell? (a.add j) = some v) (hfit : cs.length ≤ cur.size) (h1 : ∀ v ∈ cs, v.oneCell' = true) :
    (Builtin.copy_ #[dT, sT] ty #[.slice (some ⟨g, 0, none⟩) dLen dCap, .slice (some a) sLen sCap]).run P w =
      .ok (goInt n) (w.setRow g (cs ++ cur.toList.drop cs.length).toArray) := by
  have hl := run_loadCells_list (P := P) w a cs hsrc
  have hst := run_storeCells_at P g 0 t cs 0 cur w hg (by simpa using hfit) h1
  cases hq : P.info? elem with
  | none => simp [hq] at hs
  | some i =>
    have hi : i.size = k := by simpa [hq] using hs
    rw [hcs] at hl
    simp [Builtin.copy_, run_underlying hu, Builtin.lenOf, Builtin.firstCells, sizeOf, typeInfo, hq, hi, ← hn, hl, hst]
theorem wpList_copy_rows {P : Program} {w : World} {ops : Array Oper} {rest : List Oper} {o : Oper} {a : Act} {Q : Exit → Act → World → Prop} (hgd : o.guard = none) (d s : Operand) (dT sT : TypeId)
    (ho : o.op = .call { callee := .builtin .copy, args := #[d, s], argTypes := #[dT, sT] }) (elem : TypeId) (hu : P.underlying dT = some (.slice elem)) (k : Nat) (hs : (P.info? elem).map (·.size) = some k)
    (g b dLen dCap sLen sCap : Nat) (hd : a.eval d = .slice (some ⟨g, 0, none⟩) dLen dCap) (hsv : a.eval s = .slice (some ⟨b, 0, none⟩) sLen sCap)
    (cur cs : List Value) (t t' : TypeId) (hg : Blk w g cur t) (hb : Blk w b cs t') (hle : sLen ≤ dLen) (hcs : cs.length = sLen * k) (hfit : cs.length ≤ cur.length) (h1 : ∀ v ∈ cs, v.oneCell' = true)
    (h : ∀ w', Fr (· = g) w w' → Blk w' g (cs ++ cur.drop cs.length) t → wpList P ops Q rest (a.put o.dst (goInt sLen)) w') : wpList P ops Q (o :: rest) a w := by
  refine wpList_plain hgd fun K hK => ?_
  have hadd : ∀ j, (⟨b, 0, none⟩ : Addr).add j = ⟨b, j, none⟩ := by intro j; unfold Addr.add; split <;> simp_all
  have hrun := run_copy_rows (P := P) w dT sT o.type elem g dLen dCap ⟨b, 0, none⟩ sLen sCap sLen k cur.toArray t cs hu hs hg (Nat.min_eq_left hle).symm hcs (by intro j v hj; rw [hadd, hb.cell]; exact hj) (by simpa using hfit) h1
  unfold Oper.wp
  simp [execOp, ho, resolve, invoke, builtin, hd, hsv, hrun, Result.andThen]
  refine hK _ _ (h _ ?_ ?_)
  · exact ⟨rfl, rfl, rfl, by simp [World.setRow], fun i hi hn => setRow_other w g i _ hn⟩
  · exact setRow_heap w g cur.toArray _ t _ hg
theorem madeCells_flat {α : Type} (enc : α → List Value) (x0 : α) (k : Nat) (hk : ∀ x, (enc x).length = k) (hpos : 0 < k) (n : Nat) : (madeCells (enc x0).toArray (n * k)).toList = flat enc (List.replicate n x0) := by
  apply List.ext_getElem?
  intro m
  by_cases hm : m < n * k
  · have h1 : m / k < n := Nat.div_lt_of_lt_mul (by rw [Nat.mul_comm]; exact hm)
    have h2 : m % k < k := Nat.mod_lt _ hpos
    have h3 : m = m / k * k + m % k := by rw [Nat.mul_comm]; exact (Nat.div_add_mod m k).symm
    have q := flat_get hk (List.replicate n x0) (m / k) (m % k) (by simpa using h1) h2
    rw [← h3] at q
    rw [q]
    simp only [List.getElem_replicate]
    have e : (madeCells (enc x0).toArray (n * k)).toList[m]? = some ((enc x0).toArray[m % (enc x0).toArray.size]!) := by
      simp [madeCells, hm]
    rw [e]
    have hlt : m % k < (enc x0).length := by rw [hk]; exact h2
    rw [List.getElem?_eq_getElem hlt]
    simp [hk]
    rw [List.getElem?_eq_getElem hlt]; rfl
  · have l1 : (madeCells (enc x0).toArray (n * k)).toList.length = n * k := by simp [madeCells]
    have l2 : (flat enc (List.replicate n x0)).length = n * k := by rw [flat_length hk]; simp
    rw [List.getElem?_eq_none (by omega), List.getElem?_eq_none (by omega)]
theorem wpList_make_rows {P : Program} (w : World) {ops : Array Oper} {rest : List Oper} {o : Oper} {a : Act} {Q : Exit → Act → World → Prop} {α : Type} (enc : α → List Value) (x0 : α) (k : Nat) (hk : ∀ x, (enc x).length = k) (hpos : 0 < k)
    (hg : o.guard = none) (l : Operand) (t : TypeId) (hop : o.op = Op.makeSlice t l l)
    (e : TypeId) (bytes : Nat) (h1 : P.underlying t = some (.slice e)) (h2 : (P.info? e).map (fun i => (i.zero, i.size, i.bytes)) = some (some (.agg (enc x0).toArray), k, bytes))
    (L : Int) (n : Nat) (hl : a.eval l = .int .i64 L) (hL : L = (n : Int)) (b2 : bytes * n ≤ 281474976710656) (b3 : n ≤ maxLen)
    (hK : wpList P ops Q rest (a.put o.dst (S0 w.heap.size n)) (w.alloc (.cells (flat enc (List.replicate n x0)).toArray e))) :
    wpList P ops Q (o :: rest) a w := by
  obtain ⟨i, hi, hz, hs, hb⟩ := info_parts h2
  refine wpList_plain hg fun K hK' => ?_
  subst hL
  have h63' : (n : Int) ≤ 9223372036854775807 := by
    have h := b3
    simp [maxLen] at h
    omega
  have hb' : (i.bytes : Int) * (n : Int) ≤ 281474976710656 := by
    have h : ((i.bytes * n : Nat) : Int) ≤ 281474976710656 := by rw [hb]; omega
    rwa [Int.natCast_mul] at h
  have hr := run_make (P := P) w t e i (.agg (enc x0).toArray) h1 hi hz .i64 .i64 n n (by omega) (Int.le_refl _) hb' h63'
  simp only [Int.toNat_natCast, hs] at hr
  have e1 : madeCells (Value.agg (enc x0).toArray).cells (n * k) = (flat enc (List.replicate n x0)).toArray := by
    rw [← madeCells_flat enc x0 k hk hpos n]
    simp [Value.cells]
  rw [e1] at hr
  unfold Oper.wp
  simp [execOp, hop, hl, hr, Result.andThen]
  exact hK' _ _ hK
/-- Cells laid over a list from a place on. -/
def setL : List Value → Nat → List Value → List Value
  | cs, _, [] => cs
  | cs, o, v :: r => setL (cs.set o v) (o + 1) r
theorem setL_length : ∀ (vs cs : List Value) (o : Nat), (setL cs o vs).length = cs.length
  | [], cs, o => rfl
  | v :: r, cs, o => by rw [setL, setL_length r, List.length_set]
theorem setL_take : ∀ (vs cs : List Value) (o : Nat), o + vs.length ≤ cs.length → (setL cs o vs).take (o + vs.length) = cs.take o ++ vs
  | [], cs, o, _ => by simp [setL]
  | v :: r, cs, o, h => by
    simp only [List.length_cons] at h
    have ih := setL_take r (cs.set o v) (o + 1) (by rw [List.length_set]; omega)
    rw [setL, List.length_cons, show o + (r.length + 1) = o + 1 + r.length by omega, ih]
    have e : (cs.set o v).take (o + 1) = cs.take o ++ [v] := by
      rw [List.take_succ_eq_append_getElem (by rw [List.length_set]; omega), List.take_set_of_le (Nat.le_refl _), List.getElem_set_self]
    rw [e, List.append_assoc]
    rfl
theorem Blk.setCells {g : Nat} {T : TypeId} : ∀ (vs cs : List Value) (o : Nat) (w : World), Blk w g cs T → Blk (w.setCells g o vs) g (setL cs o vs) T
  | [], _, _, _, h => h
  | v :: r, cs, o, w, h => Blk.setCells r (cs.set o v) (o + 1) (w.setCell ⟨g, o, none⟩ v) (h.set o v)
theorem Fr.setCells {g : Nat} : ∀ (vs : List Value) (o : Nat) (w a : World) (own : Nat → Prop), Fr own a w → own g → Fr own a (w.setCells g o vs)
  | [], _, _, _, _, h, _ => h
  | v :: r, o, w, a, own, h, hg => Fr.setCells r (o + 1) (w.setCell ⟨g, o, none⟩ v) a own (h.setEq hg v) hg
/-- append, of some elements, to such a slice: it is one again, in its own block or in a new one. -/
theorem wpList_append_row {P : Program} (w : World) {ops : Array Oper} {rest : List Oper} {o : Oper} {a : Act} {Q : Exit → Act → World → Prop}
    (hg : o.guard = none) (s x : Operand) (t : TypeId) (hop : o.op = Op.call { callee := Callee.builtin Builtin.append, args := #[s, x], argTypes := #[t, t] })
    (E : TypeId) (z : Value) (k bytes : Nat) (h1 : P.underlying t = some (.slice E)) (hinfo : (P.info? E).map (fun i => (i.zero, i.size, i.bytes)) = some (some z, k, bytes)) (h6 : z.cells.size = k) (h7 : 0 < k)
    (v : Value) (n : Nat) (xs : List Value) (hs : a.eval s = v) (hrow : Row w E k v n xs)
    (ad : Addr) (m c : Nat) (news : List Value) (hx : a.eval x = .slice (some ad) m c) (hm : 0 < m) (hn : news.length = m * k) (hc : ∀ j u, news[j]? = some u → w.cell? (ad.add j) = some u) (h1c : ∀ u ∈ news, u.oneCell' = true)
    (b1 : n + m ≤ maxLen) (b2 : (n + m) * bytes ≤ 140737488355328)
    (hK : ∀ g' cap' w', Row w' E k (.slice (some ⟨g', 0, none⟩) (n + m) cap') (n + m) (xs ++ news) → Fr (fun b => v.ownBlock = some b) w w' → (v.ownBlock = some g' ∨ w.heap.size ≤ g') →
      wpList P ops Q rest (a.put o.dst (.slice (some ⟨g', 0, none⟩) (n + m) cap')) w') :
    wpList P ops Q (o :: rest) a w := by
  obtain ⟨i, h2, h3, h4, h5⟩ := info_parts hinfo
  have done : ∀ v' w' , w'.ownsRow w.heap.size E k v' (n + m) (xs ++ news) → w.grownBy w' none → wpList P ops Q rest (a.put o.dst v') w' := by
    intro v' w' how hgr
    rcases how.2 with ⟨_, h0⟩ | ⟨g, cap, cur, hv, hge, hh, hle, hcm, hsz, htk⟩
    · omega
    · subst hv
      refine hK g cap w' ⟨how.1, .inr ⟨g, cap, cur.toList, rfl, ?_, hle, hcm, ?_, htk⟩⟩ ⟨hgr.os, hgr.tape, hgr.output, hgr.size, fun k hk _ => hgr.block k hk (by simp)⟩ (.inr hge)
      · unfold Blk; simpa using hh
      · simp [hsz]
  rcases hrow.2 with ⟨hv, hn0⟩ | ⟨g, cap, cs, hv, hb, hle, hcm, hsz, htk⟩
  · subst hv; subst hn0
    have hx0 : xs = [] := List.eq_nil_of_length_eq_zero (by rw [hrow.1]; simp)
    subst hx0
    exact wpList_append_grows w hg s x t hop E i z k bytes h1 h2 h3 h4 h5 h6 h7 none 0 0 [] hs (fun _ => ⟨rfl, rfl⟩) (by simp) (by intro _ _ _ _ h; simp at h) ad m c news hx hn hc h1c (by omega) b1 b2 done
  · subst hv
    refine wpList_append_arg w hg s x t hop E i z k bytes h1 h2 h3 h4 h5 h6 h7 g 0 n cap xs hs hrow.1 ?_ ad m c news hx hn hc h1c ?_ b1 b2 ?_ (fun _ => done)
    · intro j u hj
      rw [Nat.zero_add, hb.cell]
      rw [← htk, List.getElem?_take] at hj
      split at hj
      · exact hj
      · cases hj
    · intro hr j hj
      have hlt : n * k + j < cs.length := by
        have q : (n + m) * k ≤ cap * k := Nat.mul_le_mul_right k hr
        rw [Nat.add_mul] at q
        omega
      rw [Nat.zero_add, hb.cell, hb.frozen]
      exact ⟨by rw [List.getElem?_eq_getElem hlt]; rfl, rfl⟩
    · intro hr
      have q : (n + m) * k ≤ cap * k := Nat.mul_le_mul_right k hr
      rw [Nat.add_mul] at q
      rw [Nat.zero_add]
      refine hK g cap _ ⟨by rw [List.length_append, hrow.1, hn, Nat.add_mul], .inr ⟨g, cap, _, rfl, hb.setCells news cs (n * k) w, hr, hcm, by rw [setL_length]; exact hsz, ?_⟩⟩ (Fr.setCells news (n * k) w w _ (Fr.refl _ _) rfl) (.inl rfl)
      have e : (n + m) * k = n * k + news.length := by rw [Nat.add_mul, hn]
      rw [e, setL_take news cs (n * k) (by omega), htk]
end Hop
end Go.Proofs.Ytlakojncjldpbaa
