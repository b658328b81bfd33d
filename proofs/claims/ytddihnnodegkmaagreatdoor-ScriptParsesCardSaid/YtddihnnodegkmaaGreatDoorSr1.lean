/- The reference's numerals: the plain law. -/
import Derived.Test.YtddihnnodegkmaaGreatDoorSd2
namespace Go.Proofs.YtddihnnodegkmaaGreatDoor
open Go.RowKit Hop
set_option linter.unusedVariables false
set_option linter.unusedSimpArgs false
/-- The number that bytes tell, behind one that stood ahead of them. -/
def vl (a : Nat) (l : List UInt8) : Nat := l.foldl (fun a c => 10 * a + (c.toNat - 48)) a
theorem vl_nil (a : Nat) : vl a [] = a := rfl
theorem vl_snoc (a : Nat) (l : List UInt8) (c : UInt8) : vl a (l ++ [c]) = 10 * vl a l + (c.toNat - 48) := by simp [vl]
theorem vl_app (a : Nat) (l r : List UInt8) : vl a (l ++ r) = vl (vl a l) r := by simp [vl]
theorem vl_ge : ∀ (r : List UInt8) (a : Nat), a ≤ vl a r
  | [], a => Nat.le_refl _
  | c :: r, a => Nat.le_trans (by omega) (vl_ge r (10 * a + (c.toNat - 48)))
theorem u8_of {c : UInt8} (h : 48 ≤ c.toNat) : UInt8.ofNat (48 + (c.toNat - 48)) = c := by
  rw [show 48 + (c.toNat - 48) = c.toNat by omega, UInt8.ofNat_toNat]
theorem digits_vl : ∀ (n : Nat) (l : List UInt8), l.length = n → (∀ c ∈ l, 48 ≤ c.toNat ∧ c.toNat ≤ 57) → l ≠ [] → (l.length = 1 ∨ l.head? ≠ some 48) → Lib.decDigits (vl 0 l) = l := by
  intro n
  induction n with
  | zero => intro l hl _ h _; exact absurd (List.length_eq_zero_iff.1 hl) h
  | succ n ih =>
    intro l hl hd hne hc
    obtain ⟨r, c, rfl⟩ : ∃ r c, l = r ++ [c] := ⟨l.dropLast, l.getLast hne, (List.dropLast_concat_getLast hne).symm⟩
    have hdc := hd c (by simp)
    rw [vl_snoc]
    cases r with
    | nil =>
      rw [vl_nil, Lib.decDigits, dif_pos (by omega)]
      rw [show 10 * 0 + (c.toNat - 48) = c.toNat - 48 by omega, u8_of hdc.1]
      rfl
    | cons x t =>
      have hx : x ≠ 48 := by
        rcases hc with h | h
        · simp at h
        · intro e; subst e; exact h rfl
      have e := ih (x :: t) (by simp at hl ⊢; omega) (fun d hd' => hd d (by simp at hd' ⊢; rcases hd' with h | h <;> simp [h])) (by simp) (.inr (by simp [hx]))
      have hv : vl 0 (x :: t) ≠ 0 := by
        intro h0
        rw [h0, Lib.decDigits, dif_pos (by omega)] at e
        injection e with e1 e2
        exact hx e1.symm
      rw [Lib.decDigits, dif_neg (by omega), show (10 * vl 0 (x :: t) + (c.toNat - 48)) / 10 = vl 0 (x :: t) by omega, show (10 * vl 0 (x :: t) + (c.toNat - 48)) % 10 = c.toNat - 48 by omega, u8_of hdc.1, e]
theorem vl_digits (u : Nat) : vl 0 (Lib.decDigits u) = u := by
  induction u using Nat.strongRecOn with
  | _ u ih =>
    rw [Lib.decDigits]
    split
    · rename_i h
      show 10 * 0 + ((UInt8.ofNat (48 + u)).toNat - 48) = u
      rw [UInt8.toNat_ofNat']; omega
    · rename_i h
      rw [vl_snoc, ih (u / 10) (by omega), UInt8.toNat_ofNat']
      omega
theorem digits_head : ∀ (u : Nat), 0 < u → (Lib.decDigits u).head? ≠ some 48 := by
  intro u
  induction u using Nat.strongRecOn with
  | _ u ih =>
    intro h0
    rw [Lib.decDigits]
    split
    · rename_i h
      intro e
      have e1 : UInt8.ofNat (48 + u) = 48 := by simpa using e
      have e2 := congrArg UInt8.toNat e1
      rw [UInt8.toNat_ofNat'] at e2
      have : (48 : UInt8).toNat = 48 := rfl
      omega
    · rename_i h
      have q := ih (u / 10) (by omega) (by omega)
      have ne := digits_ne (u / 10)
      cases hd : Lib.decDigits (u / 10) with
      | nil => exact absurd hd ne
      | cons a t => rw [hd] at q; simpa using q
theorem digits_canon (u : Nat) : (Lib.decDigits u).length = 1 ∨ (Lib.decDigits u).head? ≠ some 48 := by
  by_cases h : u = 0
  · subst h; left; rw [Lib.decDigits, dif_pos (by omega)]; rfl
  · exact .inr (digits_head u (by omega))
/-- What a natural number's reading tells. -/
def NatR (l : List UInt8) (n : Nat) (b : Bool) : Prop :=
  n < 18446744073709551616 ∧ (b = true → l = Lib.decDigits n) ∧ (b = false → ∀ m, m < 18446744073709551616 → l ≠ Lib.decDigits m)
theorem natR_no {l : List UInt8} (h : ∀ m, m < 18446744073709551616 → l ≠ Lib.decDigits m) : NatR l 0 false :=
  ⟨by omega, (fun h' => by cases h'), fun _ => h⟩
theorem natR_char {l : List UInt8} {c : UInt8} (hc : c ∈ l) (h : c.toNat < 48 ∨ 57 < c.toNat) : NatR l 0 false := by
  refine natR_no fun m hm e => ?_
  have := digit_mem m c (by rw [← e]; exact hc)
  omega
theorem natR_long {l : List UInt8} (h : 20 < l.length) : NatR l 0 false := by
  refine natR_no fun m hm e => ?_
  have q := dS_size' (m := m) (by omega)
  have e2 : (dS m).size = (Lib.decDigits m).length := by show (Lib.decDigits m).toArray.size = _; rw [List.size_toArray]
  rw [e2, ← e] at q
  omega
theorem natR_over {l p q : List UInt8} (e : l = p ++ q) (h : 18446744073709551616 ≤ vl 0 p) : NatR l 0 false := by
  refine natR_no fun m hm e' => ?_
  have a := vl_ge q (vl 0 p)
  rw [← vl_app, ← e, e', vl_digits] at a
  omega
theorem natR_end {l : List UInt8} (hd : ∀ c ∈ l, 48 ≤ c.toNat ∧ c.toNat ≤ 57) (hv : vl 0 l < 18446744073709551616) (b : Bool) (hb : b = true ↔ (l ≠ [] ∧ (l.length = 1 ∨ l.head? ≠ some 48))) : NatR l (vl 0 l) b := by
  refine ⟨hv, fun h => ?_, fun h m hm e => ?_⟩
  · obtain ⟨h1, h2⟩ := hb.1 h
    exact (digits_vl _ l rfl hd h1 h2).symm
  · have : b = true := hb.2 ⟨by rw [e]; exact digits_ne m, by rw [e]; exact digits_canon m⟩
    rw [this] at h; cases h
theorem NatR.fst {l : List UInt8} {n : Nat} (h : NatR l n true) : l = Lib.decDigits n := h.2.1 rfl
/-- What a whole number's reading tells. -/
def IntR (l : List UInt8) (n : Int) (b : Bool) : Prop :=
  -9223372036854775808 ≤ n ∧ n ≤ 9223372036854775807 ∧ (b = true → l = Lib.itoa n) ∧ (b = false → ∀ m : Int, -9223372036854775808 ≤ m → m ≤ 9223372036854775807 → l ≠ Lib.itoa m)
theorem digits_no45 {t : List UInt8} {m : Nat} : ¬ (45 :: t = Lib.decDigits m) := fun e => by
  have := digit_mem m 45 (by rw [← e]; simp)
  revert this; decide
theorem intR_neg {t : List UInt8} {n : Nat} (h : NatR t n true) (h0 : 0 < n) (h1 : n ≤ 9223372036854775808) : IntR (45 :: t) (-(n : Int)) true :=
  ⟨by omega, by omega, fun _ => by rw [h.fst]; unfold Lib.itoa; rw [if_pos (by omega)]; rw [show (-(n : Int)).natAbs = n by omega], fun h => by cases h⟩
theorem intR_no {l : List UInt8} (h : ∀ m : Int, -9223372036854775808 ≤ m → m ≤ 9223372036854775807 → l ≠ Lib.itoa m) : IntR l 0 false :=
  ⟨by omega, by omega, (fun h' => by cases h'), fun _ => h⟩
theorem intR_neg_not {t : List UInt8} {n : Nat} {b : Bool} (h : NatR t n b) (hn : b = false ∨ n = 0 ∨ 9223372036854775808 < n) : IntR (45 :: t) 0 false := by
  refine intR_no fun m m0 m1 e => ?_
  unfold Lib.itoa at e
  split at e
  · rename_i hm
    injection e with _ e
    cases b with
    | false => exact h.2.2 rfl m.natAbs (by omega) e
    | true =>
      have q := h.fst
      have := vl_digits n
      rw [← q, e, vl_digits] at this
      rcases hn with hn | hn | hn
      · cases hn
      · omega
      · omega
  · exact digits_no45 e
theorem intR_pos {l : List UInt8} {n : Nat} (h : NatR l n true) (h1 : n ≤ 9223372036854775807) : IntR l n true :=
  ⟨by omega, by omega, fun _ => by rw [h.fst]; unfold Lib.itoa; rw [if_neg (by omega)]; rfl, fun h => by cases h⟩
theorem intR_pos_not {l : List UInt8} {n : Nat} {b : Bool} (h : NatR l n b) (hl : l.head? ≠ some 45) (hn : b = false ∨ 9223372036854775807 < n) : IntR l 0 false := by
  refine intR_no fun m m0 m1 e => ?_
  unfold Lib.itoa at e
  split at e
  · rw [e] at hl; exact hl rfl
  · rename_i hm
    cases b with
    | false => exact h.2.2 rfl m.toNat (by omega) e
    | true =>
      have q := h.fst
      have := vl_digits n
      rw [← q, e, vl_digits] at this
      rcases hn with hn | hn
      · cases hn
      · omega
end Go.Proofs.YtddihnnodegkmaaGreatDoor
