/- A line is read as its operation: the plain law (numerals, words). -/
import Derived.Test.YtddihnnodegkmaaGreatDoorSc9
namespace Go.Proofs.YtddihnnodegkmaaGreatDoor
open Go.RowKit Hop
set_option linter.unusedVariables false
set_option linter.unusedSimpArgs false
theorem indexByte_clean (c : UInt8) : ∀ (a t : List UInt8), c ∉ a → Lib.indexByte (a ++ c :: t) c = a.length
  | [], t, _ => by simp [Lib.indexByte]
  | b :: a, t, h => by
    have h1 : ¬ b = c := fun e => h (by simp [e])
    have ih := indexByte_clean c a t (fun e => h (by simp [e]))
    rw [List.cons_append, Lib.indexByte, if_neg (by simpa using h1), ih, if_neg (by simp)]
    simp
theorem indexByte_free (c : UInt8) : ∀ (a : List UInt8), c ∉ a → Lib.indexByte a c = -1
  | [], _ => rfl
  | b :: a, h => by
    have h1 : ¬ b = c := fun e => h (by simp [e])
    have ih := indexByte_free c a (fun e => h (by simp [e]))
    rw [Lib.indexByte, if_neg (by simpa using h1), ih]
    rfl
theorem index_clean {c : UInt8} {a t : List UInt8} (h : c ∉ a) : Lib.index (a ++ c :: t) [c] = a.length := by rw [Lib.index_one, indexByte_clean c a t h]
theorem index_free {c : UInt8} {a : List UInt8} (h : c ∉ a) : Lib.index a [c] = -1 := by rw [Lib.index_one, indexByte_free c a h]
theorem cut_clean {c : UInt8} {a t : List UInt8} (h : c ∉ a) : Lib.cut (a ++ c :: t) [c] = (a, t, true) := by
  unfold Lib.cut
  rw [index_clean h, if_pos (by omega)]
  simp
theorem cut_free {c : UInt8} {a : List UInt8} (h : c ∉ a) : Lib.cut a [c] = (a, [], false) := by
  unfold Lib.cut
  rw [index_free h, if_neg (by omega)]
/-- The words of a list of bytes. -/
def wdL (l : List UInt8) : List (List UInt8) := Lib.splitK [32] 0 (l.count 32) l
theorem wdL_free {a : List UInt8} (h : (32 : UInt8) ∉ a) : wdL a = [a] := by
  unfold wdL
  rw [List.count_eq_zero.2 h]; rfl
theorem wdL_cons {a t : List UInt8} (h : (32 : UInt8) ∉ a) : wdL (a ++ 32 :: t) = a :: wdL t := by
  unfold wdL
  have e : (a ++ 32 :: t).count 32 = t.count 32 + 1 := by
    rw [List.count_append, List.count_eq_zero.2 h, List.count_cons_self]; omega
  rw [e, Lib.splitK, index_clean h, if_neg (by simp)]
  simp
theorem wdF_data (s : ByteArray) : (wdF s).map (·.data.toList) = wdL s.data.toList := by
  have h := Lib.splitB_data sSp 0 (Lib.countB s sSp) s
  rw [h]
  have e : Lib.countB s sSp = s.data.toList.count 32 := Lib.count_one 32 s.data.toList
  rw [e]; rfl
theorem wd_data (s : ByteArray) (i : Nat) : (wd s i).data.toList = (wdL s.data.toList).getD i [] := by
  rw [← wdF_data]
  unfold wd
  rw [List.getD_eq_getElem?_getD, List.getD_eq_getElem?_getD, List.getElem?_map]
  cases (wdF s)[i]? <;> rfl
def aL (l : List UInt8) : Int := match Lib.atoiAll l with | .ok v => v | .range => Lib.atoiSat l | _ => 0
def uL (l : List UInt8) : Int := match Lib.parseUintB 64 l with | .ok u => (u : Int) | .range => 18446744073709551615 | _ => 0
theorem aF_data (s : ByteArray) : aF s = aL s.data.toList := rfl
theorem uF_data (s : ByteArray) : uF s = uL s.data.toList := rfl
def knL (w : List (List UInt8)) : Int :=
  if w.getD 0 [] = [103, 101, 116] then 1 else if w.getD 0 [] = [112, 117, 116] then 2 else if w.getD 0 [] = [100, 101, 108, 101, 116, 101] then 3
  else if w.getD 0 [] = [114, 101, 115, 105, 122, 101] then 4 else if w.getD 0 [] = [108, 101, 110] then 5 else aL (w.getD 1 [])
def rdW (w : List (List UInt8)) : Op4 := bareF ⟨knL w, uL (w.getD 1 []), uL (w.getD 2 []), aL (w.getD 1 [])⟩
theorem rdF_data (s : ByteArray) : rdF s = rdW (wdL s.data.toList) := by
  unfold rdF rdW knF knL
  simp only [ByteArray.toList_eq, wd_data, aF_data, uF_data]
/-! numerals -/
theorem digit_mem : ∀ (u : Nat), ∀ c ∈ Lib.decDigits u, 48 ≤ c.toNat ∧ c.toNat ≤ 57 := by
  intro u
  induction u using Nat.strongRecOn with
  | _ u ih =>
    intro c hc
    rw [Lib.decDigits] at hc
    split at hc
    · rename_i h
      have e : c = UInt8.ofNat (48 + u) := by simpa using hc
      subst e
      rw [UInt8.toNat_ofNat']
      omega
    · rename_i h
      rcases List.mem_append.1 hc with h1 | h1
      · exact ih (u / 10) (by omega) c h1
      · have e : c = UInt8.ofNat (48 + u % 10) := by simpa using h1
        subst e
        rw [UInt8.toNat_ofNat']
        omega
theorem digits_ne (u : Nat) : Lib.decDigits u ≠ [] := by
  rw [Lib.decDigits]
  split <;> simp
theorem parse_snoc : ∀ (l : List UInt8) (acc a : Nat) (c : UInt8), Lib.parseUint10 acc l = .ok a → 48 ≤ c.toNat → c.toNat ≤ 57 → a < 1844674407370955162 → a * 10 + (c.toNat - 48) < 18446744073709551616 → Lib.parseUint10 acc (l ++ [c]) = .ok (a * 10 + (c.toNat - 48))
  | [], acc, a, c, h, h1, h2, h3, h4 => by
    have e : acc = a := by simpa [Lib.parseUint10] using h
    subst e
    rw [List.nil_append, Lib.parseUint10, if_pos ⟨h1, h2⟩, if_neg (by omega), if_neg (by omega), Lib.parseUint10]
  | b :: l, acc, a, c, h, h1, h2, h3, h4 => by
    rw [List.cons_append]
    rw [Lib.parseUint10] at h ⊢
    split at h
    · rename_i hb
      rw [if_pos hb]
      split at h
      · cases h
      · rename_i hb1
        rw [if_neg hb1]
        split at h
        · cases h
        · rename_i hb2
          rw [if_neg hb2]
          exact parse_snoc l _ a c h h1 h2 h3 h4
    · cases h
theorem parse_digits : ∀ (u : Nat), u < 18446744073709551616 → Lib.parseUint10 0 (Lib.decDigits u) = .ok u := by
  intro u
  induction u using Nat.strongRecOn with
  | _ u ih =>
    intro hu
    rw [Lib.decDigits]
    split
    · rename_i h
      have e : (UInt8.ofNat (48 + u)).toNat = 48 + u := by rw [UInt8.toNat_ofNat']; omega
      have q := parse_snoc [] 0 0 (UInt8.ofNat (48 + u)) rfl (by omega) (by omega) (by omega) (by omega)
      rw [List.nil_append] at q
      rw [q, e]
      congr 1
      omega
    · rename_i h
      have e : (UInt8.ofNat (48 + u % 10)).toNat = 48 + u % 10 := by rw [UInt8.toNat_ofNat']; omega
      have q := parse_snoc (Lib.decDigits (u / 10)) 0 (u / 10) (UInt8.ofNat (48 + u % 10)) (ih (u / 10) (by omega) (by omega)) (by omega) (by omega) (by omega) (by omega)
      rw [q, e]
      congr 1
      omega
theorem uL_digits {u : Nat} (h : u < 18446744073709551616) : uL (Lib.decDigits u) = (u : Int) := by
  unfold uL Lib.parseUintB
  rw [if_neg (digits_ne u)]
  rw [show (2 ^ 64 - 1 : Nat) = 18446744073709551615 from rfl, Lib.parseUintM_64, parse_digits u h]
theorem aL_itoa {n : Int} (h0 : -9223372036854775808 ≤ n) (h1 : n ≤ 9223372036854775807) : aL (Lib.itoa n) = n := by
  unfold aL Lib.itoa
  by_cases hn : n < 0
  · rw [if_pos hn]
    have q := parse_digits n.natAbs (by omega)
    have e : Lib.atoiAll (45 :: Lib.decDigits n.natAbs) = .ok n := by
      unfold Lib.atoiAll
      simp only
      rw [if_pos (by right; rfl)]
      unfold Lib.parseMag
      rw [if_neg (digits_ne _), q]
      simp only
      rw [if_neg (by rintro ⟨a, b⟩; exact a rfl), if_neg (by rintro ⟨a, b⟩; omega), if_pos (show UInt8.toNat 45 = 45 from rfl)]
      congr 1
      omega
    rw [e]
  · rw [if_neg hn]
    have q := parse_digits n.toNat (by omega)
    have dm := digit_mem n.toNat
    have e : Lib.atoiAll (Lib.decDigits n.toNat) = .ok n := by
      cases hd : Lib.decDigits n.toNat with
      | nil => exact absurd hd (digits_ne _)
      | cons c r =>
        have hc := dm c (by rw [hd]; simp)
        unfold Lib.atoiAll
        simp only
        rw [if_neg (by omega), ← hd]
        unfold Lib.parseMag
        rw [if_neg (digits_ne _), q]
        simp only
        rw [if_neg (by omega), if_neg (by omega), if_neg (by omega)]
        congr 1
        omega
    rw [e]
theorem no32_digits (u : Nat) : (32 : UInt8) ∉ Lib.decDigits u := fun h => by have := digit_mem u _ h; revert this; decide
theorem no10_digits (u : Nat) : (10 : UInt8) ∉ Lib.decDigits u := fun h => by have := digit_mem u _ h; revert this; decide
theorem no32_itoa (n : Int) : (32 : UInt8) ∉ Lib.itoa n := by
  unfold Lib.itoa
  split
  · intro h
    rcases List.mem_cons.1 h with h | h
    · revert h; decide
    · exact no32_digits _ h
  · exact no32_digits _
theorem no10_itoa (n : Int) : (10 : UInt8) ∉ Lib.itoa n := by
  unfold Lib.itoa
  split
  · intro h
    rcases List.mem_cons.1 h with h | h
    · revert h; decide
    · exact no10_digits _ h
  · exact no10_digits _
end Go.Proofs.YtddihnnodegkmaaGreatDoor
