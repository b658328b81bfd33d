/- A key's home, and how far a place is behind another one. -/
import Derived.Test.YtlakojncjldpbaaFree
namespace Go.Proofs.Ytlakojncjldpbaa
open Go.RowKit Hop
set_option linter.unusedVariables false
set_option linter.unusedSimpArgs false
set_option maxRecDepth 100000
/-- A key, mixed. -/
def mixF (k : Int) : Int := bits .xor .u64 (IntKind.u64.wrap (k * 11400714819323198485)) (IntKind.u64.wrap (k * 11400714819323198485) / 4294967296)
/-- A key's home in so many slots. -/
def hmF (k n : Int) : Int := mixF k % n
theorem mixF_lo (k : Int) : 0 ≤ mixF k ∧ mixF k < 18446744073709551616 := by
  unfold mixF bits
  rw [IntKind.wrap_u64]
  omega
theorem pow_pos' (j : Nat) : (0 : Int) < 2 ^ j := Int.pow_pos (by omega)
theorem pow_lt (j : Nat) (hj : j < 31) : (2 : Int) ^ j ≤ 1073741824 := by
  have h : (2 : Int) ^ j ≤ 2 ^ 30 := by exact_mod_cast Nat.pow_le_pow_right (by omega) (by omega : j ≤ 30)
  exact h
theorem pow_cast (j : Nat) : ((2 : Int) ^ j - 1) = ((2 ^ j - 1 : Nat) : Int) := by
  rw [Int.natCast_sub (Nat.two_pow_pos j)]; simp
theorem mask_key (x : Int) (j : Nat) (hj : j < 31) : (BitVec.ofInt 64 x &&& BitVec.ofInt 64 ((2 : Int) ^ j - 1)).toNat = (x % 2 ^ j).toNat := by
  have hm : (BitVec.ofInt 64 ((2 : Int) ^ j - 1)).toNat = 2 ^ j - 1 := by
    rw [pow_cast, BitVec.ofInt_natCast, BitVec.toNat_ofNat]
    apply Nat.mod_eq_of_lt
    have h : 2 ^ j ≤ 2 ^ 30 := Nat.pow_le_pow_right (by omega) (by omega)
    omega
  rw [BitVec.toNat_and, BitVec.toNat_ofInt, hm, Nat.and_two_pow_sub_one_eq_mod]
  have h1 : ((x % ((2 ^ 64 : Nat) : Int)).toNat % 2 ^ j : Nat) = ((x % ((2 ^ 64 : Nat) : Int)) % ((2 ^ j : Nat) : Int)).toNat := by
    have hpos : 0 ≤ x % ((2 ^ 64 : Nat) : Int) := Int.emod_nonneg _ (by decide)
    obtain ⟨m, hm⟩ := Int.eq_ofNat_of_zero_le hpos
    rw [hm]
    simp only [Int.toNat_natCast]
    rw [← Int.natCast_emod, Int.toNat_natCast]
  rw [h1]
  congr 1
  have hd : ((2 ^ j : Nat) : Int) ∣ ((2 ^ 64 : Nat) : Int) := by
    rw [Int.natCast_dvd_natCast]
    exact Nat.pow_dvd_pow 2 (by omega)
  rw [Int.emod_emod_of_dvd _ hd]
  simp
theorem and_i64 (x : Int) (j : Nat) (hj : j < 31) : bits .and .i64 x ((2 : Int) ^ j - 1) = x % 2 ^ j := by
  show IntKind.i64.wrap ((BitVec.ofInt 64 x &&& BitVec.ofInt 64 ((2 : Int) ^ j - 1)).toNat : Nat) = _
  rw [mask_key x j hj]
  have h0 := Int.emod_nonneg x (by have := pow_pos' j; omega : (2 : Int) ^ j ≠ 0)
  have h1 := Int.emod_lt_of_pos x (pow_pos' j)
  have h2 := pow_lt j hj
  rw [Int.toNat_of_nonneg h0, IntWalk.i64_in _ (by omega)]
theorem and_u64 (x : Int) (j : Nat) (hj : j < 31) : bits .and .u64 x ((2 : Int) ^ j - 1) = x % 2 ^ j := by
  show IntKind.u64.wrap ((BitVec.ofInt 64 x &&& BitVec.ofInt 64 ((2 : Int) ^ j - 1)).toNat : Nat) = _
  rw [mask_key x j hj]
  have h0 := Int.emod_nonneg x (by have := pow_pos' j; omega : (2 : Int) ^ j ≠ 0)
  have h1 := Int.emod_lt_of_pos x (pow_pos' j)
  have h2 := pow_lt j hj
  rw [Int.toNat_of_nonneg h0, IntWalk.u64_in _ (by omega)]
/-- A table's size: a power of two. -/
def P2 (n : Int) : Prop := ∃ j : Nat, j < 31 ∧ n = 2 ^ j
theorem P2.pos {n : Int} (h : P2 n) : 1 ≤ n ∧ n ≤ 1073741824 := by
  obtain ⟨j, hj, rfl⟩ := h
  have := pow_pos' j
  have := pow_lt j hj
  omega
theorem hmF_lt {n : Int} (h : P2 n) (k : Int) : 0 ≤ hmF k n ∧ hmF k n < n := by
  have := h.pos
  exact ⟨Int.emod_nonneg _ (by omega), Int.emod_lt_of_pos _ (by omega)⟩
theorem ap_mod {n a b : Int} (h0 : 0 ≤ a) (h1 : a < n) (h2 : 0 ≤ b) (h3 : b < n) : (b - a) % n = ap n a b := by
  unfold ap
  split
  · exact Int.emod_eq_of_lt (by omega) (by omega)
  · rw [← Int.add_emod_right, Int.emod_eq_of_lt (by omega) (by omega)]; omega
theorem adv_mod {n a : Int} (h0 : 0 ≤ a) (h1 : a < n) : (a + 1) % n = adv n a 1 := by
  unfold adv
  split
  · exact Int.emod_eq_of_lt (by omega) (by omega)
  · rw [show a + 1 = n by omega, Int.emod_self]; omega
set_option maxHeartbeats 800000 in
theorem mix_any (k : Int) (w : World) (h0 : 0 ≤ k) (h1 : k < 18446744073709551616) :
    Calls Try.prog 235 #[.int .u64 k] w fun e w' => e = .returned (.int .u64 (mixF k)) ∧ w = w' := by
  go_enter Try.func235, Try.ntmps235
  go_wp2
  go_ret
  exact ⟨rfl, rfl⟩
set_option maxHeartbeats 800000 in
theorem size_yes (n : Int) (h : P2 n) (w : World) :
    Calls Try.prog 234 #[.int .i64 n] w fun e w' => e = .returned (.bool true) ∧ w = w' := by
  obtain ⟨j, hj, rfl⟩ := h
  have hw : wrap64 ((2 : Int) ^ j) = 2 ^ j := by have := pow_pos' j; have := pow_lt j hj; unfold wrap64; omega
  have Heq : ((2 : Int) ^ j == wrap64 (2 ^ j)) = true := by rw [hw]; simp
  have Hne : ∀ k : Nat, k < j → ((2 : Int) ^ j == wrap64 (2 ^ k)) = false := by
    intro k hk
    have hw' : wrap64 ((2 : Int) ^ k) = 2 ^ k := by have := pow_pos' k; have := pow_lt k (by omega); unfold wrap64; omega
    rw [hw', beq_eq_false_iff_ne]
    intro he
    have : (2 : Nat) ^ k < 2 ^ j := Nat.pow_lt_pow_right (by omega) hk
    have he' : (2 : Nat) ^ j = 2 ^ k := by exact_mod_cast he
    omega
  have HNE := Go.Lib.hid Hne
  clear Hne hw
  go_enter Try.func234, Try.ntmps234
  go_wp2
  go_loop [3, 4] (fun _ i => ∃ k : Nat, k ≤ j ∧ i = .int .i64 k) (fun _ i => 31 - (intOf i).toNat)
  case atStart => exact ⟨0, Nat.zero_le _, rfl⟩
  case round =>
    obtain ⟨k, hk, rfl⟩ := hrel
    have hlt : k < 31 := by omega
    by_cases hkj : k = j
    · subst hkj
      go_wp2
      go_ret
      exact ⟨rfl, rfl⟩
    · have h1 := HNE.out k (by omega)
      go_wp2
      go_round
      case rel => exact ⟨k + 1, by omega, by go_num⟩
      case measure => simp [intOf]; omega
set_option maxHeartbeats 800000 in
theorem home_any (k n : Int) (w : World) (h0 : 0 ≤ k) (h1 : k < 18446744073709551616) (hn : P2 n) :
    Calls Try.prog 210 #[.int .u64 k, .int .i64 n] w fun e w' => e = .returned (.int .i64 (hmF k n)) ∧ w = w' := by
  have hb := hn.pos
  have hl := hmF_lt hn k
  have e1 : bits .and .u64 (mixF k) (n - 1) = hmF k n := by
    obtain ⟨j, hj, rfl⟩ := hn
    exact and_u64 _ j hj
  have hm := mixF_lo k
  have MX := fun w => mix_any k w h0 h1
  generalize mixF k = m at *
  generalize hmF k n = r at *
  have HMX := Go.Lib.hid MX
  have E1 := Go.Lib.hid e1
  clear MX e1
  obtain ⟨hb1, hb2⟩ := hb
  obtain ⟨hm1, hm2⟩ := hm
  obtain ⟨hl1, hl2⟩ := hl
  go_enter Try.func210, Try.ntmps210
  go_wp2_with fail
  refine (size_yes n hn _).mono ?_
  rintro e w1 ⟨rfl, rfl⟩
  go_wp2_with fail
  refine (HMX.out _).mono ?_
  rintro e w1 ⟨rfl, rfl⟩
  have e1 := E1.out
  go_wp2_with fail
  go_ret
  exact ⟨rfl, rfl⟩
set_option maxHeartbeats 800000 in
theorem apart_any (a b n : Int) (w : World) (h0 : 0 ≤ a) (h1 : a < n) (h2 : 0 ≤ b) (h3 : b < n) (hn : P2 n) :
    Calls Try.prog 211 #[.int .i64 a, .int .i64 b, .int .i64 n] w fun e w' => e = .returned (.int .i64 (ap n a b)) ∧ w = w' := by
  have hb := hn.pos
  have e1 : bits .and .i64 (b - a) (n - 1) = ap n a b := by
    rw [← ap_mod h0 h1 h2 h3]
    obtain ⟨j, hj, rfl⟩ := hn
    exact and_i64 _ j hj
  have hB1 := hb.1
  have hB2 := hb.2
  have E1 := Go.Lib.hid e1
  clear e1 hb
  go_enter Try.func211, Try.ntmps211
  go_wp2_with fail
  refine (size_yes n hn _).mono ?_
  rintro e w1 ⟨rfl, rfl⟩
  go_wp2_with fail
  go_ret
  exact ⟨by rw [← E1.out]; rfl, rfl⟩
end Go.Proofs.Ytlakojncjldpbaa
