/- config.May, wrap, and the texts of errors. -/
import Derived.Test.YtddihnnodegkmaaDoorCf2
namespace Go.Proofs.YtddihnnodegkmaaDoor
open Go.RowKit Go.Extern.Stop Go.Stop Go.Extern Hop
set_option linter.unusedVariables false
set_option linter.unusedSimpArgs false
set_option maxRecDepth 100000
def sPolicy : ByteArray := ⟨#[112, 111, 108, 105, 99, 121]⟩
def sCapacity : ByteArray := ⟨#[99, 97, 112, 97, 99, 105, 116, 121]⟩
def sX : ByteArray := ⟨#[120]⟩
set_option maxHeartbeats 800000 in
theorem within_any (n m : Int) (w : World) : Calls Tryd.prog 28 #[.int .i64 n, .int .i64 m] w fun e w' => e = .returned (.bool (decide (1 ≤ n ∧ n ≤ m))) ∧ w = w' := by
  by_cases h1 : 1 ≤ n
  · by_cases h2 : n ≤ m
    · rw [show decide (1 ≤ n ∧ n ≤ m) = true by simp [h1, h2]]
      go_enter Tryd.func28, Tryd.ntmps28
      go_wp2_with fail
      go_ret
      exact ⟨rfl, rfl⟩
    · rw [show decide (1 ≤ n ∧ n ≤ m) = false by simp [h2]]
      have h2' : decide (n ≤ m) = false := by simp [h2]
      clear h2
      go_enter Tryd.func28, Tryd.ntmps28
      go_wp2_with fail
      go_ret
      exact ⟨rfl, rfl⟩
  · rw [show decide (1 ≤ n ∧ n ≤ m) = false by simp [h1]]
    have h1' : decide (1 ≤ n) = false := by simp [h1]
    clear h1
    go_enter Tryd.func28, Tryd.ntmps28
    go_wp2_with fail
    go_ret
    exact ⟨rfl, rfl⟩
def okP (p : Int) : Prop := 1 ≤ p ∧ p ≤ 5
def okC (c : Int) : Prop := 1 ≤ c ∧ c ≤ 1048576
set_option maxHeartbeats 800000 in
theorem may_ok (p c : Int) (w : World) (hp : okP p) (hc : okC c) : Calls Tryd.prog 12 #[.int .i64 p, .int .i64 c] w fun e w' => e = .returned .nilIface ∧ w = w' := by
  have h1 : Hid (decide (1 ≤ p ∧ p ≤ 5) = true) := Go.Lib.hid (by simp only [okP] at hp; simp [hp])
  have h2 : Hid (decide (1 ≤ c ∧ c ≤ 1048576) = true) := Go.Lib.hid (by simp only [okC] at hc; simp [hc])
  clear hp hc
  go_enter Tryd.func12, Tryd.ntmps12
  go_wp2_with fail
  refine (within_any _ _ _).mono ?_
  rintro e w1 ⟨rfl, rfl⟩
  rw [h1.out]
  go_wp2_with fail
  refine (within_any _ _ _).mono ?_
  rintro e w1 ⟨rfl, rfl⟩
  rw [h2.out]
  go_wp2_with fail
  go_ret
  exact ⟨rfl, rfl⟩
set_option maxHeartbeats 800000 in
theorem may_pol (p c : Int) (w : World) (hp : ¬ okP p) : Calls Tryd.prog 12 #[.int .i64 p, .int .i64 c] w fun e w' => ∃ b, e = .returned (.iface 38 (.pointer (some ⟨b, 0, none⟩))) ∧ Blk w' b [.string sPolicy, .int .i64 p, .iface 32 (.int .i64 1)] 40 ∧ Below w.heap.size w w' := by
  have h1 : Hid (decide (1 ≤ p ∧ p ≤ 5) = false) := Go.Lib.hid (by simp only [okP] at hp; simp only [decide_eq_false_iff_not]; exact hp)
  have HB : Hid (Below w.heap.size w (w.alloc (.cells #[.string sPolicy, .int .i64 p, .iface 32 (.int .i64 1)] 40))) := Go.Lib.hid ((Below.refl _ _).alloc (Nat.le_refl _) _)
  have Hb := Go.Lib.hid (Blk.new0 w [.string sPolicy, .int .i64 p, .iface 32 (.int .i64 1)] 40)
  clear hp
  go_enter Tryd.func12, Tryd.ntmps12
  go_wp2_with fail
  refine (within_any _ _ _).mono ?_
  rintro e w1 ⟨rfl, rfl⟩
  rw [h1.out]
  go_wp2_with fail
  go_ret
  exact ⟨_, rfl, Hb.out, HB.out⟩
set_option maxHeartbeats 800000 in
theorem may_cap (p c : Int) (w : World) (hp : okP p) (hc : ¬ okC c) : Calls Tryd.prog 12 #[.int .i64 p, .int .i64 c] w fun e w' => ∃ b, e = .returned (.iface 38 (.pointer (some ⟨b, 0, none⟩))) ∧ Blk w' b [.string sCapacity, .int .i64 c, .iface 32 (.int .i64 1)] 40 ∧ Below w.heap.size w w' := by
  have h1 : Hid (decide (1 ≤ p ∧ p ≤ 5) = true) := Go.Lib.hid (by simp only [okP] at hp; simp [hp])
  have h2 : Hid (decide (1 ≤ c ∧ c ≤ 1048576) = false) := Go.Lib.hid (by simp only [okC] at hc; simp only [decide_eq_false_iff_not]; exact hc)
  have HB : Hid (Below w.heap.size w (w.alloc (.cells #[.string sCapacity, .int .i64 c, .iface 32 (.int .i64 1)] 40))) := Go.Lib.hid ((Below.refl _ _).alloc (Nat.le_refl _) _)
  have Hb := Go.Lib.hid (Blk.new0 w [.string sCapacity, .int .i64 c, .iface 32 (.int .i64 1)] 40)
  clear hp hc
  go_enter Tryd.func12, Tryd.ntmps12
  go_wp2_with fail
  refine (within_any _ _ _).mono ?_
  rintro e w1 ⟨rfl, rfl⟩
  rw [h1.out]
  go_wp2_with fail
  refine (within_any _ _ _).mono ?_
  rintro e w1 ⟨rfl, rfl⟩
  rw [h2.out]
  go_wp2_with fail
  go_ret
  exact ⟨_, rfl, Hb.out, HB.out⟩
def mayF (p c : Int) : Int := if p < 1 ∨ 5 < p then 1 else if c < 1 ∨ 1048576 < c then 2 else 0
set_option maxHeartbeats 1600000 in
theorem refmay_any (p c : Int) (w : World) : Calls Tryd.prog 13 #[.int .i64 p, .int .i64 c] w fun e w' => e = .returned (.int .i64 (mayF p c)) ∧ w = w' := by
  have q : Hid (mayF p c = if p < 1 ∨ 5 < p then 1 else if c < 1 ∨ 1048576 < c then 2 else 0) := Go.Lib.hid rfl
  by_cases h1 : p < 1
  · go_enter Tryd.func13, Tryd.ntmps13
    go_wp2_with fail
    go_ret
    exact ⟨by rw [q.out, if_pos (.inl h1)] <;> rfl, rfl⟩
  · by_cases h2 : 5 < p
    · go_enter Tryd.func13, Tryd.ntmps13
      go_wp2_with fail
      go_ret
      exact ⟨by rw [q.out, if_pos (.inr h2)] <;> rfl, rfl⟩
    · by_cases h3 : c < 1
      · go_enter Tryd.func13, Tryd.ntmps13
        go_wp2_with fail
        go_ret
        exact ⟨by rw [q.out, if_neg (by omega), if_pos (.inl h3)] <;> rfl, rfl⟩
      · by_cases h4 : 1048576 < c
        · go_enter Tryd.func13, Tryd.ntmps13
          go_wp2_with fail
          go_ret
          exact ⟨by rw [q.out, if_neg (by omega), if_pos (.inr h4)] <;> rfl, rfl⟩
        · go_enter Tryd.func13, Tryd.ntmps13
          go_wp2_with fail
          go_ret
          exact ⟨by rw [q.out, if_neg (by omega), if_neg (by omega)] <;> rfl, rfl⟩
/-- nil, or an error. -/
def Er (v : Value) : Prop := v = .nilIface ∨ ∃ T x, v = .iface T x
theorem Ch.er {w : World} {k : Nat} {v e : Value} (h : Ch w k v e) (he : Er e) : Er v := by
  cases k with
  | zero => have e' : v = e := h; rw [e']; exact he
  | succ k => obtain ⟨b, f, n, v', h1, _⟩ := h; exact .inr ⟨_, _, h1⟩
set_option maxHeartbeats 1600000 in
/-- An error, wrapped again and again. -/
theorem wrap_any (v e0 : Value) (k : Nat) (n : Int) (w : World) (hn0 : 0 ≤ n) (hn1 : n < 256) (h : Ch w k v e0) (he : Er e0) :
    Calls Tryd.prog 15 #[v, .int .u8 n] w fun e w' => ∃ v', e = .returned v' ∧ Ch w' ((n % 20).toNat + k) v' e0 ∧ Below w.heap.size w w' := by
  have hm0 : 0 ≤ n % 20 := by omega
  have hm1 : n % 20 < 20 := by omega
  have HC := Go.Lib.hid h
  clear h
  go_enter Tryd.func15, Tryd.ntmps15
  go_wp2_with fail
  go_loopw [0, 5] (fun x i wr => ∃ j : Nat, (j : Int) ≤ n % 20 ∧ i = .int .i64 j ∧ Ch wr (j + k) x e0 ∧ Below w.heap.size w wr) (fun _ i _ => (n % 20 - intOf i).toNat)
  case atStart => exact ⟨0, by omega, rfl, by rw [Nat.zero_add]; exact HC.out, Below.refl _ _⟩
  case round =>
    obtain ⟨j, hj, rfl, hC, hB⟩ := hrel
    by_cases hlt : (j : Int) < n % 20
    · have HB1 : Hid (Below w.heap.size w (wr.alloc (.cells #[.string sX, .int .i64 j, u0] 40))) := Go.Lib.hid (hB.alloc hB.size _)
      have HC1 : Hid (Ch (wr.alloc (.cells #[.string sX, .int .i64 j, u0] 40)) (j + 1 + k) (.iface 38 (.pointer (some ⟨wr.heap.size, 0, none⟩))) e0) := Go.Lib.hid (by
        rw [show j + 1 + k = (j + k) + 1 by omega]
        exact ⟨_, sX, j, u0, rfl, Blk.new0 wr [.string sX, .int .i64 j, u0] 40, hC.keep ((Below.refl _ _).alloc (Nat.le_refl _) _)⟩)
      have hE := hC.er he
      clear hC hB HC he
      rcases hE with rfl | ⟨T, x, rfl⟩
      · go_wp2_with fail
        go_roundw
        case rel => exact ⟨j + 1, by omega, by go_num, HC1.out, HB1.out⟩
        case measure => simp [intOf]; omega
      · go_wp2_with fail
        go_roundw
        case rel => exact ⟨j + 1, by omega, by go_num, HC1.out, HB1.out⟩
        case measure => simp [intOf]; omega
    · have e : Hid ((n % 20).toNat = j) := Go.Lib.hid (by omega)
      have HC' := Go.Lib.hid hC
      have HB' := Go.Lib.hid hB
      clear hC hB HC he
      go_wp2_with fail
      go_ret
      exact ⟨_, rfl, by rw [e.out]; exact HC'.out, HB'.out⟩
end Go.Proofs.YtddihnnodegkmaaDoor
