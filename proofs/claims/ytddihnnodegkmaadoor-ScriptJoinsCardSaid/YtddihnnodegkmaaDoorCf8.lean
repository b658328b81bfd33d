/- The reference's numerals. -/
import Derived.Test.YtddihnnodegkmaaDoorCf6
import Derived.Laws.IdiomStrings
namespace Go.Proofs.YtddihnnodegkmaaDoor
open Go.RowKit Go.Extern.Stop Go.Stop Go.Extern Hop
set_option linter.unusedVariables false
set_option linter.unusedSimpArgs false
set_option maxRecDepth 100000
/-- One figure as a string. -/
theorem conv_one (w : World) (x : Int) (d : Nat) (hd : d < 10) (hx : x = 48 + d) : (convert 64 9 (.slice (some ⟨w.heap.size, 0, none⟩) 1 1)).run Tryd.prog (w.alloc (.cells #[.int .u8 x] 5)) = .ok (.string ⟨[UInt8.ofNat (48 + d)].toArray⟩) (w.alloc (.cells #[.int .u8 x] 5)) := by
  have h := run_convert_bytes_back (P := Tryd.prog) (w.alloc (.cells #[.int .u8 x] 5)) 64 9 5 ⟨w.heap.size, 0, none⟩ 1 [UInt8.ofNat (48 + d)] Tryd.underlying64 Tryd.underlying5 Tryd.underlying9 (fun j hj => by
    obtain rfl : j = 0 := by simp at hj; omega
    have q := (Blk.new0 w [.int .u8 x] 5).cell 0
    have e : ((⟨w.heap.size, 0, none⟩ : Addr).add 0) = ⟨w.heap.size, 0, none⟩ := by simp [Addr.add]
    rw [e, q]
    have : (UInt8.ofNat (48 + d)).toNat = 48 + d := by simp; omega
    simp only [List.getElem?_cons_zero, List.getElem_cons_zero, this]
    rw [hx]; simp)
  exact h
abbrev dS (m : Nat) : ByteArray := ⟨(Lib.decDigits m).toArray⟩
theorem dS_small {m : Nat} (h : m < 10) : dS m = ⟨[UInt8.ofNat (48 + m)].toArray⟩ := by unfold dS; rw [Lib.decDigits, dif_pos h]
theorem dS_big {m : Nat} (h : ¬ m < 10) : dS m = dS (m / 10) ++ ⟨[UInt8.ofNat (48 + m % 10)].toArray⟩ := by
  unfold dS
  rw [Lib.decDigits, dif_neg h, ByteArray.mk_append_mk]
theorem dS_size {m : Nat} (h : m ≤ 9223372036854775808) : (dS m).size ≤ 20 := by
  show (Lib.decDigits m).toArray.size ≤ 20
  rw [List.size_toArray, Lib.decDigits_length]
  exact nd_le 20 m (by decide) (by omega)
 where
  nd_le : ∀ (k m : Nat), 0 < k → m < 10 ^ k → Lib.nDigits m ≤ k
    | 0, m, h0, _ => absurd h0 (by decide)
    | k + 1, m, _, h => by
      by_cases h1 : m < 10
      · rw [Lib.nDigits_small h1]; omega
      · rw [Lib.nDigits_big h1]
        cases k with
        | zero => simp at h; omega
        | succ k =>
          have := nd_le (k + 1) (m / 10) (by omega) (by rw [Nat.pow_succ] at h; omega)
          omega
set_option maxHeartbeats 1600000 in
theorem digits_pos (m : Nat) (w : World) (hm : m ≤ 9223372036854775807) (ih : Hid (∀ w, Calls Tryd.prog 32 #[.int .i64 ((m : Int) / 10)] w fun e w' => e = .returned (.string (dS (m / 10))) ∧ Below w.heap.size w w') ∨ m < 10) :
    Calls Tryd.prog 32 #[.int .i64 (m : Int)] w fun e w' => e = .returned (.string (dS m)) ∧ Below w.heap.size w w' := by
  have h0 : 0 ≤ (m : Int) := by omega
  have h1 : (m : Int) ≤ 9223372036854775807 := by omega
  have d0 : 0 ≤ (m : Int) % 10 := by omega
  have d1 : (m : Int) % 10 < 10 := by omega
  have hk := conv_one w (48 + (m : Int) % 10) (m % 10) (by omega) (by omega)
  obtain ⟨S, hS⟩ : ∃ S : ByteArray, S = ⟨[UInt8.ofNat (48 + m % 10)].toArray⟩ := ⟨_, rfl⟩
  have zS : S.size = 1 := by rw [hS]; rfl
  rw [← hS] at hk
  have HB := Go.Lib.hid ((Below.refl w.heap.size w).alloc (Nat.le_refl _) (.cells #[.int .u8 (48 + (m : Int) % 10)] 5))
  by_cases hs : m < 10
  · have hq : ((m : Int) / 10 == 0) = true := by simp; omega
    have e : Hid (dS m = S) := Go.Lib.hid (by rw [hS, dS_small hs, Nat.mod_eq_of_lt hs])
    clear ih hs hm hS
    go_enter Tryd.func32, Tryd.ntmps32
    go_wp2_with fail
    go_ret
    exact ⟨by rw [e.out] <;> rfl, HB.out⟩
  · have hq : ((m : Int) / 10 == 0) = false := by simp; omega
    have IH := ih.resolve_right hs
    have e : Hid (dS m = dS (m / 10) ++ S) := Go.Lib.hid (by rw [hS]; exact dS_big hs)
    have z : (dS (m / 10)).size ≤ 20 := dS_size (by omega)
    have k1 : ¬ (9223372036854775807 < (dS (m / 10)).size + 1) := by omega
    generalize dS (m / 10) = D at *
    clear ih hs hm hS
    go_enter Tryd.func32, Tryd.ntmps32
    go_wp2_with fail
    refine (IH.out _).mono ?_
    rintro e w1 ⟨rfl, hb1⟩
    have HB1 := Go.Lib.hid (HB.out.trans (hb1.mono HB.out.size))
    clear hb1
    go_wp2_with fail
    go_ret
    exact ⟨by rw [e.out] <;> rfl, HB1.out⟩
set_option maxHeartbeats 1600000 in
theorem digits_neg (n r q : Int) (m : Nat) (w : World) (hn : n < 0) (hn2 : -9223372036854775808 ≤ n) (e1 : n.tmod 10 = -r) (e2 : n.tdiv 10 = -q) (hr : r = (m % 10 : Nat)) (hq : q = (m / 10 : Nat)) (hm : m ≤ 9223372036854775808)
    (ih : Hid (∀ w, Calls Tryd.prog 32 #[.int .i64 (-q)] w fun e w' => e = .returned (.string (dS (m / 10))) ∧ Below w.heap.size w w') ∨ m < 10) :
    Calls Tryd.prog 32 #[.int .i64 n] w fun e w' => e = .returned (.string (dS m)) ∧ Below w.heap.size w w' := by
  have h1 : n ≤ 9223372036854775807 := by omega
  have d0 : 0 ≤ r := by omega
  have d1 : r < 10 := by omega
  have hk := conv_one w (48 + r) (m % 10) (by omega) (by omega)
  obtain ⟨S, hS⟩ : ∃ S : ByteArray, S = ⟨[UInt8.ofNat (48 + m % 10)].toArray⟩ := ⟨_, rfl⟩
  have zS : S.size = 1 := by rw [hS]; rfl
  rw [← hS] at hk
  have HB := Go.Lib.hid ((Below.refl w.heap.size w).alloc (Nat.le_refl _) (.cells #[.int .u8 (48 + r)] 5))
  by_cases hs : m < 10
  · have hq0 : q = 0 := by omega
    subst hq0
    have e : Hid (dS m = S) := Go.Lib.hid (by rw [hS, dS_small hs, Nat.mod_eq_of_lt hs])
    by_cases hr0 : r = 0
    · subst hr0
      simp only [Int.add_zero] at hk HB
      clear ih hs hm hS hr hq
      go_enter Tryd.func32, Tryd.ntmps32
      go_wp2_with fail
      go_ret
      exact ⟨by rw [e.out] <;> rfl, HB.out⟩
    · have hr1 : 0 < r := by omega
      clear ih hs hm hS hr hq hr0
      go_enter Tryd.func32, Tryd.ntmps32
      go_wp2_with fail
      go_ret
      exact ⟨by rw [e.out] <;> rfl, HB.out⟩
  · have hq1 : 0 < q := by omega
    have hq2 : (-q == 0) = false := by simp; omega
    have hq3 : wrap64 (-q) = -q := by unfold wrap64; omega
    have IH := ih.resolve_right hs
    have e : Hid (dS m = dS (m / 10) ++ S) := Go.Lib.hid (by rw [hS]; exact dS_big hs)
    have z : (dS (m / 10)).size ≤ 20 := dS_size (by omega)
    have k1 : ¬ (9223372036854775807 < (dS (m / 10)).size + 1) := by omega
    generalize dS (m / 10) = D at *
    by_cases hr0 : r = 0
    · subst hr0
      simp only [Int.add_zero] at hk HB
      clear ih hs hm hS hr hq
      go_enter Tryd.func32, Tryd.ntmps32
      go_wp2_with fail
      refine (IH.out _).mono ?_
      rintro e w1 ⟨rfl, hb1⟩
      have HB1 := Go.Lib.hid (HB.out.trans (hb1.mono HB.out.size))
      clear hb1
      go_wp2_with fail
      go_ret
      exact ⟨by rw [e.out] <;> rfl, HB1.out⟩
    · have hr1 : 0 < r := by omega
      clear ih hs hm hS hr hq hr0
      go_enter Tryd.func32, Tryd.ntmps32
      go_wp2_with fail
      refine (IH.out _).mono ?_
      rintro e w1 ⟨rfl, hb1⟩
      have HB1 := Go.Lib.hid (HB.out.trans (hb1.mono HB.out.size))
      clear hb1
      go_wp2_with fail
      go_ret
      exact ⟨by rw [e.out] <;> rfl, HB1.out⟩
theorem digits_p (m : Nat) : m ≤ 9223372036854775807 → ∀ w, Calls Tryd.prog 32 #[.int .i64 (m : Int)] w fun e w' => e = .returned (.string (dS m)) ∧ Below w.heap.size w w' := by
  induction m using Nat.strongRecOn with
  | _ m ih =>
    intro hm w
    refine digits_pos m w hm ?_
    by_cases hs : m < 10
    · exact .inr hs
    · refine .inl (Go.Lib.hid (fun w => ?_))
      have h := ih (m / 10) (by omega) (by omega) w
      rwa [show ((m / 10 : Nat) : Int) = (m : Int) / 10 by omega] at h
theorem digits_n (m : Nat) : 0 < m → m ≤ 9223372036854775808 → ∀ w, Calls Tryd.prog 32 #[.int .i64 (-(m : Int))] w fun e w' => e = .returned (.string (dS m)) ∧ Below w.heap.size w w' := by
  induction m using Nat.strongRecOn with
  | _ m ih =>
    intro h0 hm w
    refine digits_neg (-(m : Int)) (m % 10 : Nat) (m / 10 : Nat) m w (by omega) (by omega) (by rw [Int.neg_tmod, Int.tmod_eq_emod_of_nonneg (by omega)]; omega) (by rw [Int.neg_tdiv, Int.tdiv_eq_ediv_of_nonneg (by omega)]; omega) rfl rfl hm ?_
    by_cases hs : m < 10
    · exact .inr hs
    · exact .inl (Go.Lib.hid (fun w => ih (m / 10) (by omega) (by omega) (by omega) w))
abbrev iS (n : Int) : ByteArray := ⟨(Lib.itoa n).toArray⟩
theorem iS_pos {n : Int} (h : 0 ≤ n) : iS n = dS n.toNat := by unfold iS dS Lib.itoa; rw [if_neg (by omega)]
theorem iS_neg {n : Int} (h : n < 0) : iS n = ⟨#[45]⟩ ++ dS n.natAbs := by
  unfold iS dS Lib.itoa
  rw [if_pos h]
  exact (ByteArray.mk_append_mk [45] _).symm
theorem iS_size {n : Int} (h1 : -9223372036854775808 ≤ n) (h2 : n ≤ 9223372036854775807) : (iS n).size ≤ 21 := by
  by_cases h : n < 0
  · rw [iS_neg h, ByteArray.size_append]
    have := dS_size (m := n.natAbs) (by omega)
    have e : (⟨#[45]⟩ : ByteArray).size = 1 := rfl
    omega
  · rw [iS_pos (by omega)]
    have := dS_size (m := n.toNat) (by omega)
    omega
set_option maxHeartbeats 800000 in
theorem number_any (n : Int) (w : World) (h1 : -9223372036854775808 ≤ n) (h2 : n ≤ 9223372036854775807) :
    Calls Tryd.prog 19 #[.int .i64 n] w fun e w' => e = .returned (.string (iS n)) ∧ Below w.heap.size w w' := by
  by_cases h0 : 0 ≤ n
  · have e : Hid (iS n = dS n.toNat) := Go.Lib.hid (iS_pos h0)
    by_cases hs : n < 10
    · have hk := conv_one w (48 + n) n.toNat (by omega) (by omega)
      obtain ⟨S, hS⟩ : ∃ S : ByteArray, S = ⟨[UInt8.ofNat (48 + n.toNat)].toArray⟩ := ⟨_, rfl⟩
      rw [← hS] at hk
      have e' : Hid (iS n = S) := Go.Lib.hid (by rw [e.out, hS]; exact dS_small (by omega))
      have HB := Go.Lib.hid ((Below.refl w.heap.size w).alloc (Nat.le_refl _) (.cells #[.int .u8 (48 + n)] 5))
      clear e hS
      go_enter Tryd.func19, Tryd.ntmps19
      go_wp2_with fail
      go_ret
      exact ⟨by rw [e'.out] <;> rfl, HB.out⟩
    · have HD := Go.Lib.hid (digits_p n.toNat (by omega))
      rw [Int.toNat_of_nonneg h0] at HD
      have hs' : decide (n < 10) = false := by simpa using hs
      clear hs
      generalize dS n.toNat = D at *
      go_enter Tryd.func19, Tryd.ntmps19
      go_wp2_with fail
      refine (HD.out _).mono ?_
      rintro e w1 ⟨rfl, hb1⟩
      have HB1 := Go.Lib.hid hb1
      clear hb1
      go_wp2_with fail
      go_ret
      exact ⟨by rw [e.out] <;> rfl, HB1.out⟩
  · have e : Hid (iS n = ⟨#[45]⟩ ++ dS n.natAbs) := Go.Lib.hid (iS_neg (by omega))
    have HD := Go.Lib.hid (digits_n n.natAbs (by omega) (by omega))
    rw [show (-((n.natAbs : Nat) : Int)) = n by omega] at HD
    have z : (dS n.natAbs).size ≤ 20 := dS_size (by omega)
    have k1 : ¬ (9223372036854775807 < 1 + (dS n.natAbs).size) := by omega
    have hn : n < 0 := by omega
    have h0' : decide (0 ≤ n) = false := by simpa using h0
    clear h0
    generalize dS n.natAbs = D at *
    go_enter Tryd.func19, Tryd.ntmps19
    go_wp2_with fail
    refine (HD.out _).mono ?_
    rintro e w1 ⟨rfl, hb1⟩
    have HB1 := Go.Lib.hid hb1
    clear hb1
    go_wp2_with fail
    go_ret
    exact ⟨by rw [e.out] <;> rfl, HB1.out⟩
end Go.Proofs.YtddihnnodegkmaaDoor
