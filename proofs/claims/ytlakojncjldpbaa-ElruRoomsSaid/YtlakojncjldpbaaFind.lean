/- The table's find. -/
import Derived.Test.YtlakojncjldpbaaMix
namespace Go.Proofs.Ytlakojncjldpbaa
open Go.RowKit Hop
set_option linter.unusedVariables false
set_option linter.unusedSimpArgs false
set_option maxRecDepth 100000
theorem tslot_cell {w : World} {bt : Nat} {t : List Ts} (hb : Blk w bt (flat encT t) 213) {n j : Nat} (hn : n < t.length) (hj : j < 3) : w.cell? ⟨bt, n * 3 + j, none⟩ = (encT (tg t n))[j]? := by
  rw [hb.cell, flat_get encT_len t n j hn hj]
  have e : tg t n = t[n] := by show gt t n Ts.z = _; simp [gt, hn]
  rw [e]
/-- A table in memory. -/
structure TRep (w : World) (pt bt : Nat) (t : List Ts) (many : Int) : Prop where
  ht : Blk w pt [S0 bt t.length, .int .i64 many] 195
  bt : Blk w bt (flat encT t) 213
section
variable {w w' : World} {pt bt : Nat} {t : List Ts} {many : Int}
theorem TRep.keep (h : TRep w pt bt t many) (hb : Below w.heap.size w w') : TRep w' pt bt t many := ⟨h.ht.keep hb, h.bt.keep hb⟩
theorem TRep.frame {own : Nat → Prop} (h : TRep w pt bt t many) (hf : Fr own w w') (h1 : ¬ own pt) (h2 : ¬ own bt) : TRep w' pt bt t many := ⟨hf.blk h1 h.ht, hf.blk h2 h.bt⟩
end
section
variable (pt bt : Nat) (t : List Ts) (many : Int)
set_option maxHeartbeats 800000 in
theorem next_any (a : Int) (w : World) (hp : P2 t.length) (h0 : 0 ≤ a) (h1 : a < t.length) (h : TRep w pt bt t many) :
    Calls Try.prog 212 #[P0 pt, .int .i64 a] w fun e w' => e = .returned (.int .i64 (adv t.length a 1)) ∧ w = w' := by
  have c0 := h.ht.cell 0
  simp only [List.getElem?_cons_zero] at c0
  have e1 : bits .and .i64 (a + 1) ((t.length : Int) - 1) = adv t.length a 1 := by
    rw [← adv_mod h0 h1]
    obtain ⟨j, hj, hn⟩ := hp
    rw [hn]
    exact and_i64 _ j hj
  have hb := hp.pos
  have hb1 := hb.1
  have hb2 := hb.2
  have hb3 : t.length ≤ 1073741824 := by omega
  have hb4 : 1 ≤ t.length := by omega
  have E1 := Go.Lib.hid e1
  clear e1 hb
  go_enter Try.func212, Try.ntmps212
  go_wp2_with fail
  go_ret
  exact ⟨by rw [← E1.out]; rfl, rfl⟩
set_option maxHeartbeats 1600000 in
theorem find_any (k : Int) (w : World) (hk0 : 0 ≤ k) (hk1 : k < 18446744073709551616) (hp : P2 t.length) (h : TRep w pt bt t many) (he : ∃ e : Int, 0 ≤ e ∧ e < t.length ∧ (tg t e).full = false) :
    Calls Try.prog 208 #[P0 pt, .int .u64 k] w fun e w' => ∃ r : Int, e = .returned (.int .i64 r) ∧ Fnd hmF t k r ∧ Below w.heap.size w w' := by
  have c0 := h.ht.cell 0
  simp only [List.getElem?_cons_zero] at c0
  have hh := hmF_lt hp k
  obtain ⟨hh0, hh1⟩ := hh
  have HH := fun w => home_any k t.length w hk0 hk1 hp
  have HHM := Go.Lib.hid HH
  clear HH
  have hb := hp.pos
  have hb1 := hb.1
  have hb2 := hb.2
  have hb3 : t.length ≤ 1073741824 := by omega
  go_enter Try.func208, Try.ntmps208
  go_wp2_with fail
  go_step3
  go_wp2_with fail
  refine (HHM.out _).mono ?_
  rintro e w1 ⟨rfl, rfl⟩
  go_wp2_with fail
  go_step3
  go_wp2_with fail
  go_loopg [5] t.length (fun g v5 wr => ∃ j : Nat, j + g = t.length ∧ v5 = .int .i64 (adv t.length (hmF k t.length) j) ∧ Hid (∀ i : Nat, i < j → (tg t (adv t.length (hmF k t.length) i)).full = true ∧ (tg t (adv t.length (hmF k t.length) i)).key ≠ k) ∧ Below w.heap.size w wr)
  case atStart => exact ⟨0, by omega, by rw [show ((0 : Nat) : Int) = 0 from rfl, adv_zero hh1], fun i hi => absurd hi (Nat.not_lt_zero i), Below.refl _ _⟩
  case round =>
    obtain ⟨j, hj, rfl, hA, hB⟩ := hrel
    have hjn : j < t.length := by
      obtain ⟨e, e0, e1, e2⟩ := he
      have q := ap_lt hh0 hh1 e0 e1
      rcases Nat.lt_or_ge j t.length with h | h
      · exact h
      · have q1 := hA.out (ap t.length (hmF k t.length) e).toNat (by omega)
        rw [Int.toNat_of_nonneg q.1, adv_ap hh0 hh1 e0 e1, e2] at q1
        cases q1.1
    have hF : ∀ (r : Int), r = adv t.length (hmF k t.length) j → ((tg t r).full = false ∨ (tg t r).key = k) → Fnd hmF t k r := by
      intro r hr hs
      have q := adv_lt hh0 hh1 (by omega : (0 : Int) ≤ j) (by omega : (j : Int) < t.length)
      refine ⟨by rw [hr]; exact q.1, by rw [hr]; exact q.2, ?_, hs⟩
      intro y y0 y1 hy
      rw [hr, ap_adv hh0 hh1 (by omega) (by omega)] at hy
      have q2 := ap_lt hh0 hh1 y0 y1
      have q3 := hA.out (ap t.length (hmF k t.length) y).toNat (by omega)
      rwa [Int.toNat_of_nonneg q2.1, adv_ap hh0 hh1 y0 y1] at q3
    have hS : (j + 1 : Nat) < t.length → adv t.length (hmF k t.length) ((j + 1 : Nat) : Int) = adv t.length (adv t.length (hmF k t.length) j) 1 := by
      intro hlt
      have := adv_succ hh0 hh1 (by omega : (0 : Int) ≤ j) (by omega : (j : Int) + 1 < t.length)
      rw [← this]; congr 1
    have hA2 : (tg t (adv t.length (hmF k t.length) j)).full = true → (tg t (adv t.length (hmF k t.length) j)).key ≠ k → ∀ i : Nat, i < j + 1 → (tg t (adv t.length (hmF k t.length) i)).full = true ∧ (tg t (adv t.length (hmF k t.length) i)).key ≠ k := by
      intro h1 h2 i hi
      rcases Nat.lt_or_ge i j with h | h
      · exact hA.out i h
      · have : i = j := by omega
        subst this
        exact ⟨h1, h2⟩
    have hlast : (tg t (adv t.length (hmF k t.length) j)).full = true → (tg t (adv t.length (hmF k t.length) j)).key ≠ k → (j + 1 : Nat) < t.length := by
      intro h1 h2
      obtain ⟨e, e0, e1, e2⟩ := he
      have q := ap_lt hh0 hh1 e0 e1
      rcases Nat.lt_or_ge (j + 1) t.length with h | h
      · exact h
      · have q1 := hA2 h1 h2 (ap t.length (hmF k t.length) e).toNat (by omega)
        rw [Int.toNat_of_nonneg q.1, adv_ap hh0 hh1 e0 e1, e2] at q1
        cases q1.1
    have q := adv_lt hh0 hh1 (by omega : (0 : Int) ≤ j) (by omega : (j : Int) < t.length)
    have hex : ∃ a, a = adv t.length (hmF k t.length) j := ⟨_, rfl⟩
    obtain ⟨a, ha⟩ := hex
    rw [← ha] at hF hS hA2 hlast q ⊢
    obtain ⟨m, rfl⟩ := Int.eq_ofNat_of_zero_le q.1
    have hm : m < t.length := by omega
    have R := h.keep hB
    have c1 := R.ht.cell 0
    have d0 := tslot_cell R.bt hm (j := 0) (by omega)
    have d1 := tslot_cell R.bt hm (j := 1) (by omega)
    have d2 := tslot_cell R.bt hm (j := 2) (by omega)
    simp only [encT, List.getElem?_cons_zero, List.getElem?_cons_succ, Nat.add_zero] at c1 d0 d1 d2
    have l0 := R.ht.lt
    have l1 := R.bt.lt
    have HF := Go.Lib.hid hF
    have HS := Go.Lib.hid hS
    have HA2 := Go.Lib.hid hA2
    have HL := Go.Lib.hid hlast
    have HB := Go.Lib.hid hB
    have HJ := Go.Lib.hid hj
    have HM := Go.Lib.hid ha
    clear hF hS hA2 hlast hB hj ha c0 he
    cases hfull : (tg t m).full with
    | false =>
      rw [hfull] at d2
      go_wp2_with fail
      rw [Exit.noGoto_ret]
      go_ret
      exact ⟨_, rfl, HF.out _ rfl (.inl hfull), HB.out.trans ((Below.refl _ _).alloc HB.out.size _)⟩
    | true =>
      rw [hfull] at d2
      by_cases hkey : (tg t m).key = k
      · have hkb : ((tg t m).key == k) = true := by simpa using hkey
        have HK := Go.Lib.hid hkey
        have HFU := Go.Lib.hid hfull
        clear hkey hfull
        go_wp2_with fail
        rw [Exit.noGoto_ret]
        go_ret
        exact ⟨_, rfl, HF.out _ rfl (.inr HK.out), HB.out.trans ((Below.refl _ _).alloc HB.out.size _)⟩
      · have hkb : ((tg t m).key == k) = false := by simpa using hkey
        have hlt := HL.out hfull hkey
        have hA3 := HA2.out hfull hkey
        have HA3 := Go.Lib.hid hA3
        have HLT := Go.Lib.hid hlt
        clear hkey hfull hA3 hlt
        go_wp2_with fail
        refine (next_any pt bt t many m _ hp (by omega) (by omega) (TRep.keep R ((Below.refl _ _).alloc (Nat.le_refl _) _))).mono ?_
        rw [← HS.out HLT.out]
        rintro e w2 ⟨rfl, rfl⟩
        go_wp2_with fail
        go_roundg (gk - 1)
        case measure => have := HJ.out; have := HLT.out; omega
        case rel => exact ⟨j + 1, by have := HJ.out; have := HLT.out; omega, rfl, HA3.out, HB.out.trans ((Below.refl _ _).alloc HB.out.size _)⟩
theorem find_at (k r : Int) (w : World) (hk0 : 0 ≤ k) (hk1 : k < 18446744073709551616) (hp : P2 t.length) (h : TRep w pt bt t many) (he : ∃ e : Int, 0 ≤ e ∧ e < t.length ∧ (tg t e).full = false) (hF : Fnd hmF t k r) :
    Calls Try.prog 208 #[P0 pt, .int .u64 k] w fun e w' => e = .returned (.int .i64 r) ∧ Below w.heap.size w w' := by
  refine (find_any pt bt t many k w hk0 hk1 hp h he).mono ?_
  rintro e w' ⟨r', rfl, F', hb⟩
  have := hF.eq F' (hmF_lt hp k).1 (hmF_lt hp k).2
  subst this
  exact ⟨rfl, hb⟩
end
end Go.Proofs.Ytlakojncjldpbaa
