/- The table's find. -/
import Derived.Test.YtlakojncjldpbaaGAlloc
namespace Go.Proofs.Ytlakojncjldpbaa
open Go.RowKit Hop
set_option linter.unusedVariables false
set_option linter.unusedSimpArgs false
set_option maxRecDepth 100000
theorem tslot_cell {w : World} {bt : Nat} {t : List Ts} (hb : Blk w bt (flat encT t) 213) {n j : Nat} (hn : n < t.length) (hj : j < 3) : w.cell? ⟨bt, n * 3 + j, none⟩ = (encT (tg t n))[j]? := by
  rw [hb.cell, flat_get encT_len t n j hn hj]
  have e : tg t n = t[n] := by show gt t n Ts.z = _; simp [gt, hn]
  rw [e]
/-- A table in memory. -/
structure TRep (w : World) (pt bt : Nat) (t : List Ts) (many : Int) : Prop where
  ht : Blk w pt [S0 bt t.length, .int .i64 many] 195
  bt : Blk w bt (flat encT t) 213
section
variable {w w' : World} {pt bt : Nat} {t : List Ts} {many : Int}
theorem TRep.keep (h : TRep w pt bt t many) (hb : Below w.heap.size w w') : TRep w' pt bt t many := ⟨h.ht.keep hb, h.bt.keep hb⟩
theorem TRep.frame {own : Nat → Prop} (h : TRep w pt bt t many) (hf : Fr own w w') (h1 : ¬ own pt) (h2 : ¬ own bt) : TRep w' pt bt t many := ⟨hf.blk h1 h.ht, hf.blk h2 h.bt⟩
end
section
variable (pt bt : Nat) (t : List Ts) (many : Int)
set_option maxHeartbeats 800000 in
theorem next_any (a : Int) (w : World) (hp : P2 t.length) (h0 : 0 ≤ a) (h1 : a < t.length) (h : TRep w pt bt t many) :
    Calls Try.prog 212 #[P0 pt, .int .i64 a] w fun e w' => e = .returned (.int .i64 (adv t.length a 1)) ∧ w = w' := by
  have c0 := h.ht.cell 0
  simp only [List.getElem?_cons_zero] at c0
  have e1 : bits .and .i64 (a + 1) ((t.length : Int) - 1) = adv t.length a 1 := by
    rw [← adv_mod h0 h1]
    obtain ⟨j, hj, hn⟩ := hp
    rw [hn]
    exact and_i64 _ j hj
  have hb := hp.pos
  have hb1 := hb.1
  have hb2 := hb.2
  have hb3 : t.length ≤ 1073741824 := by omega
  have hb4 : 1 ≤ t.length := by omega
  have E1 := Go.Lib.hid e1
  clear e1 hb
  go_enter Try.func212, Try.ntmps212
  go_wp2_with fail
  go_ret
  exact ⟨by rw [← E1.out]; rfl, rfl⟩
set_option maxHeartbeats 1600000 in
theorem find_any (k : Int) (w : World) (hk0 : 0 ≤ k) (hk1 : k < 18446744073709551616) (hp : P2 t.length) (h : TRep w pt bt t many) (he : ∃ e : Int, 0 ≤ e ∧ e < t.length ∧ (tg t e).full = false) :
    Calls Try.prog 208 #[P0 pt, .int .u64 k] w fun e w' => ∃ r : Int, e = .returned (.int .i64 r) ∧ Fnd hmF t k r ∧ Below w.heap.size w w' := by
  have c0 := h.ht.cell 0
  simp only [List.getElem?_cons_zero] at c0
  have hh := hmF_lt hp k
  obtain ⟨hh0, hh1⟩ := hh
  have HH := fun w => home_any k t.length w hk0 hk1 hp
  have HHM := Go.Lib.hid HH
  clear HH
  have hb := hp.pos
  have hb1 := hb.1
  have hb2 := hb.2
  have hb3 : t.length ≤ 1073741824 := by omega
  go_enter Try.func208, Try.ntmps208
  go_wp2_with fail
  go_step3
  go_wp2_with fail
  refine (HHM.out _).mono ?_
  rintro e w1 ⟨rfl, rfl⟩
  go_wp2_with fail
  go_step3
  go_wp2_with fail
  go_loopg [5] t.length (fun g v5 wr => ∃ j : Nat, j + g = t.length ∧ v5 = .int .i64 (adv t.length (hmF k t.length) j) ∧ Hid (∀ i : Nat, i < j → (tg t (adv t.length (hmF k t.length) i)).full = true ∧ (tg t (adv t.length (hmF k t.length) i)).key ≠ k) ∧ Below w.heap.size w wr)
  case atStart => exact ⟨0, by omega, by rw [show ((0 : Nat) : Int) = 0 from rfl, adv_zero hh1], fun i hi => absurd hi (Nat.not_lt_zero i), Below.refl _ _⟩
  case round =>
    obtain ⟨j, hj, rfl, hA, hB⟩ := hrel
    have hjn : j < t.length := by
      obtain ⟨e, e0, e1, e2⟩ := he
      have q := ap_lt hh0 hh1 e0 e1
      rcases Nat.lt_or_ge j t.length with h | h
      · exact h
      · have q1 := hA.out (ap t.length (hmF k t.length) e).toNat (by omega)
        rw [Int.toNat_of_nonneg q.1, adv_ap hh0 hh1 e0 e1, e2] at q1
        cases q1.1
    have hF : ∀ (r : Int), r = adv t.length (hmF k t.length) j → ((tg t r).full = false ∨ (tg t r).key = k) → Fnd hmF t k r := by
      intro r hr hs
      have q := adv_lt hh0 hh1 (by omega : (0 : Int) ≤ j) (by omega : (j : Int) < t.length)
      refine ⟨by rw [hr]; exact q.1, by rw [hr]; exact q.2, ?_, hs⟩
      intro y y0 y1 hy
      rw [hr, ap_adv hh0 hh1 (by omega) (by omega)] at hy
      have q2 := ap_lt hh0 hh1 y0 y1
      have q3 := hA.out (ap t.length (hmF k t.length) y).toNat (by omega)
      rwa [Int.toNat_of_nonneg q2.1, adv_ap hh0 hh1 y0 y1] at q3
    have hS : (j + 1 : Nat) < t.length → adv t.length (hmF k t.length) ((j + 1 : Nat) : Int) = adv t.length (adv t.length (hmF k t.length) j) 1 := by
      intro hlt
      have := adv_succ hh0 hh1 (by omega : (0 : Int) ≤ j) (by omega : (j : Int) + 1 < t.length)
      rw [← this]; congr 1
    have hA2 : (tg t (adv t.length (hmF k t.length) j)).full = true → (tg t (adv t.length (hmF k t.length) j)).key ≠ k → ∀ i : Nat, i < j + 1 → (tg t (adv t.length (hmF k t.length) i)).full = true ∧ (tg t (adv t.length (hmF k t.length) i)).key ≠ k := by
      intro h1 h2 i hi
      rcases Nat.lt_or_ge i j with h | h
      · exact hA.out i h
      · have : i = j := by omega
        subst this
        exact ⟨h1, h2⟩
    have hlast : (tg t (adv t.length (hmF k t.length) j)).full = true → (tg t (adv t.length (hmF k t.length) j)).key ≠ k → (j + 1 : Nat) < t.length := by
      intro h1 h2
      obtain ⟨e, e0, e1, e2⟩ := he
      have q := ap_lt hh0 hh1 e0 e1
      rcases Nat.lt_or_ge (j + 1) t.length with h | h
      · exact h
      · have q1 := hA2 h1 h2 (ap t.length (hmF k t.length) e).toNat (by omega)
        rw [Int.toNat_of_nonneg q.1, adv_ap hh0 hh1 e0 e1, e2] at q1
        cases q1.1
    have q := adv_lt hh0 hh1 (by omega : (0 : Int) ≤ j) (by omega : (j : Int) < t.length)
    have hex : ∃ a, a = adv t.length (hmF k t.length) j := ⟨_, rfl⟩
    obtain ⟨a, ha⟩ := hex
    rw [← ha] at hF hS hA2 hlast q ⊢
    obtain ⟨m, rfl⟩ := Int.eq_ofNat_of_zero_le q.1
    have hm : m < t.length := by omega
    have R := h.keep hB
    have c1 := R.ht.cell 0
    have d0 := tslot_cell R.bt hm (j := 0) (by omega)
    have d1 := tslot_cell R.bt hm (j := 1) (by omega)
    have d2 := tslot_cell R.bt hm (j := 2) (by omega)
    simp only [encT, List.getElem?_cons_zero, List.getElem?_cons_succ, Nat.add_zero] at c1 d0 d1 d2
    have l0 := R.ht.lt
    have l1 := R.bt.lt
    have HF := Go.Lib.hid hF
    have HS := Go.Lib.hid hS
    have HA2 := Go.Lib.hid hA2
    have HL := Go.Lib.hid hlast
    have HB := Go.Lib.hid hB
    have HJ := Go.Lib.hid hj
    have HM := Go.Lib.hid ha
    clear hF hS hA2 hlast hB hj ha c0 he
    cases hfull : (tg t m).full with
    | false =>
      rw [hfull] at d2
      go_wp2_with fail
      rw [Exit.noGoto_ret]
      go_ret
      exact ⟨_, rfl, HF.out _ rfl (.inl hfull), HB.out.trans ((Below.refl _ _).alloc HB.out.size _)⟩
    | true =>
      rw [hfull] at d2
      by_cases hkey : (tg t m).key = k
      · have hkb : ((tg t m).key == k) = true := by simpa using hkey
        have HK := Go.Lib.hid hkey
        have HFU := Go.Lib.hid hfull
        clear hkey hfull
        go_wp2_with fail
        rw [Exit.noGoto_ret]
        go_ret
        exact ⟨_, rfl, HF.out _ rfl (.inr HK.out), HB.out.trans ((Below.refl _ _).alloc HB.out.size _)⟩
      · have hkb : ((tg t m).key == k) = false := by simpa using hkey
        have hlt := HL.out hfull hkey
        have hA3 := HA2.out hfull hkey
        have HA3 := Go.Lib.hid hA3
        have HLT := Go.Lib.hid hlt
        clear hkey hfull hA3 hlt
        go_wp2_with fail
        refine (next_any pt bt t many m _ hp (by omega) (by omega) (TRep.keep R ((Below.refl _ _).alloc (Nat.le_refl _) _))).mono ?_
        rw [← HS.out HLT.out]
        rintro e w2 ⟨rfl, rfl⟩
        go_wp2_with fail
        go_roundg (gk - 1)
        case measure => have := HJ.out; have := HLT.out; omega
        case rel => exact ⟨j + 1, by have := HJ.out; have := HLT.out; omega, rfl, HA3.out, HB.out.trans ((Below.refl _ _).alloc HB.out.size _)⟩
theorem find_at (k r : Int) (w : World) (hk0 : 0 ≤ k) (hk1 : k < 18446744073709551616) (hp : P2 t.length) (h : TRep w pt bt t many) (he : ∃ e : Int, 0 ≤ e ∧ e < t.length ∧ (tg t e).full = false) (hF : Fnd hmF t k r) :
    Calls Try.prog 208 #[P0 pt, .int .u64 k] w fun e w' => e = .returned (.int .i64 r) ∧ Below w.heap.size w w' := by
  refine (find_any pt bt t many k w hk0 hk1 hp h he).mono ?_
  rintro e w' ⟨r', rfl, F', hb⟩
  have := hF.eq F' (hmF_lt hp k).1 (hmF_lt hp k).2
  subst this
  exact ⟨rfl, hb⟩
end
end Go.Proofs.Ytlakojncjldpbaa

namespace Go.Proofs.Ytlakojncjldpbaa
open Go.RowKit Hop
set_option linter.unusedVariables false
set_option linter.unusedSimpArgs false
set_option maxRecDepth 100000
theorem below_drewN {B : Nat} {w w' : World} (h : Below B w w') (n : Nat) : Below B w (w'.drewN n) := ⟨h.os, h.tape, h.output, h.size, h.block⟩
theorem fr_drewN {own : Nat → Prop} {w w' : World} (h : Fr own w w') (n : Nat) : Fr own w (w'.drewN n) := ⟨h.os, h.tape, h.output, h.size, h.block⟩
theorem blk_drewN {w : World} {b : Nat} {cs : List Value} {T : Nat} (h : Blk w b cs T) (n : Nat) : Blk (w.drewN n) b cs T := h.of_heap rfl
section
variable (pt bt : Nat) (t : List Ts) (many : Int)
set_option maxHeartbeats 1600000 in
theorem get_at (k r : Int) (w : World) (hk0 : 0 ≤ k) (hk1 : k < 18446744073709551616) (hp : P2 t.length) (h : TRep w pt bt t many) (he : ∃ e : Int, 0 ≤ e ∧ e < t.length ∧ (tg t e).full = false) (hF : Fnd hmF t k r) :
    Calls Try.prog 203 #[P0 pt, .int .u64 k] w fun e w' => e = .returned (.tuple #[.int .i32 (tg t r).num, .bool (tg t r).full]) ∧ Below w.heap.size w w' := by
  obtain ⟨m, rfl⟩ := Int.eq_ofNat_of_zero_le hF.lo
  have hm : m < t.length := by have := hF.hi; omega
  have hmi : (m : Int) < t.length := by omega
  have FA := fun w h => find_at pt bt t many k m w hk0 hk1 hp h he hF
  have hb3 : t.length ≤ 1073741824 := by have := hp.pos; omega
  have cells : ∀ w, TRep w pt bt t many → w.cell? ⟨pt, 0, none⟩ = some (S0 bt t.length) ∧ w.cell? ⟨bt, m * 3, none⟩ = some (.int .u64 (tg t m).key) ∧ w.cell? ⟨bt, m * 3 + 1, none⟩ = some (.int .i32 (tg t m).num) ∧ w.cell? ⟨bt, m * 3 + 2, none⟩ = some (.bool (tg t m).full) :=
    fun w h => ⟨h.ht.cell 0, tslot_cell h.bt hm (j := 0) (by omega), tslot_cell h.bt hm (j := 1) (by omega), tslot_cell h.bt hm (j := 2) (by omega)⟩
  generalize tg t m = x at *
  have l0 := h.ht.lt
  have l1 := h.bt.lt
  have S1 : ∀ W, TRep W pt bt t many → Below w.heap.size w W → W.cell? ⟨pt, 0, none⟩ = some (S0 bt t.length) ∧ W.cell? ⟨bt, m * 3, none⟩ = some (.int .u64 x.key) ∧ W.cell? ⟨bt, m * 3 + 1, none⟩ = some (.int .i32 x.num) ∧ W.cell? ⟨bt, m * 3 + 2, none⟩ = some (.bool x.full) ∧ TRep W pt bt t many ∧ Below w.heap.size w W :=
    fun W h hb => ⟨(cells W h).1, (cells W h).2.1, (cells W h).2.2.1, (cells W h).2.2.2, h, hb⟩
  have S2 := fun W o (hr : TRep W pt bt t many) (hb : Below w.heap.size w W) => S1 (W.alloc o) (hr.keep ((Below.refl _ _).alloc (Nat.le_refl _) o)) (hb.alloc hb.size o)
  have S3 := fun W o (hb : Below w.drew.heap.size w.drew W) => S1 (W.alloc o) (h.keep ((Below.drew (Below.refl _ w)).trans (hb.alloc hb.size o))) ((Below.drew (Below.refl _ w)).trans (hb.alloc hb.size o))
  have S4 := fun W a b c o (hb : Below (w.alloc o).drew.heap.size (w.alloc o).drew W) =>
    have q : Below w.heap.size w (((W.setCell ⟨w.heap.size, 0, none⟩ a).setCell ⟨w.heap.size, 1, none⟩ b).setCell ⟨w.heap.size, 2, none⟩ c) :=
      ((((((Below.refl _ w).alloc (Nat.le_refl _) o).drew.trans (hb.mono (by simp))).setCell (p := ⟨w.heap.size, 0, none⟩) (Nat.le_refl _) a).setCell (p := ⟨w.heap.size, 1, none⟩) (Nat.le_refl _) b).setCell (p := ⟨w.heap.size, 2, none⟩) (Nat.le_refl _) c)
    S1 _ (h.keep q) q
  have S5 := fun o => S1 (w.alloc o).drew (h.keep (((Below.refl _ w).alloc (Nat.le_refl _) o).drew)) (((Below.refl _ w).alloc (Nat.le_refl _) o).drew)
  have HS5 := Go.Lib.hid S5
  have HS1 := Go.Lib.hid S1
  have HS2 := Go.Lib.hid S2
  have HS3 := Go.Lib.hid S3
  have HS4 := Go.Lib.hid S4
  have HFA := Go.Lib.hid FA
  have hR : TRep w.drew pt bt t many := ⟨h.ht, h.bt⟩
  have hB : Below w.heap.size w w.drew := (Below.refl _ _).drew
  obtain ⟨g0, g1, g2, g3⟩ := cells w h
  clear cells FA hF he S1 S2 S3 S4 S5
  go_enter Try.func203, Try.ntmps203
  go_wp2_with fail
  go_region_held3 (fun W => W.cell? ⟨pt, 0, none⟩ = some (S0 bt t.length) ∧ W.cell? ⟨bt, m * 3, none⟩ = some (.int .u64 x.key) ∧ W.cell? ⟨bt, m * 3 + 1, none⟩ = some (.int .i32 x.num) ∧ W.cell? ⟨bt, m * 3 + 2, none⟩ = some (.bool x.full) ∧ TRep W pt bt t many ∧ Below w.heap.size w W)
    (first | with_reducible exact HS3.out _ _ hb1 | with_reducible exact HS5.out _ | with_reducible exact HS4.out _ _ _ _ _ hb1 | (go_split_ands; with_reducible exact HS2.out _ _ (by assumption) (by assumption)) | (go_split_ands; with_reducible exact HS1.out _ (TRep.keep (by assumption) hb1) (Below.trans (by assumption) (hb1.mono (Below.size (by assumption))))) | exact ⟨g0, g1, g2, g3, hR, hB⟩)
    (first | (go_at_call 208; refine (HFA.out _ (by first | with_reducible exact hR | exact h.keep (((Below.refl _ w).alloc (Nat.le_refl _) _).drew))).mono ?_; rintro e w1 ⟨rfl, hb1⟩; (try (have z := ((Blk.new0 w [.int .u64 0, .int .i32 0, .bool false] 213).drew).keep hb1; have z0 := z.cell 0; have z1 := z.cell 1; have z2 := z.cell 2; have y0 := z.frozen 0; have y1 := z.frozen 1; have y2 := z.frozen 2; simp only [List.getElem?_cons_zero, List.getElem?_cons_succ, World.size_drew] at z0 z1 z2 y0 y1 y2; have z9 := z.lt))))
  · have B9 := ((Below.drew (Below.refl _ w)).trans hb1)
    have Z9 := Go.Lib.hid B9
    have z9 := B9.size
    clear hb1 B9
    go_wp2_with fail
    go_quiet (fail)
    go_wp2_with fail
    go_ret2
    exact ⟨rfl, below_drewN (Z9.out.alloc z9 _) nq⟩
  · have B9 := (((((Below.refl _ w).alloc (Nat.le_refl _) _).drew.trans (hb1.mono (by simp))).setCell (p := ⟨w.heap.size, 0, none⟩) (Nat.le_refl _) (.int .u64 x.key)).setCell (p := ⟨w.heap.size, 1, none⟩) (Nat.le_refl _) (.int .i32 x.num)).setCell (p := ⟨w.heap.size, 2, none⟩) (Nat.le_refl _) (.bool x.full)
    have Z9 := Go.Lib.hid B9
    clear hb1 B9
    go_wp2_with fail
    go_quiet (fail)
    go_wp2_with fail
    go_ret2
    exact ⟨rfl, below_drewN Z9.out nq⟩
end
end Go.Proofs.Ytlakojncjldpbaa

namespace Go.Proofs.Ytlakojncjldpbaa
open Go.RowKit Hop
set_option linter.unusedVariables false
set_option linter.unusedSimpArgs false
set_option maxRecDepth 100000
theorem tslot_info : (Try.prog.info? 213).map (fun i => (i.zero, i.size, i.bytes)) = some (some (.agg (encT Ts.z).toArray), 3, 16) := by kernel_rfl
theorem tslot_write {w : World} {bt : Nat} {t : List Ts} (hb : Blk w bt (flat encT t) 213) {n : Nat} (hn : n < t.length) (k v : Int) (f : Bool) :
    Blk (((w.setCell ⟨bt, n * 3, none⟩ (.int .u64 k)).setCell ⟨bt, n * 3 + 1, none⟩ (.int .i32 v)).setCell ⟨bt, n * 3 + 2, none⟩ (.bool f)) bt (flat encT (st t n ⟨k, v, f⟩)) 213 := by
  have h := ((hb.set (n * 3) (.int .u64 k)).set (n * 3 + 1) (.int .i32 v)).set (n * 3 + 2) (.bool f)
  have q0 := flat_set encT_len t n 0 hn (.int .u64 k) ⟨k, t[n].num, t[n].full⟩ (by omega) (by simp [encT])
  have q1 := flat_set encT_len (t.set n ⟨k, t[n].num, t[n].full⟩) n 1 (by simpa using hn) (.int .i32 v) ⟨k, v, t[n].full⟩ (by omega) (by simp [encT])
  have q2 := flat_set encT_len (t.set n ⟨k, v, t[n].full⟩) n 2 (by simpa using hn) (.bool f) ⟨k, v, f⟩ (by omega) (by simp [encT])
  simp only [List.set_set] at q1 q2
  simp only [Nat.add_zero] at q0
  rw [q0, q1, q2] at h
  simpa [st] using h
section
variable (pt bt : Nat) (t : List Ts) (many : Int)
set_option maxHeartbeats 3200000 in
theorem tgrow_any (w : World) (hp : P2 (2 * t.length)) (hlen : t.length < 500000) (h0 : 0 < t.length) (T : Ti hmF t) (hkeys : ∀ a : Int, 0 ≤ a → a < t.length → (tg t a).full = true → 0 ≤ (tg t a).key ∧ (tg t a).key < 18446744073709551616) (h : TRep w pt bt t many) :
    Calls Try.prog 237 #[P0 pt] w fun e w' => e = .returned (.tuple #[]) ∧ ∃ bt' t', w.heap.size ≤ bt' ∧ Fr (· = pt) w w' ∧ TRep w' pt bt' t' many ∧ Grw hmF t t' t.length := by
  have c0 := h.ht.cell 0
  have f0 := h.ht.frozen 0
  simp only [List.getElem?_cons_zero] at c0
  have l0 := h.ht.lt
  have l1 := h.bt.lt
  have hne := h.ht.ne h.bt (by decide)
  go_enter Try.func237, Try.ntmps237
  go_wp2_with (refine wpList_make_rows _ encT Ts.z 3 encT_len (by omega) rfl (.tmp 12) 193 rfl 213 16 Try.underlying193 tslot_info (2 * t.length) (2 * t.length) rfl (by omega) (by omega) (by unfold maxLen; omega) ?_)
  go_loopw [18] (fun v wr => ∃ (i : Nat) (t' : List Ts), i ≤ t.length ∧ v = .int .i64 i ∧ Hid (Grw hmF t t' i) ∧ Fr (· = pt) w wr ∧ TRep wr pt w.heap.size t' many) (fun v _ => t.length - (intOf v).toNat)
  case atStart =>
    have e : (2 * t.length) = (List.replicate (2 * t.length) Ts.z).length := by simp
    refine ⟨0, _, Nat.zero_le _, rfl, Grw.begin t, ((Fr.refl (fun k => k = pt) w).setEq rfl _).alloc _, ⟨?_, ?_⟩⟩
    · have q := (h.ht.set 0 (S0 w.heap.size (List.replicate (2 * t.length) Ts.z).length)).alloc (.cells (flat encT (List.replicate (2 * t.length) Ts.z)).toArray 213)
      rw [← e] at q ⊢
      exact q
    · have q := Blk.new0 (w.setCell ⟨pt, 0, none⟩ (S0 w.heap.size (2 * t.length))) (flat encT (List.replicate (2 * t.length) Ts.z)) 213
      rw [World.size_setCell] at q
      exact q
  case round =>
    obtain ⟨i, t', hi, rfl, hG, hF, hR⟩ := hrel
    by_cases hlt : i < t.length
    · have bo := hF.blk (fun e => hne e.symm) h.bt
      have d0 := tslot_cell bo hlt (j := 0) (by omega)
      have d1 := tslot_cell bo hlt (j := 1) (by omega)
      have d2 := tslot_cell bo hlt (j := 2) (by omega)
      simp only [encT, List.getElem?_cons_zero, List.getElem?_cons_succ, Nat.add_zero] at d0 d1 d2
      have l2 := hF.size
      have l3 := bo.lt
      cases hfull : (tg t i).full with
      | false =>
        rw [hfull] at d2
        have G2 := Go.Lib.hid (hG.out.skip hlt hfull)
        have HF := Go.Lib.hid hF
        have HR := Go.Lib.hid hR
        have HFU := Go.Lib.hid hfull
        clear hF hR hfull
        go_wp2_with fail
        go_roundw
        case rel => exact ⟨i + 1, t', by omega, by go_num, G2.out, HF.out.alloc _, HR.out.keep ((Below.refl _ _).alloc (Nat.le_refl _) _)⟩
        case measure => simp [intOf]; omega
      | true =>
        rw [hfull] at d2
        obtain ⟨hk0, hk1⟩ := hkeys i (by omega) (by omega) hfull
        have hl2 : t'.length = 2 * t.length := hG.out.len
        have hp' : P2 t'.length := by rw [hl2]; exact_mod_cast hp
        have hee : ∃ e : Int, 0 ≤ e ∧ e < t'.length ∧ (tg t' e).full = false := by
          apply exists_empty
          have := hG.out.cn
          have := cnt_le (t.take i)
          have : (t.take i).length ≤ t.length := by simp; omega
          omega
        obtain ⟨r, hr⟩ := Fnd.ex (hm := hmF) (tg t i).key (hmF_lt hp' _).1 (hmF_lt hp' _).2 hee
        have G2 := Go.Lib.hid (hG.out.step T hlt hfull hr)
        obtain ⟨m, rfl⟩ := Int.eq_ofNat_of_zero_le hr.lo
        have hm : m < t'.length := by have := hr.hi; omega
        have FA := fun W h => find_at pt w.heap.size t' many (tg t i).key m W hk0 hk1 hp' h hee hr
        have l6 := hR.ht.lt
        have l7 := hR.bt.lt
        have hnb : pt ≠ w.heap.size := by omega
        have hW0 := hR.keep ((Below.refl _ _).alloc (Nat.le_refl _) (.cells #[.int .u64 (tg t i).key, .int .i32 (tg t i).num, .bool true] 213))
        have hq : TRep (wr.alloc (.cells #[.int .u64 (tg t i).key, .int .i32 (tg t i).num, .bool true] 213)).drew pt w.heap.size t' many := ⟨hW0.ht, hW0.bt⟩
        have sb := Blk.new0 wr [.int .u64 (tg t i).key, .int .i32 (tg t i).num, .bool true] 213
        have F0 := hF.alloc (.cells #[.int .u64 (tg t i).key, .int .i32 (tg t i).num, .bool true] 213)
        have cp := hW0.ht.cell 0
        simp only [List.getElem?_cons_zero] at cp
        have S1 : ∀ W, Fr (· = w.heap.size) (wr.alloc (.cells #[.int .u64 (tg t i).key, .int .i32 (tg t i).num, .bool true] 213)) W → W.cell? ⟨pt, 0, none⟩ = some (S0 w.heap.size t'.length) ∧ W.cell? ⟨wr.heap.size, 0, none⟩ = some (.int .u64 (tg t i).key) ∧ W.cell? ⟨wr.heap.size, 1, none⟩ = some (.int .i32 (tg t i).num) ∧ W.cell? ⟨wr.heap.size, 2, none⟩ = some (.bool true) ∧ Fr (· = w.heap.size) (wr.alloc (.cells #[.int .u64 (tg t i).key, .int .i32 (tg t i).num, .bool true] 213)) W := by
          intro W hW
          have b1 := hW.blk (x := pt) hnb hW0.ht
          have b2 := hW.blk (x := wr.heap.size) (by show ¬ wr.heap.size = w.heap.size; omega) sb
          exact ⟨b1.cell 0, b2.cell 0, b2.cell 1, b2.cell 2, hW⟩
        have S2 := S1 _ (Fr.drew (Fr.refl _ _))
        have S3 := fun W a b c (hb : Below (wr.alloc (.cells #[.int .u64 (tg t i).key, .int .i32 (tg t i).num, .bool true] 213)).drew.heap.size (wr.alloc (.cells #[.int .u64 (tg t i).key, .int .i32 (tg t i).num, .bool true] 213)).drew W) =>
          S1 _ ((((Fr.trans (own' := fun _ => False) (Fr.drew (Fr.refl (· = w.heap.size) _)) (Fr.of_below hb) (fun _ f => f.elim)).setEq (o := m * 3) rfl a).setEq (o := m * 3 + 1) rfl b).setEq (o := m * 3 + 2) rfl c)
        have S4 := fun W (hb : Below (wr.alloc (.cells #[.int .u64 (tg t i).key, .int .i32 (tg t i).num, .bool true] 213)).drew.heap.size (wr.alloc (.cells #[.int .u64 (tg t i).key, .int .i32 (tg t i).num, .bool true] 213)).drew W) =>
          S1 W (Fr.trans (own' := fun _ => False) (Fr.drew (Fr.refl (· = w.heap.size) _)) (Fr.of_below hb) (fun _ f => f.elim))
        have HS2 := Go.Lib.hid S2
        have HS3 := Go.Lib.hid S3
        have HS4 := Go.Lib.hid S4
        have HFA := Go.Lib.hid FA
        have HQ := Go.Lib.hid hq
        have HF0 := Go.Lib.hid F0
        have hml : (m : Int) < t'.length := by omega
        have HFU := Go.Lib.hid hfull
        have hl4 : t'.length < 1000000 := by omega
        have HL2 := Go.Lib.hid hl2
        clear hR hF hW0 hq sb F0 S1 S2 S3 S4 FA hr hee hfull hl2 cp
        generalize tg t i = x at *
        go_wp2_with fail
        go_region_held3 (fun W => W.cell? ⟨pt, 0, none⟩ = some (S0 w.heap.size t'.length) ∧ W.cell? ⟨wr.heap.size, 0, none⟩ = some (.int .u64 x.key) ∧ W.cell? ⟨wr.heap.size, 1, none⟩ = some (.int .i32 x.num) ∧ W.cell? ⟨wr.heap.size, 2, none⟩ = some (.bool true) ∧ Fr (· = w.heap.size) (wr.alloc (.cells #[.int .u64 x.key, .int .i32 x.num, .bool true] 213)) W)
          (first | with_reducible exact HS4.out _ hb1 | with_reducible exact HS3.out _ _ _ _ hb1 | exact HS2.out)
          (first | (go_at_call 208; refine (HFA.out _ (by with_reducible exact HQ.out)).mono ?_; rintro e w1 ⟨rfl, hb1⟩; (have R1 := HQ.out.keep hb1); have e0 := tslot_cell R1.bt hm (j := 0) (by omega); have e1 := tslot_cell R1.bt hm (j := 1) (by omega); have e2 := tslot_cell R1.bt hm (j := 2) (by omega); have y0 := R1.bt.frozen (m * 3); have y1 := R1.bt.frozen (m * 3 + 1); have y2 := R1.bt.frozen (m * 3 + 2); simp only [encT, List.getElem?_cons_zero, List.getElem?_cons_succ, Nat.add_zero] at e0 e1 e2; have l8 := R1.bt.lt; have l9 := R1.ht.lt))
        have FF := Fr.setNew (Fr.setNew (Fr.setNew (HF0.out.drew.and_below hb1) (b := w.heap.size) (o := m * 3) (Nat.le_refl _) (.int .u64 x.key)) (b := w.heap.size) (o := m * 3 + 1) (Nat.le_refl _) (.int .i32 x.num)) (b := w.heap.size) (o := m * 3 + 2) (Nat.le_refl _) (.bool true)
        have RB := tslot_write R1.bt hm x.key x.num true
        have RT := ((R1.ht.set_ne (a := ⟨w.heap.size, m * 3, none⟩) hnb (.int .u64 x.key)).set_ne (a := ⟨w.heap.size, m * 3 + 1, none⟩) hnb (.int .i32 x.num)).set_ne (a := ⟨w.heap.size, m * 3 + 2, none⟩) hnb (.bool true)
        have hst : (st t' m ⟨x.key, x.num, true⟩).length = t'.length := st_length _ _ _
        rw [← hst] at RT
        have HFF := Go.Lib.hid FF
        have HRB := Go.Lib.hid RB
        have HRT := Go.Lib.hid RT
        clear hb1 R1 FF RB RT hst
        go_wp2_with fail
        go_roundw
        case rel => exact ⟨i + 1, _, by omega, by go_num, G2.out, HFF.out, ⟨HRT.out, HRB.out⟩⟩
        case measure => simp [intOf]; omega
    · have e : i = t.length := by omega
      subst e
      go_wp2_with fail
      go_end0
      exact ⟨rfl, w.heap.size, t', Nat.le_refl _, hF, hR, hG.out⟩
end
end Go.Proofs.Ytlakojncjldpbaa

namespace Go.Proofs.Ytlakojncjldpbaa
open Go.RowKit Hop
set_option linter.unusedVariables false
set_option linter.unusedSimpArgs false
set_option maxRecDepth 100000
theorem P2.twice {n : Int} (h : P2 n) (hn : n < 500000) : P2 (2 * n) := by
  obtain ⟨j, hj, rfl⟩ := h
  have hj2 : j < 30 := by
    rcases Nat.lt_or_ge j 30 with q | q
    · exact q
    · have h30 : (2 : Int) ^ 30 ≤ 2 ^ j := by exact_mod_cast Nat.pow_le_pow_right (by omega) q
      have : (2 : Int) ^ 30 = 1073741824 := by decide
      omega
  exact ⟨j + 1, by omega, by rw [Int.pow_succ]; omega⟩
/-- What a table is behind a key laid into it. -/
structure Puts (t t' : List Ts) (k v : Int) : Prop where
  ti : Ti hmF t'
  ins : ∀ k' v', Tin t' k' v' ↔ Tin t k' v' ∨ (k' = k ∧ v' = v)
  cn : cnt t' = cnt t + 1
  len : (t'.length = t.length ∧ 4 * (cnt t + 1) ≤ 3 * t.length) ∨ (t'.length = 2 * t.length ∧ 3 * t.length < 4 * (cnt t + 1))
section
variable (pt bt : Nat) (t : List Ts)
set_option maxHeartbeats 3200000 in
theorem put_room (k v : Int) (w : World) (hk0 : 0 ≤ k) (hk1 : k < 18446744073709551616) (hp : P2 t.length) (hlen : t.length < 500000) (T : Ti hmF t) (hno : ∀ v, ¬ Tin t k v) (hroom : 4 * (cnt t + 1) ≤ 3 * t.length)
    (h : TRep w pt bt t (cnt t)) :
    Calls Try.prog 218 #[P0 pt, .int .u64 k, .int .i32 v] w fun e w' => e = .returned (.tuple #[]) ∧ ∃ t', Fr (fun x => x = pt ∨ x = bt) w w' ∧ TRep w' pt bt t' (cnt t + 1) ∧ Puts t t' k v := by
  have hee : ∃ e : Int, 0 ≤ e ∧ e < t.length ∧ (tg t e).full = false := exists_empty (by omega)
  obtain ⟨r, hr⟩ := Fnd.ex (hm := hmF) k (hmF_lt hp _).1 (hmF_lt hp _).2 hee
  have L := hr.lay T (v := v) hno
  have hem := hr.miss hno
  obtain ⟨m, rfl⟩ := Int.eq_ofNat_of_zero_le hr.lo
  have hm : m < t.length := by have := hr.hi; omega
  have hml : (m : Int) < t.length := by omega
  have FA := fun W h => find_at pt bt t (cnt t) k m W hk0 hk1 hp h hee hr
  have HFA := Go.Lib.hid FA
  have HL := Go.Lib.hid L
  have HP : Hid (Puts t (st t m ⟨k, v, true⟩) k v) := ⟨L.1, L.2.1, L.2.2, .inl ⟨st_length _ _ _, hroom⟩⟩
  have hx : tg t m = ⟨(tg t m).key, (tg t m).num, false⟩ := by rw [← hem]
  have e2 : (tg t m).full = false := hem
  have hne := h.ht.ne h.bt (by decide)
  have hne' := hne.symm
  have hc1 : cnt t < 1000000 := by omega
  have hc2 : (4 * ((cnt t : Int) + 1) ≤ 3 * (t.length : Int)) := by omega
  clear FA L hr hee hem hx T hno
  go_enter Try.func218, Try.ntmps218
  go_wp2_with fail
  refine (HFA.out _ h).mono ?_
  rintro e w1 ⟨rfl, hb1⟩
  have R1 := h.keep hb1
  have d0 := tslot_cell R1.bt hm (j := 0) (by omega)
  have d1 := tslot_cell R1.bt hm (j := 1) (by omega)
  have d2 := tslot_cell R1.bt hm (j := 2) (by omega)
  have y0 := R1.bt.frozen (m * 3)
  have y1 := R1.bt.frozen (m * 3 + 1)
  have y2 := R1.bt.frozen (m * 3 + 2)
  have c0 := R1.ht.cell 0
  have c1 := R1.ht.cell 1
  have f1 := R1.ht.frozen 1
  simp only [encT, List.getElem?_cons_zero, List.getElem?_cons_succ, Nat.add_zero] at d0 d1 d2 c0 c1
  rw [e2] at d2
  have HB1 := Go.Lib.hid hb1
  clear hb1
  go_wp2_with fail
  go_quiet (fail)
  go_wp2_with fail
  go_end0
  refine ⟨rfl, st t m ⟨k, v, true⟩, ?_, ⟨?_, ?_⟩, HP.out⟩
  · exact (((fr_drewN (Fr.setEq (Fr.of_below (own := fun x => x = pt ∨ x = bt) HB1.out) (b := pt) (o := 1) (.inl rfl) _) nq).setEq (b := bt) (.inr rfl) _).setEq (b := bt) (.inr rfl) _).setEq (b := bt) (.inr rfl) _
  · rw [st_length]
    exact (((blk_drewN (R1.ht.set 1 (.int .i64 (cnt t + 1))) nq).set_ne (a := ⟨bt, m * 3, none⟩) hne _).set_ne (a := ⟨bt, m * 3 + 1, none⟩) hne _).set_ne (a := ⟨bt, m * 3 + 2, none⟩) hne _
  · exact tslot_write (blk_drewN (R1.bt.set_ne (a := ⟨pt, 1, none⟩) hne' (.int .i64 (cnt t + 1))) nq) hm k v true
set_option maxHeartbeats 3200000 in
theorem put_grow (k v : Int) (w : World) (hk0 : 0 ≤ k) (hk1 : k < 18446744073709551616) (hp : P2 t.length) (hlen : t.length < 250000) (T : Ti hmF t) (hno : ∀ v, ¬ Tin t k v) (hroom : 3 * t.length < 4 * (cnt t + 1)) (hfit : 4 * cnt t ≤ 3 * t.length)
    (hkeys : ∀ a : Int, 0 ≤ a → a < t.length → (tg t a).full = true → 0 ≤ (tg t a).key ∧ (tg t a).key < 18446744073709551616)
    (h : TRep w pt bt t (cnt t)) :
    Calls Try.prog 218 #[P0 pt, .int .u64 k, .int .i32 v] w fun e w' => e = .returned (.tuple #[]) ∧ ∃ bt' t', w.heap.size ≤ bt' ∧ Fr (fun x => x = pt ∨ x = bt) w w' ∧ TRep w' pt bt' t' (cnt t + 1) ∧ Puts t t' k v := by
  have hpos : 0 < t.length := by have := hp.pos; omega
  have hee : ∃ e : Int, 0 ≤ e ∧ e < t.length ∧ (tg t e).full = false := exists_empty (by omega)
  obtain ⟨r, hr⟩ := Fnd.ex (hm := hmF) k (hmF_lt hp _).1 (hmF_lt hp _).2 hee
  have hem := hr.miss hno
  obtain ⟨m, rfl⟩ := Int.eq_ofNat_of_zero_le hr.lo
  have hm : m < t.length := by have := hr.hi; omega
  have hml : (m : Int) < t.length := by omega
  have FA := fun W h => find_at pt bt t (cnt t) k m W hk0 hk1 hp h hee hr
  have hp2 := hp.twice (by omega)
  have GA := fun W h => tgrow_any pt bt t (cnt t + 1) W hp2 (by omega) hpos T hkeys h
  have PA : ∀ t', Grw hmF t t' t.length → ∃ m' : Nat, m' < t'.length ∧ Puts t (st t' m' ⟨k, v, true⟩) k v ∧ t'.length = 2 * t.length ∧
      ∀ W B, TRep W pt B t' (cnt t + 1) → Calls Try.prog 208 #[P0 pt, .int .u64 k] W fun e w' => e = .returned (.int .i64 m') ∧ Below W.heap.size W w' := by
    intro t' G
    obtain ⟨G1, G2, G3, G4⟩ := G.done
    have hp' : P2 t'.length := by rw [G4]; exact_mod_cast hp2
    have hee' : ∃ e : Int, 0 ≤ e ∧ e < t'.length ∧ (tg t' e).full = false := exists_empty (by omega)
    obtain ⟨r', hr'⟩ := Fnd.ex (hm := hmF) k (hmF_lt hp' _).1 (hmF_lt hp' _).2 hee'
    have hno' : ∀ v, ¬ Tin t' k v := fun v hv => hno v ((G2 k v).1 hv)
    have L := hr'.lay G1 (v := v) hno'
    obtain ⟨m', rfl⟩ := Int.eq_ofNat_of_zero_le hr'.lo
    refine ⟨m', by have := hr'.hi; omega, ⟨L.1, fun k' v' => by rw [L.2.1, G2], by rw [L.2.2, G3], .inr ⟨by rw [st_length, G4], hroom⟩⟩, G4, ?_⟩
    intro W B hW
    exact find_at pt B t' (cnt t + 1) k m' W hk0 hk1 hp' hW hee' hr'
  have HFA := Go.Lib.hid FA
  have HGA := Go.Lib.hid GA
  have HPA := Go.Lib.hid PA
  have e2 : (tg t m).full = false := hem
  have hne := h.ht.ne h.bt (by decide)
  have hne' := hne.symm
  have hc1 : cnt t < 1000000 := by omega
  have hc2 : (3 * (t.length : Int) < 4 * ((cnt t : Int) + 1)) := by omega
  clear FA hr hee hem T hno GA PA hkeys hp2 hp
  go_enter Try.func218, Try.ntmps218
  go_wp2_with fail
  refine (HFA.out _ h).mono ?_
  rintro e w1 ⟨rfl, hb1⟩
  have R1 := h.keep hb1
  have d2 := tslot_cell R1.bt hm (j := 2) (by omega)
  have c0 := R1.ht.cell 0
  have c1 := R1.ht.cell 1
  have f1 := R1.ht.frozen 1
  simp only [encT, List.getElem?_cons_zero, List.getElem?_cons_succ, Nat.add_zero] at d2 c0 c1
  rw [e2] at d2
  have HB1 := Go.Lib.hid hb1
  clear hb1
  go_wp2_with fail
  go_quiet (fail)
  go_wp2_with fail
  have R2 : TRep ((w1.setCell ⟨pt, 1, none⟩ (.int .i64 (cnt t + 1))).drewN nq) pt bt t (cnt t + 1) := ⟨blk_drewN (R1.ht.set 1 (.int .i64 (cnt t + 1))) nq, blk_drewN (R1.bt.set_ne (a := ⟨pt, 1, none⟩) hne' _) nq⟩
  refine (HGA.out _ R2).mono ?_
  rintro e w2 ⟨rfl, bt2, t2, hge, hf2, R3, G⟩
  have F2 : Fr (fun x => x = pt ∨ x = bt) w w2 := (fr_drewN (Fr.setEq (Fr.of_below (own := fun x => x = pt ∨ x = bt) HB1.out) (b := pt) (o := 1) (.inl rfl) _) nq).trans hf2 (fun k hk => .inl (.inl hk))
  have hge2 : w.heap.size ≤ bt2 := by
    have q : w1.heap.size ≤ bt2 := by simpa using hge
    have := HB1.out.size
    omega
  obtain ⟨m', hm', HP, hl2, hfind⟩ := HPA.out t2 G
  have HPU := Go.Lib.hid HP
  have HFI := Go.Lib.hid hfind
  have HF2 := Go.Lib.hid F2
  have hml' : (m' : Int) < t2.length := by omega
  have hl3 : t2.length < 1000000 := by omega
  have HL2 := Go.Lib.hid hl2
  clear hge hf2 R2 R1 G HP hfind F2 c0 c1 f1 d2 hl2
  go_wp2_with fail
  refine (HFI.out _ _ R3).mono ?_
  rintro e w3 ⟨rfl, hb3⟩
  have R4 := R3.keep hb3
  have d0 := tslot_cell R4.bt hm' (j := 0) (by omega)
  have d1 := tslot_cell R4.bt hm' (j := 1) (by omega)
  have d2 := tslot_cell R4.bt hm' (j := 2) (by omega)
  have y0 := R4.bt.frozen (m' * 3)
  have y1 := R4.bt.frozen (m' * 3 + 1)
  have y2 := R4.bt.frozen (m' * 3 + 2)
  have c0 := R4.ht.cell 0
  simp only [encT, List.getElem?_cons_zero, List.getElem?_cons_succ, Nat.add_zero] at d0 d1 d2 c0
  have hne2 : pt ≠ bt2 := R4.ht.ne R4.bt (by decide)
  have HB3 := Go.Lib.hid hb3
  clear hb3
  go_wp2_with fail
  go_end0
  refine ⟨rfl, bt2, st t2 m' ⟨k, v, true⟩, hge2, ?_, ⟨?_, ?_⟩, HPU.out⟩
  · exact (((HF2.out.and_below HB3.out).setNew hge2 _).setNew hge2 _).setNew hge2 _
  · rw [st_length]
    exact ((R4.ht.set_ne (a := ⟨bt2, m' * 3, none⟩) hne2 _).set_ne (a := ⟨bt2, m' * 3 + 1, none⟩) hne2 _).set_ne (a := ⟨bt2, m' * 3 + 2, none⟩) hne2 _
  · exact tslot_write R4.bt hm' k v true
end
end Go.Proofs.Ytlakojncjldpbaa

namespace Go.Proofs.Ytlakojncjldpbaa
open Go.RowKit Hop
set_option linter.unusedVariables false
set_option linter.unusedSimpArgs false
set_option maxRecDepth 100000
section
variable (pt bt : Nat) (t : List Ts) (many : Int)
set_option maxHeartbeats 3200000 in
theorem fits_any (b2 b6 b5 : Nat) (a hole : Int) (w : World) (hp : P2 t.length) (h0 : 0 ≤ a) (h1 : a < t.length) (h2 : 0 ≤ hole) (h3 : hole < t.length) (hk0 : 0 ≤ (tg t a).key) (hk1 : (tg t a).key < 18446744073709551616)
    (h : TRep w pt bt t many) (q2 : Blk w b2 [P0 pt] 157) (q6 : Blk w b6 [.int .i64 t.length] 3) (q5 : Blk w b5 [.int .i64 hole] 3) :
    Calls Try.prog 209 #[.int .i64 a, P0 b2, P0 b6, P0 b5] w fun e w' => e = .returned (.bool (decide (ap t.length hole a ≤ ap t.length (hmF (tg t a).key t.length) a))) ∧ Below w.heap.size w w' := by
  obtain ⟨n, rfl⟩ := Int.eq_ofNat_of_zero_le h0
  have hn : n < t.length := by omega
  have hb3 : t.length ≤ 1073741824 := by have := hp.pos; omega
  have d0 := tslot_cell h.bt hn (j := 0) (by omega)
  have c0 := h.ht.cell 0
  have c2 := q2.cell 0
  have c5 := q5.cell 0
  have c6 := q6.cell 0
  simp only [encT, List.getElem?_cons_zero, List.getElem?_cons_succ, Nat.add_zero] at d0 c0 c2 c5 c6
  have hh := hmF_lt hp (tg t n).key
  have HO : ∀ W, Calls Try.prog 210 #[.int .u64 (tg t n).key, .int .i64 t.length] W fun e w' => e = .returned (.int .i64 (hmF (tg t n).key t.length)) ∧ w' = W := fun W => (home_any (tg t n).key t.length W hk0 hk1 hp).mono (fun e w' h => ⟨h.1, h.2.symm⟩)
  have AP : ∀ (x : Int) (W : World), 0 ≤ x → x < t.length → Calls Try.prog 211 #[.int .i64 x, .int .i64 n, .int .i64 t.length] W fun e w' => e = .returned (.int .i64 (ap t.length x n)) ∧ w' = W := fun x W hx hy => (apart_any x n t.length W hx hy h0 h1 hp).mono (fun e w' h => ⟨h.1, h.2.symm⟩)
  obtain ⟨hh0, hh1⟩ := hh
  generalize hmF (tg t n).key t.length = hm at *
  generalize tg t n = x at *
  have HHO := Go.Lib.hid HO
  have HAP := Go.Lib.hid AP
  clear HO AP
  have l0 := h.ht.lt
  go_enter Try.func209, Try.ntmps209
  go_wp2_with fail
  go_quiet ((go_at_call 210; exact Calls.quiet_of_same (HHO.out _)))
  have k0 : (w.drewN nq).cell? ⟨b2, 0, none⟩ = some (P0 pt) := c2
  have k5 : (w.drewN nq).cell? ⟨b5, 0, none⟩ = some (.int .i64 hole) := c5
  have k6 : (w.drewN nq).cell? ⟨b6, 0, none⟩ = some (.int .i64 t.length) := c6
  have B1 : Below w.heap.size w (w.drewN nq) := below_drewN (Below.refl _ _) nq
  have HB1 := Go.Lib.hid B1
  clear B1
  go_wp2_with fail
  generalize w.drewN nq = W1 at *
  go_quiet ((go_at_call 211; exact Calls.quiet_of_same (HAP.out _ _ (by omega) (by omega))))
  go_wp2_with fail
  go_ret
  trace_state
  exact ⟨rfl, below_drewN HB1.out _⟩
end
end Go.Proofs.Ytlakojncjldpbaa
