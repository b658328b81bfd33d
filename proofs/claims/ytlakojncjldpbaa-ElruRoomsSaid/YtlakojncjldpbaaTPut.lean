/- A key that is not there, put into the table. -/
import Derived.Test.YtlakojncjldpbaaTgrow
namespace Go.Proofs.Ytlakojncjldpbaa
open Go.RowKit Hop
set_option linter.unusedVariables false
set_option linter.unusedSimpArgs false
set_option maxRecDepth 100000
theorem P2.twice {n : Int} (h : P2 n) (hn : n < 500000) : P2 (2 * n) := by
  obtain ⟨j, hj, rfl⟩ := h
  have hj2 : j < 30 := by
    rcases Nat.lt_or_ge j 30 with q | q
    · exact q
    · have h30 : (2 : Int) ^ 30 ≤ 2 ^ j := by exact_mod_cast Nat.pow_le_pow_right (by omega) q
      have : (2 : Int) ^ 30 = 1073741824 := by decide
      omega
  exact ⟨j + 1, by omega, by rw [Int.pow_succ]; omega⟩
/-- What a table is behind a key laid into it. -/
structure Puts (t t' : List Ts) (k v : Int) : Prop where
  ti : Ti hmF t'
  ins : ∀ k' v', Tin t' k' v' ↔ Tin t k' v' ∨ (k' = k ∧ v' = v)
  cn : cnt t' = cnt t + 1
  len : (t'.length = t.length ∧ 4 * (cnt t + 1) ≤ 3 * t.length) ∨ (t'.length = 2 * t.length ∧ 3 * t.length < 4 * (cnt t + 1))
section
variable (pt bt : Nat) (t : List Ts)
set_option maxHeartbeats 3200000 in
theorem put_room (k v : Int) (w : World) (hk0 : 0 ≤ k) (hk1 : k < 18446744073709551616) (hp : P2 t.length) (hlen : t.length < 500000) (T : Ti hmF t) (hno : ∀ v, ¬ Tin t k v) (hroom : 4 * (cnt t + 1) ≤ 3 * t.length)
    (h : TRep w pt bt t (cnt t)) :
    Calls Try.prog 218 #[P0 pt, .int .u64 k, .int .i32 v] w fun e w' => e = .returned (.tuple #[]) ∧ ∃ t', Fr (fun x => x = pt ∨ x = bt) w w' ∧ TRep w' pt bt t' (cnt t + 1) ∧ Puts t t' k v := by
  have hee : ∃ e : Int, 0 ≤ e ∧ e < t.length ∧ (tg t e).full = false := exists_empty (by omega)
  obtain ⟨r, hr⟩ := Fnd.ex (hm := hmF) k (hmF_lt hp _).1 (hmF_lt hp _).2 hee
  have L := hr.lay T (v := v) hno
  have hem := hr.miss hno
  obtain ⟨m, rfl⟩ := Int.eq_ofNat_of_zero_le hr.lo
  have hm : m < t.length := by have := hr.hi; omega
  have hml : (m : Int) < t.length := by omega
  have FA := fun W h => find_at pt bt t (cnt t) k m W hk0 hk1 hp h hee hr
  have HFA := Go.Lib.hid FA
  have HL := Go.Lib.hid L
  have HP : Hid (Puts t (st t m ⟨k, v, true⟩) k v) := ⟨L.1, L.2.1, L.2.2, .inl ⟨st_length _ _ _, hroom⟩⟩
  have hx : tg t m = ⟨(tg t m).key, (tg t m).num, false⟩ := by rw [← hem]
  have e2 : (tg t m).full = false := hem
  have hne := h.ht.ne h.bt (by decide)
  have hne' := hne.symm
  have hc1 : cnt t < 1000000 := by omega
  have hc2 : (4 * ((cnt t : Int) + 1) ≤ 3 * (t.length : Int)) := by omega
  clear FA L hr hee hem hx T hno
  go_enter Try.func218, Try.ntmps218
  go_wp2_with fail
  refine (HFA.out _ h).mono ?_
  rintro e w1 ⟨rfl, hb1⟩
  have R1 := h.keep hb1
  have d0 := tslot_cell R1.bt hm (j := 0) (by omega)
  have d1 := tslot_cell R1.bt hm (j := 1) (by omega)
  have d2 := tslot_cell R1.bt hm (j := 2) (by omega)
  have y0 := R1.bt.frozen (m * 3)
  have y1 := R1.bt.frozen (m * 3 + 1)
  have y2 := R1.bt.frozen (m * 3 + 2)
  have c0 := R1.ht.cell 0
  have c1 := R1.ht.cell 1
  have f1 := R1.ht.frozen 1
  simp only [encT, List.getElem?_cons_zero, List.getElem?_cons_succ, Nat.add_zero] at d0 d1 d2 c0 c1
  rw [e2] at d2
  have HB1 := Go.Lib.hid hb1
  clear hb1
  go_wp2_with fail
  go_quiet (fail)
  go_wp2_with fail
  go_end0
  refine ⟨rfl, st t m ⟨k, v, true⟩, ?_, ⟨?_, ?_⟩, HP.out⟩
  · exact (((fr_drewN (Fr.setEq (Fr.of_below (own := fun x => x = pt ∨ x = bt) HB1.out) (b := pt) (o := 1) (.inl rfl) _) nq).setEq (b := bt) (.inr rfl) _).setEq (b := bt) (.inr rfl) _).setEq (b := bt) (.inr rfl) _
  · rw [st_length]
    exact (((blk_drewN (R1.ht.set 1 (.int .i64 (cnt t + 1))) nq).set_ne (a := ⟨bt, m * 3, none⟩) hne _).set_ne (a := ⟨bt, m * 3 + 1, none⟩) hne _).set_ne (a := ⟨bt, m * 3 + 2, none⟩) hne _
  · exact tslot_write (blk_drewN (R1.bt.set_ne (a := ⟨pt, 1, none⟩) hne' (.int .i64 (cnt t + 1))) nq) hm k v true
set_option maxHeartbeats 3200000 in
theorem put_grow (k v : Int) (w : World) (hk0 : 0 ≤ k) (hk1 : k < 18446744073709551616) (hp : P2 t.length) (hlen : t.length < 250000) (T : Ti hmF t) (hno : ∀ v, ¬ Tin t k v) (hroom : 3 * t.length < 4 * (cnt t + 1)) (hfit : 4 * cnt t ≤ 3 * t.length)
    (hkeys : ∀ a : Int, 0 ≤ a → a < t.length → (tg t a).full = true → 0 ≤ (tg t a).key ∧ (tg t a).key < 18446744073709551616)
    (h : TRep w pt bt t (cnt t)) :
    Calls Try.prog 218 #[P0 pt, .int .u64 k, .int .i32 v] w fun e w' => e = .returned (.tuple #[]) ∧ ∃ bt' t', w.heap.size ≤ bt' ∧ Fr (fun x => x = pt ∨ x = bt) w w' ∧ TRep w' pt bt' t' (cnt t + 1) ∧ Puts t t' k v := by
  have hpos : 0 < t.length := by have := hp.pos; omega
  have hee : ∃ e : Int, 0 ≤ e ∧ e < t.length ∧ (tg t e).full = false := exists_empty (by omega)
  obtain ⟨r, hr⟩ := Fnd.ex (hm := hmF) k (hmF_lt hp _).1 (hmF_lt hp _).2 hee
  have hem := hr.miss hno
  obtain ⟨m, rfl⟩ := Int.eq_ofNat_of_zero_le hr.lo
  have hm : m < t.length := by have := hr.hi; omega
  have hml : (m : Int) < t.length := by omega
  have FA := fun W h => find_at pt bt t (cnt t) k m W hk0 hk1 hp h hee hr
  have hp2 := hp.twice (by omega)
  have GA := fun W h => tgrow_any pt bt t (cnt t + 1) W hp2 (by omega) hpos T hkeys h
  have PA : ∀ t', Grw hmF t t' t.length → ∃ m' : Nat, m' < t'.length ∧ Puts t (st t' m' ⟨k, v, true⟩) k v ∧ t'.length = 2 * t.length ∧
      ∀ W B, TRep W pt B t' (cnt t + 1) → Calls Try.prog 208 #[P0 pt, .int .u64 k] W fun e w' => e = .returned (.int .i64 m') ∧ Below W.heap.size W w' := by
    intro t' G
    obtain ⟨G1, G2, G3, G4⟩ := G.done
    have hp' : P2 t'.length := by rw [G4]; exact_mod_cast hp2
    have hee' : ∃ e : Int, 0 ≤ e ∧ e < t'.length ∧ (tg t' e).full = false := exists_empty (by omega)
    obtain ⟨r', hr'⟩ := Fnd.ex (hm := hmF) k (hmF_lt hp' _).1 (hmF_lt hp' _).2 hee'
    have hno' : ∀ v, ¬ Tin t' k v := fun v hv => hno v ((G2 k v).1 hv)
    have L := hr'.lay G1 (v := v) hno'
    obtain ⟨m', rfl⟩ := Int.eq_ofNat_of_zero_le hr'.lo
    refine ⟨m', by have := hr'.hi; omega, ⟨L.1, fun k' v' => by rw [L.2.1, G2], by rw [L.2.2, G3], .inr ⟨by rw [st_length, G4], hroom⟩⟩, G4, ?_⟩
    intro W B hW
    exact find_at pt B t' (cnt t + 1) k m' W hk0 hk1 hp' hW hee' hr'
  have HFA := Go.Lib.hid FA
  have HGA := Go.Lib.hid GA
  have HPA := Go.Lib.hid PA
  have e2 : (tg t m).full = false := hem
  have hne := h.ht.ne h.bt (by decide)
  have hne' := hne.symm
  have hc1 : cnt t < 1000000 := by omega
  have hc2 : (3 * (t.length : Int) < 4 * ((cnt t : Int) + 1)) := by omega
  clear FA hr hee hem T hno GA PA hkeys hp2 hp
  go_enter Try.func218, Try.ntmps218
  go_wp2_with fail
  refine (HFA.out _ h).mono ?_
  rintro e w1 ⟨rfl, hb1⟩
  have R1 := h.keep hb1
  have d2 := tslot_cell R1.bt hm (j := 2) (by omega)
  have c0 := R1.ht.cell 0
  have c1 := R1.ht.cell 1
  have f1 := R1.ht.frozen 1
  simp only [encT, List.getElem?_cons_zero, List.getElem?_cons_succ, Nat.add_zero] at d2 c0 c1
  rw [e2] at d2
  have HB1 := Go.Lib.hid hb1
  clear hb1
  go_wp2_with fail
  go_quiet (fail)
  go_wp2_with fail
  have R2 : TRep ((w1.setCell ⟨pt, 1, none⟩ (.int .i64 (cnt t + 1))).drewN nq) pt bt t (cnt t + 1) := ⟨blk_drewN (R1.ht.set 1 (.int .i64 (cnt t + 1))) nq, blk_drewN (R1.bt.set_ne (a := ⟨pt, 1, none⟩) hne' _) nq⟩
  refine (HGA.out _ R2).mono ?_
  rintro e w2 ⟨rfl, bt2, t2, hge, hf2, R3, G⟩
  have F2 : Fr (fun x => x = pt ∨ x = bt) w w2 := (fr_drewN (Fr.setEq (Fr.of_below (own := fun x => x = pt ∨ x = bt) HB1.out) (b := pt) (o := 1) (.inl rfl) _) nq).trans hf2 (fun k hk => .inl (.inl hk))
  have hge2 : w.heap.size ≤ bt2 := by
    have q : w1.heap.size ≤ bt2 := by simpa using hge
    have := HB1.out.size
    omega
  obtain ⟨m', hm', HP, hl2, hfind⟩ := HPA.out t2 G
  have HPU := Go.Lib.hid HP
  have HFI := Go.Lib.hid hfind
  have HF2 := Go.Lib.hid F2
  have hml' : (m' : Int) < t2.length := by omega
  have hl3 : t2.length < 1000000 := by omega
  have HL2 := Go.Lib.hid hl2
  clear hge hf2 R2 R1 G HP hfind F2 c0 c1 f1 d2 hl2
  go_wp2_with fail
  refine (HFI.out _ _ R3).mono ?_
  rintro e w3 ⟨rfl, hb3⟩
  have R4 := R3.keep hb3
  have d0 := tslot_cell R4.bt hm' (j := 0) (by omega)
  have d1 := tslot_cell R4.bt hm' (j := 1) (by omega)
  have d2 := tslot_cell R4.bt hm' (j := 2) (by omega)
  have y0 := R4.bt.frozen (m' * 3)
  have y1 := R4.bt.frozen (m' * 3 + 1)
  have y2 := R4.bt.frozen (m' * 3 + 2)
  have c0 := R4.ht.cell 0
  simp only [encT, List.getElem?_cons_zero, List.getElem?_cons_succ, Nat.add_zero] at d0 d1 d2 c0
  have hne2 : pt ≠ bt2 := R4.ht.ne R4.bt (by decide)
  have HB3 := Go.Lib.hid hb3
  clear hb3
  go_wp2_with fail
  go_end0
  refine ⟨rfl, bt2, st t2 m' ⟨k, v, true⟩, hge2, ?_, ⟨?_, ?_⟩, HPU.out⟩
  · exact (((HF2.out.and_below HB3.out).setNew hge2 _).setNew hge2 _).setNew hge2 _
  · rw [st_length]
    exact ((R4.ht.set_ne (a := ⟨bt2, m' * 3, none⟩) hne2 _).set_ne (a := ⟨bt2, m' * 3 + 1, none⟩) hne2 _).set_ne (a := ⟨bt2, m' * 3 + 2, none⟩) hne2 _
  · exact tslot_write R4.bt hm' k v true
end
end Go.Proofs.Ytlakojncjldpbaa
