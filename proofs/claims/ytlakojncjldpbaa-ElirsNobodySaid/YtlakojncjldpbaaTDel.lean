/- A key that is there, taken out of the table. -/
import Derived.Test.YtlakojncjldpbaaGFind
namespace Go.Proofs.Ytlakojncjldpbaa
open Go.RowKit Hop
set_option linter.unusedVariables false
set_option linter.unusedSimpArgs false
set_option maxRecDepth 100000
theorem kfits (args : Array Value) (W : World) : (callFunc 209 args).run Try.prog W = .ok (.enter 209 args) W := by kernel_rfl
/-- What a table is behind a key taken out. -/
structure Dels (t t' : List Ts) (k : Int) : Prop where
  ti : Ti hmF t'
  ins : ∀ k' v', Tin t' k' v' ↔ Tin t k' v' ∧ k' ≠ k
  cn : cnt t' + 1 = cnt t
  len : t'.length = t.length
section
variable (pt bt : Nat) (t : List Ts)
set_option maxHeartbeats 6400000 in
theorem del_yes (k v : Int) (w : World) (hk0 : 0 ≤ k) (hk1 : k < 18446744073709551616) (hp : P2 t.length) (hlen : t.length < 500000) (T : Ti hmF t) (hyes : Tin t k v) (hfit : 4 * cnt t ≤ 3 * t.length)
    (hkeys : ∀ a : Int, 0 ≤ a → a < t.length → (tg t a).full = true → 0 ≤ (tg t a).key ∧ (tg t a).key < 18446744073709551616)
    (h : TRep w pt bt t (cnt t)) :
    Calls Try.prog 178 #[P0 pt, .int .u64 k] w fun e w' => e = .returned (.bool true) ∧ ∃ t', Fr (fun x => x = pt ∨ x = bt) w w' ∧ TRep w' pt bt t' ((cnt t : Int) - 1) ∧ Dels t t' k := by
  have hpos : 0 < t.length := by have := hp.pos; omega
  have hee : ∃ e : Int, 0 ≤ e ∧ e < t.length ∧ (tg t e).full = false := exists_empty (by omega)
  obtain ⟨r, hr⟩ := Fnd.ex (hm := hmF) k (hmF_lt hp _).1 (hmF_lt hp _).2 hee
  have hhit := hr.hit T (hmF_lt hp _).1 (hmF_lt hp _).2 hyes
  obtain ⟨m, rfl⟩ := Int.eq_ofNat_of_zero_le hr.lo
  have hm : m < t.length := by have := hr.hi; omega
  have hml : (m : Int) < t.length := by omega
  have hcp : 1 ≤ cnt t := by
    have := cnt_st (t := t) Ts.z (by omega : (0 : Int) ≤ m) hml
    rw [hhit.1] at this
    have hz : Ts.z.full = false := rfl
    rw [hz] at this
    simp only [if_true, Bool.false_eq_true, if_false] at this
    omega
  have FA := fun W h => find_at pt bt t (cnt t) k m W hk0 hk1 hp h hee hr
  obtain ⟨e, e0, e1, e2⟩ := hee
  have hme : (m : Int) ≠ e := by rintro rfl; rw [hhit.1] at e2; cases e2
  have hn2 : 2 ≤ t.length := by omega
  have HB := Hole.begin T (by omega) hml hhit.1 hhit.2.1 (fun k' => hmF_lt hp k') hn2
  have AB := Around.begin (by omega : (0 : Int) ≤ m) hml e0 e1 hme
  have hfullm := hhit.1
  have HFA := Go.Lib.hid FA
  have HHB := Go.Lib.hid HB
  have HAB := Go.Lib.hid AB
  have HE2 := Go.Lib.hid e2
  have HK := Go.Lib.hid hkeys
  have hne := h.ht.ne h.bt (by decide)
  have hne' := hne.symm
  have hc1 : cnt t < 1000000 := by omega
  have l0 := h.ht.lt
  have l1 := h.bt.lt
  have HME := Go.Lib.hid hme
  clear FA hr hhit T hyes HB AB e2 hkeys hme
  go_enter Try.func178, Try.ntmps178
  go_wp2_with fail
  have R0 := h.keep ((Below.refl _ _).alloc (Nat.le_refl _) (.cells #[P0 pt] 157))
  refine (HFA.out _ R0).mono ?_
  rintro e w1 ⟨rfl, hb1⟩
  have R1 := R0.keep hb1
  have q2 := (Blk.new0 w [P0 pt] 157).keep hb1
  have B1 := ((Below.refl _ w).alloc (Nat.le_refl _) (.cells #[P0 pt] 157)).trans (hb1.mono (by simp))
  have d2 := tslot_cell R1.bt hm (j := 2) (by omega)
  have c0 := R1.ht.cell 0
  have c1 := R1.ht.cell 1
  have f1 := R1.ht.frozen 1
  have c2 := q2.cell 0
  simp only [encT, List.getElem?_cons_zero, List.getElem?_cons_succ, Nat.add_zero] at d2 c0 c1 c2
  rw [hfullm] at d2
  have z1 : w.heap.size < w1.heap.size := by have := hb1.size; simp at this; omega
  have l2 := R1.ht.lt
  have l3 := R1.bt.lt
  have HB1 := Go.Lib.hid B1
  clear hb1 B1 R0
  go_wp2_with fail
  go_quiet (fail)
  go_wp2_with fail
  obtain ⟨W4, hW4⟩ : ∃ W4, W4 = (((w1.alloc (.cells #[.int .i64 m] 3)).drewN nq).setCell ⟨pt, 1, none⟩ (.int .i64 (cnt t - 1))).alloc (.cells #[.int .i64 t.length] 3) := ⟨_, rfl⟩
  have FW : Fr (fun x => x = pt) w1 W4 := by
    rw [hW4]
    exact ((fr_drewN ((Fr.refl (fun x => x = pt) w1).alloc _) nq).setEq rfl _).alloc _
  have R4 : TRep W4 pt bt t ((cnt t : Int) - 1) := by
    rw [hW4]
    exact ⟨((blk_drewN (R1.ht.alloc _) nq).set 1 (.int .i64 (cnt t - 1))).alloc _, ((blk_drewN (R1.bt.alloc _) nq).set_ne (a := ⟨pt, 1, none⟩) hne' _).alloc _⟩
  have p2 : Blk W4 w.heap.size [P0 pt] 157 := FW.blk (by show ¬ w.heap.size = pt; omega) q2
  have p5 : Blk W4 w1.heap.size [.int .i64 m] 3 := by
    rw [hW4]
    exact ((blk_drewN (Blk.new0 w1 [.int .i64 m] 3) nq).set_ne (a := ⟨pt, 1, none⟩) (by show ¬ w1.heap.size = pt; omega) _).alloc _
  have p6 : Blk W4 (w1.heap.size + 1) [.int .i64 t.length] 3 := by
    rw [hW4]
    have q := Blk.new0 (((w1.alloc (.cells #[.int .i64 m] 3)).drewN nq).setCell ⟨pt, 1, none⟩ (.int .i64 (cnt t - 1))) [.int .i64 t.length] 3
    have e : (((w1.alloc (.cells #[.int .i64 m] 3)).drewN nq).setCell ⟨pt, 1, none⟩ (.int .i64 (cnt t - 1))).heap.size = w1.heap.size + 1 := by rw [World.size_setCell]; exact World.size_alloc _ _
    rwa [e] at q
  have F4 : Fr (fun x => x = pt ∨ x = bt) w W4 := Fr.trans (own' := fun x => x = pt) (Fr.of_below HB1.out) FW (fun k hk => .inl (.inl hk))
  rw [← hW4]
  refine (next_any pt bt t ((cnt t : Int) - 1) m W4 hp (by omega) hml R4).mono ?_
  rintro e w0 ⟨rfl, rfl⟩
  have HF4 := Go.Lib.hid F4
  have z4 : w1.heap.size + 1 < W4.heap.size := p6.lt
  clear hW4 FW F4 q2 R1 d2 c0 c1 f1 c2 l2 l3 hfullm
  go_wp2_with fail
  go_loopg [8] (ap t.length (adv t.length m 1) e).toNat (fun g v wr => ∃ (t1 : List Ts) (hole a : Int), v = .int .i64 a ∧ Hid (Hole hmF t1 t k hole a) ∧ Hid (Around t.length hole a e g) ∧ Fr (fun x => x = bt ∨ x = w1.heap.size) W4 wr ∧ TRep wr pt bt t1 ((cnt t : Int) - 1) ∧ Blk wr w1.heap.size [.int .i64 hole] 3)
  case atStart =>
    refine ⟨t, m, _, rfl, HHB.out, ?_, Fr.refl _ _, R4, p5⟩
    have A := HAB.out
    have q := ap_lt (h := adv t.length m 1) (by exact (adv_lt (by omega) hml (by omega) (by omega)).1) (by exact (adv_lt (by omega) hml (by omega) (by omega)).2) e0 e1
    rw [Int.toNat_of_nonneg q.1]
    exact A
  case round =>
    obtain ⟨t1, hole, a, rfl, hH, hA, hF, hR, hq⟩ := hrel
    have hl1 : t1.length = t.length := hH.out.len
    obtain ⟨na, rfl⟩ := Int.eq_ofNat_of_zero_le hH.out.a0
    obtain ⟨nh, rfl⟩ := Int.eq_ofNat_of_zero_le hH.out.h0
    have hna : na < t1.length := by have := hH.out.a1; omega
    have hnh : nh < t1.length := by have := hH.out.h1; omega
    have hnai : (na : Int) < t1.length := by omega
    have hnhi : (nh : Int) < t1.length := by omega
    have hnb : ¬ (w.heap.size = bt ∨ w.heap.size = w1.heap.size) := by omega
    have hnb6 : ¬ (w1.heap.size + 1 = bt ∨ w1.heap.size + 1 = w1.heap.size) := by omega
    have r2 := hF.blk hnb p2
    have r6 := hF.blk hnb6 p6
    have c2 := r2.cell 0
    have c5 := hq.cell 0
    have f5 := hq.frozen 0
    have c0 := hR.ht.cell 0
    have d0 := tslot_cell hR.bt hna (j := 0) (by omega)
    have d1 := tslot_cell hR.bt hna (j := 1) (by omega)
    have d2 := tslot_cell hR.bt hna (j := 2) (by omega)
    have g0 := tslot_cell hR.bt hnh (j := 0) (by omega)
    have g1 := tslot_cell hR.bt hnh (j := 1) (by omega)
    have g2 := tslot_cell hR.bt hnh (j := 2) (by omega)
    have y0 := hR.bt.frozen (nh * 3)
    have y1 := hR.bt.frozen (nh * 3 + 1)
    have y2 := hR.bt.frozen (nh * 3 + 2)
    simp only [encT, List.getElem?_cons_zero, List.getElem?_cons_succ, Nat.add_zero] at d0 d1 d2 g0 g1 g2 c2 c5 c0
    have hb5 : bt ≠ w1.heap.size := by omega
    have HB5' := Go.Lib.hid hb5.symm
    have hb5r : w1.heap.size ≠ bt := hb5.symm
    have hp5 : pt ≠ w1.heap.size := by omega
    have lt1 := hR.ht.lt
    have lt2 := hR.bt.lt
    have lt3 := hq.lt
    have hF4' : Fr (fun x => x = pt ∨ x = bt) w wr := HF4.out.trans hF (fun k hk => by rcases hk with hk | hk; exact .inl (.inr hk); exact .inr (by omega))
    have HF4' := Go.Lib.hid hF4'
    have HF := Go.Lib.hid hF
    have hl9 : t1.length < 1000000 := by omega
    have hp1 : P2 t1.length := by rw [hl1]; exact hp
    have HL1 := Go.Lib.hid hl1
    cases hfull : (tg t1 na).full with
    | false =>
      have D := hH.out.done hfull
      have HD : Hid (Dels t (st t1 nh Ts.z) k) := ⟨D.1, D.2.1, D.2.2.1, D.2.2.2⟩
      have RB := tslot_write hR.bt hnh 0 0 false
      have RT : TRep (((wr.setCell ⟨bt, nh * 3, none⟩ (.int .u64 0)).setCell ⟨bt, nh * 3 + 1, none⟩ (.int .i32 0)).setCell ⟨bt, nh * 3 + 2, none⟩ (.bool false)) pt bt (st t1 nh Ts.z) ((cnt t : Int) - 1) :=
        ⟨by rw [st_length]; exact ((hR.ht.set_ne (a := ⟨bt, nh * 3, none⟩) hne _).set_ne (a := ⟨bt, nh * 3 + 1, none⟩) hne _).set_ne (a := ⟨bt, nh * 3 + 2, none⟩) hne _, RB⟩
      have FF := ((hF4'.setEq (b := bt) (o := nh * 3) (.inr rfl) (.int .u64 0)).setEq (b := bt) (o := nh * 3 + 1) (.inr rfl) (.int .i32 0)).setEq (b := bt) (o := nh * 3 + 2) (.inr rfl) (.bool false)
      have HRT := Go.Lib.hid RT
      have HFF := Go.Lib.hid FF
      rw [hfull] at d2
      clear hF hF4' hR hq r2 r6 D RB RT FF hfull hl1
      go_wp2_with fail
      go_region
      all_goals (go_wp2_with fail; go_ret)
      all_goals exact ⟨rfl, _, HFF.out.drew, ⟨HRT.out.ht, HRT.out.bt⟩, HD.out⟩
    | true =>
      have hak : 0 ≤ (tg t1 na).key ∧ (tg t1 na).key < 18446744073709551616 := by
        obtain ⟨⟨x, x0, x1, xf, xk, xv⟩, _⟩ := (hH.out.ins (tg t1 na).key (tg t1 na).num).1 ⟨na, by omega, hnai, hA.out.ne, hfull, rfl, rfl⟩
        rw [← xk]
        exact HK.out x x0 x1 xf
      have hae : (na : Int) ≠ e := by
        intro he
        have := hH.out.same na (by omega) hnai
        rw [hfull, he, HE2.out] at this
        cases this
      have FI := fun W hW h2 h6 h5 => fits_any pt bt t1 ((cnt t : Int) - 1) w.heap.size (w1.heap.size + 1) w1.heap.size na nh W hp1 (by omega) hnai (by omega) hnhi hak.1 hak.2 hW h2 h6 h5
      rw [hl1] at FI
      have HFI := Go.Lib.hid FI
      rw [hfull] at d2
      have HFU := Go.Lib.hid hfull
      have HHF := Go.Lib.hid hF
      have hnx : adv t.length na 1 = adv t1.length na 1 := by rw [hl1]
      have NX := fun W t2 (h2 : t2.length = t1.length) hW => next_any pt bt t2 ((cnt t : Int) - 1) na W (by rw [h2]; exact hp1) (by omega) (by rw [h2]; exact hnai) hW
      have HNX := Go.Lib.hid NX
      clear NX FI hak hfull hF hF4'
      by_cases hfitx : ap t.length nh na ≤ ap t.length (hmF (tg t1 na).key t.length) na
      · have hfb : decide (ap t.length nh na ≤ ap t.length (hmF (tg t1 na).key t.length) na) = true := decide_eq_true hfitx
        have HM := hH.out.move HFU.out hA.out.ne (by rw [hl1]; exact hfitx) (by omega)
        have AM := hA.out.move (by omega) (by omega) hae
        have HHM := Go.Lib.hid HM
        have HAM := Go.Lib.hid AM.1
        have HGP := Go.Lib.hid AM.2
        have HNE := Go.Lib.hid hnx
        rw [hfb] at HFI
        clear HM AM hfitx hfb hl1 hnx
        go_wp2_with fail
        refine (HFI.out _ hR r2 r6 hq).mono ?_
        rintro e w5 ⟨rfl, hb5'⟩
        have hR5 := hR.keep hb5'
        have hq5 := hq.keep hb5'
        have r25 := r2.keep hb5'
        have F5 := HHF.out.and_below hb5'
        have k2 := r25.cell 0
        have k5 := hq5.cell 0
        have k55 := hq5.frozen 0
        have k0 := hR5.ht.cell 0
        have d0' := tslot_cell hR5.bt hna (j := 0) (by omega)
        have d1' := tslot_cell hR5.bt hna (j := 1) (by omega)
        have d2' := tslot_cell hR5.bt hna (j := 2) (by omega)
        have g0' := tslot_cell hR5.bt hnh (j := 0) (by omega)
        have g1' := tslot_cell hR5.bt hnh (j := 1) (by omega)
        have g2' := tslot_cell hR5.bt hnh (j := 2) (by omega)
        have y0' := hR5.bt.frozen (nh * 3)
        have y1' := hR5.bt.frozen (nh * 3 + 1)
        have y2' := hR5.bt.frozen (nh * 3 + 2)
        simp only [encT, List.getElem?_cons_zero, List.getElem?_cons_succ, Nat.add_zero] at d0' d1' d2' g0' g1' g2' k2 k5 k0
        rw [HFU.out] at d2'
        have m1 := hR5.ht.lt
        have m2 := hR5.bt.lt
        have m3 := hq5.lt
        have m4 := r25.lt
        have RB := (tslot_write hR5.bt hnh (tg t1 na).key (tg t1 na).num true).set_ne (a := ⟨w1.heap.size, 0, none⟩) hb5 (.int .i64 na)
        have RT := (((hR5.ht.set_ne (a := ⟨bt, nh * 3, none⟩) hne (.int .u64 (tg t1 na).key)).set_ne (a := ⟨bt, nh * 3 + 1, none⟩) hne (.int .i32 (tg t1 na).num)).set_ne (a := ⟨bt, nh * 3 + 2, none⟩) hne (.bool true)).set_ne (a := ⟨w1.heap.size, 0, none⟩) hp5 (.int .i64 na)
        have RQ := (((hq5.set_ne (a := ⟨bt, nh * 3, none⟩) HB5'.out (.int .u64 (tg t1 na).key)).set_ne (a := ⟨bt, nh * 3 + 1, none⟩) HB5'.out (.int .i32 (tg t1 na).num)).set_ne (a := ⟨bt, nh * 3 + 2, none⟩) HB5'.out (.bool true)).set 0 (.int .i64 na)
        have r25' := (((r25.set_ne (a := ⟨bt, nh * 3, none⟩) (by show w.heap.size ≠ bt; omega) (.int .u64 (tg t1 na).key)).set_ne (a := ⟨bt, nh * 3 + 1, none⟩) (by show w.heap.size ≠ bt; omega) (.int .i32 (tg t1 na).num)).set_ne (a := ⟨bt, nh * 3 + 2, none⟩) (by show w.heap.size ≠ bt; omega) (.bool true)).set_ne (a := ⟨w1.heap.size, 0, none⟩) (by show w.heap.size ≠ w1.heap.size; omega) (.int .i64 na)
        have FF := (((F5.setEq (b := bt) (o := nh * 3) (.inl rfl) (.int .u64 (tg t1 na).key)).setEq (b := bt) (o := nh * 3 + 1) (.inl rfl) (.int .i32 (tg t1 na).num)).setEq (b := bt) (o := nh * 3 + 2) (.inl rfl) (.bool true)).setEq (b := w1.heap.size) (o := 0) (.inr rfl) (.int .i64 na)
        have hxe : tg t1 na = ⟨(tg t1 na).key, (tg t1 na).num, true⟩ := by rw [← HFU.out]
        rw [← hxe] at RB
        have hst : (st t1 nh (tg t1 na)).length = t1.length := st_length _ _ _
        rw [← hst] at RT
        have HRB := Go.Lib.hid RB
        have HRT := Go.Lib.hid RT
        have HRQ := Go.Lib.hid RQ
        have HFF := Go.Lib.hid FF
        have HST := Go.Lib.hid hst
        have HR25 := Go.Lib.hid r25'
        clear RB RT RQ FF hxe hst hR hq r2 hR5 hq5 r25 F5 hb5' c0 c2 c5 f5 d0 d1 d2 g0 g1 g2 y0 y1 y2 r25' r6
        go_wp2_with fail
        go_region
        all_goals (go_wp2_with fail)
        refine (HNX.out _ (st t1 nh (tg t1 na)) HST.out ⟨HRT.out.drew, HRB.out.drew⟩).mono ?_
        rw [HST.out, ← HNE.out]
        rintro e w6 ⟨rfl, rfl⟩
        go_wp2_with fail
        go_roundg (gk - 1)
        case measure => have := HGP.out; omega
        case rel => exact ⟨st t1 nh (tg t1 na), na, _, rfl, (by rw [HNE.out]; exact HHM.out), (by have q : (((gk - 1 : Nat)) : Int) = (gk : Int) - 1 := (by have := HGP.out; omega); rw [q]; exact HAM.out), HFF.out.drew, ⟨HRT.out.drew, HRB.out.drew⟩, HRQ.out.drew⟩
      · have hfb : decide (ap t.length nh na ≤ ap t.length (hmF (tg t1 na).key t.length) na) = false := decide_eq_false hfitx
        have HM := hH.out.stay HFU.out hA.out.ne (by rw [hl1]; omega) (by omega)
        have AM := hA.out.stay (by omega) (by omega) (by omega) (by omega) hae
        have HHM := Go.Lib.hid HM
        have HAM := Go.Lib.hid AM.1
        have HGP := Go.Lib.hid AM.2
        have HNE := Go.Lib.hid hnx
        rw [hfb] at HFI
        clear HM AM hfitx hfb hl1 hnx
        go_wp2_with fail
        refine (HFI.out _ hR r2 r6 hq).mono ?_
        rintro e w5 ⟨rfl, hb5'⟩
        have hR5 := hR.keep hb5'
        have hq5 := hq.keep hb5'
        have r25 := r2.keep hb5'
        have F5 := HHF.out.and_below hb5'
        have k2 := r25.cell 0
        simp only [List.getElem?_cons_zero] at k2
        have HF5 := Go.Lib.hid F5
        clear F5 hb5' c0 c2 c5 f5 d0 d1 d2 g0 g1 g2 y0 y1 y2 r6
        go_wp2_with fail
        refine (HNX.out _ t1 rfl hR5).mono ?_
        rw [← HNE.out]
        rintro e w6 ⟨rfl, rfl⟩
        go_wp2_with fail
        go_roundg (gk - 1)
        case measure => have := HGP.out; omega
        case rel => exact ⟨t1, nh, _, rfl, (by rw [HNE.out]; exact HHM.out), (by have q : (((gk - 1 : Nat)) : Int) = (gk : Int) - 1 := (by have := HGP.out; omega); rw [q]; exact HAM.out), HF5.out, hR5, hq5⟩
end
end Go.Proofs.Ytlakojncjldpbaa
