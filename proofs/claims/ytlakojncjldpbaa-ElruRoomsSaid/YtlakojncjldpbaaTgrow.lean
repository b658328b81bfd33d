/- The table grows. -/
import Derived.Test.YtlakojncjldpbaaTGet
namespace Go.Proofs.Ytlakojncjldpbaa
open Go.RowKit Hop
set_option linter.unusedVariables false
set_option linter.unusedSimpArgs false
set_option maxRecDepth 100000
theorem tslot_info : (Try.prog.info? 213).map (fun i => (i.zero, i.size, i.bytes)) = some (some (.agg (encT Ts.z).toArray), 3, 16) := by kernel_rfl
theorem tslot_write {w : World} {bt : Nat} {t : List Ts} (hb : Blk w bt (flat encT t) 213) {n : Nat} (hn : n < t.length) (k v : Int) (f : Bool) :
    Blk (((w.setCell ⟨bt, n * 3, none⟩ (.int .u64 k)).setCell ⟨bt, n * 3 + 1, none⟩ (.int .i32 v)).setCell ⟨bt, n * 3 + 2, none⟩ (.bool f)) bt (flat encT (st t n ⟨k, v, f⟩)) 213 := by
  have h := ((hb.set (n * 3) (.int .u64 k)).set (n * 3 + 1) (.int .i32 v)).set (n * 3 + 2) (.bool f)
  have q0 := flat_set encT_len t n 0 hn (.int .u64 k) ⟨k, t[n].num, t[n].full⟩ (by omega) (by simp [encT])
  have q1 := flat_set encT_len (t.set n ⟨k, t[n].num, t[n].full⟩) n 1 (by simpa using hn) (.int .i32 v) ⟨k, v, t[n].full⟩ (by omega) (by simp [encT])
  have q2 := flat_set encT_len (t.set n ⟨k, v, t[n].full⟩) n 2 (by simpa using hn) (.bool f) ⟨k, v, f⟩ (by omega) (by simp [encT])
  simp only [List.set_set] at q1 q2
  simp only [Nat.add_zero] at q0
  rw [q0, q1, q2] at h
  simpa [st] using h
section
variable (pt bt : Nat) (t : List Ts) (many : Int)
set_option maxHeartbeats 3200000 in
theorem tgrow_any (w : World) (hp : P2 (2 * t.length)) (hlen : t.length < 500000) (h0 : 0 < t.length) (T : Ti hmF t) (hkeys : ∀ a : Int, 0 ≤ a → a < t.length → (tg t a).full = true → 0 ≤ (tg t a).key ∧ (tg t a).key < 18446744073709551616) (h : TRep w pt bt t many) :
    Calls Try.prog 237 #[P0 pt] w fun e w' => e = .returned (.tuple #[]) ∧ ∃ bt' t', w.heap.size ≤ bt' ∧ Fr (· = pt) w w' ∧ TRep w' pt bt' t' many ∧ Grw hmF t t' t.length := by
  have c0 := h.ht.cell 0
  have f0 := h.ht.frozen 0
  simp only [List.getElem?_cons_zero] at c0
  have l0 := h.ht.lt
  have l1 := h.bt.lt
  have hne := h.ht.ne h.bt (by decide)
  go_enter Try.func237, Try.ntmps237
  go_wp2_with (refine wpList_make_rows _ encT Ts.z 3 encT_len (by omega) rfl (.tmp 12) 193 rfl 213 16 Try.underlying193 tslot_info (2 * t.length) (2 * t.length) rfl (by omega) (by omega) (by unfold maxLen; omega) ?_)
  go_loopw [18] (fun v wr => ∃ (i : Nat) (t' : List Ts), i ≤ t.length ∧ v = .int .i64 i ∧ Hid (Grw hmF t t' i) ∧ Fr (· = pt) w wr ∧ TRep wr pt w.heap.size t' many) (fun v _ => t.length - (intOf v).toNat)
  case atStart =>
    have e : (2 * t.length) = (List.replicate (2 * t.length) Ts.z).length := by simp
    refine ⟨0, _, Nat.zero_le _, rfl, Grw.begin t, ((Fr.refl (fun k => k = pt) w).setEq rfl _).alloc _, ⟨?_, ?_⟩⟩
    · have q := (h.ht.set 0 (S0 w.heap.size (List.replicate (2 * t.length) Ts.z).length)).alloc (.cells (flat encT (List.replicate (2 * t.length) Ts.z)).toArray 213)
      rw [← e] at q ⊢
      exact q
    · have q := Blk.new0 (w.setCell ⟨pt, 0, none⟩ (S0 w.heap.size (2 * t.length))) (flat encT (List.replicate (2 * t.length) Ts.z)) 213
      rw [World.size_setCell] at q
      exact q
  case round =>
    obtain ⟨i, t', hi, rfl, hG, hF, hR⟩ := hrel
    by_cases hlt : i < t.length
    · have bo := hF.blk (fun e => hne e.symm) h.bt
      have d0 := tslot_cell bo hlt (j := 0) (by omega)
      have d1 := tslot_cell bo hlt (j := 1) (by omega)
      have d2 := tslot_cell bo hlt (j := 2) (by omega)
      simp only [encT, List.getElem?_cons_zero, List.getElem?_cons_succ, Nat.add_zero] at d0 d1 d2
      have l2 := hF.size
      have l3 := bo.lt
      cases hfull : (tg t i).full with
      | false =>
        rw [hfull] at d2
        have G2 := Go.Lib.hid (hG.out.skip hlt hfull)
        have HF := Go.Lib.hid hF
        have HR := Go.Lib.hid hR
        have HFU := Go.Lib.hid hfull
        clear hF hR hfull
        go_wp2_with fail
        go_roundw
        case rel => exact ⟨i + 1, t', by omega, by go_num, G2.out, HF.out.alloc _, HR.out.keep ((Below.refl _ _).alloc (Nat.le_refl _) _)⟩
        case measure => simp [intOf]; omega
      | true =>
        rw [hfull] at d2
        obtain ⟨hk0, hk1⟩ := hkeys i (by omega) (by omega) hfull
        have hl2 : t'.length = 2 * t.length := hG.out.len
        have hp' : P2 t'.length := by rw [hl2]; exact_mod_cast hp
        have hee : ∃ e : Int, 0 ≤ e ∧ e < t'.length ∧ (tg t' e).full = false := by
          apply exists_empty
          have := hG.out.cn
          have := cnt_le (t.take i)
          have : (t.take i).length ≤ t.length := by simp; omega
          omega
        obtain ⟨r, hr⟩ := Fnd.ex (hm := hmF) (tg t i).key (hmF_lt hp' _).1 (hmF_lt hp' _).2 hee
        have G2 := Go.Lib.hid (hG.out.step T hlt hfull hr)
        obtain ⟨m, rfl⟩ := Int.eq_ofNat_of_zero_le hr.lo
        have hm : m < t'.length := by have := hr.hi; omega
        have FA := fun W h => find_at pt w.heap.size t' many (tg t i).key m W hk0 hk1 hp' h hee hr
        have l6 := hR.ht.lt
        have l7 := hR.bt.lt
        have hnb : pt ≠ w.heap.size := by omega
        have hW0 := hR.keep ((Below.refl _ _).alloc (Nat.le_refl _) (.cells #[.int .u64 (tg t i).key, .int .i32 (tg t i).num, .bool true] 213))
        have hq : TRep (wr.alloc (.cells #[.int .u64 (tg t i).key, .int .i32 (tg t i).num, .bool true] 213)).drew pt w.heap.size t' many := ⟨hW0.ht, hW0.bt⟩
        have sb := Blk.new0 wr [.int .u64 (tg t i).key, .int .i32 (tg t i).num, .bool true] 213
        have F0 := hF.alloc (.cells #[.int .u64 (tg t i).key, .int .i32 (tg t i).num, .bool true] 213)
        have cp := hW0.ht.cell 0
        simp only [List.getElem?_cons_zero] at cp
        have S1 : ∀ W, Fr (· = w.heap.size) (wr.alloc (.cells #[.int .u64 (tg t i).key, .int .i32 (tg t i).num, .bool true] 213)) W → W.cell? ⟨pt, 0, none⟩ = some (S0 w.heap.size t'.length) ∧ W.cell? ⟨wr.heap.size, 0, none⟩ = some (.int .u64 (tg t i).key) ∧ W.cell? ⟨wr.heap.size, 1, none⟩ = some (.int .i32 (tg t i).num) ∧ W.cell? ⟨wr.heap.size, 2, none⟩ = some (.bool true) ∧ Fr (· = w.heap.size) (wr.alloc (.cells #[.int .u64 (tg t i).key, .int .i32 (tg t i).num, .bool true] 213)) W := by
          intro W hW
          have b1 := hW.blk (x := pt) hnb hW0.ht
          have b2 := hW.blk (x := wr.heap.size) (by show ¬ wr.heap.size = w.heap.size; omega) sb
          exact ⟨b1.cell 0, b2.cell 0, b2.cell 1, b2.cell 2, hW⟩
        have S2 := S1 _ (Fr.drew (Fr.refl _ _))
        have S3 := fun W a b c (hb : Below (wr.alloc (.cells #[.int .u64 (tg t i).key, .int .i32 (tg t i).num, .bool true] 213)).drew.heap.size (wr.alloc (.cells #[.int .u64 (tg t i).key, .int .i32 (tg t i).num, .bool true] 213)).drew W) =>
          S1 _ ((((Fr.trans (own' := fun _ => False) (Fr.drew (Fr.refl (· = w.heap.size) _)) (Fr.of_below hb) (fun _ f => f.elim)).setEq (o := m * 3) rfl a).setEq (o := m * 3 + 1) rfl b).setEq (o := m * 3 + 2) rfl c)
        have S4 := fun W (hb : Below (wr.alloc (.cells #[.int .u64 (tg t i).key, .int .i32 (tg t i).num, .bool true] 213)).drew.heap.size (wr.alloc (.cells #[.int .u64 (tg t i).key, .int .i32 (tg t i).num, .bool true] 213)).drew W) =>
          S1 W (Fr.trans (own' := fun _ => False) (Fr.drew (Fr.refl (· = w.heap.size) _)) (Fr.of_below hb) (fun _ f => f.elim))
        have HS2 := Go.Lib.hid S2
        have HS3 := Go.Lib.hid S3
        have HS4 := Go.Lib.hid S4
        have HFA := Go.Lib.hid FA
        have HQ := Go.Lib.hid hq
        have HF0 := Go.Lib.hid F0
        have hml : (m : Int) < t'.length := by omega
        have HFU := Go.Lib.hid hfull
        have hl4 : t'.length < 1000000 := by omega
        have HL2 := Go.Lib.hid hl2
        clear hR hF hW0 hq sb F0 S1 S2 S3 S4 FA hr hee hfull hl2 cp
        generalize tg t i = x at *
        go_wp2_with fail
        go_region_held3 (fun W => W.cell? ⟨pt, 0, none⟩ = some (S0 w.heap.size t'.length) ∧ W.cell? ⟨wr.heap.size, 0, none⟩ = some (.int .u64 x.key) ∧ W.cell? ⟨wr.heap.size, 1, none⟩ = some (.int .i32 x.num) ∧ W.cell? ⟨wr.heap.size, 2, none⟩ = some (.bool true) ∧ Fr (· = w.heap.size) (wr.alloc (.cells #[.int .u64 x.key, .int .i32 x.num, .bool true] 213)) W)
          (first | with_reducible exact HS4.out _ hb1 | with_reducible exact HS3.out _ _ _ _ hb1 | exact HS2.out)
          (first | (go_at_call 208; refine (HFA.out _ (by with_reducible exact HQ.out)).mono ?_; rintro e w1 ⟨rfl, hb1⟩; (have R1 := HQ.out.keep hb1); have e0 := tslot_cell R1.bt hm (j := 0) (by omega); have e1 := tslot_cell R1.bt hm (j := 1) (by omega); have e2 := tslot_cell R1.bt hm (j := 2) (by omega); have y0 := R1.bt.frozen (m * 3); have y1 := R1.bt.frozen (m * 3 + 1); have y2 := R1.bt.frozen (m * 3 + 2); simp only [encT, List.getElem?_cons_zero, List.getElem?_cons_succ, Nat.add_zero] at e0 e1 e2; have l8 := R1.bt.lt; have l9 := R1.ht.lt))
        have FF := Fr.setNew (Fr.setNew (Fr.setNew (HF0.out.drew.and_below hb1) (b := w.heap.size) (o := m * 3) (Nat.le_refl _) (.int .u64 x.key)) (b := w.heap.size) (o := m * 3 + 1) (Nat.le_refl _) (.int .i32 x.num)) (b := w.heap.size) (o := m * 3 + 2) (Nat.le_refl _) (.bool true)
        have RB := tslot_write R1.bt hm x.key x.num true
        have RT := ((R1.ht.set_ne (a := ⟨w.heap.size, m * 3, none⟩) hnb (.int .u64 x.key)).set_ne (a := ⟨w.heap.size, m * 3 + 1, none⟩) hnb (.int .i32 x.num)).set_ne (a := ⟨w.heap.size, m * 3 + 2, none⟩) hnb (.bool true)
        have hst : (st t' m ⟨x.key, x.num, true⟩).length = t'.length := st_length _ _ _
        rw [← hst] at RT
        have HFF := Go.Lib.hid FF
        have HRB := Go.Lib.hid RB
        have HRT := Go.Lib.hid RT
        clear hb1 R1 FF RB RT hst
        go_wp2_with fail
        go_roundw
        case rel => exact ⟨i + 1, _, by omega, by go_num, G2.out, HFF.out, ⟨HRT.out, HRB.out⟩⟩
        case measure => simp [intOf]; omega
    · have e : i = t.length := by omega
      subst e
      go_wp2_with fail
      go_end0
      exact ⟨rfl, w.heap.size, t', Nat.le_refl _, hF, hR, hG.out⟩
end
end Go.Proofs.Ytlakojncjldpbaa
