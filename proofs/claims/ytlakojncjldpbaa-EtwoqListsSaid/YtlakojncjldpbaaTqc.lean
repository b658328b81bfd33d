/- The cache of two queues over a store: forget, shrink. -/
import Derived.Test.YtlakojncjldpbaaTq
import Derived.Deep.RegionHeld3
import Derived.WalkMore
namespace Go.Proofs.Ytlakojncjldpbaa
open Go.RowKit Hop
set_option linter.unusedVariables false
set_option linter.unusedSimpArgs false
set_option maxRecDepth 100000
theorem nd_three {i o m : List Int} {p : Nat} (h : Qok (qN [i, o, m]) p) : i.Nodup ∧ o.Nodup ∧ m.Nodup ∧ (∀ x ∈ i, x ∉ o ∧ x ∉ m) ∧ (∀ x ∈ o, x ∉ m) := by
  have := nd_qN h
  simp only [List.flatten_cons, List.flatten_nil, List.append_nil] at this
  obtain ⟨h1, h2, h3⟩ := List.nodup_append.1 this
  obtain ⟨h4, h5, h6⟩ := List.nodup_append.1 h2
  exact ⟨h1, h4, h5, fun x hx => ⟨fun h => h3 x hx x (List.mem_append_left _ h) rfl, fun h => h3 x hx x (List.mem_append_right _ h) rfl⟩, fun x hx h => h6 x hx x h rfl⟩
theorem ks_three {i o m : List Int} {p : Nat} (h : Qok (qN [i, o, m]) p) {k : Int} (hk : k ∈ i ∨ k ∈ o ∨ k ∈ m) : 0 ≤ k ∧ k < 18446744073709551616 :=
  ks_qN h (by simpa using hk)
theorem below_drewN' {B : Nat} {a b : World} (h : Below B a b) (n : Nat) : Below B a (b.drewN n) := below_drewN h n
section
variable {ps : Nat} {O : Nat → Prop} {p : Nat}
set_option maxHeartbeats 3200000 in
theorem tforget_any (px : Nat) (c : Int) (i o m : List Int) (w : World) (hc : 0 ≤ c ∧ c ≤ 1048576) (hx : Blk w px [P0 ps, .int .i64 c] 121) (hxo : ¬ O px) (H : Sta w ps O (qN [i, o, m]) p) :
    Calls Try.prog 130 #[P0 px] w fun e w' => e = .returned (.tuple #[]) ∧ ∃ O', Sta w' ps O' (qN [i, o.take (c / 2).toNat, m]) p ∧ Chg O O' w w' := by
  obtain ⟨hc0, hc1⟩ := hc
  obtain ⟨N, hN⟩ : ∃ N, N = (c / 2).toNat := ⟨_, rfl⟩
  have hN2 : (N : Int) = c / 2 := by omega
  have HQ : Hid (IntKind.i64.wrap (c.tdiv 2) = (N : Int)) := Go.Lib.hid (by rw [hN2]; exact IntWalk.i64_quo c 2 ⟨by omega, by omega, by omega⟩)
  rw [← hN]
  have HX := Go.Lib.hid hx
  have HXO := Go.Lib.hid hxo
  have HH := Go.Lib.hid H
  have hl : o.length < 50000 := by
    have h := H.qok
    have h1 := h.tot
    have h2 := h.p4
    rw [tot_qN] at h1
    simp at h1
    omega
  have hxl := hx.lt
  clear hx hxo H hN
  go_enter Try.func130, Try.ntmps130
  go_wp2_with fail
  go_loopg [] o.length (fun g wr => g ≤ o.length ∧ (N ≤ g ∨ g = o.length) ∧ ∃ O', Sta wr ps O' (qN [i, o.take g, m]) p ∧ Chg O O' w wr)
  case atStart => exact ⟨Nat.le_refl _, .inr rfl, O, by rw [List.take_length]; exact HH.out, Chg.refl _ _⟩
  case round =>
    obtain ⟨hg, hng, O', hst, hch⟩ := hrel
    have hxw := hch.blk HXO.out HX.out
    have c0 := hxw.cell 0
    have c1 := hxw.cell 1
    simp only [List.getElem?_cons_zero, List.getElem?_cons_succ] at c0 c1
    have hno := hch.not hxl HXO.out
    have hlen : (o.take gk).length = gk := by rw [List.length_take]; omega
    have HLN : Hid (Calls Try.prog 128 #[P0 ps, .int .i64 1] wr.drew fun e w' => e = .returned (.int .i64 gk) ∧ wr.drew = w') := Go.Lib.hid (by
      have h := len_k 1 wr.drew (by simp) (hst.keep (Below.refl _ _).drew)
      simp only [List.getD_cons_succ, List.getD_cons_zero, hlen] at h
      exact h)
    have HS0 : Hid (wr.drew.cell? ⟨px, 0, none⟩ = some (P0 ps) ∧ wr.drew.cell? ⟨px, 1, none⟩ = some (.int .i64 c)) := Go.Lib.hid ⟨c0, c1⟩
    have HST := Go.Lib.hid hst
    have HCH := Go.Lib.hid hch
    have HXW := Go.Lib.hid hxw
    have HNO := Go.Lib.hid hno
    have HN := Go.Lib.hid hng
    clear hst hch hxw hno hng hlen
    go_wp2_with fail
    go_region_held3 (fun W' => W'.cell? ⟨px, 0, none⟩ = some (P0 ps) ∧ W'.cell? ⟨px, 1, none⟩ = some (.int .i64 c))
      (first | exact HS0.out)
      (first | (go_at_call 128; refine HLN.out.mono ?_; rintro e w1 ⟨rfl, rfl⟩))
    obtain ⟨wd, hwd⟩ : ∃ wd, wd = wr.drew := ⟨_, rfl⟩
    have BD : Below wr.heap.size wr wd := by rw [hwd]; exact (Below.refl _ _).drew
    rw [← hwd, HQ.out]
    have HSD := Go.Lib.hid (HST.out.keep BD)
    have HCD := Go.Lib.hid (HCH.out.below BD)
    have HXD := Go.Lib.hid (HXW.out.keep BD)
    have e0 := HXD.out.cell 0
    have e1 := HXD.out.cell 1
    simp only [List.getElem?_cons_zero, List.getElem?_cons_succ] at e0 e1
    clear c0 c1 hwd BD HST HCH HXW HLN HS0
    by_cases hlt : N < gk
    · obtain ⟨j, rfl⟩ : ∃ j, gk = j + 1 := ⟨gk - 1, by omega⟩
      have hjl : j < o.length := by omega
      obtain ⟨x, hx, hxj⟩ : ∃ x, o.take (j + 1) = o.take j ++ [x] ∧ o[j]? = some x := ⟨o[j], by rw [List.take_add_one, List.getElem?_eq_getElem hjl]; rfl, List.getElem?_eq_getElem hjl⟩
      have st1 := HSD.out
      rw [hx] at st1
      have hq := st1.qok
      obtain ⟨n1, n2, n3, n4, n5⟩ := nd_three hq
      obtain ⟨hk0, hk1⟩ := ks_three hq (k := x) (.inr (.inl (by simp)))
      have HBK := Go.Lib.hid (back_k 1 (A := o.take j) (x := x) wd (by simp) (by simp) st1)
      have hi : x ∉ i := fun h => (n4 x h).1 (by simp)
      have hm : x ∉ m := n5 x (by simp)
      have hrm : [i, o.take j ++ [x], m].map (fun L => wo L x) = [i, o.take j, m] := by
        simp only [List.map_cons, List.map_nil]
        rw [wo_id hi, wo_id hm, wo_last n2]
      have HRM := Go.Lib.hid (fun w' (h : Sta w' ps O' (qN [i, o.take j ++ [x], m]) p) => by
        have h' := remove_k x w' hk0 hk1 h
        rw [hrm] at h'
        exact h')
      have HS1 := Go.Lib.hid st1
      clear hx hxj st1 hq n1 n2 n3 n4 n5 hi hm hrm
      go_wp2_with fail
      refine HBK.out.mono ?_
      rintro e w2 ⟨rfl, hb2⟩
      have e0' := (HXD.out.keep hb2).cell 0
      simp only [List.getElem?_cons_zero, List.getElem?_cons_succ] at e0'
      have HB2 := Go.Lib.hid hb2
      clear hb2 e0 e1
      go_wp2_with fail
      refine (HRM.out _ (HS1.out.keep HB2.out)).mono ?_
      rintro e w3 ⟨rfl, O2, hst3, hch3⟩
      have HST3 := Go.Lib.hid hst3
      have HCH4 := Go.Lib.hid (HCD.out.trans ((Chg.of_below HB2.out).trans hch3))
      clear hst3 hch3 e0'
      go_wp2_with fail
      go_roundg j
      case rel => exact ⟨by omega, .inl (by omega), O2, HST3.out, HCH4.out⟩
      case measure => omega
    · have ht : o.take N = o.take gk := by
        rcases HN.out with h | h
        · rw [show gk = N by omega]
        · rw [h, List.take_length, List.take_of_length_le (by omega)]
      have HTK := Go.Lib.hid ht
      clear ht
      go_wp2_with fail
      go_end0
      exact ⟨rfl, O', by rw [HTK.out]; exact HSD.out, HCD.out⟩
set_option maxHeartbeats 6400000 in
theorem tqshrink_any (px : Nat) (c : Int) (i o m : List Int) (n : Int) (w : World) (hc : 1 ≤ c ∧ c ≤ 1048576) (hn : 0 ≤ n ∧ n ≤ 1048576) (hx : Blk w px [P0 ps, .int .i64 c] 121) (hxo : ¬ O px) (H : Sta w ps O (qN [i, o, m]) p) :
    Calls Try.prog 129 #[P0 px, .int .i64 n] w fun e w' => ∃ vo O', e = .returned vo ∧ Sta w' ps O' (qN [(shrT n (i.length + m.length) ⟨c, i, o, m⟩).1.i, (shrT n (i.length + m.length) ⟨c, i, o, m⟩).1.o, (shrT n (i.length + m.length) ⟨c, i, o, m⟩).1.m]) p ∧ Chg O O' w w' ∧ KL w' vo (shrT n (i.length + m.length) ⟨c, i, o, m⟩).2 ∧ (∀ b, vo.ownBlock = some b → w.heap.size ≤ b ∧ ¬ O' b) := by
  obtain ⟨hc0, hc1⟩ := hc
  obtain ⟨hn0, hn1⟩ := hn
  have hl : i.length + m.length < 50000 := by
    have h := H.qok
    have h1 := h.tot
    have h2 := h.p4
    rw [tot_qN] at h1
    simp at h1
    omega
  obtain ⟨R, hR⟩ : ∃ R, R = shrT n (i.length + m.length) ⟨c, i, o, m⟩ := ⟨_, rfl⟩
  rw [← hR]
  have HRR : Hid (shrT n (i.length + m.length) ⟨c, i, o, m⟩ = (R.1, R.2)) := Go.Lib.hid hR.symm
  have HX := Go.Lib.hid hx
  have HXO := Go.Lib.hid hxo
  have HH := Go.Lib.hid H
  have hxl := hx.lt
  generalize hg0 : i.length + m.length = g0 at *
  have HG0 := Go.Lib.hid hg0
  clear hR hx hxo H hg0
  go_enter Try.func129, Try.ntmps129
  go_wp2_with fail
  go_step3
  go_wp2_with fail
  go_step3
  go_wp2_with fail
  go_loopg [5] g0 (fun g vo wr => ∃ (i' o' m' gone G2 : List Int) (O' : Nat → Prop), i'.length + m'.length = g ∧ gone.length + g ≤ g0 ∧ shrT n g ⟨c, i', o', m'⟩ = (R.1, G2) ∧ gone ++ G2 = R.2 ∧ KL wr vo gone ∧ (∀ b, vo.ownBlock = some b → w.heap.size ≤ b ∧ ¬ O' b) ∧ Sta wr ps O' (qN [i', o', m']) p ∧ Chg O O' w wr)
  case atStart => exact ⟨i, o, m, [], R.2, O, HG0.out, by simp, HRR.out, rfl, KL.nil _, fun b hb => (by cases hb), HH.out, Chg.refl _ _⟩
  case round =>
    clear HRR HG0 HH
    obtain ⟨i', o', m', gone, G2, O', hg, hgl, hsh, hgo, hko, hoo, hst, hch⟩ := hrel
    have hxw := hch.blk HXO.out HX.out
    have c0 := hxw.cell 0
    have c1 := hxw.cell 1
    simp only [List.getElem?_cons_zero, List.getElem?_cons_succ] at c0 c1
    have hno := hch.not hxl HXO.out
    have HLI : Hid (∀ t : Int, (t = 0 ∨ t = 2) → Calls Try.prog 128 #[P0 ps, .int .i64 t] wr.drew fun e w' => e = .returned (.int .i64 (if t = 0 then i'.length else m'.length : Nat)) ∧ wr.drew = w') := Go.Lib.hid (fun t ht => by
      rcases ht with rfl | rfl
      · exact len_k 0 wr.drew (by simp) (hst.keep (Below.refl _ _).drew)
      · exact len_k 2 wr.drew (by simp) (hst.keep (Below.refl _ _).drew))
    have HS0 : Hid (wr.drew.cell? ⟨px, 0, none⟩ = some (P0 ps)) := Go.Lib.hid c0
    have HST := Go.Lib.hid hst
    have HCH := Go.Lib.hid hch
    have HXW := Go.Lib.hid hxw
    have HNO := Go.Lib.hid hno
    have HKO := Go.Lib.hid hko
    have HOO := Go.Lib.hid hoo
    have HG := Go.Lib.hid hg
    have HGL := Go.Lib.hid hgl
    have hib : i'.length < 100000 := by omega
    have hmb : m'.length < 100000 := by omega
    have hsum : (i'.length : Int) + m'.length = gk := by omega
    have hgk : (gk : Int) < 100000 := by omega
    have HSH := Go.Lib.hid hsh
    have HGO := Go.Lib.hid hgo
    clear hst hch hxw hno hko hoo hg hsh hgo
    go_wp2_with fail
    go_region_held3 (fun W' => W'.cell? ⟨px, 0, none⟩ = some (P0 ps))
      (first | exact HS0.out)
      (first | (go_at_call 128; refine (HLI.out _ (by first | exact .inl rfl | exact .inr rfl)).mono ?_; rintro e w1 ⟨rfl, rfl⟩))
    obtain ⟨wd, hwd⟩ : ∃ wd, wd = wr.drew := ⟨_, rfl⟩
    have BD : Below wr.heap.size wr wd := by rw [hwd]; exact (Below.refl _ _).drew
    rw [← hwd]
    have HSD := Go.Lib.hid (HST.out.keep BD)
    have HCD := Go.Lib.hid (HCH.out.below BD)
    have HXD := Go.Lib.hid (HXW.out.keep BD)
    have HKD := Go.Lib.hid (HKO.out.keep BD)
    have d0 := HXD.out.cell 0
    have d1 := HXD.out.cell 1
    simp only [List.getElem?_cons_zero, List.getElem?_cons_succ] at d0 d1
    clear c0 c1 hwd BD HST HCH HXW HLI HS0 HKO
    by_cases hlt : n < gk
    · obtain ⟨j, rfl⟩ : ∃ j, gk = j + 1 := ⟨gk - 1, by omega⟩
      have hgn : gone.length < 50000 := by omega
      have hq := HSD.out.qok
      have hcmp : ¬ ((i'.length : Int) + m'.length ≤ n) := by omega
      have hsh := HSH.out
      obtain ⟨n1, n2, n3, n4, n5⟩ := nd_three hq
      rcases recl_cases c i' o' m' (by have := HG.out; omega) with ⟨i2, x, rfl, hcond, er⟩ | ⟨m2, x, rfl, hcond, er⟩
      · obtain ⟨hk0, hk1⟩ := ks_three hq (k := x) (.inl (by simp))
        have hkin : kinT c = max (c / 4) 1 := rfl
        have hm : (max (c / 4) 1 < (((i2 ++ [x]).length : Nat) : Int)) ∨ (¬ (max (c / 4) 1 < (((i2 ++ [x]).length : Nat) : Int)) ∧ m'.length = 0) := by
          rw [hkin] at hcond
          by_cases h : max (c / 4) 1 < (((i2 ++ [x]).length : Nat) : Int)
          · exact .inl h
          · rcases hcond with h' | h'
            · exact absurd h' h
            · exact .inr ⟨h, by rw [h']; rfl⟩
        rw [shrT_go n j ⟨c, i2 ++ [x], o', m'⟩ (by show ¬ (((i2 ++ [x]).length : Int) + m'.length ≤ n); omega), er] at hsh
        injection hsh with e1 e2
        simp only at e1 e2
        have HE1 := Go.Lib.hid e1
        have HE2 : Hid (gone ++ [x] ++ (shrT n j ⟨c, i2, (x :: wo o' x).take (c / 2).toNat, m'⟩).2 = R.2) := by
          rw [← HGO.out, ← e2]
          simp [Hid]
        have HBK := Go.Lib.hid (back_k 0 (A := i2) (x := x) wd (by simp) (by simp) HSD.out)
        obtain ⟨hxo', hxm⟩ := n4 x (by simp)
        have hmv : (([i2 ++ [x], o', m'].map (fun L => wo L x)).set 1 (x :: ([i2 ++ [x], o', m'].map (fun L => wo L x)).getD 1 [])) = [i2, x :: wo o' x, m'] := by
          simp only [List.map_cons, List.map_nil, List.set_cons_succ, List.set_cons_zero, List.getD_cons_succ, List.getD_cons_zero]
          rw [wo_id hxm, wo_last n1]
        have HMV := Go.Lib.hid (fun w' (h : Sta w' ps O' (qN [i2 ++ [x], o', m']) p) => by
          have h' := move_k 1 x w' hk0 hk1 (by simp) (by simp) h
          rw [hmv] at h'
          exact h')
        have HFG := Go.Lib.hid (fun w' O2 (hx : Blk w' px [P0 ps, .int .i64 c] 121) (hn : ¬ O2 px) (h : Sta w' ps O2 (qN [i2, x :: wo o' x, m']) p) => tforget_any px c i2 (x :: wo o' x) m' w' ⟨by omega, hc1⟩ hx hn h)
        have HJ : Hid (i2.length + m'.length = j) := Go.Lib.hid (by have := HG.out; simp at this; omega)
        clear hq n1 n2 n3 n4 n5 hcond hkin hmv hxo' hxm er e1 e2 hsum hcmp
        have hil : (i2 ++ [x]).length = i2.length + 1 := by simp
        rw [hil] at hm hib ⊢
        have hcmp : n < (i2.length : Int) + 1 + m'.length := by have := HJ.out; omega
        clear hgk hgl
        by_cases hk : c / 4 < 1 <;> rcases hm with hm | ⟨hm, hm0⟩
        all_goals
          first
          | (have hq : (i2.length : Int) + 1 ≤ 1 := by omega); clear hm
          | (have hq : (i2.length : Int) + 1 ≤ c / 4 := by omega); clear hm
          | (have hq : 1 < (i2.length : Int) + 1 := by omega); (have hq' : c / 4 < (i2.length : Int) + 1 := by omega); clear hm
          go_wp2_with fail
          any_goals (first | (exfalso; omega) | skip)
          refine HBK.out.mono ?_
          rintro e w2 ⟨rfl, hb2⟩
          have x2 := HXD.out.keep hb2
          have e0 := x2.cell 0
          have e1 := x2.cell 1
          simp only [List.getElem?_cons_zero, List.getElem?_cons_succ] at e0 e1
          have HB2 := Go.Lib.hid hb2
          have HX2 := Go.Lib.hid x2
          clear hb2 d0 d1 x2
          go_wp2_with fail
          refine (HMV.out _ (HSD.out.keep HB2.out)).mono ?_
          rintro e w5 ⟨rfl, O5, hst5, hch5⟩
          have HX5 := Go.Lib.hid (hch5.blk HNO.out HX2.out)
          have HN5 := Go.Lib.hid (hch5.not HX2.out.lt HNO.out)
          have HST5 := Go.Lib.hid hst5
          have HCH5 := Go.Lib.hid ((Chg.of_below HB2.out).trans hch5)
          clear hst5 hch5 e0 e1
          go_wp2_with fail
          refine (HFG.out _ _ HX5.out HN5.out HST5.out).mono ?_
          rintro e w3 ⟨rfl, O2, hst3, hch3⟩
          have HST3 := Go.Lib.hid hst3
          have HCH4 := Go.Lib.hid (HCH5.out.trans hch3)
          have HK3 : Hid (KL w3 u5 gone) := Go.Lib.hid (Row.frame HKD.out HCH4.out.fr (fun b hb => (HOO.out b hb).2))
          clear hst3 hch3
          go_wp2_with (at_builtin; refine wpList_append_row _ rfl (.tmp 75) (.tmp 77) 26 rfl 31 (.int .u64 0) 1 8 Try.underlying26 u64_info rfl (by decide) _ _ _ rfl (Row.keep HK3.out ((Below.refl _ _).alloc (Nat.le_refl _) _)) ⟨w3.heap.size, 0, none⟩ 1 1 [.int .u64 x] rfl (by decide) rfl ?c1 ?c2 ?b1 ?b2 ?next)
          case c1 => intro i u hu; match i, hu with | 0, hu => simp at hu; subst hu; simp [Addr.add]
          case c2 => intro u hu; simp at hu; subst hu; rfl
          case b1 => unfold maxLen; omega
          case b2 => omega
          case next =>
            intro g' cap' w4 hr4 hf4 hg4
            have hno : ∀ b, u5.ownBlock = some b → b < wd.heap.size := fun b hb => (Row.lt HKD.out hb).1
            have A3 := (Below.refl w3.heap.size w3).alloc (Nat.le_refl _) (.cells #[.int .u64 x] 31)
            have F4 : Fr (fun b => u5.ownBlock = some b) w3 w4 := (Fr.of_below A3).trans hf4 (fun i hi => .inl hi)
            have hu2 : ∀ b, u5.ownBlock = some b → ¬ O2 b := fun b hb => HCH4.out.not (hno b hb) (HOO.out b hb).2
            have S4 := HST3.out.frame F4 (fun k hk hb => hu2 k hb hk)
            have sz1 := HCD.out.fr.size
            have sz2 := HCH4.out.fr.size
            have C4 : Chg O O2 w w4 := by
              refine ⟨?_, (HCD.out.trans HCH4.out).own⟩
              refine (HCD.out.trans HCH4.out).fr.trans F4 (fun i hi => .inr ?_)
              exact (HOO.out i hi).1
            have K4 : KL w4 (.slice (some ⟨g', 0, none⟩) (gone.length + 1) cap') (gone ++ [x]) := by
              unfold KL
              rw [List.map_append, List.length_append]
              exact hr4
            have O4 : ∀ b, (Value.slice (some ⟨g', 0, none⟩) (gone.length + 1) cap').ownBlock = some b → w.heap.size ≤ b ∧ ¬ O2 b := by
              intro b hb
              have e : g' = b := by simpa [Value.ownBlock] using hb
              subst e
              rcases hg4 with h | h
              · exact ⟨(HOO.out _ h).1, hu2 _ h⟩
              · exact ⟨by omega, fun ho => by have := HST3.out.lt ho; omega⟩
            have HS4 := Go.Lib.hid S4
            have HC4 := Go.Lib.hid C4
            have HK4 := Go.Lib.hid K4
            have HO4 := Go.Lib.hid O4
            clear hno A3 F4 hu2 S4 C4 K4 O4 hr4 hf4 hg4
            go_wp2_with fail
            go_roundg j
            case rel => exact ⟨i2, (x :: wo o' x).take (c / 2).toNat, m', gone ++ [x], (shrT n j ⟨c, i2, (x :: wo o' x).take (c / 2).toNat, m'⟩).2, O2, HJ.out, by have := HGL.out; simp; omega, by rw [← HE1.out], HE2.out, HK4.out, HO4.out, HS4.out, HC4.out⟩
            case measure => omega
      · obtain ⟨hk0, hk1⟩ := ks_three hq (k := x) (.inr (.inr (by simp)))
        have hkin : kinT c = max (c / 4) 1 := rfl
        rw [hkin] at hcond
        rw [shrT_go n j ⟨c, i', o', m2 ++ [x]⟩ (by show ¬ ((i'.length : Int) + (m2 ++ [x]).length ≤ n); omega), er] at hsh
        injection hsh with e1 e2
        simp only at e1 e2
        have HE1 := Go.Lib.hid e1
        have HE2 : Hid (gone ++ [x] ++ (shrT n j ⟨c, i', o', m2⟩).2 = R.2) := by
          rw [← HGO.out, ← e2]
          simp [Hid]
        have HBK := Go.Lib.hid (back_k 2 (A := m2) (x := x) wd (by simp) (by simp) HSD.out)
        have hxi : x ∉ i' := fun h => (n4 x h).2 (by simp)
        have hxo' : x ∉ o' := fun h => n5 x h (by simp)
        have hmv : [i', o', m2 ++ [x]].map (fun L => wo L x) = [i', o', m2] := by
          simp only [List.map_cons, List.map_nil]
          rw [wo_id hxi, wo_id hxo', wo_last n3]
        have HMV := Go.Lib.hid (fun w' (h : Sta w' ps O' (qN [i', o', m2 ++ [x]]) p) => by
          have h' := remove_k x w' hk0 hk1 h
          rw [hmv] at h'
          exact h')
        have HJ : Hid (i'.length + m2.length = j) := Go.Lib.hid (by have := HG.out; simp at this; omega)
        have hil : (m2 ++ [x]).length = m2.length + 1 := by simp
        rw [hil] at hmb ⊢
        clear hcmp
        have hcmp : n < (i'.length : Int) + (m2.length + 1) := by have := HJ.out; omega
        clear hq n1 n2 n3 n4 n5 hkin hmv hxo' hxi er e1 e2 hsum hil hgk hgl
        by_cases hk : c / 4 < 1
        all_goals
          first
          | (have hq : (i'.length : Int) ≤ 1 := by omega); clear hcond
          | (have hq : (i'.length : Int) ≤ c / 4 := by omega); clear hcond
          go_wp2_with fail
          any_goals (first | (exfalso; omega) | skip)
          refine HBK.out.mono ?_
          rintro e w2 ⟨rfl, hb2⟩
          have x2 := HXD.out.keep hb2
          have e0 := x2.cell 0
          have e1 := x2.cell 1
          simp only [List.getElem?_cons_zero, List.getElem?_cons_succ] at e0 e1
          have HB2 := Go.Lib.hid hb2
          clear hb2 d0 d1 x2
          go_wp2_with fail
          refine (HMV.out _ (HSD.out.keep HB2.out)).mono ?_
          rintro e w3 ⟨rfl, O2, hst3, hch3⟩
          have HST3 := Go.Lib.hid hst3
          have HCH4 := Go.Lib.hid ((Chg.of_below HB2.out).trans hch3)
          have HK3 : Hid (KL w3 u5 gone) := Go.Lib.hid (Row.frame HKD.out HCH4.out.fr (fun b hb => (HOO.out b hb).2))
          clear hst3 hch3 e0 e1
          go_wp2_with (at_builtin; refine wpList_append_row _ rfl (.tmp 36) (.tmp 38) 26 rfl 31 (.int .u64 0) 1 8 Try.underlying26 u64_info rfl (by decide) _ _ _ rfl (Row.keep HK3.out ((Below.refl _ _).alloc (Nat.le_refl _) _)) ⟨w3.heap.size, 0, none⟩ 1 1 [.int .u64 x] rfl (by decide) rfl ?c1 ?c2 ?b1 ?b2 ?next)
          case c1 => intro i u hu; match i, hu with | 0, hu => simp at hu; subst hu; simp [Addr.add]
          case c2 => intro u hu; simp at hu; subst hu; rfl
          case b1 => unfold maxLen; omega
          case b2 => omega
          case next =>
            intro g' cap' w4 hr4 hf4 hg4
            have hno : ∀ b, u5.ownBlock = some b → b < wd.heap.size := fun b hb => (Row.lt HKD.out hb).1
            have A3 := (Below.refl w3.heap.size w3).alloc (Nat.le_refl _) (.cells #[.int .u64 x] 31)
            have F4 : Fr (fun b => u5.ownBlock = some b) w3 w4 := (Fr.of_below A3).trans hf4 (fun i hi => .inl hi)
            have hu2 : ∀ b, u5.ownBlock = some b → ¬ O2 b := fun b hb => HCH4.out.not (hno b hb) (HOO.out b hb).2
            have S4 := HST3.out.frame F4 (fun k hk hb => hu2 k hb hk)
            have sz1 := HCD.out.fr.size
            have sz2 := HCH4.out.fr.size
            have C4 : Chg O O2 w w4 := by
              refine ⟨?_, (HCD.out.trans HCH4.out).own⟩
              refine (HCD.out.trans HCH4.out).fr.trans F4 (fun i hi => .inr ?_)
              exact (HOO.out i hi).1
            have K4 : KL w4 (.slice (some ⟨g', 0, none⟩) (gone.length + 1) cap') (gone ++ [x]) := by
              unfold KL
              rw [List.map_append, List.length_append]
              exact hr4
            have O4 : ∀ b, (Value.slice (some ⟨g', 0, none⟩) (gone.length + 1) cap').ownBlock = some b → w.heap.size ≤ b ∧ ¬ O2 b := by
              intro b hb
              have e : g' = b := by simpa [Value.ownBlock] using hb
              subst e
              rcases hg4 with h | h
              · exact ⟨(HOO.out _ h).1, hu2 _ h⟩
              · exact ⟨by omega, fun ho => by have := HST3.out.lt ho; omega⟩
            have HS4 := Go.Lib.hid S4
            have HC4 := Go.Lib.hid C4
            have HK4 := Go.Lib.hid K4
            have HO4 := Go.Lib.hid O4
            clear hno A3 F4 hu2 S4 C4 K4 O4 hr4 hf4 hg4
            go_wp2_with fail
            go_roundg j
            case rel => exact ⟨i', o', m2, gone ++ [x], (shrT n j ⟨c, i', o', m2⟩).2, O2, HJ.out, by have := HGL.out; simp; omega, by rw [← HE1.out], HE2.out, HK4.out, HO4.out, HS4.out, HC4.out⟩
            case measure => omega
    · have hse := shrT_end n gk c i' o' m' (by have := HG.out; omega)
      have hsh := HSH.out
      rw [hsh] at hse
      injection hse with e1 e2
      have HE1 := Go.Lib.hid e1
      have HE2 : Hid (gone = R.2) := by
        have hgo := HGO.out
        rw [e2, List.append_nil] at hgo
        exact hgo
      have hle : (i'.length : Int) + m'.length ≤ n := by omega
      clear hsh e1 e2 hlt hsum hgk hgl
      go_wp2_with fail
      rw [Exit.noGoto_ret]
      go_ret
      refine ⟨_, O', rfl, ?_, HCD.out, ?_, HOO.out⟩
      · rw [HE1.out]; exact HSD.out
      · rw [← HE2.out]; exact HKD.out
end
end Go.Proofs.Ytlakojncjldpbaa
