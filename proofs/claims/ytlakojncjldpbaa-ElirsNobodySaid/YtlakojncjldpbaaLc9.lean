/- The cache of low inter-reference recency: Has, Touch, Drop, New, Resize. -/
import Derived.Test.YtlakojncjldpbaaLc8
namespace Go.Proofs.Ytlakojncjldpbaa
open Go.RowKit Hop
set_option linter.unusedVariables false
set_option linter.unusedSimpArgs false
set_option maxRecDepth 100000
/-- A list that is no part of the cache, made since. -/
def KLO (w0 w : World) (v : Value) (L : List Int) (O : Nat → Prop) : Prop := KL w v L ∧ ∀ b, v.ownBlock = some b → w0.heap.size ≤ b ∧ ¬ O b
theorem KLO.chg {w0 w w' : World} {v : Value} {L : List Int} {O O' : Nat → Prop} (h : KLO w0 w v L O) (c : Chg O O' w w') : KLO w0 w' v L O' :=
  ⟨Row.frame h.1 c.fr (fun b hb => (h.2 b hb).2), fun b hb => ⟨(h.2 b hb).1, c.not (Row.lt h.1 hb).1 (h.2 b hb).2⟩⟩
theorem LS.ok.len {s : LS} (h : s.ok) : (s.s.length : Int) ≤ 2 * s.c := by
  have h1 := h.st.len
  have h2 := h.gn
  have h3 := h.al
  omega
theorem touch_T {s : LS} (h : s.ok) {k : Int} (hs : k ∈ keysL s.s) (hk : k ∈ allL s) : (manyL (⟨k, 2⟩ :: woL s.s k) 2 : Int) + (wo s.q k).length ≤ s.c := by
  have st := h.st
  have h4 := h.al
  rw [st.allNd] at hk
  have m2 := many_top s.s k 2 2 st.ns
  have hw := wo_len s.q k
  by_cases e : kindOf s.s k = 2
  · simp [hs, e] at m2
    omega
  · have := wo_len_mem (hk.resolve_right e)
    simp [e] at m2
    omega
section
variable {px : Nat} {O : Nat → Prop} {s : LS} {p1 p2 : Nat}
set_option maxHeartbeats 1600000 in
theorem has_ca (k : Int) (w : World) (hk0 : 0 ≤ k) (hk1 : k < 18446744073709551616) (H : Lca w px O s p1 p2) :
    Calls Try.prog 91 #[P0 px, .int .u64 k] w fun e w' => e = .returned (.bool (decide (k ∈ allL s))) ∧ Below w.heap.size w w' := by
  have nd := Lcr.nd H
  have ha : decide (k ∈ allL s) = (decide (k ∈ s.q) || decide (kindOf s.s k = 2)) := by
    unfold allL
    rw [← Bool.decide_or]
    refine decide_eq_decide.2 ?_
    rw [List.mem_append, hots_mem nd]
    exact Or.comm
  rw [ha]
  clear ha
  obtain ⟨ps, pq, O1, O2, H, rfl⟩ := H
  have HFQ := Go.Lib.hid (find_q k w hk0 hk1 H.qu)
  have HFL := Go.Lib.hid (fun w' (hb : Below w.heap.size w w') => flag_l k w' hk0 hk1 (H.st.keep hb))
  have HH := Go.Lib.hid H
  have c1 := H.x.cell 1
  simp only [List.getElem?_cons_zero, List.getElem?_cons_succ] at c1
  clear H nd
  generalize kindOf s.s k = kd at *
  by_cases hq : k ∈ s.q
  · rw [decide_eq_true hq] at HFQ ⊢
    clear hq
    go_enter Try.func91, Try.ntmps91
    go_wp2_with fail
    refine HFQ.out.mono ?_
    rintro e w1 ⟨rfl, hb1⟩
    have HB1 := Go.Lib.hid hb1
    clear hb1 c1
    go_wp2_with fail
    go_ret
    exact ⟨rfl, HB1.out⟩
  · rw [decide_eq_false hq] at HFQ ⊢
    clear hq
    go_enter Try.func91, Try.ntmps91
    go_wp2_with fail
    refine HFQ.out.mono ?_
    rintro e w1 ⟨rfl, hb1⟩
    have HB1 := Go.Lib.hid hb1
    have d0 := (HH.out.x.keep hb1).cell 0
    simp only [List.getElem?_cons_zero, List.getElem?_cons_succ] at d0
    clear hb1 c1
    go_wp2_with fail
    refine (HFL.out w1 HB1.out).mono ?_
    rintro e w2 ⟨rfl, hb2⟩
    have HB2 := Go.Lib.hid (HB1.out.trans (hb2.mono HB1.out.size))
    clear hb2 d0
    go_wp2_with fail
    go_ret
    refine ⟨?_, HB2.out⟩
    by_cases h : kd = 2
    · subst h; rfl
    · have : (kd == 2) = false := by rw [beq_eq_false_iff_ne]; exact h
      simp [this, h]
set_option maxHeartbeats 1600000 in
theorem ghosts_ca (w : World) (H : Lca w px O s p1 p2) : Calls Try.prog 92 #[P0 px] w fun e w' => e = .returned (.int .i64 (manyL s.s 0)) ∧ w = w' := by
  obtain ⟨ps, pq, O1, O2, H, rfl⟩ := H
  have c2 := H.x.cell 2
  simp only [List.getElem?_cons_zero, List.getElem?_cons_succ] at c2
  have lx := H.x.lt
  clear H
  go_enter Try.func92, Try.ntmps92
  go_wp2_with fail
  go_ret
  exact ⟨rfl, rfl⟩
set_option maxHeartbeats 1600000 in
theorem touch_ca (k : Int) (w : World) (hk0 : 0 ≤ k) (hk1 : k < 18446744073709551616) (h : s.ok) (hp : p1 < 1000 ∧ p2 < 1000) (H : Lca w px O s p1 p2) :
    Calls Try.prog 87 #[P0 px, .int .u64 k] w fun e w' => e = .returned (.tuple #[]) ∧ ∃ O' p1' p2', Lca w' px O' (touchL s k) p1' p2' ∧ ((p1' : Int) ≤ max (p1 : Int) (2 * s.c + 1) ∧ (p2' : Int) ≤ max (p2 : Int) s.c) ∧ Chg O O' w w' := by
  have hln := h.len
  have HHA := Go.Lib.hid (has_ca k w hk0 hk1 H)
  have HH := Go.Lib.hid H
  have HOK := Go.Lib.hid h
  have HHI := Go.Lib.hid h.hi
  have HP := Go.Lib.hid hp
  have hwl := woL_len s.s k
  by_cases ha : k ∈ allL s
  · rw [decide_eq_true ha] at HHA
    have HA := Go.Lib.hid ha
    obtain ⟨ps, pq, O1, O2, H', hO⟩ := H
    have HFD := Go.Lib.hid (fun w' (hb : Below w.heap.size w w') => find_l k w' hk0 hk1 (H'.st.keep hb))
    have HX := Go.Lib.hid H'.x
    clear H' hO ha
    by_cases hs : k ∈ keysL s.s
    · rw [decide_eq_true hs] at HFD
      have e0 : touchL s k = pruneS (coolF ⟨s.c, ⟨k, 2⟩ :: woL s.s k, wo s.q k⟩) := by unfold touchL; rw [if_pos HA.out, if_pos hs]
      rw [e0]
      have hT := touch_T h hs HA.out
      have hst := h.st.topHot k
      have HTP := Go.Lib.hid (fun w' (hb : Below w.heap.size w w') => top_ca (w := w') k 2 (.inr rfl) hk0 hk1 (by have := HP.out; omega) HOK.out.st.ks (HH.out.keep hb))
      have HRM := Go.Lib.hid (fun w' (pq : Nat) (O2' : Nat → Prop) (h : Sta w' pq O2' (qN [s.q]) p2) => remove_q k w' hk0 hk1 h)
      have HCO := Go.Lib.hid (fun (w' : World) (O' : Nat → Prop) (p1' : Nat) (h' : Lca w' px O' ⟨s.c, ⟨k, 2⟩ :: woL s.s k, wo s.q k⟩ p1' p2) => cool_ca w' hst ⟨h.lo, by have := h.hi; show s.c ≤ 199; omega⟩ ⟨by have := HP.out; omega, by simp only; have := h.hi; omega⟩ h')
      have hcd := hst.coolD h.lo
      have HPR := Go.Lib.hid (fun (w' : World) (O' : Nat → Prop) (p1' p2' : Nat) (h' : Lca w' px O' (coolF ⟨s.c, ⟨k, 2⟩ :: woL s.s k, wo s.q k⟩) p1' p2') => prune_ca w' hcd.st.ks h')
      have HTT : Hid ((manyL (⟨k, 2⟩ :: woL s.s k) 2 : Int) + (wo s.q k).length ≤ s.c) := Go.Lib.hid hT
      clear hT hst hcd e0 hs h hp
      go_enter Try.func87, Try.ntmps87
      go_wp2_with fail
      refine HHA.out.mono ?_
      rintro e w1 ⟨rfl, hb1⟩
      have HB1 := Go.Lib.hid hb1
      have d0 := (HX.out.keep hb1).cell 0
      simp only [List.getElem?_cons_zero, List.getElem?_cons_succ] at d0
      clear hb1
      go_wp2_with fail
      refine (HFD.out w1 HB1.out).mono ?_
      rintro e w2 ⟨rfl, hb2⟩
      have HB2 := Go.Lib.hid (HB1.out.trans (hb2.mono HB1.out.size))
      clear hb2 d0
      go_wp2_with fail
      refine (HTP.out w2 HB2.out).mono ?_
      rintro e w3 ⟨rfl, O3, h3, c3⟩
      obtain ⟨ps3, pq3, O31, O32, g3, rfl⟩ := h3
      have d1 := g3.x.cell 1
      simp only [List.getElem?_cons_zero, List.getElem?_cons_succ] at d1
      have HG3 := Go.Lib.hid g3
      have HC3 := Go.Lib.hid ((Chg.of_below HB2.out).trans c3)
      clear g3 c3
      go_wp2_with fail
      refine (HRM.out w3 pq3 O32 HG3.out.qu).mono ?_
      rintro e w4 ⟨⟨b, rfl⟩, O4, h4, c4⟩
      obtain ⟨g1, g2⟩ := HG3.out.que h4 c4
      have HH4 : Hid (Lca w4 px (own2 px O31 O4) ⟨s.c, ⟨k, 2⟩ :: woL s.s k, wo s.q k⟩ _ p2) := Go.Lib.hid ⟨ps3, pq3, O31, O4, g1, rfl⟩
      have HC4 := Go.Lib.hid (HC3.out.trans g2)
      clear h4 c4 g1 g2 d1
      go_wp2_with fail
      refine (HCO.out w4 _ _ HH4.out).mono ?_
      rintro e w5 ⟨rfl, O5, p25, h5, hp5, c5⟩
      have HH5 := Go.Lib.hid h5
      have HC5 := Go.Lib.hid (HC4.out.trans c5)
      have HP5 := Go.Lib.hid hp5
      clear h5 c5 hp5
      go_wp2_with fail
      refine (HPR.out w5 _ _ _ HH5.out).mono ?_
      rintro e w6 ⟨rfl, O6, h6, c6⟩
      have HH6 := Go.Lib.hid h6
      have HC6 := Go.Lib.hid (HC5.out.trans c6)
      clear h6 c6
      go_wp2_with fail
      go_end0
      exact ⟨rfl, O6, _, p25, HH6.out, ⟨by omega, by have q := HP5.out; have := HTT.out; (try simp only at q); omega⟩, HC6.out⟩
    · rw [decide_eq_false hs] at HFD
      have e0 : touchL s k = pruneS (behindS (topS s k 1) k) := by unfold touchL; rw [if_pos HA.out, if_neg hs]
      rw [e0]
      have hst := h.st.topCold k
      have hq : (wo s.q k).length + 1 ≤ s.q.length := by
        have := (h.st.allNd (k := k)).1 HA.out
        exact wo_len_mem (this.resolve_right (by rw [kindOf_not hs]; decide))
      have hal := h.al
      have HTP := Go.Lib.hid (fun w' (hb : Below w.heap.size w w') => top_ca (w := w') k 1 (.inl rfl) hk0 hk1 (by have := HP.out; omega) HOK.out.st.ks (HH.out.keep hb))
      have HBH := Go.Lib.hid (fun (w' : World) (O' : Nat → Prop) (p1' : Nat) (h' : Lca w' px O' ⟨s.c, ⟨k, 1⟩ :: woL s.s k, s.q⟩ p1' p2) => behind_ca (w := w') k hk0 hk1 (by have := HP.out; omega) h')
      have HPR := Go.Lib.hid (fun (w' : World) (O' : Nat → Prop) (p1' p2' : Nat) (h' : Lca w' px O' (behindS (topS s k 1) k) p1' p2') => prune_ca w' hst.ks h')
      have HQ : Hid (((wo s.q k).length : Int) + 1 ≤ s.c) := Go.Lib.hid (by omega)
      clear hst e0 hs h hp hq hal
      go_enter Try.func87, Try.ntmps87
      go_wp2_with fail
      refine HHA.out.mono ?_
      rintro e w1 ⟨rfl, hb1⟩
      have HB1 := Go.Lib.hid hb1
      have d0 := (HX.out.keep hb1).cell 0
      simp only [List.getElem?_cons_zero, List.getElem?_cons_succ] at d0
      clear hb1
      go_wp2_with fail
      refine (HFD.out w1 HB1.out).mono ?_
      rintro e w2 ⟨rfl, hb2⟩
      have HB2 := Go.Lib.hid (HB1.out.trans (hb2.mono HB1.out.size))
      clear hb2 d0
      go_wp2_with fail
      refine (HTP.out w2 HB2.out).mono ?_
      rintro e w3 ⟨rfl, O3, h3, c3⟩
      have HH3 := Go.Lib.hid h3
      have HC3 := Go.Lib.hid ((Chg.of_below HB2.out).trans c3)
      clear h3 c3
      go_wp2_with fail
      refine (HBH.out w3 _ _ HH3.out).mono ?_
      rintro e w5 ⟨rfl, O5, h5, c5⟩
      have HH5 := Go.Lib.hid h5
      have HC5 := Go.Lib.hid (HC3.out.trans c5)
      clear h5 c5
      go_wp2_with fail
      refine (HPR.out w5 _ _ _ HH5.out).mono ?_
      rintro e w6 ⟨rfl, O6, h6, c6⟩
      have HH6 := Go.Lib.hid h6
      have HC6 := Go.Lib.hid (HC5.out.trans c6)
      clear h6 c6
      go_wp2_with fail
      go_end0
      exact ⟨rfl, O6, _, _, HH6.out, ⟨by omega, by have := HQ.out; omega⟩, HC6.out⟩
  · rw [decide_eq_false ha] at HHA
    have e0 : touchL s k = s := by unfold touchL; rw [if_neg ha]
    rw [e0]
    clear ha e0 h hp H
    go_enter Try.func87, Try.ntmps87
    go_wp2_with fail
    refine HHA.out.mono ?_
    rintro e w1 ⟨rfl, hb1⟩
    have HB1 := Go.Lib.hid hb1
    clear hb1
    go_wp2_with fail
    first | go_end0 | (refine bodyPost_ret (results_none rfl _ _ _) rfl ?_)
    exact ⟨rfl, O, p1, p2, HH.out.keep HB1.out, ⟨by omega, by omega⟩, Chg.of_below HB1.out⟩
set_option maxHeartbeats 1600000 in
theorem drop_ca (k : Int) (w : World) (hk0 : 0 ≤ k) (hk1 : k < 18446744073709551616) (h : s.ok) (H : Lca w px O s p1 p2) :
    Calls Try.prog 88 #[P0 px, .int .u64 k] w fun e w' => e = .returned (.tuple #[]) ∧ ∃ O', Lca w' px O' (dropL s k) p1 p2 ∧ Chg O O' w w' := by
  have HTK := Go.Lib.hid (take_ca k hk0 hk1 h.st.ks H)
  have HRM := Go.Lib.hid (fun w' (pq : Nat) (O2' : Nat → Prop) (h : Sta w' pq O2' (qN [s.q]) p2) => remove_q k w' hk0 hk1 h)
  have hst := h.st.drop k s.c
  have HPR := Go.Lib.hid (fun (w' : World) (O' : Nat → Prop) (h' : Lca w' px O' ⟨s.c, woL s.s k, wo s.q k⟩ p1 p2) => prune_ca w' hst.ks h')
  clear h H hst
  go_enter Try.func88, Try.ntmps88
  go_wp2_with fail
  refine HTK.out.mono ?_
  rintro e w3 ⟨rfl, O3, h3, c3⟩
  obtain ⟨ps3, pq3, O31, O32, g3, rfl⟩ := h3
  have d1 := g3.x.cell 1
  simp only [List.getElem?_cons_zero, List.getElem?_cons_succ] at d1
  have HG3 := Go.Lib.hid g3
  have HC3 := Go.Lib.hid c3
  clear g3 c3
  go_wp2_with fail
  refine (HRM.out w3 pq3 O32 HG3.out.qu).mono ?_
  rintro e w4 ⟨⟨b, rfl⟩, O4, h4, c4⟩
  obtain ⟨g1, g2⟩ := HG3.out.que h4 c4
  have HH4 : Hid (Lca w4 px (own2 px O31 O4) ⟨s.c, woL s.s k, wo s.q k⟩ p1 p2) := Go.Lib.hid ⟨ps3, pq3, O31, O4, g1, rfl⟩
  have HC4 := Go.Lib.hid (HC3.out.trans g2)
  clear h4 c4 g1 g2 d1
  go_wp2_with fail
  refine (HPR.out w4 _ HH4.out).mono ?_
  rintro e w6 ⟨rfl, O6, h6, c6⟩
  have HH6 := Go.Lib.hid h6
  have HC6 := Go.Lib.hid (HC4.out.trans c6)
  clear h6 c6
  go_wp2_with fail
  go_end0
  exact ⟨rfl, O6, HH6.out, HC6.out⟩
end
theorem liS_c (c : Int) (v1 v2 : Value) (w : World) : (Instr.field 88 (.agg #[.int .i64 c, v1, v2]) 0).run Try.prog w = .ok (.int .i64 c) w := by kernel_rfl
set_option maxHeartbeats 800000 in
theorem linew_any (c : Int) (w : World) :
    Calls Try.prog 141 #[.int .i64 c] w fun e w' => e = .returned (.agg #[.int .i64 (capF c), .slice none 0 0, .slice none 0 0]) ∧ Below w.heap.size w w' := by
  have HB := Go.Lib.hid ((Below.refl w.heap.size w).alloc (Nat.le_refl _) (.cells #[.int .i64 (capF c), .slice none 0 0, .slice none 0 0] 88))
  by_cases h1 : c < 1
  · have e : capF c = 1 := by unfold capF; rw [if_pos h1]
    rw [e] at HB ⊢
    clear e
    go_enter Try.func141, Try.ntmps141
    go_wp2_with fail
    all_goals first | (exfalso; omega) | exact bodyPost_ret (v := .agg #[.int .i64 1, .slice none 0 0, .slice none 0 0]) (by simp [results, Try.results141, go_sem]) rfl ⟨rfl, HB.out⟩
  · by_cases h2 : 1048576 < c
    · have e : capF c = 1048576 := by unfold capF; rw [if_neg h1, if_pos h2]
      rw [e] at HB ⊢
      clear e
      go_enter Try.func141, Try.ntmps141
      go_wp2_with fail
      all_goals first | (exfalso; omega) | exact bodyPost_ret (v := .agg #[.int .i64 1048576, .slice none 0 0, .slice none 0 0]) (by simp [results, Try.results141, go_sem]) rfl ⟨rfl, HB.out⟩
    · have e : capF c = c := by unfold capF; rw [if_neg h1, if_neg h2]
      rw [e] at HB ⊢
      clear e
      have hm : min (max c 1) 1048576 = c := by omega
      go_enter Try.func141, Try.ntmps141
      go_wp2_with fail
      all_goals first | (exfalso; omega) | exact bodyPost_ret (v := .agg #[.int .i64 c, .slice none 0 0, .slice none 0 0]) (by simp [results, Try.results141, go_sem]) rfl ⟨rfl, HB.out⟩ | (simp only [hm]; exact bodyPost_ret (v := .agg #[.int .i64 c, .slice none 0 0, .slice none 0 0]) (by simp [results, Try.results141, go_sem]) rfl ⟨rfl, HB.out⟩)
set_option maxHeartbeats 800000 in
theorem lnew_ca (n : Int) (w : World) :
    Calls Try.prog 80 #[.int .i64 n] w fun e w' => ∃ px O', e = .returned (P0 px) ∧ Lca w' px O' ⟨capF n, [], []⟩ 0 0 ∧ (∀ k, O' k → w.heap.size ≤ k) ∧ Below w.heap.size w w' := by
  have f0 := liS_c
  go_enter Try.func80, Try.ntmps80
  go_wp2_with fail
  refine (new_sta 1 w (by omega) (by omega)).mono ?_
  rintro e w1 ⟨ps, rfl, hge, O1, hs1, ho1, hb1⟩
  have HS1 := Go.Lib.hid hs1
  have HO1 := Go.Lib.hid ho1
  have HB1 := Go.Lib.hid hb1
  clear hs1 ho1 hb1
  go_wp2_with fail
  refine (new_sta 1 w1 (by omega) (by omega)).mono ?_
  rintro e w2 ⟨pq, rfl, hge2, O2, hs2, ho2, hb2⟩
  have HS2 := Go.Lib.hid hs2
  have HO2 := Go.Lib.hid ho2
  have HB2 := Go.Lib.hid hb2
  clear hs2 ho2 hb2
  go_wp2_with fail
  refine (linew_any n w2).mono ?_
  rintro e w3 ⟨rfl, hb3⟩
  have HB3 := Go.Lib.hid hb3
  clear hb3
  go_wp2_with fail
  go_ret
  have sz1 := HB1.out.size
  have sz2 := HB2.out.size
  have sz3 := HB3.out.size
  have B2 := HB1.out.trans (HB2.out.mono sz1)
  have B3 := B2.trans (HB3.out.mono (by omega))
  have A := (Below.refl w3.heap.size w3).alloc (Nat.le_refl _) (.cells #[P0 ps, P0 pq, .int .i64 0, .int .i64 0, .int .i64 0, .int .i64 (capF n)] 140)
  have S1 := (HS1.out.keep HB2.out).keep HB3.out
  have S2 := HS2.out.keep HB3.out
  refine ⟨w3.heap.size, _, rfl, ⟨ps, pq, O1, O2, ⟨Blk.new0 w3 [P0 ps, P0 pq, .int .i64 0, .int .i64 0, .int .i64 0, .int .i64 (capF n)] 140, S1.keep A, S2.keep A, fun h => by have := S1.lt h; omega, fun h => by have := S2.lt h; omega, fun k h1 h2 => ?_⟩, rfl⟩, ?_, B3.alloc (by omega) _⟩
  · have q1 := HS1.out.lt h1
    have q2 := HO2.out k h2
    omega
  · rintro k (rfl | hk | hk)
    · omega
    · exact HO1.out k hk
    · have := HO2.out k hk; omega
section
variable {px : Nat} {O : Nat → Prop} {s : LS} {p1 p2 : Nat}
set_option maxHeartbeats 3200000 in
theorem resize_ca (n : Int) (w : World) (hn : 1 ≤ capF n ∧ capF n ≤ 14) (h : s.ok) (hp : p1 < 1000 ∧ p2 < 1000) (H : Lca w px O s p1 p2) :
    Calls Try.prog 90 #[P0 px, .int .i64 n] w fun e w' => ∃ vo O' p2', e = .returned vo ∧ Lca w' px O' (resizeL s n).1 p1 p2' ∧ ((p2' : Int) ≤ max (p2 : Int) s.c) ∧ Chg O O' w w' ∧ KL w' vo (resizeL s n).2 ∧ (∀ b, vo.ownBlock = some b → w.heap.size ≤ b ∧ ¬ O' b) := by
  have nf := liS_c
  have hal := h.al
  have hhi := h.hi
  have st1 := h.st.cap (capF n)
  have C1 := st1.coolD hn.1
  have D1 := C1.st.shrink (n := capF n) (by have := C1.m2; simp only at this ⊢; omega)
  have HCO := Go.Lib.hid (fun (w' : World) (O' : Nat → Prop) (h' : Lca w' px O' ⟨capF n, s.s, s.q⟩ p1 p2) => cool_ca w' st1 ⟨hn.1, by have := hn.2; show capF n ≤ 199; omega⟩ ⟨hp.2, by simp only; omega⟩ h')
  have HSH := Go.Lib.hid (fun (w' : World) (O' : Nat → Prop) (p2' : Nat) (h' : Lca w' px O' (coolF ⟨capF n, s.s, s.q⟩) p1 p2') => shrink_ca (capF n) w' ⟨by omega, by omega⟩ C1.st (by have := C1.m2; simp only at this ⊢; omega) h')
  have hcc : (coolF ⟨capF n, s.s, s.q⟩).c = capF n := C1.c
  have hdc := D1.c
  have er1 : (resizeL s n).1 = forgetS (pruneS (shrinkL (coolF ⟨capF n, s.s, s.q⟩) (capF n)).1) := rfl
  have er2 : (resizeL s n).2 = (shrinkL (coolF ⟨capF n, s.s, s.q⟩) (capF n)).2 := rfl
  rw [er1, er2]
  clear er1 er2
  generalize (shrinkL (coolF ⟨capF n, s.s, s.q⟩) (capF n)).2 = out at *
  generalize (shrinkL (coolF ⟨capF n, s.s, s.q⟩) (capF n)).1 = t at *
  have htc : t.c = capF n := hdc.trans hcc
  have HPR := Go.Lib.hid (fun (w' : World) (O' : Nat → Prop) (p2' : Nat) (h' : Lca w' px O' t p1 p2') => prune_ca w' D1.st.ks h')
  have HFG := Go.Lib.hid (fun (w' : World) (O' : Nat → Prop) (p2' : Nat) (h' : Lca w' px O' (pruneS t) p1 p2') => forget_ca w' D1.st.prune.ks ⟨by show 0 ≤ t.c; omega, by show t.c < 1000000; omega⟩ h')
  have HNW := Go.Lib.hid (fun w' => linew_any n w')
  have HCC := Go.Lib.hid hcc
  have HH := Go.Lib.hid H
  have HAL := Go.Lib.hid hal
  obtain ⟨ps, pq, O1, O2, H', hO⟩ := H
  have c5 := H'.x.cell 5
  have f5 := H'.x.frozen 5
  have lx := H'.x.lt
  simp only [List.getElem?_cons_zero, List.getElem?_cons_succ] at c5
  clear st1 C1 D1 hcc hdc htc h H' hal hp
  generalize hcf : capF n = cf at *
  clear hcf
  go_enter Try.func90, Try.ntmps90
  go_wp2_with fail
  refine (HNW.out _).mono ?_
  rintro e w1 ⟨rfl, hb1⟩
  have hl1 := HH.out.keep hb1
  obtain ⟨ps1, pq1, O11, O21, g1, hO1⟩ := hl1
  have e5 := g1.x.cell 5
  have fe5 := g1.x.frozen 5
  have le := g1.x.lt
  simp only [List.getElem?_cons_zero, List.getElem?_cons_succ] at e5
  have HG1 := Go.Lib.hid g1
  have HB1 := Go.Lib.hid hb1
  have HO1 := Go.Lib.hid hO1
  clear hb1 g1 c5 f5 hO1
  go_wp2_with fail
  obtain ⟨n1, n2⟩ := HG1.out.num 5 (.int .i64 cf) (n0 := manyL s.s 0) (n1 := manyL s.s 1) (n2 := manyL s.s 2) (c := cf) (fun a b => rfl)
  obtain ⟨W2, hW2⟩ : ∃ W2, W2 = w1.setCell ⟨px, 5, none⟩ (.int .i64 cf) := ⟨_, rfl⟩
  rw [← hW2] at n1 n2 ⊢
  have HH2 : Hid (Lca W2 px O ⟨cf, s.s, s.q⟩ p1 p2) := Go.Lib.hid ⟨ps1, pq1, O11, O21, n1, HO1.out⟩
  have HC2 : Hid (Chg O O w W2) := Go.Lib.hid (by
    have q := (Chg.of_below (O := own2 px O11 O21) HB1.out).trans n2
    rw [← HO1.out] at q
    exact q)
  clear n1 n2 hW2 e5 fe5
  refine (HCO.out W2 _ HH2.out).mono ?_
  rintro e w3 ⟨rfl, O3, p23, h3, hp3, c3⟩
  have h3' := h3
  obtain ⟨ps3, pq3, O31, O32, g3, hO3⟩ := h3'
  have d5 := g3.x.cell 5
  simp only [List.getElem?_cons_zero, List.getElem?_cons_succ] at d5
  rw [HCC.out] at d5
  have HH3 := Go.Lib.hid h3
  have HC3 := Go.Lib.hid (HC2.out.trans c3)
  have HP3 := Go.Lib.hid hp3
  clear h3 g3 hO3 c3 hp3
  go_wp2_with fail
  refine (HSH.out w3 _ _ HH3.out).mono ?_
  rintro e w4 ⟨vo, O4, rfl, h4, c4, k4, o4⟩
  have HH4 := Go.Lib.hid h4
  have HC4 := Go.Lib.hid (HC3.out.trans c4)
  have HK4 : Hid (KLO w3 w4 vo out O4) := Go.Lib.hid ⟨k4, o4⟩
  clear h4 c4 k4 o4 d5
  go_wp2_with fail
  refine (HPR.out w4 _ _ HH4.out).mono ?_
  rintro e w5 ⟨rfl, O5, h5, c5⟩
  have HH5 := Go.Lib.hid h5
  have HC5 := Go.Lib.hid (HC4.out.trans c5)
  have HK5 := Go.Lib.hid (HK4.out.chg c5)
  clear h5 c5
  go_wp2_with fail
  refine (HFG.out w5 _ _ HH5.out).mono ?_
  rintro e w6 ⟨rfl, O6, h6, c6⟩
  have HH6 := Go.Lib.hid h6
  have HC6 := Go.Lib.hid (HC5.out.trans c6)
  have HK6 := Go.Lib.hid (HK5.out.chg c6)
  clear h6 c6
  go_wp2_with fail
  go_ret
  have zz := HC3.out.fr.size
  have qq : (p23 : Int) ≤ max (p2 : Int) s.c := by have q := HP3.out; have := HAL.out; (try simp only at q); omega
  first | exact ⟨vo, O6, p23, rfl, HH6.out, qq, HC6.out, HK6.out.1, fun b hb => ⟨Nat.le_trans zz (HK6.out.2 b hb).1, (HK6.out.2 b hb).2⟩⟩ | exact ⟨vo, rfl, O6, p23, HH6.out, qq, HC6.out, HK6.out.1, fun b hb => ⟨Nat.le_trans zz (HK6.out.2 b hb).1, (HK6.out.2 b hb).2⟩⟩
end
end Go.Proofs.Ytlakojncjldpbaa
