/- The cache of low inter-reference recency: Admit. -/
import Derived.Test.YtlakojncjldpbaaLc9
import Derived.Deep.RegionHeld3
namespace Go.Proofs.Ytlakojncjldpbaa
open Go.RowKit Hop
set_option linter.unusedVariables false
set_option linter.unusedSimpArgs false
set_option maxRecDepth 100000
section
variable {px : Nat} {O : Nat → Prop} {s : LS} {p1 p2 : Nat}
set_option maxHeartbeats 6400000 in
theorem admit_ca (k : Int) (w : World) (hk0 : 0 ≤ k) (hk1 : k < 18446744073709551616) (h : s.ok) (hp : p1 < 1000 ∧ p2 < 1000) (H : Lca w px O s p1 p2) :
    Calls Try.prog 89 #[P0 px, .int .u64 k] w fun e w' => ∃ vo O' p1' p2', e = .returned vo ∧ Lca w' px O' (admitL s k).1 p1' p2' ∧ ((p1' : Int) ≤ max (p1 : Int) (2 * s.c + 1) ∧ (p2' : Int) ≤ max (p2 : Int) s.c) ∧ Chg O O' w w' ∧ KL w' vo (admitL s k).2 ∧ (∀ b, vo.ownBlock = some b → w.heap.size ≤ b ∧ ¬ O' b) := by
  have HHA := Go.Lib.hid (has_ca k w hk0 hk1 H)
  have HH := Go.Lib.hid H
  have hln := h.len
  have hhi := h.hi
  have hlo := h.lo
  by_cases ha : k ∈ allL s
  · rw [decide_eq_true ha] at HHA
    have e0 : admitL s k = (s, []) := by unfold admitL; rw [if_pos ha]
    rw [e0]
    have lx := Lcr.lt H (k := px) (by obtain ⟨_, _, _, _, _, rfl⟩ := H; exact .inl rfl)
    clear ha e0 h hp H
    go_enter Try.func89, Try.ntmps89
    go_wp2_with fail
    refine HHA.out.mono ?_
    rintro e w1 ⟨rfl, hb1⟩
    have HB1 := Go.Lib.hid hb1
    clear hb1
    go_wp2_with fail
    go_ret
    first | exact ⟨_, rfl, O, p1, p2, HH.out.keep HB1.out, ⟨by omega, by omega⟩, Chg.of_below HB1.out, KL.nil _, fun b hb => (by cases hb)⟩ | exact ⟨_, O, p1, p2, rfl, HH.out.keep HB1.out, ⟨by omega, by omega⟩, Chg.of_below HB1.out, KL.nil _, fun b hb => (by cases hb)⟩
  · rw [decide_eq_false ha] at HHA
    have D := h.st.shrink h.hr
    have er1 : (admitL s k).1 = forgetS (pruneS (if k ∈ keysL (shrinkL s (s.c - 1)).1.s ∨ (manyL (shrinkL s (s.c - 1)).1.s 2 : Int) < (shrinkL s (s.c - 1)).1.c - 1 then coolF (topS (shrinkL s (s.c - 1)).1 k 2) else behindS (topS (shrinkL s (s.c - 1)).1 k 1) k)) := by unfold admitL; rw [if_neg ha]
    have er2 : (admitL s k).2 = (shrinkL s (s.c - 1)).2 := by unfold admitL; rw [if_neg ha]
    rw [er1, er2]
    have HSH := Go.Lib.hid (fun (w' : World) (hb : Below w.heap.size w w') => shrink_ca (s.c - 1) w' ⟨by omega, by omega⟩ h.st h.hr (HH.out.keep hb))
    have hal := h.al
    generalize hout : (shrinkL s (s.c - 1)).2 = out at *
    generalize ht : (shrinkL s (s.c - 1)).1 = t at *
    have hk2 : kindOf t.s k ≠ 2 := fun e => ha (h.st.allNd.2 (.inr (D.hot k e)))
    have hkq : k ∉ t.q := fun e => ha (h.st.allNd.2 (.inl (D.sub k e)))
    have htc := D.c
    have hta := D.al
    have htl := D.len
    have hwl := woL_len t.s k
    have hks := D.st.ks
    have hhot := D.st.topHot k
    rw [wo_id hkq] at hhot
    have hcold := D.st.topCold k
    have m2 := many_top t.s k 2 2 D.st.ns
    simp [hk2] at m2
    have HTP2 := Go.Lib.hid (fun (w' : World) (O' : Nat → Prop) (h' : Lca w' px O' t p1 p2) => top_ca (w := w') k 2 (.inr rfl) hk0 hk1 (by omega) hks h')
    have HTP1 := Go.Lib.hid (fun (w' : World) (O' : Nat → Prop) (h' : Lca w' px O' t p1 p2) => top_ca (w := w') k 1 (.inl rfl) hk0 hk1 (by omega) hks h')
    have HBH := Go.Lib.hid (fun (w' : World) (O' : Nat → Prop) (p1' : Nat) (h' : Lca w' px O' ⟨t.c, ⟨k, 1⟩ :: woL t.s k, t.q⟩ p1' p2) => behind_ca (w := w') k hk0 hk1 (by omega) h')
    have HCO := Go.Lib.hid (fun (w' : World) (O' : Nat → Prop) (p1' : Nat) (h' : Lca w' px O' (topS t k 2) p1' p2) => cool_ca w' hhot ⟨by show 1 ≤ t.c; omega, by show t.c ≤ 199; omega⟩ ⟨by omega, by show manyL (⟨k, 2⟩ :: woL t.s k) 2 + t.q.length < 1000; omega⟩ h')
    have C2 := hhot.coolD (by show 1 ≤ t.c; omega)
    have END := fun (u : LS) (hu : u.st) (hc : u.c = t.c) => (⟨Go.Lib.hid (fun (w' : World) (O' : Nat → Prop) (p1' p2' : Nat) (h' : Lca w' px O' u p1' p2') => prune_ca w' hu.ks h'), Go.Lib.hid (fun (w' : World) (O' : Nat → Prop) (p1' p2' : Nat) (h' : Lca w' px O' (pruneS u) p1' p2') => forget_ca w' hu.prune.ks ⟨by show 0 ≤ u.c; omega, by show u.c < 1000000; omega⟩ h')⟩ : Hid (∀ (w' : World) (O' : Nat → Prop) (p1' p2' : Nat) (h' : Lca w' px O' u p1' p2'), Calls Try.prog 147 #[P0 px] w' fun e w'' => e = .returned (.tuple #[]) ∧ ∃ O'', Lca w'' px O'' (pruneS u) p1' p2' ∧ Chg O' O'' w' w'') ∧ Hid (∀ (w' : World) (O' : Nat → Prop) (p1' p2' : Nat) (h' : Lca w' px O' (pruneS u) p1' p2'), Calls Try.prog 151 #[P0 px] w' fun e w'' => e = .returned (.tuple #[]) ∧ ∃ O'', Lca w'' px O'' (forgetS (pruneS u)) p1' p2' ∧ Chg O' O'' w' w''))
    obtain ⟨HPR2, HFG2⟩ := END _ C2.st C2.c
    obtain ⟨HPR1, HFG1⟩ := END _ hcold rfl
    have HRM := Go.Lib.hid (fun (w' : World) (cs : List Value) (hx : Blk w' px cs 140) (h5 : cs[5]? = some (.int .i64 t.c)) => room_any px cs t.c w' ⟨by omega, by omega⟩ hx h5)
    have HFD := Go.Lib.hid (fun (w' : World) (ps : Nat) (O1' : Nat → Prop) (h' : Sta w' ps O1' [t.s.map lE] p1) => find_l k w' hk0 hk1 h')
    have HM2 : Hid ((manyL (⟨k, 2⟩ :: woL t.s k) 2 : Int) + t.q.length ≤ s.c) := Go.Lib.hid (by omega)
    have HTQ : Hid ((t.q.length : Int) + 1 ≤ s.c) := Go.Lib.hid (by omega)
    have HWQ : Hid (wo t.q k = t.q) := Go.Lib.hid (wo_id hkq)
    have hsl : ((woL t.s k).length : Int) ≤ 2 * s.c := by omega
    have HHS : Hid (∀ w', Lcr w' px O s (manyL s.s 0) (manyL s.s 1) (manyL s.s 2) p1 p2 → True) := Go.Lib.hid (fun _ _ => trivial)
    obtain ⟨psa, pqa, O1a, O2a, ga, hOa⟩ := H
    have HGA := Go.Lib.hid ga
    obtain ⟨U, hU⟩ : ∃ U, U = (if k ∈ keysL t.s ∨ (manyL t.s 2 : Int) < t.c - 1 then coolF (topS t k 2) else behindS (topS t k 1) k) := ⟨_, rfl⟩
    rw [← hU]
    have HU := Go.Lib.hid hU
    clear hU er1 er2 hk2 hkq hta htl hwl hks hhot hcold m2 C2 END D ha h ga hOa hout ht
    generalize hTC : t.c = tc at *
    have HTC := Go.Lib.hid hTC
    go_enter Try.func89, Try.ntmps89
    go_wp2_with fail
    refine HHA.out.mono ?_
    rintro e w1 ⟨rfl, hb1⟩
    have HB1 := Go.Lib.hid hb1
    have d5 := (HGA.out.x.keep hb1).cell 5
    simp only [List.getElem?_cons_zero, List.getElem?_cons_succ] at d5
    clear hb1
    go_wp2_with fail
    refine (HSH.out w1 HB1.out).mono ?_
    rintro e w2 ⟨vo, O2, rfl, h2, c2, k2, o2⟩
    have h2' := h2
    obtain ⟨ps2, pq2, O21, O22, g2, hO2⟩ := h2'
    have e0 := g2.x.cell 0
    simp only [List.getElem?_cons_zero, List.getElem?_cons_succ] at e0
    have HH2 := Go.Lib.hid h2
    have HC2 := Go.Lib.hid ((Chg.of_below HB1.out).trans c2)
    have HK2 : Hid (KLO w1 w2 vo out O2) := Go.Lib.hid ⟨k2, o2⟩
    have HF2 := Go.Lib.hid (HFD.out w2 ps2 O21 g2.st)
    have zz : w.heap.size ≤ w1.heap.size := HB1.out.size
    clear h2 c2 k2 o2 g2 hO2 d5 HSH HHS
    go_wp2_with fail
    refine HF2.out.mono ?_
    rintro e w3 ⟨rfl, hb3⟩
    have HH3 := Go.Lib.hid (HH2.out.keep hb3)
    have HC3 := Go.Lib.hid (HC2.out.below hb3)
    have HK3 : Hid (KLO w1 w3 vo out O2) := Go.Lib.hid ⟨HK2.out.1.keep hb3, HK2.out.2⟩
    clear hb3 e0 HF2
    obtain ⟨ps3, pq3, O31, O32, g3, hO3⟩ := HH3.out
    have d0 := g3.x.cell 0
    have d4 := g3.x.cell 4
    have lx3 := g3.x.lt
    simp only [List.getElem?_cons_zero, List.getElem?_cons_succ] at d0 d4
    have HR3 := Go.Lib.hid (HRM.out w3.drew _ g3.drew.x (by rw [← hTC]; rfl))
    have hb4 := (Lca.bnd HH3.out).2.2
    clear g3 hO3
    by_cases hs : k ∈ keysL t.s
    · rw [decide_eq_true hs]
      have HUE : Hid (U = coolF (topS t k 2)) := Go.Lib.hid (by rw [HU.out, if_pos (.inl hs)])
      clear hs
      go_wp2_with fail
      refine wp_region_held_drew (S := fun W' => True) (by kernel_rfl) trivial (fun hHeld => ?_)
      refine wpAnyH_take (i := 0) (v := ?v0) rfl (by kernel_rfl) (by kernel_rfl) (by kernel_rfl) (fun _ _ _ h => h) (Or.inl ⟨by rfl, ?hy0⟩) (by assumption) ?rest0
      case hy0 => intro w' hSw; (try dsimp only at hSw); go_simp; first | done | with_reducible rfl
      try simp only [Act.put, List.getElem_toArray, List.getElem_cons_succ, List.getElem_cons_zero, List.setIfInBounds_toArray, List.set_cons_zero, List.set_cons_succ]
      refine wpAnyH_take (i := 1) (v := ?v1) rfl (by kernel_rfl) (by kernel_rfl) (by kernel_rfl) (fun _ _ _ h => h) (Or.inl ⟨by rfl, ?hy1⟩) (by assumption) ?rest1
      case hy1 => intro w' hSw; (try dsimp only at hSw); go_simp; first | done | with_reducible rfl
      try simp only [Act.put, List.getElem_toArray, List.getElem_cons_succ, List.getElem_cons_zero, List.setIfInBounds_toArray, List.set_cons_zero, List.set_cons_succ]
      refine wpAnyH_take (i := 2) (v := undef) rfl (by kernel_rfl) (by kernel_rfl) (by kernel_rfl) (fun _ _ _ h => h) (Or.inr ⟨by rfl, rfl⟩) (by assumption) ?_
      try simp only [Act.put, List.getElem_toArray, List.getElem_cons_succ, List.getElem_cons_zero, List.setIfInBounds_toArray, List.set_cons_zero, List.set_cons_succ]
      refine wpAnyH_take (i := 3) (v := undef) rfl (by kernel_rfl) (by kernel_rfl) (by kernel_rfl) (fun _ _ _ h => h) (Or.inr ⟨by rfl, rfl⟩) (by assumption) ?_
      try simp only [Act.put, List.getElem_toArray, List.getElem_cons_succ, List.getElem_cons_zero, List.setIfInBounds_toArray, List.set_cons_zero, List.set_cons_succ]
      refine wpAnyH_take (i := 4) (v := undef) rfl (by kernel_rfl) (by kernel_rfl) (by kernel_rfl) (fun _ _ _ h => h) (Or.inr ⟨by rfl, rfl⟩) (by assumption) ?_
      try simp only [Act.put, List.getElem_toArray, List.getElem_cons_succ, List.getElem_cons_zero, List.setIfInBounds_toArray, List.set_cons_zero, List.set_cons_succ]
      refine wpAnyH_take (i := 5) (v := undef) rfl (by kernel_rfl) (by kernel_rfl) (by kernel_rfl) (fun _ _ _ h => h) (Or.inr ⟨by rfl, rfl⟩) (by assumption) ?_
      try simp only [Act.put, List.getElem_toArray, List.getElem_cons_succ, List.getElem_cons_zero, List.setIfInBounds_toArray, List.set_cons_zero, List.set_cons_succ]
      refine wpAnyH_take (i := 6) (v := undef) rfl (by kernel_rfl) (by kernel_rfl) (by kernel_rfl) (fun _ _ _ h => h) (Or.inr ⟨by rfl, rfl⟩) (by assumption) ?_
      try simp only [Act.put, List.getElem_toArray, List.getElem_cons_succ, List.getElem_cons_zero, List.setIfInBounds_toArray, List.set_cons_zero, List.set_cons_succ]
      refine wpAnyH_take (i := 7) (v := undef) rfl (by kernel_rfl) (by kernel_rfl) (by kernel_rfl) (fun _ _ _ h => h) (Or.inr ⟨by rfl, rfl⟩) (by assumption) ?_
      try simp only [Act.put, List.getElem_toArray, List.getElem_cons_succ, List.getElem_cons_zero, List.setIfInBounds_toArray, List.set_cons_zero, List.set_cons_succ]
      refine wpAnyH_take (i := 8) (v := undef) rfl (by kernel_rfl) (by kernel_rfl) (by kernel_rfl) (fun _ _ _ h => h) (Or.inr ⟨by rfl, rfl⟩) (by assumption) ?_
      try simp only [Act.put, List.getElem_toArray, List.getElem_cons_succ, List.getElem_cons_zero, List.setIfInBounds_toArray, List.set_cons_zero, List.set_cons_succ]
      refine wpAnyH_take (i := 9) (v := undef) rfl (by kernel_rfl) (by kernel_rfl) (by kernel_rfl) (fun _ _ _ h => h) (Or.inr ⟨by rfl, rfl⟩) (by assumption) ?_
      try simp only [Act.put, List.getElem_toArray, List.getElem_cons_succ, List.getElem_cons_zero, List.setIfInBounds_toArray, List.set_cons_zero, List.set_cons_succ]
      refine wpAnyH_take (i := 10) (v := ?v10) rfl (by kernel_rfl) (by kernel_rfl) (by kernel_rfl) (fun _ _ _ h => h) (Or.inl ⟨by rfl, ?hy10⟩) (by assumption) ?rest10
      case hy10 => intro w' hSw; (try dsimp only at hSw); go_simp; first | done | with_reducible rfl
      try simp only [Act.put, List.getElem_toArray, List.getElem_cons_succ, List.getElem_cons_zero, List.setIfInBounds_toArray, List.set_cons_zero, List.set_cons_succ]
      refine wpAnyH_done (by kernel_rfl) ?_ _
      have DW : Below w3.heap.size w3 w3.drew := by first | exact (Below.refl _ _).drew.drew | exact (Below.refl _ _).drew
      have HHD := Go.Lib.hid (HH3.out.keep DW)
      have HCD := Go.Lib.hid (HC3.out.below DW)
      have HKD : Hid (KLO w1 w3.drew vo out O2) := Go.Lib.hid ⟨HK3.out.1.keep DW, HK3.out.2⟩
      clear DW d0 d4
      go_wp2_with fail
      refine (HTP2.out _ _ HHD.out).mono ?_
      rintro e w5 ⟨rfl, O5, h5, c5⟩
      rw [← HTC.out] at h5
      have HH5 := Go.Lib.hid h5
      have HC5 := Go.Lib.hid (HCD.out.trans c5)
      have HK5 := Go.Lib.hid (HKD.out.chg c5)
      clear h5 c5
      go_wp2_with fail
      refine (HCO.out w5 _ _ HH5.out).mono ?_
      rintro e w6 ⟨rfl, O6, p26, h6, hp6, c6⟩
      have HH6 := Go.Lib.hid h6
      have HC6 := Go.Lib.hid (HC5.out.trans c6)
      have HK6 := Go.Lib.hid (HK5.out.chg c6)
      have HP6 : Hid ((p26 : Int) ≤ max (p2 : Int) s.c) := Go.Lib.hid (by have q := HM2.out; have q2 : p26 ≤ max p2 (manyL (⟨k, 2⟩ :: woL t.s k) 2 + t.q.length) := hp6; omega)
      clear h6 c6 hp6
      go_wp2_with fail
      refine (HPR2.out w6 _ _ _ HH6.out).mono ?_
      rintro e w7 ⟨rfl, O7, h7, c7⟩
      have HH7 := Go.Lib.hid h7
      have HC7 := Go.Lib.hid (HC6.out.trans c7)
      have HK7 := Go.Lib.hid (HK6.out.chg c7)
      clear h7 c7
      go_wp2_with fail
      refine (HFG2.out w7 _ _ _ HH7.out).mono ?_
      rintro e w8 ⟨rfl, O8, h8, c8⟩
      replace h8 : Lca w8 px O8 (forgetS (pruneS U)) (max p1 ((woL t.s k).length + 1)) p26 := by rw [HUE.out]; unfold topS; rw [HTC.out]; exact h8
      have HH8 := Go.Lib.hid h8
      have HC8 := Go.Lib.hid (HC7.out.trans c8)
      have HK8 := Go.Lib.hid (HK7.out.chg c8)
      clear h8 c8
      go_wp2_with fail
      go_ret
      have qq : ((max p1 ((woL t.s k).length + 1) : Nat) : Int) ≤ max (p1 : Int) (2 * s.c + 1) := by omega
      first | exact ⟨vo, rfl, O8, _, p26, HH8.out, ⟨qq, HP6.out⟩, HC8.out, HK8.out.1, fun b hb => ⟨Nat.le_trans zz (HK8.out.2 b hb).1, (HK8.out.2 b hb).2⟩⟩ | exact ⟨vo, O8, _, p26, rfl, HH8.out, ⟨qq, HP6.out⟩, HC8.out, HK8.out.1, fun b hb => ⟨Nat.le_trans zz (HK8.out.2 b hb).1, (HK8.out.2 b hb).2⟩⟩
    · rw [decide_eq_false hs]
      by_cases hr : (manyL t.s 2 : Int) < tc - 1
      · have HUE : Hid (U = coolF (topS t k 2)) := Go.Lib.hid (by rw [HU.out, if_pos (.inr hr)])
        clear hs HU
        generalize (manyL t.s 2 : Int) = M2 at *
        obtain ⟨b40, b41⟩ := hb4
        go_wp2_with fail
        go_region_held3 (fun W' => W'.cell? ⟨px, 4, none⟩ = some (.int .i64 M2))
          (first | exact d4)
          (first | (go_at_call 150; refine HR3.out.mono ?_; rintro e w4 ⟨rfl, rfl⟩))
        have DW : Below w3.heap.size w3 w3.drew.drew := by first | exact (Below.refl _ _).drew.drew | exact (Below.refl _ _).drew
        have HHD := Go.Lib.hid (HH3.out.keep DW)
        have HCD := Go.Lib.hid (HC3.out.below DW)
        have HKD : Hid (KLO w1 w3.drew.drew vo out O2) := Go.Lib.hid ⟨HK3.out.1.keep DW, HK3.out.2⟩
        clear DW d0 d4
        go_wp2_with fail
        refine (HTP2.out _ _ HHD.out).mono ?_
        rintro e w5 ⟨rfl, O5, h5, c5⟩
        rw [← HTC.out] at h5
        have HH5 := Go.Lib.hid h5
        have HC5 := Go.Lib.hid (HCD.out.trans c5)
        have HK5 := Go.Lib.hid (HKD.out.chg c5)
        clear h5 c5
        go_wp2_with fail
        refine (HCO.out w5 _ _ HH5.out).mono ?_
        rintro e w6 ⟨rfl, O6, p26, h6, hp6, c6⟩
        have HH6 := Go.Lib.hid h6
        have HC6 := Go.Lib.hid (HC5.out.trans c6)
        have HK6 := Go.Lib.hid (HK5.out.chg c6)
        have HP6 : Hid ((p26 : Int) ≤ max (p2 : Int) s.c) := Go.Lib.hid (by have q := HM2.out; have q2 : p26 ≤ max p2 (manyL (⟨k, 2⟩ :: woL t.s k) 2 + t.q.length) := hp6; omega)
        clear h6 c6 hp6
        go_wp2_with fail
        refine (HPR2.out w6 _ _ _ HH6.out).mono ?_
        rintro e w7 ⟨rfl, O7, h7, c7⟩
        have HH7 := Go.Lib.hid h7
        have HC7 := Go.Lib.hid (HC6.out.trans c7)
        have HK7 := Go.Lib.hid (HK6.out.chg c7)
        clear h7 c7
        go_wp2_with fail
        refine (HFG2.out w7 _ _ _ HH7.out).mono ?_
        rintro e w8 ⟨rfl, O8, h8, c8⟩
        replace h8 : Lca w8 px O8 (forgetS (pruneS U)) (max p1 ((woL t.s k).length + 1)) p26 := by rw [HUE.out]; unfold topS; rw [HTC.out]; exact h8
        have HH8 := Go.Lib.hid h8
        have HC8 := Go.Lib.hid (HC7.out.trans c8)
        have HK8 := Go.Lib.hid (HK7.out.chg c8)
        clear h8 c8
        go_wp2_with fail
        go_ret
        have qq : ((max p1 ((woL t.s k).length + 1) : Nat) : Int) ≤ max (p1 : Int) (2 * s.c + 1) := by omega
        first | exact ⟨vo, rfl, O8, _, p26, HH8.out, ⟨qq, HP6.out⟩, HC8.out, HK8.out.1, fun b hb => ⟨Nat.le_trans zz (HK8.out.2 b hb).1, (HK8.out.2 b hb).2⟩⟩ | exact ⟨vo, O8, _, p26, rfl, HH8.out, ⟨qq, HP6.out⟩, HC8.out, HK8.out.1, fun b hb => ⟨Nat.le_trans zz (HK8.out.2 b hb).1, (HK8.out.2 b hb).2⟩⟩
      · have HUE : Hid (U = behindS (topS t k 1) k) := Go.Lib.hid (by rw [HU.out, if_neg (by rintro (h | h); exact hs h; exact hr h)])
        clear hs HU
        generalize (manyL t.s 2 : Int) = M2 at *
        obtain ⟨b40, b41⟩ := hb4
        go_wp2_with fail
        go_region_held3 (fun W' => W'.cell? ⟨px, 4, none⟩ = some (.int .i64 M2))
          (first | exact d4)
          (first | (go_at_call 150; refine HR3.out.mono ?_; rintro e w4 ⟨rfl, rfl⟩))
        have DW : Below w3.heap.size w3 w3.drew.drew := (Below.refl _ _).drew.drew
        have HHD := Go.Lib.hid (HH3.out.keep DW)
        have HCD := Go.Lib.hid (HC3.out.below DW)
        have HKD : Hid (KLO w1 w3.drew.drew vo out O2) := Go.Lib.hid ⟨HK3.out.1.keep DW, HK3.out.2⟩
        clear DW d0 d4
        go_wp2_with fail
        refine (HTP1.out _ _ HHD.out).mono ?_
        rintro e w5 ⟨rfl, O5, h5, c5⟩
        have HH5 := Go.Lib.hid h5
        have HC5 := Go.Lib.hid (HCD.out.trans c5)
        have HK5 := Go.Lib.hid (HKD.out.chg c5)
        clear h5 c5
        go_wp2_with fail
        skip
        refine (HBH.out w5 _ _ HH5.out).mono ?_
        rintro e w6 ⟨rfl, O6, h6, c6⟩
        rw [← HTC.out] at h6
        have HH6 := Go.Lib.hid h6
        have HC6 := Go.Lib.hid (HC5.out.trans c6)
        have HK6 := Go.Lib.hid (HK5.out.chg c6)
        clear h6 c6
        go_wp2_with fail
        refine (HPR1.out w6 _ _ _ HH6.out).mono ?_
        rintro e w7 ⟨rfl, O7, h7, c7⟩
        have HH7 := Go.Lib.hid h7
        have HC7 := Go.Lib.hid (HC6.out.trans c7)
        have HK7 := Go.Lib.hid (HK6.out.chg c7)
        clear h7 c7
        go_wp2_with fail
        refine (HFG1.out w7 _ _ _ HH7.out).mono ?_
        rintro e w8 ⟨rfl, O8, h8, c8⟩
        rw [← HUE.out] at h8
        have HH8 := Go.Lib.hid h8
        have HC8 := Go.Lib.hid (HC7.out.trans c8)
        have HK8 := Go.Lib.hid (HK7.out.chg c8)
        clear h8 c8
        go_wp2_with fail
        go_ret
        have qq : ((max p1 ((woL t.s k).length + 1) : Nat) : Int) ≤ max (p1 : Int) (2 * s.c + 1) := by omega
        have q2 : ((max p2 ((wo t.q k).length + 1) : Nat) : Int) ≤ max (p2 : Int) s.c := by have := HTQ.out; rw [HWQ.out]; omega
        first | exact ⟨vo, rfl, O8, _, _, HH8.out, ⟨qq, q2⟩, HC8.out, HK8.out.1, fun b hb => ⟨Nat.le_trans zz (HK8.out.2 b hb).1, (HK8.out.2 b hb).2⟩⟩ | exact ⟨vo, O8, _, _, rfl, HH8.out, ⟨qq, q2⟩, HC8.out, HK8.out.1, fun b hb => ⟨Nat.le_trans zz (HK8.out.2 b hb).1, (HK8.out.2 b hb).2⟩⟩
end
end Go.Proofs.Ytlakojncjldpbaa
