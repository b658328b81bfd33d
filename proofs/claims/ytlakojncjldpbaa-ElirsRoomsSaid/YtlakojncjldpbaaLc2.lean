/- The cache of low inter-reference recency: take, kind. -/
import Derived.Test.YtlakojncjldpbaaLc1
import Derived.Deep.RegionWith
namespace Go.Proofs.Ytlakojncjldpbaa
open Go.RowKit Hop
set_option linter.unusedVariables false
set_option linter.unusedSimpArgs false
set_option maxRecDepth 100000
/-- A count less. -/
def dmi (b : Prop) [Decidable b] (m : Int) : Int := if b then m - 1 else m
set_option maxHeartbeats 3200000 in
theorem take_any (px : Nat) {O : Nat → Prop} {s : LS} {m0 m1 m2 : Int} {p1 p2 : Nat} (k : Int) (w : World) (hk0 : 0 ≤ k) (hk1 : k < 18446744073709551616) (hkd : kindOf s.s k = 0 ∨ kindOf s.s k = 1 ∨ kindOf s.s k = 2)
    (hm : (0 ≤ m0 ∧ m0 < 1000000) ∧ (0 ≤ m1 ∧ m1 < 1000000) ∧ (0 ≤ m2 ∧ m2 < 1000000)) (H : Lcr w px O s m0 m1 m2 p1 p2) :
    Calls Try.prog 148 #[P0 px, .int .u64 k] w fun e w' => e = .returned (.tuple #[]) ∧ ∃ O', Lcr w' px O' ⟨s.c, woL s.s k, s.q⟩ (dmi (k ∈ keysL s.s ∧ kindOf s.s k = 0) m0) (dmi (k ∈ keysL s.s ∧ kindOf s.s k = 1) m1) (dmi (k ∈ keysL s.s ∧ kindOf s.s k = 2) m2) p1 p2 ∧ Chg O O' w w' := by
  obtain ⟨ps, pq, O1, O2, H, rfl⟩ := H
  obtain ⟨⟨a0, a1⟩, ⟨a2, a3⟩, ⟨a4, a5⟩⟩ := hm
  have HFL := Go.Lib.hid (flag_l k w hk0 hk1 H.st)
  have HRM := Go.Lib.hid (fun w' (hb : Below w.heap.size w w') => (remove_l k w' hk0 hk1 (H.st.keep hb)))
  have HH := Go.Lib.hid H
  have c0 := H.x.cell 0
  simp only [List.getElem?_cons_zero, List.getElem?_cons_succ] at c0
  clear H
  by_cases hk : k ∈ keysL s.s
  · rw [decide_eq_true hk] at HRM
    have HK := Go.Lib.hid hk
    generalize hkk : kindOf s.s k = kd at *
    clear hkk hk
    go_enter Try.func148, Try.ntmps148
    go_wp2_with fail
    refine HFL.out.mono ?_
    rintro e w1 ⟨rfl, hb1⟩
    have HB1 := Go.Lib.hid hb1
    have d0 := (HH.out.x.keep hb1).cell 0
    simp only [List.getElem?_cons_zero, List.getElem?_cons_succ] at d0
    clear hb1 c0
    go_wp2_with fail
    refine (HRM.out w1 HB1.out).mono ?_
    rintro e w2 ⟨rfl, O1', h2', hc⟩
    obtain ⟨g1, g2⟩ := (HH.out.keep HB1.out).stk h2' hc
    have HG1 := Go.Lib.hid g1
    have HG2 := Go.Lib.hid ((Chg.of_below HB1.out).trans g2)
    have e0 := g1.x.cell 0
    have e2 := g1.x.cell 2
    have fe2 := g1.x.frozen 2
    have e3 := g1.x.cell 3
    have fe3 := g1.x.frozen 3
    have e4 := g1.x.cell 4
    have fe4 := g1.x.frozen 4
    have le := g1.x.lt
    simp only [List.getElem?_cons_zero, List.getElem?_cons_succ] at e0 e2 e3 e4
    clear g1 g2 h2' hc d0 HFL HRM
    rcases hkd with rfl | rfl | rfl
    · go_wp2_with fail
      go_region
      go_end0
      obtain ⟨n1, n2⟩ := HG1.out.num 2 (.int .i64 (m0 - 1)) (n0 := m0 - 1) (n1 := m1) (n2 := m2) (c := s.c) (fun a b => rfl)
      refine ⟨rfl, _, ⟨ps, pq, O1', O2, ?_, rfl⟩, (HG2.out.trans n2).drew⟩
      simpa [dmi, HK.out] using n1.drew
    · go_wp2_with fail
      go_region
      go_end0
      obtain ⟨n1, n2⟩ := HG1.out.num 3 (.int .i64 (m1 - 1)) (n0 := m0) (n1 := m1 - 1) (n2 := m2) (c := s.c) (fun a b => rfl)
      refine ⟨rfl, _, ⟨ps, pq, O1', O2, ?_, rfl⟩, (HG2.out.trans n2).drew⟩
      simpa [dmi, HK.out] using n1.drew
    · go_wp2_with fail
      go_region
      go_end0
      obtain ⟨n1, n2⟩ := HG1.out.num 4 (.int .i64 (m2 - 1)) (n0 := m0) (n1 := m1) (n2 := m2 - 1) (c := s.c) (fun a b => rfl)
      refine ⟨rfl, _, ⟨ps, pq, O1', O2, ?_, rfl⟩, (HG2.out.trans n2).drew⟩
      simpa [dmi, HK.out] using n1.drew
  · rw [decide_eq_false hk] at HRM
    rw [kindOf_not hk] at HFL
    have HK := Go.Lib.hid hk
    clear hk hkd
    go_enter Try.func148, Try.ntmps148
    go_wp2_with fail
    refine HFL.out.mono ?_
    rintro e w1 ⟨rfl, hb1⟩
    have HB1 := Go.Lib.hid hb1
    have d0 := (HH.out.x.keep hb1).cell 0
    simp only [List.getElem?_cons_zero, List.getElem?_cons_succ] at d0
    clear hb1 c0
    go_wp2_with fail
    refine (HRM.out w1 HB1.out).mono ?_
    rintro e w2 ⟨rfl, O1', h2', hc⟩
    obtain ⟨g1, g2⟩ := (HH.out.keep HB1.out).stk h2' hc
    have HG1 := Go.Lib.hid g1
    have HG2 := Go.Lib.hid ((Chg.of_below HB1.out).trans g2)
    clear g1 g2 h2' hc d0 HFL HRM
    go_wp2_with fail
    go_end0
    refine ⟨rfl, _, ⟨ps, pq, O1', O2, ?_, rfl⟩, HG2.out⟩
    simpa [dmi, HK.out] using HG1.out
set_option maxHeartbeats 3200000 in
theorem kind_01 (px : Nat) {O : Nat → Prop} {s : LS} {m0 m1 m2 : Int} {p1 p2 : Nat} (k : Int) (w : World) (hk0 : 0 ≤ k) (hk1 : k < 18446744073709551616) (hk : k ∈ keysL s.s) (hkd : kindOf s.s k = 0)
    (hm : (0 ≤ m0 ∧ m0 < 1000000) ∧ (0 ≤ m1 ∧ m1 < 1000000) ∧ (0 ≤ m2 ∧ m2 < 1000000)) (H : Lcr w px O s m0 m1 m2 p1 p2) :
    Calls Try.prog 190 #[P0 px, .int .u64 k, .int .i64 1] w fun e w' => e = .returned (.tuple #[]) ∧ ∃ O', Lcr w' px O' ⟨s.c, setL s.s k 1, s.q⟩ (m0 - 1) (m1 + 1) (m2) p1 p2 ∧ Chg O O' w w' := by
  obtain ⟨ps, pq, O1, O2, H, rfl⟩ := H
  obtain ⟨⟨a0, a1⟩, ⟨a2, a3⟩, ⟨a4, a5⟩⟩ := hm
  have FL := flag_l k w.drew hk0 hk1 H.drew.st
  rw [hkd] at FL
  have HFL := Go.Lib.hid FL
  have HSF := Go.Lib.hid (fun w' (h : Sta w' ps O1 [s.s.map lE] p1) => setflag_l k 1 w' hk0 hk1 hk h)
  have HH := Go.Lib.hid H
  have c0 := H.x.cell 0
  have c2 := H.x.cell 2
  have fc2 := H.x.frozen 2
  have c3 := H.x.cell 3
  have fc3 := H.x.frozen 3
  have c4 := H.x.cell 4
  have fc4 := H.x.frozen 4
  have lc := H.x.lt
  simp only [List.getElem?_cons_zero, List.getElem?_cons_succ] at c0 c2 c3 c4
  have hw0 : IntKind.i64.wrap (m0 - 1) = m0 - 1 := IntWalk.i64_in _ (by omega)
  clear H hk hkd FL
  go_enter Try.func190, Try.ntmps190
  go_wp2_with fail
  go_region_with (go_at_call 142; refine HFL.out.mono ?_; rintro e w1 ⟨rfl, hb1⟩; have x1 := HH.out.drew.x.keep hb1; have d2 := x1.cell 2; have g2 := x1.frozen 2; have lx1 := x1.lt; simp only [List.getElem?_cons_zero, List.getElem?_cons_succ] at d2)
  try rw [hw0]
  obtain ⟨n1, n2⟩ := (HH.out.drew.keep hb1).num 2 (.int .i64 (m0 - 1)) (n0 := m0 - 1) (n1 := m1) (n2 := m2) (c := s.c) (fun a b => rfl)
  have n3 := (Chg.of_below (O := own2 px O1 O2) ((Below.refl w.heap.size w).drew.trans hb1)).trans n2
  obtain ⟨W2, hW2⟩ : ∃ W2, W2 = w1.setCell ⟨px, 2, none⟩ (.int .i64 (m0 - 1)) := ⟨_, rfl⟩
  rw [← hW2] at n1 n3 ⊢
  have HN1 := Go.Lib.hid n1
  have HN3 := Go.Lib.hid n3
  have e0 := n1.x.cell 0
  have e2 := n1.x.cell 2
  have fe2 := n1.x.frozen 2
  have e3 := n1.x.cell 3
  have fe3 := n1.x.frozen 3
  have e4 := n1.x.cell 4
  have fe4 := n1.x.frozen 4
  have le := n1.x.lt
  simp only [List.getElem?_cons_zero, List.getElem?_cons_succ] at e0 e2 e3 e4
  clear hW2 n1 n2 n3 x1 d2 g2 lx1 hb1 c0 c2 c3 c4 fc2 fc3 fc4 HFL
  go_wp2_with fail
  go_region
  obtain ⟨n1, n2⟩ := HN1.out.num 3 (.int .i64 (m1 + 1)) (n0 := m0 - 1) (n1 := m1 + 1) (n2 := m2) (c := s.c) (fun a b => rfl)
  have n3 := (HN3.out.trans n2).drew
  replace n1 := n1.drew
  obtain ⟨W3, hW3⟩ : ∃ W3, W3 = (W2.setCell ⟨px, 3, none⟩ (.int .i64 (m1 + 1))).drew := ⟨_, rfl⟩
  rw [← hW3] at n1 n3 ⊢
  have HM1 := Go.Lib.hid n1
  have HM3 := Go.Lib.hid n3
  have d0 := n1.x.cell 0
  simp only [List.getElem?_cons_zero, List.getElem?_cons_succ] at d0
  clear hW3 n1 n2 n3 e0 e2 e3 e4 fe2 fe3 fe4
  go_wp2_with fail
  refine (HSF.out W3 HM1.out.st).mono ?_
  rintro e w4 ⟨rfl, h5, h6⟩
  obtain ⟨g1, g2⟩ := HM1.out.stk h5 h6
  have HG1 := Go.Lib.hid g1
  have HG2 := Go.Lib.hid (HM3.out.trans g2)
  clear g1 g2 h5 h6 d0
  go_wp2_with fail
  go_end0
  exact ⟨rfl, _, ⟨_, _, _, _, HG1.out, rfl⟩, HG2.out⟩
set_option maxHeartbeats 3200000 in
theorem kind_02 (px : Nat) {O : Nat → Prop} {s : LS} {m0 m1 m2 : Int} {p1 p2 : Nat} (k : Int) (w : World) (hk0 : 0 ≤ k) (hk1 : k < 18446744073709551616) (hk : k ∈ keysL s.s) (hkd : kindOf s.s k = 0)
    (hm : (0 ≤ m0 ∧ m0 < 1000000) ∧ (0 ≤ m1 ∧ m1 < 1000000) ∧ (0 ≤ m2 ∧ m2 < 1000000)) (H : Lcr w px O s m0 m1 m2 p1 p2) :
    Calls Try.prog 190 #[P0 px, .int .u64 k, .int .i64 2] w fun e w' => e = .returned (.tuple #[]) ∧ ∃ O', Lcr w' px O' ⟨s.c, setL s.s k 2, s.q⟩ (m0 - 1) (m1) (m2 + 1) p1 p2 ∧ Chg O O' w w' := by
  obtain ⟨ps, pq, O1, O2, H, rfl⟩ := H
  obtain ⟨⟨a0, a1⟩, ⟨a2, a3⟩, ⟨a4, a5⟩⟩ := hm
  have FL := flag_l k w.drew hk0 hk1 H.drew.st
  rw [hkd] at FL
  have HFL := Go.Lib.hid FL
  have HSF := Go.Lib.hid (fun w' (h : Sta w' ps O1 [s.s.map lE] p1) => setflag_l k 2 w' hk0 hk1 hk h)
  have HH := Go.Lib.hid H
  have c0 := H.x.cell 0
  have c2 := H.x.cell 2
  have fc2 := H.x.frozen 2
  have c3 := H.x.cell 3
  have fc3 := H.x.frozen 3
  have c4 := H.x.cell 4
  have fc4 := H.x.frozen 4
  have lc := H.x.lt
  simp only [List.getElem?_cons_zero, List.getElem?_cons_succ] at c0 c2 c3 c4
  have hw0 : IntKind.i64.wrap (m0 - 1) = m0 - 1 := IntWalk.i64_in _ (by omega)
  clear H hk hkd FL
  go_enter Try.func190, Try.ntmps190
  go_wp2_with fail
  go_region_with (go_at_call 142; refine HFL.out.mono ?_; rintro e w1 ⟨rfl, hb1⟩; have x1 := HH.out.drew.x.keep hb1; have d2 := x1.cell 2; have g2 := x1.frozen 2; have lx1 := x1.lt; simp only [List.getElem?_cons_zero, List.getElem?_cons_succ] at d2)
  try rw [hw0]
  obtain ⟨n1, n2⟩ := (HH.out.drew.keep hb1).num 2 (.int .i64 (m0 - 1)) (n0 := m0 - 1) (n1 := m1) (n2 := m2) (c := s.c) (fun a b => rfl)
  have n3 := (Chg.of_below (O := own2 px O1 O2) ((Below.refl w.heap.size w).drew.trans hb1)).trans n2
  obtain ⟨W2, hW2⟩ : ∃ W2, W2 = w1.setCell ⟨px, 2, none⟩ (.int .i64 (m0 - 1)) := ⟨_, rfl⟩
  rw [← hW2] at n1 n3 ⊢
  have HN1 := Go.Lib.hid n1
  have HN3 := Go.Lib.hid n3
  have e0 := n1.x.cell 0
  have e2 := n1.x.cell 2
  have fe2 := n1.x.frozen 2
  have e3 := n1.x.cell 3
  have fe3 := n1.x.frozen 3
  have e4 := n1.x.cell 4
  have fe4 := n1.x.frozen 4
  have le := n1.x.lt
  simp only [List.getElem?_cons_zero, List.getElem?_cons_succ] at e0 e2 e3 e4
  clear hW2 n1 n2 n3 x1 d2 g2 lx1 hb1 c0 c2 c3 c4 fc2 fc3 fc4 HFL
  go_wp2_with fail
  go_region
  obtain ⟨n1, n2⟩ := HN1.out.num 4 (.int .i64 (m2 + 1)) (n0 := m0 - 1) (n1 := m1) (n2 := m2 + 1) (c := s.c) (fun a b => rfl)
  have n3 := (HN3.out.trans n2).drew
  replace n1 := n1.drew
  obtain ⟨W3, hW3⟩ : ∃ W3, W3 = (W2.setCell ⟨px, 4, none⟩ (.int .i64 (m2 + 1))).drew := ⟨_, rfl⟩
  rw [← hW3] at n1 n3 ⊢
  have HM1 := Go.Lib.hid n1
  have HM3 := Go.Lib.hid n3
  have d0 := n1.x.cell 0
  simp only [List.getElem?_cons_zero, List.getElem?_cons_succ] at d0
  clear hW3 n1 n2 n3 e0 e2 e3 e4 fe2 fe3 fe4
  go_wp2_with fail
  refine (HSF.out W3 HM1.out.st).mono ?_
  rintro e w4 ⟨rfl, h5, h6⟩
  obtain ⟨g1, g2⟩ := HM1.out.stk h5 h6
  have HG1 := Go.Lib.hid g1
  have HG2 := Go.Lib.hid (HM3.out.trans g2)
  clear g1 g2 h5 h6 d0
  go_wp2_with fail
  go_end0
  exact ⟨rfl, _, ⟨_, _, _, _, HG1.out, rfl⟩, HG2.out⟩
set_option maxHeartbeats 3200000 in
theorem kind_21 (px : Nat) {O : Nat → Prop} {s : LS} {m0 m1 m2 : Int} {p1 p2 : Nat} (k : Int) (w : World) (hk0 : 0 ≤ k) (hk1 : k < 18446744073709551616) (hk : k ∈ keysL s.s) (hkd : kindOf s.s k = 2)
    (hm : (0 ≤ m0 ∧ m0 < 1000000) ∧ (0 ≤ m1 ∧ m1 < 1000000) ∧ (0 ≤ m2 ∧ m2 < 1000000)) (H : Lcr w px O s m0 m1 m2 p1 p2) :
    Calls Try.prog 190 #[P0 px, .int .u64 k, .int .i64 1] w fun e w' => e = .returned (.tuple #[]) ∧ ∃ O', Lcr w' px O' ⟨s.c, setL s.s k 1, s.q⟩ (m0) (m1 + 1) (m2 - 1) p1 p2 ∧ Chg O O' w w' := by
  obtain ⟨ps, pq, O1, O2, H, rfl⟩ := H
  obtain ⟨⟨a0, a1⟩, ⟨a2, a3⟩, ⟨a4, a5⟩⟩ := hm
  have FL := flag_l k w.drew hk0 hk1 H.drew.st
  rw [hkd] at FL
  have HFL := Go.Lib.hid FL
  have HSF := Go.Lib.hid (fun w' (h : Sta w' ps O1 [s.s.map lE] p1) => setflag_l k 1 w' hk0 hk1 hk h)
  have HH := Go.Lib.hid H
  have c0 := H.x.cell 0
  have c2 := H.x.cell 2
  have fc2 := H.x.frozen 2
  have c3 := H.x.cell 3
  have fc3 := H.x.frozen 3
  have c4 := H.x.cell 4
  have fc4 := H.x.frozen 4
  have lc := H.x.lt
  simp only [List.getElem?_cons_zero, List.getElem?_cons_succ] at c0 c2 c3 c4
  have hw0 : IntKind.i64.wrap (m2 - 1) = m2 - 1 := IntWalk.i64_in _ (by omega)
  clear H hk hkd FL
  go_enter Try.func190, Try.ntmps190
  go_wp2_with fail
  go_region_with (go_at_call 142; refine HFL.out.mono ?_; rintro e w1 ⟨rfl, hb1⟩; have x1 := HH.out.drew.x.keep hb1; have d2 := x1.cell 4; have g2 := x1.frozen 4; have lx1 := x1.lt; simp only [List.getElem?_cons_zero, List.getElem?_cons_succ] at d2)
  try rw [hw0]
  obtain ⟨n1, n2⟩ := (HH.out.drew.keep hb1).num 4 (.int .i64 (m2 - 1)) (n0 := m0) (n1 := m1) (n2 := m2 - 1) (c := s.c) (fun a b => rfl)
  have n3 := (Chg.of_below (O := own2 px O1 O2) ((Below.refl w.heap.size w).drew.trans hb1)).trans n2
  obtain ⟨W2, hW2⟩ : ∃ W2, W2 = w1.setCell ⟨px, 4, none⟩ (.int .i64 (m2 - 1)) := ⟨_, rfl⟩
  rw [← hW2] at n1 n3 ⊢
  have HN1 := Go.Lib.hid n1
  have HN3 := Go.Lib.hid n3
  have e0 := n1.x.cell 0
  have e2 := n1.x.cell 2
  have fe2 := n1.x.frozen 2
  have e3 := n1.x.cell 3
  have fe3 := n1.x.frozen 3
  have e4 := n1.x.cell 4
  have fe4 := n1.x.frozen 4
  have le := n1.x.lt
  simp only [List.getElem?_cons_zero, List.getElem?_cons_succ] at e0 e2 e3 e4
  clear hW2 n1 n2 n3 x1 d2 g2 lx1 hb1 c0 c2 c3 c4 fc2 fc3 fc4 HFL
  go_wp2_with fail
  go_region
  obtain ⟨n1, n2⟩ := HN1.out.num 3 (.int .i64 (m1 + 1)) (n0 := m0) (n1 := m1 + 1) (n2 := m2 - 1) (c := s.c) (fun a b => rfl)
  have n3 := (HN3.out.trans n2).drew
  replace n1 := n1.drew
  obtain ⟨W3, hW3⟩ : ∃ W3, W3 = (W2.setCell ⟨px, 3, none⟩ (.int .i64 (m1 + 1))).drew := ⟨_, rfl⟩
  rw [← hW3] at n1 n3 ⊢
  have HM1 := Go.Lib.hid n1
  have HM3 := Go.Lib.hid n3
  have d0 := n1.x.cell 0
  simp only [List.getElem?_cons_zero, List.getElem?_cons_succ] at d0
  clear hW3 n1 n2 n3 e0 e2 e3 e4 fe2 fe3 fe4
  go_wp2_with fail
  refine (HSF.out W3 HM1.out.st).mono ?_
  rintro e w4 ⟨rfl, h5, h6⟩
  obtain ⟨g1, g2⟩ := HM1.out.stk h5 h6
  have HG1 := Go.Lib.hid g1
  have HG2 := Go.Lib.hid (HM3.out.trans g2)
  clear g1 g2 h5 h6 d0
  go_wp2_with fail
  go_end0
  exact ⟨rfl, _, ⟨_, _, _, _, HG1.out, rfl⟩, HG2.out⟩
set_option maxHeartbeats 3200000 in
theorem kind_10 (px : Nat) {O : Nat → Prop} {s : LS} {m0 m1 m2 : Int} {p1 p2 : Nat} (k : Int) (w : World) (hk0 : 0 ≤ k) (hk1 : k < 18446744073709551616) (hk : k ∈ keysL s.s) (hkd : kindOf s.s k = 1)
    (hm : (0 ≤ m0 ∧ m0 < 1000000) ∧ (0 ≤ m1 ∧ m1 < 1000000) ∧ (0 ≤ m2 ∧ m2 < 1000000)) (H : Lcr w px O s m0 m1 m2 p1 p2) :
    Calls Try.prog 190 #[P0 px, .int .u64 k, .int .i64 0] w fun e w' => e = .returned (.tuple #[]) ∧ ∃ O', Lcr w' px O' ⟨s.c, setL s.s k 0, s.q⟩ (m0 + 1) (m1 - 1) (m2) p1 p2 ∧ Chg O O' w w' := by
  obtain ⟨ps, pq, O1, O2, H, rfl⟩ := H
  obtain ⟨⟨a0, a1⟩, ⟨a2, a3⟩, ⟨a4, a5⟩⟩ := hm
  have FL := flag_l k w.drew hk0 hk1 H.drew.st
  rw [hkd] at FL
  have HFL := Go.Lib.hid FL
  have HSF := Go.Lib.hid (fun w' (h : Sta w' ps O1 [s.s.map lE] p1) => setflag_l k 0 w' hk0 hk1 hk h)
  have HH := Go.Lib.hid H
  have c0 := H.x.cell 0
  have c2 := H.x.cell 2
  have fc2 := H.x.frozen 2
  have c3 := H.x.cell 3
  have fc3 := H.x.frozen 3
  have c4 := H.x.cell 4
  have fc4 := H.x.frozen 4
  have lc := H.x.lt
  simp only [List.getElem?_cons_zero, List.getElem?_cons_succ] at c0 c2 c3 c4
  have hw0 : IntKind.i64.wrap (m1 - 1) = m1 - 1 := IntWalk.i64_in _ (by omega)
  clear H hk hkd FL
  go_enter Try.func190, Try.ntmps190
  go_wp2_with fail
  go_region_with (go_at_call 142; refine HFL.out.mono ?_; rintro e w1 ⟨rfl, hb1⟩; have x1 := HH.out.drew.x.keep hb1; have d2 := x1.cell 3; have g2 := x1.frozen 3; have lx1 := x1.lt; simp only [List.getElem?_cons_zero, List.getElem?_cons_succ] at d2)
  try rw [hw0]
  obtain ⟨n1, n2⟩ := (HH.out.drew.keep hb1).num 3 (.int .i64 (m1 - 1)) (n0 := m0) (n1 := m1 - 1) (n2 := m2) (c := s.c) (fun a b => rfl)
  have n3 := (Chg.of_below (O := own2 px O1 O2) ((Below.refl w.heap.size w).drew.trans hb1)).trans n2
  obtain ⟨W2, hW2⟩ : ∃ W2, W2 = w1.setCell ⟨px, 3, none⟩ (.int .i64 (m1 - 1)) := ⟨_, rfl⟩
  rw [← hW2] at n1 n3 ⊢
  have HN1 := Go.Lib.hid n1
  have HN3 := Go.Lib.hid n3
  have e0 := n1.x.cell 0
  have e2 := n1.x.cell 2
  have fe2 := n1.x.frozen 2
  have e3 := n1.x.cell 3
  have fe3 := n1.x.frozen 3
  have e4 := n1.x.cell 4
  have fe4 := n1.x.frozen 4
  have le := n1.x.lt
  simp only [List.getElem?_cons_zero, List.getElem?_cons_succ] at e0 e2 e3 e4
  clear hW2 n1 n2 n3 x1 d2 g2 lx1 hb1 c0 c2 c3 c4 fc2 fc3 fc4 HFL
  go_wp2_with fail
  go_region
  obtain ⟨n1, n2⟩ := HN1.out.num 2 (.int .i64 (m0 + 1)) (n0 := m0 + 1) (n1 := m1 - 1) (n2 := m2) (c := s.c) (fun a b => rfl)
  have n3 := (HN3.out.trans n2).drew
  replace n1 := n1.drew
  obtain ⟨W3, hW3⟩ : ∃ W3, W3 = (W2.setCell ⟨px, 2, none⟩ (.int .i64 (m0 + 1))).drew := ⟨_, rfl⟩
  rw [← hW3] at n1 n3 ⊢
  have HM1 := Go.Lib.hid n1
  have HM3 := Go.Lib.hid n3
  have d0 := n1.x.cell 0
  simp only [List.getElem?_cons_zero, List.getElem?_cons_succ] at d0
  clear hW3 n1 n2 n3 e0 e2 e3 e4 fe2 fe3 fe4
  go_wp2_with fail
  refine (HSF.out W3 HM1.out.st).mono ?_
  rintro e w4 ⟨rfl, h5, h6⟩
  obtain ⟨g1, g2⟩ := HM1.out.stk h5 h6
  have HG1 := Go.Lib.hid g1
  have HG2 := Go.Lib.hid (HM3.out.trans g2)
  clear g1 g2 h5 h6 d0
  go_wp2_with fail
  go_end0
  exact ⟨rfl, _, ⟨_, _, _, _, HG1.out, rfl⟩, HG2.out⟩
end Go.Proofs.Ytlakojncjldpbaa
