/- The cache of low inter-reference recency: top, behind; counts that are right. -/
import Derived.Test.YtlakojncjldpbaaLc2
namespace Go.Proofs.Ytlakojncjldpbaa
open Go.RowKit Hop
set_option linter.unusedVariables false
set_option linter.unusedSimpArgs false
set_option maxRecDepth 100000
/-- The cache, its counts right. -/
def Lca (w : World) (px : Nat) (O : Nat → Prop) (s : LS) (p1 p2 : Nat) : Prop := Lcr w px O s (manyL s.s 0) (manyL s.s 1) (manyL s.s 2) p1 p2
section
variable {w w' : World} {px : Nat} {O : Nat → Prop} {s : LS} {p1 p2 : Nat}
theorem Lca.keep (h : Lca w px O s p1 p2) (hb : Below w.heap.size w w') : Lca w' px O s p1 p2 := Lcr.keep h hb
theorem Lca.frame (h : Lca w px O s p1 p2) {own : Nat → Prop} (hf : Fr own w w') (hn : ∀ k, O k → ¬ own k) : Lca w' px O s p1 p2 := Lcr.frame h hf hn
theorem Lca.bnd (h : Lca w px O s p1 p2) : (0 ≤ (manyL s.s 0 : Int) ∧ (manyL s.s 0 : Int) < 1000000) ∧ (0 ≤ (manyL s.s 1 : Int) ∧ (manyL s.s 1 : Int) < 1000000) ∧ (0 ≤ (manyL s.s 2 : Int) ∧ (manyL s.s 2 : Int) < 1000000) := by
  obtain ⟨h1, h2, _⟩ := Lcr.len h
  have := many_le s.s 0
  have := many_le s.s 1
  have := many_le s.s 2
  omega
theorem Lca.kd (h : Lca w px O s p1 p2) (hks : ∀ x ∈ s.s, x.kind = 0 ∨ x.kind = 1 ∨ x.kind = 2) (k : Int) : kindOf s.s k = 0 ∨ kindOf s.s k = 1 ∨ kindOf s.s k = 2 := by
  by_cases hk : k ∈ keysL s.s
  · obtain ⟨x, hx, rfl⟩ := mem_keysL.1 hk
    rw [kindOf_mem (Lcr.nd h) hx]
    exact hks x hx
  · exact .inl (kindOf_not hk)
theorem dmi_many {S : List LI} (nd : (keysL S).Nodup) (k f : Int) : dmi (k ∈ keysL S ∧ kindOf S k = f) (manyL S f) = (manyL (woL S k) f : Int) := by
  have := many_woL nd k f
  unfold dmi
  split
  · rename_i h; rw [if_pos h] at this; omega
  · rename_i h; rw [if_neg h] at this; omega
theorem take_ca (k : Int) (hk0 : 0 ≤ k) (hk1 : k < 18446744073709551616) (hks : ∀ x ∈ s.s, x.kind = 0 ∨ x.kind = 1 ∨ x.kind = 2) (H : Lca w px O s p1 p2) :
    Calls Try.prog 148 #[P0 px, .int .u64 k] w fun e w' => e = .returned (.tuple #[]) ∧ ∃ O', Lca w' px O' ⟨s.c, woL s.s k, s.q⟩ p1 p2 ∧ Chg O O' w w' := by
  refine (take_any px k w hk0 hk1 (H.kd hks k) H.bnd H).mono ?_
  rintro e w' ⟨rfl, O', h1, h2⟩
  have nd := Lcr.nd H
  rw [dmi_many nd, dmi_many nd, dmi_many nd] at h1
  exact ⟨rfl, O', h1, h2⟩
theorem Lcr.cast {m0 m1 m2 n0 n1 n2 : Int} (h : Lcr w px O s m0 m1 m2 p1 p2) (e0 : m0 = n0) (e1 : m1 = n1) (e2 : m2 = n2) : Lcr w px O s n0 n1 n2 p1 p2 := by
  rw [← e0, ← e1, ← e2]; exact h
theorem kind_ca01 (k : Int) (hk0 : 0 ≤ k) (hk1 : k < 18446744073709551616) (hk : k ∈ keysL s.s) (hkd : kindOf s.s k = 0) (H : Lca w px O s p1 p2) :
    Calls Try.prog 190 #[P0 px, .int .u64 k, .int .i64 1] w fun e w' => e = .returned (.tuple #[]) ∧ ∃ O', Lca w' px O' ⟨s.c, setL s.s k 1, s.q⟩ p1 p2 ∧ Chg O O' w w' := by
  have nd := Lcr.nd H
  have e0 := many_setL nd hk 1 0
  have e1 := many_setL nd hk 1 1
  have e2 := many_setL nd hk 1 2
  rw [hkd] at e0 e1 e2
  simp at e0 e1 e2
  refine (kind_01 px k w hk0 hk1 hk hkd H.bnd H).mono ?_
  rintro e w' ⟨rfl, O', h1, h2⟩
  exact ⟨rfl, O', h1.cast (by show _ = (manyL (setL s.s k 1) 0 : Int); omega) (by show _ = (manyL (setL s.s k 1) 1 : Int); omega) (by show _ = (manyL (setL s.s k 1) 2 : Int); omega), h2⟩
theorem kind_ca02 (k : Int) (hk0 : 0 ≤ k) (hk1 : k < 18446744073709551616) (hk : k ∈ keysL s.s) (hkd : kindOf s.s k = 0) (H : Lca w px O s p1 p2) :
    Calls Try.prog 190 #[P0 px, .int .u64 k, .int .i64 2] w fun e w' => e = .returned (.tuple #[]) ∧ ∃ O', Lca w' px O' ⟨s.c, setL s.s k 2, s.q⟩ p1 p2 ∧ Chg O O' w w' := by
  have nd := Lcr.nd H
  have e0 := many_setL nd hk 2 0
  have e1 := many_setL nd hk 2 1
  have e2 := many_setL nd hk 2 2
  rw [hkd] at e0 e1 e2
  simp at e0 e1 e2
  refine (kind_02 px k w hk0 hk1 hk hkd H.bnd H).mono ?_
  rintro e w' ⟨rfl, O', h1, h2⟩
  exact ⟨rfl, O', h1.cast (by show _ = (manyL (setL s.s k 2) 0 : Int); omega) (by show _ = (manyL (setL s.s k 2) 1 : Int); omega) (by show _ = (manyL (setL s.s k 2) 2 : Int); omega), h2⟩
theorem kind_ca21 (k : Int) (hk0 : 0 ≤ k) (hk1 : k < 18446744073709551616) (hk : k ∈ keysL s.s) (hkd : kindOf s.s k = 2) (H : Lca w px O s p1 p2) :
    Calls Try.prog 190 #[P0 px, .int .u64 k, .int .i64 1] w fun e w' => e = .returned (.tuple #[]) ∧ ∃ O', Lca w' px O' ⟨s.c, setL s.s k 1, s.q⟩ p1 p2 ∧ Chg O O' w w' := by
  have nd := Lcr.nd H
  have e0 := many_setL nd hk 1 0
  have e1 := many_setL nd hk 1 1
  have e2 := many_setL nd hk 1 2
  rw [hkd] at e0 e1 e2
  simp at e0 e1 e2
  refine (kind_21 px k w hk0 hk1 hk hkd H.bnd H).mono ?_
  rintro e w' ⟨rfl, O', h1, h2⟩
  exact ⟨rfl, O', h1.cast (by show _ = (manyL (setL s.s k 1) 0 : Int); omega) (by show _ = (manyL (setL s.s k 1) 1 : Int); omega) (by show _ = (manyL (setL s.s k 1) 2 : Int); omega), h2⟩
theorem kind_ca10 (k : Int) (hk0 : 0 ≤ k) (hk1 : k < 18446744073709551616) (hk : k ∈ keysL s.s) (hkd : kindOf s.s k = 1) (H : Lca w px O s p1 p2) :
    Calls Try.prog 190 #[P0 px, .int .u64 k, .int .i64 0] w fun e w' => e = .returned (.tuple #[]) ∧ ∃ O', Lca w' px O' ⟨s.c, setL s.s k 0, s.q⟩ p1 p2 ∧ Chg O O' w w' := by
  have nd := Lcr.nd H
  have e0 := many_setL nd hk 0 0
  have e1 := many_setL nd hk 0 1
  have e2 := many_setL nd hk 0 2
  rw [hkd] at e0 e1 e2
  simp at e0 e1 e2
  refine (kind_10 px k w hk0 hk1 hk hkd H.bnd H).mono ?_
  rintro e w' ⟨rfl, O', h1, h2⟩
  exact ⟨rfl, O', h1.cast (by show _ = (manyL (setL s.s k 0) 0 : Int); omega) (by show _ = (manyL (setL s.s k 0) 1 : Int); omega) (by show _ = (manyL (setL s.s k 0) 2 : Int); omega), h2⟩
set_option maxHeartbeats 1600000 in
theorem behind_ca (k : Int) (hk0 : 0 ≤ k) (hk1 : k < 18446744073709551616) (hp : p2 < 49999) (H : Lca w px O s p1 p2) :
    Calls Try.prog 145 #[P0 px, .int .u64 k] w fun e w' => e = .returned (.tuple #[]) ∧ ∃ O', Lca w' px O' ⟨s.c, s.s, wo s.q k ++ [k]⟩ p1 (max p2 ((wo s.q k).length + 1)) ∧ Chg O O' w w' := by
  obtain ⟨ps, pq, O1, O2, H, rfl⟩ := H
  have HRM := Go.Lib.hid (remove_q k w hk0 hk1 H.qu)
  have HPB := Go.Lib.hid (fun (w' : World) (O2' : Nat → Prop) (h : Sta w' pq O2' (qN [wo s.q k]) p2) => pushback_q k w' hk0 hk1 hp (fun h => (mem_wo.1 h).2 rfl) h)
  have HH := Go.Lib.hid H
  have c1 := H.x.cell 1
  simp only [List.getElem?_cons_zero, List.getElem?_cons_succ] at c1
  clear H
  go_enter Try.func145, Try.ntmps145
  go_wp2_with fail
  refine HRM.out.mono ?_
  rintro e w1 ⟨⟨b, rfl⟩, O2', h1, h2⟩
  obtain ⟨g1, g2⟩ := HH.out.que h1 h2
  have d1 := g1.x.cell 1
  simp only [List.getElem?_cons_zero, List.getElem?_cons_succ] at d1
  have HG1 := Go.Lib.hid g1
  have HG2 := Go.Lib.hid g2
  clear g1 g2 h1 h2 c1
  go_wp2_with fail
  refine (HPB.out w1 O2' HG1.out.qu).mono ?_
  rintro e w2 ⟨rfl, O2'', h1, h2⟩
  obtain ⟨g1, g2⟩ := HG1.out.que h1 h2
  have HM1 := Go.Lib.hid g1
  have HM2 := Go.Lib.hid (HG2.out.trans g2)
  clear g1 g2 h1 h2 d1
  go_wp2_with fail
  go_end0
  exact ⟨rfl, _, ⟨ps, pq, O1, O2'', HM1.out, rfl⟩, HM2.out⟩
set_option maxHeartbeats 1600000 in
theorem top_ca (k f : Int) (hf : f = 1 ∨ f = 2) (hk0 : 0 ≤ k) (hk1 : k < 18446744073709551616) (hp : p1 < 49999) (hks : ∀ x ∈ s.s, x.kind = 0 ∨ x.kind = 1 ∨ x.kind = 2) (H : Lca w px O s p1 p2) :
    Calls Try.prog 144 #[P0 px, .int .u64 k, .int .i64 f] w fun e w' => e = .returned (.tuple #[]) ∧ ∃ O', Lca w' px O' ⟨s.c, ⟨k, f⟩ :: woL s.s k, s.q⟩ (max p1 ((woL s.s k).length + 1)) p2 ∧ Chg O O' w w' := by
  have HTK := Go.Lib.hid (take_ca k hk0 hk1 hks H)
  have eset : setL ((⟨k, 0⟩ : LI) :: woL s.s k) k f = ⟨k, f⟩ :: woL s.s k := by
    have e0 : setL ((⟨k, 0⟩ : LI) :: woL s.s k) k f = (if k = k then ⟨k, f⟩ else ⟨k, 0⟩) :: setL (woL s.s k) k f := rfl
    rw [e0, if_pos rfl, setL_id not_mem_woL]
  have HK : Hid (∀ (w' : World) (O' : Nat → Prop), Lca w' px O' ⟨s.c, (⟨k, 0⟩ : LI) :: woL s.s k, s.q⟩ (max p1 ((woL s.s k).length + 1)) p2 →
      Calls Try.prog 190 #[P0 px, .int .u64 k, .int .i64 f] w' fun e w'' => e = .returned (.tuple #[]) ∧ ∃ O'', Lca w'' px O'' ⟨s.c, ⟨k, f⟩ :: woL s.s k, s.q⟩ (max p1 ((woL s.s k).length + 1)) p2 ∧ Chg O' O'' w' w'') := by
    refine Go.Lib.hid (fun w' O' h => ?_)
    have hm : k ∈ keysL ((⟨k, 0⟩ : LI) :: woL s.s k) := by simp [keysL]
    have hz : kindOf ((⟨k, 0⟩ : LI) :: woL s.s k) k = 0 := by simp [kindOf]
    rw [← eset]
    rcases hf with rfl | rfl
    · exact kind_ca01 k hk0 hk1 hm hz h
    · exact kind_ca02 k hk0 hk1 hm hz h
  have HPF := Go.Lib.hid (fun (ps : Nat) (w' : World) (O1' : Nat → Prop) (h : Sta w' ps O1' [(woL s.s k).map lE] p1) => push_l k w' hk0 hk1 hp not_mem_woL h)
  clear H eset hks
  go_enter Try.func144, Try.ntmps144
  go_wp2_with fail
  refine HTK.out.mono ?_
  rintro e w1 ⟨rfl, O', h1, h2⟩
  have hb := h1.bnd
  obtain ⟨ps, pq, O1, O2, h1, rfl⟩ := h1
  have d0 := h1.x.cell 0
  simp only [List.getElem?_cons_zero, List.getElem?_cons_succ] at d0
  have HG1 := Go.Lib.hid h1
  have HG2 := Go.Lib.hid h2
  have HBD := Go.Lib.hid hb
  clear h1 h2 hb
  go_wp2_with fail
  refine (HPF.out ps w1 O1 HG1.out.st).mono ?_
  rintro e w2 ⟨rfl, O1', h1, h2⟩
  obtain ⟨g1, g2⟩ := HG1.out.stk h1 h2
  have e2 := g1.x.cell 2
  have fe2 := g1.x.frozen 2
  have le := g1.x.lt
  simp only [List.getElem?_cons_zero, List.getElem?_cons_succ] at e2
  have HM1 := Go.Lib.hid g1
  have HM2 := Go.Lib.hid (HG2.out.trans g2)
  obtain ⟨M0, hM0⟩ : ∃ M0 : Int, M0 = (manyL (woL s.s k) 0 : Int) := ⟨_, rfl⟩
  have hMb := HBD.out.1
  (try simp only at e2)
  (try simp only at hMb)
  rw [← hM0] at e2 hMb
  have HM0 := Go.Lib.hid hM0
  obtain ⟨b0, b1⟩ := hMb
  clear g1 g2 h1 h2 d0 hM0
  go_wp2_with fail
  go_region
  have hM1 := HM1.out
  (try simp only at hM1)
  rw [← HM0.out] at hM1
  obtain ⟨n1, n2⟩ := hM1.num 2 (.int .i64 (M0 + 1)) (n0 := M0 + 1) (n1 := manyL (woL s.s k) 1) (n2 := manyL (woL s.s k) 2) (c := s.c) (fun a b => rfl)
  have n3 := (HM2.out.trans n2).drew
  replace n1 := n1.drew
  obtain ⟨W3, hW3⟩ : ∃ W3, W3 = (w2.setCell ⟨px, 2, none⟩ (.int .i64 (M0 + 1))).drew := ⟨_, rfl⟩
  rw [← hW3] at n1 n3 ⊢
  have n4 : Lca W3 px (own2 px O1' O2) ⟨s.c, (⟨k, 0⟩ : LI) :: woL s.s k, s.q⟩ (max p1 ((woL s.s k).length + 1)) p2 := by
    refine ⟨ps, pq, O1', O2, ?_, rfl⟩
    simp only [many_cons]
    simp only [if_true, if_neg (by decide : ¬ (0 : Int) = 1), if_neg (by decide : ¬ (0 : Int) = 2), Nat.zero_add]
    have e : ((1 + manyL (woL s.s k) 0 : Nat) : Int) = M0 + 1 := by have := HM0.out; omega
    rw [e]
    exact n1
  have HN3 := Go.Lib.hid n3
  have HN4 := Go.Lib.hid n4
  clear n1 n2 n3 n4 hW3 hM1 e2 fe2 b0 b1
  go_wp2_with fail
  refine (HK.out W3 _ HN4.out).mono ?_
  rintro e w4 ⟨rfl, O'', h1, h2⟩
  have HZ1 := Go.Lib.hid h1
  have HZ2 := Go.Lib.hid (HN3.out.trans h2)
  clear h1 h2
  go_wp2_with fail
  go_end0
  exact ⟨rfl, _, HZ1.out, HZ2.out⟩
end
end Go.Proofs.Ytlakojncjldpbaa
