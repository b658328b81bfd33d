/- The reference's reading of a line: the walk. -/
import Derived.Test.YtddihnnodegkmaaGreatDoorSr4
namespace Go.Proofs.YtddihnnodegkmaaGreatDoor
open Go.RowKit Hop
set_option linter.unusedVariables false
set_option linter.unusedSimpArgs false
set_option maxRecDepth 100000
def RdE (s : ByteArray) (e : Ending) : Prop := ∃ (o : Op4) (b : Bool), e = .returned (.tuple #[vOp o, .bool b]) ∧ ReadR s.data.toList o b
set_option maxHeartbeats 12800000 in
theorem rread_any (s : ByteArray) (w : World) (hs : s.size ≤ 100000) : Calls Tryz.prog 23 #[.string s] w fun e w' => RdE s e ∧ Below w.heap.size w w' := by
  have HC := Go.Lib.hid (fun w => rcut_any s 32 w hs)
  have e0 := size_data s
  obtain ⟨W, hW⟩ : ∃ W, W = w.alloc (.cells #[.int .i64 0, .int .u64 0, .int .u64 0, .int .i64 0] 25) := ⟨_, rfl⟩
  have B0 : Below w.heap.size w W := by rw [hW]; exact (Below.refl _ _).alloc (Nat.le_refl _) _
  have b0 : Blk W w.heap.size [.int .i64 0, .int .u64 0, .int .u64 0, .int .i64 0] 25 := by rw [hW]; exact Blk.new0 w [.int .i64 0, .int .u64 0, .int .u64 0, .int .i64 0] 25
  have HB0 := Lib.hid B0
  have Hb0 := Lib.hid b0
  have HW := Lib.hid hW
  clear B0 b0 hW
  rcases cut_eq s.data.toList 32 with ⟨hm, em, eq⟩ | ⟨hn, eq⟩
  · have zq := congrArg List.length eq
    rw [List.length_append, List.length_cons] at zq
    obtain ⟨A, hA⟩ : ∃ A : ByteArray, A = ⟨(Lib.cut s.data.toList [32]).1.toArray⟩ := ⟨_, rfl⟩
    obtain ⟨V, hV⟩ : ∃ V : ByteArray, V = ⟨(Lib.cut s.data.toList [32]).2.1.toArray⟩ := ⟨_, rfl⟩
    have eA : A.toList = (Lib.cut s.data.toList [32]).1 := by rw [hA, ByteArray.toList_eq]
    have eV : V.data.toList = (Lib.cut s.data.toList [32]).2.1 := by rw [hV]
    have zV : V.size ≤ 100000 := by rw [← size_data, eV]; omega
    rw [em, ← hA, ← hV] at HC
    have HN := Go.Lib.hid (fun w => rnatural_any V w zV)
    have HI0 := Go.Lib.hid (fun w => rwhole_any V w zV)
    have HP := Go.Lib.hid (fun w => rput_any V w zV)
    have HM : Hid ((32 : UInt8) ∉ A.toList) := Go.Lib.hid (by rw [eA]; exact hm)
    have HS : Hid (s.data.toList = A.toList ++ 32 :: V.data.toList) := Go.Lib.hid (by rw [eA, eV]; exact eq)
    clear hm em eq zq hA hV eA eV zV e0
    go_enter Tryz.func23, Tryz.ntmps23
    go_wp2_with fail
    rw [← HW.out]
    refine (HC.out _).mono ?_
    rintro e w1 ⟨rfl, hb⟩
    have Hb1 := Lib.hid (Hb0.out.keep hb)
    have HB1 := Lib.hid (HB0.out.trans (hb.mono HB0.out.size))
    clear hb
    go_wp2_with fail
    refine (HN.out _).mono ?_
    rintro e w2 ⟨⟨k, a, rfl, hK⟩, hb⟩
    have Hb2 := Lib.hid (Hb1.out.keep hb)
    have HB2 := Lib.hid (HB1.out.trans (hb.mono HB1.out.size))
    clear hb
    go_wp2_with fail
    refine (HI0.out _).mono ?_
    rintro e w3 ⟨⟨n, b, rfl, hI⟩, hb⟩
    have Hb3 := Lib.hid (Hb2.out.keep hb)
    have HB3 := Lib.hid (HB2.out.trans (hb.mono HB2.out.size))
    clear hb
    have HK := Lib.hid hK
    have HI := Lib.hid hI
    have n0 := hI.1
    have n1 := hI.2.1
    clear hK hI HC HN HI0 Hb0 Hb1 Hb2 HW
    by_cases hget : A.toList = [103, 101, 116]
    · have HA := Lib.hid hget
      cases a with
      | true =>
        have bw := Hb3.out
        have c0 := bw.cell 0
        have f0 := bw.frozen 0
        have c1 := bw.cell 1
        have f1 := bw.frozen 1
        have c2 := bw.cell 2
        have f2 := bw.frozen 2
        have c3 := bw.cell 3
        have f3 := bw.frozen 3
        simp only [List.getElem?_cons_zero, List.getElem?_cons_succ] at c0 c1 c2 c3
        have lo := bw.lt
        have HBW := Lib.hid bw
        clear bw
        go_wp2_with fail
        obtain ⟨V9, hV9⟩ : ∃ V9, V9 = ((((w3.setCell ⟨w.heap.size, 0, none⟩ (.int .i64 1)).setCell ⟨w.heap.size, 1, none⟩ (.int .u64 k)).setCell ⟨w.heap.size, 2, none⟩ (.int .u64 0)).setCell ⟨w.heap.size, 3, none⟩ (.int .i64 0)) := ⟨_, rfl⟩
        have b9 : Blk V9 w.heap.size [.int .i64 1, .int .u64 k, .int .u64 0, .int .i64 0] 25 := by rw [hV9]; exact (((HBW.out.set 0 _).set 1 _).set 2 _).set 3 _
        have HB9 : Hid (Below w.heap.size w V9) := Lib.hid (by rw [hV9]; exact below_set (below_set (below_set (below_set HB3.out (Nat.le_refl _) _) (Nat.le_refl _) _) (Nat.le_refl _) _) (Nat.le_refl _) _)
        rw [← hV9]
        clear hV9 c0 c1 c2 c3 f0 f1 f2 f3 lo HBW
        have d0 := b9.cell 0
        have d1 := b9.cell 1
        have d2 := b9.cell 2
        have d3 := b9.cell 3
        simp only [List.getElem?_cons_zero, List.getElem?_cons_succ] at d0 d1 d2 d3
        have dl := b9.lt
        clear b9
        go_wp2_with fail
        refine bodyPost_ret (v := .tuple #[.agg #[.int .i64 1, .int .u64 k, .int .u64 0, .int .i64 0], .bool true]) (by simp [results, Tryz.results23, go_sem, d0, d1, d2, d3]) rfl ⟨⟨⟨1, k, 0, 0⟩, true, rfl, (by rw [HS.out, HA.out]; exact readR_get HK.out)⟩, HB9.out⟩
      | false =>
        have bw := Hb3.out
        have c0 := bw.cell 0
        have f0 := bw.frozen 0
        have c1 := bw.cell 1
        have f1 := bw.frozen 1
        have c2 := bw.cell 2
        have f2 := bw.frozen 2
        have c3 := bw.cell 3
        have f3 := bw.frozen 3
        simp only [List.getElem?_cons_zero, List.getElem?_cons_succ] at c0 c1 c2 c3
        have lo := bw.lt
        have HBW := Lib.hid bw
        clear bw
        go_wp2_with fail
        obtain ⟨V9, hV9⟩ : ∃ V9, V9 = ((((w3.setCell ⟨w.heap.size, 0, none⟩ (.int .i64 n)).setCell ⟨w.heap.size, 1, none⟩ (.int .u64 0)).setCell ⟨w.heap.size, 2, none⟩ (.int .u64 0)).setCell ⟨w.heap.size, 3, none⟩ (.int .i64 0)) := ⟨_, rfl⟩
        have b9 : Blk V9 w.heap.size [.int .i64 n, .int .u64 0, .int .u64 0, .int .i64 0] 25 := by rw [hV9]; exact (((HBW.out.set 0 _).set 1 _).set 2 _).set 3 _
        have HB9 : Hid (Below w.heap.size w V9) := Lib.hid (by rw [hV9]; exact below_set (below_set (below_set (below_set HB3.out (Nat.le_refl _) _) (Nat.le_refl _) _) (Nat.le_refl _) _) (Nat.le_refl _) _)
        rw [← hV9]
        clear hV9 c0 c1 c2 c3 f0 f1 f2 f3 lo HBW
        have d0 := b9.cell 0
        have d1 := b9.cell 1
        have d2 := b9.cell 2
        have d3 := b9.cell 3
        simp only [List.getElem?_cons_zero, List.getElem?_cons_succ] at d0 d1 d2 d3
        have dl := b9.lt
        clear b9
        go_wp2_with fail
        refine bodyPost_ret (v := .tuple #[.agg #[.int .i64 n, .int .u64 0, .int .u64 0, .int .i64 0], .bool false]) (by simp [results, Tryz.results23, go_sem, d0, d1, d2, d3]) rfl ⟨⟨⟨n, 0, 0, 0⟩, false, rfl, (by rw [HS.out]; exact readR_rest HM.out HK.out HI.out (fun _ => rfl) (fun h => absurd (HA.out.symm.trans h) (by decide)) (fun h => absurd (HA.out.symm.trans h) (by decide)) (fun h => absurd (HA.out.symm.trans h) (by decide)) (fun h => absurd (HA.out.symm.trans h) (by decide)))⟩, HB9.out⟩
    have Nget := Lib.hid hget
    have qget : (A.toList == [103, 101, 116]) = false := by rw [beq_eq_false_iff_ne]; exact hget
    clear hget
    by_cases hput : A.toList = [112, 117, 116]
    · have HA := Lib.hid hput
      go_wp2_with fail
      refine (HP.out _).mono ?_
      rintro e w4 ⟨⟨⟨k9, y9, v9, n9⟩, b9, rfl, hO⟩, hb⟩
      have Hb4 := Lib.hid (Hb3.out.keep hb)
      have HB4 := Lib.hid (HB3.out.trans (hb.mono HB3.out.size))
      clear hb
      have HO := Lib.hid hO
      clear hO
      try simp only [vOp]
      have bw := Hb4.out
      have c0 := bw.cell 0
      have f0 := bw.frozen 0
      have c1 := bw.cell 1
      have f1 := bw.frozen 1
      have c2 := bw.cell 2
      have f2 := bw.frozen 2
      have c3 := bw.cell 3
      have f3 := bw.frozen 3
      simp only [List.getElem?_cons_zero, List.getElem?_cons_succ] at c0 c1 c2 c3
      have lo := bw.lt
      have HBW := Lib.hid bw
      clear bw
      go_wp2_with fail
      obtain ⟨V9, hV9⟩ : ∃ V9, V9 = ((((w4.setCell ⟨w.heap.size, 0, none⟩ (.int .i64 k9)).setCell ⟨w.heap.size, 1, none⟩ (.int .u64 y9)).setCell ⟨w.heap.size, 2, none⟩ (.int .u64 v9)).setCell ⟨w.heap.size, 3, none⟩ (.int .i64 n9)) := ⟨_, rfl⟩
      have b9 : Blk V9 w.heap.size [.int .i64 k9, .int .u64 y9, .int .u64 v9, .int .i64 n9] 25 := by rw [hV9]; exact (((HBW.out.set 0 _).set 1 _).set 2 _).set 3 _
      have HB9 : Hid (Below w.heap.size w V9) := Lib.hid (by rw [hV9]; exact below_set (below_set (below_set (below_set HB4.out (Nat.le_refl _) _) (Nat.le_refl _) _) (Nat.le_refl _) _) (Nat.le_refl _) _)
      rw [← hV9]
      clear hV9 c0 c1 c2 c3 f0 f1 f2 f3 lo HBW
      have d0 := b9.cell 0
      have d1 := b9.cell 1
      have d2 := b9.cell 2
      have d3 := b9.cell 3
      simp only [List.getElem?_cons_zero, List.getElem?_cons_succ] at d0 d1 d2 d3
      have dl := b9.lt
      clear b9
      go_wp2_with fail
      refine bodyPost_ret (v := .tuple #[.agg #[.int .i64 k9, .int .u64 y9, .int .u64 v9, .int .i64 n9], .bool b9]) (by simp [results, Tryz.results23, go_sem, d0, d1, d2, d3]) rfl ⟨⟨⟨k9, y9, v9, n9⟩, b9, rfl, (by rw [HS.out, HA.out]; exact HO.out)⟩, HB9.out⟩
    have Nput := Lib.hid hput
    have qput : (A.toList == [112, 117, 116]) = false := by rw [beq_eq_false_iff_ne]; exact hput
    clear hput
    by_cases hdel : A.toList = [100, 101, 108, 101, 116, 101]
    · have HA := Lib.hid hdel
      cases a with
      | true =>
        have bw := Hb3.out
        have c0 := bw.cell 0
        have f0 := bw.frozen 0
        have c1 := bw.cell 1
        have f1 := bw.frozen 1
        have c2 := bw.cell 2
        have f2 := bw.frozen 2
        have c3 := bw.cell 3
        have f3 := bw.frozen 3
        simp only [List.getElem?_cons_zero, List.getElem?_cons_succ] at c0 c1 c2 c3
        have lo := bw.lt
        have HBW := Lib.hid bw
        clear bw
        go_wp2_with fail
        obtain ⟨V9, hV9⟩ : ∃ V9, V9 = ((((w3.setCell ⟨w.heap.size, 0, none⟩ (.int .i64 3)).setCell ⟨w.heap.size, 1, none⟩ (.int .u64 k)).setCell ⟨w.heap.size, 2, none⟩ (.int .u64 0)).setCell ⟨w.heap.size, 3, none⟩ (.int .i64 0)) := ⟨_, rfl⟩
        have b9 : Blk V9 w.heap.size [.int .i64 3, .int .u64 k, .int .u64 0, .int .i64 0] 25 := by rw [hV9]; exact (((HBW.out.set 0 _).set 1 _).set 2 _).set 3 _
        have HB9 : Hid (Below w.heap.size w V9) := Lib.hid (by rw [hV9]; exact below_set (below_set (below_set (below_set HB3.out (Nat.le_refl _) _) (Nat.le_refl _) _) (Nat.le_refl _) _) (Nat.le_refl _) _)
        rw [← hV9]
        clear hV9 c0 c1 c2 c3 f0 f1 f2 f3 lo HBW
        have d0 := b9.cell 0
        have d1 := b9.cell 1
        have d2 := b9.cell 2
        have d3 := b9.cell 3
        simp only [List.getElem?_cons_zero, List.getElem?_cons_succ] at d0 d1 d2 d3
        have dl := b9.lt
        clear b9
        go_wp2_with fail
        refine bodyPost_ret (v := .tuple #[.agg #[.int .i64 3, .int .u64 k, .int .u64 0, .int .i64 0], .bool true]) (by simp [results, Tryz.results23, go_sem, d0, d1, d2, d3]) rfl ⟨⟨⟨3, k, 0, 0⟩, true, rfl, (by rw [HS.out, HA.out]; exact readR_del HK.out)⟩, HB9.out⟩
      | false =>
        have bw := Hb3.out
        have c0 := bw.cell 0
        have f0 := bw.frozen 0
        have c1 := bw.cell 1
        have f1 := bw.frozen 1
        have c2 := bw.cell 2
        have f2 := bw.frozen 2
        have c3 := bw.cell 3
        have f3 := bw.frozen 3
        simp only [List.getElem?_cons_zero, List.getElem?_cons_succ] at c0 c1 c2 c3
        have lo := bw.lt
        have HBW := Lib.hid bw
        clear bw
        go_wp2_with fail
        obtain ⟨V9, hV9⟩ : ∃ V9, V9 = ((((w3.setCell ⟨w.heap.size, 0, none⟩ (.int .i64 n)).setCell ⟨w.heap.size, 1, none⟩ (.int .u64 0)).setCell ⟨w.heap.size, 2, none⟩ (.int .u64 0)).setCell ⟨w.heap.size, 3, none⟩ (.int .i64 0)) := ⟨_, rfl⟩
        have b9 : Blk V9 w.heap.size [.int .i64 n, .int .u64 0, .int .u64 0, .int .i64 0] 25 := by rw [hV9]; exact (((HBW.out.set 0 _).set 1 _).set 2 _).set 3 _
        have HB9 : Hid (Below w.heap.size w V9) := Lib.hid (by rw [hV9]; exact below_set (below_set (below_set (below_set HB3.out (Nat.le_refl _) _) (Nat.le_refl _) _) (Nat.le_refl _) _) (Nat.le_refl _) _)
        rw [← hV9]
        clear hV9 c0 c1 c2 c3 f0 f1 f2 f3 lo HBW
        have d0 := b9.cell 0
        have d1 := b9.cell 1
        have d2 := b9.cell 2
        have d3 := b9.cell 3
        simp only [List.getElem?_cons_zero, List.getElem?_cons_succ] at d0 d1 d2 d3
        have dl := b9.lt
        clear b9
        go_wp2_with fail
        refine bodyPost_ret (v := .tuple #[.agg #[.int .i64 n, .int .u64 0, .int .u64 0, .int .i64 0], .bool false]) (by simp [results, Tryz.results23, go_sem, d0, d1, d2, d3]) rfl ⟨⟨⟨n, 0, 0, 0⟩, false, rfl, (by rw [HS.out]; exact readR_rest HM.out HK.out HI.out (fun h => absurd (HA.out.symm.trans h) (by decide)) (fun h => absurd (HA.out.symm.trans h) (by decide)) (fun _ => rfl) (fun h => absurd (HA.out.symm.trans h) (by decide)) (fun h => absurd (HA.out.symm.trans h) (by decide)))⟩, HB9.out⟩
    have Ndel := Lib.hid hdel
    have qdel : (A.toList == [100, 101, 108, 101, 116, 101]) = false := by rw [beq_eq_false_iff_ne]; exact hdel
    clear hdel
    by_cases hres : A.toList = [114, 101, 115, 105, 122, 101]
    · have HA := Lib.hid hres
      cases b with
      | true =>
        have bw := Hb3.out
        have c0 := bw.cell 0
        have f0 := bw.frozen 0
        have c1 := bw.cell 1
        have f1 := bw.frozen 1
        have c2 := bw.cell 2
        have f2 := bw.frozen 2
        have c3 := bw.cell 3
        have f3 := bw.frozen 3
        simp only [List.getElem?_cons_zero, List.getElem?_cons_succ] at c0 c1 c2 c3
        have lo := bw.lt
        have HBW := Lib.hid bw
        clear bw
        go_wp2_with fail
        obtain ⟨V9, hV9⟩ : ∃ V9, V9 = ((((w3.setCell ⟨w.heap.size, 0, none⟩ (.int .i64 4)).setCell ⟨w.heap.size, 1, none⟩ (.int .u64 0)).setCell ⟨w.heap.size, 2, none⟩ (.int .u64 0)).setCell ⟨w.heap.size, 3, none⟩ (.int .i64 n)) := ⟨_, rfl⟩
        have b9 : Blk V9 w.heap.size [.int .i64 4, .int .u64 0, .int .u64 0, .int .i64 n] 25 := by rw [hV9]; exact (((HBW.out.set 0 _).set 1 _).set 2 _).set 3 _
        have HB9 : Hid (Below w.heap.size w V9) := Lib.hid (by rw [hV9]; exact below_set (below_set (below_set (below_set HB3.out (Nat.le_refl _) _) (Nat.le_refl _) _) (Nat.le_refl _) _) (Nat.le_refl _) _)
        rw [← hV9]
        clear hV9 c0 c1 c2 c3 f0 f1 f2 f3 lo HBW
        have d0 := b9.cell 0
        have d1 := b9.cell 1
        have d2 := b9.cell 2
        have d3 := b9.cell 3
        simp only [List.getElem?_cons_zero, List.getElem?_cons_succ] at d0 d1 d2 d3
        have dl := b9.lt
        clear b9
        go_wp2_with fail
        refine bodyPost_ret (v := .tuple #[.agg #[.int .i64 4, .int .u64 0, .int .u64 0, .int .i64 n], .bool true]) (by simp [results, Tryz.results23, go_sem, d0, d1, d2, d3]) rfl ⟨⟨⟨4, 0, 0, n⟩, true, rfl, (by rw [HS.out, HA.out]; exact readR_res HI.out)⟩, HB9.out⟩
      | false =>
        have bw := Hb3.out
        have c0 := bw.cell 0
        have f0 := bw.frozen 0
        have c1 := bw.cell 1
        have f1 := bw.frozen 1
        have c2 := bw.cell 2
        have f2 := bw.frozen 2
        have c3 := bw.cell 3
        have f3 := bw.frozen 3
        simp only [List.getElem?_cons_zero, List.getElem?_cons_succ] at c0 c1 c2 c3
        have lo := bw.lt
        have HBW := Lib.hid bw
        clear bw
        go_wp2_with fail
        obtain ⟨V9, hV9⟩ : ∃ V9, V9 = ((((w3.setCell ⟨w.heap.size, 0, none⟩ (.int .i64 n)).setCell ⟨w.heap.size, 1, none⟩ (.int .u64 0)).setCell ⟨w.heap.size, 2, none⟩ (.int .u64 0)).setCell ⟨w.heap.size, 3, none⟩ (.int .i64 0)) := ⟨_, rfl⟩
        have b9 : Blk V9 w.heap.size [.int .i64 n, .int .u64 0, .int .u64 0, .int .i64 0] 25 := by rw [hV9]; exact (((HBW.out.set 0 _).set 1 _).set 2 _).set 3 _
        have HB9 : Hid (Below w.heap.size w V9) := Lib.hid (by rw [hV9]; exact below_set (below_set (below_set (below_set HB3.out (Nat.le_refl _) _) (Nat.le_refl _) _) (Nat.le_refl _) _) (Nat.le_refl _) _)
        rw [← hV9]
        clear hV9 c0 c1 c2 c3 f0 f1 f2 f3 lo HBW
        have d0 := b9.cell 0
        have d1 := b9.cell 1
        have d2 := b9.cell 2
        have d3 := b9.cell 3
        simp only [List.getElem?_cons_zero, List.getElem?_cons_succ] at d0 d1 d2 d3
        have dl := b9.lt
        clear b9
        go_wp2_with fail
        refine bodyPost_ret (v := .tuple #[.agg #[.int .i64 n, .int .u64 0, .int .u64 0, .int .i64 0], .bool false]) (by simp [results, Tryz.results23, go_sem, d0, d1, d2, d3]) rfl ⟨⟨⟨n, 0, 0, 0⟩, false, rfl, (by rw [HS.out]; exact readR_rest HM.out HK.out HI.out (fun h => absurd (HA.out.symm.trans h) (by decide)) (fun h => absurd (HA.out.symm.trans h) (by decide)) (fun h => absurd (HA.out.symm.trans h) (by decide)) (fun _ => rfl) (fun h => absurd (HA.out.symm.trans h) (by decide)))⟩, HB9.out⟩
    have Nres := Lib.hid hres
    have qres : (A.toList == [114, 101, 115, 105, 122, 101]) = false := by rw [beq_eq_false_iff_ne]; exact hres
    clear hres
    by_cases hop : A.toList = [111, 112]
    · have HA := Lib.hid hop
      cases b with
      | false =>
        have bw := Hb3.out
        have c0 := bw.cell 0
        have f0 := bw.frozen 0
        have c1 := bw.cell 1
        have f1 := bw.frozen 1
        have c2 := bw.cell 2
        have f2 := bw.frozen 2
        have c3 := bw.cell 3
        have f3 := bw.frozen 3
        simp only [List.getElem?_cons_zero, List.getElem?_cons_succ] at c0 c1 c2 c3
        have lo := bw.lt
        have HBW := Lib.hid bw
        clear bw
        go_wp2_with fail
        obtain ⟨V9, hV9⟩ : ∃ V9, V9 = ((((w3.setCell ⟨w.heap.size, 0, none⟩ (.int .i64 n)).setCell ⟨w.heap.size, 1, none⟩ (.int .u64 0)).setCell ⟨w.heap.size, 2, none⟩ (.int .u64 0)).setCell ⟨w.heap.size, 3, none⟩ (.int .i64 0)) := ⟨_, rfl⟩
        have b9 : Blk V9 w.heap.size [.int .i64 n, .int .u64 0, .int .u64 0, .int .i64 0] 25 := by rw [hV9]; exact (((HBW.out.set 0 _).set 1 _).set 2 _).set 3 _
        have HB9 : Hid (Below w.heap.size w V9) := Lib.hid (by rw [hV9]; exact below_set (below_set (below_set (below_set HB3.out (Nat.le_refl _) _) (Nat.le_refl _) _) (Nat.le_refl _) _) (Nat.le_refl _) _)
        rw [← hV9]
        clear hV9 c0 c1 c2 c3 f0 f1 f2 f3 lo HBW
        have d0 := b9.cell 0
        have d1 := b9.cell 1
        have d2 := b9.cell 2
        have d3 := b9.cell 3
        simp only [List.getElem?_cons_zero, List.getElem?_cons_succ] at d0 d1 d2 d3
        have dl := b9.lt
        clear b9
        go_wp2_with fail
        refine bodyPost_ret (v := .tuple #[.agg #[.int .i64 n, .int .u64 0, .int .u64 0, .int .i64 0], .bool false]) (by simp [results, Tryz.results23, go_sem, d0, d1, d2, d3]) rfl ⟨⟨⟨n, 0, 0, 0⟩, false, rfl, (by rw [HS.out]; exact readR_rest HM.out HK.out HI.out (fun h => absurd (HA.out.symm.trans h) (by decide)) (fun h => absurd (HA.out.symm.trans h) (by decide)) (fun h => absurd (HA.out.symm.trans h) (by decide)) (fun h => absurd (HA.out.symm.trans h) (by decide)) (fun _ h => by cases h))⟩, HB9.out⟩
      | true =>
        by_cases l1 : n < 1
        · have HL := Lib.hid l1
          have bw := Hb3.out
          have c0 := bw.cell 0
          have f0 := bw.frozen 0
          have c1 := bw.cell 1
          have f1 := bw.frozen 1
          have c2 := bw.cell 2
          have f2 := bw.frozen 2
          have c3 := bw.cell 3
          have f3 := bw.frozen 3
          simp only [List.getElem?_cons_zero, List.getElem?_cons_succ] at c0 c1 c2 c3
          have lo := bw.lt
          have HBW := Lib.hid bw
          clear bw
          go_wp2_with fail
          obtain ⟨V9, hV9⟩ : ∃ V9, V9 = ((((w3.setCell ⟨w.heap.size, 0, none⟩ (.int .i64 n)).setCell ⟨w.heap.size, 1, none⟩ (.int .u64 0)).setCell ⟨w.heap.size, 2, none⟩ (.int .u64 0)).setCell ⟨w.heap.size, 3, none⟩ (.int .i64 0)) := ⟨_, rfl⟩
          have b9 : Blk V9 w.heap.size [.int .i64 n, .int .u64 0, .int .u64 0, .int .i64 0] 25 := by rw [hV9]; exact (((HBW.out.set 0 _).set 1 _).set 2 _).set 3 _
          have HB9 : Hid (Below w.heap.size w V9) := Lib.hid (by rw [hV9]; exact below_set (below_set (below_set (below_set HB3.out (Nat.le_refl _) _) (Nat.le_refl _) _) (Nat.le_refl _) _) (Nat.le_refl _) _)
          rw [← hV9]
          clear hV9 c0 c1 c2 c3 f0 f1 f2 f3 lo HBW
          have d0 := b9.cell 0
          have d1 := b9.cell 1
          have d2 := b9.cell 2
          have d3 := b9.cell 3
          simp only [List.getElem?_cons_zero, List.getElem?_cons_succ] at d0 d1 d2 d3
          have dl := b9.lt
          clear b9
          go_wp2_with fail
          refine bodyPost_ret (v := .tuple #[.agg #[.int .i64 n, .int .u64 0, .int .u64 0, .int .i64 0], .bool true]) (by simp [results, Tryz.results23, go_sem, d0, d1, d2, d3]) rfl ⟨⟨⟨n, 0, 0, 0⟩, true, rfl, (by rw [HS.out, HA.out]; exact readR_op HI.out (.inl HL.out))⟩, HB9.out⟩
        by_cases l5 : 5 < n
        · have HL := Lib.hid l5
          have bw := Hb3.out
          have c0 := bw.cell 0
          have f0 := bw.frozen 0
          have c1 := bw.cell 1
          have f1 := bw.frozen 1
          have c2 := bw.cell 2
          have f2 := bw.frozen 2
          have c3 := bw.cell 3
          have f3 := bw.frozen 3
          simp only [List.getElem?_cons_zero, List.getElem?_cons_succ] at c0 c1 c2 c3
          have lo := bw.lt
          have HBW := Lib.hid bw
          clear bw
          go_wp2_with fail
          obtain ⟨V9, hV9⟩ : ∃ V9, V9 = ((((w3.setCell ⟨w.heap.size, 0, none⟩ (.int .i64 n)).setCell ⟨w.heap.size, 1, none⟩ (.int .u64 0)).setCell ⟨w.heap.size, 2, none⟩ (.int .u64 0)).setCell ⟨w.heap.size, 3, none⟩ (.int .i64 0)) := ⟨_, rfl⟩
          have b9 : Blk V9 w.heap.size [.int .i64 n, .int .u64 0, .int .u64 0, .int .i64 0] 25 := by rw [hV9]; exact (((HBW.out.set 0 _).set 1 _).set 2 _).set 3 _
          have HB9 : Hid (Below w.heap.size w V9) := Lib.hid (by rw [hV9]; exact below_set (below_set (below_set (below_set HB3.out (Nat.le_refl _) _) (Nat.le_refl _) _) (Nat.le_refl _) _) (Nat.le_refl _) _)
          rw [← hV9]
          clear hV9 c0 c1 c2 c3 f0 f1 f2 f3 lo HBW
          have d0 := b9.cell 0
          have d1 := b9.cell 1
          have d2 := b9.cell 2
          have d3 := b9.cell 3
          simp only [List.getElem?_cons_zero, List.getElem?_cons_succ] at d0 d1 d2 d3
          have dl := b9.lt
          clear b9
          go_wp2_with fail
          refine bodyPost_ret (v := .tuple #[.agg #[.int .i64 n, .int .u64 0, .int .u64 0, .int .i64 0], .bool true]) (by simp [results, Tryz.results23, go_sem, d0, d1, d2, d3]) rfl ⟨⟨⟨n, 0, 0, 0⟩, true, rfl, (by rw [HS.out, HA.out]; exact readR_op HI.out (.inr HL.out))⟩, HB9.out⟩
        have HL1 := Lib.hid l1
        have HL5 := Lib.hid l5
        have bw := Hb3.out
        have c0 := bw.cell 0
        have f0 := bw.frozen 0
        have c1 := bw.cell 1
        have f1 := bw.frozen 1
        have c2 := bw.cell 2
        have f2 := bw.frozen 2
        have c3 := bw.cell 3
        have f3 := bw.frozen 3
        simp only [List.getElem?_cons_zero, List.getElem?_cons_succ] at c0 c1 c2 c3
        have lo := bw.lt
        have HBW := Lib.hid bw
        clear bw
        go_wp2_with fail
        obtain ⟨V9, hV9⟩ : ∃ V9, V9 = ((((w3.setCell ⟨w.heap.size, 0, none⟩ (.int .i64 n)).setCell ⟨w.heap.size, 1, none⟩ (.int .u64 0)).setCell ⟨w.heap.size, 2, none⟩ (.int .u64 0)).setCell ⟨w.heap.size, 3, none⟩ (.int .i64 0)) := ⟨_, rfl⟩
        have b9 : Blk V9 w.heap.size [.int .i64 n, .int .u64 0, .int .u64 0, .int .i64 0] 25 := by rw [hV9]; exact (((HBW.out.set 0 _).set 1 _).set 2 _).set 3 _
        have HB9 : Hid (Below w.heap.size w V9) := Lib.hid (by rw [hV9]; exact below_set (below_set (below_set (below_set HB3.out (Nat.le_refl _) _) (Nat.le_refl _) _) (Nat.le_refl _) _) (Nat.le_refl _) _)
        rw [← hV9]
        clear hV9 c0 c1 c2 c3 f0 f1 f2 f3 lo HBW
        have d0 := b9.cell 0
        have d1 := b9.cell 1
        have d2 := b9.cell 2
        have d3 := b9.cell 3
        simp only [List.getElem?_cons_zero, List.getElem?_cons_succ] at d0 d1 d2 d3
        have dl := b9.lt
        clear b9
        go_wp2_with fail
        refine bodyPost_ret (v := .tuple #[.agg #[.int .i64 n, .int .u64 0, .int .u64 0, .int .i64 0], .bool false]) (by simp [results, Tryz.results23, go_sem, d0, d1, d2, d3]; omega) rfl ⟨⟨⟨n, 0, 0, 0⟩, false, rfl, (by rw [HS.out]; exact readR_rest HM.out HK.out HI.out (fun h => absurd (HA.out.symm.trans h) (by decide)) (fun h => absurd (HA.out.symm.trans h) (by decide)) (fun h => absurd (HA.out.symm.trans h) (by decide)) (fun h => absurd (HA.out.symm.trans h) (by decide)) (fun _ _ => by have q1 := HL1.out; have q5 := HL5.out; omega))⟩, HB9.out⟩
    have Nop := Lib.hid hop
    have qop : (A.toList == [111, 112]) = false := by rw [beq_eq_false_iff_ne]; exact hop
    clear hop
    have bw := Hb3.out
    have c0 := bw.cell 0
    have f0 := bw.frozen 0
    have c1 := bw.cell 1
    have f1 := bw.frozen 1
    have c2 := bw.cell 2
    have f2 := bw.frozen 2
    have c3 := bw.cell 3
    have f3 := bw.frozen 3
    simp only [List.getElem?_cons_zero, List.getElem?_cons_succ] at c0 c1 c2 c3
    have lo := bw.lt
    have HBW := Lib.hid bw
    clear bw
    go_wp2_with fail
    obtain ⟨V9, hV9⟩ : ∃ V9, V9 = ((((w3.setCell ⟨w.heap.size, 0, none⟩ (.int .i64 n)).setCell ⟨w.heap.size, 1, none⟩ (.int .u64 0)).setCell ⟨w.heap.size, 2, none⟩ (.int .u64 0)).setCell ⟨w.heap.size, 3, none⟩ (.int .i64 0)) := ⟨_, rfl⟩
    have b9 : Blk V9 w.heap.size [.int .i64 n, .int .u64 0, .int .u64 0, .int .i64 0] 25 := by rw [hV9]; exact (((HBW.out.set 0 _).set 1 _).set 2 _).set 3 _
    have HB9 : Hid (Below w.heap.size w V9) := Lib.hid (by rw [hV9]; exact below_set (below_set (below_set (below_set HB3.out (Nat.le_refl _) _) (Nat.le_refl _) _) (Nat.le_refl _) _) (Nat.le_refl _) _)
    rw [← hV9]
    clear hV9 c0 c1 c2 c3 f0 f1 f2 f3 lo HBW
    have d0 := b9.cell 0
    have d1 := b9.cell 1
    have d2 := b9.cell 2
    have d3 := b9.cell 3
    simp only [List.getElem?_cons_zero, List.getElem?_cons_succ] at d0 d1 d2 d3
    have dl := b9.lt
    clear b9
    go_wp2_with fail
    refine bodyPost_ret (v := .tuple #[.agg #[.int .i64 n, .int .u64 0, .int .u64 0, .int .i64 0], .bool false]) (by simp [results, Tryz.results23, go_sem, d0, d1, d2, d3]) rfl ⟨⟨⟨n, 0, 0, 0⟩, false, rfl, (by rw [HS.out]; exact readR_rest HM.out HK.out HI.out (fun h => absurd h Nget.out) (fun h => absurd h Nput.out) (fun h => absurd h Ndel.out) (fun h => absurd h Nres.out) (fun h => absurd h Nop.out))⟩, HB9.out⟩
  · rw [eq] at HC
    have HN : Hid ((32 : UInt8) ∉ s.data.toList) := Go.Lib.hid hn
    clear hn eq e0
    go_enter Tryz.func23, Tryz.ntmps23
    go_wp2_with fail
    rw [← HW.out]
    refine (HC.out _).mono ?_
    rintro e w3 ⟨rfl, hb⟩
    have Hb3 := Lib.hid (Hb0.out.keep hb)
    have HB3 := Lib.hid (HB0.out.trans (hb.mono HB0.out.size))
    clear hb
    clear HC Hb0 HW
    by_cases hlen : s.toList = [108, 101, 110]
    · have HA := Lib.hid hlen
      have bw := Hb3.out
      have c0 := bw.cell 0
      have f0 := bw.frozen 0
      have c1 := bw.cell 1
      have f1 := bw.frozen 1
      have c2 := bw.cell 2
      have f2 := bw.frozen 2
      have c3 := bw.cell 3
      have f3 := bw.frozen 3
      simp only [List.getElem?_cons_zero, List.getElem?_cons_succ] at c0 c1 c2 c3
      have lo := bw.lt
      have HBW := Lib.hid bw
      clear bw
      go_wp2_with fail
      obtain ⟨V9, hV9⟩ : ∃ V9, V9 = ((((w3.setCell ⟨w.heap.size, 0, none⟩ (.int .i64 5)).setCell ⟨w.heap.size, 1, none⟩ (.int .u64 0)).setCell ⟨w.heap.size, 2, none⟩ (.int .u64 0)).setCell ⟨w.heap.size, 3, none⟩ (.int .i64 0)) := ⟨_, rfl⟩
      have b9 : Blk V9 w.heap.size [.int .i64 5, .int .u64 0, .int .u64 0, .int .i64 0] 25 := by rw [hV9]; exact (((HBW.out.set 0 _).set 1 _).set 2 _).set 3 _
      have HB9 : Hid (Below w.heap.size w V9) := Lib.hid (by rw [hV9]; exact below_set (below_set (below_set (below_set HB3.out (Nat.le_refl _) _) (Nat.le_refl _) _) (Nat.le_refl _) _) (Nat.le_refl _) _)
      rw [← hV9]
      clear hV9 c0 c1 c2 c3 f0 f1 f2 f3 lo HBW
      have d0 := b9.cell 0
      have d1 := b9.cell 1
      have d2 := b9.cell 2
      have d3 := b9.cell 3
      simp only [List.getElem?_cons_zero, List.getElem?_cons_succ] at d0 d1 d2 d3
      have dl := b9.lt
      clear b9
      go_wp2_with fail
      refine bodyPost_ret (v := .tuple #[.agg #[.int .i64 5, .int .u64 0, .int .u64 0, .int .i64 0], .bool true]) (by simp [results, Tryz.results23, go_sem, d0, d1, d2, d3]) rfl ⟨⟨⟨5, 0, 0, 0⟩, true, rfl, (readR_len HN.out true ⟨fun _ => by rw [← ByteArray.toList_eq]; exact HA.out, fun _ => rfl⟩)⟩, HB9.out⟩
    have NA := Lib.hid hlen
    have bw := Hb3.out
    have c0 := bw.cell 0
    have f0 := bw.frozen 0
    have c1 := bw.cell 1
    have f1 := bw.frozen 1
    have c2 := bw.cell 2
    have f2 := bw.frozen 2
    have c3 := bw.cell 3
    have f3 := bw.frozen 3
    simp only [List.getElem?_cons_zero, List.getElem?_cons_succ] at c0 c1 c2 c3
    have lo := bw.lt
    have HBW := Lib.hid bw
    clear bw
    go_wp2_with fail
    obtain ⟨V9, hV9⟩ : ∃ V9, V9 = ((((w3.setCell ⟨w.heap.size, 0, none⟩ (.int .i64 5)).setCell ⟨w.heap.size, 1, none⟩ (.int .u64 0)).setCell ⟨w.heap.size, 2, none⟩ (.int .u64 0)).setCell ⟨w.heap.size, 3, none⟩ (.int .i64 0)) := ⟨_, rfl⟩
    have b9 : Blk V9 w.heap.size [.int .i64 5, .int .u64 0, .int .u64 0, .int .i64 0] 25 := by rw [hV9]; exact (((HBW.out.set 0 _).set 1 _).set 2 _).set 3 _
    have HB9 : Hid (Below w.heap.size w V9) := Lib.hid (by rw [hV9]; exact below_set (below_set (below_set (below_set HB3.out (Nat.le_refl _) _) (Nat.le_refl _) _) (Nat.le_refl _) _) (Nat.le_refl _) _)
    rw [← hV9]
    clear hV9 c0 c1 c2 c3 f0 f1 f2 f3 lo HBW
    have d0 := b9.cell 0
    have d1 := b9.cell 1
    have d2 := b9.cell 2
    have d3 := b9.cell 3
    simp only [List.getElem?_cons_zero, List.getElem?_cons_succ] at d0 d1 d2 d3
    have dl := b9.lt
    clear b9
    go_wp2_with fail
    refine bodyPost_ret (v := .tuple #[.agg #[.int .i64 5, .int .u64 0, .int .u64 0, .int .i64 0], .bool false]) (by simp [results, Tryz.results23, go_sem, d0, d1, d2, d3]; exact NA.out) rfl ⟨⟨⟨5, 0, 0, 0⟩, false, rfl, (readR_len HN.out false ⟨(fun h => by cases h), fun h => absurd (by rw [ByteArray.toList_eq]; exact h) NA.out⟩)⟩, HB9.out⟩
theorem rread_is (s : ByteArray) (w : World) (hs : s.size ≤ 100000) : Calls Tryz.prog 23 #[.string s] w fun e w' => (∃ o : Op4, e = .returned (.tuple #[vOp o, .bool (okL s)]) ∧ o.ok ∧ (okL s = true → o = rdF s)) ∧ Below w.heap.size w w' := by
  refine (rread_any s w hs).mono ?_
  rintro e w' ⟨⟨o, b, rfl, h⟩, hb⟩
  obtain ⟨h1, h2⟩ := readR_is h
  exact ⟨⟨o, by rw [h1], h.1, h2⟩, hb⟩
end Go.Proofs.YtddihnnodegkmaaGreatDoor
