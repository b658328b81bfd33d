/- The reference's whole numbers and puts: the walks. -/
import Derived.Test.YtddihnnodegkmaaGreatDoorSr3
namespace Go.Proofs.YtddihnnodegkmaaGreatDoor
open Go.RowKit Hop
set_option linter.unusedVariables false
set_option linter.unusedSimpArgs false
set_option maxRecDepth 100000
def IntE (l : List UInt8) (e : Ending) : Prop := ∃ (n : Int) (b : Bool), e = .returned (.tuple #[.int .i64 n, .bool b]) ∧ IntR l n b
theorem head_at {s : ByteArray} (l0 : 0 < s.size) : s.data.toList.head? = some s[0] := by
  rw [List.head?_eq_getElem?, Array.getElem?_toList]; exact Array.getElem?_eq_getElem l0
theorem intR_cast {l : List UInt8} {x y : Int} {b : Bool} (h : IntR l x b) (e : x = y) : IntR l y b := e ▸ h
set_option maxHeartbeats 6400000 in
theorem rwhole_plain (s : ByteArray) (w : World) (hs : s.size ≤ 100000) (hh : s.data.toList.head? ≠ some 45) : Calls Tryz.prog 39 #[.string s] w fun e w' => IntE s.data.toList e ∧ Below w.heap.size w w' := by
  have HN := Go.Lib.hid (fun w => rnatural_any s w hs)
  have HH := Go.Lib.hid hh
  have hc : s.size = 0 ∨ ∃ h : 0 < s.size, ((s[0].toNat : Int) == 45) = false := by
    by_cases h : s.size = 0
    · exact .inl h
    · refine .inr ⟨by omega, ?_⟩
      rw [beq_eq_false_iff_ne]
      intro q
      apply hh
      rw [head_at (by omega)]
      congr 1
      exact UInt8.toNat_inj.1 (by show s[0].toNat = 45; omega)
  clear hh
  rcases hc with hz | ⟨l0, hq⟩
  · go_enter Tryz.func39, Tryz.ntmps39
    go_wp2_with fail
    refine (HN.out _).mono ?_
    rintro e w1 ⟨⟨n, b, rfl, hR⟩, hb⟩
    have n1 : (n : Int) < 18446744073709551616 := by have := hR.1; omega
    have HR := Go.Lib.hid hR
    have HB := Go.Lib.hid hb
    clear hR hb
    cases b with
    | false =>
      go_wp2_with fail
      have Q : IntR s.data.toList 0 false := intR_pos_not HR.out HH.out (.inl rfl)
      refine bodyPost_ret (v := .tuple #[.int .i64 0, .bool false]) (by simp [results, Tryz.results39, go_sem]) rfl ⟨⟨0, false, rfl, Q⟩, HB.out.os, HB.out.tape, HB.out.output, HB.out.size, HB.out.block⟩
    | true =>
      by_cases h9 : 9223372036854775807 < (n : Int)
      · go_wp2_with fail
        have Q : IntR s.data.toList 0 false := intR_pos_not HR.out HH.out (.inr (by omega))
        refine bodyPost_ret (v := .tuple #[.int .i64 0, .bool false]) (by simp [results, Tryz.results39, go_sem]) rfl ⟨⟨0, false, rfl, Q⟩, HB.out.os, HB.out.tape, HB.out.output, HB.out.size, HB.out.block⟩
      · have h8 : (n : Int) ≤ 9223372036854775807 := by omega
        clear h9 n1
        go_wp2_with fail
        have Q : IntR s.data.toList n true := intR_pos HR.out (by omega)
        refine bodyPost_ret (v := .tuple #[.int .i64 n, .bool true]) (by simp [results, Tryz.results39, go_sem]) rfl ⟨⟨n, true, rfl, Q⟩, HB.out.os, HB.out.tape, HB.out.output, HB.out.size, HB.out.block⟩
  · go_enter Tryz.func39, Tryz.ntmps39
    go_wp2_with fail
    refine (HN.out _).mono ?_
    rintro e w1 ⟨⟨n, b, rfl, hR⟩, hb⟩
    have n1 : (n : Int) < 18446744073709551616 := by have := hR.1; omega
    have HR := Go.Lib.hid hR
    have HB := Go.Lib.hid hb
    clear hR hb
    cases b with
    | false =>
      go_wp2_with fail
      have Q : IntR s.data.toList 0 false := intR_pos_not HR.out HH.out (.inl rfl)
      refine bodyPost_ret (v := .tuple #[.int .i64 0, .bool false]) (by simp [results, Tryz.results39, go_sem]) rfl ⟨⟨0, false, rfl, Q⟩, HB.out.os, HB.out.tape, HB.out.output, HB.out.size, HB.out.block⟩
    | true =>
      by_cases h9 : 9223372036854775807 < (n : Int)
      · go_wp2_with fail
        have Q : IntR s.data.toList 0 false := intR_pos_not HR.out HH.out (.inr (by omega))
        refine bodyPost_ret (v := .tuple #[.int .i64 0, .bool false]) (by simp [results, Tryz.results39, go_sem]) rfl ⟨⟨0, false, rfl, Q⟩, HB.out.os, HB.out.tape, HB.out.output, HB.out.size, HB.out.block⟩
      · have h8 : (n : Int) ≤ 9223372036854775807 := by omega
        clear h9 n1
        go_wp2_with fail
        have Q : IntR s.data.toList n true := intR_pos HR.out (by omega)
        refine bodyPost_ret (v := .tuple #[.int .i64 n, .bool true]) (by simp [results, Tryz.results39, go_sem]) rfl ⟨⟨n, true, rfl, Q⟩, HB.out.os, HB.out.tape, HB.out.output, HB.out.size, HB.out.block⟩
set_option maxHeartbeats 6400000 in
theorem rwhole_neg (s : ByteArray) (t : List UInt8) (w : World) (hs : s.size ≤ 100000) (hh : s.data.toList = 45 :: t) : Calls Tryz.prog 39 #[.string s] w fun e w' => IntE s.data.toList e ∧ Below w.heap.size w w' := by
  have l0 : 0 < s.size := by rw [← size_data, hh]; simp
  have hq : ((s[0].toNat : Int) == 45) = true := by
    have e := head_at l0
    rw [hh] at e
    injection e with e
    rw [← e]; rfl
  have et : (s.extract 1 s.size).data.toList = t := by rw [ext_data, hh, ← size_data, hh, List.take_length]; rfl
  have zs : (s.extract 1 s.size).size ≤ 100000 := by rw [ByteArray.size_extract]; omega
  have HN := Go.Lib.hid (fun w => rnatural_any (s.extract 1 s.size) w zs)
  rw [et] at HN
  have HS := Go.Lib.hid hh
  clear hh et zs
  go_enter Tryz.func39, Tryz.ntmps39
  go_wp2_with fail
  refine (HN.out _).mono ?_
  rintro e w1 ⟨⟨n, b, rfl, hR⟩, hb⟩
  have n1 : (n : Int) < 18446744073709551616 := by have := hR.1; omega
  have HR := Go.Lib.hid hR
  have HB := Go.Lib.hid hb
  clear hR hb
  cases b with
  | false =>
    go_wp2_with fail
    have Q : IntR s.data.toList 0 false := by
      rw [HS.out]
      exact intR_neg_not HR.out (.inl rfl)
    refine bodyPost_ret (v := .tuple #[.int .i64 0, .bool false]) (by simp [results, Tryz.results39, go_sem]) rfl ⟨⟨0, false, rfl, Q⟩, HB.out.os, HB.out.tape, HB.out.output, HB.out.size, HB.out.block⟩
  | true =>
    by_cases h0 : n = 0
    · subst h0
      go_wp2_with fail
      have Q : IntR s.data.toList 0 false := by
        rw [HS.out]
        exact intR_neg_not HR.out (.inr (.inl rfl))
      refine bodyPost_ret (v := .tuple #[.int .i64 0, .bool false]) (by simp [results, Tryz.results39, go_sem]) rfl ⟨⟨0, false, rfl, Q⟩, HB.out.os, HB.out.tape, HB.out.output, HB.out.size, HB.out.block⟩
    by_cases h9 : 9223372036854775808 < (n : Int)
    · go_wp2_with fail
      have Q : IntR s.data.toList 0 false := by
        rw [HS.out]
        exact intR_neg_not HR.out (.inr (.inr (by omega)))
      refine bodyPost_ret (v := .tuple #[.int .i64 0, .bool false]) (by simp [results, Tryz.results39, go_sem]) rfl ⟨⟨0, false, rfl, Q⟩, HB.out.os, HB.out.tape, HB.out.output, HB.out.size, HB.out.block⟩
    have Q : IntR s.data.toList (-(n : Int)) true := by
      rw [HS.out]
      exact intR_neg HR.out (by omega) (by omega)
    have HQ := Go.Lib.hid Q
    obtain ⟨x, hx⟩ : ∃ x : Int, x = n := ⟨_, rfl⟩
    rw [← hx] at HQ
    rw [← hx]
    have m0 : 1 ≤ x := by omega
    have m1 : x ≤ 9223372036854775808 := by omega
    have m2 : (x == 0) = false := by rw [beq_eq_false_iff_ne]; omega
    have m3 : 0 ≤ x - 1 := by omega
    have m4 : x - 1 ≤ 9223372036854775807 := by omega
    clear h0 h9 n1 hx HR Q
    go_wp2_with fail
    have e : -(x - 1) - 1 = -x := by omega
    refine bodyPost_ret (v := .tuple #[.int .i64 (-x), .bool true]) (by simp [results, Tryz.results39, go_sem, e]) rfl ⟨⟨-x, true, rfl, HQ.out⟩, HB.out.os, HB.out.tape, HB.out.output, HB.out.size, HB.out.block⟩
theorem rwhole_any (s : ByteArray) (w : World) (hs : s.size ≤ 100000) : Calls Tryz.prog 39 #[.string s] w fun e w' => IntE s.data.toList e ∧ Below w.heap.size w w' := by
  by_cases h : s.data.toList.head? = some 45
  · cases hd : s.data.toList with
    | nil => rw [hd] at h; cases h
    | cons a t =>
      rw [hd] at h
      injection h with h
      subst h
      have q := rwhole_neg s t w hs hd
      rwa [hd] at q
  · exact rwhole_plain s w hs h
def PutE (l : List UInt8) (e : Ending) : Prop := ∃ (o : Op4) (b : Bool), e = .returned (.tuple #[vOp o, .bool b]) ∧ ReadR ([112, 117, 116] ++ 32 :: l) o b
set_option maxHeartbeats 6400000 in
theorem rput_any (s : ByteArray) (w : World) (hs : s.size ≤ 100000) : Calls Tryz.prog 40 #[.string s] w fun e w' => PutE s.data.toList e ∧ Below w.heap.size w w' := by
  have HC := Go.Lib.hid (fun w => rcut_any s 32 w hs)
  have z1 : (Lib.cut s.data.toList [32]).1.length ≤ 100000 ∧ (Lib.cut s.data.toList [32]).2.1.length ≤ 100000 := by
    have e := size_data s
    rcases cut_eq s.data.toList 32 with ⟨_, _, q⟩ | ⟨_, q⟩
    · have := congrArg List.length q
      rw [List.length_append, List.length_cons] at this
      omega
    · rw [q]; simp; omega
  obtain ⟨A, hA⟩ : ∃ A : ByteArray, A = ⟨(Lib.cut s.data.toList [32]).1.toArray⟩ := ⟨_, rfl⟩
  obtain ⟨V, hV⟩ : ∃ V : ByteArray, V = ⟨(Lib.cut s.data.toList [32]).2.1.toArray⟩ := ⟨_, rfl⟩
  have zA : A.size ≤ 100000 := by rw [← size_data, hA]; exact z1.1
  have zV : V.size ≤ 100000 := by rw [← size_data, hV]; exact z1.2
  rw [← hA, ← hV] at HC
  have HA := Go.Lib.hid (fun w => rnatural_any A w zA)
  have HV := Go.Lib.hid (fun w => rnatural_any V w zV)
  rw [show A.data.toList = (Lib.cut s.data.toList [32]).1 by rw [hA]] at HA
  rw [show V.data.toList = (Lib.cut s.data.toList [32]).2.1 by rw [hV]] at HV
  generalize (Lib.cut s.data.toList [32]).2.2 = M at HC
  clear hA hV zA zV z1
  obtain ⟨W, hW⟩ : ∃ W, W = w.alloc (.cells #[.int .i64 0, .int .u64 0, .int .u64 0, .int .i64 0] 25) := ⟨_, rfl⟩
  have B0 : Below w.heap.size w W := by rw [hW]; exact (Below.refl _ _).alloc (Nat.le_refl _) _
  have b0 : Blk W w.heap.size [.int .i64 0, .int .u64 0, .int .u64 0, .int .i64 0] 25 := by rw [hW]; exact Blk.new0 w [.int .i64 0, .int .u64 0, .int .u64 0, .int .i64 0] 25
  have HB0 := Lib.hid B0
  have Hb0 := Lib.hid b0
  have HW := Lib.hid hW
  clear B0 b0 hW
  go_enter Tryz.func40, Tryz.ntmps40
  go_wp2_with fail
  rw [← HW.out]
  refine (HC.out _).mono ?_
  rintro e w1 ⟨rfl, hb⟩
  have Hb1 := Lib.hid (Hb0.out.keep hb)
  have HB1 := Lib.hid (HB0.out.trans (hb.mono HB0.out.size))
  clear hb
  go_wp2_with fail
  refine (HA.out _).mono ?_
  rintro e w2 ⟨⟨k, a, rfl, hK⟩, hb⟩
  have Hb2 := Lib.hid (Hb1.out.keep hb)
  have HB2 := Lib.hid (HB1.out.trans (hb.mono HB1.out.size))
  clear hb
  go_wp2_with fail
  refine (HV.out _).mono ?_
  rintro e w3 ⟨⟨v, b, rfl, hV⟩, hb⟩
  have Hb3 := Lib.hid (Hb2.out.keep hb)
  have HB3 := Lib.hid (HB2.out.trans (hb.mono HB2.out.size))
  clear hb
  have HK := Lib.hid hK
  have HV' := Lib.hid hV
  clear hK hV HC HA HV Hb0 Hb1 Hb2 HW
  cases a with
  | false =>
    have bw := Hb3.out
    have c0 := bw.cell 0
    have f0 := bw.frozen 0
    have c1 := bw.cell 1
    have f1 := bw.frozen 1
    have c2 := bw.cell 2
    have f2 := bw.frozen 2
    have c3 := bw.cell 3
    have f3 := bw.frozen 3
    simp only [List.getElem?_cons_zero, List.getElem?_cons_succ] at c0 c1 c2 c3
    have lo := bw.lt
    have HBW := Lib.hid bw
    clear bw
    go_wp2_with fail
    obtain ⟨V9, hV9⟩ : ∃ V9, V9 = ((((w3.setCell ⟨w.heap.size, 0, none⟩ (.int .i64 0)).setCell ⟨w.heap.size, 1, none⟩ (.int .u64 0)).setCell ⟨w.heap.size, 2, none⟩ (.int .u64 0)).setCell ⟨w.heap.size, 3, none⟩ (.int .i64 0)) := ⟨_, rfl⟩
    have b9 : Blk V9 w.heap.size [.int .i64 0, .int .u64 0, .int .u64 0, .int .i64 0] 25 := by rw [hV9]; exact (((HBW.out.set 0 _).set 1 _).set 2 _).set 3 _
    have HB9 : Hid (Below w.heap.size w V9) := Lib.hid (by rw [hV9]; exact below_set (below_set (below_set (below_set HB3.out (Nat.le_refl _) _) (Nat.le_refl _) _) (Nat.le_refl _) _) (Nat.le_refl _) _)
    rw [← hV9]
    clear hV9 c0 c1 c2 c3 f0 f1 f2 f3 lo HBW
    have d0 := b9.cell 0
    have d1 := b9.cell 1
    have d2 := b9.cell 2
    have d3 := b9.cell 3
    simp only [List.getElem?_cons_zero, List.getElem?_cons_succ] at d0 d1 d2 d3
    have dl := b9.lt
    clear b9
    go_wp2_with fail
    refine bodyPost_ret (v := .tuple #[.agg #[.int .i64 0, .int .u64 0, .int .u64 0, .int .i64 0], .bool false]) (by simp [results, Tryz.results40, go_sem, d0, d1, d2, d3]) rfl ⟨⟨⟨0, 0, 0, 0⟩, false, rfl, readR_put_not HK.out HV'.out (.inl rfl)⟩, HB9.out⟩
  | true =>
    cases b with
    | false =>
      have bw := Hb3.out
      have c0 := bw.cell 0
      have f0 := bw.frozen 0
      have c1 := bw.cell 1
      have f1 := bw.frozen 1
      have c2 := bw.cell 2
      have f2 := bw.frozen 2
      have c3 := bw.cell 3
      have f3 := bw.frozen 3
      simp only [List.getElem?_cons_zero, List.getElem?_cons_succ] at c0 c1 c2 c3
      have lo := bw.lt
      have HBW := Lib.hid bw
      clear bw
      go_wp2_with fail
      obtain ⟨V9, hV9⟩ : ∃ V9, V9 = ((((w3.setCell ⟨w.heap.size, 0, none⟩ (.int .i64 0)).setCell ⟨w.heap.size, 1, none⟩ (.int .u64 0)).setCell ⟨w.heap.size, 2, none⟩ (.int .u64 0)).setCell ⟨w.heap.size, 3, none⟩ (.int .i64 0)) := ⟨_, rfl⟩
      have b9 : Blk V9 w.heap.size [.int .i64 0, .int .u64 0, .int .u64 0, .int .i64 0] 25 := by rw [hV9]; exact (((HBW.out.set 0 _).set 1 _).set 2 _).set 3 _
      have HB9 : Hid (Below w.heap.size w V9) := Lib.hid (by rw [hV9]; exact below_set (below_set (below_set (below_set HB3.out (Nat.le_refl _) _) (Nat.le_refl _) _) (Nat.le_refl _) _) (Nat.le_refl _) _)
      rw [← hV9]
      clear hV9 c0 c1 c2 c3 f0 f1 f2 f3 lo HBW
      have d0 := b9.cell 0
      have d1 := b9.cell 1
      have d2 := b9.cell 2
      have d3 := b9.cell 3
      simp only [List.getElem?_cons_zero, List.getElem?_cons_succ] at d0 d1 d2 d3
      have dl := b9.lt
      clear b9
      go_wp2_with fail
      refine bodyPost_ret (v := .tuple #[.agg #[.int .i64 0, .int .u64 0, .int .u64 0, .int .i64 0], .bool false]) (by simp [results, Tryz.results40, go_sem, d0, d1, d2, d3]) rfl ⟨⟨⟨0, 0, 0, 0⟩, false, rfl, readR_put_not HK.out HV'.out (.inr rfl)⟩, HB9.out⟩
    | true =>
      have bw := Hb3.out
      have c0 := bw.cell 0
      have f0 := bw.frozen 0
      have c1 := bw.cell 1
      have f1 := bw.frozen 1
      have c2 := bw.cell 2
      have f2 := bw.frozen 2
      have c3 := bw.cell 3
      have f3 := bw.frozen 3
      simp only [List.getElem?_cons_zero, List.getElem?_cons_succ] at c0 c1 c2 c3
      have lo := bw.lt
      have HBW := Lib.hid bw
      clear bw
      go_wp2_with fail
      obtain ⟨V9, hV9⟩ : ∃ V9, V9 = ((((w3.setCell ⟨w.heap.size, 0, none⟩ (.int .i64 2)).setCell ⟨w.heap.size, 1, none⟩ (.int .u64 k)).setCell ⟨w.heap.size, 2, none⟩ (.int .u64 v)).setCell ⟨w.heap.size, 3, none⟩ (.int .i64 0)) := ⟨_, rfl⟩
      have b9 : Blk V9 w.heap.size [.int .i64 2, .int .u64 k, .int .u64 v, .int .i64 0] 25 := by rw [hV9]; exact (((HBW.out.set 0 _).set 1 _).set 2 _).set 3 _
      have HB9 : Hid (Below w.heap.size w V9) := Lib.hid (by rw [hV9]; exact below_set (below_set (below_set (below_set HB3.out (Nat.le_refl _) _) (Nat.le_refl _) _) (Nat.le_refl _) _) (Nat.le_refl _) _)
      rw [← hV9]
      clear hV9 c0 c1 c2 c3 f0 f1 f2 f3 lo HBW
      have d0 := b9.cell 0
      have d1 := b9.cell 1
      have d2 := b9.cell 2
      have d3 := b9.cell 3
      simp only [List.getElem?_cons_zero, List.getElem?_cons_succ] at d0 d1 d2 d3
      have dl := b9.lt
      clear b9
      go_wp2_with fail
      refine bodyPost_ret (v := .tuple #[.agg #[.int .i64 2, .int .u64 k, .int .u64 v, .int .i64 0], .bool true]) (by simp [results, Tryz.results40, go_sem, d0, d1, d2, d3]) rfl ⟨⟨⟨2, k, v, 0⟩, true, rfl, readR_put (b := true) HK.out HV'.out⟩, HB9.out⟩
end Go.Proofs.YtddihnnodegkmaaGreatDoor
