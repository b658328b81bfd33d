/- The reference's bare operations, lines and texts: the walks. -/
import Derived.Test.YtddihnnodegkmaaGreatDoorSr8
namespace Go.Proofs.YtddihnnodegkmaaGreatDoor
open Go.RowKit Hop
set_option linter.unusedVariables false
set_option linter.unusedSimpArgs false
set_option maxRecDepth 100000
theorem below2 (w : World) (a b : Obj) : Below w.heap.size w ((w.alloc a).alloc b) := ((Below.refl _ _).alloc (Nat.le_refl _) _).alloc (by simp) _
set_option maxHeartbeats 3200000 in
theorem rbare_any (o : Op4) (w : World) : Calls Tryz.prog 9 #[vOp o] w fun e w' => e = .returned (vOp (bareF o)) ∧ Below w.heap.size w w' := by
  obtain ⟨kd, y, v, n⟩ := o
  simp only [vOp]
  by_cases h1 : kd = 1
  · subst h1
    have e : bareF ⟨1, y, v, n⟩ = ⟨1, y, 0, 0⟩ := rfl
    rw [e]
    clear e
    go_enter Tryz.func9, Tryz.ntmps9
    go_wp2_with fail
    refine bodyPost_ret (v := .agg #[.int .i64 1, .int .u64 y, .int .u64 0, .int .i64 0]) (by simp [results, Tryz.results9, go_sem]) rfl ⟨rfl, below2 _ _ _⟩
  · by_cases h2 : kd = 2
    · subst h2
      have e : bareF ⟨2, y, v, n⟩ = ⟨2, y, v, 0⟩ := rfl
      rw [e]
      clear e
      go_enter Tryz.func9, Tryz.ntmps9
      go_wp2_with fail
      refine bodyPost_ret (v := .agg #[.int .i64 2, .int .u64 y, .int .u64 v, .int .i64 0]) (by simp [results, Tryz.results9, go_sem]) rfl ⟨rfl, below2 _ _ _⟩
    · by_cases h3 : kd = 3
      · subst h3
        have e : bareF ⟨3, y, v, n⟩ = ⟨3, y, 0, 0⟩ := rfl
        rw [e]
        clear e
        go_enter Tryz.func9, Tryz.ntmps9
        go_wp2_with fail
        refine bodyPost_ret (v := .agg #[.int .i64 3, .int .u64 y, .int .u64 0, .int .i64 0]) (by simp [results, Tryz.results9, go_sem]) rfl ⟨rfl, below2 _ _ _⟩
      · by_cases h4 : kd = 4
        · subst h4
          have e : bareF ⟨4, y, v, n⟩ = ⟨4, 0, 0, n⟩ := rfl
          rw [e]
          clear e
          go_enter Tryz.func9, Tryz.ntmps9
          go_wp2_with fail
          refine bodyPost_ret (v := .agg #[.int .i64 4, .int .u64 0, .int .u64 0, .int .i64 n]) (by simp [results, Tryz.results9, go_sem]) rfl ⟨rfl, below2 _ _ _⟩
        · have e : bareF ⟨kd, y, v, n⟩ = ⟨kd, 0, 0, 0⟩ := by unfold bareF; rw [if_neg h1, if_neg h2, if_neg h3, if_neg h4]
          rw [e]
          clear e
          go_enter Tryz.func9, Tryz.ntmps9
          go_wp2_with fail
          refine bodyPost_ret (v := .agg #[.int .i64 kd, .int .u64 0, .int .u64 0, .int .i64 0]) (by simp [results, Tryz.results9, go_sem]) rfl ⟨rfl, below2 _ _ _⟩
set_option maxHeartbeats 6400000 in
theorem rline_any (o : Op4) (w : World) (ho : o.ok) : Calls Tryz.prog 19 #[vOp o] w fun e w' => e = .returned (.string (lineF o)) ∧ Below w.heap.size w w' := by
  obtain ⟨kd, y, v, n⟩ := o
  obtain ⟨k0, k1, y0, y1, v0, v1, n0, n1⟩ := ho
  simp only at k0 k1 y0 y1 v0 v1 n0 n1
  simp only [vOp]
  obtain ⟨W, hW⟩ : ∃ W, W = w.alloc (.cells #[.int .i64 kd, .int .u64 y, .int .u64 v, .int .i64 n] 25) := ⟨_, rfl⟩
  have B0 : Below w.heap.size w W := by rw [hW]; exact (Below.refl _ _).alloc (Nat.le_refl _) _
  have b0 : Blk W w.heap.size [.int .i64 kd, .int .u64 y, .int .u64 v, .int .i64 n] 25 := by rw [hW]; exact Blk.new0 w [.int .i64 kd, .int .u64 y, .int .u64 v, .int .i64 n] 25
  have HFy : Hid (∀ w, Calls Tryz.prog 30 #[.int .u64 y] w fun e w' => e = .returned (.string (dS y.toNat)) ∧ Below w.heap.size w w') := Lib.hid (fun w => by
    have h := nat10_any y.toNat (by omega) w
    rwa [Int.toNat_of_nonneg y0] at h)
  have HFv : Hid (∀ w, Calls Tryz.prog 30 #[.int .u64 v] w fun e w' => e = .returned (.string (dS v.toNat)) ∧ Below w.heap.size w w') := Lib.hid (fun w => by
    have h := nat10_any v.toNat (by omega) w
    rwa [Int.toNat_of_nonneg v0] at h)
  have zy : (dS y.toNat).size ≤ 20 := dS_size' (by omega)
  have zv : (dS v.toNat).size ≤ 20 := dS_size' (by omega)
  have HW := Lib.hid hW
  have Hb0 := Lib.hid b0
  have HB0 := Lib.hid B0
  have HL : Hid (lineF ⟨kd, y, v, n⟩ = if kd = 1 then sGet ++ dS y.toNat else if kd = 2 then sPut ++ dS y.toNat ++ sSp ++ dS v.toNat else if kd = 3 then sDel ++ dS y.toNat else if kd = 4 then sRes ++ iS n else if kd = 5 then sLen else sOpS ++ iS kd) := Lib.hid rfl
  have c0 := b0.cell 0
  have c1 := b0.cell 1
  have c2 := b0.cell 2
  have c3 := b0.cell 3
  simp only [List.getElem?_cons_zero, List.getElem?_cons_succ] at c0 c1 c2 c3
  have l0 := b0.lt
  clear hW B0 b0
  generalize dS y.toNat = D at *
  generalize dS v.toNat = E at *
  by_cases h1 : kd = 1
  · subst h1
    rw [if_pos rfl] at HL
    have q1 : ¬ (9223372036854775807 < 4 + D.size) := by omega
    go_enter Tryz.func19, Tryz.ntmps19
    go_wp2_with fail
    rw [← HW.out]
    refine (HFy.out _).mono ?_
    rintro e w1 ⟨rfl, hb1⟩
    have HB1 := Lib.hid (HB0.out.trans (hb1.mono HB0.out.size))
    clear hb1
    go_wp2_with fail
    go_ret
    exact ⟨by rw [HL.out] <;> rfl, HB1.out⟩
  rw [if_neg h1] at HL
  by_cases h2 : kd = 2
  · subst h2
    rw [if_pos rfl] at HL
    have q1 : ¬ (9223372036854775807 < 4 + D.size) := by omega
    have q2 : ¬ (9223372036854775807 < 4 + D.size + 1) := by omega
    have q3 : ¬ (9223372036854775807 < 4 + D.size + 1 + E.size) := by omega
    go_enter Tryz.func19, Tryz.ntmps19
    go_wp2_with fail
    rw [← HW.out]
    have HS0 := Lib.hid ((⟨Hb0.out.drew.cell 1, Hb0.out.drew.cell 2⟩ : W.drew.cell? ⟨w.heap.size, 1, none⟩ = some (.int .u64 y) ∧ W.drew.cell? ⟨w.heap.size, 2, none⟩ = some (.int .u64 v)))
    have HS := Lib.hid (fun w' (hb : Below W.drew.heap.size W.drew w') => (⟨(Hb0.out.drew.keep hb).cell 1, (Hb0.out.drew.keep hb).cell 2⟩ : w'.cell? ⟨w.heap.size, 1, none⟩ = some (.int .u64 y) ∧ w'.cell? ⟨w.heap.size, 2, none⟩ = some (.int .u64 v)))
    have HBD : Hid (Below w.heap.size w W.drew) := Lib.hid (HB0.out.trans ((Below.refl _ _).drew.mono HB0.out.size))
    clear c0 c1 c2 c3 l0
    go_region_held3 (fun W' => W'.cell? ⟨w.heap.size, 1, none⟩ = some (.int .u64 y) ∧ W'.cell? ⟨w.heap.size, 2, none⟩ = some (.int .u64 v))
      (first | with_reducible exact HS.out _ hb2 | with_reducible exact HS.out _ hb1 | exact HS0.out)
      (first | (go_at_call 30; have z1 := hb1.size; refine (HFv.out _).mono ?_; rintro e w2 ⟨rfl, hb⟩; have hb2 := hb1.trans (hb.mono z1)) | (go_at_call 30; refine (HFy.out _).mono ?_; rintro e w1 ⟨rfl, hb1⟩))
    have HB2 := Lib.hid (HBD.out.trans (hb2.mono HBD.out.size))
    clear hb hb1 hb2
    go_wp2_with fail
    go_ret
    exact ⟨by rw [HL.out] <;> rfl, HB2.out⟩
  rw [if_neg h2] at HL
  by_cases h3 : kd = 3
  · subst h3
    rw [if_pos rfl] at HL
    have q1 : ¬ (9223372036854775807 < 7 + D.size) := by omega
    go_enter Tryz.func19, Tryz.ntmps19
    go_wp2_with fail
    rw [← HW.out]
    refine (HFy.out _).mono ?_
    rintro e w1 ⟨rfl, hb1⟩
    have HB1 := Lib.hid (HB0.out.trans (hb1.mono HB0.out.size))
    clear hb1
    go_wp2_with fail
    go_ret
    exact ⟨by rw [HL.out] <;> rfl, HB1.out⟩
  rw [if_neg h3] at HL
  by_cases h4 : kd = 4
  · subst h4
    rw [if_pos rfl] at HL
    have z := iS_size n0 n1
    have q1 : ¬ (9223372036854775807 < 7 + (iS n).size) := by omega
    have HI := Lib.hid (fun w => number_any n w n0 n1)
    generalize iS n = E at *
    go_enter Tryz.func19, Tryz.ntmps19
    go_wp2_with fail
    rw [← HW.out]
    refine (HI.out _).mono ?_
    rintro e w1 ⟨rfl, hb1⟩
    have HB1 := Lib.hid (HB0.out.trans (hb1.mono HB0.out.size))
    clear hb1
    go_wp2_with fail
    go_ret
    exact ⟨by rw [HL.out] <;> rfl, HB1.out⟩
  rw [if_neg h4] at HL
  by_cases h5 : kd = 5
  · subst h5
    rw [if_pos rfl] at HL
    go_enter Tryz.func19, Tryz.ntmps19
    go_wp2_with fail
    rw [← HW.out]
    go_ret
    exact ⟨by rw [HL.out] <;> rfl, HB0.out⟩
  rw [if_neg h5] at HL
  have z := iS_size k0 k1
  have q1 : ¬ (9223372036854775807 < 3 + (iS kd).size) := by omega
  have HI := Lib.hid (fun w => number_any kd w k0 k1)
  generalize iS kd = E at *
  go_enter Tryz.func19, Tryz.ntmps19
  go_wp2_with fail
  rw [← HW.out]
  refine (HI.out _).mono ?_
  rintro e w1 ⟨rfl, hb1⟩
  have HB1 := Lib.hid (HB0.out.trans (hb1.mono HB0.out.size))
  clear hb1
  go_wp2_with fail
  go_ret
  exact ⟨by rw [HL.out] <;> rfl, HB1.out⟩
end Go.Proofs.YtddihnnodegkmaaGreatDoor
