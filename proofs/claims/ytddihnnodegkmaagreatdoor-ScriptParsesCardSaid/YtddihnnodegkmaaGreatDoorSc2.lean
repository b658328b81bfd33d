/- An operation bare, and as a line. -/
import Derived.Test.YtddihnnodegkmaaGreatDoorSc1
namespace Go.Proofs.YtddihnnodegkmaaGreatDoor
open Go.RowKit Hop
set_option linter.unusedVariables false
set_option linter.unusedSimpArgs false
set_option maxRecDepth 100000
structure Op4 where
  kind : Int
  key : Int
  val : Int
  n : Int
structure Op4.ok (o : Op4) : Prop where
  k0 : -9223372036854775808 ≤ o.kind
  k1 : o.kind ≤ 9223372036854775807
  y0 : 0 ≤ o.key
  y1 : o.key < 18446744073709551616
  v0 : 0 ≤ o.val
  v1 : o.val < 18446744073709551616
  n0 : -9223372036854775808 ≤ o.n
  n1 : o.n ≤ 9223372036854775807
abbrev cOp (o : Op4) : List Value := [.int .i64 o.kind, .int .u64 o.key, .int .u64 o.val, .int .i64 o.n]
abbrev vOp (o : Op4) : Value := .agg #[.int .i64 o.kind, .int .u64 o.key, .int .u64 o.val, .int .i64 o.n]
def bareF (o : Op4) : Op4 :=
  if o.kind = 1 then ⟨o.kind, o.key, 0, 0⟩ else if o.kind = 2 then ⟨o.kind, o.key, o.val, 0⟩ else if o.kind = 3 then ⟨o.kind, o.key, 0, 0⟩ else if o.kind = 4 then ⟨o.kind, 0, 0, o.n⟩ else ⟨o.kind, 0, 0, 0⟩
def sGet : ByteArray := ⟨#[103, 101, 116, 32]⟩
def sPut : ByteArray := ⟨#[112, 117, 116, 32]⟩
def sDel : ByteArray := ⟨#[100, 101, 108, 101, 116, 101, 32]⟩
def sRes : ByteArray := ⟨#[114, 101, 115, 105, 122, 101, 32]⟩
def sLen : ByteArray := ⟨#[108, 101, 110]⟩
def sOpS : ByteArray := ⟨#[111, 112, 32]⟩
def sSp : ByteArray := ⟨#[32]⟩
def lineF (o : Op4) : ByteArray :=
  if o.kind = 1 then sGet ++ dS o.key.toNat
  else if o.kind = 2 then sPut ++ dS o.key.toNat ++ sSp ++ dS o.val.toNat
  else if o.kind = 3 then sDel ++ dS o.key.toNat
  else if o.kind = 4 then sRes ++ iS o.n
  else if o.kind = 5 then sLen
  else sOpS ++ iS o.kind
theorem dS_size' {m : Nat} (h : m ≤ 18446744073709551615) : (dS m).size ≤ 20 := by
  show (Lib.decDigits m).toArray.size ≤ 20
  rw [List.size_toArray, Lib.decDigits_length]
  exact dS_size.nd_le (m := 0) 20 m (by decide) (by omega)
theorem below3 (w : World) (a b c : Obj) : Below w.heap.size w (((w.alloc a).alloc b).alloc c) := (((Below.refl _ _).alloc (Nat.le_refl _) _).alloc (by simp) _).alloc (by simp; omega) _
set_option maxHeartbeats 3200000 in
theorem bare_any (o : Op4) (w : World) : Calls Tryz.prog 8 #[vOp o] w fun e w' => e = .returned (vOp (bareF o)) ∧ Below w.heap.size w w' := by
  obtain ⟨kd, y, v, n⟩ := o
  simp only [vOp]
  by_cases h1 : kd = 1
  · subst h1
    have e : bareF ⟨1, y, v, n⟩ = ⟨1, y, 0, 0⟩ := rfl
    rw [e]
    clear e
    go_enter Tryz.func8, Tryz.ntmps8
    go_wp2_with fail
    refine bodyPost_ret (v := .agg #[.int .i64 1, .int .u64 y, .int .u64 0, .int .i64 0]) (by simp [results, Tryz.results8, go_sem]) rfl ⟨rfl, below3 _ _ _ _⟩
  · by_cases h2 : kd = 2
    · subst h2
      have e : bareF ⟨2, y, v, n⟩ = ⟨2, y, v, 0⟩ := rfl
      rw [e]
      clear e
      go_enter Tryz.func8, Tryz.ntmps8
      go_wp2_with fail
      refine bodyPost_ret (v := .agg #[.int .i64 2, .int .u64 y, .int .u64 v, .int .i64 0]) (by simp [results, Tryz.results8, go_sem]) rfl ⟨rfl, below3 _ _ _ _⟩
    · by_cases h3 : kd = 3
      · subst h3
        have e : bareF ⟨3, y, v, n⟩ = ⟨3, y, 0, 0⟩ := rfl
        rw [e]
        clear e
        go_enter Tryz.func8, Tryz.ntmps8
        go_wp2_with fail
        refine bodyPost_ret (v := .agg #[.int .i64 3, .int .u64 y, .int .u64 0, .int .i64 0]) (by simp [results, Tryz.results8, go_sem]) rfl ⟨rfl, below3 _ _ _ _⟩
      · by_cases h4 : kd = 4
        · subst h4
          have e : bareF ⟨4, y, v, n⟩ = ⟨4, 0, 0, n⟩ := rfl
          rw [e]
          clear e
          go_enter Tryz.func8, Tryz.ntmps8
          go_wp2_with fail
          refine bodyPost_ret (v := .agg #[.int .i64 4, .int .u64 0, .int .u64 0, .int .i64 n]) (by simp [results, Tryz.results8, go_sem]) rfl ⟨rfl, below3 _ _ _ _⟩
        · have e : bareF ⟨kd, y, v, n⟩ = ⟨kd, 0, 0, 0⟩ := by unfold bareF; rw [if_neg h1, if_neg h2, if_neg h3, if_neg h4]
          rw [e]
          clear e
          go_enter Tryz.func8, Tryz.ntmps8
          go_wp2_with fail
          refine bodyPost_ret (v := .agg #[.int .i64 kd, .int .u64 0, .int .u64 0, .int .i64 0]) (by simp [results, Tryz.results8, go_sem]) rfl ⟨rfl, below3 _ _ _ _⟩
set_option maxHeartbeats 6400000 in
theorem line_any (o : Op4) (w : World) (ho : o.ok) (ht : P10 w) : Calls Tryz.prog 16 #[vOp o] w fun e w' => e = .returned (.string (lineF o)) ∧ Below w.heap.size w w' := by
  obtain ⟨kd, y, v, n⟩ := o
  obtain ⟨k0, k1, y0, y1, v0, v1, n0, n1⟩ := ho
  simp only at k0 k1 y0 y1 v0 v1 n0 n1
  simp only [vOp]
  obtain ⟨W, hW⟩ : ∃ W, W = w.alloc (.cells #[.int .i64 kd, .int .u64 y, .int .u64 v, .int .i64 n] 25) := ⟨_, rfl⟩
  have B0 : Below w.heap.size w W := by rw [hW]; exact (Below.refl _ _).alloc (Nat.le_refl _) _
  have b0 : Blk W w.heap.size [.int .i64 kd, .int .u64 y, .int .u64 v, .int .i64 n] 25 := by rw [hW]; exact Blk.new0 w [.int .i64 kd, .int .u64 y, .int .u64 v, .int .i64 n] 25
  have HF := Lib.hid (fun (x : Int) (w : World) (h0 : 0 ≤ x) (h1 : x < 18446744073709551616) (h : P10 w) => fuint_any x.toNat w (by omega) h)
  have HFy : Hid (Calls Tryz.prog 28 #[.int .u64 y, .int .i64 10] W fun e w' => e = .returned (.string (dS y.toNat)) ∧ Below W.heap.size W w') := Lib.hid (by
    have h := fuint_any y.toNat W (by omega) (ht.keep B0)
    rwa [Int.toNat_of_nonneg y0] at h)
  have zy : (dS y.toNat).size ≤ 20 := dS_size' (by omega)
  have HT := Lib.hid (fun w' (hb : Below W.heap.size W w') => (ht.keep B0).keep hb)
  have HW := Lib.hid hW
  have Hb0 := Lib.hid b0
  have HB0 := Lib.hid B0
  have HL : Hid (lineF ⟨kd, y, v, n⟩ = if kd = 1 then sGet ++ dS y.toNat else if kd = 2 then sPut ++ dS y.toNat ++ sSp ++ dS v.toNat else if kd = 3 then sDel ++ dS y.toNat else if kd = 4 then sRes ++ iS n else if kd = 5 then sLen else sOpS ++ iS kd) := Lib.hid rfl
  clear hW B0 b0 ht HF
  generalize dS y.toNat = D at *
  go_enter Tryz.func16, Tryz.ntmps16
  go_wp2_with fail
  rw [← HW.out]
  refine HFy.out.mono ?_
  rintro e w1 ⟨rfl, hb1⟩
  have b1 := Hb0.out.keep hb1
  have c0 := b1.cell 0
  have c2 := b1.cell 2
  have c3 := b1.cell 3
  simp only [List.getElem?_cons_zero, List.getElem?_cons_succ] at c0 c2 c3
  have l1 := b1.lt
  have HB1 := Lib.hid (HB0.out.trans (hb1.mono HB0.out.size))
  have HT1 := Lib.hid (HT.out _ hb1)
  clear b1 hb1
  by_cases h1 : kd = 1
  · subst h1
    rw [if_pos rfl] at HL
    have q1 : ¬ (9223372036854775807 < 4 + D.size) := by omega
    go_wp2_with fail
    go_ret
    exact ⟨by rw [HL.out] <;> rfl, HB1.out⟩
  · rw [if_neg h1] at HL
    by_cases h2 : kd = 2
    · subst h2
      rw [if_pos rfl] at HL
      have zv : (dS v.toNat).size ≤ 20 := dS_size' (by omega)
      have HFv : Hid (Calls Tryz.prog 28 #[.int .u64 v, .int .i64 10] w1 fun e w' => e = .returned (.string (dS v.toNat)) ∧ Below w1.heap.size w1 w') := Lib.hid (by
        have h := fuint_any v.toNat w1 (by omega) HT1.out
        rwa [Int.toNat_of_nonneg v0] at h)
      have q1 : ¬ (9223372036854775807 < 4 + D.size) := by omega
      have q2 : ¬ (9223372036854775807 < 4 + D.size + 1) := by omega
      have q3 : ¬ (9223372036854775807 < 4 + D.size + 1 + (dS v.toNat).size) := by omega
      generalize dS v.toNat = E at *
      go_wp2_with fail
      refine HFv.out.mono ?_
      rintro e w2 ⟨rfl, hb2⟩
      have HB2 := Lib.hid (HB1.out.trans (hb2.mono HB1.out.size))
      clear hb2
      go_wp2_with fail
      go_ret
      exact ⟨by rw [HL.out] <;> rfl, HB2.out⟩
    · rw [if_neg h2] at HL
      by_cases h3 : kd = 3
      · subst h3
        rw [if_pos rfl] at HL
        have q1 : ¬ (9223372036854775807 < 7 + D.size) := by omega
        go_wp2_with fail
        go_ret
        exact ⟨by rw [HL.out] <;> rfl, HB1.out⟩
      · rw [if_neg h3] at HL
        by_cases h4 : kd = 4
        · subst h4
          rw [if_pos rfl] at HL
          have z := iS_size n0 n1
          have q1 : ¬ (9223372036854775807 < 7 + (iS n).size) := by omega
          have HI := Lib.hid (itoa_any n w1 n0 n1 HT1.out)
          generalize iS n = E at *
          go_wp2_with fail
          refine HI.out.mono ?_
          rintro e w2 ⟨rfl, hb2⟩
          have HB2 := Lib.hid (HB1.out.trans (hb2.mono HB1.out.size))
          clear hb2
          go_wp2_with fail
          go_ret
          exact ⟨by rw [HL.out] <;> rfl, HB2.out⟩
        · rw [if_neg h4] at HL
          by_cases h5 : kd = 5
          · subst h5
            rw [if_pos rfl] at HL
            go_wp2_with fail
            go_ret
            exact ⟨by rw [HL.out] <;> rfl, HB1.out⟩
          · rw [if_neg h5] at HL
            have z := iS_size k0 k1
            have q1 : ¬ (9223372036854775807 < 3 + (iS kd).size) := by omega
            have HI := Lib.hid (itoa_any kd w1 k0 k1 HT1.out)
            generalize iS kd = E at *
            go_wp2_with fail
            refine HI.out.mono ?_
            rintro e w2 ⟨rfl, hb2⟩
            have HB2 := Lib.hid (HB1.out.trans (hb2.mono HB1.out.size))
            clear hb2
            go_wp2_with fail
            go_ret
            exact ⟨by rw [HL.out] <;> rfl, HB2.out⟩
end Go.Proofs.YtddihnnodegkmaaGreatDoor
