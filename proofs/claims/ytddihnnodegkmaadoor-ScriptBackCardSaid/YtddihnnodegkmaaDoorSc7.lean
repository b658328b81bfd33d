/- script.read: the walk. -/
import Derived.Test.YtddihnnodegkmaaDoorSc6
import Derived.Deep.RegionHeld3
namespace Go.Proofs.YtddihnnodegkmaaDoor
open Go.RowKit Hop
set_option linter.unusedVariables false
set_option linter.unusedSimpArgs false
set_option maxRecDepth 100000
def wGet : List UInt8 := [103, 101, 116]
/-- A line's kind. -/
def knF (s : ByteArray) : Int :=
  if (wd s 0).toList = [103, 101, 116] then 1 else if (wd s 0).toList = [112, 117, 116] then 2 else if (wd s 0).toList = [100, 101, 108, 101, 116, 101] then 3
  else if (wd s 0).toList = [114, 101, 115, 105, 122, 101] then 4 else if (wd s 0).toList = [108, 101, 110] then 5 else aF (wd s 1)
def rdF (s : ByteArray) : Op4 := bareF ⟨knF s, uF (wd s 1), uF (wd s 2), aF (wd s 1)⟩
theorem knF_in (s : ByteArray) : -9223372036854775808 ≤ knF s ∧ knF s ≤ 9223372036854775807 := by
  have := aF_in (wd s 1)
  unfold knF
  (repeat' split) <;> omega
theorem bareF_ok {o : Op4} (h : o.ok) : (bareF o).ok := by
  obtain ⟨k0, k1, y0, y1, v0, v1, n0, n1⟩ := h
  unfold bareF
  (repeat' split) <;> constructor <;> simp only <;> omega
theorem rdF_ok (s : ByteArray) : (rdF s).ok := by
  have h1 := knF_in s
  have h2 := uF_in (wd s 1)
  have h3 := uF_in (wd s 2)
  have h4 := aF_in (wd s 1)
  exact bareF_ok ⟨h1.1, h1.2, h2.1, h2.2, h3.1, h3.2, h4.1, h4.2⟩
/-- The call's own blocks. -/
structure RB (w : World) (lw : List Value) (cn r g b o : Nat) (x : Op4) : Prop where
  br : Blk w r [.int .i64 0, .int .u64 0, .int .u64 0, .int .i64 0] 48
  bg : Blk w g lw 9
  bb : Blk w b [.slice (some ⟨g, 0, none⟩) (cn + 1) (cn + 1)] 99
  bo : Blk w o (cOp x) 48
  n1 : r ≠ o
  n2 : g ≠ o
  n3 : b ≠ o
theorem RB.keep {w w' : World} {lw : List Value} {cn r g b o : Nat} {x : Op4} (h : RB w lw cn r g b o x) (hb : Below w.heap.size w w') : RB w' lw cn r g b o x :=
  ⟨h.br.keep hb, h.bg.keep hb, h.bb.keep hb, h.bo.keep hb, h.n1, h.n2, h.n3⟩
theorem RB.set {w : World} {lw : List Value} {cn r g b o : Nat} {x : Op4} (h : RB w lw cn r g b o x) (j : Nat) (v : Value) (y : Op4) (e : (cOp x).set j v = cOp y) : RB (w.setCell ⟨o, j, none⟩ v) lw cn r g b o y :=
  ⟨h.br.set_ne h.n1 v, h.bg.set_ne h.n2 v, h.bb.set_ne h.n3 v, by have q := h.bo.set j v; rw [e] at q; exact q, h.n1, h.n2, h.n3⟩
theorem str_eq (a b : ByteArray) : (a.toList = b.toList) ↔ a = b := by
  constructor
  · intro h
    apply ByteArray.ext
    apply Array.toList_inj.1
    rw [← byteArray_toList a, ← byteArray_toList b]; exact h
  · rintro rfl; rfl
 where
  byteArray_toList (a : ByteArray) : a.toList = a.data.toList := by exact ByteArray.toList_eq a
set_option maxHeartbeats 12800000 in
theorem read_any (s : ByteArray) (w : World) (hs : s.size ≤ 100000) (h : Env w) :
    Calls Tryd.prog 35 #[.string s] w fun e w' => e = .returned (.tuple #[vOp (rdF s), .bool ((lineF (rdF s)).toList == s.toList)]) ∧ Below w.heap.size w w' := by
  have HEN := Go.Lib.hid h
  have hcn : Lib.countB s sSp ≤ s.size := Lib.countB_le sSp (by decide) _ s (Nat.le_refl _)
  have A0 := (Below.refl w.heap.size w).alloc (Nat.le_refl _) (.cells #[.int .i64 0, .int .u64 0, .int .u64 0, .int .i64 0] 48)
  have HSP := Go.Lib.hid (split_any s (w.alloc (.cells #[.int .i64 0, .int .u64 0, .int .u64 0, .int .i64 0] 48)) (by omega) (h.keep A0))
  have HR0 : Hid (∀ a b c d : Nat, True) := Go.Lib.hid (fun _ _ _ _ => trivial)
  have HLN := Go.Lib.hid (fun w h => line_any (rdF s) w (rdF_ok s) h)
  have z0 := wd_size s 0
  have z1 := wd_size s 1
  have z2 := wd_size s 2
  have HW0 : Hid (∀ (b g : Nat) (w : World), Blk w b [.slice (some ⟨g, 0, none⟩) (Lib.countB s sSp + 1) (Lib.countB s sSp + 1)] 99 → Blk w g ((wdF s).map Value.string) 9 → Calls Tryd.prog 48 #[.int .i64 0, .pointer (some ⟨b, 0, none⟩)] w fun e w' => e = .returned (.string (wd s 0)) ∧ w = w') := Go.Lib.hid (fun b g w h1 h2 => word_any s 0 b g w (by omega) (by omega) h1 h2)
  have HW1 : Hid (∀ (b g : Nat) (w : World), Blk w b [.slice (some ⟨g, 0, none⟩) (Lib.countB s sSp + 1) (Lib.countB s sSp + 1)] 99 → Blk w g ((wdF s).map Value.string) 9 → Calls Tryd.prog 48 #[.int .i64 1, .pointer (some ⟨b, 0, none⟩)] w fun e w' => e = .returned (.string (wd s 1)) ∧ w = w') := Go.Lib.hid (fun b g w h1 h2 => word_any s 1 b g w (by omega) (by omega) h1 h2)
  have HW2 : Hid (∀ (b g : Nat) (w : World), Blk w b [.slice (some ⟨g, 0, none⟩) (Lib.countB s sSp + 1) (Lib.countB s sSp + 1)] 99 → Blk w g ((wdF s).map Value.string) 9 → Calls Tryd.prog 48 #[.int .i64 2, .pointer (some ⟨b, 0, none⟩)] w fun e w' => e = .returned (.string (wd s 2)) ∧ w = w') := Go.Lib.hid (fun b g w h1 h2 => word_any s 2 b g w (by omega) (by omega) h1 h2)
  have HP1 := Go.Lib.hid (fun w h => puint_any (wd s 1) w (by omega) h)
  have HP2 := Go.Lib.hid (fun w h => puint_any (wd s 2) w (by omega) h)
  have HA1 := Go.Lib.hid (fun w h => atoi_any (wd s 1) w (by omega) h)
  have HRD : Hid (∀ k, k = knF s → rdF s = bareF ⟨k, uF (wd s 1), uF (wd s 2), aF (wd s 1)⟩) := Go.Lib.hid (fun k e => by rw [e]; rfl)
  have HKN : Hid (knF s = if (wd s 0).toList = [103, 101, 116] then 1 else if (wd s 0).toList = [112, 117, 116] then 2 else if (wd s 0).toList = [100, 101, 108, 101, 116, 101] then 3 else if (wd s 0).toList = [114, 101, 115, 105, 122, 101] then 4 else if (wd s 0).toList = [108, 101, 110] then 5 else aF (wd s 1)) := Go.Lib.hid rfl
  have HEQ := Go.Lib.hid (str_eq (lineF (rdF s)) s)
  obtain ⟨lw, hlw⟩ : ∃ lw, lw = (wdF s).map Value.string := ⟨_, rfl⟩
  have HLW := Go.Lib.hid hlw
  rw [← hlw] at HSP HW0 HW1 HW2
  clear h A0 hlw
  generalize Lib.countB s sSp = cn at *
  generalize wd s 0 = s0 at *
  generalize wd s 1 = s1 at *
  generalize wd s 2 = s2 at *
  generalize uF s1 = u1 at *
  generalize uF s2 = u2 at *
  generalize aF s1 = a1 at *
  go_enter Tryd.func35, Tryd.ntmps35
  go_wp2_with fail
  refine HSP.out.mono ?_
  rintro e w1 ⟨rfl, rfl⟩
  go_wp2_with fail
  obtain ⟨W1, hW1⟩ : ∃ W1, W1 = (((w.alloc (.cells #[.int .i64 0, .int .u64 0, .int .u64 0, .int .i64 0] 48)).alloc (.cells lw.toArray 9)).alloc (.cells #[.slice (some ⟨w.heap.size + 1, 0, none⟩) (cn + 1) (cn + 1)] 99)).alloc (.cells #[.int .i64 0, .int .u64 0, .int .u64 0, .int .i64 0] 48) := ⟨_, rfl⟩
  have hR : RB W1 lw cn w.heap.size (w.heap.size + 1) (w.heap.size + 1 + 1) (w.heap.size + 1 + 1 + 1) ⟨0, 0, 0, 0⟩ := by
    rw [hW1]
    refine ⟨(((Blk.new0 w [.int .i64 0, .int .u64 0, .int .u64 0, .int .i64 0] 48).alloc _).alloc _).alloc _, ((Blk.new1 w _ lw 9).alloc _).alloc _, (Blk.new2 w _ _ [.slice (some ⟨w.heap.size + 1, 0, none⟩) (cn + 1) (cn + 1)] 99).alloc _, ?_, by omega, by omega, by omega⟩
    have q := Blk.new2 (w.alloc (.cells #[.int .i64 0, .int .u64 0, .int .u64 0, .int .i64 0] 48)) (.cells lw.toArray 9) (.cells #[.slice (some ⟨w.heap.size + 1, 0, none⟩) (cn + 1) (cn + 1)] 99) [.int .i64 0, .int .u64 0, .int .u64 0, .int .i64 0] 48
    rwa [World.size_alloc] at q
  have B1 : Below w.heap.size w W1 := by rw [hW1]; exact ((((Below.refl _ _).alloc (Nat.le_refl _) _).alloc (by simp) _).alloc (by simp; omega) _).alloc (by simp; omega) _
  rw [← hW1]
  have HR := Go.Lib.hid hR
  have HB := Go.Lib.hid B1
  clear hW1 hR B1 HSP
  refine (HW0.out _ _ _ HR.out.bb HR.out.bg).mono ?_
  rintro e w2 ⟨rfl, rfl⟩
  by_cases h1 : s0.toList = [103, 101, 116]
  · rw [if_pos h1] at HKN
    have HY : Hid (rdF s = bareF ⟨1, u1, u2, a1⟩) := Go.Lib.hid (HRD.out _ HKN.out.symm)
    have c0 := HR.out.bo.cell 0
    have f0 := HR.out.bo.frozen 0
    simp only [cOp, List.getElem?_cons_zero, List.getElem?_cons_succ] at c0
    have lo := HR.out.bo.lt
    go_wp2_with fail
    obtain ⟨V1, hV1⟩ : ∃ V1, V1 = W1.setCell ⟨w.heap.size + 1 + 1 + 1, 0, none⟩ (.int .i64 1) := ⟨_, rfl⟩
    have R1 : Hid (RB V1 lw cn w.heap.size (w.heap.size + 1) (w.heap.size + 1 + 1) (w.heap.size + 1 + 1 + 1) ⟨1, 0, 0, 0⟩) := Go.Lib.hid (by rw [hV1]; exact HR.out.set 0 _ ⟨1, 0, 0, 0⟩ rfl)
    have HV1 : Hid (Below w.heap.size w V1) := Go.Lib.hid (by rw [hV1]; exact below_set HB.out (by omega) _)
    rw [← hV1]
    clear hV1
    clear c0 f0 lo
    refine (HW1.out _ _ _ R1.out.bb R1.out.bg).mono ?_
    rintro e w2 ⟨rfl, rfl⟩
    go_wp2_with fail
    refine (HP1.out _ (HEN.out.keep HV1.out)).mono ?_
    rintro e V2 ⟨ev1, rfl, hb⟩
    have R2 := Go.Lib.hid (R1.out.keep hb)
    have HV2 := Go.Lib.hid (HV1.out.trans (hb.mono HV1.out.size))
    clear hb
    have c1 := R2.out.bo.cell 1
    have f1 := R2.out.bo.frozen 1
    simp only [cOp, List.getElem?_cons_zero, List.getElem?_cons_succ] at c1
    have lo := R2.out.bo.lt
    go_wp2_with fail
    obtain ⟨V3, hV3⟩ : ∃ V3, V3 = V2.setCell ⟨w.heap.size + 1 + 1 + 1, 1, none⟩ (.int .u64 u1) := ⟨_, rfl⟩
    have R3 : Hid (RB V3 lw cn w.heap.size (w.heap.size + 1) (w.heap.size + 1 + 1) (w.heap.size + 1 + 1 + 1) ⟨1, u1, 0, 0⟩) := Go.Lib.hid (by rw [hV3]; exact R2.out.set 1 _ ⟨1, u1, 0, 0⟩ rfl)
    have HV3 : Hid (Below w.heap.size w V3) := Go.Lib.hid (by rw [hV3]; exact below_set HV2.out (by omega) _)
    rw [← hV3]
    clear hV3
    clear c1 f1 lo
    refine (HW2.out _ _ _ R3.out.bb R3.out.bg).mono ?_
    rintro e w2 ⟨rfl, rfl⟩
    go_wp2_with fail
    refine (HP2.out _ (HEN.out.keep HV3.out)).mono ?_
    rintro e V4 ⟨ev2, rfl, hb⟩
    have R4 := Go.Lib.hid (R3.out.keep hb)
    have HV4 := Go.Lib.hid (HV3.out.trans (hb.mono HV3.out.size))
    clear hb
    have c2 := R4.out.bo.cell 2
    have f2 := R4.out.bo.frozen 2
    simp only [cOp, List.getElem?_cons_zero, List.getElem?_cons_succ] at c2
    have lo := R4.out.bo.lt
    go_wp2_with fail
    obtain ⟨V5, hV5⟩ : ∃ V5, V5 = V4.setCell ⟨w.heap.size + 1 + 1 + 1, 2, none⟩ (.int .u64 u2) := ⟨_, rfl⟩
    have R5 : Hid (RB V5 lw cn w.heap.size (w.heap.size + 1) (w.heap.size + 1 + 1) (w.heap.size + 1 + 1 + 1) ⟨1, u1, u2, 0⟩) := Go.Lib.hid (by rw [hV5]; exact R4.out.set 2 _ ⟨1, u1, u2, 0⟩ rfl)
    have HV5 : Hid (Below w.heap.size w V5) := Go.Lib.hid (by rw [hV5]; exact below_set HV4.out (by omega) _)
    rw [← hV5]
    clear hV5
    clear c2 f2 lo
    refine (HW1.out _ _ _ R5.out.bb R5.out.bg).mono ?_
    rintro e w2 ⟨rfl, rfl⟩
    go_wp2_with fail
    refine (HA1.out _ (HEN.out.keep HV5.out)).mono ?_
    rintro e V6 ⟨ev3, rfl, hb⟩
    have R6 := Go.Lib.hid (R5.out.keep hb)
    have HV6 := Go.Lib.hid (HV5.out.trans (hb.mono HV5.out.size))
    clear hb
    have c0 := R6.out.bo.cell 0
    have f0 := R6.out.bo.frozen 0
    have c1 := R6.out.bo.cell 1
    have f1 := R6.out.bo.frozen 1
    have c2 := R6.out.bo.cell 2
    have f2 := R6.out.bo.frozen 2
    have c3 := R6.out.bo.cell 3
    have f3 := R6.out.bo.frozen 3
    simp only [cOp, List.getElem?_cons_zero, List.getElem?_cons_succ] at c0 c1 c2 c3
    have lo := R6.out.bo.lt
    go_wp2_with fail
    obtain ⟨V7, hV7⟩ : ∃ V7, V7 = V6.setCell ⟨w.heap.size + 1 + 1 + 1, 3, none⟩ (.int .i64 a1) := ⟨_, rfl⟩
    have R7 : Hid (RB V7 lw cn w.heap.size (w.heap.size + 1) (w.heap.size + 1 + 1) (w.heap.size + 1 + 1 + 1) ⟨1, u1, u2, a1⟩) := Go.Lib.hid (by rw [hV7]; exact R6.out.set 3 _ ⟨1, u1, u2, a1⟩ rfl)
    have HV7 : Hid (Below w.heap.size w V7) := Go.Lib.hid (by rw [hV7]; exact below_set HV6.out (by omega) _)
    rw [← hV7]
    refine (bare_any ⟨1, u1, u2, a1⟩ V7).mono ?_
    rintro e V8 ⟨rfl, hb⟩
    rw [← HY.out]
    have R8 := Go.Lib.hid (R7.out.keep hb)
    have HV8 := Go.Lib.hid (HV7.out.trans (hb.mono HV7.out.size))
    clear hb hV7
    clear c0 f0 c1 f1 c2 f2 c3 f3 lo
    have c0 := R8.out.bo.cell 0
    have f0 := R8.out.bo.frozen 0
    have c1 := R8.out.bo.cell 1
    have f1 := R8.out.bo.frozen 1
    have c2 := R8.out.bo.cell 2
    have f2 := R8.out.bo.frozen 2
    have c3 := R8.out.bo.cell 3
    have f3 := R8.out.bo.frozen 3
    simp only [cOp, List.getElem?_cons_zero, List.getElem?_cons_succ] at c0 c1 c2 c3
    have lo := R8.out.bo.lt
    go_wp2_with fail
    obtain ⟨V9, hV9⟩ : ∃ V9, V9 = (((V8.setCell ⟨w.heap.size + 1 + 1 + 1, 0, none⟩ (.int .i64 (rdF s).kind)).setCell ⟨w.heap.size + 1 + 1 + 1, 1, none⟩ (.int .u64 (rdF s).key)).setCell ⟨w.heap.size + 1 + 1 + 1, 2, none⟩ (.int .u64 (rdF s).val)).setCell ⟨w.heap.size + 1 + 1 + 1, 3, none⟩ (.int .i64 (rdF s).n) := ⟨_, rfl⟩
    have R9 : RB V9 lw cn w.heap.size (w.heap.size + 1) (w.heap.size + 1 + 1) (w.heap.size + 1 + 1 + 1) (rdF s) := by
      rw [hV9]
      exact (((R8.out.set 0 _ ⟨(rdF s).kind, u1, u2, a1⟩ rfl).set 1 _ ⟨(rdF s).kind, (rdF s).key, u2, a1⟩ rfl).set 2 _ ⟨(rdF s).kind, (rdF s).key, (rdF s).val, a1⟩ rfl).set 3 _ (rdF s) rfl
    have B9 : Below w.heap.size w V9 := by
      rw [hV9]
      exact below_set (below_set (below_set (below_set HV8.out (by omega) _) (by omega) _) (by omega) _) (by omega) _
    rw [← hV9]
    have HL := Go.Lib.hid (HLN.out V9.drew ((HEN.out.keep B9).keep ((Below.refl _ _).drew)).p10)
    have S : ∀ W', Below V9.heap.size V9 W' → (W'.cell? ⟨w.heap.size + 1 + 1 + 1, 0, none⟩ = some (.int .i64 (rdF s).kind) ∧ W'.cell? ⟨w.heap.size + 1 + 1 + 1, 1, none⟩ = some (.int .u64 (rdF s).key) ∧ W'.cell? ⟨w.heap.size + 1 + 1 + 1, 2, none⟩ = some (.int .u64 (rdF s).val) ∧ W'.cell? ⟨w.heap.size + 1 + 1 + 1, 3, none⟩ = some (.int .i64 (rdF s).n)) := fun W' hb =>
      have q := R9.bo.keep hb
      ⟨q.cell 0, q.cell 1, q.cell 2, q.cell 3⟩
    have HS := Go.Lib.hid (fun W' (hb : Below V9.drew.heap.size V9.drew W') => S W' ((Below.refl _ _).drew.trans hb))
    have HS0 := Go.Lib.hid (S _ (Below.refl _ _).drew)
    have R9' := Go.Lib.hid R9
    have HB9 := Go.Lib.hid B9
    have HQ : Hid (∀ W', Below V9.drew.heap.size V9.drew W' → Blk W' w.heap.size [.int .i64 0, .int .u64 0, .int .u64 0, .int .i64 0] 48) := Go.Lib.hid (fun W' hb => R9.br.keep ((Below.refl _ _).drew.trans hb))
    have HS3 := Go.Lib.hid (fun W' x0 x1 x2 x3 (hb : Below V9.drew.heap.size V9.drew W') =>
      have q := R9.bo.keep ((Below.refl _ _).drew.trans hb)
      have q2 := (((q.set_ne (a := ⟨w.heap.size, 0, none⟩) R9.n1.symm x0).set_ne (a := ⟨w.heap.size, 1, none⟩) R9.n1.symm x1).set_ne (a := ⟨w.heap.size, 2, none⟩) R9.n1.symm x2).set_ne (a := ⟨w.heap.size, 3, none⟩) R9.n1.symm x3
      (⟨q2.cell 0, q2.cell 1, q2.cell 2, q2.cell 3⟩ : ((((W'.setCell ⟨w.heap.size, 0, none⟩ x0).setCell ⟨w.heap.size, 1, none⟩ x1).setCell ⟨w.heap.size, 2, none⟩ x2).setCell ⟨w.heap.size, 3, none⟩ x3).cell? ⟨w.heap.size + 1 + 1 + 1, 0, none⟩ = some (.int .i64 (rdF s).kind) ∧ ((((W'.setCell ⟨w.heap.size, 0, none⟩ x0).setCell ⟨w.heap.size, 1, none⟩ x1).setCell ⟨w.heap.size, 2, none⟩ x2).setCell ⟨w.heap.size, 3, none⟩ x3).cell? ⟨w.heap.size + 1 + 1 + 1, 1, none⟩ = some (.int .u64 (rdF s).key) ∧ ((((W'.setCell ⟨w.heap.size, 0, none⟩ x0).setCell ⟨w.heap.size, 1, none⟩ x1).setCell ⟨w.heap.size, 2, none⟩ x2).setCell ⟨w.heap.size, 3, none⟩ x3).cell? ⟨w.heap.size + 1 + 1 + 1, 2, none⟩ = some (.int .u64 (rdF s).val) ∧ ((((W'.setCell ⟨w.heap.size, 0, none⟩ x0).setCell ⟨w.heap.size, 1, none⟩ x1).setCell ⟨w.heap.size, 2, none⟩ x2).setCell ⟨w.heap.size, 3, none⟩ x3).cell? ⟨w.heap.size + 1 + 1 + 1, 3, none⟩ = some (.int .i64 (rdF s).n)))
    clear hV9 S R9 B9
    clear c0 f0 c1 f1 c2 f2 c3 f3 lo
    have lo9 := R9'.out.bo.lt
    generalize eY : rdF s = Y at *
    have EY := Go.Lib.hid eY
    clear eY
    generalize eL : lineF Y = LY at *
    have EL := Go.Lib.hid eL
    clear eL
    go_region_held3 (fun W' => W'.cell? ⟨w.heap.size + 1 + 1 + 1, 0, none⟩ = some (.int .i64 Y.kind) ∧ W'.cell? ⟨w.heap.size + 1 + 1 + 1, 1, none⟩ = some (.int .u64 Y.key) ∧ W'.cell? ⟨w.heap.size + 1 + 1 + 1, 2, none⟩ = some (.int .u64 Y.val) ∧ W'.cell? ⟨w.heap.size + 1 + 1 + 1, 3, none⟩ = some (.int .i64 Y.n))
      (first | with_reducible exact HS3.out _ _ _ _ _ hb1 | with_reducible exact HS.out _ hb1 | exact HS0.out)
      (first | (go_at_call 37; refine HL.out.mono ?_; rintro e w1 ⟨rfl, hb1⟩; (have qb := HQ.out _ hb1); (have r0 := qb.cell 0; have r1 := qb.cell 1; have r2 := qb.cell 2; have r3 := qb.cell 3; have y0 := qb.frozen 0; have y1 := qb.frozen 1; have y2 := qb.frozen 2; have y3 := qb.frozen 3); simp only [List.getElem?_cons_zero, List.getElem?_cons_succ] at r0 r1 r2 r3; (have rl := qb.lt); clear qb))
    obtain ⟨W10, hW10⟩ : ∃ W10, W10 = (((w1.setCell ⟨w.heap.size, 0, none⟩ (.int .i64 Y.kind)).setCell ⟨w.heap.size, 1, none⟩ (.int .u64 Y.key)).setCell ⟨w.heap.size, 2, none⟩ (.int .u64 Y.val)).setCell ⟨w.heap.size, 3, none⟩ (.int .i64 Y.n) := ⟨_, rfl⟩
    have b10 : Blk W10 w.heap.size (cOp Y) 48 := by rw [hW10]; exact ((((HQ.out _ hb1).set 0 _).set 1 _).set 2 _).set 3 _
    have HBF : Hid (Below w.heap.size w W10) := Go.Lib.hid (by rw [hW10]; exact below_set (below_set (below_set (below_set (HB9.out.trans (((Below.refl _ _).drew.trans hb1).mono HB9.out.size)) (Nat.le_refl _) _) (Nat.le_refl _) _) (Nat.le_refl _) _) (Nat.le_refl _) _)
    rw [← hW10]
    clear hW10 hb1 r0 r1 r2 r3 y0 y1 y2 y3 rl
    have d0 := b10.cell 0
    have d1 := b10.cell 1
    have d2 := b10.cell 2
    have d3 := b10.cell 3
    simp only [cOp, List.getElem?_cons_zero, List.getElem?_cons_succ] at d0 d1 d2 d3
    have dl := b10.lt
    clear b10
    go_wp2_with fail
    refine bodyPost_ret (v := .tuple #[.agg #[.int .i64 Y.kind, .int .u64 Y.key, .int .u64 Y.val, .int .i64 Y.n], .bool (LY.toList == s.toList)]) (by simp [results, Tryd.results35, go_sem, d0, d1, d2, d3]) rfl ⟨by rw [EY.out, EL.out], HBF.out⟩
  · rw [if_neg h1] at HKN
    by_cases h2 : s0.toList = [112, 117, 116]
    · rw [if_pos h2] at HKN
      have HY : Hid (rdF s = bareF ⟨2, u1, u2, a1⟩) := Go.Lib.hid (HRD.out _ HKN.out.symm)
      have c0 := HR.out.bo.cell 0
      have f0 := HR.out.bo.frozen 0
      simp only [cOp, List.getElem?_cons_zero, List.getElem?_cons_succ] at c0
      have lo := HR.out.bo.lt
      go_wp2_with fail
      obtain ⟨V1, hV1⟩ : ∃ V1, V1 = W1.setCell ⟨w.heap.size + 1 + 1 + 1, 0, none⟩ (.int .i64 2) := ⟨_, rfl⟩
      have R1 : Hid (RB V1 lw cn w.heap.size (w.heap.size + 1) (w.heap.size + 1 + 1) (w.heap.size + 1 + 1 + 1) ⟨2, 0, 0, 0⟩) := Go.Lib.hid (by rw [hV1]; exact HR.out.set 0 _ ⟨2, 0, 0, 0⟩ rfl)
      have HV1 : Hid (Below w.heap.size w V1) := Go.Lib.hid (by rw [hV1]; exact below_set HB.out (by omega) _)
      rw [← hV1]
      clear hV1
      clear c0 f0 lo
      refine (HW1.out _ _ _ R1.out.bb R1.out.bg).mono ?_
      rintro e w2 ⟨rfl, rfl⟩
      go_wp2_with fail
      refine (HP1.out _ (HEN.out.keep HV1.out)).mono ?_
      rintro e V2 ⟨ev1, rfl, hb⟩
      have R2 := Go.Lib.hid (R1.out.keep hb)
      have HV2 := Go.Lib.hid (HV1.out.trans (hb.mono HV1.out.size))
      clear hb
      have c1 := R2.out.bo.cell 1
      have f1 := R2.out.bo.frozen 1
      simp only [cOp, List.getElem?_cons_zero, List.getElem?_cons_succ] at c1
      have lo := R2.out.bo.lt
      go_wp2_with fail
      obtain ⟨V3, hV3⟩ : ∃ V3, V3 = V2.setCell ⟨w.heap.size + 1 + 1 + 1, 1, none⟩ (.int .u64 u1) := ⟨_, rfl⟩
      have R3 : Hid (RB V3 lw cn w.heap.size (w.heap.size + 1) (w.heap.size + 1 + 1) (w.heap.size + 1 + 1 + 1) ⟨2, u1, 0, 0⟩) := Go.Lib.hid (by rw [hV3]; exact R2.out.set 1 _ ⟨2, u1, 0, 0⟩ rfl)
      have HV3 : Hid (Below w.heap.size w V3) := Go.Lib.hid (by rw [hV3]; exact below_set HV2.out (by omega) _)
      rw [← hV3]
      clear hV3
      clear c1 f1 lo
      refine (HW2.out _ _ _ R3.out.bb R3.out.bg).mono ?_
      rintro e w2 ⟨rfl, rfl⟩
      go_wp2_with fail
      refine (HP2.out _ (HEN.out.keep HV3.out)).mono ?_
      rintro e V4 ⟨ev2, rfl, hb⟩
      have R4 := Go.Lib.hid (R3.out.keep hb)
      have HV4 := Go.Lib.hid (HV3.out.trans (hb.mono HV3.out.size))
      clear hb
      have c2 := R4.out.bo.cell 2
      have f2 := R4.out.bo.frozen 2
      simp only [cOp, List.getElem?_cons_zero, List.getElem?_cons_succ] at c2
      have lo := R4.out.bo.lt
      go_wp2_with fail
      obtain ⟨V5, hV5⟩ : ∃ V5, V5 = V4.setCell ⟨w.heap.size + 1 + 1 + 1, 2, none⟩ (.int .u64 u2) := ⟨_, rfl⟩
      have R5 : Hid (RB V5 lw cn w.heap.size (w.heap.size + 1) (w.heap.size + 1 + 1) (w.heap.size + 1 + 1 + 1) ⟨2, u1, u2, 0⟩) := Go.Lib.hid (by rw [hV5]; exact R4.out.set 2 _ ⟨2, u1, u2, 0⟩ rfl)
      have HV5 : Hid (Below w.heap.size w V5) := Go.Lib.hid (by rw [hV5]; exact below_set HV4.out (by omega) _)
      rw [← hV5]
      clear hV5
      clear c2 f2 lo
      refine (HW1.out _ _ _ R5.out.bb R5.out.bg).mono ?_
      rintro e w2 ⟨rfl, rfl⟩
      go_wp2_with fail
      refine (HA1.out _ (HEN.out.keep HV5.out)).mono ?_
      rintro e V6 ⟨ev3, rfl, hb⟩
      have R6 := Go.Lib.hid (R5.out.keep hb)
      have HV6 := Go.Lib.hid (HV5.out.trans (hb.mono HV5.out.size))
      clear hb
      have c0 := R6.out.bo.cell 0
      have f0 := R6.out.bo.frozen 0
      have c1 := R6.out.bo.cell 1
      have f1 := R6.out.bo.frozen 1
      have c2 := R6.out.bo.cell 2
      have f2 := R6.out.bo.frozen 2
      have c3 := R6.out.bo.cell 3
      have f3 := R6.out.bo.frozen 3
      simp only [cOp, List.getElem?_cons_zero, List.getElem?_cons_succ] at c0 c1 c2 c3
      have lo := R6.out.bo.lt
      go_wp2_with fail
      obtain ⟨V7, hV7⟩ : ∃ V7, V7 = V6.setCell ⟨w.heap.size + 1 + 1 + 1, 3, none⟩ (.int .i64 a1) := ⟨_, rfl⟩
      have R7 : Hid (RB V7 lw cn w.heap.size (w.heap.size + 1) (w.heap.size + 1 + 1) (w.heap.size + 1 + 1 + 1) ⟨2, u1, u2, a1⟩) := Go.Lib.hid (by rw [hV7]; exact R6.out.set 3 _ ⟨2, u1, u2, a1⟩ rfl)
      have HV7 : Hid (Below w.heap.size w V7) := Go.Lib.hid (by rw [hV7]; exact below_set HV6.out (by omega) _)
      rw [← hV7]
      refine (bare_any ⟨2, u1, u2, a1⟩ V7).mono ?_
      rintro e V8 ⟨rfl, hb⟩
      rw [← HY.out]
      have R8 := Go.Lib.hid (R7.out.keep hb)
      have HV8 := Go.Lib.hid (HV7.out.trans (hb.mono HV7.out.size))
      clear hb hV7
      clear c0 f0 c1 f1 c2 f2 c3 f3 lo
      have c0 := R8.out.bo.cell 0
      have f0 := R8.out.bo.frozen 0
      have c1 := R8.out.bo.cell 1
      have f1 := R8.out.bo.frozen 1
      have c2 := R8.out.bo.cell 2
      have f2 := R8.out.bo.frozen 2
      have c3 := R8.out.bo.cell 3
      have f3 := R8.out.bo.frozen 3
      simp only [cOp, List.getElem?_cons_zero, List.getElem?_cons_succ] at c0 c1 c2 c3
      have lo := R8.out.bo.lt
      go_wp2_with fail
      obtain ⟨V9, hV9⟩ : ∃ V9, V9 = (((V8.setCell ⟨w.heap.size + 1 + 1 + 1, 0, none⟩ (.int .i64 (rdF s).kind)).setCell ⟨w.heap.size + 1 + 1 + 1, 1, none⟩ (.int .u64 (rdF s).key)).setCell ⟨w.heap.size + 1 + 1 + 1, 2, none⟩ (.int .u64 (rdF s).val)).setCell ⟨w.heap.size + 1 + 1 + 1, 3, none⟩ (.int .i64 (rdF s).n) := ⟨_, rfl⟩
      have R9 : RB V9 lw cn w.heap.size (w.heap.size + 1) (w.heap.size + 1 + 1) (w.heap.size + 1 + 1 + 1) (rdF s) := by
        rw [hV9]
        exact (((R8.out.set 0 _ ⟨(rdF s).kind, u1, u2, a1⟩ rfl).set 1 _ ⟨(rdF s).kind, (rdF s).key, u2, a1⟩ rfl).set 2 _ ⟨(rdF s).kind, (rdF s).key, (rdF s).val, a1⟩ rfl).set 3 _ (rdF s) rfl
      have B9 : Below w.heap.size w V9 := by
        rw [hV9]
        exact below_set (below_set (below_set (below_set HV8.out (by omega) _) (by omega) _) (by omega) _) (by omega) _
      rw [← hV9]
      have HL := Go.Lib.hid (HLN.out V9.drew ((HEN.out.keep B9).keep ((Below.refl _ _).drew)).p10)
      have S : ∀ W', Below V9.heap.size V9 W' → (W'.cell? ⟨w.heap.size + 1 + 1 + 1, 0, none⟩ = some (.int .i64 (rdF s).kind) ∧ W'.cell? ⟨w.heap.size + 1 + 1 + 1, 1, none⟩ = some (.int .u64 (rdF s).key) ∧ W'.cell? ⟨w.heap.size + 1 + 1 + 1, 2, none⟩ = some (.int .u64 (rdF s).val) ∧ W'.cell? ⟨w.heap.size + 1 + 1 + 1, 3, none⟩ = some (.int .i64 (rdF s).n)) := fun W' hb =>
        have q := R9.bo.keep hb
        ⟨q.cell 0, q.cell 1, q.cell 2, q.cell 3⟩
      have HS := Go.Lib.hid (fun W' (hb : Below V9.drew.heap.size V9.drew W') => S W' ((Below.refl _ _).drew.trans hb))
      have HS0 := Go.Lib.hid (S _ (Below.refl _ _).drew)
      have R9' := Go.Lib.hid R9
      have HB9 := Go.Lib.hid B9
      have HQ : Hid (∀ W', Below V9.drew.heap.size V9.drew W' → Blk W' w.heap.size [.int .i64 0, .int .u64 0, .int .u64 0, .int .i64 0] 48) := Go.Lib.hid (fun W' hb => R9.br.keep ((Below.refl _ _).drew.trans hb))
      have HS3 := Go.Lib.hid (fun W' x0 x1 x2 x3 (hb : Below V9.drew.heap.size V9.drew W') =>
        have q := R9.bo.keep ((Below.refl _ _).drew.trans hb)
        have q2 := (((q.set_ne (a := ⟨w.heap.size, 0, none⟩) R9.n1.symm x0).set_ne (a := ⟨w.heap.size, 1, none⟩) R9.n1.symm x1).set_ne (a := ⟨w.heap.size, 2, none⟩) R9.n1.symm x2).set_ne (a := ⟨w.heap.size, 3, none⟩) R9.n1.symm x3
        (⟨q2.cell 0, q2.cell 1, q2.cell 2, q2.cell 3⟩ : ((((W'.setCell ⟨w.heap.size, 0, none⟩ x0).setCell ⟨w.heap.size, 1, none⟩ x1).setCell ⟨w.heap.size, 2, none⟩ x2).setCell ⟨w.heap.size, 3, none⟩ x3).cell? ⟨w.heap.size + 1 + 1 + 1, 0, none⟩ = some (.int .i64 (rdF s).kind) ∧ ((((W'.setCell ⟨w.heap.size, 0, none⟩ x0).setCell ⟨w.heap.size, 1, none⟩ x1).setCell ⟨w.heap.size, 2, none⟩ x2).setCell ⟨w.heap.size, 3, none⟩ x3).cell? ⟨w.heap.size + 1 + 1 + 1, 1, none⟩ = some (.int .u64 (rdF s).key) ∧ ((((W'.setCell ⟨w.heap.size, 0, none⟩ x0).setCell ⟨w.heap.size, 1, none⟩ x1).setCell ⟨w.heap.size, 2, none⟩ x2).setCell ⟨w.heap.size, 3, none⟩ x3).cell? ⟨w.heap.size + 1 + 1 + 1, 2, none⟩ = some (.int .u64 (rdF s).val) ∧ ((((W'.setCell ⟨w.heap.size, 0, none⟩ x0).setCell ⟨w.heap.size, 1, none⟩ x1).setCell ⟨w.heap.size, 2, none⟩ x2).setCell ⟨w.heap.size, 3, none⟩ x3).cell? ⟨w.heap.size + 1 + 1 + 1, 3, none⟩ = some (.int .i64 (rdF s).n)))
      clear hV9 S R9 B9
      clear c0 f0 c1 f1 c2 f2 c3 f3 lo
      have lo9 := R9'.out.bo.lt
      generalize eY : rdF s = Y at *
      have EY := Go.Lib.hid eY
      clear eY
      generalize eL : lineF Y = LY at *
      have EL := Go.Lib.hid eL
      clear eL
      go_region_held3 (fun W' => W'.cell? ⟨w.heap.size + 1 + 1 + 1, 0, none⟩ = some (.int .i64 Y.kind) ∧ W'.cell? ⟨w.heap.size + 1 + 1 + 1, 1, none⟩ = some (.int .u64 Y.key) ∧ W'.cell? ⟨w.heap.size + 1 + 1 + 1, 2, none⟩ = some (.int .u64 Y.val) ∧ W'.cell? ⟨w.heap.size + 1 + 1 + 1, 3, none⟩ = some (.int .i64 Y.n))
        (first | with_reducible exact HS3.out _ _ _ _ _ hb1 | with_reducible exact HS.out _ hb1 | exact HS0.out)
        (first | (go_at_call 37; refine HL.out.mono ?_; rintro e w1 ⟨rfl, hb1⟩; (have qb := HQ.out _ hb1); (have r0 := qb.cell 0; have r1 := qb.cell 1; have r2 := qb.cell 2; have r3 := qb.cell 3; have y0 := qb.frozen 0; have y1 := qb.frozen 1; have y2 := qb.frozen 2; have y3 := qb.frozen 3); simp only [List.getElem?_cons_zero, List.getElem?_cons_succ] at r0 r1 r2 r3; (have rl := qb.lt); clear qb))
      obtain ⟨W10, hW10⟩ : ∃ W10, W10 = (((w1.setCell ⟨w.heap.size, 0, none⟩ (.int .i64 Y.kind)).setCell ⟨w.heap.size, 1, none⟩ (.int .u64 Y.key)).setCell ⟨w.heap.size, 2, none⟩ (.int .u64 Y.val)).setCell ⟨w.heap.size, 3, none⟩ (.int .i64 Y.n) := ⟨_, rfl⟩
      have b10 : Blk W10 w.heap.size (cOp Y) 48 := by rw [hW10]; exact ((((HQ.out _ hb1).set 0 _).set 1 _).set 2 _).set 3 _
      have HBF : Hid (Below w.heap.size w W10) := Go.Lib.hid (by rw [hW10]; exact below_set (below_set (below_set (below_set (HB9.out.trans (((Below.refl _ _).drew.trans hb1).mono HB9.out.size)) (Nat.le_refl _) _) (Nat.le_refl _) _) (Nat.le_refl _) _) (Nat.le_refl _) _)
      rw [← hW10]
      clear hW10 hb1 r0 r1 r2 r3 y0 y1 y2 y3 rl
      have d0 := b10.cell 0
      have d1 := b10.cell 1
      have d2 := b10.cell 2
      have d3 := b10.cell 3
      simp only [cOp, List.getElem?_cons_zero, List.getElem?_cons_succ] at d0 d1 d2 d3
      have dl := b10.lt
      clear b10
      go_wp2_with fail
      refine bodyPost_ret (v := .tuple #[.agg #[.int .i64 Y.kind, .int .u64 Y.key, .int .u64 Y.val, .int .i64 Y.n], .bool (LY.toList == s.toList)]) (by simp [results, Tryd.results35, go_sem, d0, d1, d2, d3]) rfl ⟨by rw [EY.out, EL.out], HBF.out⟩
    · rw [if_neg h2] at HKN
      by_cases h3 : s0.toList = [100, 101, 108, 101, 116, 101]
      · rw [if_pos h3] at HKN
        have HY : Hid (rdF s = bareF ⟨3, u1, u2, a1⟩) := Go.Lib.hid (HRD.out _ HKN.out.symm)
        have c0 := HR.out.bo.cell 0
        have f0 := HR.out.bo.frozen 0
        simp only [cOp, List.getElem?_cons_zero, List.getElem?_cons_succ] at c0
        have lo := HR.out.bo.lt
        go_wp2_with fail
        obtain ⟨V1, hV1⟩ : ∃ V1, V1 = W1.setCell ⟨w.heap.size + 1 + 1 + 1, 0, none⟩ (.int .i64 3) := ⟨_, rfl⟩
        have R1 : Hid (RB V1 lw cn w.heap.size (w.heap.size + 1) (w.heap.size + 1 + 1) (w.heap.size + 1 + 1 + 1) ⟨3, 0, 0, 0⟩) := Go.Lib.hid (by rw [hV1]; exact HR.out.set 0 _ ⟨3, 0, 0, 0⟩ rfl)
        have HV1 : Hid (Below w.heap.size w V1) := Go.Lib.hid (by rw [hV1]; exact below_set HB.out (by omega) _)
        rw [← hV1]
        clear hV1
        clear c0 f0 lo
        refine (HW1.out _ _ _ R1.out.bb R1.out.bg).mono ?_
        rintro e w2 ⟨rfl, rfl⟩
        go_wp2_with fail
        refine (HP1.out _ (HEN.out.keep HV1.out)).mono ?_
        rintro e V2 ⟨ev1, rfl, hb⟩
        have R2 := Go.Lib.hid (R1.out.keep hb)
        have HV2 := Go.Lib.hid (HV1.out.trans (hb.mono HV1.out.size))
        clear hb
        have c1 := R2.out.bo.cell 1
        have f1 := R2.out.bo.frozen 1
        simp only [cOp, List.getElem?_cons_zero, List.getElem?_cons_succ] at c1
        have lo := R2.out.bo.lt
        go_wp2_with fail
        obtain ⟨V3, hV3⟩ : ∃ V3, V3 = V2.setCell ⟨w.heap.size + 1 + 1 + 1, 1, none⟩ (.int .u64 u1) := ⟨_, rfl⟩
        have R3 : Hid (RB V3 lw cn w.heap.size (w.heap.size + 1) (w.heap.size + 1 + 1) (w.heap.size + 1 + 1 + 1) ⟨3, u1, 0, 0⟩) := Go.Lib.hid (by rw [hV3]; exact R2.out.set 1 _ ⟨3, u1, 0, 0⟩ rfl)
        have HV3 : Hid (Below w.heap.size w V3) := Go.Lib.hid (by rw [hV3]; exact below_set HV2.out (by omega) _)
        rw [← hV3]
        clear hV3
        clear c1 f1 lo
        refine (HW2.out _ _ _ R3.out.bb R3.out.bg).mono ?_
        rintro e w2 ⟨rfl, rfl⟩
        go_wp2_with fail
        refine (HP2.out _ (HEN.out.keep HV3.out)).mono ?_
        rintro e V4 ⟨ev2, rfl, hb⟩
        have R4 := Go.Lib.hid (R3.out.keep hb)
        have HV4 := Go.Lib.hid (HV3.out.trans (hb.mono HV3.out.size))
        clear hb
        have c2 := R4.out.bo.cell 2
        have f2 := R4.out.bo.frozen 2
        simp only [cOp, List.getElem?_cons_zero, List.getElem?_cons_succ] at c2
        have lo := R4.out.bo.lt
        go_wp2_with fail
        obtain ⟨V5, hV5⟩ : ∃ V5, V5 = V4.setCell ⟨w.heap.size + 1 + 1 + 1, 2, none⟩ (.int .u64 u2) := ⟨_, rfl⟩
        have R5 : Hid (RB V5 lw cn w.heap.size (w.heap.size + 1) (w.heap.size + 1 + 1) (w.heap.size + 1 + 1 + 1) ⟨3, u1, u2, 0⟩) := Go.Lib.hid (by rw [hV5]; exact R4.out.set 2 _ ⟨3, u1, u2, 0⟩ rfl)
        have HV5 : Hid (Below w.heap.size w V5) := Go.Lib.hid (by rw [hV5]; exact below_set HV4.out (by omega) _)
        rw [← hV5]
        clear hV5
        clear c2 f2 lo
        refine (HW1.out _ _ _ R5.out.bb R5.out.bg).mono ?_
        rintro e w2 ⟨rfl, rfl⟩
        go_wp2_with fail
        refine (HA1.out _ (HEN.out.keep HV5.out)).mono ?_
        rintro e V6 ⟨ev3, rfl, hb⟩
        have R6 := Go.Lib.hid (R5.out.keep hb)
        have HV6 := Go.Lib.hid (HV5.out.trans (hb.mono HV5.out.size))
        clear hb
        have c0 := R6.out.bo.cell 0
        have f0 := R6.out.bo.frozen 0
        have c1 := R6.out.bo.cell 1
        have f1 := R6.out.bo.frozen 1
        have c2 := R6.out.bo.cell 2
        have f2 := R6.out.bo.frozen 2
        have c3 := R6.out.bo.cell 3
        have f3 := R6.out.bo.frozen 3
        simp only [cOp, List.getElem?_cons_zero, List.getElem?_cons_succ] at c0 c1 c2 c3
        have lo := R6.out.bo.lt
        go_wp2_with fail
        obtain ⟨V7, hV7⟩ : ∃ V7, V7 = V6.setCell ⟨w.heap.size + 1 + 1 + 1, 3, none⟩ (.int .i64 a1) := ⟨_, rfl⟩
        have R7 : Hid (RB V7 lw cn w.heap.size (w.heap.size + 1) (w.heap.size + 1 + 1) (w.heap.size + 1 + 1 + 1) ⟨3, u1, u2, a1⟩) := Go.Lib.hid (by rw [hV7]; exact R6.out.set 3 _ ⟨3, u1, u2, a1⟩ rfl)
        have HV7 : Hid (Below w.heap.size w V7) := Go.Lib.hid (by rw [hV7]; exact below_set HV6.out (by omega) _)
        rw [← hV7]
        refine (bare_any ⟨3, u1, u2, a1⟩ V7).mono ?_
        rintro e V8 ⟨rfl, hb⟩
        rw [← HY.out]
        have R8 := Go.Lib.hid (R7.out.keep hb)
        have HV8 := Go.Lib.hid (HV7.out.trans (hb.mono HV7.out.size))
        clear hb hV7
        clear c0 f0 c1 f1 c2 f2 c3 f3 lo
        have c0 := R8.out.bo.cell 0
        have f0 := R8.out.bo.frozen 0
        have c1 := R8.out.bo.cell 1
        have f1 := R8.out.bo.frozen 1
        have c2 := R8.out.bo.cell 2
        have f2 := R8.out.bo.frozen 2
        have c3 := R8.out.bo.cell 3
        have f3 := R8.out.bo.frozen 3
        simp only [cOp, List.getElem?_cons_zero, List.getElem?_cons_succ] at c0 c1 c2 c3
        have lo := R8.out.bo.lt
        go_wp2_with fail
        obtain ⟨V9, hV9⟩ : ∃ V9, V9 = (((V8.setCell ⟨w.heap.size + 1 + 1 + 1, 0, none⟩ (.int .i64 (rdF s).kind)).setCell ⟨w.heap.size + 1 + 1 + 1, 1, none⟩ (.int .u64 (rdF s).key)).setCell ⟨w.heap.size + 1 + 1 + 1, 2, none⟩ (.int .u64 (rdF s).val)).setCell ⟨w.heap.size + 1 + 1 + 1, 3, none⟩ (.int .i64 (rdF s).n) := ⟨_, rfl⟩
        have R9 : RB V9 lw cn w.heap.size (w.heap.size + 1) (w.heap.size + 1 + 1) (w.heap.size + 1 + 1 + 1) (rdF s) := by
          rw [hV9]
          exact (((R8.out.set 0 _ ⟨(rdF s).kind, u1, u2, a1⟩ rfl).set 1 _ ⟨(rdF s).kind, (rdF s).key, u2, a1⟩ rfl).set 2 _ ⟨(rdF s).kind, (rdF s).key, (rdF s).val, a1⟩ rfl).set 3 _ (rdF s) rfl
        have B9 : Below w.heap.size w V9 := by
          rw [hV9]
          exact below_set (below_set (below_set (below_set HV8.out (by omega) _) (by omega) _) (by omega) _) (by omega) _
        rw [← hV9]
        have HL := Go.Lib.hid (HLN.out V9.drew ((HEN.out.keep B9).keep ((Below.refl _ _).drew)).p10)
        have S : ∀ W', Below V9.heap.size V9 W' → (W'.cell? ⟨w.heap.size + 1 + 1 + 1, 0, none⟩ = some (.int .i64 (rdF s).kind) ∧ W'.cell? ⟨w.heap.size + 1 + 1 + 1, 1, none⟩ = some (.int .u64 (rdF s).key) ∧ W'.cell? ⟨w.heap.size + 1 + 1 + 1, 2, none⟩ = some (.int .u64 (rdF s).val) ∧ W'.cell? ⟨w.heap.size + 1 + 1 + 1, 3, none⟩ = some (.int .i64 (rdF s).n)) := fun W' hb =>
          have q := R9.bo.keep hb
          ⟨q.cell 0, q.cell 1, q.cell 2, q.cell 3⟩
        have HS := Go.Lib.hid (fun W' (hb : Below V9.drew.heap.size V9.drew W') => S W' ((Below.refl _ _).drew.trans hb))
        have HS0 := Go.Lib.hid (S _ (Below.refl _ _).drew)
        have R9' := Go.Lib.hid R9
        have HB9 := Go.Lib.hid B9
        have HQ : Hid (∀ W', Below V9.drew.heap.size V9.drew W' → Blk W' w.heap.size [.int .i64 0, .int .u64 0, .int .u64 0, .int .i64 0] 48) := Go.Lib.hid (fun W' hb => R9.br.keep ((Below.refl _ _).drew.trans hb))
        have HS3 := Go.Lib.hid (fun W' x0 x1 x2 x3 (hb : Below V9.drew.heap.size V9.drew W') =>
          have q := R9.bo.keep ((Below.refl _ _).drew.trans hb)
          have q2 := (((q.set_ne (a := ⟨w.heap.size, 0, none⟩) R9.n1.symm x0).set_ne (a := ⟨w.heap.size, 1, none⟩) R9.n1.symm x1).set_ne (a := ⟨w.heap.size, 2, none⟩) R9.n1.symm x2).set_ne (a := ⟨w.heap.size, 3, none⟩) R9.n1.symm x3
          (⟨q2.cell 0, q2.cell 1, q2.cell 2, q2.cell 3⟩ : ((((W'.setCell ⟨w.heap.size, 0, none⟩ x0).setCell ⟨w.heap.size, 1, none⟩ x1).setCell ⟨w.heap.size, 2, none⟩ x2).setCell ⟨w.heap.size, 3, none⟩ x3).cell? ⟨w.heap.size + 1 + 1 + 1, 0, none⟩ = some (.int .i64 (rdF s).kind) ∧ ((((W'.setCell ⟨w.heap.size, 0, none⟩ x0).setCell ⟨w.heap.size, 1, none⟩ x1).setCell ⟨w.heap.size, 2, none⟩ x2).setCell ⟨w.heap.size, 3, none⟩ x3).cell? ⟨w.heap.size + 1 + 1 + 1, 1, none⟩ = some (.int .u64 (rdF s).key) ∧ ((((W'.setCell ⟨w.heap.size, 0, none⟩ x0).setCell ⟨w.heap.size, 1, none⟩ x1).setCell ⟨w.heap.size, 2, none⟩ x2).setCell ⟨w.heap.size, 3, none⟩ x3).cell? ⟨w.heap.size + 1 + 1 + 1, 2, none⟩ = some (.int .u64 (rdF s).val) ∧ ((((W'.setCell ⟨w.heap.size, 0, none⟩ x0).setCell ⟨w.heap.size, 1, none⟩ x1).setCell ⟨w.heap.size, 2, none⟩ x2).setCell ⟨w.heap.size, 3, none⟩ x3).cell? ⟨w.heap.size + 1 + 1 + 1, 3, none⟩ = some (.int .i64 (rdF s).n)))
        clear hV9 S R9 B9
        clear c0 f0 c1 f1 c2 f2 c3 f3 lo
        have lo9 := R9'.out.bo.lt
        generalize eY : rdF s = Y at *
        have EY := Go.Lib.hid eY
        clear eY
        generalize eL : lineF Y = LY at *
        have EL := Go.Lib.hid eL
        clear eL
        go_region_held3 (fun W' => W'.cell? ⟨w.heap.size + 1 + 1 + 1, 0, none⟩ = some (.int .i64 Y.kind) ∧ W'.cell? ⟨w.heap.size + 1 + 1 + 1, 1, none⟩ = some (.int .u64 Y.key) ∧ W'.cell? ⟨w.heap.size + 1 + 1 + 1, 2, none⟩ = some (.int .u64 Y.val) ∧ W'.cell? ⟨w.heap.size + 1 + 1 + 1, 3, none⟩ = some (.int .i64 Y.n))
          (first | with_reducible exact HS3.out _ _ _ _ _ hb1 | with_reducible exact HS.out _ hb1 | exact HS0.out)
          (first | (go_at_call 37; refine HL.out.mono ?_; rintro e w1 ⟨rfl, hb1⟩; (have qb := HQ.out _ hb1); (have r0 := qb.cell 0; have r1 := qb.cell 1; have r2 := qb.cell 2; have r3 := qb.cell 3; have y0 := qb.frozen 0; have y1 := qb.frozen 1; have y2 := qb.frozen 2; have y3 := qb.frozen 3); simp only [List.getElem?_cons_zero, List.getElem?_cons_succ] at r0 r1 r2 r3; (have rl := qb.lt); clear qb))
        obtain ⟨W10, hW10⟩ : ∃ W10, W10 = (((w1.setCell ⟨w.heap.size, 0, none⟩ (.int .i64 Y.kind)).setCell ⟨w.heap.size, 1, none⟩ (.int .u64 Y.key)).setCell ⟨w.heap.size, 2, none⟩ (.int .u64 Y.val)).setCell ⟨w.heap.size, 3, none⟩ (.int .i64 Y.n) := ⟨_, rfl⟩
        have b10 : Blk W10 w.heap.size (cOp Y) 48 := by rw [hW10]; exact ((((HQ.out _ hb1).set 0 _).set 1 _).set 2 _).set 3 _
        have HBF : Hid (Below w.heap.size w W10) := Go.Lib.hid (by rw [hW10]; exact below_set (below_set (below_set (below_set (HB9.out.trans (((Below.refl _ _).drew.trans hb1).mono HB9.out.size)) (Nat.le_refl _) _) (Nat.le_refl _) _) (Nat.le_refl _) _) (Nat.le_refl _) _)
        rw [← hW10]
        clear hW10 hb1 r0 r1 r2 r3 y0 y1 y2 y3 rl
        have d0 := b10.cell 0
        have d1 := b10.cell 1
        have d2 := b10.cell 2
        have d3 := b10.cell 3
        simp only [cOp, List.getElem?_cons_zero, List.getElem?_cons_succ] at d0 d1 d2 d3
        have dl := b10.lt
        clear b10
        go_wp2_with fail
        refine bodyPost_ret (v := .tuple #[.agg #[.int .i64 Y.kind, .int .u64 Y.key, .int .u64 Y.val, .int .i64 Y.n], .bool (LY.toList == s.toList)]) (by simp [results, Tryd.results35, go_sem, d0, d1, d2, d3]) rfl ⟨by rw [EY.out, EL.out], HBF.out⟩
      · rw [if_neg h3] at HKN
        by_cases h4 : s0.toList = [114, 101, 115, 105, 122, 101]
        · rw [if_pos h4] at HKN
          have HY : Hid (rdF s = bareF ⟨4, u1, u2, a1⟩) := Go.Lib.hid (HRD.out _ HKN.out.symm)
          have c0 := HR.out.bo.cell 0
          have f0 := HR.out.bo.frozen 0
          simp only [cOp, List.getElem?_cons_zero, List.getElem?_cons_succ] at c0
          have lo := HR.out.bo.lt
          go_wp2_with fail
          obtain ⟨V1, hV1⟩ : ∃ V1, V1 = W1.setCell ⟨w.heap.size + 1 + 1 + 1, 0, none⟩ (.int .i64 4) := ⟨_, rfl⟩
          have R1 : Hid (RB V1 lw cn w.heap.size (w.heap.size + 1) (w.heap.size + 1 + 1) (w.heap.size + 1 + 1 + 1) ⟨4, 0, 0, 0⟩) := Go.Lib.hid (by rw [hV1]; exact HR.out.set 0 _ ⟨4, 0, 0, 0⟩ rfl)
          have HV1 : Hid (Below w.heap.size w V1) := Go.Lib.hid (by rw [hV1]; exact below_set HB.out (by omega) _)
          rw [← hV1]
          clear hV1
          clear c0 f0 lo
          refine (HW1.out _ _ _ R1.out.bb R1.out.bg).mono ?_
          rintro e w2 ⟨rfl, rfl⟩
          go_wp2_with fail
          refine (HP1.out _ (HEN.out.keep HV1.out)).mono ?_
          rintro e V2 ⟨ev1, rfl, hb⟩
          have R2 := Go.Lib.hid (R1.out.keep hb)
          have HV2 := Go.Lib.hid (HV1.out.trans (hb.mono HV1.out.size))
          clear hb
          have c1 := R2.out.bo.cell 1
          have f1 := R2.out.bo.frozen 1
          simp only [cOp, List.getElem?_cons_zero, List.getElem?_cons_succ] at c1
          have lo := R2.out.bo.lt
          go_wp2_with fail
          obtain ⟨V3, hV3⟩ : ∃ V3, V3 = V2.setCell ⟨w.heap.size + 1 + 1 + 1, 1, none⟩ (.int .u64 u1) := ⟨_, rfl⟩
          have R3 : Hid (RB V3 lw cn w.heap.size (w.heap.size + 1) (w.heap.size + 1 + 1) (w.heap.size + 1 + 1 + 1) ⟨4, u1, 0, 0⟩) := Go.Lib.hid (by rw [hV3]; exact R2.out.set 1 _ ⟨4, u1, 0, 0⟩ rfl)
          have HV3 : Hid (Below w.heap.size w V3) := Go.Lib.hid (by rw [hV3]; exact below_set HV2.out (by omega) _)
          rw [← hV3]
          clear hV3
          clear c1 f1 lo
          refine (HW2.out _ _ _ R3.out.bb R3.out.bg).mono ?_
          rintro e w2 ⟨rfl, rfl⟩
          go_wp2_with fail
          refine (HP2.out _ (HEN.out.keep HV3.out)).mono ?_
          rintro e V4 ⟨ev2, rfl, hb⟩
          have R4 := Go.Lib.hid (R3.out.keep hb)
          have HV4 := Go.Lib.hid (HV3.out.trans (hb.mono HV3.out.size))
          clear hb
          have c2 := R4.out.bo.cell 2
          have f2 := R4.out.bo.frozen 2
          simp only [cOp, List.getElem?_cons_zero, List.getElem?_cons_succ] at c2
          have lo := R4.out.bo.lt
          go_wp2_with fail
          obtain ⟨V5, hV5⟩ : ∃ V5, V5 = V4.setCell ⟨w.heap.size + 1 + 1 + 1, 2, none⟩ (.int .u64 u2) := ⟨_, rfl⟩
          have R5 : Hid (RB V5 lw cn w.heap.size (w.heap.size + 1) (w.heap.size + 1 + 1) (w.heap.size + 1 + 1 + 1) ⟨4, u1, u2, 0⟩) := Go.Lib.hid (by rw [hV5]; exact R4.out.set 2 _ ⟨4, u1, u2, 0⟩ rfl)
          have HV5 : Hid (Below w.heap.size w V5) := Go.Lib.hid (by rw [hV5]; exact below_set HV4.out (by omega) _)
          rw [← hV5]
          clear hV5
          clear c2 f2 lo
          refine (HW1.out _ _ _ R5.out.bb R5.out.bg).mono ?_
          rintro e w2 ⟨rfl, rfl⟩
          go_wp2_with fail
          refine (HA1.out _ (HEN.out.keep HV5.out)).mono ?_
          rintro e V6 ⟨ev3, rfl, hb⟩
          have R6 := Go.Lib.hid (R5.out.keep hb)
          have HV6 := Go.Lib.hid (HV5.out.trans (hb.mono HV5.out.size))
          clear hb
          have c0 := R6.out.bo.cell 0
          have f0 := R6.out.bo.frozen 0
          have c1 := R6.out.bo.cell 1
          have f1 := R6.out.bo.frozen 1
          have c2 := R6.out.bo.cell 2
          have f2 := R6.out.bo.frozen 2
          have c3 := R6.out.bo.cell 3
          have f3 := R6.out.bo.frozen 3
          simp only [cOp, List.getElem?_cons_zero, List.getElem?_cons_succ] at c0 c1 c2 c3
          have lo := R6.out.bo.lt
          go_wp2_with fail
          obtain ⟨V7, hV7⟩ : ∃ V7, V7 = V6.setCell ⟨w.heap.size + 1 + 1 + 1, 3, none⟩ (.int .i64 a1) := ⟨_, rfl⟩
          have R7 : Hid (RB V7 lw cn w.heap.size (w.heap.size + 1) (w.heap.size + 1 + 1) (w.heap.size + 1 + 1 + 1) ⟨4, u1, u2, a1⟩) := Go.Lib.hid (by rw [hV7]; exact R6.out.set 3 _ ⟨4, u1, u2, a1⟩ rfl)
          have HV7 : Hid (Below w.heap.size w V7) := Go.Lib.hid (by rw [hV7]; exact below_set HV6.out (by omega) _)
          rw [← hV7]
          refine (bare_any ⟨4, u1, u2, a1⟩ V7).mono ?_
          rintro e V8 ⟨rfl, hb⟩
          rw [← HY.out]
          have R8 := Go.Lib.hid (R7.out.keep hb)
          have HV8 := Go.Lib.hid (HV7.out.trans (hb.mono HV7.out.size))
          clear hb hV7
          clear c0 f0 c1 f1 c2 f2 c3 f3 lo
          have c0 := R8.out.bo.cell 0
          have f0 := R8.out.bo.frozen 0
          have c1 := R8.out.bo.cell 1
          have f1 := R8.out.bo.frozen 1
          have c2 := R8.out.bo.cell 2
          have f2 := R8.out.bo.frozen 2
          have c3 := R8.out.bo.cell 3
          have f3 := R8.out.bo.frozen 3
          simp only [cOp, List.getElem?_cons_zero, List.getElem?_cons_succ] at c0 c1 c2 c3
          have lo := R8.out.bo.lt
          go_wp2_with fail
          obtain ⟨V9, hV9⟩ : ∃ V9, V9 = (((V8.setCell ⟨w.heap.size + 1 + 1 + 1, 0, none⟩ (.int .i64 (rdF s).kind)).setCell ⟨w.heap.size + 1 + 1 + 1, 1, none⟩ (.int .u64 (rdF s).key)).setCell ⟨w.heap.size + 1 + 1 + 1, 2, none⟩ (.int .u64 (rdF s).val)).setCell ⟨w.heap.size + 1 + 1 + 1, 3, none⟩ (.int .i64 (rdF s).n) := ⟨_, rfl⟩
          have R9 : RB V9 lw cn w.heap.size (w.heap.size + 1) (w.heap.size + 1 + 1) (w.heap.size + 1 + 1 + 1) (rdF s) := by
            rw [hV9]
            exact (((R8.out.set 0 _ ⟨(rdF s).kind, u1, u2, a1⟩ rfl).set 1 _ ⟨(rdF s).kind, (rdF s).key, u2, a1⟩ rfl).set 2 _ ⟨(rdF s).kind, (rdF s).key, (rdF s).val, a1⟩ rfl).set 3 _ (rdF s) rfl
          have B9 : Below w.heap.size w V9 := by
            rw [hV9]
            exact below_set (below_set (below_set (below_set HV8.out (by omega) _) (by omega) _) (by omega) _) (by omega) _
          rw [← hV9]
          have HL := Go.Lib.hid (HLN.out V9.drew ((HEN.out.keep B9).keep ((Below.refl _ _).drew)).p10)
          have S : ∀ W', Below V9.heap.size V9 W' → (W'.cell? ⟨w.heap.size + 1 + 1 + 1, 0, none⟩ = some (.int .i64 (rdF s).kind) ∧ W'.cell? ⟨w.heap.size + 1 + 1 + 1, 1, none⟩ = some (.int .u64 (rdF s).key) ∧ W'.cell? ⟨w.heap.size + 1 + 1 + 1, 2, none⟩ = some (.int .u64 (rdF s).val) ∧ W'.cell? ⟨w.heap.size + 1 + 1 + 1, 3, none⟩ = some (.int .i64 (rdF s).n)) := fun W' hb =>
            have q := R9.bo.keep hb
            ⟨q.cell 0, q.cell 1, q.cell 2, q.cell 3⟩
          have HS := Go.Lib.hid (fun W' (hb : Below V9.drew.heap.size V9.drew W') => S W' ((Below.refl _ _).drew.trans hb))
          have HS0 := Go.Lib.hid (S _ (Below.refl _ _).drew)
          have R9' := Go.Lib.hid R9
          have HB9 := Go.Lib.hid B9
          have HQ : Hid (∀ W', Below V9.drew.heap.size V9.drew W' → Blk W' w.heap.size [.int .i64 0, .int .u64 0, .int .u64 0, .int .i64 0] 48) := Go.Lib.hid (fun W' hb => R9.br.keep ((Below.refl _ _).drew.trans hb))
          have HS3 := Go.Lib.hid (fun W' x0 x1 x2 x3 (hb : Below V9.drew.heap.size V9.drew W') =>
            have q := R9.bo.keep ((Below.refl _ _).drew.trans hb)
            have q2 := (((q.set_ne (a := ⟨w.heap.size, 0, none⟩) R9.n1.symm x0).set_ne (a := ⟨w.heap.size, 1, none⟩) R9.n1.symm x1).set_ne (a := ⟨w.heap.size, 2, none⟩) R9.n1.symm x2).set_ne (a := ⟨w.heap.size, 3, none⟩) R9.n1.symm x3
            (⟨q2.cell 0, q2.cell 1, q2.cell 2, q2.cell 3⟩ : ((((W'.setCell ⟨w.heap.size, 0, none⟩ x0).setCell ⟨w.heap.size, 1, none⟩ x1).setCell ⟨w.heap.size, 2, none⟩ x2).setCell ⟨w.heap.size, 3, none⟩ x3).cell? ⟨w.heap.size + 1 + 1 + 1, 0, none⟩ = some (.int .i64 (rdF s).kind) ∧ ((((W'.setCell ⟨w.heap.size, 0, none⟩ x0).setCell ⟨w.heap.size, 1, none⟩ x1).setCell ⟨w.heap.size, 2, none⟩ x2).setCell ⟨w.heap.size, 3, none⟩ x3).cell? ⟨w.heap.size + 1 + 1 + 1, 1, none⟩ = some (.int .u64 (rdF s).key) ∧ ((((W'.setCell ⟨w.heap.size, 0, none⟩ x0).setCell ⟨w.heap.size, 1, none⟩ x1).setCell ⟨w.heap.size, 2, none⟩ x2).setCell ⟨w.heap.size, 3, none⟩ x3).cell? ⟨w.heap.size + 1 + 1 + 1, 2, none⟩ = some (.int .u64 (rdF s).val) ∧ ((((W'.setCell ⟨w.heap.size, 0, none⟩ x0).setCell ⟨w.heap.size, 1, none⟩ x1).setCell ⟨w.heap.size, 2, none⟩ x2).setCell ⟨w.heap.size, 3, none⟩ x3).cell? ⟨w.heap.size + 1 + 1 + 1, 3, none⟩ = some (.int .i64 (rdF s).n)))
          clear hV9 S R9 B9
          clear c0 f0 c1 f1 c2 f2 c3 f3 lo
          have lo9 := R9'.out.bo.lt
          generalize eY : rdF s = Y at *
          have EY := Go.Lib.hid eY
          clear eY
          generalize eL : lineF Y = LY at *
          have EL := Go.Lib.hid eL
          clear eL
          go_region_held3 (fun W' => W'.cell? ⟨w.heap.size + 1 + 1 + 1, 0, none⟩ = some (.int .i64 Y.kind) ∧ W'.cell? ⟨w.heap.size + 1 + 1 + 1, 1, none⟩ = some (.int .u64 Y.key) ∧ W'.cell? ⟨w.heap.size + 1 + 1 + 1, 2, none⟩ = some (.int .u64 Y.val) ∧ W'.cell? ⟨w.heap.size + 1 + 1 + 1, 3, none⟩ = some (.int .i64 Y.n))
            (first | with_reducible exact HS3.out _ _ _ _ _ hb1 | with_reducible exact HS.out _ hb1 | exact HS0.out)
            (first | (go_at_call 37; refine HL.out.mono ?_; rintro e w1 ⟨rfl, hb1⟩; (have qb := HQ.out _ hb1); (have r0 := qb.cell 0; have r1 := qb.cell 1; have r2 := qb.cell 2; have r3 := qb.cell 3; have y0 := qb.frozen 0; have y1 := qb.frozen 1; have y2 := qb.frozen 2; have y3 := qb.frozen 3); simp only [List.getElem?_cons_zero, List.getElem?_cons_succ] at r0 r1 r2 r3; (have rl := qb.lt); clear qb))
          obtain ⟨W10, hW10⟩ : ∃ W10, W10 = (((w1.setCell ⟨w.heap.size, 0, none⟩ (.int .i64 Y.kind)).setCell ⟨w.heap.size, 1, none⟩ (.int .u64 Y.key)).setCell ⟨w.heap.size, 2, none⟩ (.int .u64 Y.val)).setCell ⟨w.heap.size, 3, none⟩ (.int .i64 Y.n) := ⟨_, rfl⟩
          have b10 : Blk W10 w.heap.size (cOp Y) 48 := by rw [hW10]; exact ((((HQ.out _ hb1).set 0 _).set 1 _).set 2 _).set 3 _
          have HBF : Hid (Below w.heap.size w W10) := Go.Lib.hid (by rw [hW10]; exact below_set (below_set (below_set (below_set (HB9.out.trans (((Below.refl _ _).drew.trans hb1).mono HB9.out.size)) (Nat.le_refl _) _) (Nat.le_refl _) _) (Nat.le_refl _) _) (Nat.le_refl _) _)
          rw [← hW10]
          clear hW10 hb1 r0 r1 r2 r3 y0 y1 y2 y3 rl
          have d0 := b10.cell 0
          have d1 := b10.cell 1
          have d2 := b10.cell 2
          have d3 := b10.cell 3
          simp only [cOp, List.getElem?_cons_zero, List.getElem?_cons_succ] at d0 d1 d2 d3
          have dl := b10.lt
          clear b10
          go_wp2_with fail
          refine bodyPost_ret (v := .tuple #[.agg #[.int .i64 Y.kind, .int .u64 Y.key, .int .u64 Y.val, .int .i64 Y.n], .bool (LY.toList == s.toList)]) (by simp [results, Tryd.results35, go_sem, d0, d1, d2, d3]) rfl ⟨by rw [EY.out, EL.out], HBF.out⟩
        · rw [if_neg h4] at HKN
          by_cases h5 : s0.toList = [108, 101, 110]
          · rw [if_pos h5] at HKN
            have HY : Hid (rdF s = bareF ⟨5, u1, u2, a1⟩) := Go.Lib.hid (HRD.out _ HKN.out.symm)
            have c0 := HR.out.bo.cell 0
            have f0 := HR.out.bo.frozen 0
            simp only [cOp, List.getElem?_cons_zero, List.getElem?_cons_succ] at c0
            have lo := HR.out.bo.lt
            go_wp2_with fail
            obtain ⟨V1, hV1⟩ : ∃ V1, V1 = W1.setCell ⟨w.heap.size + 1 + 1 + 1, 0, none⟩ (.int .i64 5) := ⟨_, rfl⟩
            have R1 : Hid (RB V1 lw cn w.heap.size (w.heap.size + 1) (w.heap.size + 1 + 1) (w.heap.size + 1 + 1 + 1) ⟨5, 0, 0, 0⟩) := Go.Lib.hid (by rw [hV1]; exact HR.out.set 0 _ ⟨5, 0, 0, 0⟩ rfl)
            have HV1 : Hid (Below w.heap.size w V1) := Go.Lib.hid (by rw [hV1]; exact below_set HB.out (by omega) _)
            rw [← hV1]
            clear hV1
            clear c0 f0 lo
            refine (HW1.out _ _ _ R1.out.bb R1.out.bg).mono ?_
            rintro e w2 ⟨rfl, rfl⟩
            go_wp2_with fail
            refine (HP1.out _ (HEN.out.keep HV1.out)).mono ?_
            rintro e V2 ⟨ev1, rfl, hb⟩
            have R2 := Go.Lib.hid (R1.out.keep hb)
            have HV2 := Go.Lib.hid (HV1.out.trans (hb.mono HV1.out.size))
            clear hb
            have c1 := R2.out.bo.cell 1
            have f1 := R2.out.bo.frozen 1
            simp only [cOp, List.getElem?_cons_zero, List.getElem?_cons_succ] at c1
            have lo := R2.out.bo.lt
            go_wp2_with fail
            obtain ⟨V3, hV3⟩ : ∃ V3, V3 = V2.setCell ⟨w.heap.size + 1 + 1 + 1, 1, none⟩ (.int .u64 u1) := ⟨_, rfl⟩
            have R3 : Hid (RB V3 lw cn w.heap.size (w.heap.size + 1) (w.heap.size + 1 + 1) (w.heap.size + 1 + 1 + 1) ⟨5, u1, 0, 0⟩) := Go.Lib.hid (by rw [hV3]; exact R2.out.set 1 _ ⟨5, u1, 0, 0⟩ rfl)
            have HV3 : Hid (Below w.heap.size w V3) := Go.Lib.hid (by rw [hV3]; exact below_set HV2.out (by omega) _)
            rw [← hV3]
            clear hV3
            clear c1 f1 lo
            refine (HW2.out _ _ _ R3.out.bb R3.out.bg).mono ?_
            rintro e w2 ⟨rfl, rfl⟩
            go_wp2_with fail
            refine (HP2.out _ (HEN.out.keep HV3.out)).mono ?_
            rintro e V4 ⟨ev2, rfl, hb⟩
            have R4 := Go.Lib.hid (R3.out.keep hb)
            have HV4 := Go.Lib.hid (HV3.out.trans (hb.mono HV3.out.size))
            clear hb
            have c2 := R4.out.bo.cell 2
            have f2 := R4.out.bo.frozen 2
            simp only [cOp, List.getElem?_cons_zero, List.getElem?_cons_succ] at c2
            have lo := R4.out.bo.lt
            go_wp2_with fail
            obtain ⟨V5, hV5⟩ : ∃ V5, V5 = V4.setCell ⟨w.heap.size + 1 + 1 + 1, 2, none⟩ (.int .u64 u2) := ⟨_, rfl⟩
            have R5 : Hid (RB V5 lw cn w.heap.size (w.heap.size + 1) (w.heap.size + 1 + 1) (w.heap.size + 1 + 1 + 1) ⟨5, u1, u2, 0⟩) := Go.Lib.hid (by rw [hV5]; exact R4.out.set 2 _ ⟨5, u1, u2, 0⟩ rfl)
            have HV5 : Hid (Below w.heap.size w V5) := Go.Lib.hid (by rw [hV5]; exact below_set HV4.out (by omega) _)
            rw [← hV5]
            clear hV5
            clear c2 f2 lo
            refine (HW1.out _ _ _ R5.out.bb R5.out.bg).mono ?_
            rintro e w2 ⟨rfl, rfl⟩
            go_wp2_with fail
            refine (HA1.out _ (HEN.out.keep HV5.out)).mono ?_
            rintro e V6 ⟨ev3, rfl, hb⟩
            have R6 := Go.Lib.hid (R5.out.keep hb)
            have HV6 := Go.Lib.hid (HV5.out.trans (hb.mono HV5.out.size))
            clear hb
            have c0 := R6.out.bo.cell 0
            have f0 := R6.out.bo.frozen 0
            have c1 := R6.out.bo.cell 1
            have f1 := R6.out.bo.frozen 1
            have c2 := R6.out.bo.cell 2
            have f2 := R6.out.bo.frozen 2
            have c3 := R6.out.bo.cell 3
            have f3 := R6.out.bo.frozen 3
            simp only [cOp, List.getElem?_cons_zero, List.getElem?_cons_succ] at c0 c1 c2 c3
            have lo := R6.out.bo.lt
            go_wp2_with fail
            obtain ⟨V7, hV7⟩ : ∃ V7, V7 = V6.setCell ⟨w.heap.size + 1 + 1 + 1, 3, none⟩ (.int .i64 a1) := ⟨_, rfl⟩
            have R7 : Hid (RB V7 lw cn w.heap.size (w.heap.size + 1) (w.heap.size + 1 + 1) (w.heap.size + 1 + 1 + 1) ⟨5, u1, u2, a1⟩) := Go.Lib.hid (by rw [hV7]; exact R6.out.set 3 _ ⟨5, u1, u2, a1⟩ rfl)
            have HV7 : Hid (Below w.heap.size w V7) := Go.Lib.hid (by rw [hV7]; exact below_set HV6.out (by omega) _)
            rw [← hV7]
            refine (bare_any ⟨5, u1, u2, a1⟩ V7).mono ?_
            rintro e V8 ⟨rfl, hb⟩
            rw [← HY.out]
            have R8 := Go.Lib.hid (R7.out.keep hb)
            have HV8 := Go.Lib.hid (HV7.out.trans (hb.mono HV7.out.size))
            clear hb hV7
            clear c0 f0 c1 f1 c2 f2 c3 f3 lo
            have c0 := R8.out.bo.cell 0
            have f0 := R8.out.bo.frozen 0
            have c1 := R8.out.bo.cell 1
            have f1 := R8.out.bo.frozen 1
            have c2 := R8.out.bo.cell 2
            have f2 := R8.out.bo.frozen 2
            have c3 := R8.out.bo.cell 3
            have f3 := R8.out.bo.frozen 3
            simp only [cOp, List.getElem?_cons_zero, List.getElem?_cons_succ] at c0 c1 c2 c3
            have lo := R8.out.bo.lt
            go_wp2_with fail
            obtain ⟨V9, hV9⟩ : ∃ V9, V9 = (((V8.setCell ⟨w.heap.size + 1 + 1 + 1, 0, none⟩ (.int .i64 (rdF s).kind)).setCell ⟨w.heap.size + 1 + 1 + 1, 1, none⟩ (.int .u64 (rdF s).key)).setCell ⟨w.heap.size + 1 + 1 + 1, 2, none⟩ (.int .u64 (rdF s).val)).setCell ⟨w.heap.size + 1 + 1 + 1, 3, none⟩ (.int .i64 (rdF s).n) := ⟨_, rfl⟩
            have R9 : RB V9 lw cn w.heap.size (w.heap.size + 1) (w.heap.size + 1 + 1) (w.heap.size + 1 + 1 + 1) (rdF s) := by
              rw [hV9]
              exact (((R8.out.set 0 _ ⟨(rdF s).kind, u1, u2, a1⟩ rfl).set 1 _ ⟨(rdF s).kind, (rdF s).key, u2, a1⟩ rfl).set 2 _ ⟨(rdF s).kind, (rdF s).key, (rdF s).val, a1⟩ rfl).set 3 _ (rdF s) rfl
            have B9 : Below w.heap.size w V9 := by
              rw [hV9]
              exact below_set (below_set (below_set (below_set HV8.out (by omega) _) (by omega) _) (by omega) _) (by omega) _
            rw [← hV9]
            have HL := Go.Lib.hid (HLN.out V9.drew ((HEN.out.keep B9).keep ((Below.refl _ _).drew)).p10)
            have S : ∀ W', Below V9.heap.size V9 W' → (W'.cell? ⟨w.heap.size + 1 + 1 + 1, 0, none⟩ = some (.int .i64 (rdF s).kind) ∧ W'.cell? ⟨w.heap.size + 1 + 1 + 1, 1, none⟩ = some (.int .u64 (rdF s).key) ∧ W'.cell? ⟨w.heap.size + 1 + 1 + 1, 2, none⟩ = some (.int .u64 (rdF s).val) ∧ W'.cell? ⟨w.heap.size + 1 + 1 + 1, 3, none⟩ = some (.int .i64 (rdF s).n)) := fun W' hb =>
              have q := R9.bo.keep hb
              ⟨q.cell 0, q.cell 1, q.cell 2, q.cell 3⟩
            have HS := Go.Lib.hid (fun W' (hb : Below V9.drew.heap.size V9.drew W') => S W' ((Below.refl _ _).drew.trans hb))
            have HS0 := Go.Lib.hid (S _ (Below.refl _ _).drew)
            have R9' := Go.Lib.hid R9
            have HB9 := Go.Lib.hid B9
            have HQ : Hid (∀ W', Below V9.drew.heap.size V9.drew W' → Blk W' w.heap.size [.int .i64 0, .int .u64 0, .int .u64 0, .int .i64 0] 48) := Go.Lib.hid (fun W' hb => R9.br.keep ((Below.refl _ _).drew.trans hb))
            have HS3 := Go.Lib.hid (fun W' x0 x1 x2 x3 (hb : Below V9.drew.heap.size V9.drew W') =>
              have q := R9.bo.keep ((Below.refl _ _).drew.trans hb)
              have q2 := (((q.set_ne (a := ⟨w.heap.size, 0, none⟩) R9.n1.symm x0).set_ne (a := ⟨w.heap.size, 1, none⟩) R9.n1.symm x1).set_ne (a := ⟨w.heap.size, 2, none⟩) R9.n1.symm x2).set_ne (a := ⟨w.heap.size, 3, none⟩) R9.n1.symm x3
              (⟨q2.cell 0, q2.cell 1, q2.cell 2, q2.cell 3⟩ : ((((W'.setCell ⟨w.heap.size, 0, none⟩ x0).setCell ⟨w.heap.size, 1, none⟩ x1).setCell ⟨w.heap.size, 2, none⟩ x2).setCell ⟨w.heap.size, 3, none⟩ x3).cell? ⟨w.heap.size + 1 + 1 + 1, 0, none⟩ = some (.int .i64 (rdF s).kind) ∧ ((((W'.setCell ⟨w.heap.size, 0, none⟩ x0).setCell ⟨w.heap.size, 1, none⟩ x1).setCell ⟨w.heap.size, 2, none⟩ x2).setCell ⟨w.heap.size, 3, none⟩ x3).cell? ⟨w.heap.size + 1 + 1 + 1, 1, none⟩ = some (.int .u64 (rdF s).key) ∧ ((((W'.setCell ⟨w.heap.size, 0, none⟩ x0).setCell ⟨w.heap.size, 1, none⟩ x1).setCell ⟨w.heap.size, 2, none⟩ x2).setCell ⟨w.heap.size, 3, none⟩ x3).cell? ⟨w.heap.size + 1 + 1 + 1, 2, none⟩ = some (.int .u64 (rdF s).val) ∧ ((((W'.setCell ⟨w.heap.size, 0, none⟩ x0).setCell ⟨w.heap.size, 1, none⟩ x1).setCell ⟨w.heap.size, 2, none⟩ x2).setCell ⟨w.heap.size, 3, none⟩ x3).cell? ⟨w.heap.size + 1 + 1 + 1, 3, none⟩ = some (.int .i64 (rdF s).n)))
            clear hV9 S R9 B9
            clear c0 f0 c1 f1 c2 f2 c3 f3 lo
            have lo9 := R9'.out.bo.lt
            generalize eY : rdF s = Y at *
            have EY := Go.Lib.hid eY
            clear eY
            generalize eL : lineF Y = LY at *
            have EL := Go.Lib.hid eL
            clear eL
            go_region_held3 (fun W' => W'.cell? ⟨w.heap.size + 1 + 1 + 1, 0, none⟩ = some (.int .i64 Y.kind) ∧ W'.cell? ⟨w.heap.size + 1 + 1 + 1, 1, none⟩ = some (.int .u64 Y.key) ∧ W'.cell? ⟨w.heap.size + 1 + 1 + 1, 2, none⟩ = some (.int .u64 Y.val) ∧ W'.cell? ⟨w.heap.size + 1 + 1 + 1, 3, none⟩ = some (.int .i64 Y.n))
              (first | with_reducible exact HS3.out _ _ _ _ _ hb1 | with_reducible exact HS.out _ hb1 | exact HS0.out)
              (first | (go_at_call 37; refine HL.out.mono ?_; rintro e w1 ⟨rfl, hb1⟩; (have qb := HQ.out _ hb1); (have r0 := qb.cell 0; have r1 := qb.cell 1; have r2 := qb.cell 2; have r3 := qb.cell 3; have y0 := qb.frozen 0; have y1 := qb.frozen 1; have y2 := qb.frozen 2; have y3 := qb.frozen 3); simp only [List.getElem?_cons_zero, List.getElem?_cons_succ] at r0 r1 r2 r3; (have rl := qb.lt); clear qb))
            obtain ⟨W10, hW10⟩ : ∃ W10, W10 = (((w1.setCell ⟨w.heap.size, 0, none⟩ (.int .i64 Y.kind)).setCell ⟨w.heap.size, 1, none⟩ (.int .u64 Y.key)).setCell ⟨w.heap.size, 2, none⟩ (.int .u64 Y.val)).setCell ⟨w.heap.size, 3, none⟩ (.int .i64 Y.n) := ⟨_, rfl⟩
            have b10 : Blk W10 w.heap.size (cOp Y) 48 := by rw [hW10]; exact ((((HQ.out _ hb1).set 0 _).set 1 _).set 2 _).set 3 _
            have HBF : Hid (Below w.heap.size w W10) := Go.Lib.hid (by rw [hW10]; exact below_set (below_set (below_set (below_set (HB9.out.trans (((Below.refl _ _).drew.trans hb1).mono HB9.out.size)) (Nat.le_refl _) _) (Nat.le_refl _) _) (Nat.le_refl _) _) (Nat.le_refl _) _)
            rw [← hW10]
            clear hW10 hb1 r0 r1 r2 r3 y0 y1 y2 y3 rl
            have d0 := b10.cell 0
            have d1 := b10.cell 1
            have d2 := b10.cell 2
            have d3 := b10.cell 3
            simp only [cOp, List.getElem?_cons_zero, List.getElem?_cons_succ] at d0 d1 d2 d3
            have dl := b10.lt
            clear b10
            go_wp2_with fail
            refine bodyPost_ret (v := .tuple #[.agg #[.int .i64 Y.kind, .int .u64 Y.key, .int .u64 Y.val, .int .i64 Y.n], .bool (LY.toList == s.toList)]) (by simp [results, Tryd.results35, go_sem, d0, d1, d2, d3]) rfl ⟨by rw [EY.out, EL.out], HBF.out⟩
          · rw [if_neg h5] at HKN
            have e1 : decide (s0.toList = [103, 101, 116]) = false := by simp [h1]
            have g1 : (s0.toList == [103, 101, 116]) = false := by simp [h1]
            have e2 : decide (s0.toList = [112, 117, 116]) = false := by simp [h2]
            have g2 : (s0.toList == [112, 117, 116]) = false := by simp [h2]
            have e3 : decide (s0.toList = [100, 101, 108, 101, 116, 101]) = false := by simp [h3]
            have g3 : (s0.toList == [100, 101, 108, 101, 116, 101]) = false := by simp [h3]
            have e4 : decide (s0.toList = [114, 101, 115, 105, 122, 101]) = false := by simp [h4]
            have g4 : (s0.toList == [114, 101, 115, 105, 122, 101]) = false := by simp [h4]
            have e5 : decide (s0.toList = [108, 101, 110]) = false := by simp [h5]
            have g5 : (s0.toList == [108, 101, 110]) = false := by simp [h5]
            have HY : Hid (rdF s = bareF ⟨a1, u1, u2, a1⟩) := Go.Lib.hid (HRD.out _ HKN.out.symm)
            go_wp2_with fail
            refine (HW1.out _ _ _ HR.out.bb HR.out.bg).mono ?_
            rintro e w2 ⟨rfl, rfl⟩
            go_wp2_with fail
            refine (HA1.out _ (HEN.out.keep HB.out)).mono ?_
            rintro e W1a ⟨ev0, rfl, hb⟩
            have HRa := Go.Lib.hid (HR.out.keep hb)
            have HBa := Go.Lib.hid (HB.out.trans (hb.mono HB.out.size))
            clear hb
            have c0 := HRa.out.bo.cell 0
            have f0 := HRa.out.bo.frozen 0
            simp only [cOp, List.getElem?_cons_zero, List.getElem?_cons_succ] at c0
            have lo := HRa.out.bo.lt
            go_wp2_with fail
            obtain ⟨V1, hV1⟩ : ∃ V1, V1 = W1a.setCell ⟨w.heap.size + 1 + 1 + 1, 0, none⟩ (.int .i64 a1) := ⟨_, rfl⟩
            have R1 : Hid (RB V1 lw cn w.heap.size (w.heap.size + 1) (w.heap.size + 1 + 1) (w.heap.size + 1 + 1 + 1) ⟨a1, 0, 0, 0⟩) := Go.Lib.hid (by rw [hV1]; exact HRa.out.set 0 _ ⟨a1, 0, 0, 0⟩ rfl)
            have HV1 : Hid (Below w.heap.size w V1) := Go.Lib.hid (by rw [hV1]; exact below_set HBa.out (by omega) _)
            rw [← hV1]
            clear hV1
            clear c0 f0 lo
            refine (HW1.out _ _ _ R1.out.bb R1.out.bg).mono ?_
            rintro e w2 ⟨rfl, rfl⟩
            go_wp2_with fail
            refine (HP1.out _ (HEN.out.keep HV1.out)).mono ?_
            rintro e V2 ⟨ev1, rfl, hb⟩
            have R2 := Go.Lib.hid (R1.out.keep hb)
            have HV2 := Go.Lib.hid (HV1.out.trans (hb.mono HV1.out.size))
            clear hb
            have c1 := R2.out.bo.cell 1
            have f1 := R2.out.bo.frozen 1
            simp only [cOp, List.getElem?_cons_zero, List.getElem?_cons_succ] at c1
            have lo := R2.out.bo.lt
            go_wp2_with fail
            obtain ⟨V3, hV3⟩ : ∃ V3, V3 = V2.setCell ⟨w.heap.size + 1 + 1 + 1, 1, none⟩ (.int .u64 u1) := ⟨_, rfl⟩
            have R3 : Hid (RB V3 lw cn w.heap.size (w.heap.size + 1) (w.heap.size + 1 + 1) (w.heap.size + 1 + 1 + 1) ⟨a1, u1, 0, 0⟩) := Go.Lib.hid (by rw [hV3]; exact R2.out.set 1 _ ⟨a1, u1, 0, 0⟩ rfl)
            have HV3 : Hid (Below w.heap.size w V3) := Go.Lib.hid (by rw [hV3]; exact below_set HV2.out (by omega) _)
            rw [← hV3]
            clear hV3
            clear c1 f1 lo
            refine (HW2.out _ _ _ R3.out.bb R3.out.bg).mono ?_
            rintro e w2 ⟨rfl, rfl⟩
            go_wp2_with fail
            refine (HP2.out _ (HEN.out.keep HV3.out)).mono ?_
            rintro e V4 ⟨ev2, rfl, hb⟩
            have R4 := Go.Lib.hid (R3.out.keep hb)
            have HV4 := Go.Lib.hid (HV3.out.trans (hb.mono HV3.out.size))
            clear hb
            have c2 := R4.out.bo.cell 2
            have f2 := R4.out.bo.frozen 2
            simp only [cOp, List.getElem?_cons_zero, List.getElem?_cons_succ] at c2
            have lo := R4.out.bo.lt
            go_wp2_with fail
            obtain ⟨V5, hV5⟩ : ∃ V5, V5 = V4.setCell ⟨w.heap.size + 1 + 1 + 1, 2, none⟩ (.int .u64 u2) := ⟨_, rfl⟩
            have R5 : Hid (RB V5 lw cn w.heap.size (w.heap.size + 1) (w.heap.size + 1 + 1) (w.heap.size + 1 + 1 + 1) ⟨a1, u1, u2, 0⟩) := Go.Lib.hid (by rw [hV5]; exact R4.out.set 2 _ ⟨a1, u1, u2, 0⟩ rfl)
            have HV5 : Hid (Below w.heap.size w V5) := Go.Lib.hid (by rw [hV5]; exact below_set HV4.out (by omega) _)
            rw [← hV5]
            clear hV5
            clear c2 f2 lo
            refine (HW1.out _ _ _ R5.out.bb R5.out.bg).mono ?_
            rintro e w2 ⟨rfl, rfl⟩
            go_wp2_with fail
            refine (HA1.out _ (HEN.out.keep HV5.out)).mono ?_
            rintro e V6 ⟨ev3, rfl, hb⟩
            have R6 := Go.Lib.hid (R5.out.keep hb)
            have HV6 := Go.Lib.hid (HV5.out.trans (hb.mono HV5.out.size))
            clear hb
            have c0 := R6.out.bo.cell 0
            have f0 := R6.out.bo.frozen 0
            have c1 := R6.out.bo.cell 1
            have f1 := R6.out.bo.frozen 1
            have c2 := R6.out.bo.cell 2
            have f2 := R6.out.bo.frozen 2
            have c3 := R6.out.bo.cell 3
            have f3 := R6.out.bo.frozen 3
            simp only [cOp, List.getElem?_cons_zero, List.getElem?_cons_succ] at c0 c1 c2 c3
            have lo := R6.out.bo.lt
            go_wp2_with fail
            obtain ⟨V7, hV7⟩ : ∃ V7, V7 = V6.setCell ⟨w.heap.size + 1 + 1 + 1, 3, none⟩ (.int .i64 a1) := ⟨_, rfl⟩
            have R7 : Hid (RB V7 lw cn w.heap.size (w.heap.size + 1) (w.heap.size + 1 + 1) (w.heap.size + 1 + 1 + 1) ⟨a1, u1, u2, a1⟩) := Go.Lib.hid (by rw [hV7]; exact R6.out.set 3 _ ⟨a1, u1, u2, a1⟩ rfl)
            have HV7 : Hid (Below w.heap.size w V7) := Go.Lib.hid (by rw [hV7]; exact below_set HV6.out (by omega) _)
            rw [← hV7]
            refine (bare_any ⟨a1, u1, u2, a1⟩ V7).mono ?_
            rintro e V8 ⟨rfl, hb⟩
            rw [← HY.out]
            have R8 := Go.Lib.hid (R7.out.keep hb)
            have HV8 := Go.Lib.hid (HV7.out.trans (hb.mono HV7.out.size))
            clear hb hV7
            clear c0 f0 c1 f1 c2 f2 c3 f3 lo
            have c0 := R8.out.bo.cell 0
            have f0 := R8.out.bo.frozen 0
            have c1 := R8.out.bo.cell 1
            have f1 := R8.out.bo.frozen 1
            have c2 := R8.out.bo.cell 2
            have f2 := R8.out.bo.frozen 2
            have c3 := R8.out.bo.cell 3
            have f3 := R8.out.bo.frozen 3
            simp only [cOp, List.getElem?_cons_zero, List.getElem?_cons_succ] at c0 c1 c2 c3
            have lo := R8.out.bo.lt
            go_wp2_with fail
            obtain ⟨V9, hV9⟩ : ∃ V9, V9 = (((V8.setCell ⟨w.heap.size + 1 + 1 + 1, 0, none⟩ (.int .i64 (rdF s).kind)).setCell ⟨w.heap.size + 1 + 1 + 1, 1, none⟩ (.int .u64 (rdF s).key)).setCell ⟨w.heap.size + 1 + 1 + 1, 2, none⟩ (.int .u64 (rdF s).val)).setCell ⟨w.heap.size + 1 + 1 + 1, 3, none⟩ (.int .i64 (rdF s).n) := ⟨_, rfl⟩
            have R9 : RB V9 lw cn w.heap.size (w.heap.size + 1) (w.heap.size + 1 + 1) (w.heap.size + 1 + 1 + 1) (rdF s) := by
              rw [hV9]
              exact (((R8.out.set 0 _ ⟨(rdF s).kind, u1, u2, a1⟩ rfl).set 1 _ ⟨(rdF s).kind, (rdF s).key, u2, a1⟩ rfl).set 2 _ ⟨(rdF s).kind, (rdF s).key, (rdF s).val, a1⟩ rfl).set 3 _ (rdF s) rfl
            have B9 : Below w.heap.size w V9 := by
              rw [hV9]
              exact below_set (below_set (below_set (below_set HV8.out (by omega) _) (by omega) _) (by omega) _) (by omega) _
            rw [← hV9]
            have HL := Go.Lib.hid (HLN.out V9.drew ((HEN.out.keep B9).keep ((Below.refl _ _).drew)).p10)
            have S : ∀ W', Below V9.heap.size V9 W' → (W'.cell? ⟨w.heap.size + 1 + 1 + 1, 0, none⟩ = some (.int .i64 (rdF s).kind) ∧ W'.cell? ⟨w.heap.size + 1 + 1 + 1, 1, none⟩ = some (.int .u64 (rdF s).key) ∧ W'.cell? ⟨w.heap.size + 1 + 1 + 1, 2, none⟩ = some (.int .u64 (rdF s).val) ∧ W'.cell? ⟨w.heap.size + 1 + 1 + 1, 3, none⟩ = some (.int .i64 (rdF s).n)) := fun W' hb =>
              have q := R9.bo.keep hb
              ⟨q.cell 0, q.cell 1, q.cell 2, q.cell 3⟩
            have HS := Go.Lib.hid (fun W' (hb : Below V9.drew.heap.size V9.drew W') => S W' ((Below.refl _ _).drew.trans hb))
            have HS0 := Go.Lib.hid (S _ (Below.refl _ _).drew)
            have R9' := Go.Lib.hid R9
            have HB9 := Go.Lib.hid B9
            have HQ : Hid (∀ W', Below V9.drew.heap.size V9.drew W' → Blk W' w.heap.size [.int .i64 0, .int .u64 0, .int .u64 0, .int .i64 0] 48) := Go.Lib.hid (fun W' hb => R9.br.keep ((Below.refl _ _).drew.trans hb))
            have HS3 := Go.Lib.hid (fun W' x0 x1 x2 x3 (hb : Below V9.drew.heap.size V9.drew W') =>
              have q := R9.bo.keep ((Below.refl _ _).drew.trans hb)
              have q2 := (((q.set_ne (a := ⟨w.heap.size, 0, none⟩) R9.n1.symm x0).set_ne (a := ⟨w.heap.size, 1, none⟩) R9.n1.symm x1).set_ne (a := ⟨w.heap.size, 2, none⟩) R9.n1.symm x2).set_ne (a := ⟨w.heap.size, 3, none⟩) R9.n1.symm x3
              (⟨q2.cell 0, q2.cell 1, q2.cell 2, q2.cell 3⟩ : ((((W'.setCell ⟨w.heap.size, 0, none⟩ x0).setCell ⟨w.heap.size, 1, none⟩ x1).setCell ⟨w.heap.size, 2, none⟩ x2).setCell ⟨w.heap.size, 3, none⟩ x3).cell? ⟨w.heap.size + 1 + 1 + 1, 0, none⟩ = some (.int .i64 (rdF s).kind) ∧ ((((W'.setCell ⟨w.heap.size, 0, none⟩ x0).setCell ⟨w.heap.size, 1, none⟩ x1).setCell ⟨w.heap.size, 2, none⟩ x2).setCell ⟨w.heap.size, 3, none⟩ x3).cell? ⟨w.heap.size + 1 + 1 + 1, 1, none⟩ = some (.int .u64 (rdF s).key) ∧ ((((W'.setCell ⟨w.heap.size, 0, none⟩ x0).setCell ⟨w.heap.size, 1, none⟩ x1).setCell ⟨w.heap.size, 2, none⟩ x2).setCell ⟨w.heap.size, 3, none⟩ x3).cell? ⟨w.heap.size + 1 + 1 + 1, 2, none⟩ = some (.int .u64 (rdF s).val) ∧ ((((W'.setCell ⟨w.heap.size, 0, none⟩ x0).setCell ⟨w.heap.size, 1, none⟩ x1).setCell ⟨w.heap.size, 2, none⟩ x2).setCell ⟨w.heap.size, 3, none⟩ x3).cell? ⟨w.heap.size + 1 + 1 + 1, 3, none⟩ = some (.int .i64 (rdF s).n)))
            clear hV9 S R9 B9
            clear c0 f0 c1 f1 c2 f2 c3 f3 lo
            have lo9 := R9'.out.bo.lt
            generalize eY : rdF s = Y at *
            have EY := Go.Lib.hid eY
            clear eY
            generalize eL : lineF Y = LY at *
            have EL := Go.Lib.hid eL
            clear eL
            go_region_held3 (fun W' => W'.cell? ⟨w.heap.size + 1 + 1 + 1, 0, none⟩ = some (.int .i64 Y.kind) ∧ W'.cell? ⟨w.heap.size + 1 + 1 + 1, 1, none⟩ = some (.int .u64 Y.key) ∧ W'.cell? ⟨w.heap.size + 1 + 1 + 1, 2, none⟩ = some (.int .u64 Y.val) ∧ W'.cell? ⟨w.heap.size + 1 + 1 + 1, 3, none⟩ = some (.int .i64 Y.n))
              (first | with_reducible exact HS3.out _ _ _ _ _ hb1 | with_reducible exact HS.out _ hb1 | exact HS0.out)
              (first | (go_at_call 37; refine HL.out.mono ?_; rintro e w1 ⟨rfl, hb1⟩; (have qb := HQ.out _ hb1); (have r0 := qb.cell 0; have r1 := qb.cell 1; have r2 := qb.cell 2; have r3 := qb.cell 3; have y0 := qb.frozen 0; have y1 := qb.frozen 1; have y2 := qb.frozen 2; have y3 := qb.frozen 3); simp only [List.getElem?_cons_zero, List.getElem?_cons_succ] at r0 r1 r2 r3; (have rl := qb.lt); clear qb))
            obtain ⟨W10, hW10⟩ : ∃ W10, W10 = (((w1.setCell ⟨w.heap.size, 0, none⟩ (.int .i64 Y.kind)).setCell ⟨w.heap.size, 1, none⟩ (.int .u64 Y.key)).setCell ⟨w.heap.size, 2, none⟩ (.int .u64 Y.val)).setCell ⟨w.heap.size, 3, none⟩ (.int .i64 Y.n) := ⟨_, rfl⟩
            have b10 : Blk W10 w.heap.size (cOp Y) 48 := by rw [hW10]; exact ((((HQ.out _ hb1).set 0 _).set 1 _).set 2 _).set 3 _
            have HBF : Hid (Below w.heap.size w W10) := Go.Lib.hid (by rw [hW10]; exact below_set (below_set (below_set (below_set (HB9.out.trans (((Below.refl _ _).drew.trans hb1).mono HB9.out.size)) (Nat.le_refl _) _) (Nat.le_refl _) _) (Nat.le_refl _) _) (Nat.le_refl _) _)
            rw [← hW10]
            clear hW10 hb1 r0 r1 r2 r3 y0 y1 y2 y3 rl
            have d0 := b10.cell 0
            have d1 := b10.cell 1
            have d2 := b10.cell 2
            have d3 := b10.cell 3
            simp only [cOp, List.getElem?_cons_zero, List.getElem?_cons_succ] at d0 d1 d2 d3
            have dl := b10.lt
            clear b10
            go_wp2_with fail
            refine bodyPost_ret (v := .tuple #[.agg #[.int .i64 Y.kind, .int .u64 Y.key, .int .u64 Y.val, .int .i64 Y.n], .bool (LY.toList == s.toList)]) (by simp [results, Tryd.results35, go_sem, d0, d1, d2, d3]) rfl ⟨by rw [EY.out, EL.out], HBF.out⟩
end Go.Proofs.YtddihnnodegkmaaDoor
