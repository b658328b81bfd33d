/- errors.As, and what config tells of errors. -/
import Derived.Test.YtddihnnodegkmaaGreatDoorCf2
namespace Go.Proofs.YtddihnnodegkmaaGreatDoor
open Go.RowKit Go.Extern.Stop Go.Stop Go.Extern Hop
set_option linter.unusedVariables false
set_option linter.unusedSimpArgs false
set_option maxRecDepth 100000
/-- What the variable errorType holds. -/
abbrev Ety (w : World) : Prop := w.cell? ⟨0, 0, none⟩ = some (rty 31)
set_option maxHeartbeats 400000 in
theorem eAs_nil (t : Value) (w : World) :
    Calls Tryz.prog 24 #[.nilIface, t] w fun e w' => e = .returned (.bool false) ∧ w = w' := by
  go_enter Tryz.func24, Tryz.ntmps24
  go_wp2_with fail
  go_ret
  exact ⟨rfl, rfl⟩
set_option maxHeartbeats 3200000 in
theorem eAs_bad (b t : Nat) (old : Value) (w : World) (ht : Blk w t [old] 56) (hg : Ety w) :
    Calls Tryz.prog 24 #[.iface 56 (.pointer (some ⟨b, 0, none⟩)), .iface 62 (.pointer (some ⟨t, 0, none⟩))] w fun e w' => e = .returned (.bool true) ∧ Hit w w' t (.pointer (some ⟨b, 0, none⟩)) := by
  have h6 := @run_callFunc_extern Tryz.prog 41 _ (fun args => ReflectliteValue.unpack (args.getD 0 (.tuple #[]))) Tryz.func41 (by kernel_rfl) (by kernel_rfl) (by kernel_rfl) (by kernel_rfl)
  have h7 := @run_callFunc_extern Tryz.prog 42 _ (ReflectliteValue.methodAny (ReflectliteValue.valueError "reflectlite.Value.Type" 0) (fun t _ _ _ => ReflectliteType.toType t)) Tryz.func42 (by kernel_rfl) (by kernel_rfl) (by kernel_rfl) (by kernel_rfl)
  have h8 := @run_callFunc_extern Tryz.prog 43 _ (ReflectliteValue.method (ReflectliteValue.valueError "reflectlite.Value.IsNil" 0) ReflectliteValue.isNil) Tryz.func43 (by kernel_rfl) (by kernel_rfl) (by kernel_rfl) (by kernel_rfl)
  have h27 := @run_callFunc_extern Tryz.prog 105 _ (ReflectliteType.abiMethod fun t => do pure (.int .u8 (← Rtype.kind t))) Tryz.func105 (by kernel_rfl) (by kernel_rfl) (by kernel_rfl) (by kernel_rfl)
  have h37 := @run_callFunc_extern Tryz.prog 118 _ (ReflectliteType.method ReflectliteType.elem) Tryz.func118 (by kernel_rfl) (by kernel_rfl) (by kernel_rfl) (by kernel_rfl)
  have h38 := @run_callFunc_extern Tryz.prog 119 _ (ReflectliteType.relation "Implements" ReflectliteType.implements_) Tryz.func119 (by kernel_rfl) (by kernel_rfl) (by kernel_rfl) (by kernel_rfl)
  have f6 := valueOfPB
  have f7 := vTypePB
  have mK := mKind
  have mE := mElem
  have mI := mImplements
  have k1 := kindPPB
  have k2 := kindB
  have e1 := elemPPB
  have i1 := implB
  obtain ⟨W, hW⟩ : ∃ W, W = (w.alloc (.cells #[.pointer (some ⟨t, 0, none⟩)] 62)).alloc (.cells #[hd 62, .pointer (some ⟨w.heap.size, 0, none⟩), .int .u64 150] 83) := ⟨_, rfl⟩
  have B0 : Below w.heap.size w W := by rw [hW]; exact ((Below.refl _ _).alloc (Nat.le_refl _) _).alloc (by simp) _
  have b0 : Blk W w.heap.size [.pointer (some ⟨t, 0, none⟩)] 62 := by rw [hW]; exact (Blk.new0 w [.pointer (some ⟨t, 0, none⟩)] 62).alloc _
  have b1 : Blk W (w.heap.size + 1) [hd 62, .pointer (some ⟨w.heap.size, 0, none⟩), .int .u64 150] 83 := by rw [hW]; exact Blk.new1 w _ [hd 62, .pointer (some ⟨w.heap.size, 0, none⟩), .int .u64 150] 83
  have n8 := isNilPB ⟨w.heap.size, 0, none⟩ ⟨t, 0, none⟩ W (b0.cell 0)
  have hg2 : W.cell? ⟨0, 0, none⟩ = some (rty 31) := cell_below B0 hg
  have HB0 := Go.Lib.hid B0
  have HE := Go.Lib.hid (eas_bad b t old ⟨w.heap.size, 0, none⟩ W (ht.keep B0) (b0.cell 0))
  have HW := Go.Lib.hid hW
  rw [hW] at n8 hg2
  clear ht
  clear hW B0 b0 b1 hg
  go_enter Tryz.func24, Tryz.ntmps24
  go_wp2_with fail
  rw [← HW.out]
  refine HE.out.mono ?_
  rintro e w1 ⟨rfl, h1⟩
  have H1 := Go.Lib.hid h1
  clear h1
  go_wp2_with fail
  go_ret
  obtain ⟨w2, hb2, rfl⟩ := H1.out
  exact ⟨rfl, w2, HB0.out.trans (hb2.mono HB0.out.size), rfl⟩
set_option maxHeartbeats 800000 in
theorem field_nil (w : World) : Calls Tryz.prog 12 #[.nilIface] w fun e w' => e = .returned (.tuple #[.string ⟨#[]⟩, .int .i64 0, .bool false]) ∧ Below w.heap.size w w' := by
  have HB : Hid (Below w.heap.size w (w.alloc (.cells #[.pointer none] 56))) := Go.Lib.hid ((Below.refl _ _).alloc (Nat.le_refl _) _)
  go_enter Tryz.func12, Tryz.ntmps12
  go_wp2_with fail
  refine (eAs_nil _ _).mono ?_
  rintro e w1 ⟨rfl, rfl⟩
  go_wp2_with fail
  go_ret3
  exact ⟨rfl, HB.out⟩
set_option maxHeartbeats 1600000 in
theorem field_bad (b : Nat) (f : ByteArray) (n : Int) (v : Value) (w : World) (h : Blk w b [.string f, .int .i64 n, v] 58) (hg : Ety w) :
    Calls Tryz.prog 12 #[.iface 56 (.pointer (some ⟨b, 0, none⟩))] w fun e w' => e = .returned (.tuple #[.string f, .int .i64 n, .bool true]) ∧ Below w.heap.size w w' := by
  obtain ⟨W, hW⟩ : ∃ W, W = w.alloc (.cells #[.pointer none] 56) := ⟨_, rfl⟩
  have B0 : Below w.heap.size w W := by rw [hW]; exact (Below.refl _ _).alloc (Nat.le_refl _) _
  have b0 : Blk W w.heap.size [.pointer none] 56 := by rw [hW]; exact Blk.new0 w [.pointer none] 56
  have HE := Go.Lib.hid (eAs_bad b w.heap.size (.pointer none) W b0 (cell_below B0 hg))
  have HB0 := Go.Lib.hid B0
  have Hb0 := Go.Lib.hid b0
  have HH := Go.Lib.hid (h.keep B0)
  have hbl : b ≠ w.heap.size := by have := h.lt; omega
  have HW := Go.Lib.hid hW
  clear h hg hW B0 b0
  go_enter Tryz.func12, Tryz.ntmps12
  go_wp2_with fail
  rw [← HW.out]
  refine HE.out.mono ?_
  rintro e w1 ⟨rfl, w2, hb2, hw1⟩
  have b1 := (Hb0.out.keep hb2).set 0 (.pointer (some ⟨b, 0, none⟩))
  rw [← hw1] at b1
  have b2 : Blk w1 b [.string f, .int .i64 n, v] 58 := by rw [hw1]; exact (HH.out.keep hb2).set_ne hbl _
  have g0 := b1.cell 0
  simp only [List.set_cons_zero, List.getElem?_cons_zero] at g0
  have c0 := b2.cell 0
  have c1 := b2.cell 1
  simp only [List.getElem?_cons_zero, List.getElem?_cons_succ] at c0 c1
  have HF : Hid (Below w.heap.size w w1) := Go.Lib.hid (by rw [hw1]; exact below_set (HB0.out.trans (hb2.mono HB0.out.size)) (Nat.le_refl _) _)
  have l1 := b1.lt
  have l2 := b2.lt
  clear b1 b2 hw1 hb2
  go_wp2_with fail
  go_quiet (fail)
  go_wp2_with fail
  go_ret3
  exact ⟨rfl, HF.out.trans ⟨rfl, rfl, rfl, Nat.le_refl _, fun _ _ => rfl⟩⟩
end Go.Proofs.YtddihnnodegkmaaGreatDoor
