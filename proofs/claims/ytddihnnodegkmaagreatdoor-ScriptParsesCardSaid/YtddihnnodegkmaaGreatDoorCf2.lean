/- errors.Is and errors.As over wrapped errors: the contracts. -/
import Derived.Test.YtddihnnodegkmaaGreatDoorCf1
import Derived.Test.YtddihnnodegkmaaGreatDoorBlocks
namespace Go.Proofs.YtddihnnodegkmaaGreatDoor
open Go.RowKit Go.Extern.Stop Go.Stop Go.Extern Hop
set_option linter.unusedVariables false
set_option linter.unusedSimpArgs false
set_option maxRecDepth 100000
/-- An error, wrapped so often. -/
def Ch (w : World) : Nat → Value → Value → Prop
  | 0, v, e => v = e
  | k + 1, v, e => ∃ (b : Nat) (f : ByteArray) (n : Int) (v' : Value), v = .iface 56 (.pointer (some ⟨b, 0, none⟩)) ∧ Blk w b [.string f, .int .i64 n, v'] 58 ∧ Ch w k v' e
theorem Ch.keep {w w' : World} (hb : Below w.heap.size w w') : ∀ {k : Nat} {v e : Value}, Ch w k v e → Ch w' k v e
  | 0, _, _, h => h
  | k + 1, _, _, h => by
    obtain ⟨b, f, n, v', h1, h2, h3⟩ := h
    exact ⟨b, f, n, v', h1, h2.keep hb, Ch.keep hb h3⟩
set_option maxHeartbeats 400000 in
theorem bad_unwrap (b : Nat) (s v' : Value) (n : Int) (w : World) (h : Blk w b [s, .int .i64 n, v'] 58) :
    Calls Tryz.prog 111 #[.pointer (some ⟨b, 0, none⟩)] w fun e w' => e = .returned v' ∧ w = w' := by
  have c2 := h.cell 2
  simp only [List.getElem?_cons_zero, List.getElem?_cons_succ] at c2
  have hl := h.lt
  clear h
  go_enter Tryz.func111, Tryz.ntmps111
  go_wp2_with fail
  go_ret
  exact ⟨rfl, rfl⟩
/-- A chain's head is an error, not nil. -/
theorem Ch.head {w : World} {k : Nat} {v : Value} {c : Int} (h : Ch w k v (.iface 40 (.int .i64 c))) : ∃ T x, v = .iface T x := by
  cases k with
  | zero => exact ⟨_, _, h⟩
  | succ k => obtain ⟨b, f, n, v', h1, _⟩ := h; exact ⟨_, _, h1⟩
set_option maxHeartbeats 1600000 in
theorem eis_any (c d : Int) (r : Bool) (hr : (c == d) = r) (k : Nat) (v : Value) (w : World) (h : Ch w k v (.iface 40 (.int .i64 c))) :
    Calls Tryz.prog 26 #[v, .iface 40 (.int .i64 d), .bool true] w fun e w' => e = .returned (.bool r) ∧ w = w' := by
  have q1 := eql_errno
  have q2 := eql_bad_errno
  have q3 := noIsB
  have q4 := noIsE
  have q5 := noUnE
  have q6 := noUnsE
  have q7 := hasUnB
  have q8 := mUnwrap
  have HH := Go.Lib.hid h
  clear h
  go_enter Tryz.func26, Tryz.ntmps26
  go_wp2_with fail
  go_loopg [0] k (fun g p wr => Hid (Ch w g p (.iface 40 (.int .i64 c))) ∧ wr = w)
  case atStart => exact ⟨HH, rfl⟩
  case round =>
    obtain ⟨hC, rfl⟩ := hrel
    clear HH
    cases gk with
    | zero =>
      have e := hC.out
      simp only [Ch] at e
      subst e
      cases r with
      | true =>
        go_wp2_with fail
        go_ret
        exact ⟨rfl, rfl⟩
      | false =>
        go_wp2_with fail
        go_ret
        exact ⟨rfl, rfl⟩
    | succ g =>
      obtain ⟨b, f, n, v', rfl, hb, h'⟩ := hC.out
      obtain ⟨T, x, rfl⟩ := h'.head
      have HB := Go.Lib.hid (bad_unwrap b _ _ n _ hb)
      have H' := Go.Lib.hid h'
      clear hC hb h'
      go_wp2_with fail
      refine HB.out.mono ?_
      rintro e w1 ⟨rfl, rfl⟩
      go_wp2_with fail
      go_roundg g
      case rel => exact ⟨H', rfl⟩
      case measure => exact Nat.lt_succ_self g
set_option maxHeartbeats 800000 in
/-- errors.Is of a chain over a number, asked for a number. -/
theorem eIs_any (c d : Int) (r : Bool) (hr : (c == d) = r) (k : Nat) (v : Value) (w : World) (h : Ch w k v (.iface 40 (.int .i64 c))) :
    Calls Tryz.prog 14 #[v, .iface 40 (.int .i64 d)] w fun e w' => e = .returned (.bool r) ∧ w = w' := by
  have h8 := @run_callFunc_extern Tryz.prog 25 _ Extern.ReflectliteType.typeOf Tryz.func25 (by kernel_rfl) (by kernel_rfl) (by kernel_rfl) (by kernel_rfl)
  have h32 := @run_callFunc_extern Tryz.prog 117 _ (Extern.ReflectliteType.method fun t => do Rtype.noPackHeld "Comparable" t; pure (.bool (← typeInfo t).comparable)) Tryz.func117 (by kernel_rfl) (by kernel_rfl) (by kernel_rfl) (by kernel_rfl)
  have tT := typeOfE
  have cT := comparableE
  have mR := mComparable
  have HE := Go.Lib.hid (eis_any c d r hr k v w h)
  obtain ⟨T, x, rfl⟩ := h.head
  clear h
  go_enter Tryz.func14, Tryz.ntmps14
  go_wp2_with fail
  refine HE.out.mono ?_
  rintro e w1 ⟨rfl, rfl⟩
  go_wp2_with fail
  go_ret
  exact ⟨rfl, rfl⟩
/-- Behind a hit the target holds what was met; else all is as it was. -/
def Hit (w w' : World) (t : Nat) (u : Value) : Prop := ∃ w1, Below w.heap.size w w1 ∧ w' = w1.setCell ⟨t, 0, none⟩ u
theorem cell_below {w w' : World} (hb : Below w.heap.size w w') {a : Addr} {v : Value} (h : w.cell? a = some v) : w'.cell? a = some v := by
  rw [hb.cell]
  · exact h
  · rcases Nat.lt_or_ge a.block w.heap.size with h' | h'
    · exact h'
    · simp [World.cell?, Array.getElem?_eq_none h'] at h
set_option maxHeartbeats 3200000 in
/-- A Bad is met at once. -/
theorem eas_bad (b : Nat) (t : Nat) (old : Value) (a : Addr) (w : World) (ht : Blk w t [old] 56) (ha : w.cell? a = some (.pointer (some ⟨t, 0, none⟩))) :
    Calls Tryz.prog 44 #[.iface 56 (.pointer (some ⟨b, 0, none⟩)), .iface 62 (.pointer (some ⟨t, 0, none⟩)), rval 62 a 150, rty 56] w fun e w' => e = .returned (.bool true) ∧ Hit w w' t (.pointer (some ⟨b, 0, none⟩)) := by
  have h8 := @run_callFunc_extern Tryz.prog 25 _ Extern.ReflectliteType.typeOf Tryz.func25 (by kernel_rfl) (by kernel_rfl) (by kernel_rfl) (by kernel_rfl)
  have h9 := @run_callFunc_extern Tryz.prog 116 _ (ReflectliteType.relation "AssignableTo" ReflectliteType.assignableTo) Tryz.func116 (by kernel_rfl) (by kernel_rfl) (by kernel_rfl) (by kernel_rfl)
  have h10 := @run_callFunc_extern Tryz.prog 54 _ (ReflectliteValue.method (ReflectliteValue.valueError "reflectlite.Value.Elem" 0) ReflectliteValue.elem) Tryz.func54 (by kernel_rfl) (by kernel_rfl) (by kernel_rfl) (by kernel_rfl)
  have h11 := @run_callFunc_extern Tryz.prog 41 _ (fun args => ReflectliteValue.unpack (args.getD 0 (.tuple #[]))) Tryz.func41 (by kernel_rfl) (by kernel_rfl) (by kernel_rfl) (by kernel_rfl)
  have h12 := @run_callFunc_extern Tryz.prog 55 _ ReflectliteValue.set Tryz.func55 (by kernel_rfl) (by kernel_rfl) (by kernel_rfl) (by kernel_rfl)
  have tB := typeOfB
  have mA := mAssignable
  have aB := asgBB
  have vB := valueOfB
  obtain ⟨W, hW⟩ : ∃ W, W = w.alloc (.cells #[hd 62, .pointer (some a), .int .u64 150] 83) := ⟨_, rfl⟩
  have B0 : Below w.heap.size w W := by rw [hW]; exact (Below.refl _ _).alloc (Nat.le_refl _) _
  have bW : Blk W w.heap.size [hd 62, .pointer (some a), .int .u64 150] 83 := by rw [hW]; exact Blk.new0 w [hd 62, .pointer (some a), .int .u64 150] 83
  have el := elemVPB a ⟨t, 0, none⟩ W (cell_below B0 ha)
  have A1 := (Below.refl W.heap.size W).alloc (Nat.le_refl _) (.cells #[.pointer (some ⟨b, 0, none⟩)] 56)
  have st := setB ⟨t, 0, none⟩ ⟨W.heap.size, 0, none⟩ ⟨b, 0, none⟩ old (W.alloc (.cells #[.pointer (some ⟨b, 0, none⟩)] 56)) ((Blk.new0 W [.pointer (some ⟨b, 0, none⟩)] 56).cell 0) (((ht.keep B0).keep A1).cell 0) (((ht.keep B0).keep A1).frozen 0)
  have g0 := bW.cell 0
  have g1 := bW.cell 1
  have g2 := bW.cell 2
  simp only [List.getElem?_cons_zero, List.getElem?_cons_succ] at g0 g1 g2
  have gl := bW.lt
  have HT : Hid (Hit w ((W.alloc (.cells #[.pointer (some ⟨b, 0, none⟩)] 56)).setCell ⟨t, 0, none⟩ (.pointer (some ⟨b, 0, none⟩))) t (.pointer (some ⟨b, 0, none⟩))) := Go.Lib.hid ⟨_, B0.trans (A1.mono B0.size), rfl⟩
  have HW := Go.Lib.hid hW
  clear ht ha hW B0 bW A1
  go_enter Tryz.func44, Tryz.ntmps44
  go_wp2_with fail
  rw [← HW.out]
  refine wp_loop_rounds 1 ?_
  rw [rounds_succ]
  go_wp2_with fail
  go_ret
  exact ⟨rfl, HT.out⟩
end Go.Proofs.YtddihnnodegkmaaGreatDoor
