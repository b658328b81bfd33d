/- errors.As and errors.Is over wrapped errors: the closed facts on the types and the library's entries. -/
import Derived.Test.YtddihnnodegkmaaDoorProg
import Derived.WalkKit
import Derived.LaidEql
import Derived.Stop.Asserts
import Derived.RowKitTokens
import Derived.Deep.LoopGhost
import Derived.Lib.Hide
import Derived.BigQuiet
import Derived.Deep.QuietTactic
namespace Go.Proofs.YtddihnnodegkmaaDoor
open Go.RowKit Go.Extern.Stop Go.Stop Go.Extern
set_option linter.unusedVariables false
set_option linter.unusedSimpArgs false
theorem tysize : Tryd.prog.types.size = 193 := by kernel_rfl
/-- The types' handles. -/
abbrev hd (t : Nat) : Value := .pointer (some ⟨14, t, none⟩)
abbrev rty (t : Nat) : Value := .iface 78 (.agg #[.pointer (some ⟨14, t, none⟩)])
abbrev rval (t : Nat) (a : Addr) (f : Int) : Value := .agg #[.pointer (some ⟨14, t, none⟩), .pointer (some a), .int .u64 f]

section
variable (w : World)
theorem run_equalIn_iface_int {P : Program} (d : Nat) {ti tn : TypeId} {ms : Array (String × TypeId)} {i : TypeInfo} {k : IntKind} (a b : Int)
    (hi : P.underlying ti = some (.interface ms)) (hn : P.underlying tn = some (.int k)) (hinfo : P.info? tn = some i) (hcomp : i.comparable = true) :
    (Op.equalIn (d + 2) ti (.iface tn (.int k a)) (.iface tn (.int k b))).run P w = .ok (a == b) w := by
  simp [Op.equalIn, run_underlying hi, run_underlying hn, typeInfo, hinfo, hcomp]
/-- 'x == y', both interface values of one integer type: as the numbers are. -/
theorem run_eql_iface_int {P : Program} {ti tn : TypeId} {ms : Array (String × TypeId)} {i : TypeInfo} {k : IntKind} (a b : Int)
    (hi : P.underlying ti = some (.interface ms)) (hn : P.underlying tn = some (.int k)) (hinfo : P.info? tn = some i) (hcomp : i.comparable = true) :
    (binOp .eql ti (.iface tn (.int k a)) (.iface tn (.int k b))).run P w = .ok (.bool (a == b)) w := by
  simp only [binOp]
  simp [Op.equal, Op.maxDepth, run_equalIn_iface_int w 9998 a b hi hn hinfo hcomp]
end
theorem errnoComp : (Tryd.prog.info? 32).map (·.comparable) = some true := by kernel_rfl
theorem eql_errno (a b : Int) (w : World) : (binOp .eql 24 (.iface 32 (.int .i64 a)) (.iface 32 (.int .i64 b))).run Tryd.prog w = .ok (.bool (a == b)) w := by
  obtain ⟨i, hi, hc⟩ := Option.map_eq_some_iff.1 errnoComp
  exact run_eql_iface_int w a b Tryd.underlying24 Tryd.underlying32 hi hc
theorem eql_bad_errno (v u : Value) (w : World) : (binOp .eql 24 (.iface 38 v) (.iface 32 u)).run Tryd.prog w = .ok (.bool false) w :=
  run_eql_iface_types 38 32 v u Tryd.underlying24 (by decide) w

/-! The method sets. -/
theorem noIsB (v : Value) (xT : TypeId) (w : World) : (Instr.typeAssert (.iface 38 v) xT 80 true).run Tryd.prog w = .ok (.tuple #[.nilIface, .bool false]) w := run_typeAssert_lacksB Tryd.underlying80 (by kernel_rfl) (by kernel_rfl) v xT w
theorem noIsE (v : Value) (xT : TypeId) (w : World) : (Instr.typeAssert (.iface 32 v) xT 80 true).run Tryd.prog w = .ok (.tuple #[.nilIface, .bool false]) w := run_typeAssert_lacksB Tryd.underlying80 (by kernel_rfl) (by kernel_rfl) v xT w
theorem noAsB (v : Value) (xT : TypeId) (w : World) : (Instr.typeAssert (.iface 38 v) xT 107 true).run Tryd.prog w = .ok (.tuple #[.nilIface, .bool false]) w := run_typeAssert_lacksB Tryd.underlying107 (by kernel_rfl) (by kernel_rfl) v xT w
theorem noAsE (v : Value) (xT : TypeId) (w : World) : (Instr.typeAssert (.iface 32 v) xT 107 true).run Tryd.prog w = .ok (.tuple #[.nilIface, .bool false]) w := run_typeAssert_lacksB Tryd.underlying107 (by kernel_rfl) (by kernel_rfl) v xT w
theorem noUnE (v : Value) (xT : TypeId) (w : World) : (Instr.typeAssert (.iface 32 v) xT 83 true).run Tryd.prog w = .ok (.tuple #[.nilIface, .bool false]) w := run_typeAssert_lacksB Tryd.underlying83 (by kernel_rfl) (by kernel_rfl) v xT w
theorem noUnsE (v : Value) (xT : TypeId) (w : World) : (Instr.typeAssert (.iface 32 v) xT 84 true).run Tryd.prog w = .ok (.tuple #[.nilIface, .bool false]) w := run_typeAssert_lacksB Tryd.underlying84 (by kernel_rfl) (by kernel_rfl) v xT w
theorem hasUnB (v : Value) (xT : TypeId) (w : World) : (Instr.typeAssert (.iface 38 v) xT 83 true).run Tryd.prog w = .ok (.tuple #[.iface 38 v, .bool true]) w := run_typeAssert_hasB Tryd.underlying83 (by kernel_rfl) v xT w
theorem mUnwrap (v : Value) (w : World) : (Go.method 293 38 v "Unwrap").run Tryd.prog w = .ok (22, v) w := by kernel_rfl
theorem mErrorB (v : Value) (w : World) : (Go.method 293 38 v "Error").run Tryd.prog w = .ok (20, v) w := by kernel_rfl
theorem mErrorE (v : Value) (w : World) : (Go.method 293 32 v "Error").run Tryd.prog w = .ok (21, v) w := by kernel_rfl

/-! reflectlite's entries. -/
theorem typeOfE (v : Value) (w : World) : (ReflectliteType.typeOf #[.iface 32 v]).run Tryd.prog w = .ok (rty 32) w := by kernel_rfl
theorem typeOfB (v : Value) (w : World) : (ReflectliteType.typeOf #[.iface 38 v]).run Tryd.prog w = .ok (rty 38) w := by kernel_rfl
theorem comparableE (w : World) : ((ReflectliteType.method fun t => do Rtype.noPackHeld "Comparable" t; (fun a => Value.bool a.comparable) <$> typeInfo t) #[.agg #[hd 32]]).run Tryd.prog w = .ok (.bool true) w := by kernel_rfl
theorem mComparable (v : Value) (w : World) : (Go.method 293 78 v "Comparable").run Tryd.prog w = .ok (117, v) w := by kernel_rfl
theorem mElem (v : Value) (w : World) : (Go.method 293 78 (.agg #[v]) "Elem").run Tryd.prog w = .ok (118, .agg #[v]) w := by kernel_rfl
theorem mImplements (v : Value) (w : World) : (Go.method 293 78 (.agg #[v]) "Implements").run Tryd.prog w = .ok (119, .agg #[v]) w := by kernel_rfl
theorem mAssignable (v : Value) (w : World) : (Go.method 293 78 (.agg #[v]) "AssignableTo").run Tryd.prog w = .ok (116, .agg #[v]) w := by kernel_rfl
theorem mKind (v : Value) (w : World) : (Go.method 293 78 (.agg #[v]) "Kind").run Tryd.prog w = .ok (111, v) w := by kernel_rfl
theorem valueOfPE (t : Addr) (w : World) : (ReflectliteValue.unpack (.iface 62 (.pointer (some t)))).run Tryd.prog w = .ok (rval 62 ⟨w.heap.size, 0, none⟩ 150) (w.alloc (.cells #[.pointer (some t)] 62)) := by kernel_rfl
theorem valueOfPB (t : Addr) (w : World) : (ReflectliteValue.unpack (.iface 63 (.pointer (some t)))).run Tryd.prog w = .ok (rval 63 ⟨w.heap.size, 0, none⟩ 150) (w.alloc (.cells #[.pointer (some t)] 63)) := by kernel_rfl
theorem valueOfE (n : Int) (w : World) : (ReflectliteValue.unpack (.iface 32 (.int .i64 n))).run Tryd.prog w = .ok (rval 32 ⟨w.heap.size, 0, none⟩ 130) (w.alloc (.cells #[.int .i64 n] 32)) := by kernel_rfl
theorem valueOfB (t : Addr) (w : World) : (ReflectliteValue.unpack (.iface 38 (.pointer (some t)))).run Tryd.prog w = .ok (rval 38 ⟨w.heap.size, 0, none⟩ 150) (w.alloc (.cells #[.pointer (some t)] 38)) := by kernel_rfl
theorem vTypePE (a : Addr) (w : World) : (ReflectliteValue.methodAny (ReflectliteValue.valueError "reflectlite.Value.Type" 0) (fun t _ _ _ => ReflectliteType.toType t) #[rval 62 a 150]).run Tryd.prog w = .ok (rty 62) w := by kernel_rfl
theorem vTypePB (a : Addr) (w : World) : (ReflectliteValue.methodAny (ReflectliteValue.valueError "reflectlite.Value.Type" 0) (fun t _ _ _ => ReflectliteType.toType t) #[rval 63 a 150]).run Tryd.prog w = .ok (rty 63) w := by kernel_rfl
theorem kindPE (w : World) : ((ReflectliteType.abiMethod fun t => (fun a : Nat => Value.int IntKind.u8 (a : Int)) <$> Rtype.kind t) #[hd 62]).run Tryd.prog w = .ok (.int .u8 22) w := by kernel_rfl
theorem kindPPB (w : World) : ((ReflectliteType.abiMethod fun t => (fun a : Nat => Value.int IntKind.u8 (a : Int)) <$> Rtype.kind t) #[hd 63]).run Tryd.prog w = .ok (.int .u8 22) w := by kernel_rfl
theorem kindE (w : World) : ((ReflectliteType.abiMethod fun t => (fun a : Nat => Value.int IntKind.u8 (a : Int)) <$> Rtype.kind t) #[hd 32]).run Tryd.prog w = .ok (.int .u8 2) w := by kernel_rfl
theorem kindB (w : World) : ((ReflectliteType.abiMethod fun t => (fun a : Nat => Value.int IntKind.u8 (a : Int)) <$> Rtype.kind t) #[hd 38]).run Tryd.prog w = .ok (.int .u8 22) w := by kernel_rfl
theorem elemPE (w : World) : (ReflectliteType.method ReflectliteType.elem #[.agg #[hd 62]]).run Tryd.prog w = .ok (rty 32) w := by kernel_rfl
theorem elemPPB (w : World) : (ReflectliteType.method ReflectliteType.elem #[.agg #[hd 63]]).run Tryd.prog w = .ok (rty 38) w := by kernel_rfl
theorem implE (w : World) : (ReflectliteType.relation "Implements" ReflectliteType.implements_ #[.agg #[hd 32], rty 24]).run Tryd.prog w = .ok (.bool true) w := by kernel_rfl
theorem implB (w : World) : (ReflectliteType.relation "Implements" ReflectliteType.implements_ #[.agg #[hd 38], rty 24]).run Tryd.prog w = .ok (.bool true) w := by kernel_rfl
theorem asgEE (w : World) : (ReflectliteType.relation "AssignableTo" ReflectliteType.assignableTo #[.agg #[hd 32], rty 32]).run Tryd.prog w = .ok (.bool true) w := by kernel_rfl
theorem asgBE (w : World) : (ReflectliteType.relation "AssignableTo" ReflectliteType.assignableTo #[.agg #[hd 38], rty 32]).run Tryd.prog w = .ok (.bool false) w := by kernel_rfl
theorem asgBB (w : World) : (ReflectliteType.relation "AssignableTo" ReflectliteType.assignableTo #[.agg #[hd 38], rty 38]).run Tryd.prog w = .ok (.bool true) w := by kernel_rfl
theorem rlm (z : Sem Value) (f : TypeId → Addr → Nat → Nat → Sem Value) (v : Value) :
    ReflectliteValue.method z f #[v] = (do match ← ReflectliteValue.parts v with | none => z | some (t, a, fl) => f t a fl (fl % 32)) := rfl
theorem partsPE (a : Addr) (w : World) : (ReflectliteValue.parts (rval 62 a 150)).run Tryd.prog w = .ok (some (62, a, 150)) w := by kernel_rfl
theorem partsPB (a : Addr) (w : World) : (ReflectliteValue.parts (rval 63 a 150)).run Tryd.prog w = .ok (some (63, a, 150)) w := by kernel_rfl
theorem partsEa (a : Addr) (w : World) : (ReflectliteValue.parts (rval 32 a 386)).run Tryd.prog w = .ok (some (32, a, 386)) w := by kernel_rfl
theorem partsE (a : Addr) (w : World) : (ReflectliteValue.parts (rval 32 a 130)).run Tryd.prog w = .ok (some (32, a, 130)) w := by kernel_rfl
theorem partsBa (a : Addr) (w : World) : (ReflectliteValue.parts (rval 38 a 406)).run Tryd.prog w = .ok (some (38, a, 406)) w := by kernel_rfl
theorem partsB (a : Addr) (w : World) : (ReflectliteValue.parts (rval 38 a 150)).run Tryd.prog w = .ok (some (38, a, 150)) w := by kernel_rfl
/-- (Value).IsNil of a pointer that is not nil. -/
theorem isNilPE (a p : Addr) (W : World) (ha : W.cell? a = some (.pointer (some p))) :
    (ReflectliteValue.method (ReflectliteValue.valueError "reflectlite.Value.IsNil" 0) ReflectliteValue.isNil #[rval 62 a 150]).run Tryd.prog W = .ok (.bool false) W := by
  rw [rlm]
  simp only [Sem.run_bind, partsPE, Result.andThen]
  simp [ReflectliteValue.isNil, loadVar, isAgg, underlying, Tryd.underlying62, ha, Result.andThen]
theorem isNilPB (a p : Addr) (W : World) (ha : W.cell? a = some (.pointer (some p))) :
    (ReflectliteValue.method (ReflectliteValue.valueError "reflectlite.Value.IsNil" 0) ReflectliteValue.isNil #[rval 63 a 150]).run Tryd.prog W = .ok (.bool false) W := by
  rw [rlm]
  simp only [Sem.run_bind, partsPB, Result.andThen]
  simp [ReflectliteValue.isNil, loadVar, isAgg, underlying, Tryd.underlying63, ha, Result.andThen]
theorem elemOfPE (w : World) : (Rtype.elem? 62).run Tryd.prog w = .ok (some 32) w := by kernel_rfl
theorem elemOfPB (w : World) : (Rtype.elem? 63).run Tryd.prog w = .ok (some 38) w := by kernel_rfl
theorem mkE (p : Addr) (w : World) : (ReflectliteValue.mk 32 p ReflectliteValue.flagAddr).run Tryd.prog w = .ok (rval 32 p 386) w := by kernel_rfl
theorem mkB (p : Addr) (w : World) : (ReflectliteValue.mk 38 p ReflectliteValue.flagAddr).run Tryd.prog w = .ok (rval 38 p 406) w := by kernel_rfl
theorem elemVPE (a p : Addr) (W : World) (ha : W.cell? a = some (.pointer (some p))) :
    (ReflectliteValue.method (ReflectliteValue.valueError "reflectlite.Value.Elem" 0) ReflectliteValue.elem #[rval 62 a 150]).run Tryd.prog W = .ok (rval 32 p 386) W := by
  rw [rlm]
  simp only [Sem.run_bind, partsPE, Result.andThen]
  simp [ReflectliteValue.elem, loadVar, isAgg, underlying, Tryd.underlying62, ha, Result.andThen, elemOfPE, mkE]
theorem elemVPB (a p : Addr) (W : World) (ha : W.cell? a = some (.pointer (some p))) :
    (ReflectliteValue.method (ReflectliteValue.valueError "reflectlite.Value.Elem" 0) ReflectliteValue.elem #[rval 63 a 150]).run Tryd.prog W = .ok (rval 38 p 406) W := by
  rw [rlm]
  simp only [Sem.run_bind, partsPB, Result.andThen]
  simp [ReflectliteValue.elem, loadVar, isAgg, underlying, Tryd.underlying63, ha, Result.andThen, elemOfPB, mkB]
theorem rls (v x : Value) : ReflectliteValue.set #[v, x] = (do
    let (some (dst, a, fl), some (src, b, _)) := (← ReflectliteValue.parts v, ← ReflectliteValue.parts x)
      | unsupported (.noEntry "extern/(internal/reflectlite.Value).Set.zeroValue")
    if fl / ReflectliteValue.flagAddr % 2 == 0 then unsupported (.noEntry "extern/(internal/reflectlite.Value).Set.unaddressable")
    let val ← loadVar src b
    if ← Rtype.directlyAssignable dst src then storeVar dst a val
    else if ← Rtype.implements dst src then
      if (← Rtype.kind src) == 20 then
        match val with
        | .nilIface => unsupported (.noEntry "extern/reflectlite: a nil value of one interface type handed on as a value of another")
        | _ => storeVar dst a val
      else storeVar dst a (.iface src val)
    else panicString ("reflectlite.Set: value of type " ++ (← Rtype.spelt src) ++ " is not assignable to type " ++ (← Rtype.spelt dst))
    pure (.tuple #[])) := rfl
theorem directE (w : World) : (Rtype.directlyAssignable 32 32).run Tryd.prog w = .ok true w := by kernel_rfl
theorem directB (w : World) : (Rtype.directlyAssignable 38 38).run Tryd.prog w = .ok true w := by kernel_rfl
/-- (Value).Set. -/
theorem setE (ta b : Addr) (n : Int) (old : Value) (W : World) (hb : W.cell? b = some (.int .i64 n)) (ht : W.cell? ta = some old) (hf : W.frozen? ta = false) :
    (ReflectliteValue.set #[rval 32 ta 386, rval 32 b 130]).run Tryd.prog W = .ok (.tuple #[]) (W.setCell ta (.int .i64 n)) := by
  rw [rls]
  simp only [Sem.run_bind, partsEa, partsE, Result.andThen]
  simp [ReflectliteValue.flagAddr, loadVar, isAgg, underlying, Tryd.underlying32, hb, Result.andThen, directE, storeVar, Value.cells, storeCells, Addr.add]
  rw [run_store Tryd.prog W ta _ _ (by rfl)]
  simp [ht, hf]
theorem setB (ta b e : Addr) (old : Value) (W : World) (hb : W.cell? b = some (.pointer (some e))) (ht : W.cell? ta = some old) (hf : W.frozen? ta = false) :
    (ReflectliteValue.set #[rval 38 ta 406, rval 38 b 150]).run Tryd.prog W = .ok (.tuple #[]) (W.setCell ta (.pointer (some e))) := by
  rw [rls]
  simp only [Sem.run_bind, partsBa, partsB, Result.andThen]
  simp [ReflectliteValue.flagAddr, loadVar, isAgg, underlying, Tryd.underlying38, hb, Result.andThen, directB, storeVar, Value.cells, storeCells, Addr.add]
  rw [run_store Tryd.prog W ta _ _ (by rfl)]
  simp [ht, hf]
end Go.Proofs.YtddihnnodegkmaaDoor
