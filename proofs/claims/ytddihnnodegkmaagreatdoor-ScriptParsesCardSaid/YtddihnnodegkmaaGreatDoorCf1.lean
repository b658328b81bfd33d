/- errors.As and errors.Is over wrapped errors: the closed facts on the types and the library's entries. -/
import Derived.Test.YtddihnnodegkmaaGreatDoorProg
import Derived.WalkKit
import Derived.LaidEql
import Derived.Stop.Asserts
import Derived.RowKitTokens
import Derived.Deep.LoopGhost
import Derived.Lib.Hide
import Derived.BigQuiet
import Derived.Deep.QuietTactic
namespace Go.Proofs.YtddihnnodegkmaaGreatDoor
open Go.RowKit Go.Extern.Stop Go.Stop Go.Extern
set_option linter.unusedVariables false
set_option linter.unusedSimpArgs false
theorem tysize : Tryz.prog.types.size = 179 := by kernel_rfl
/-- The types' handles. -/
abbrev hd (t : Nat) : Value := .pointer (some ⟨9, t, none⟩)
abbrev rty (t : Nat) : Value := .iface 91 (.agg #[.pointer (some ⟨9, t, none⟩)])
abbrev rval (t : Nat) (a : Addr) (f : Int) : Value := .agg #[.pointer (some ⟨9, t, none⟩), .pointer (some a), .int .u64 f]

section
variable (w : World)
theorem run_equalIn_iface_int {P : Program} (d : Nat) {ti tn : TypeId} {ms : Array (String × TypeId)} {i : TypeInfo} {k : IntKind} (a b : Int)
    (hi : P.underlying ti = some (.interface ms)) (hn : P.underlying tn = some (.int k)) (hinfo : P.info? tn = some i) (hcomp : i.comparable = true) :
    (Op.equalIn (d + 2) ti (.iface tn (.int k a)) (.iface tn (.int k b))).run P w = .ok (a == b) w := by
  simp [Op.equalIn, run_underlying hi, run_underlying hn, typeInfo, hinfo, hcomp]
/-- 'x == y', both interface values of one integer type: as the numbers are. -/
theorem run_eql_iface_int {P : Program} {ti tn : TypeId} {ms : Array (String × TypeId)} {i : TypeInfo} {k : IntKind} (a b : Int)
    (hi : P.underlying ti = some (.interface ms)) (hn : P.underlying tn = some (.int k)) (hinfo : P.info? tn = some i) (hcomp : i.comparable = true) :
    (binOp .eql ti (.iface tn (.int k a)) (.iface tn (.int k b))).run P w = .ok (.bool (a == b)) w := by
  simp only [binOp]
  simp [Op.equal, Op.maxDepth, run_equalIn_iface_int w 9998 a b hi hn hinfo hcomp]
end
theorem errnoComp : (Tryz.prog.info? 40).map (·.comparable) = some true := by kernel_rfl
theorem eql_errno (a b : Int) (w : World) : (binOp .eql 31 (.iface 40 (.int .i64 a)) (.iface 40 (.int .i64 b))).run Tryz.prog w = .ok (.bool (a == b)) w := by
  obtain ⟨i, hi, hc⟩ := Option.map_eq_some_iff.1 errnoComp
  exact run_eql_iface_int w a b Tryz.underlying31 Tryz.underlying40 hi hc
theorem eql_bad_errno (v u : Value) (w : World) : (binOp .eql 31 (.iface 56 v) (.iface 40 u)).run Tryz.prog w = .ok (.bool false) w :=
  run_eql_iface_types 56 40 v u Tryz.underlying31 (by decide) w

/-! The method sets. -/
theorem noIsB (v : Value) (xT : TypeId) (w : World) : (Instr.typeAssert (.iface 56 v) xT 93 true).run Tryz.prog w = .ok (.tuple #[.nilIface, .bool false]) w := run_typeAssert_lacksB Tryz.underlying93 (by kernel_rfl) (by kernel_rfl) v xT w
theorem noIsE (v : Value) (xT : TypeId) (w : World) : (Instr.typeAssert (.iface 40 v) xT 93 true).run Tryz.prog w = .ok (.tuple #[.nilIface, .bool false]) w := run_typeAssert_lacksB Tryz.underlying93 (by kernel_rfl) (by kernel_rfl) v xT w
theorem noAsB (v : Value) (xT : TypeId) (w : World) : (Instr.typeAssert (.iface 56 v) xT 106 true).run Tryz.prog w = .ok (.tuple #[.nilIface, .bool false]) w := run_typeAssert_lacksB Tryz.underlying106 (by kernel_rfl) (by kernel_rfl) v xT w
theorem noAsE (v : Value) (xT : TypeId) (w : World) : (Instr.typeAssert (.iface 40 v) xT 106 true).run Tryz.prog w = .ok (.tuple #[.nilIface, .bool false]) w := run_typeAssert_lacksB Tryz.underlying106 (by kernel_rfl) (by kernel_rfl) v xT w
theorem noUnE (v : Value) (xT : TypeId) (w : World) : (Instr.typeAssert (.iface 40 v) xT 96 true).run Tryz.prog w = .ok (.tuple #[.nilIface, .bool false]) w := run_typeAssert_lacksB Tryz.underlying96 (by kernel_rfl) (by kernel_rfl) v xT w
theorem noUnsE (v : Value) (xT : TypeId) (w : World) : (Instr.typeAssert (.iface 40 v) xT 98 true).run Tryz.prog w = .ok (.tuple #[.nilIface, .bool false]) w := run_typeAssert_lacksB Tryz.underlying98 (by kernel_rfl) (by kernel_rfl) v xT w
theorem hasUnB (v : Value) (xT : TypeId) (w : World) : (Instr.typeAssert (.iface 56 v) xT 96 true).run Tryz.prog w = .ok (.tuple #[.iface 56 v, .bool true]) w := run_typeAssert_hasB Tryz.underlying96 (by kernel_rfl) v xT w
theorem mUnwrap (v : Value) (w : World) : (Go.method 279 56 v "Unwrap").run Tryz.prog w = .ok (111, v) w := by kernel_rfl
/-! reflectlite's entries. -/
theorem typeOfE (v : Value) (w : World) : (ReflectliteType.typeOf #[.iface 40 v]).run Tryz.prog w = .ok (rty 40) w := by kernel_rfl
theorem typeOfB (v : Value) (w : World) : (ReflectliteType.typeOf #[.iface 56 v]).run Tryz.prog w = .ok (rty 56) w := by kernel_rfl
theorem comparableE (w : World) : ((ReflectliteType.method fun t => do Rtype.noPackHeld "Comparable" t; (fun a => Value.bool a.comparable) <$> typeInfo t) #[.agg #[hd 40]]).run Tryz.prog w = .ok (.bool true) w := by kernel_rfl
theorem mComparable (v : Value) (w : World) : (Go.method 279 91 v "Comparable").run Tryz.prog w = .ok (117, v) w := by kernel_rfl
theorem mElem (v : Value) (w : World) : (Go.method 279 91 (.agg #[v]) "Elem").run Tryz.prog w = .ok (118, .agg #[v]) w := by kernel_rfl
theorem mImplements (v : Value) (w : World) : (Go.method 279 91 (.agg #[v]) "Implements").run Tryz.prog w = .ok (119, .agg #[v]) w := by kernel_rfl
theorem mAssignable (v : Value) (w : World) : (Go.method 279 91 (.agg #[v]) "AssignableTo").run Tryz.prog w = .ok (116, .agg #[v]) w := by kernel_rfl
theorem mKind (v : Value) (w : World) : (Go.method 279 91 (.agg #[v]) "Kind").run Tryz.prog w = .ok (105, v) w := by kernel_rfl
theorem valueOfPB (t : Addr) (w : World) : (ReflectliteValue.unpack (.iface 62 (.pointer (some t)))).run Tryz.prog w = .ok (rval 62 ⟨w.heap.size, 0, none⟩ 150) (w.alloc (.cells #[.pointer (some t)] 62)) := by kernel_rfl
theorem valueOfE (n : Int) (w : World) : (ReflectliteValue.unpack (.iface 40 (.int .i64 n))).run Tryz.prog w = .ok (rval 40 ⟨w.heap.size, 0, none⟩ 130) (w.alloc (.cells #[.int .i64 n] 40)) := by kernel_rfl
theorem valueOfB (t : Addr) (w : World) : (ReflectliteValue.unpack (.iface 56 (.pointer (some t)))).run Tryz.prog w = .ok (rval 56 ⟨w.heap.size, 0, none⟩ 150) (w.alloc (.cells #[.pointer (some t)] 56)) := by kernel_rfl
theorem vTypePB (a : Addr) (w : World) : (ReflectliteValue.methodAny (ReflectliteValue.valueError "reflectlite.Value.Type" 0) (fun t _ _ _ => ReflectliteType.toType t) #[rval 62 a 150]).run Tryz.prog w = .ok (rty 62) w := by kernel_rfl
theorem kindPPB (w : World) : ((ReflectliteType.abiMethod fun t => (fun a : Nat => Value.int IntKind.u8 (a : Int)) <$> Rtype.kind t) #[hd 62]).run Tryz.prog w = .ok (.int .u8 22) w := by kernel_rfl
theorem kindE (w : World) : ((ReflectliteType.abiMethod fun t => (fun a : Nat => Value.int IntKind.u8 (a : Int)) <$> Rtype.kind t) #[hd 40]).run Tryz.prog w = .ok (.int .u8 2) w := by kernel_rfl
theorem kindB (w : World) : ((ReflectliteType.abiMethod fun t => (fun a : Nat => Value.int IntKind.u8 (a : Int)) <$> Rtype.kind t) #[hd 56]).run Tryz.prog w = .ok (.int .u8 22) w := by kernel_rfl
theorem elemPPB (w : World) : (ReflectliteType.method ReflectliteType.elem #[.agg #[hd 62]]).run Tryz.prog w = .ok (rty 56) w := by kernel_rfl
theorem implE (w : World) : (ReflectliteType.relation "Implements" ReflectliteType.implements_ #[.agg #[hd 40], rty 31]).run Tryz.prog w = .ok (.bool true) w := by kernel_rfl
theorem implB (w : World) : (ReflectliteType.relation "Implements" ReflectliteType.implements_ #[.agg #[hd 56], rty 31]).run Tryz.prog w = .ok (.bool true) w := by kernel_rfl
theorem asgEE (w : World) : (ReflectliteType.relation "AssignableTo" ReflectliteType.assignableTo #[.agg #[hd 40], rty 40]).run Tryz.prog w = .ok (.bool true) w := by kernel_rfl
theorem asgBE (w : World) : (ReflectliteType.relation "AssignableTo" ReflectliteType.assignableTo #[.agg #[hd 56], rty 40]).run Tryz.prog w = .ok (.bool false) w := by kernel_rfl
theorem asgBB (w : World) : (ReflectliteType.relation "AssignableTo" ReflectliteType.assignableTo #[.agg #[hd 56], rty 56]).run Tryz.prog w = .ok (.bool true) w := by kernel_rfl
theorem rlm (z : Sem Value) (f : TypeId → Addr → Nat → Nat → Sem Value) (v : Value) :
    ReflectliteValue.method z f #[v] = (do match ← ReflectliteValue.parts v with | none => z | some (t, a, fl) => f t a fl (fl % 32)) := rfl
theorem partsPB (a : Addr) (w : World) : (ReflectliteValue.parts (rval 62 a 150)).run Tryz.prog w = .ok (some (62, a, 150)) w := by kernel_rfl
theorem partsEa (a : Addr) (w : World) : (ReflectliteValue.parts (rval 40 a 386)).run Tryz.prog w = .ok (some (40, a, 386)) w := by kernel_rfl
theorem partsE (a : Addr) (w : World) : (ReflectliteValue.parts (rval 40 a 130)).run Tryz.prog w = .ok (some (40, a, 130)) w := by kernel_rfl
theorem partsBa (a : Addr) (w : World) : (ReflectliteValue.parts (rval 56 a 406)).run Tryz.prog w = .ok (some (56, a, 406)) w := by kernel_rfl
theorem partsB (a : Addr) (w : World) : (ReflectliteValue.parts (rval 56 a 150)).run Tryz.prog w = .ok (some (56, a, 150)) w := by kernel_rfl
theorem isNilPB (a p : Addr) (W : World) (ha : W.cell? a = some (.pointer (some p))) :
    (ReflectliteValue.method (ReflectliteValue.valueError "reflectlite.Value.IsNil" 0) ReflectliteValue.isNil #[rval 62 a 150]).run Tryz.prog W = .ok (.bool false) W := by
  rw [rlm]
  simp only [Sem.run_bind, partsPB, Result.andThen]
  simp [ReflectliteValue.isNil, loadVar, isAgg, underlying, Tryz.underlying62, ha, Result.andThen]
theorem elemOfPB (w : World) : (Rtype.elem? 62).run Tryz.prog w = .ok (some 56) w := by kernel_rfl
theorem mkE (p : Addr) (w : World) : (ReflectliteValue.mk 40 p ReflectliteValue.flagAddr).run Tryz.prog w = .ok (rval 40 p 386) w := by kernel_rfl
theorem mkB (p : Addr) (w : World) : (ReflectliteValue.mk 56 p ReflectliteValue.flagAddr).run Tryz.prog w = .ok (rval 56 p 406) w := by kernel_rfl
theorem elemVPB (a p : Addr) (W : World) (ha : W.cell? a = some (.pointer (some p))) :
    (ReflectliteValue.method (ReflectliteValue.valueError "reflectlite.Value.Elem" 0) ReflectliteValue.elem #[rval 62 a 150]).run Tryz.prog W = .ok (rval 56 p 406) W := by
  rw [rlm]
  simp only [Sem.run_bind, partsPB, Result.andThen]
  simp [ReflectliteValue.elem, loadVar, isAgg, underlying, Tryz.underlying62, ha, Result.andThen, elemOfPB, mkB]
theorem rls (v x : Value) : ReflectliteValue.set #[v, x] = (do
    let (some (dst, a, fl), some (src, b, _)) := (← ReflectliteValue.parts v, ← ReflectliteValue.parts x)
      | unsupported (.noEntry "extern/(internal/reflectlite.Value).Set.zeroValue")
    if fl / ReflectliteValue.flagAddr % 2 == 0 then unsupported (.noEntry "extern/(internal/reflectlite.Value).Set.unaddressable")
    let val ← loadVar src b
    if ← Rtype.directlyAssignable dst src then storeVar dst a val
    else if ← Rtype.implements dst src then
      if (← Rtype.kind src) == 20 then
        match val with
        | .nilIface => unsupported (.noEntry "extern/reflectlite: a nil value of one interface type handed on as a value of another")
        | _ => storeVar dst a val
      else storeVar dst a (.iface src val)
    else panicString ("reflectlite.Set: value of type " ++ (← Rtype.spelt src) ++ " is not assignable to type " ++ (← Rtype.spelt dst))
    pure (.tuple #[])) := rfl
theorem directE (w : World) : (Rtype.directlyAssignable 40 40).run Tryz.prog w = .ok true w := by kernel_rfl
theorem directB (w : World) : (Rtype.directlyAssignable 56 56).run Tryz.prog w = .ok true w := by kernel_rfl
/-- (Value).Set. -/
theorem setE (ta b : Addr) (n : Int) (old : Value) (W : World) (hb : W.cell? b = some (.int .i64 n)) (ht : W.cell? ta = some old) (hf : W.frozen? ta = false) :
    (ReflectliteValue.set #[rval 40 ta 386, rval 40 b 130]).run Tryz.prog W = .ok (.tuple #[]) (W.setCell ta (.int .i64 n)) := by
  rw [rls]
  simp only [Sem.run_bind, partsEa, partsE, Result.andThen]
  simp [ReflectliteValue.flagAddr, loadVar, isAgg, underlying, Tryz.underlying40, hb, Result.andThen, directE, storeVar, Value.cells, storeCells, Addr.add]
  rw [run_store Tryz.prog W ta _ _ (by rfl)]
  simp [ht, hf]
theorem setB (ta b e : Addr) (old : Value) (W : World) (hb : W.cell? b = some (.pointer (some e))) (ht : W.cell? ta = some old) (hf : W.frozen? ta = false) :
    (ReflectliteValue.set #[rval 56 ta 406, rval 56 b 150]).run Tryz.prog W = .ok (.tuple #[]) (W.setCell ta (.pointer (some e))) := by
  rw [rls]
  simp only [Sem.run_bind, partsBa, partsB, Result.andThen]
  simp [ReflectliteValue.flagAddr, loadVar, isAgg, underlying, Tryz.underlying56, hb, Result.andThen, directB, storeVar, Value.cells, storeCells, Addr.add]
  rw [run_store Tryz.prog W ta _ _ (by rfl)]
  simp [ht, hf]
end Go.Proofs.YtddihnnodegkmaaGreatDoor
