/-
  CLOSED FACTS: what internal/reflectlite's entries give at this program's error types; what the type assertions in errors.is and errors.as find; which method a call through an interface comes to.
-/
import Derived.Test.YtpdljglamjanmaaDoorProg
import Derived.WalkKit
import Derived.LaidEql
import Derived.Stop.Asserts
import Derived.RowKitTokens
namespace Go.Proofs.YtpdljglamjanmaaDoor
open Go.RowKit Go.Extern.Stop Go.Stop Go.Extern

/-- The handle of type T. -/
abbrev rt (T : Nat) : Value := .agg #[.pointer (some ⟨5, T, none⟩)]

theorem typeOf40 (v : Value) (w : World) : (Extern.ReflectliteType.typeOf #[.iface 40 v]).run Tryd.prog w = .ok (.iface 91 (rt 40)) w := by kernel_rfl
theorem typeOf66 (v : Value) (w : World) : (Extern.ReflectliteType.typeOf #[.iface 66 v]).run Tryd.prog w = .ok (.iface 91 (rt 66)) w := by kernel_rfl
theorem typeOf71 (v : Value) (w : World) : (Extern.ReflectliteType.typeOf #[.iface 71 v]).run Tryd.prog w = .ok (.iface 91 (rt 71)) w := by kernel_rfl
theorem comparable40 (w : World) : ((Extern.ReflectliteType.method fun t => (fun a => Value.bool a.comparable) <$> typeInfo t) #[rt 40]).run Tryd.prog w = .ok (.bool true) w := by kernel_rfl

theorem lacks40 (xT : TypeId) (v : Value) (w : World) : (Instr.typeAssert (.iface 40 v) xT 93 true).run Tryd.prog w = .ok (.tuple #[.nilIface, .bool false]) w := run_typeAssert_lacksB Tryd.underlying93 (by kernel_rfl) (by kernel_rfl) v xT w
theorem lacks40u (xT : TypeId) (v : Value) (w : World) : (Instr.typeAssert (.iface 40 v) xT 95 true).run Tryd.prog w = .ok (.tuple #[.nilIface, .bool false]) w := run_typeAssert_lacksB Tryd.underlying95 (by kernel_rfl) (by kernel_rfl) v xT w
theorem lacks40us (xT : TypeId) (v : Value) (w : World) : (Instr.typeAssert (.iface 40 v) xT 97 true).run Tryd.prog w = .ok (.tuple #[.nilIface, .bool false]) w := run_typeAssert_lacksB Tryd.underlying97 (by kernel_rfl) (by kernel_rfl) v xT w
theorem lacks40a (xT : TypeId) (v : Value) (w : World) : (Instr.typeAssert (.iface 40 v) xT 101 true).run Tryd.prog w = .ok (.tuple #[.nilIface, .bool false]) w := run_typeAssert_lacksB Tryd.underlying101 (by kernel_rfl) (by kernel_rfl) v xT w
theorem lacks66 (xT : TypeId) (v : Value) (w : World) : (Instr.typeAssert (.iface 66 v) xT 93 true).run Tryd.prog w = .ok (.tuple #[.nilIface, .bool false]) w := run_typeAssert_lacksB Tryd.underlying93 (by kernel_rfl) (by kernel_rfl) v xT w
theorem lacks66u (xT : TypeId) (v : Value) (w : World) : (Instr.typeAssert (.iface 66 v) xT 95 true).run Tryd.prog w = .ok (.tuple #[.nilIface, .bool false]) w := run_typeAssert_lacksB Tryd.underlying95 (by kernel_rfl) (by kernel_rfl) v xT w
theorem has66us (xT : TypeId) (v : Value) (w : World) : (Instr.typeAssert (.iface 66 v) xT 97 true).run Tryd.prog w = .ok (.tuple #[.iface 66 v, .bool true]) w := run_typeAssert_hasB Tryd.underlying97 (by kernel_rfl) v xT w
theorem lacks66a (xT : TypeId) (v : Value) (w : World) : (Instr.typeAssert (.iface 66 v) xT 101 true).run Tryd.prog w = .ok (.tuple #[.nilIface, .bool false]) w := run_typeAssert_lacksB Tryd.underlying101 (by kernel_rfl) (by kernel_rfl) v xT w
theorem lacks71 (xT : TypeId) (v : Value) (w : World) : (Instr.typeAssert (.iface 71 v) xT 93 true).run Tryd.prog w = .ok (.tuple #[.nilIface, .bool false]) w := run_typeAssert_lacksB Tryd.underlying93 (by kernel_rfl) (by kernel_rfl) v xT w
theorem lacks71u (xT : TypeId) (v : Value) (w : World) : (Instr.typeAssert (.iface 71 v) xT 95 true).run Tryd.prog w = .ok (.tuple #[.nilIface, .bool false]) w := run_typeAssert_lacksB Tryd.underlying95 (by kernel_rfl) (by kernel_rfl) v xT w
theorem lacks71us (xT : TypeId) (v : Value) (w : World) : (Instr.typeAssert (.iface 71 v) xT 97 true).run Tryd.prog w = .ok (.tuple #[.nilIface, .bool false]) w := run_typeAssert_lacksB Tryd.underlying97 (by kernel_rfl) (by kernel_rfl) v xT w
theorem lacks71a (xT : TypeId) (v : Value) (w : World) : (Instr.typeAssert (.iface 71 v) xT 101 true).run Tryd.prog w = .ok (.tuple #[.nilIface, .bool false]) w := run_typeAssert_lacksB Tryd.underlying101 (by kernel_rfl) (by kernel_rfl) v xT w

theorem assign4040 (w : World) : (ReflectliteType.relation "AssignableTo" ReflectliteType.assignableTo #[rt 40, .iface 91 (rt 40)]).run Tryd.prog w = .ok (.bool true) w := by kernel_rfl
theorem assign6640 (w : World) : (ReflectliteType.relation "AssignableTo" ReflectliteType.assignableTo #[rt 66, .iface 91 (rt 40)]).run Tryd.prog w = .ok (.bool false) w := by kernel_rfl
theorem assign7140 (w : World) : (ReflectliteType.relation "AssignableTo" ReflectliteType.assignableTo #[rt 71, .iface 91 (rt 40)]).run Tryd.prog w = .ok (.bool false) w := by kernel_rfl
theorem assign6666 (w : World) : (ReflectliteType.relation "AssignableTo" ReflectliteType.assignableTo #[rt 66, .iface 91 (rt 66)]).run Tryd.prog w = .ok (.bool true) w := by kernel_rfl
theorem assign7166 (w : World) : (ReflectliteType.relation "AssignableTo" ReflectliteType.assignableTo #[rt 71, .iface 91 (rt 66)]).run Tryd.prog w = .ok (.bool false) w := by kernel_rfl
theorem implements40 (w : World) : (ReflectliteType.relation "Implements" ReflectliteType.implements_ #[rt 40, .iface 91 (rt 29)]).run Tryd.prog w = .ok (.bool true) w := by kernel_rfl
theorem implements66 (w : World) : (ReflectliteType.relation "Implements" ReflectliteType.implements_ #[rt 66, .iface 91 (rt 29)]).run Tryd.prog w = .ok (.bool true) w := by kernel_rfl
theorem kind65 (w : World) : ((ReflectliteType.abiMethod fun t => (fun a : Nat => Value.int IntKind.u8 (a : Int)) <$> Rtype.kind t) #[.pointer (some ⟨5, 65, none⟩)]).run Tryd.prog w = .ok (.int .u8 22) w := by kernel_rfl
theorem kind67 (w : World) : ((ReflectliteType.abiMethod fun t => (fun a : Nat => Value.int IntKind.u8 (a : Int)) <$> Rtype.kind t) #[.pointer (some ⟨5, 67, none⟩)]).run Tryd.prog w = .ok (.int .u8 22) w := by kernel_rfl
theorem kind40 (w : World) : ((ReflectliteType.abiMethod fun t => (fun a : Nat => Value.int IntKind.u8 (a : Int)) <$> Rtype.kind t) #[.pointer (some ⟨5, 40, none⟩)]).run Tryd.prog w = .ok (.int .u8 25) w := by kernel_rfl
theorem kind66 (w : World) : ((ReflectliteType.abiMethod fun t => (fun a : Nat => Value.int IntKind.u8 (a : Int)) <$> Rtype.kind t) #[.pointer (some ⟨5, 66, none⟩)]).run Tryd.prog w = .ok (.int .u8 22) w := by kernel_rfl
theorem elem65 (w : World) : (ReflectliteType.method ReflectliteType.elem #[rt 65]).run Tryd.prog w = .ok (.iface 91 (rt 40)) w := by kernel_rfl
theorem elem67 (w : World) : (ReflectliteType.method ReflectliteType.elem #[rt 67]).run Tryd.prog w = .ok (.iface 91 (rt 66)) w := by kernel_rfl

/-- reflectlite's Value of a variable of type T that lies at a, with its flag. -/
abbrev rv (T : Nat) (a : Addr) (f : Int) : Value := .agg #[.pointer (some ⟨5, T, none⟩), .pointer (some a), .int .u64 f]

theorem valueOf65 (t : Addr) (w : World) : (ReflectliteValue.unpack (.iface 65 (.pointer (some t)))).run Tryd.prog w = .ok (rv 65 ⟨w.heap.size, 0, none⟩ 150) (w.alloc (.cells #[.pointer (some t)] 65)) := by kernel_rfl
theorem valueOf67 (t : Addr) (w : World) : (ReflectliteValue.unpack (.iface 67 (.pointer (some t)))).run Tryd.prog w = .ok (rv 67 ⟨w.heap.size, 0, none⟩ 150) (w.alloc (.cells #[.pointer (some t)] 67)) := by kernel_rfl
theorem valueOf66 (t : Addr) (w : World) : (ReflectliteValue.unpack (.iface 66 (.pointer (some t)))).run Tryd.prog w = .ok (rv 66 ⟨w.heap.size, 0, none⟩ 150) (w.alloc (.cells #[.pointer (some t)] 66)) := by kernel_rfl
theorem valueOf40 (n : Int) (w : World) : (ReflectliteValue.unpack (.iface 40 (.agg #[.int .i64 n]))).run Tryd.prog w = .ok (rv 40 ⟨w.heap.size, 0, none⟩ 153) (w.alloc (.cells #[.int .i64 n] 40)) := by kernel_rfl
theorem type65 (a : Addr) (w : World) : (ReflectliteValue.methodAny (ReflectliteValue.valueError "reflectlite.Value.Type" 0) (fun t _ _ _ => ReflectliteType.toType t) #[rv 65 a 150]).run Tryd.prog w = .ok (.iface 91 (rt 65)) w := by kernel_rfl
theorem type67 (a : Addr) (w : World) : (ReflectliteValue.methodAny (ReflectliteValue.valueError "reflectlite.Value.Type" 0) (fun t _ _ _ => ReflectliteType.toType t) #[rv 67 a 150]).run Tryd.prog w = .ok (.iface 91 (rt 67)) w := by kernel_rfl
theorem rlm (z : Sem Value) (f : TypeId → Addr → Nat → Nat → Sem Value) (v : Value) :
    ReflectliteValue.method z f #[v] = (do match ← ReflectliteValue.parts v with | none => z | some (t, a, fl) => f t a fl (fl % 32)) := rfl
theorem parts65 (a : Addr) (w : World) : (ReflectliteValue.parts (rv 65 a 150)).run Tryd.prog w = .ok (some (65, a, 150)) w := by kernel_rfl
theorem parts67 (a : Addr) (w : World) : (ReflectliteValue.parts (rv 67 a 150)).run Tryd.prog w = .ok (some (67, a, 150)) w := by kernel_rfl
theorem elemOf65 (w : World) : (Rtype.elem? 65).run Tryd.prog w = .ok (some 40) w := by kernel_rfl
theorem elemOf67 (w : World) : (Rtype.elem? 67).run Tryd.prog w = .ok (some 66) w := by kernel_rfl
theorem mk40 (p : Addr) (w : World) : (ReflectliteValue.mk 40 p ReflectliteValue.flagAddr).run Tryd.prog w = .ok (rv 40 p 409) w := by kernel_rfl
theorem mk66 (p : Addr) (w : World) : (ReflectliteValue.mk 66 p ReflectliteValue.flagAddr).run Tryd.prog w = .ok (rv 66 p 406) w := by kernel_rfl

theorem isNil65 (a p : Addr) (W : World) (ha : W.cell? a = some (.pointer (some p))) :
    (ReflectliteValue.method (ReflectliteValue.valueError "reflectlite.Value.IsNil" 0) ReflectliteValue.isNil #[rv 65 a 150]).run Tryd.prog W = .ok (.bool false) W := by
  rw [rlm]
  simp only [Sem.run_bind, parts65, Result.andThen]
  simp [ReflectliteValue.isNil, loadVar, isAgg, underlying, Tryd.underlying65, ha, Result.andThen]
theorem isNil67 (a p : Addr) (W : World) (ha : W.cell? a = some (.pointer (some p))) :
    (ReflectliteValue.method (ReflectliteValue.valueError "reflectlite.Value.IsNil" 0) ReflectliteValue.isNil #[rv 67 a 150]).run Tryd.prog W = .ok (.bool false) W := by
  rw [rlm]
  simp only [Sem.run_bind, parts67, Result.andThen]
  simp [ReflectliteValue.isNil, loadVar, isAgg, underlying, Tryd.underlying67, ha, Result.andThen]
theorem elemV65 (a p : Addr) (W : World) (ha : W.cell? a = some (.pointer (some p))) :
    (ReflectliteValue.method (ReflectliteValue.valueError "reflectlite.Value.Elem" 0) ReflectliteValue.elem #[rv 65 a 150]).run Tryd.prog W = .ok (rv 40 p 409) W := by
  rw [rlm]
  simp only [Sem.run_bind, parts65, Result.andThen]
  simp [ReflectliteValue.elem, loadVar, isAgg, underlying, Tryd.underlying65, ha, Result.andThen, elemOf65, mk40]
theorem elemV67 (a p : Addr) (W : World) (ha : W.cell? a = some (.pointer (some p))) :
    (ReflectliteValue.method (ReflectliteValue.valueError "reflectlite.Value.Elem" 0) ReflectliteValue.elem #[rv 67 a 150]).run Tryd.prog W = .ok (rv 66 p 406) W := by
  rw [rlm]
  simp only [Sem.run_bind, parts67, Result.andThen]
  simp [ReflectliteValue.elem, loadVar, isAgg, underlying, Tryd.underlying67, ha, Result.andThen, elemOf67, mk66]

theorem rls (v x : Value) : ReflectliteValue.set #[v, x] = (do
    let (some (dst, a, fl), some (src, b, _)) := (← ReflectliteValue.parts v, ← ReflectliteValue.parts x)
      | unsupported (.noEntry "extern/(internal/reflectlite.Value).Set.zeroValue")
    if fl / ReflectliteValue.flagAddr % 2 == 0 then unsupported (.noEntry "extern/(internal/reflectlite.Value).Set.unaddressable")
    let val ← loadVar src b
    if ← Rtype.directlyAssignable dst src then storeVar dst a val
    else if ← Rtype.implements dst src then
      if (← Rtype.kind src) == 20 then
        match val with
        | .nilIface => unsupported (.noEntry "extern/reflectlite: a nil value of one interface type handed on as a value of another")
        | _ => storeVar dst a val
      else storeVar dst a (.iface src val)
    else panicString ("reflectlite.Set: value of type " ++ (← Rtype.spelt src) ++ " is not assignable to type " ++ (← Rtype.spelt dst))
    pure (.tuple #[])) := rfl
theorem parts40a (a : Addr) (w : World) : (ReflectliteValue.parts (rv 40 a 409)).run Tryd.prog w = .ok (some (40, a, 409)) w := by kernel_rfl
theorem parts40 (a : Addr) (w : World) : (ReflectliteValue.parts (rv 40 a 153)).run Tryd.prog w = .ok (some (40, a, 153)) w := by kernel_rfl
theorem parts66a (a : Addr) (w : World) : (ReflectliteValue.parts (rv 66 a 406)).run Tryd.prog w = .ok (some (66, a, 406)) w := by kernel_rfl
theorem parts66 (a : Addr) (w : World) : (ReflectliteValue.parts (rv 66 a 150)).run Tryd.prog w = .ok (some (66, a, 150)) w := by kernel_rfl
theorem direct40 (w : World) : (Rtype.directlyAssignable 40 40).run Tryd.prog w = .ok true w := by kernel_rfl
theorem direct66 (w : World) : (Rtype.directlyAssignable 66 66).run Tryd.prog w = .ok true w := by kernel_rfl
theorem size40 (w : World) : (sizeOf 40).run Tryd.prog w = .ok 1 w := by kernel_rfl

/-- (Value).Set at the variable 'c Code'. -/
theorem set40 (ta : Addr) (b : Nat) (n : Int) (old : Value) (W : World) (hb : W.cell? ⟨b, 0, none⟩ = some (.int .i64 n)) (ht : W.cell? ta = some old) (hf : W.frozen? ta = false) :
    (ReflectliteValue.set #[rv 40 ta 409, rv 40 ⟨b, 0, none⟩ 153]).run Tryd.prog W = .ok (.tuple #[]) (W.setCell ta (.int .i64 n)) := by
  rw [rls]
  simp only [Sem.run_bind, parts40a, parts40, Result.andThen]
  simp [ReflectliteValue.flagAddr, loadVar, isAgg, underlying, Tryd.underlying40, Result.andThen, direct40, storeVar, Value.cells, storeCells, Addr.add]
  have hl : (loadCells ⟨b, 0, none⟩ 1).run Tryd.prog W = .ok #[.int .i64 n] W :=
    run_loadCells_list _ ⟨b, 0, none⟩ [.int .i64 n] (fun j v hj => by
      cases j with
      | zero => simp at hj; subst hj; simpa [Addr.add] using hb
      | succ j => simp at hj)
  rw [hl]
  simp only [List.size_toArray, List.length_cons, List.length_nil, storeCells]
  simp [Addr.add]
  rw [run_store Tryd.prog W ta _ _ (by rfl)]
  simp [ht, hf]
/-- (Value).Set at the variable 'w *wrap'. -/
theorem set66 (ta b e : Addr) (old : Value) (W : World) (hb : W.cell? b = some (.pointer (some e))) (ht : W.cell? ta = some old) (hf : W.frozen? ta = false) :
    (ReflectliteValue.set #[rv 66 ta 406, rv 66 b 150]).run Tryd.prog W = .ok (.tuple #[]) (W.setCell ta (.pointer (some e))) := by
  rw [rls]
  simp only [Sem.run_bind, parts66a, parts66, Result.andThen]
  simp [ReflectliteValue.flagAddr, loadVar, isAgg, underlying, Tryd.underlying66, hb, Result.andThen, direct66, storeVar, Value.cells, storeCells, Addr.add]
  rw [run_store Tryd.prog W ta _ _ (by rfl)]
  simp [ht, hf]
end Go.Proofs.YtpdljglamjanmaaDoor
