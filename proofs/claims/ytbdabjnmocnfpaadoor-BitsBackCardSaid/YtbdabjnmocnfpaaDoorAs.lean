/- errors.As at the two targets that the program uses, by Go's own text of errors.As and errors.as: '*api.Code' and '**fault.Fault', over errors that are chains of Faults. -/
import Derived.Test.YtbdabjnmocnfpaaDoorProg
import Derived.Test.YtbdabjnmocnfpaaDoorMem
import Derived.LaidEql
import Derived.Stop.Asserts
import Derived.RowKitTokens
namespace Go.Proofs.YtbdabjnmocnfpaaDoor
open Go Go.RowKit Go.Extern.Stop Go.Stop Go.Extern

/-- errors.errorType, the one variable that errors.As reads: the handle of the type 'error'. -/
def Gl (w : World) : Prop := w.cell? ⟨0, 0, none⟩ = some (.iface 97 (.agg #[.pointer (some ⟨1, 34, none⟩)]))
theorem Gl.keep {w w' : World} (h : Gl w) (hb : Below w.heap.size w w') : Gl w' := cell_keep h hb

theorem as_nil (t : Value) (w : World) : Calls Tryd.prog 39 #[.nilIface, t] w fun e w' => e = .returned (.bool false) ∧ w = w' := by
  go_enter Tryd.func39, Tryd.ntmps39
  go_wp2
  go_ret
  exact ⟨rfl, rfl⟩

/-! ### Closed facts on the model's entries for internal/reflectlite at this program's types -/
theorem valueOfPP (t : Addr) (w : World) : (ReflectliteValue.unpack (.iface 81 (.pointer (some t)))).run Tryd.prog w
    = .ok (.agg #[.pointer (some ⟨1, 81, none⟩), .pointer (some ⟨w.heap.size, 0, none⟩), .int .u64 150]) (w.alloc (.cells #[.pointer (some t)] 81)) := by kernel_rfl
theorem valueOfCP (t : Addr) (w : World) : (ReflectliteValue.unpack (.iface 79 (.pointer (some t)))).run Tryd.prog w
    = .ok (.agg #[.pointer (some ⟨1, 79, none⟩), .pointer (some ⟨w.heap.size, 0, none⟩), .int .u64 150]) (w.alloc (.cells #[.pointer (some t)] 79)) := by kernel_rfl
theorem valueOfFP (e : Addr) (w : World) : (ReflectliteValue.unpack (.iface 80 (.pointer (some e)))).run Tryd.prog w
    = .ok (.agg #[.pointer (some ⟨1, 80, none⟩), .pointer (some ⟨w.heap.size, 0, none⟩), .int .u64 150]) (w.alloc (.cells #[.pointer (some e)] 80)) := by kernel_rfl
theorem valueOfC (c : Int) (w : World) : (ReflectliteValue.unpack (.iface 36 (.int .i64 c))).run Tryd.prog w
    = .ok (.agg #[.pointer (some ⟨1, 36, none⟩), .pointer (some ⟨w.heap.size, 0, none⟩), .int .u64 130]) (w.alloc (.cells #[.int .i64 c] 36)) := by kernel_rfl

theorem typePP (a : Addr) (w : World) : (ReflectliteValue.methodAny (ReflectliteValue.valueError "reflectlite.Value.Type" 0) (fun t _ _ _ => ReflectliteType.toType t) #[.agg #[.pointer (some ⟨1, 81, none⟩), .pointer (some a), .int .u64 150]]).run Tryd.prog w
    = .ok (.iface 97 (.agg #[.pointer (some ⟨1, 81, none⟩)])) w := by kernel_rfl
theorem typeCP (a : Addr) (w : World) : (ReflectliteValue.methodAny (ReflectliteValue.valueError "reflectlite.Value.Type" 0) (fun t _ _ _ => ReflectliteType.toType t) #[.agg #[.pointer (some ⟨1, 79, none⟩), .pointer (some a), .int .u64 150]]).run Tryd.prog w
    = .ok (.iface 97 (.agg #[.pointer (some ⟨1, 79, none⟩)])) w := by kernel_rfl

theorem mKind (h : Value) (w : World) : (Go.method 238 97 (.agg #[h]) "Kind").run Tryd.prog w = .ok (61, h) w := by kernel_rfl
theorem mElem (h : Value) (w : World) : (Go.method 238 97 (.agg #[h]) "Elem").run Tryd.prog w = .ok (73, .agg #[h]) w := by kernel_rfl
theorem mImplements (h : Value) (w : World) : (Go.method 238 97 (.agg #[h]) "Implements").run Tryd.prog w = .ok (74, .agg #[h]) w := by kernel_rfl
theorem mAssignableTo (h : Value) (w : World) : (Go.method 238 97 (.agg #[h]) "AssignableTo").run Tryd.prog w = .ok (71, .agg #[h]) w := by kernel_rfl

theorem kindPP (w : World) : ((ReflectliteType.abiMethod fun t => Functor.map (fun a : Nat => Value.int IntKind.u8 (a : Int)) (Rtype.kind t)) #[.pointer (some ⟨1, 81, none⟩)]).run Tryd.prog w = .ok (.int .u8 22) w := by kernel_rfl
theorem kindFP (w : World) : ((ReflectliteType.abiMethod fun t => Functor.map (fun a : Nat => Value.int IntKind.u8 (a : Int)) (Rtype.kind t)) #[.pointer (some ⟨1, 80, none⟩)]).run Tryd.prog w = .ok (.int .u8 22) w := by kernel_rfl
theorem kindCP (w : World) : ((ReflectliteType.abiMethod fun t => Functor.map (fun a : Nat => Value.int IntKind.u8 (a : Int)) (Rtype.kind t)) #[.pointer (some ⟨1, 79, none⟩)]).run Tryd.prog w = .ok (.int .u8 22) w := by kernel_rfl
theorem kindC (w : World) : ((ReflectliteType.abiMethod fun t => Functor.map (fun a : Nat => Value.int IntKind.u8 (a : Int)) (Rtype.kind t)) #[.pointer (some ⟨1, 36, none⟩)]).run Tryd.prog w = .ok (.int .u8 2) w := by kernel_rfl

theorem elemPP (w : World) : (ReflectliteType.method ReflectliteType.elem #[.agg #[.pointer (some ⟨1, 81, none⟩)]]).run Tryd.prog w = .ok (.iface 97 (.agg #[.pointer (some ⟨1, 80, none⟩)])) w := by kernel_rfl
theorem elemCP (w : World) : (ReflectliteType.method ReflectliteType.elem #[.agg #[.pointer (some ⟨1, 79, none⟩)]]).run Tryd.prog w = .ok (.iface 97 (.agg #[.pointer (some ⟨1, 36, none⟩)])) w := by kernel_rfl
theorem implFP (w : World) : (ReflectliteType.relation "Implements" ReflectliteType.implements_ #[.agg #[.pointer (some ⟨1, 80, none⟩)], .iface 97 (.agg #[.pointer (some ⟨1, 34, none⟩)])]).run Tryd.prog w = .ok (.bool true) w := by kernel_rfl
theorem implC (w : World) : (ReflectliteType.relation "Implements" ReflectliteType.implements_ #[.agg #[.pointer (some ⟨1, 36, none⟩)], .iface 97 (.agg #[.pointer (some ⟨1, 34, none⟩)])]).run Tryd.prog w = .ok (.bool true) w := by kernel_rfl
theorem typeOfFP (v : Value) (w : World) : (ReflectliteType.typeOf #[.iface 80 v]).run Tryd.prog w = .ok (.iface 97 (.agg #[.pointer (some ⟨1, 80, none⟩)])) w := by kernel_rfl
theorem typeOfC (v : Value) (w : World) : (ReflectliteType.typeOf #[.iface 36 v]).run Tryd.prog w = .ok (.iface 97 (.agg #[.pointer (some ⟨1, 36, none⟩)])) w := by kernel_rfl
theorem assFPFP (w : World) : (ReflectliteType.relation "AssignableTo" ReflectliteType.assignableTo #[.agg #[.pointer (some ⟨1, 80, none⟩)], .iface 97 (.agg #[.pointer (some ⟨1, 80, none⟩)])]).run Tryd.prog w = .ok (.bool true) w := by kernel_rfl
theorem assCC (w : World) : (ReflectliteType.relation "AssignableTo" ReflectliteType.assignableTo #[.agg #[.pointer (some ⟨1, 36, none⟩)], .iface 97 (.agg #[.pointer (some ⟨1, 36, none⟩)])]).run Tryd.prog w = .ok (.bool true) w := by kernel_rfl
theorem assFPC (w : World) : (ReflectliteType.relation "AssignableTo" ReflectliteType.assignableTo #[.agg #[.pointer (some ⟨1, 80, none⟩)], .iface 97 (.agg #[.pointer (some ⟨1, 36, none⟩)])]).run Tryd.prog w = .ok (.bool false) w := by kernel_rfl
theorem assCFP (w : World) : (ReflectliteType.relation "AssignableTo" ReflectliteType.assignableTo #[.agg #[.pointer (some ⟨1, 36, none⟩)], .iface 97 (.agg #[.pointer (some ⟨1, 80, none⟩)])]).run Tryd.prog w = .ok (.bool false) w := by kernel_rfl

theorem noAsFP (v : Value) (x : TypeId) (w : World) : (Instr.typeAssert (.iface 80 v) x 102 true).run Tryd.prog w = .ok (.tuple #[.nilIface, .bool false]) w :=
  run_typeAssert_lacksB Tryd.underlying102 (by kernel_rfl) (by kernel_rfl) v x w
theorem noAsC (v : Value) (x : TypeId) (w : World) : (Instr.typeAssert (.iface 36 v) x 102 true).run Tryd.prog w = .ok (.tuple #[.nilIface, .bool false]) w :=
  run_typeAssert_lacksB Tryd.underlying102 (by kernel_rfl) (by kernel_rfl) v x w
theorem hasUnwrapFP (v : Value) (x : TypeId) (w : World) : (Instr.typeAssert (.iface 80 v) x 105 true).run Tryd.prog w = .ok (.tuple #[.iface 80 v, .bool true]) w :=
  run_typeAssert_hasB Tryd.underlying105 (by kernel_rfl) v x w
theorem noUnwrapC (v : Value) (x : TypeId) (w : World) : (Instr.typeAssert (.iface 36 v) x 105 true).run Tryd.prog w = .ok (.tuple #[.nilIface, .bool false]) w :=
  run_typeAssert_lacksB Tryd.underlying105 (by kernel_rfl) (by kernel_rfl) v x w
theorem noUnwrapsC (v : Value) (x : TypeId) (w : World) : (Instr.typeAssert (.iface 36 v) x 106 true).run Tryd.prog w = .ok (.tuple #[.nilIface, .bool false]) w :=
  run_typeAssert_lacksB Tryd.underlying106 (by kernel_rfl) (by kernel_rfl) v x w
theorem mUnwrapFP (a : Addr) (w : World) : (Go.method 238 80 (.pointer (some a)) "Unwrap").run Tryd.prog w = .ok (66, .pointer (some a)) w := by kernel_rfl

/-! ### The entries that read or write memory -/
theorem rlm (z : Sem Value) (f : TypeId → Addr → Nat → Nat → Sem Value) (v : Value) :
    ReflectliteValue.method z f #[v] = (do match ← ReflectliteValue.parts v with | none => z | some (t, a, fl) => f t a fl (fl % 32)) := rfl
theorem partsPP (a : Addr) (w : World) : (ReflectliteValue.parts (.agg #[.pointer (some ⟨1, 81, none⟩), .pointer (some a), .int .u64 150])).run Tryd.prog w = .ok (some (81, a, 150)) w := by kernel_rfl
theorem partsCP (a : Addr) (w : World) : (ReflectliteValue.parts (.agg #[.pointer (some ⟨1, 79, none⟩), .pointer (some a), .int .u64 150])).run Tryd.prog w = .ok (some (79, a, 150)) w := by kernel_rfl
theorem isNilPP (a p : Addr) (W : World) (ha : W.cell? a = some (.pointer (some p))) :
    (ReflectliteValue.method (ReflectliteValue.valueError "reflectlite.Value.IsNil" 0) ReflectliteValue.isNil #[.agg #[.pointer (some ⟨1, 81, none⟩), .pointer (some a), .int .u64 150]]).run Tryd.prog W = .ok (.bool false) W := by
  rw [rlm]
  simp only [Sem.run_bind, partsPP, Result.andThen]
  simp [ReflectliteValue.isNil, loadVar, isAgg, underlying, Tryd.underlying81, ha, Result.andThen]
theorem isNilCP (a p : Addr) (W : World) (ha : W.cell? a = some (.pointer (some p))) :
    (ReflectliteValue.method (ReflectliteValue.valueError "reflectlite.Value.IsNil" 0) ReflectliteValue.isNil #[.agg #[.pointer (some ⟨1, 79, none⟩), .pointer (some a), .int .u64 150]]).run Tryd.prog W = .ok (.bool false) W := by
  rw [rlm]
  simp only [Sem.run_bind, partsCP, Result.andThen]
  simp [ReflectliteValue.isNil, loadVar, isAgg, underlying, Tryd.underlying79, ha, Result.andThen]
theorem elemOfPP (w : World) : (Rtype.elem? 81).run Tryd.prog w = .ok (some 80) w := by kernel_rfl
theorem elemOfCP (w : World) : (Rtype.elem? 79).run Tryd.prog w = .ok (some 36) w := by kernel_rfl
theorem mkFP (p : Addr) (w : World) : (ReflectliteValue.mk 80 p ReflectliteValue.flagAddr).run Tryd.prog w = .ok (.agg #[.pointer (some ⟨1, 80, none⟩), .pointer (some p), .int .u64 406]) w := by kernel_rfl
theorem mkC (p : Addr) (w : World) : (ReflectliteValue.mk 36 p ReflectliteValue.flagAddr).run Tryd.prog w = .ok (.agg #[.pointer (some ⟨1, 36, none⟩), .pointer (some p), .int .u64 386]) w := by kernel_rfl
theorem elemVPP (a p : Addr) (W : World) (ha : W.cell? a = some (.pointer (some p))) :
    (ReflectliteValue.method (ReflectliteValue.valueError "reflectlite.Value.Elem" 0) ReflectliteValue.elem #[.agg #[.pointer (some ⟨1, 81, none⟩), .pointer (some a), .int .u64 150]]).run Tryd.prog W
      = .ok (.agg #[.pointer (some ⟨1, 80, none⟩), .pointer (some p), .int .u64 406]) W := by
  rw [rlm]
  simp only [Sem.run_bind, partsPP, Result.andThen]
  simp [ReflectliteValue.elem, loadVar, isAgg, underlying, Tryd.underlying81, ha, Result.andThen, elemOfPP, mkFP]
theorem elemVCP (a p : Addr) (W : World) (ha : W.cell? a = some (.pointer (some p))) :
    (ReflectliteValue.method (ReflectliteValue.valueError "reflectlite.Value.Elem" 0) ReflectliteValue.elem #[.agg #[.pointer (some ⟨1, 79, none⟩), .pointer (some a), .int .u64 150]]).run Tryd.prog W
      = .ok (.agg #[.pointer (some ⟨1, 36, none⟩), .pointer (some p), .int .u64 386]) W := by
  rw [rlm]
  simp only [Sem.run_bind, partsCP, Result.andThen]
  simp [ReflectliteValue.elem, loadVar, isAgg, underlying, Tryd.underlying79, ha, Result.andThen, elemOfCP, mkC]
theorem rls (v x : Value) : ReflectliteValue.set #[v, x] = (do
    let (some (dst, a, fl), some (src, b, _)) := (← ReflectliteValue.parts v, ← ReflectliteValue.parts x)
      | unsupported (.noEntry "extern/(internal/reflectlite.Value).Set.zeroValue")
    if fl / ReflectliteValue.flagAddr % 2 == 0 then unsupported (.noEntry "extern/(internal/reflectlite.Value).Set.unaddressable")
    let val ← loadVar src b
    if ← Rtype.directlyAssignable dst src then storeVar dst a val
    else if ← Rtype.implements dst src then
      if (← Rtype.kind src) == 20 then
        match val with
        | .nilIface => unsupported (.noEntry "extern/reflectlite: a nil value of one interface type handed on as a value of another")
        | _ => storeVar dst a val
      else storeVar dst a (.iface src val)
    else panicString ("reflectlite.Set: value of type " ++ (← Rtype.spelt src) ++ " is not assignable to type " ++ (← Rtype.spelt dst))
    pure (.tuple #[])) := rfl
theorem partsFPa (a : Addr) (w : World) : (ReflectliteValue.parts (.agg #[.pointer (some ⟨1, 80, none⟩), .pointer (some a), .int .u64 406])).run Tryd.prog w = .ok (some (80, a, 406)) w := by kernel_rfl
theorem partsFP (a : Addr) (w : World) : (ReflectliteValue.parts (.agg #[.pointer (some ⟨1, 80, none⟩), .pointer (some a), .int .u64 150])).run Tryd.prog w = .ok (some (80, a, 150)) w := by kernel_rfl
theorem partsCa (a : Addr) (w : World) : (ReflectliteValue.parts (.agg #[.pointer (some ⟨1, 36, none⟩), .pointer (some a), .int .u64 386])).run Tryd.prog w = .ok (some (36, a, 386)) w := by kernel_rfl
theorem partsC (a : Addr) (w : World) : (ReflectliteValue.parts (.agg #[.pointer (some ⟨1, 36, none⟩), .pointer (some a), .int .u64 130])).run Tryd.prog w = .ok (some (36, a, 130)) w := by kernel_rfl
theorem directFP (w : World) : (Rtype.directlyAssignable 80 80).run Tryd.prog w = .ok true w := by kernel_rfl
theorem directC (w : World) : (Rtype.directlyAssignable 36 36).run Tryd.prog w = .ok true w := by kernel_rfl
theorem setFP (ta b e : Addr) (old : Value) (W : World) (hb : W.cell? b = some (.pointer (some e))) (ht : W.cell? ta = some old) (hf : W.frozen? ta = false) :
    (ReflectliteValue.set #[.agg #[.pointer (some ⟨1, 80, none⟩), .pointer (some ta), .int .u64 406], .agg #[.pointer (some ⟨1, 80, none⟩), .pointer (some b), .int .u64 150]]).run Tryd.prog W
      = .ok (.tuple #[]) (W.setCell ta (.pointer (some e))) := by
  rw [rls]
  simp only [Sem.run_bind, partsFPa, partsFP, Result.andThen]
  simp [ReflectliteValue.flagAddr, loadVar, isAgg, underlying, Tryd.underlying80, hb, Result.andThen, directFP, storeVar, Value.cells, storeCells, Addr.add]
  rw [run_store Tryd.prog W ta _ _ (by rfl)]
  simp [ht, hf]
theorem setC (ta b : Addr) (c : Int) (old : Value) (W : World) (hb : W.cell? b = some (.int .i64 c)) (ht : W.cell? ta = some old) (hf : W.frozen? ta = false) :
    (ReflectliteValue.set #[.agg #[.pointer (some ⟨1, 36, none⟩), .pointer (some ta), .int .u64 386], .agg #[.pointer (some ⟨1, 36, none⟩), .pointer (some b), .int .u64 130]]).run Tryd.prog W
      = .ok (.tuple #[]) (W.setCell ta (.int .i64 c)) := by
  rw [rls]
  simp only [Sem.run_bind, partsCa, partsC, Result.andThen]
  simp [ReflectliteValue.flagAddr, loadVar, isAgg, underlying, Tryd.underlying36, hb, Result.andThen, directC, storeVar, Value.cells, storeCells, Addr.add]
  rw [run_store Tryd.prog W ta _ _ (by rfl)]
  simp [ht, hf]

end Go.Proofs.YtbdabjnmocnfpaaDoor
