/- errors.As, errors.Is: closed facts on the model's entries for internal/reflectlite at this program's types; laws on the entries that read or write memory. -/
import Derived.Test.YtkmcjokoinoahaaDoorMBase
import Derived.Test.YtkmcjokoinoahaaDoorProg
import Derived.WalkKit
import Derived.LaidEql
import Derived.Stop.Asserts
import Derived.RowKitTokens
import Derived.KernelRfl
set_option linter.unusedVariables false
set_option linter.unusedSimpArgs false
namespace Go.Proofs.YtkmcjokoinoahaaDoor.FaultA
open Go.RowKit Go.Extern.Stop Go.Stop Go.Extern Go.Proofs.YtkmcjokoinoahaaDoor.Lib
/-- A type's handle. -/
def hd (t : TypeId) : Value := .pointer (some ⟨4, t, none⟩)
theorem rlm (z : Sem Value) (f : TypeId → Addr → Nat → Nat → Sem Value) (v : Value) :
    ReflectliteValue.method z f #[v] = (do match ← ReflectliteValue.parts v with | none => z | some (t, a, fl) => f t a fl (fl % 32)) := rfl
theorem rls (v x : Value) : ReflectliteValue.set #[v, x] = (do
    let (some (dst, a, fl), some (src, b, _)) := (← ReflectliteValue.parts v, ← ReflectliteValue.parts x)
      | unsupported (.noEntry "extern/(internal/reflectlite.Value).Set.zeroValue")
    if fl / ReflectliteValue.flagAddr % 2 == 0 then unsupported (.noEntry "extern/(internal/reflectlite.Value).Set.unaddressable")
    let val ← loadVar src b
    if ← Rtype.directlyAssignable dst src then storeVar dst a val
    else if ← Rtype.implements dst src then
      if (← Rtype.kind src) == 20 then
        match val with
        | .nilIface => unsupported (.noEntry "extern/reflectlite: a nil value of one interface type handed on as a value of another")
        | _ => storeVar dst a val
      else storeVar dst a (.iface src val)
    else panicString ("reflectlite.Set: value of type " ++ (← Rtype.spelt src) ++ " is not assignable to type " ++ (← Rtype.spelt dst))
    pure (.tuple #[])) := rfl

theorem valueOfE (t : Addr) (w : World) : (ReflectliteValue.unpack (.iface 102 (.pointer (some t)))).run Tryd.prog w
    = .ok (.agg #[.pointer (some ⟨4, 102, none⟩), .pointer (some ⟨w.heap.size, 0, none⟩), .int .u64 150]) (w.alloc (.cells #[.pointer (some t)] 102)) := by kernel_rfl
theorem typeE (a : Addr) (w : World) : (ReflectliteValue.methodAny (ReflectliteValue.valueError "reflectlite.Value.Type" 0) (fun t _ _ _ => ReflectliteType.toType t) #[.agg #[.pointer (some ⟨4, 102, none⟩), .pointer (some a), .int .u64 150]]).run Tryd.prog w
    = .ok (.iface 148 (.agg #[.pointer (some ⟨4, 102, none⟩)])) w := by kernel_rfl
theorem kindPE (w : World) : ((ReflectliteType.abiMethod fun t => (fun a : Nat => Value.int IntKind.u8 (a : Int)) <$> Rtype.kind t) #[.pointer (some ⟨4, 102, none⟩)]).run Tryd.prog w = .ok (.int .u8 22) w := by kernel_rfl
theorem kindE (w : World) : ((ReflectliteType.abiMethod fun t => (fun a : Nat => Value.int IntKind.u8 (a : Int)) <$> Rtype.kind t) #[.pointer (some ⟨4, 24, none⟩)]).run Tryd.prog w = .ok (.int .u8 2) w := by kernel_rfl
theorem partsE (a : Addr) (w : World) : (ReflectliteValue.parts (.agg #[.pointer (some ⟨4, 102, none⟩), .pointer (some a), .int .u64 150])).run Tryd.prog w = .ok (some (102, a, 150)) w := by kernel_rfl
theorem isNilE (a p : Addr) (W : World) (ha : W.cell? a = some (.pointer (some p))) :
    (ReflectliteValue.method (ReflectliteValue.valueError "reflectlite.Value.IsNil" 0) ReflectliteValue.isNil #[.agg #[.pointer (some ⟨4, 102, none⟩), .pointer (some a), .int .u64 150]]).run Tryd.prog W = .ok (.bool false) W := by
  rw [rlm]
  simp only [Sem.run_bind, partsE, Result.andThen]
  simp [ReflectliteValue.isNil, loadVar, isAgg, underlying, Tryd.underlying102, ha, Result.andThen]
theorem elemE (w : World) : (ReflectliteType.method ReflectliteType.elem #[.agg #[.pointer (some ⟨4, 102, none⟩)]]).run Tryd.prog w = .ok (.iface 148 (.agg #[.pointer (some ⟨4, 24, none⟩)])) w := by kernel_rfl
theorem implE (w : World) : (ReflectliteType.relation "Implements" ReflectliteType.implements_ #[.agg #[.pointer (some ⟨4, 24, none⟩)], .iface 148 (.agg #[.pointer (some ⟨4, 27, none⟩)])]).run Tryd.prog w = .ok (.bool true) w := by kernel_rfl
theorem elemOfE (w : World) : (Rtype.elem? 102).run Tryd.prog w = .ok (some 24) w := by kernel_rfl
theorem mkE (p : Addr) (w : World) : (ReflectliteValue.mk 24 p ReflectliteValue.flagAddr).run Tryd.prog w = .ok (.agg #[.pointer (some ⟨4, 24, none⟩), .pointer (some p), .int .u64 386]) w := by kernel_rfl
theorem elemVE (a p : Addr) (W : World) (ha : W.cell? a = some (.pointer (some p))) :
    (ReflectliteValue.method (ReflectliteValue.valueError "reflectlite.Value.Elem" 0) ReflectliteValue.elem #[.agg #[.pointer (some ⟨4, 102, none⟩), .pointer (some a), .int .u64 150]]).run Tryd.prog W
      = .ok (.agg #[.pointer (some ⟨4, 24, none⟩), .pointer (some p), .int .u64 386]) W := by
  rw [rlm]
  simp only [Sem.run_bind, partsE, Result.andThen]
  simp [ReflectliteValue.elem, loadVar, isAgg, underlying, Tryd.underlying102, ha, Result.andThen, elemOfE, mkE]
theorem vOfE (c : Int) (w : World) : (ReflectliteValue.unpack (.iface 24 (.int .i64 c))).run Tryd.prog w
    = .ok (.agg #[.pointer (some ⟨4, 24, none⟩), .pointer (some ⟨w.heap.size, 0, none⟩), .int .u64 130]) (w.alloc (.cells #[.int .i64 c] 24)) := by kernel_rfl
theorem partsAE (a : Addr) (w : World) : (ReflectliteValue.parts (.agg #[.pointer (some ⟨4, 24, none⟩), .pointer (some a), .int .u64 386])).run Tryd.prog w = .ok (some (24, a, 386)) w := by kernel_rfl
theorem partsBE (a : Addr) (w : World) : (ReflectliteValue.parts (.agg #[.pointer (some ⟨4, 24, none⟩), .pointer (some a), .int .u64 130])).run Tryd.prog w = .ok (some (24, a, 130)) w := by kernel_rfl
theorem directE (w : World) : (Rtype.directlyAssignable 24 24).run Tryd.prog w = .ok true w := by kernel_rfl
theorem sizeE (w : World) : (sizeOf 24).run Tryd.prog w = .ok 1 w := by kernel_rfl
theorem setE (ta b : Addr) (c : Int) (old : Value) (W : World) (hb : W.cell? b = some (.int .i64 c)) (ht : W.cell? ta = some old) (hf : W.frozen? ta = false) :
    (ReflectliteValue.set #[.agg #[.pointer (some ⟨4, 24, none⟩), .pointer (some ta), .int .u64 386], .agg #[.pointer (some ⟨4, 24, none⟩), .pointer (some b), .int .u64 130]]).run Tryd.prog W
      = .ok (.tuple #[]) (W.setCell ta (.int .i64 c)) := by
  rw [rls]
  simp only [Sem.run_bind, partsAE, partsBE, Result.andThen]
  simp [ReflectliteValue.flagAddr, loadVar, isAgg, underlying, Tryd.underlying24, hb, Result.andThen, directE, storeVar, Value.cells, storeCells, Addr.add]
  rw [run_store Tryd.prog W ta _ _ (by rfl)]
  simp [ht, hf]
theorem valueOfS (t : Addr) (w : World) : (ReflectliteValue.unpack (.iface 41 (.pointer (some t)))).run Tryd.prog w
    = .ok (.agg #[.pointer (some ⟨4, 41, none⟩), .pointer (some ⟨w.heap.size, 0, none⟩), .int .u64 150]) (w.alloc (.cells #[.pointer (some t)] 41)) := by kernel_rfl
theorem typeS (a : Addr) (w : World) : (ReflectliteValue.methodAny (ReflectliteValue.valueError "reflectlite.Value.Type" 0) (fun t _ _ _ => ReflectliteType.toType t) #[.agg #[.pointer (some ⟨4, 41, none⟩), .pointer (some a), .int .u64 150]]).run Tryd.prog w
    = .ok (.iface 148 (.agg #[.pointer (some ⟨4, 41, none⟩)])) w := by kernel_rfl
theorem kindPS (w : World) : ((ReflectliteType.abiMethod fun t => (fun a : Nat => Value.int IntKind.u8 (a : Int)) <$> Rtype.kind t) #[.pointer (some ⟨4, 41, none⟩)]).run Tryd.prog w = .ok (.int .u8 22) w := by kernel_rfl
theorem kindS (w : World) : ((ReflectliteType.abiMethod fun t => (fun a : Nat => Value.int IntKind.u8 (a : Int)) <$> Rtype.kind t) #[.pointer (some ⟨4, 37, none⟩)]).run Tryd.prog w = .ok (.int .u8 22) w := by kernel_rfl
theorem partsS (a : Addr) (w : World) : (ReflectliteValue.parts (.agg #[.pointer (some ⟨4, 41, none⟩), .pointer (some a), .int .u64 150])).run Tryd.prog w = .ok (some (41, a, 150)) w := by kernel_rfl
theorem isNilS (a p : Addr) (W : World) (ha : W.cell? a = some (.pointer (some p))) :
    (ReflectliteValue.method (ReflectliteValue.valueError "reflectlite.Value.IsNil" 0) ReflectliteValue.isNil #[.agg #[.pointer (some ⟨4, 41, none⟩), .pointer (some a), .int .u64 150]]).run Tryd.prog W = .ok (.bool false) W := by
  rw [rlm]
  simp only [Sem.run_bind, partsS, Result.andThen]
  simp [ReflectliteValue.isNil, loadVar, isAgg, underlying, Tryd.underlying41, ha, Result.andThen]
theorem elemS (w : World) : (ReflectliteType.method ReflectliteType.elem #[.agg #[.pointer (some ⟨4, 41, none⟩)]]).run Tryd.prog w = .ok (.iface 148 (.agg #[.pointer (some ⟨4, 37, none⟩)])) w := by kernel_rfl
theorem implS (w : World) : (ReflectliteType.relation "Implements" ReflectliteType.implements_ #[.agg #[.pointer (some ⟨4, 37, none⟩)], .iface 148 (.agg #[.pointer (some ⟨4, 27, none⟩)])]).run Tryd.prog w = .ok (.bool true) w := by kernel_rfl
theorem elemOfS (w : World) : (Rtype.elem? 41).run Tryd.prog w = .ok (some 37) w := by kernel_rfl
theorem mkS (p : Addr) (w : World) : (ReflectliteValue.mk 37 p ReflectliteValue.flagAddr).run Tryd.prog w = .ok (.agg #[.pointer (some ⟨4, 37, none⟩), .pointer (some p), .int .u64 406]) w := by kernel_rfl
theorem elemVS (a p : Addr) (W : World) (ha : W.cell? a = some (.pointer (some p))) :
    (ReflectliteValue.method (ReflectliteValue.valueError "reflectlite.Value.Elem" 0) ReflectliteValue.elem #[.agg #[.pointer (some ⟨4, 41, none⟩), .pointer (some a), .int .u64 150]]).run Tryd.prog W
      = .ok (.agg #[.pointer (some ⟨4, 37, none⟩), .pointer (some p), .int .u64 406]) W := by
  rw [rlm]
  simp only [Sem.run_bind, partsS, Result.andThen]
  simp [ReflectliteValue.elem, loadVar, isAgg, underlying, Tryd.underlying41, ha, Result.andThen, elemOfS, mkS]
theorem vOfS (c : Addr) (w : World) : (ReflectliteValue.unpack (.iface 37 (.pointer (some c)))).run Tryd.prog w
    = .ok (.agg #[.pointer (some ⟨4, 37, none⟩), .pointer (some ⟨w.heap.size, 0, none⟩), .int .u64 150]) (w.alloc (.cells #[.pointer (some c)] 37)) := by kernel_rfl
theorem partsAS (a : Addr) (w : World) : (ReflectliteValue.parts (.agg #[.pointer (some ⟨4, 37, none⟩), .pointer (some a), .int .u64 406])).run Tryd.prog w = .ok (some (37, a, 406)) w := by kernel_rfl
theorem partsBS (a : Addr) (w : World) : (ReflectliteValue.parts (.agg #[.pointer (some ⟨4, 37, none⟩), .pointer (some a), .int .u64 150])).run Tryd.prog w = .ok (some (37, a, 150)) w := by kernel_rfl
theorem directS (w : World) : (Rtype.directlyAssignable 37 37).run Tryd.prog w = .ok true w := by kernel_rfl
theorem sizeS (w : World) : (sizeOf 37).run Tryd.prog w = .ok 1 w := by kernel_rfl
theorem setS (ta b : Addr) (c : Addr) (old : Value) (W : World) (hb : W.cell? b = some (.pointer (some c))) (ht : W.cell? ta = some old) (hf : W.frozen? ta = false) :
    (ReflectliteValue.set #[.agg #[.pointer (some ⟨4, 37, none⟩), .pointer (some ta), .int .u64 406], .agg #[.pointer (some ⟨4, 37, none⟩), .pointer (some b), .int .u64 150]]).run Tryd.prog W
      = .ok (.tuple #[]) (W.setCell ta (.pointer (some c))) := by
  rw [rls]
  simp only [Sem.run_bind, partsAS, partsBS, Result.andThen]
  simp [ReflectliteValue.flagAddr, loadVar, isAgg, underlying, Tryd.underlying37, hb, Result.andThen, directS, storeVar, Value.cells, storeCells, Addr.add]
  rw [run_store Tryd.prog W ta _ _ (by rfl)]
  simp [ht, hf]
theorem typeOfE (v : Value) (w : World) : (ReflectliteType.typeOf #[.iface 24 v]).run Tryd.prog w = .ok (.iface 148 (.agg #[.pointer (some ⟨4, 24, none⟩)])) w := by kernel_rfl
theorem asgEE (w : World) : (ReflectliteType.relation "AssignableTo" ReflectliteType.assignableTo #[.agg #[.pointer (some ⟨4, 24, none⟩)], .iface 148 (.agg #[.pointer (some ⟨4, 24, none⟩)])]).run Tryd.prog w = .ok (.bool true) w := by kernel_rfl
theorem asgES (w : World) : (ReflectliteType.relation "AssignableTo" ReflectliteType.assignableTo #[.agg #[.pointer (some ⟨4, 24, none⟩)], .iface 148 (.agg #[.pointer (some ⟨4, 37, none⟩)])]).run Tryd.prog w = .ok (.bool false) w := by kernel_rfl
theorem noAsE (v : Value) (w : World) : (Instr.typeAssert (.iface 24 v) 27 152 true).run Tryd.prog w = .ok (.tuple #[.nilIface, .bool false]) w := run_typeAssert_lacksB Tryd.underlying152 (by kernel_rfl) (by kernel_rfl) v _ w
theorem noIsE (v : Value) (w : World) : (Instr.typeAssert (.iface 24 v) 27 158 true).run Tryd.prog w = .ok (.tuple #[.nilIface, .bool false]) w := run_typeAssert_lacksB Tryd.underlying158 (by kernel_rfl) (by kernel_rfl) v _ w
theorem unwE (v : Value) (w : World) : (Instr.typeAssert (.iface 24 v) 27 116 true).run Tryd.prog w = .ok (.tuple #[.nilIface, .bool false]) w := run_typeAssert_lacksB Tryd.underlying116 (by kernel_rfl) (by kernel_rfl) v _ w
theorem unlE (v : Value) (w : World) : (Instr.typeAssert (.iface 24 v) 27 155 true).run Tryd.prog w = .ok (.tuple #[.nilIface, .bool false]) w := run_typeAssert_lacksB Tryd.underlying155 (by kernel_rfl) (by kernel_rfl) v _ w
theorem typeOfS (v : Value) (w : World) : (ReflectliteType.typeOf #[.iface 37 v]).run Tryd.prog w = .ok (.iface 148 (.agg #[.pointer (some ⟨4, 37, none⟩)])) w := by kernel_rfl
theorem asgSE (w : World) : (ReflectliteType.relation "AssignableTo" ReflectliteType.assignableTo #[.agg #[.pointer (some ⟨4, 37, none⟩)], .iface 148 (.agg #[.pointer (some ⟨4, 24, none⟩)])]).run Tryd.prog w = .ok (.bool false) w := by kernel_rfl
theorem asgSS (w : World) : (ReflectliteType.relation "AssignableTo" ReflectliteType.assignableTo #[.agg #[.pointer (some ⟨4, 37, none⟩)], .iface 148 (.agg #[.pointer (some ⟨4, 37, none⟩)])]).run Tryd.prog w = .ok (.bool true) w := by kernel_rfl
theorem noAsS (v : Value) (w : World) : (Instr.typeAssert (.iface 37 v) 27 152 true).run Tryd.prog w = .ok (.tuple #[.nilIface, .bool false]) w := run_typeAssert_lacksB Tryd.underlying152 (by kernel_rfl) (by kernel_rfl) v _ w
theorem noIsS (v : Value) (w : World) : (Instr.typeAssert (.iface 37 v) 27 158 true).run Tryd.prog w = .ok (.tuple #[.nilIface, .bool false]) w := run_typeAssert_lacksB Tryd.underlying158 (by kernel_rfl) (by kernel_rfl) v _ w
theorem unwS (v : Value) (w : World) : (Instr.typeAssert (.iface 37 v) 27 116 true).run Tryd.prog w = .ok (.tuple #[.iface 37 v, .bool true]) w := run_typeAssert_hasB Tryd.underlying116 (by kernel_rfl) v _ w
theorem typeOfO (v : Value) (w : World) : (ReflectliteType.typeOf #[.iface 40 v]).run Tryd.prog w = .ok (.iface 148 (.agg #[.pointer (some ⟨4, 40, none⟩)])) w := by kernel_rfl
theorem asgOE (w : World) : (ReflectliteType.relation "AssignableTo" ReflectliteType.assignableTo #[.agg #[.pointer (some ⟨4, 40, none⟩)], .iface 148 (.agg #[.pointer (some ⟨4, 24, none⟩)])]).run Tryd.prog w = .ok (.bool false) w := by kernel_rfl
theorem asgOS (w : World) : (ReflectliteType.relation "AssignableTo" ReflectliteType.assignableTo #[.agg #[.pointer (some ⟨4, 40, none⟩)], .iface 148 (.agg #[.pointer (some ⟨4, 37, none⟩)])]).run Tryd.prog w = .ok (.bool false) w := by kernel_rfl
theorem noAsO (v : Value) (w : World) : (Instr.typeAssert (.iface 40 v) 27 152 true).run Tryd.prog w = .ok (.tuple #[.nilIface, .bool false]) w := run_typeAssert_lacksB Tryd.underlying152 (by kernel_rfl) (by kernel_rfl) v _ w
theorem noIsO (v : Value) (w : World) : (Instr.typeAssert (.iface 40 v) 27 158 true).run Tryd.prog w = .ok (.tuple #[.nilIface, .bool false]) w := run_typeAssert_lacksB Tryd.underlying158 (by kernel_rfl) (by kernel_rfl) v _ w
theorem unwO (v : Value) (w : World) : (Instr.typeAssert (.iface 40 v) 27 116 true).run Tryd.prog w = .ok (.tuple #[.iface 40 v, .bool true]) w := run_typeAssert_hasB Tryd.underlying116 (by kernel_rfl) v _ w
theorem typeOfP (v : Value) (w : World) : (ReflectliteType.typeOf #[.iface 144 v]).run Tryd.prog w = .ok (.iface 148 (.agg #[.pointer (some ⟨4, 144, none⟩)])) w := by kernel_rfl
theorem asgPE (w : World) : (ReflectliteType.relation "AssignableTo" ReflectliteType.assignableTo #[.agg #[.pointer (some ⟨4, 144, none⟩)], .iface 148 (.agg #[.pointer (some ⟨4, 24, none⟩)])]).run Tryd.prog w = .ok (.bool false) w := by kernel_rfl
theorem asgPS (w : World) : (ReflectliteType.relation "AssignableTo" ReflectliteType.assignableTo #[.agg #[.pointer (some ⟨4, 144, none⟩)], .iface 148 (.agg #[.pointer (some ⟨4, 37, none⟩)])]).run Tryd.prog w = .ok (.bool false) w := by kernel_rfl
theorem noAsP (v : Value) (w : World) : (Instr.typeAssert (.iface 144 v) 27 152 true).run Tryd.prog w = .ok (.tuple #[.nilIface, .bool false]) w := run_typeAssert_lacksB Tryd.underlying152 (by kernel_rfl) (by kernel_rfl) v _ w
theorem noIsP (v : Value) (w : World) : (Instr.typeAssert (.iface 144 v) 27 158 true).run Tryd.prog w = .ok (.tuple #[.nilIface, .bool false]) w := run_typeAssert_lacksB Tryd.underlying158 (by kernel_rfl) (by kernel_rfl) v _ w
theorem unwP (v : Value) (w : World) : (Instr.typeAssert (.iface 144 v) 27 116 true).run Tryd.prog w = .ok (.tuple #[.nilIface, .bool false]) w := run_typeAssert_lacksB Tryd.underlying116 (by kernel_rfl) (by kernel_rfl) v _ w
theorem unlP (v : Value) (w : World) : (Instr.typeAssert (.iface 144 v) 27 155 true).run Tryd.prog w = .ok (.tuple #[.nilIface, .bool false]) w := run_typeAssert_lacksB Tryd.underlying155 (by kernel_rfl) (by kernel_rfl) v _ w
end Go.Proofs.YtkmcjokoinoahaaDoor.FaultA
