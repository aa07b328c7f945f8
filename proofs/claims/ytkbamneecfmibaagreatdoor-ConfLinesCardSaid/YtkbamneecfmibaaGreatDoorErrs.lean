/- errors.As at the targets *Errno and (where the program has it) **Fault, and code.Number, code.Place over them: contracts. Conditions: the error is nil, an Errno, or a *Fault that lies in memory; errors.errorType is laid as the program's text lays it. -/
import Derived.Test.YtkbamneecfmibaaGreatDoorRows
import Derived.WalkKit
import Derived.WalkSpells
import Derived.WalkLawsBesides
import Derived.LaidEql
import Derived.Stop.Asserts
import Derived.RowKitTokens
namespace Go.Proofs.YtkbamneecfmibaaGreatDoor
open Go.RowKit Go.Extern.Stop Go.Stop Go.Extern

abbrev tErrno : Nat := 33
abbrev tErrnoP : Nat := 81
abbrev tFaultP : Nat := 62
abbrev tRt : Nat := 127
abbrev tErr : Nat := 27
abbrev tdesc (t : Nat) : Value := .agg #[.pointer (some ⟨9, t, none⟩)]
abbrev tVal : Nat := 109

/-- What the whole proof asks of the package-level variables: errors.errorType. -/
def ErrT (w : World) : Prop := w.cell? ⟨0, 0, none⟩ = some (.iface tRt (tdesc tErr))

namespace Errs
theorem valueOfP (t : Addr) (w : World) : (ReflectliteValue.unpack (.iface tErrnoP (.pointer (some t)))).run Tryz.prog w
    = .ok (.agg #[.pointer (some ⟨9, tErrnoP, none⟩), .pointer (some ⟨w.heap.size, 0, none⟩), .int .u64 150]) (w.alloc (.cells #[.pointer (some t)] tErrnoP)) := by kernel_rfl
theorem typeP (a : Addr) (w : World) : (ReflectliteValue.methodAny (ReflectliteValue.valueError "reflectlite.Value.Type" 0) (fun t _ _ _ => ReflectliteType.toType t) #[.agg #[.pointer (some ⟨9, tErrnoP, none⟩), .pointer (some a), .int .u64 150]]).run Tryz.prog w
    = .ok (.iface tRt (tdesc tErrnoP)) w := by kernel_rfl
theorem methodKind (h : Value) (w : World) : (Go.method 308 tRt (.agg #[h]) "Kind").run Tryz.prog w = .ok (135, h) w := by kernel_rfl
theorem kindP (w : World) : ((ReflectliteType.abiMethod fun t => (fun a : Nat => Value.int IntKind.u8 (a : Int)) <$> Rtype.kind t) #[.pointer (some ⟨9, tErrnoP, none⟩)]).run Tryz.prog w = .ok (.int .u8 22) w := by kernel_rfl
theorem kindE (w : World) : ((ReflectliteType.abiMethod fun t => (fun a : Nat => Value.int IntKind.u8 (a : Int)) <$> Rtype.kind t) #[.pointer (some ⟨9, tErrno, none⟩)]).run Tryz.prog w = .ok (.int .u8 2) w := by kernel_rfl
theorem rlm (z : Sem Value) (f : TypeId → Addr → Nat → Nat → Sem Value) (v : Value) :
    ReflectliteValue.method z f #[v] = (do match ← ReflectliteValue.parts v with | none => z | some (t, a, fl) => f t a fl (fl % 32)) := rfl
theorem partsP (a : Addr) (w : World) : (ReflectliteValue.parts (.agg #[.pointer (some ⟨9, tErrnoP, none⟩), .pointer (some a), .int .u64 150])).run Tryz.prog w = .ok (some (tErrnoP, a, 150)) w := by kernel_rfl
theorem isNilP (a p : Addr) (W : World) (ha : W.cell? a = some (.pointer (some p))) :
    (ReflectliteValue.method (ReflectliteValue.valueError "reflectlite.Value.IsNil" 0) ReflectliteValue.isNil #[.agg #[.pointer (some ⟨9, tErrnoP, none⟩), .pointer (some a), .int .u64 150]]).run Tryz.prog W = .ok (.bool false) W := by
  rw [rlm]
  simp only [Sem.run_bind, partsP, Result.andThen]
  simp [ReflectliteValue.isNil, loadVar, isAgg, underlying, Tryz.underlying81, ha, Result.andThen]
theorem methodElem (h : Value) (w : World) : (Go.method 308 tRt (.agg #[h]) "Elem").run Tryz.prog w = .ok (148, .agg #[h]) w := by kernel_rfl
theorem methodImplements (h : Value) (w : World) : (Go.method 308 tRt (.agg #[h]) "Implements").run Tryz.prog w = .ok (149, .agg #[h]) w := by kernel_rfl
theorem methodAssignableTo (h : Value) (w : World) : (Go.method 308 tRt (.agg #[h]) "AssignableTo").run Tryz.prog w = .ok (146, .agg #[h]) w := by kernel_rfl
theorem elemP (w : World) : (ReflectliteType.method ReflectliteType.elem #[tdesc tErrnoP]).run Tryz.prog w = .ok (.iface tRt (tdesc tErrno)) w := by kernel_rfl
theorem implementsE (w : World) : (ReflectliteType.relation "Implements" ReflectliteType.implements_ #[tdesc tErrno, .iface tRt (tdesc tErr)]).run Tryz.prog w = .ok (.bool true) w := by kernel_rfl
theorem typeOfE (v : Value) (w : World) : (ReflectliteType.typeOf #[.iface tErrno v]).run Tryz.prog w = .ok (.iface tRt (tdesc tErrno)) w := by kernel_rfl
theorem typeOfF (v : Value) (w : World) : (ReflectliteType.typeOf #[.iface tFaultP v]).run Tryz.prog w = .ok (.iface tRt (tdesc tFaultP)) w := by kernel_rfl
theorem assignableE (w : World) : (ReflectliteType.relation "AssignableTo" ReflectliteType.assignableTo #[tdesc tErrno, .iface tRt (tdesc tErrno)]).run Tryz.prog w = .ok (.bool true) w := by kernel_rfl
theorem assignableFE (w : World) : (ReflectliteType.relation "AssignableTo" ReflectliteType.assignableTo #[tdesc tFaultP, .iface tRt (tdesc tErrno)]).run Tryz.prog w = .ok (.bool false) w := by kernel_rfl
theorem valueOfE (n : Int) (w : World) : (ReflectliteValue.unpack (.iface tErrno (.int .i64 n))).run Tryz.prog w
    = .ok (.agg #[.pointer (some ⟨9, tErrno, none⟩), .pointer (some ⟨w.heap.size, 0, none⟩), .int .u64 130]) (w.alloc (.cells #[.int .i64 n] tErrno)) := by kernel_rfl
theorem elemOfP (w : World) : (Rtype.elem? tErrnoP).run Tryz.prog w = .ok (some tErrno) w := by kernel_rfl
theorem mkE (p : Addr) (w : World) : (ReflectliteValue.mk tErrno p ReflectliteValue.flagAddr).run Tryz.prog w = .ok (.agg #[.pointer (some ⟨9, tErrno, none⟩), .pointer (some p), .int .u64 386]) w := by kernel_rfl
theorem elemVP (a p : Addr) (W : World) (ha : W.cell? a = some (.pointer (some p))) :
    (ReflectliteValue.method (ReflectliteValue.valueError "reflectlite.Value.Elem" 0) ReflectliteValue.elem #[.agg #[.pointer (some ⟨9, tErrnoP, none⟩), .pointer (some a), .int .u64 150]]).run Tryz.prog W
      = .ok (.agg #[.pointer (some ⟨9, tErrno, none⟩), .pointer (some p), .int .u64 386]) W := by
  rw [rlm]
  simp only [Sem.run_bind, partsP, Result.andThen]
  simp [ReflectliteValue.elem, loadVar, isAgg, underlying, Tryz.underlying81, ha, Result.andThen, elemOfP, mkE]
theorem rls (v x : Value) : ReflectliteValue.set #[v, x] = (do
    let (some (dst, a, fl), some (src, b, _)) := (← ReflectliteValue.parts v, ← ReflectliteValue.parts x)
      | unsupported (.noEntry "extern/(internal/reflectlite.Value).Set.zeroValue")
    if fl / ReflectliteValue.flagAddr % 2 == 0 then unsupported (.noEntry "extern/(internal/reflectlite.Value).Set.unaddressable")
    let val ← loadVar src b
    if ← Rtype.directlyAssignable dst src then storeVar dst a val
    else if ← Rtype.implements dst src then
      if (← Rtype.kind src) == 20 then
        match val with
        | .nilIface => unsupported (.noEntry "extern/reflectlite: a nil value of one interface type handed on as a value of another")
        | _ => storeVar dst a val
      else storeVar dst a (.iface src val)
    else panicString ("reflectlite.Set: value of type " ++ (← Rtype.spelt src) ++ " is not assignable to type " ++ (← Rtype.spelt dst))
    pure (.tuple #[])) := rfl
theorem partsEa (a : Addr) (w : World) : (ReflectliteValue.parts (.agg #[.pointer (some ⟨9, tErrno, none⟩), .pointer (some a), .int .u64 386])).run Tryz.prog w = .ok (some (tErrno, a, 386)) w := by kernel_rfl
theorem partsE (a : Addr) (w : World) : (ReflectliteValue.parts (.agg #[.pointer (some ⟨9, tErrno, none⟩), .pointer (some a), .int .u64 130])).run Tryz.prog w = .ok (some (tErrno, a, 130)) w := by kernel_rfl
theorem directE (w : World) : (Rtype.directlyAssignable tErrno tErrno).run Tryz.prog w = .ok true w := by kernel_rfl
theorem setE (ta b : Addr) (n : Int) (old : Value) (W : World) (hb : W.cell? b = some (.int .i64 n)) (ht : W.cell? ta = some old) (hf : W.frozen? ta = false) :
    (ReflectliteValue.set #[.agg #[.pointer (some ⟨9, tErrno, none⟩), .pointer (some ta), .int .u64 386], .agg #[.pointer (some ⟨9, tErrno, none⟩), .pointer (some b), .int .u64 130]]).run Tryz.prog W
      = .ok (.tuple #[]) (W.setCell ta (.int .i64 n)) := by
  rw [rls]
  simp only [Sem.run_bind, partsEa, partsE, Result.andThen]
  simp [ReflectliteValue.flagAddr, loadVar, isAgg, underlying, Tryz.underlying33, hb, Result.andThen, directE, storeVar, Value.cells, storeCells, Addr.add]
  rw [run_store Tryz.prog W ta _ _ (by rfl)]
  simp [ht, hf]
end Errs
end Go.Proofs.YtkbamneecfmibaaGreatDoor
