/- errors.As at the target *Errno: what it answers for nil, for an Errno and for a *Fault that lies in memory. Condition: errors.errorType is laid. -/
import Derived.Test.YtkbamneecfmibaaGreatDoorErrs
namespace Go.Proofs.YtkbamneecfmibaaGreatDoor
open Go.RowKit Go.Extern.Stop Go.Stop Go.Extern
namespace Errs
theorem as_nil (t : Value) (w : World) :
    Calls Tryz.prog 34 #[.nilIface, t] w fun e w' => e = .returned (.bool false) ∧ w' = w := by
  go_enter Tryz.func34, Tryz.ntmps34
  go_wp2
  go_ret
  exact ⟨rfl, rfl⟩

theorem ext_valueOf (args : Array Value) (w : World) : (callFunc 58 args).run Tryz.prog w = ((((fun args => ReflectliteValue.unpack (args.getD 0 (.tuple #[])))) args).run Tryz.prog w).andThen fun v w' => .ok (.value v) w' :=
  run_callFunc_extern (e := fun args => ReflectliteValue.unpack (args.getD 0 (.tuple #[]))) Tryz.func58 (by kernel_rfl) (by kernel_rfl) (by kernel_rfl) (by kernel_rfl) args w
theorem ext_type (args : Array Value) (w : World) : (callFunc 59 args).run Tryz.prog w = ((((ReflectliteValue.methodAny (ReflectliteValue.valueError "reflectlite.Value.Type" 0) (fun t _ _ _ => ReflectliteType.toType t))) args).run Tryz.prog w).andThen fun v w' => .ok (.value v) w' :=
  run_callFunc_extern Tryz.func59 (by kernel_rfl) (by kernel_rfl) (by kernel_rfl) (by kernel_rfl) args w
theorem ext_isNil (args : Array Value) (w : World) : (callFunc 60 args).run Tryz.prog w = ((((ReflectliteValue.method (ReflectliteValue.valueError "reflectlite.Value.IsNil" 0) ReflectliteValue.isNil)) args).run Tryz.prog w).andThen fun v w' => .ok (.value v) w' :=
  run_callFunc_extern Tryz.func60 (by kernel_rfl) (by kernel_rfl) (by kernel_rfl) (by kernel_rfl) args w
theorem ext_kind (args : Array Value) (w : World) : (callFunc 135 args).run Tryz.prog w = ((((ReflectliteType.abiMethod fun t => do pure (.int .u8 (← Rtype.kind t)))) args).run Tryz.prog w).andThen fun v w' => .ok (.value v) w' :=
  run_callFunc_extern Tryz.func135 (by kernel_rfl) (by kernel_rfl) (by kernel_rfl) (by kernel_rfl) args w
theorem ext_elem (args : Array Value) (w : World) : (callFunc 148 args).run Tryz.prog w = ((((ReflectliteType.method ReflectliteType.elem)) args).run Tryz.prog w).andThen fun v w' => .ok (.value v) w' :=
  run_callFunc_extern Tryz.func148 (by kernel_rfl) (by kernel_rfl) (by kernel_rfl) (by kernel_rfl) args w
theorem ext_implements (args : Array Value) (w : World) : (callFunc 149 args).run Tryz.prog w = ((((ReflectliteType.relation "Implements" ReflectliteType.implements_)) args).run Tryz.prog w).andThen fun v w' => .ok (.value v) w' :=
  run_callFunc_extern Tryz.func149 (by kernel_rfl) (by kernel_rfl) (by kernel_rfl) (by kernel_rfl) args w
theorem ext_typeOf (args : Array Value) (w : World) : (callFunc 79 args).run Tryz.prog w = (((ReflectliteType.typeOf) args).run Tryz.prog w).andThen fun v w' => .ok (.value v) w' :=
  run_callFunc_extern Tryz.func79 (by kernel_rfl) (by kernel_rfl) (by kernel_rfl) (by kernel_rfl) args w
theorem ext_assignable (args : Array Value) (w : World) : (callFunc 146 args).run Tryz.prog w = ((((ReflectliteType.relation "AssignableTo" ReflectliteType.assignableTo)) args).run Tryz.prog w).andThen fun v w' => .ok (.value v) w' :=
  run_callFunc_extern Tryz.func146 (by kernel_rfl) (by kernel_rfl) (by kernel_rfl) (by kernel_rfl) args w
theorem ext_elemV (args : Array Value) (w : World) : (callFunc 80 args).run Tryz.prog w = ((((ReflectliteValue.method (ReflectliteValue.valueError "reflectlite.Value.Elem" 0) ReflectliteValue.elem)) args).run Tryz.prog w).andThen fun v w' => .ok (.value v) w' :=
  run_callFunc_extern Tryz.func80 (by kernel_rfl) (by kernel_rfl) (by kernel_rfl) (by kernel_rfl) args w
theorem ext_set (args : Array Value) (w : World) : (callFunc 81 args).run Tryz.prog w = (((ReflectliteValue.set) args).run Tryz.prog w).andThen fun v w' => .ok (.value v) w' :=
  run_callFunc_extern Tryz.func81 (by kernel_rfl) (by kernel_rfl) (by kernel_rfl) (by kernel_rfl) args w

set_option maxHeartbeats 4000000 in
/-- errors.As(Errno, &e): e is it. -/
theorem as_errno (n : Int) (t : Addr) (old : Value) (w : World) (hg : ErrT w) (ht0 : w.cell? t = some old) (hf0 : w.frozen? t = false) :
    Calls Tryz.prog 34 #[.iface tErrno (.int .i64 n), .iface tErrnoP (.pointer (some t))] w fun ev w' => ev = .returned (.bool true) ∧ ∃ w1, Below w.heap.size w w1 ∧ w' = w1.setCell t (.int .i64 n) := by
  have h6 := ext_valueOf; have h7 := ext_type; have h8 := ext_isNil; have h27 := ext_kind; have h37 := ext_elem; have h38 := ext_implements; have h10 := ext_typeOf; have h35 := ext_assignable; have h11 := ext_elemV; have h12 := ext_set
  have tO := typeOfE
  have mA := methodAssignableTo
  have a25 := assignableE
  have v25 := valueOfE
  have f6 := valueOfP
  have f7 := typeP
  have mK := methodKind
  have mE := methodElem
  have mI := methodImplements
  have k27 := kindP
  have k25 := kindE
  have e27 := elemP
  have i25 := implementsE
  have n8 := isNilP ⟨w.heap.size, 0, none⟩ t ((w.alloc (.cells #[.pointer (some t)] tErrnoP)).alloc (.cells #[.pointer (some ⟨9, tErrnoP, none⟩), .pointer (some ⟨w.heap.size, 0, none⟩), .int .u64 150] tVal)) (by simp)
  have hg0 : w.cell? ⟨0, 0, none⟩ = some (.iface tRt (tdesc tErr)) := hg
  have hlt : 0 < w.heap.size := by
    rcases Nat.eq_zero_or_pos w.heap.size with h0 | h
    · simp [World.cell?, h0] at hg0
    · exact h
  have hg2 : ((w.alloc (.cells #[.pointer (some t)] tErrnoP)).alloc (.cells #[.pointer (some ⟨9, tErrnoP, none⟩), .pointer (some ⟨w.heap.size, 0, none⟩), .int .u64 150] tVal)).cell? ⟨0, 0, none⟩ = some (.iface tRt (tdesc tErr)) := by
    rw [World.cell?_alloc_lt _ _ ⟨0, 0, none⟩ (by simp), World.cell?_alloc_lt _ _ ⟨0, 0, none⟩ hlt]; exact hg0
  have htl : t.block < w.heap.size := by
    rcases Nat.lt_or_ge t.block w.heap.size with h | h
    · exact h
    · simp [World.cell?, Array.getElem?_eq_none h] at ht0
  have el := elemVP ⟨w.heap.size, 0, none⟩ t (((w.alloc (.cells #[.pointer (some t)] tErrnoP)).alloc (.cells #[.pointer (some ⟨9, tErrnoP, none⟩), .pointer (some ⟨w.heap.size, 0, none⟩), .int .u64 150] tVal)).alloc (.cells #[.pointer (some ⟨9, tErrnoP, none⟩), .pointer (some ⟨w.heap.size, 0, none⟩), .int .u64 150] tVal)) (by rw [World.cell?_alloc_lt _ _ ⟨w.heap.size, 0, none⟩ (by simp; omega)]; simp)
  have st := setE t ⟨w.heap.size + 1 + 1 + 1, 0, none⟩ n old ((((w.alloc (.cells #[.pointer (some t)] tErrnoP)).alloc (.cells #[.pointer (some ⟨9, tErrnoP, none⟩), .pointer (some ⟨w.heap.size, 0, none⟩), .int .u64 150] tVal)).alloc (.cells #[.pointer (some ⟨9, tErrnoP, none⟩), .pointer (some ⟨w.heap.size, 0, none⟩), .int .u64 150] tVal)).alloc (.cells #[.int .i64 n] tErrno))
    (by rw [World.cell?_alloc_at _ _ _ _ (by simp)]; rfl)
    (by rw [World.cell?_alloc_lt _ _ t (by simp; omega), World.cell?_alloc_lt _ _ t (by simp; omega), World.cell?_alloc_lt _ _ t (by simp; omega), World.cell?_alloc_lt _ _ t htl]; exact ht0)
    (by rw [World.frozen?_alloc_old _ _ t (by simp; omega), World.frozen?_alloc_old _ _ t (by simp; omega), World.frozen?_alloc_old _ _ t (by simp; omega), World.frozen?_alloc_old _ _ t (Nat.ne_of_lt htl)]; exact hf0)
  clear hg
  go_enter Tryz.func34, Tryz.ntmps34
  go_wp2
  refine wp_loop_rounds 1 ?_
  rw [rounds_succ]
  go_wp2
  go_ret
  exact ⟨rfl, _, ((((Below.refl _ _).alloc (Nat.le_refl _) _).alloc (by simp) _).alloc (by simp; omega) _).alloc (by simp; omega) _, rfl⟩

theorem noAs (v : Value) (xT : TypeId) (w : World) : (Instr.typeAssert (.iface tFaultP v) xT 132 true).run Tryz.prog w = .ok (.tuple #[.nilIface, .bool false]) w :=
  run_typeAssert_lacksB Tryz.underlying132 (by kernel_rfl) (by kernel_rfl) v xT w
theorem hasUnwrap (v : Value) (xT : TypeId) (w : World) : (Instr.typeAssert (.iface tFaultP v) xT 135 true).run Tryz.prog w = .ok (.tuple #[.iface tFaultP v, .bool true]) w :=
  run_typeAssert_hasB Tryz.underlying135 (by kernel_rfl) v xT w
theorem unwrapAhead (a : Addr) (w : World) : (nilAhead 308 tFaultP (.pointer (some a)) "Unwrap").run Tryz.prog w = .ok (some false) w := by kernel_rfl
theorem unwrapMethod (a : Addr) (w : World) : (Go.method 308 tFaultP (.pointer (some a)) "Unwrap").run Tryz.prog w = .ok (140, .pointer (some a)) w := by kernel_rfl

set_option maxHeartbeats 4000000 in
/-- errors.As(&Fault{_, n}, &e): e is n. -/
theorem as_fault (n : Int) (fa t : Addr) (old : Value) (w : World) (hg : ErrT w) (hfa : w.cell? ⟨fa.block, fa.off + 1, none⟩ = some (.int .i64 n)) (ht0 : w.cell? t = some old) (hf0 : w.frozen? t = false) :
    Calls Tryz.prog 34 #[.iface tFaultP (.pointer (some fa)), .iface tErrnoP (.pointer (some t))] w fun ev w' => ev = .returned (.bool true) ∧ ∃ w1, Below w.heap.size w w1 ∧ w' = w1.setCell t (.int .i64 n) := by
  have h6 := ext_valueOf; have h7 := ext_type; have h8 := ext_isNil; have h27 := ext_kind; have h37 := ext_elem; have h38 := ext_implements; have h10 := ext_typeOf; have h35 := ext_assignable; have h11 := ext_elemV; have h12 := ext_set
  have tO := typeOfE
  have tF := typeOfF
  have aF := assignableFE
  have nA := noAs
  have hU := hasUnwrap
  have uA := unwrapAhead
  have uM := unwrapMethod
  have mA := methodAssignableTo
  have a25 := assignableE
  have v25 := valueOfE
  have f6 := valueOfP
  have f7 := typeP
  have mK := methodKind
  have mE := methodElem
  have mI := methodImplements
  have k27 := kindP
  have k25 := kindE
  have e27 := elemP
  have i25 := implementsE
  have n8 := isNilP ⟨w.heap.size, 0, none⟩ t ((w.alloc (.cells #[.pointer (some t)] tErrnoP)).alloc (.cells #[.pointer (some ⟨9, tErrnoP, none⟩), .pointer (some ⟨w.heap.size, 0, none⟩), .int .u64 150] tVal)) (by simp)
  have hg0 : w.cell? ⟨0, 0, none⟩ = some (.iface tRt (tdesc tErr)) := hg
  have hlt : 0 < w.heap.size := by
    rcases Nat.eq_zero_or_pos w.heap.size with h0 | h
    · simp [World.cell?, h0] at hg0
    · exact h
  have hg2 : ((w.alloc (.cells #[.pointer (some t)] tErrnoP)).alloc (.cells #[.pointer (some ⟨9, tErrnoP, none⟩), .pointer (some ⟨w.heap.size, 0, none⟩), .int .u64 150] tVal)).cell? ⟨0, 0, none⟩ = some (.iface tRt (tdesc tErr)) := by
    rw [World.cell?_alloc_lt _ _ ⟨0, 0, none⟩ (by simp), World.cell?_alloc_lt _ _ ⟨0, 0, none⟩ hlt]; exact hg0
  have htl : t.block < w.heap.size := by
    rcases Nat.lt_or_ge t.block w.heap.size with h | h
    · exact h
    · simp [World.cell?, Array.getElem?_eq_none h] at ht0
  have hfl : fa.block < w.heap.size := by
    rcases Nat.lt_or_ge fa.block w.heap.size with h | h
    · exact h
    · simp [World.cell?, Array.getElem?_eq_none h] at hfa
  have hfa2 : (((w.alloc (.cells #[.pointer (some t)] tErrnoP)).alloc (.cells #[.pointer (some ⟨9, tErrnoP, none⟩), .pointer (some ⟨w.heap.size, 0, none⟩), .int .u64 150] tVal)).alloc (.cells #[.pointer (some ⟨9, tErrnoP, none⟩), .pointer (some ⟨w.heap.size, 0, none⟩), .int .u64 150] tVal)).cell? ⟨fa.block, fa.off + 1, none⟩ = some (.int .i64 n) := by
    rw [World.cell?_alloc_lt _ _ ⟨fa.block, fa.off + 1, none⟩ (by simp; omega), World.cell?_alloc_lt _ _ ⟨fa.block, fa.off + 1, none⟩ (by simp; omega), World.cell?_alloc_lt _ _ ⟨fa.block, fa.off + 1, none⟩ hfl]; exact hfa
  have el := elemVP ⟨w.heap.size, 0, none⟩ t (((w.alloc (.cells #[.pointer (some t)] tErrnoP)).alloc (.cells #[.pointer (some ⟨9, tErrnoP, none⟩), .pointer (some ⟨w.heap.size, 0, none⟩), .int .u64 150] tVal)).alloc (.cells #[.pointer (some ⟨9, tErrnoP, none⟩), .pointer (some ⟨w.heap.size, 0, none⟩), .int .u64 150] tVal)) (by rw [World.cell?_alloc_lt _ _ ⟨w.heap.size, 0, none⟩ (by simp; omega)]; simp)
  have st := setE t ⟨w.heap.size + 1 + 1 + 1, 0, none⟩ n old ((((w.alloc (.cells #[.pointer (some t)] tErrnoP)).alloc (.cells #[.pointer (some ⟨9, tErrnoP, none⟩), .pointer (some ⟨w.heap.size, 0, none⟩), .int .u64 150] tVal)).alloc (.cells #[.pointer (some ⟨9, tErrnoP, none⟩), .pointer (some ⟨w.heap.size, 0, none⟩), .int .u64 150] tVal)).alloc (.cells #[.int .i64 n] tErrno))
    (by rw [World.cell?_alloc_at _ _ _ _ (by simp)]; rfl)
    (by rw [World.cell?_alloc_lt _ _ t (by simp; omega), World.cell?_alloc_lt _ _ t (by simp; omega), World.cell?_alloc_lt _ _ t (by simp; omega), World.cell?_alloc_lt _ _ t htl]; exact ht0)
    (by rw [World.frozen?_alloc_old _ _ t (by simp; omega), World.frozen?_alloc_old _ _ t (by simp; omega), World.frozen?_alloc_old _ _ t (by simp; omega), World.frozen?_alloc_old _ _ t (Nat.ne_of_lt htl)]; exact hf0)
  clear hg
  go_enter Tryz.func34, Tryz.ntmps34
  go_wp2
  refine wp_loop_rounds 2 ?_
  rw [rounds_succ]
  go_wp2
  rw [rounds_succ]
  go_wp2
  go_ret
  exact ⟨rfl, _, ((((Below.refl _ _).alloc (Nat.le_refl _) _).alloc (by simp) _).alloc (by simp; omega) _).alloc (by simp; omega) _, rfl⟩
end Errs
end Go.Proofs.YtkbamneecfmibaaGreatDoor
