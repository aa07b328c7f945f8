/- errors.As at the target **Fault, and code.Place of a *Fault in memory. Condition: errors.errorType is laid. -/
import Derived.Test.YtkbamneecfmibaaGreatDoorNumb
namespace Go.Proofs.YtkbamneecfmibaaGreatDoor
open Go.RowKit Go.Extern.Stop Go.Stop Go.Extern
abbrev tFaultPP : Nat := 82
namespace Plc
open Errs (rlm rls)
theorem valueOfP (t : Addr) (w : World) : (ReflectliteValue.unpack (.iface tFaultPP (.pointer (some t)))).run Tryz.prog w
    = .ok (.agg #[.pointer (some ⟨9, tFaultPP, none⟩), .pointer (some ⟨w.heap.size, 0, none⟩), .int .u64 150]) (w.alloc (.cells #[.pointer (some t)] tFaultPP)) := by kernel_rfl
theorem typeP (a : Addr) (w : World) : (ReflectliteValue.methodAny (ReflectliteValue.valueError "reflectlite.Value.Type" 0) (fun t _ _ _ => ReflectliteType.toType t) #[.agg #[.pointer (some ⟨9, tFaultPP, none⟩), .pointer (some a), .int .u64 150]]).run Tryz.prog w
    = .ok (.iface tRt (tdesc tFaultPP)) w := by kernel_rfl
theorem kindP (w : World) : ((ReflectliteType.abiMethod fun t => (fun a : Nat => Value.int IntKind.u8 (a : Int)) <$> Rtype.kind t) #[.pointer (some ⟨9, tFaultPP, none⟩)]).run Tryz.prog w = .ok (.int .u8 22) w := by kernel_rfl
theorem kindE (w : World) : ((ReflectliteType.abiMethod fun t => (fun a : Nat => Value.int IntKind.u8 (a : Int)) <$> Rtype.kind t) #[.pointer (some ⟨9, tFaultP, none⟩)]).run Tryz.prog w = .ok (.int .u8 22) w := by kernel_rfl
theorem partsP (a : Addr) (w : World) : (ReflectliteValue.parts (.agg #[.pointer (some ⟨9, tFaultPP, none⟩), .pointer (some a), .int .u64 150])).run Tryz.prog w = .ok (some (tFaultPP, a, 150)) w := by kernel_rfl
theorem isNilP (a p : Addr) (W : World) (ha : W.cell? a = some (.pointer (some p))) :
    (ReflectliteValue.method (ReflectliteValue.valueError "reflectlite.Value.IsNil" 0) ReflectliteValue.isNil #[.agg #[.pointer (some ⟨9, tFaultPP, none⟩), .pointer (some a), .int .u64 150]]).run Tryz.prog W = .ok (.bool false) W := by
  rw [rlm]
  simp only [Sem.run_bind, partsP, Result.andThen]
  simp [ReflectliteValue.isNil, loadVar, isAgg, underlying, Tryz.underlying82, ha, Result.andThen]
theorem elemP (w : World) : (ReflectliteType.method ReflectliteType.elem #[tdesc tFaultPP]).run Tryz.prog w = .ok (.iface tRt (tdesc tFaultP)) w := by kernel_rfl
theorem implementsE (w : World) : (ReflectliteType.relation "Implements" ReflectliteType.implements_ #[tdesc tFaultP, .iface tRt (tdesc tErr)]).run Tryz.prog w = .ok (.bool true) w := by kernel_rfl
theorem typeOfE (v : Value) (w : World) : (ReflectliteType.typeOf #[.iface tFaultP v]).run Tryz.prog w = .ok (.iface tRt (tdesc tFaultP)) w := by kernel_rfl
theorem assignableE (w : World) : (ReflectliteType.relation "AssignableTo" ReflectliteType.assignableTo #[tdesc tFaultP, .iface tRt (tdesc tFaultP)]).run Tryz.prog w = .ok (.bool true) w := by kernel_rfl
theorem valueOfE (n : Addr) (w : World) : (ReflectliteValue.unpack (.iface tFaultP (.pointer (some n)))).run Tryz.prog w
    = .ok (.agg #[.pointer (some ⟨9, tFaultP, none⟩), .pointer (some ⟨w.heap.size, 0, none⟩), .int .u64 150]) (w.alloc (.cells #[.pointer (some n)] tFaultP)) := by kernel_rfl
theorem elemOfP (w : World) : (Rtype.elem? tFaultPP).run Tryz.prog w = .ok (some tFaultP) w := by kernel_rfl
theorem mkE (p : Addr) (w : World) : (ReflectliteValue.mk tFaultP p ReflectliteValue.flagAddr).run Tryz.prog w = .ok (.agg #[.pointer (some ⟨9, tFaultP, none⟩), .pointer (some p), .int .u64 406]) w := by kernel_rfl
theorem elemVP (a p : Addr) (W : World) (ha : W.cell? a = some (.pointer (some p))) :
    (ReflectliteValue.method (ReflectliteValue.valueError "reflectlite.Value.Elem" 0) ReflectliteValue.elem #[.agg #[.pointer (some ⟨9, tFaultPP, none⟩), .pointer (some a), .int .u64 150]]).run Tryz.prog W
      = .ok (.agg #[.pointer (some ⟨9, tFaultP, none⟩), .pointer (some p), .int .u64 406]) W := by
  rw [rlm]
  simp only [Sem.run_bind, partsP, Result.andThen]
  simp [ReflectliteValue.elem, loadVar, isAgg, underlying, Tryz.underlying82, ha, Result.andThen, elemOfP, mkE]
theorem partsEa (a : Addr) (w : World) : (ReflectliteValue.parts (.agg #[.pointer (some ⟨9, tFaultP, none⟩), .pointer (some a), .int .u64 406])).run Tryz.prog w = .ok (some (tFaultP, a, 406)) w := by kernel_rfl
theorem partsE (a : Addr) (w : World) : (ReflectliteValue.parts (.agg #[.pointer (some ⟨9, tFaultP, none⟩), .pointer (some a), .int .u64 150])).run Tryz.prog w = .ok (some (tFaultP, a, 150)) w := by kernel_rfl
theorem directE (w : World) : (Rtype.directlyAssignable tFaultP tFaultP).run Tryz.prog w = .ok true w := by kernel_rfl
theorem setE (ta b : Addr) (n : Addr) (old : Value) (W : World) (hb : W.cell? b = some (.pointer (some n))) (ht : W.cell? ta = some old) (hf : W.frozen? ta = false) :
    (ReflectliteValue.set #[.agg #[.pointer (some ⟨9, tFaultP, none⟩), .pointer (some ta), .int .u64 406], .agg #[.pointer (some ⟨9, tFaultP, none⟩), .pointer (some b), .int .u64 150]]).run Tryz.prog W
      = .ok (.tuple #[]) (W.setCell ta (.pointer (some n))) := by
  rw [rls]
  simp only [Sem.run_bind, partsEa, partsE, Result.andThen]
  simp [ReflectliteValue.flagAddr, loadVar, isAgg, underlying, Tryz.underlying62, hb, Result.andThen, directE, storeVar, Value.cells, storeCells, Addr.add]
  rw [run_store Tryz.prog W ta _ _ (by rfl)]
  simp [ht, hf]
set_option maxHeartbeats 4000000 in
/-- errors.As(&Fault{..}, &f): f is it. -/
theorem as_fault (n : Addr) (t : Addr) (old : Value) (w : World) (hg : ErrT w) (ht0 : w.cell? t = some old) (hf0 : w.frozen? t = false) :
    Calls Tryz.prog 34 #[.iface tFaultP (.pointer (some n)), .iface tFaultPP (.pointer (some t))] w fun ev w' => ev = .returned (.bool true) ∧ ∃ w1, Below w.heap.size w w1 ∧ w' = w1.setCell t (.pointer (some n)) := by
  have h6 := Errs.ext_valueOf; have h7 := Errs.ext_type; have h8 := Errs.ext_isNil; have h27 := Errs.ext_kind; have h37 := Errs.ext_elem; have h38 := Errs.ext_implements; have h10 := Errs.ext_typeOf; have h35 := Errs.ext_assignable; have h11 := Errs.ext_elemV; have h12 := Errs.ext_set
  have tO := typeOfE
  have mA := Errs.methodAssignableTo
  have a25 := assignableE
  have v25 := valueOfE
  have f6 := valueOfP
  have f7 := typeP
  have mK := Errs.methodKind
  have mE := Errs.methodElem
  have mI := Errs.methodImplements
  have k27 := kindP
  have k25 := kindE
  have e27 := elemP
  have i25 := implementsE
  have n8 := isNilP ⟨w.heap.size, 0, none⟩ t ((w.alloc (.cells #[.pointer (some t)] tFaultPP)).alloc (.cells #[.pointer (some ⟨9, tFaultPP, none⟩), .pointer (some ⟨w.heap.size, 0, none⟩), .int .u64 150] tVal)) (by simp)
  have hg0 : w.cell? ⟨0, 0, none⟩ = some (.iface tRt (tdesc tErr)) := hg
  have hlt : 0 < w.heap.size := by
    rcases Nat.eq_zero_or_pos w.heap.size with h0 | h
    · simp [World.cell?, h0] at hg0
    · exact h
  have hg2 : ((w.alloc (.cells #[.pointer (some t)] tFaultPP)).alloc (.cells #[.pointer (some ⟨9, tFaultPP, none⟩), .pointer (some ⟨w.heap.size, 0, none⟩), .int .u64 150] tVal)).cell? ⟨0, 0, none⟩ = some (.iface tRt (tdesc tErr)) := by
    rw [World.cell?_alloc_lt _ _ ⟨0, 0, none⟩ (by simp), World.cell?_alloc_lt _ _ ⟨0, 0, none⟩ hlt]; exact hg0
  have htl : t.block < w.heap.size := by
    rcases Nat.lt_or_ge t.block w.heap.size with h | h
    · exact h
    · simp [World.cell?, Array.getElem?_eq_none h] at ht0
  have el := elemVP ⟨w.heap.size, 0, none⟩ t (((w.alloc (.cells #[.pointer (some t)] tFaultPP)).alloc (.cells #[.pointer (some ⟨9, tFaultPP, none⟩), .pointer (some ⟨w.heap.size, 0, none⟩), .int .u64 150] tVal)).alloc (.cells #[.pointer (some ⟨9, tFaultPP, none⟩), .pointer (some ⟨w.heap.size, 0, none⟩), .int .u64 150] tVal)) (by rw [World.cell?_alloc_lt _ _ ⟨w.heap.size, 0, none⟩ (by simp; omega)]; simp)
  have st := setE t ⟨w.heap.size + 1 + 1 + 1, 0, none⟩ n old ((((w.alloc (.cells #[.pointer (some t)] tFaultPP)).alloc (.cells #[.pointer (some ⟨9, tFaultPP, none⟩), .pointer (some ⟨w.heap.size, 0, none⟩), .int .u64 150] tVal)).alloc (.cells #[.pointer (some ⟨9, tFaultPP, none⟩), .pointer (some ⟨w.heap.size, 0, none⟩), .int .u64 150] tVal)).alloc (.cells #[.pointer (some n)] tFaultP))
    (by rw [World.cell?_alloc_at _ _ _ _ (by simp)]; rfl)
    (by rw [World.cell?_alloc_lt _ _ t (by simp; omega), World.cell?_alloc_lt _ _ t (by simp; omega), World.cell?_alloc_lt _ _ t (by simp; omega), World.cell?_alloc_lt _ _ t htl]; exact ht0)
    (by rw [World.frozen?_alloc_old _ _ t (by simp; omega), World.frozen?_alloc_old _ _ t (by simp; omega), World.frozen?_alloc_old _ _ t (by simp; omega), World.frozen?_alloc_old _ _ t (Nat.ne_of_lt htl)]; exact hf0)
  clear hg
  go_enter Tryz.func34, Tryz.ntmps34
  go_wp2
  refine wp_loop_rounds 1 ?_
  rw [rounds_succ]
  go_wp2
  go_ret
  exact ⟨rfl, _, ((((Below.refl _ _).alloc (Nat.le_refl _) _).alloc (by simp) _).alloc (by simp; omega) _).alloc (by simp; omega) _, rfl⟩

end Plc
set_option maxHeartbeats 1000000 in
theorem place_fault (n : Int) (fb : Nat) (w : World) (hg : ErrT w) (hf : w.cell? ⟨fb, 0, none⟩ = some (.int .i64 n)) :
    Calls Tryz.prog 13 #[.iface tFaultP (.pointer (some ⟨fb, 0, none⟩))] w fun e w' => e = .returned (.int .i64 n) ∧ Below w.heap.size w w' := by
  have H : Hid (ErrT w) := Lib.hid hg
  have HF := Lib.hid hf
  have hfl := cell_lt hf
  clear hg hf
  go_enter Tryz.func13, Tryz.ntmps13
  go_wp2_with fail
  refine (Plc.as_fault ⟨fb, 0, none⟩ ⟨w.heap.size, 0, none⟩ (.pointer none) _ (ErrT.below H.out ((Below.refl _ _).alloc (Nat.le_refl _) _)) (by simp) (by simp)).mono ?_
  rintro e w' ⟨rfl, w1, hb, rfl⟩
  have hc : w1.cell? ⟨w.heap.size, 0, none⟩ = some (.pointer none) := Below.cell_some hb (Nat.le_refl _) (by simp)
  have hb0 : Below w.heap.size w w1 := ((Below.refl _ _).alloc (Nat.le_refl _) _).trans (hb.mono (by simp))
  have hc1 : w1.cell? ⟨fb, 0, none⟩ = some (.int .i64 n) := Below.cell_some hb0 (Nat.le_refl _) HF.out
  have hne : fb ≠ w.heap.size := by have : fb < w.heap.size := hfl; omega
  have hc2 : (w1.setCell ⟨w.heap.size, 0, none⟩ (.pointer (some ⟨fb, 0, none⟩))).cell? ⟨fb, 0, none⟩ = some (.int .i64 n) := by
    rw [World.cell?_of_block (Below.heap_setCell _ _ _ _ hne)]; exact hc1
  go_wp2
  go_ret
  exact ⟨rfl, hb0.setCell (Nat.le_refl _) _⟩
end Go.Proofs.YtkbamneecfmibaaGreatDoor
