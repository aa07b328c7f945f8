/- code.Number: the number of an error that is nil, an Errno, or a *Fault in memory. Condition: errors.errorType is laid. -/
import Derived.Test.YtkbamneecfmibaaGreatDoorErrs2
import Derived.Lib.Hide
namespace Go.Proofs.YtkbamneecfmibaaGreatDoor
open Go.RowKit

/-- An error of the program's: nil, an Errno, or a *Fault in memory; its number. -/
inductive ErrV (w : World) : Value → Int → Prop where
  | nil : ErrV w .nilIface 0
  | errno (n : Int) : ErrV w (.iface tErrno (.int .i64 n)) n
  | fault (fa : Addr) (n : Int) (h : w.cell? ⟨fa.block, fa.off + 1, none⟩ = some (.int .i64 n)) : ErrV w (.iface tFaultP (.pointer (some fa))) n

theorem cell_lt {w : World} {p : Addr} {v : Value} (h : w.cell? p = some v) : p.block < w.heap.size := World.block_lt_of_cell? w p h
theorem Below.cell_some {B : Nat} {w w1 : World} (h : Below B w w1) {p : Addr} {v : Value} (hB : w.heap.size ≤ B) (hc : w.cell? p = some v) : w1.cell? p = some v := by
  rw [h.cell (Nat.lt_of_lt_of_le (cell_lt hc) hB)]; exact hc
theorem ErrV.below {w w1 : World} {v : Value} {n : Int} (h : ErrV w v n) (hb : Below w.heap.size w w1) : ErrV w1 v n := by
  cases h with
  | nil => exact .nil
  | errno => exact .errno _
  | fault fa n h => exact .fault fa n (Below.cell_some hb (Nat.le_refl _) h)
theorem ErrT.below {w w1 : World} (h : ErrT w) (hb : Below w.heap.size w w1) : ErrT w1 := Below.cell_some hb (Nat.le_refl _) h

set_option maxHeartbeats 1000000 in
theorem number_any (v : Value) (n : Int) (w : World) (hg : ErrT w) (hv : ErrV w v n) :
    Calls Tryz.prog 12 #[v] w fun e w' => e = .returned (.int .i64 n) ∧ Below w.heap.size w w' := by
  have H : Hid (ErrT w) := Lib.hid hg
  clear hg
  cases hv with
  | nil =>
    go_enter Tryz.func12, Tryz.ntmps12
    go_wp2_with (go_at_call 34; refine (Errs.as_nil _ _).mono ?_; rintro e w' ⟨rfl, rfl⟩)
    go_ret
    exact ⟨rfl, (Below.refl _ _).alloc (Nat.le_refl _) _⟩
  | errno =>
    go_enter Tryz.func12, Tryz.ntmps12
    go_wp2_with fail
    refine (Errs.as_errno n ⟨w.heap.size, 0, none⟩ (.int .i64 0) _ (ErrT.below H.out ((Below.refl _ _).alloc (Nat.le_refl _) _)) (by simp) (by simp)).mono ?_
    rintro e w' ⟨rfl, w1, hb, rfl⟩
    have hc : w1.cell? ⟨w.heap.size, 0, none⟩ = some (.int .i64 0) := Below.cell_some hb (Nat.le_refl _) (by simp)
    go_wp2
    go_ret
    exact ⟨rfl, (((Below.refl _ _).alloc (Nat.le_refl _) _).trans (hb.mono (by simp))).setCell (Nat.le_refl _) _⟩
  | fault fa n h =>
    have H2 : Hid (w.cell? ⟨fa.block, fa.off + 1, none⟩ = some (.int .i64 n)) := Lib.hid h
    clear h
    go_enter Tryz.func12, Tryz.ntmps12
    go_wp2_with fail
    refine (Errs.as_fault n fa ⟨w.heap.size, 0, none⟩ (.int .i64 0) _ (ErrT.below H.out ((Below.refl _ _).alloc (Nat.le_refl _) _)) (Below.cell_some ((Below.refl _ _).alloc (Nat.le_refl _) _) (Nat.le_refl _) H2.out) (by simp) (by simp)).mono ?_
    rintro e w' ⟨rfl, w1, hb, rfl⟩
    have hc : w1.cell? ⟨w.heap.size, 0, none⟩ = some (.int .i64 0) := Below.cell_some hb (Nat.le_refl _) (by simp)
    go_wp2
    go_ret
    exact ⟨rfl, (((Below.refl _ _).alloc (Nat.le_refl _) _).trans (hb.mono (by simp))).setCell (Nat.le_refl _) _⟩
end Go.Proofs.YtkbamneecfmibaaGreatDoor
