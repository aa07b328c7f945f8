/- (conf.Config).Find. No conditions but where the modules lie. -/
import Derived.Test.YtkbamneecfmibaaGreatDoorMem
namespace Go.Proofs.YtkbamneecfmibaaGreatDoor
open Go.RowKit
open C

def modVal (m : Mdl) (uv : Value) : Value := .agg #[.string (bs m.name), .string (bs m.root), .bool m.write, .int .i64 m.slots, .int .i64 m.quota, uv]
def modZero : Value := .agg #[.string ⟨#[]⟩, .string ⟨#[]⟩, .bool false, .int .i64 0, .int .i64 0, .slice none 0 0]
/-- What (conf.Config).Find comes to. -/
def PFind (ms : List Mdl) (n : Bs) (w : World) (e : Ending) (w' : World) : Prop :=
  (∃ (v : Value) (ok : Bool), e = .returned (.tuple #[v, .bool ok]) ∧ ((ok = true ∧ ∃ m uv, findM ms n = some m ∧ v = modVal m uv ∧ RdUsr w' uv m.users) ∨ (ok = false ∧ v = modZero ∧ findM ms n = none))) ∧ Below w.heap.size w w'
theorem findM_none {ms : List Mdl} {n : Bs} (h : ∀ (i : Nat) (u : Mdl), ms[i]? = some u → (u.name == n) = false) : findM ms n = none := by
  unfold findM
  rw [List.find?_eq_none]
  intro u hu
  obtain ⟨i, hi⟩ := List.getElem?_of_mem hu
  simp [h i u hi]

theorem below_set6 {B : Nat} {a w : World} (h : Below B a w) (g : Nat) (hg : B ≤ g) (v0 v1 v2 v3 v4 v5 : Value) :
    Below B a ((((((w.setCell ⟨g, 0, none⟩ v0).setCell ⟨g, 1, none⟩ v1).setCell ⟨g, 2, none⟩ v2).setCell ⟨g, 3, none⟩ v3).setCell ⟨g, 4, none⟩ v4).setCell ⟨g, 5, none⟩ v5) :=
  (((((h.setCell (p := ⟨g, 0, none⟩) hg v0).setCell (p := ⟨g, 1, none⟩) hg v1).setCell (p := ⟨g, 2, none⟩) hg v2).setCell (p := ⟨g, 3, none⟩) hg v3).setCell (p := ⟨g, 4, none⟩) hg v4).setCell (p := ⟨g, 5, none⟩) hg v5

set_option maxHeartbeats 2000000 in
theorem find_any (mv : Value) (ms : List Mdl) (n : ByteArray) (w : World) (hr : RdMod w mv ms) :
    Calls Tryz.prog 17 #[.agg #[mv], .string n] w (PFind ms n.data.toList w) := by
  obtain ⟨A, c, rfl, hc, hcm, hr⟩ := hr
  have HR := Lib.hid hr
  clear hr
  go_enter Tryz.func17, Tryz.ntmps17
  go_wp2_with fail
  go_loopw [7, 11] (fun _ iv wr => ∃ i : Nat, i ≤ ms.length ∧ iv = .int .i64 i ∧ Below (w.heap.size + 2) ((w.alloc (.cells #[.slice A ms.length c] 25)).alloc (.cells #[.string ⟨#[]⟩, .string ⟨#[]⟩, .bool false, .int .i64 0, .int .i64 0, .slice none 0 0] 41)) wr ∧ Hid (∀ (j : Nat) (x : Mdl), j < i → ms[j]? = some x → (x.name == n.data.toList) = false)) (fun _ iv _ => ms.length - (intOf iv).toNat)
  case atStart => exact ⟨0, by omega, rfl, Below.refl _ _, Lib.hid (fun j x h => by omega)⟩
  case round =>
    obtain ⟨i, hi, rfl, hb2, hall⟩ := hrel
    have hb : Below w.heap.size w wr := (((Below.refl _ _).alloc (Nat.le_refl _) _).alloc (by simp) _).trans (hb2.mono (by omega))
    have hsz : w.heap.size + 1 < wr.heap.size := by have := hb2.size; simp at this; omega
    have hsz' : w.heap.size < wr.heap.size := by omega
    have z0 : ∀ j, wr.cell? ⟨w.heap.size + 1, j, none⟩ = (#[Value.string ⟨#[]⟩, .string ⟨#[]⟩, .bool false, .int .i64 0, .int .i64 0, .slice none 0 0] : Array Value)[j]? := by
      intro j
      rw [hb2.cell (p := ⟨w.heap.size + 1, j, none⟩) (by simp), World.cell?_alloc_at _ _ _ _ (by simp)]
    have f0 : ∀ j, wr.frozen? ⟨w.heap.size + 1, j, none⟩ = false := by
      intro j
      rw [hb2.frozen (p := ⟨w.heap.size + 1, j, none⟩) (by simp)]
      simp
    have y0 : wr.cell? ⟨w.heap.size + 1, 0, none⟩ = some (.string ⟨#[]⟩) := z0 0
    have y1 : wr.cell? ⟨w.heap.size + 1, 1, none⟩ = some (.string ⟨#[]⟩) := z0 1
    have y2 : wr.cell? ⟨w.heap.size + 1, 2, none⟩ = some (.bool false) := z0 2
    have y3 : wr.cell? ⟨w.heap.size + 1, 3, none⟩ = some (.int .i64 0) := z0 3
    have y4 : wr.cell? ⟨w.heap.size + 1, 4, none⟩ = some (.int .i64 0) := z0 4
    have y5 : wr.cell? ⟨w.heap.size + 1, 5, none⟩ = some (.slice none 0 0) := z0 5
    have F0 := f0 0; have F1 := f0 1; have F2 := f0 2; have F3 := f0 3; have F4 := f0 4; have F5 := f0 5
    clear z0 f0
    by_cases hlt : i < ms.length
    · obtain ⟨g, o, hA, hcell⟩ := HR.out (by intro e; rw [e] at hlt; simp at hlt)
      have hu : ms[i]? = some ms[i] := List.getElem?_eq_getElem hlt
      subst hA
      obtain ⟨c0, c1, c2, c3, c4, uv, c5, hus⟩ := hcell i _ hu
      have HU := Lib.hid hu
      clear hcell hu
      generalize ms[i] = m at c0 c1 c2 c3 c4 hus HU
      have hgl : g < w.heap.size := cell_lt c0
      have k0 := Below.cell_some hb (Nat.le_refl _) c0
      have k1 := Below.cell_some hb (Nat.le_refl _) c1
      have k2 := Below.cell_some hb (Nat.le_refl _) c2
      have k3 := Below.cell_some hb (Nat.le_refl _) c3
      have k4 := Below.cell_some hb (Nat.le_refl _) c4
      have k5 := Below.cell_some hb (Nat.le_refl _) c5
      obtain ⟨A2, cc, huv, _⟩ := id hus
      subst huv
      have HUS := Lib.hid hus
      clear c0 c1 c2 c3 c4 c5 hus
      have ebs : ((bs m.name).toList == n.toList) = (m.name == n.data.toList) := bs_eq' _ _
      by_cases hq : (m.name == n.data.toList) = true
      · have t1 : ((bs m.name).toList == n.toList) = true := by rw [ebs]; exact hq
        have HQ : Hid (findM ms n.data.toList = some m) := Lib.hid (find_at _ HU.out hq hall.out)
        clear ebs hq
        have HM : Hid (modVal m (.slice A2 m.users.length cc) = .agg #[.string (bs m.name), .string (bs m.root), .bool m.write, .int .i64 m.slots, .int .i64 m.quota, .slice A2 m.users.length cc]) := Lib.hid rfl
        generalize bs m.name = nmv at k0 t1 HM
        generalize bs m.root = rtv at k1 HM
        generalize m.users.length = ul at k5 HUS HM
        go_wp2_with fail
        refine bodyPost_ret (v := .tuple #[.agg #[.string nmv, .string rtv, .bool m.write, .int .i64 m.slots, .int .i64 m.quota, .slice A2 ul cc], .bool true]) ?_ rfl ?_
        · simp [results, Tryz.results17, go_sem, *]
        refine ⟨⟨_, true, rfl, .inl ⟨rfl, m, _, HQ.out, HM.out.symm, HUS.out.below ?_⟩⟩, ?_⟩
        all_goals
          exact (below_set6 hb (w.heap.size + 1) (Nat.le_succ _) _ _ _ _ _ _).alloc (by simpa [World.setCell] using hb.size) _
      · have hq' : (m.name == n.data.toList) = false := by simpa using hq
        have t1 : ((bs m.name).toList == n.toList) = false := by rw [ebs]; exact hq'
        have HQ := Lib.hid hq'
        clear ebs hq hq'
        generalize bs m.name = nmv at k0 t1
        generalize bs m.root = rtv at k1
        go_wp2_with fail
        go_roundw
        case rel => exact ⟨i + 1, by omega, by go_num, hb2.alloc (by omega) _, Lib.hid (fun j x hj hx => by
          by_cases e : j = i
          · subst e; rw [HU.out] at hx; injection hx with hx; subst hx; exact HQ.out
          · exact hall.out j x (by omega) hx)⟩
        case measure => simp [intOf]; omega
    · have HQ : Hid (findM ms n.data.toList = none) := Lib.hid (findM_none (fun j x hx => hall.out j x (by have := (List.getElem?_eq_some_iff.1 hx).1; omega) hx))
      go_wp2_with fail
      refine bodyPost_ret (v := .tuple #[modZero, .bool false]) ?_ rfl ?_
      · simp [results, Tryz.results17, go_sem, modZero, *]
      refine ⟨⟨_, false, rfl, .inr ⟨rfl, rfl, HQ.out⟩⟩, ?_⟩
      exact below_set6 hb (w.heap.size + 1) (Nat.le_succ _) _ _ _ _ _ _
end Go.Proofs.YtkbamneecfmibaaGreatDoor
