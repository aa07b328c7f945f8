/- path.Clash and (conf.Config).Check. Conditions: the texts are shorter than 2^47 bytes. -/
import Derived.Test.YtkbamneecfmibaaGreatDoorFind
namespace Go.Proofs.YtkbamneecfmibaaGreatDoor
open Go.RowKit
open C

theorem append_data (a b : ByteArray) : (a ++ b).data.toList = a.data.toList ++ b.data.toList := by simp [ByteArray.data_append]

set_option maxHeartbeats 1000000 in
theorem clash_any (a b : ByteArray) (w : World) (ha : a.size ≤ 140737488355328) (hb : b.size ≤ 140737488355328) :
    Calls Tryz.prog 36 #[.string a, .string b] w fun e w' => e = .returned (.bool (clash a.data.toList b.data.toList)) ∧ w = w' := by
  have h1 : Lib.hasPrefix a.data.toList (b ++ (⟨#[47]⟩ : ByteArray)).data.toList = (b.data.toList ++ [47]).isPrefixOf a.data.toList := by rw [append_data]; rfl
  have h2 : Lib.hasPrefix b.data.toList (a ++ (⟨#[47]⟩ : ByteArray)).data.toList = (a.data.toList ++ [47]).isPrefixOf b.data.toList := by rw [append_data]; rfl
  by_cases c : Lib.hasPrefix a.data.toList (b ++ (⟨#[47]⟩ : ByteArray)).data.toList = true
  · have H : Hid (clash a.data.toList b.data.toList = true) := Lib.hid (by unfold clash; rw [← h1, c]; rfl)
    clear h1 h2
    go_enter Tryz.func36, Tryz.ntmps36
    go_wp2_with fail
    refine (Tryz.strings_HasPrefix _ _ _).mono ?_
    rintro e w' ⟨rfl, rfl⟩
    go_wp2_with fail
    go_ret
    exact ⟨by rw [H.out]; simp [c], rfl⟩
  · have c' : Lib.hasPrefix a.data.toList (b ++ (⟨#[47]⟩ : ByteArray)).data.toList = false := by simpa using c
    have H : Hid (clash a.data.toList b.data.toList = Lib.hasPrefix b.data.toList (a ++ (⟨#[47]⟩ : ByteArray)).data.toList) := Lib.hid (by unfold clash; rw [← h1, c', ← h2]; rfl)
    have K : ∀ w, Calls Tryz.prog 63 #[.string a, .string (b ++ (⟨#[47]⟩ : ByteArray))] w fun e w' => e = .returned (.bool false) ∧ w' = w := by
      intro w
      rw [← c']; exact Tryz.strings_HasPrefix _ _ _
    have K2 : ∀ w, Calls Tryz.prog 63 #[.string b, .string (a ++ (⟨#[47]⟩ : ByteArray))] w fun e w' => e = .returned (.bool (clash a.data.toList b.data.toList)) ∧ w' = w := by
      intro w
      rw [H.out]; exact Tryz.strings_HasPrefix _ _ _
    have HK := Lib.hid K
    have HK2 := Lib.hid K2
    clear h1 h2 c c' H K K2
    generalize clash a.data.toList b.data.toList = x at HK2
    go_enter Tryz.func36, Tryz.ntmps36
    go_wp2_with fail
    refine (HK.out _).mono ?_
    rintro e w' ⟨rfl, rfl⟩
    go_wp2_with fail
    refine (HK2.out _).mono ?_
    rintro e w' ⟨rfl, rfl⟩
    go_wp2_with fail
    go_ret
    exact ⟨rfl, rfl⟩

/-- What (conf.Config).Check comes to: nil, or a *Fault with the place and the number. -/
def PCk (ms : List Mdl) (w : World) (e : Ending) (w' : World) : Prop :=
  (∃ v, e = .returned v ∧ (((checkMs ms).1 = 0 ∧ v = .nilIface) ∨ ((checkMs ms).1 ≠ 0 ∧ ∃ fb, v = .iface tFaultP (.pointer (some ⟨fb, 0, none⟩)) ∧ w'.cell? ⟨fb, 0, none⟩ = some (.int .i64 (checkMs ms).2) ∧ w'.cell? ⟨fb, 1, none⟩ = some (.int .i64 (checkMs ms).1)))) ∧ Below w.heap.size w w'

theorem check_step {ms : List Mdl} {i : Nat} {m : Mdl} (hm : ms[i]? = some m) : checkFrom i (ms.take i) (ms.drop i) = if m.root = [] then (4, i) else if (ms.take i).any (fun x => x.root == m.root || clash x.root m.root) then (90, i) else checkFrom (i + 1) (ms.take (i + 1)) (ms.drop (i + 1)) := by
  obtain ⟨hi, rfl⟩ := List.getElem?_eq_some_iff.1 hm
  rw [List.drop_eq_getElem_cons hi, List.take_succ_eq_append_getElem hi]
  rfl
theorem check_end (ms : List Mdl) : checkFrom ms.length (ms.take ms.length) (ms.drop ms.length) = (0, 0) := by
  rw [List.drop_length]; rfl
theorem take_any {ms : List Mdl} {p : Mdl → Bool} {i j : Nat} {x : Mdl} (hj : ms[j]? = some x) (hji : j < i) (hp : p x = true) : (ms.take i).any p = true := by
  rw [List.any_eq_true]
  refine ⟨x, List.mem_of_getElem? (i := j) ?_, hp⟩
  rw [List.getElem?_take_of_lt hji]; exact hj
theorem take_none {ms : List Mdl} {p : Mdl → Bool} {i : Nat} (h : ∀ (j : Nat) (x : Mdl), j < i → ms[j]? = some x → p x = false) : (ms.take i).any p = false := by
  rw [List.any_eq_false]
  intro x hx
  obtain ⟨j, hj⟩ := List.getElem?_of_mem hx
  have hji : j < i := by have := (List.getElem?_eq_some_iff.1 hj).1; rw [List.length_take] at this; omega
  rw [List.getElem?_take_of_lt hji] at hj
  simp [h j x hji hj]

set_option maxHeartbeats 4000000 in
theorem check_any (mv : Value) (ms : List Mdl) (w : World) (hr : RdMod w mv ms) (hl : ms.length ≤ 1000000) (hroot : ∀ m ∈ ms, m.root.length ≤ 140737488355328) :
    Calls Tryz.prog 16 #[.agg #[mv]] w (PCk ms w) := by
  obtain ⟨A, c, rfl, hc, hcm, hr⟩ := hr
  have HR := Lib.hid hr
  have HROOT := Lib.hid hroot
  clear hr hroot
  go_enter Tryz.func16, Tryz.ntmps16
  go_wp2_with fail
  go_loopw [3, 4, 6, 10] (fun _ _ _ iv wr => ∃ i : Nat, i ≤ ms.length ∧ iv = .int .i64 i ∧ Below (w.heap.size + 1) (w.alloc (.cells #[.slice A ms.length c] 25)) wr ∧ Hid (checkMs ms = checkFrom i (ms.take i) (ms.drop i))) (fun _ _ _ iv _ => ms.length - (intOf iv).toNat)
  case atStart => exact ⟨0, by omega, rfl, Below.refl _ _, Lib.hid rfl⟩
  case round =>
    obtain ⟨i, hi, rfl, hb2, hck⟩ := hrel
    have hb : Below w.heap.size w wr := ((Below.refl _ _).alloc (Nat.le_refl _) _).trans (hb2.mono (by omega))
    have hsz : w.heap.size < wr.heap.size := by have := hb2.size; simp at this; omega
    have z0 : wr.cell? ⟨w.heap.size, 0, none⟩ = some (.slice A ms.length c) := by
      rw [hb2.cell (p := ⟨w.heap.size, 0, none⟩) (by simp), World.cell?_alloc_at _ _ _ _ rfl]; rfl
    by_cases hlt : i < ms.length
    · obtain ⟨g, o, hA, hcell⟩ := HR.out (by intro e; rw [e] at hlt; simp at hlt)
      have hu : ms[i]? = some ms[i] := List.getElem?_eq_getElem hlt
      subst hA
      have HCELL := Lib.hid hcell
      obtain ⟨c0, c1, c2, c3, c4, uv, c5, hus⟩ := hcell i _ hu
      have HU := Lib.hid hu
      clear hcell hu
      generalize ms[i] = m at c0 c1 c2 c3 c4 hus HU
      have hgl : g < w.heap.size := cell_lt c0
      have k0 := Below.cell_some hb (Nat.le_refl _) c0
      have k1 := Below.cell_some hb (Nat.le_refl _) c1
      have k2 := Below.cell_some hb (Nat.le_refl _) c2
      have k3 := Below.cell_some hb (Nat.le_refl _) c3
      have k4 := Below.cell_some hb (Nat.le_refl _) c4
      have k5 := Below.cell_some hb (Nat.le_refl _) c5
      obtain ⟨A2, cc, huv, _⟩ := id hus
      subst huv
      clear c0 c1 c2 c3 c4 c5 hus
      generalize m.users.length = ul at k5
      have ere : (bs m.root).toList.isEmpty = (m.root == []) := by rw [isEmpty_toList, bs_data]
      have HST : Hid (checkMs ms = if m.root = [] then (4, i) else if (ms.take i).any (fun x => x.root == m.root || clash x.root m.root) then (90, i) else checkFrom (i + 1) (ms.take (i + 1)) (ms.drop (i + 1))) := Lib.hid (by rw [hck.out]; exact check_step HU.out)
      have HRD : Hid ((bs m.root).data.toList = m.root) := Lib.hid rfl
      generalize hrt : bs m.root = rtv at k1 ere HRD
      clear hrt
      by_cases hre : m.root = []
      · have t1 : rtv.toList.isEmpty = true := by rw [ere, hre]; rfl
        have HF : Hid (checkMs ms = (4, i)) := Lib.hid (by rw [HST.out, if_pos hre])
        clear ere hre
        go_wp2_with fail
        go_ret
        refine ⟨⟨_, rfl, .inr ⟨by rw [HF.out]; simp, _, rfl, ?_, ?_⟩⟩, (hb.alloc hb.size _).alloc (by simp; omega) _⟩
        · rw [HF.out]; simp
        · rw [HF.out]; simp
      · have t1 : rtv.toList.isEmpty = false := by rw [ere]; simpa using hre
        have HST2 : Hid (checkMs ms = if (ms.take i).any (fun x => x.root == m.root || clash x.root m.root) then (90, i) else checkFrom (i + 1) (ms.take (i + 1)) (ms.drop (i + 1))) := Lib.hid (by rw [HST.out, if_neg hre])
        clear ere hre
        obtain ⟨wo, rfl⟩ : ∃ wo : World, wo = wr := ⟨_, rfl⟩
        go_wp2_with fail
        have zroot : (wo.alloc (.cells #[.string (bs m.name), .string rtv, .bool m.write, .int .i64 m.slots, .int .i64 m.quota, .slice A2 ul cc] 41)).cell? ⟨wo.heap.size, 1, none⟩ = some (.string rtv) := by
          rw [World.cell?_alloc_at _ _ _ _ rfl]; rfl
        have hbm2 : Below (w.heap.size + 1) wo (wo.alloc (.cells #[.string (bs m.name), .string rtv, .bool m.write, .int .i64 m.slots, .int .i64 m.quota, .slice A2 ul cc] 41)) := (Below.refl _ _).alloc (by omega) _
        have hszm : (wo.alloc (.cells #[.string (bs m.name), .string rtv, .bool m.write, .int .i64 m.slots, .int .i64 m.quota, .slice A2 ul cc] 41)).heap.size = wo.heap.size + 1 := by simp
        have HSZM := Lib.hid hszm
        clear hszm
        generalize wo.alloc (.cells #[.string (bs m.name), .string rtv, .bool m.write, .int .i64 m.slots, .int .i64 m.quota, .slice A2 ul cc] 41) = Wm at zroot hbm2 HSZM
        have hbm : Below w.heap.size w Wm := hb.trans (hbm2.mono (by omega))
        have hszw : wo.heap.size + 1 ≤ Wm.heap.size := by have := HSZM.out; omega
        have hzw : wo.heap.size < Wm.heap.size := by omega
        have HBM := Lib.hid hbm
        have HBM2 := Lib.hid (hb2.trans hbm2)
        clear hbm hbm2 k0 k1 k2 k3 k4 k5 z0 hb hb2
        go_loopw [6, 27] (fun _ jv wr => ∃ j : Nat, j ≤ i ∧ jv = .int .i64 j ∧ Below (wo.heap.size + 1) Wm wr ∧ Hid (∀ (q : Nat) (x : Mdl), q < j → ms[q]? = some x → (x.root == m.root || clash x.root m.root) = false)) (fun _ jv _ => i - (intOf jv).toNat)
        case atStart => exact ⟨0, by omega, rfl, Below.refl _ _, Lib.hid (fun q x h => by omega)⟩
        case round =>
          obtain ⟨j, hj, rfl, hb3, hq⟩ := hrel
          have hb4 : Below w.heap.size w wr := HBM.out.trans (hb3.mono (by omega))
          have hs4 : wo.heap.size < wr.heap.size := by have := hb3.size; omega
          have zr4 : wr.cell? ⟨wo.heap.size, 1, none⟩ = some (.string rtv) := by rw [hb3.cell (p := ⟨wo.heap.size, 1, none⟩) (by simp)]; exact zroot
          by_cases hji : j < i
          · have hux : ms[j]? = some ms[j] := List.getElem?_eq_getElem (by omega)
            obtain ⟨c0, c1, c2, c3, c4, uvx, c5, husx⟩ := HCELL.out j _ hux
            have HUX := Lib.hid hux
            have HXM : Hid (ms[j] ∈ ms) := Lib.hid (List.getElem_mem _)
            clear hux
            generalize ms[j] = x at c0 c1 c2 c3 c4 husx HUX HXM
            have k0 := Below.cell_some hb4 (Nat.le_refl _) c0
            have k1 := Below.cell_some hb4 (Nat.le_refl _) c1
            have k2 := Below.cell_some hb4 (Nat.le_refl _) c2
            have k3 := Below.cell_some hb4 (Nat.le_refl _) c3
            have k4 := Below.cell_some hb4 (Nat.le_refl _) c4
            have k5 := Below.cell_some hb4 (Nat.le_refl _) c5
            obtain ⟨A3, cx, hux3, _⟩ := id husx
            subst hux3
            clear c0 c1 c2 c3 c4 c5 husx
            generalize x.users.length = ulx at k5
            have exe : ((bs x.root).toList == rtv.toList) = (x.root == m.root) := by rw [Lib.toList_data, Lib.toList_data, bs_data, HRD.out]
            have hxs : (bs x.root).size ≤ 140737488355328 := by rw [Lib.size_eq, bs_data]; exact HROOT.out x HXM.out
            have hms : rtv.size ≤ 140737488355328 := by rw [Lib.size_eq, HRD.out]; exact HROOT.out m (List.mem_of_getElem? HU.out)
            have HXD : Hid ((bs x.root).data.toList = x.root) := Lib.hid rfl
            generalize bs x.root = xrv at k1 exe hxs HXD
            have HCL : Hid (clash xrv.data.toList rtv.data.toList = clash x.root m.root) := Lib.hid (by rw [HXD.out, HRD.out])
            have HBAD : Hid ((x.root == m.root || clash x.root m.root) = true → checkMs ms = (90, i)) := Lib.hid (fun h => by
              rw [HST2.out, if_pos (take_any HUX.out hji h)])
            have HNXT : Hid ((x.root == m.root || clash x.root m.root) = false → ∀ (q : Nat) (y : Mdl), q < j + 1 → ms[q]? = some y → (y.root == m.root || clash y.root m.root) = false) := Lib.hid (fun h q y hqj hy => by
              by_cases e : q = j
              · subst e; rw [HUX.out] at hy; injection hy with hy; subst hy; exact h
              · exact hq.out q y (by omega) hy)
            by_cases e1 : (x.root == m.root) = true
            · have t2 : (xrv.toList == rtv.toList) = true := by rw [exe]; exact e1
              have HF : Hid (checkMs ms = (90, i)) := Lib.hid (HBAD.out (by rw [e1]; rfl))
              clear exe e1
              go_wp2_with fail
              go_ret
              refine ⟨⟨_, rfl, .inr ⟨by rw [HF.out]; simp, _, rfl, ?_, ?_⟩⟩, (hb4.alloc hb4.size _).alloc (by have := hb4.size; simp; omega) _⟩
              · rw [HF.out]; simp
              · rw [HF.out]; simp
            · have e1' : (x.root == m.root) = false := by simpa using e1
              have t2 : (xrv.toList == rtv.toList) = false := by rw [exe]; exact e1'
              have E1 := Lib.hid e1'
              clear exe e1 e1'
              by_cases e2 : clash xrv.data.toList rtv.data.toList = true
              · have HF : Hid (checkMs ms = (90, i)) := Lib.hid (HBAD.out (by rw [← HCL.out, e2]; simp))
                have K : ∀ w, Calls Tryz.prog 36 #[.string xrv, .string rtv] w fun e w' => e = .returned (.bool true) ∧ w = w' := by
                  intro w; rw [← e2]; exact clash_any _ _ _ hxs hms
                have HK := Lib.hid K
                clear K e2
                go_wp2_with fail
                refine (HK.out _).mono ?_
                rintro e w' ⟨rfl, rfl⟩
                go_wp2_with fail
                go_ret
                refine ⟨⟨_, rfl, .inr ⟨by rw [HF.out]; simp, _, rfl, ?_, ?_⟩⟩, (hb4.alloc hb4.size _).alloc (by have := hb4.size; simp; omega) _⟩
                · rw [HF.out]; simp
                · rw [HF.out]; simp
              · have e2' : clash xrv.data.toList rtv.data.toList = false := by simpa using e2
                have HN := Lib.hid (HNXT.out (by rw [E1.out, ← HCL.out, e2']; rfl))
                have K : ∀ w, Calls Tryz.prog 36 #[.string xrv, .string rtv] w fun e w' => e = .returned (.bool false) ∧ w = w' := by
                  intro w; rw [← e2']; exact clash_any _ _ _ hxs hms
                have HK := Lib.hid K
                clear K e2 e2'
                go_wp2_with fail
                refine (HK.out _).mono ?_
                rintro e w' ⟨rfl, rfl⟩
                go_wp2_with fail
                go_roundw
                case rel => exact ⟨j + 1, by omega, by go_num, hb3.alloc (by omega) _, HN⟩
                case measure => simp [intOf]; omega
          · have HN : Hid (checkMs ms = checkFrom (i + 1) (ms.take (i + 1)) (ms.drop (i + 1))) := Lib.hid (by
              rw [HST2.out, take_none (fun q x hqi hx => hq.out q x (by omega) hx)]; rfl)
            go_wp2_with fail
            go_roundw
            case rel => exact ⟨i + 1, by omega, by go_num, HBM2.out.trans (hb3.mono (by omega)), HN⟩
            case measure => simp [intOf]; omega
    · have HF : Hid (checkMs ms = (0, 0)) := Lib.hid (by
        rw [hck.out]
        obtain rfl : i = ms.length := by omega
        exact check_end ms)
      go_wp2_with fail
      go_ret
      exact ⟨⟨_, rfl, .inl ⟨by rw [HF.out], rfl⟩⟩, hb⟩
end Go.Proofs.YtkbamneecfmibaaGreatDoor
