/- wharfingerlaw13.ConfFinds answers true at every input: the walk. Conditions: GW, and how the input lies in memory. -/
import Derived.Test.YtkbamneecfmibaaGreatDoorFinds
namespace Go.Proofs.YtkbamneecfmibaaGreatDoor
open Go.RowKit
open C PConfWrites Go.Proofs.YtkbamneecfmibaaGreatDoorW.PrintWords

theorem take_next' {α : Type} {l : List α} {i : Nat} {b : α} (h : l[i]? = some b) : l.take (i + 1) = l.take i ++ [b] := by
  obtain ⟨hi, rfl⟩ := List.getElem?_eq_some_iff.1 h
  exact List.take_succ_eq_append_getElem hi

set_option maxRecDepth 100000 in
set_option maxHeartbeats 8000000 in
theorem finds_any (mv : Value) (ms : List Mdl) (n0 n1 : ByteArray) (w : World) (hr : RdMod w mv ms) (hG : GW w) :
    Calls Tryz.prog 4 #[.agg #[mv], .agg #[.string n0, .string n1]] w fun e w' => e = .returned (.bool true) ∧ Below w.heap.size w w' := by
  have HG := Lib.hid hG
  have HRM := Lib.hid hr
  obtain ⟨A, c, rfl, hc, hcm, hr⟩ := hr
  have HR := Lib.hid hr
  clear hG hr
  go_enter Tryz.func4, Tryz.ntmps4
  go_wp2_with fail
  refine (head_any _ (HG.out.below (((Below.refl _ _).alloc (Nat.le_refl _) _).alloc (by simp) _))).mono ?_
  rintro e w1 ⟨rfl, hb1⟩
  have q0 : w1.cell? ⟨w.heap.size, 0, none⟩ = some (.slice A ms.length c) := by
    rw [hb1.cell (p := ⟨w.heap.size, 0, none⟩) (by simp; omega)]
    simp
  have q1 : w1.cell? ⟨w.heap.size + 1, 0, none⟩ = some (.string n0) := by
    rw [hb1.cell (p := ⟨w.heap.size + 1, 0, none⟩) (by simp)]
    simp
  have q2 : w1.cell? ⟨w.heap.size + 1, 1, none⟩ = some (.string n1) := by
    rw [hb1.cell (p := ⟨w.heap.size + 1, 1, none⟩) (by simp)]
    simp
  have hsz1 : w.heap.size + 2 ≤ w1.heap.size := by have := hb1.size; simp at this; omega
  have hB1 : Below w.heap.size w w1 := (((Below.refl _ _).alloc (Nat.le_refl _) _).alloc (by simp) _).trans (hb1.mono (by simp; omega))
  by_cases c20 : 20 < ms.length
  · go_wp2_with fail
    go_ret
    exact ⟨rfl, hB1⟩
  · have HB1 := Lib.hid hB1
    clear hb1 hB1
    go_wp2_with fail
    go_loopw [5, 28] (fun v iv wr => ∃ i : Nat, i ≤ ms.length ∧ iv = .int .i64 i ∧ Below (w.heap.size + 2) w1 wr ∧ Hid (wr.ownsRow (w.heap.size + 2) tRm 7 v i (refCells (ms.take i))) ∧ Hid (∀ m ∈ ms.take i, m.root.length ≤ 200 ∧ m.users.length ≤ 20)) (fun _ iv _ => ms.length - (intOf iv).toNat)
    case atStart => exact ⟨0, by omega, rfl, Below.refl _ _, Lib.hid (World.ownsRow_nil _ _ _ _), Lib.hid (fun m hm => by simp at hm)⟩
    case round =>
      obtain ⟨i, hi, rfl, hb, HOWN, HSM⟩ := hrel
      have k0 : wr.cell? ⟨w.heap.size, 0, none⟩ = some (.slice A ms.length c) := by rw [hb.cell (p := ⟨w.heap.size, 0, none⟩) (by simp)]; exact q0
      have k1 : wr.cell? ⟨w.heap.size + 1, 0, none⟩ = some (.string n0) := by rw [hb.cell (p := ⟨w.heap.size + 1, 0, none⟩) (by simp)]; exact q1
      have k2 : wr.cell? ⟨w.heap.size + 1, 1, none⟩ = some (.string n1) := by rw [hb.cell (p := ⟨w.heap.size + 1, 1, none⟩) (by simp)]; exact q2
      have hszr : w.heap.size + 2 ≤ wr.heap.size := by have := hb.size; omega
      have hBr : Below w.heap.size w wr := HB1.out.trans (hb.mono (by omega))
      by_cases hlt : i < ms.length
      · obtain ⟨g, o, hA, hcell⟩ := HR.out (by intro e; rw [e] at hlt; simp at hlt)
        have hu : ms[i]? = some ms[i] := List.getElem?_eq_getElem hlt
        subst hA
        obtain ⟨c0, c1, c2, c3, c4, uv, c5, hus⟩ := hcell i _ hu
        have HU := Lib.hid hu
        clear hu hcell
        generalize ms[i] = m at c0 c1 c2 c3 c4 hus HU
        have hgl : g < w.heap.size := cell_lt c0
        have z0 := Below.cell_some hBr (Nat.le_refl _) c0
        have z1 := Below.cell_some hBr (Nat.le_refl _) c1
        have z2 := Below.cell_some hBr (Nat.le_refl _) c2
        have z3 := Below.cell_some hBr (Nat.le_refl _) c3
        have z4 := Below.cell_some hBr (Nat.le_refl _) c4
        have z5 := Below.cell_some hBr (Nat.le_refl _) c5
        obtain ⟨A2, cc, huv, _⟩ := id hus
        subst huv
        have hrl : (bs m.root).size = m.root.length := rfl
        have HRC : Hid (rcells m = [.string (bs m.name), .string (bs m.root), .bool false, .int .i64 0, .int .i64 0, .slice none 0 0, .slice none 0 0]) := Lib.hid rfl
        have HRL := Lib.hid hrl
        clear c0 c1 c2 c3 c4 c5 hus hrl
        generalize bs m.name = nmv at z0 HRC
        generalize bs m.root = rtv at z1 HRC HRL
        obtain ⟨ul, hul⟩ : ∃ ul, m.users.length = ul := ⟨_, rfl⟩
        rw [hul] at z5
        have HUL := Lib.hid hul
        clear hul
        by_cases c200 : 200 < rtv.size
        · go_wp2_with fail
          go_ret
          exact ⟨rfl, hBr.alloc hBr.size _⟩
        · by_cases c21 : 20 < ul
          · go_wp2_with fail
            go_ret
            exact ⟨rfl, hBr.alloc hBr.size _⟩
          · obtain ⟨i0, hi0, hy0, hy1, hy2⟩ := info_parts infoRm
            have HOWN2 := Lib.hid ((HOWN.out.alloc (.cells #[.string nmv, .string rtv, .bool m.write, .int .i64 m.slots, .int .i64 m.quota, .slice A2 ul cc] 41)).alloc (.cells #[.string nmv, .string rtv, .bool false, .int .i64 0, .int .i64 0, .slice none 0 0, .slice none 0 0] tRm))
            go_wp2_with (at_builtin; refine wpList_append_own _ rfl _ _ 30 rfl (w.heap.size + 2) tRm i0 (.agg #[.string ⟨#[]⟩, .string ⟨#[]⟩, .bool false, .int .i64 0, .int .i64 0, .slice none 0 0, .slice none 0 0]) 7 104 Tryz.underlying30 hi0 hy0 hy1 hy2 rfl (by decide) _ _ _ rfl HOWN2.out ⟨wr.heap.size + 1, 0, none⟩ 1 1 [.string nmv, .string rtv, .bool false, .int .i64 0, .int .i64 0, .slice none 0 0, .slice none 0 0] rfl rfl (seven_new _ _ _ _ _ _ _ _ _ _ (by simp)) ?c2 ?c3 ?c4 ?c5 ?_)
            case c2 => first | exact ⟨rfl, rfl, rfl, rfl, rfl⟩ | (intro y hy; simp at hy; rcases hy with rfl | rfl | rfl | rfl | rfl <;> rfl)
            case c3 => unfold maxLen; omega
            case c4 => omega
            case c5 => first | omega | (simp; omega)
            intro v' w2 hown' hgrow _
            have hv' : ∃ A' c', v' = .slice A' (i + 1) c' := by
              rcases hown'.2 with ⟨_, h0⟩ | ⟨g', cap', cur, hv, _⟩
              · omega
              · exact ⟨_, _, hv⟩
            obtain ⟨A', c', rfl⟩ := hv'
            have hbb : Below (w.heap.size + 2) w1 ((wr.alloc (.cells #[.string nmv, .string rtv, .bool m.write, .int .i64 m.slots, .int .i64 m.quota, .slice A2 ul cc] 41)).alloc (.cells #[.string nmv, .string rtv, .bool false, .int .i64 0, .int .i64 0, .slice none 0 0, .slice none 0 0] tRm)) := (hb.alloc (by omega) _).alloc (by simp; omega) _
            have hb2 := hbb.grown hgrow (by simp; omega) (fun k hk => by have := (own_block HOWN2.out hk).1; omega)
            have htk := take_next' HU.out
            have HOWN3 : Hid (w2.ownsRow (w.heap.size + 2) tRm 7 (.slice A' (i + 1) c') (i + 1) (refCells (ms.take (i + 1)))) := Lib.hid (by rw [htk, ref_snoc, HRC.out]; exact hown')
            have HSM3 : Hid (∀ m ∈ ms.take (i + 1), m.root.length ≤ 200 ∧ m.users.length ≤ 20) := Lib.hid (fun q hq => by
              rw [htk] at hq
              rcases List.mem_append.1 hq with hq | hq
              · exact HSM.out q hq
              · rw [List.mem_singleton] at hq
                subst hq
                exact ⟨by rw [← HRL.out]; omega, by rw [HUL.out]; omega⟩)
            have HB2 := Lib.hid hb2
            clear hown' hgrow hbb htk hb2 hy0 hy1 hy2 hi0
            go_wp2_with fail
            go_roundw
            case rel => exact ⟨i + 1, by omega, by go_num, HB2.out, HOWN3, HSM3⟩
            case measure => simp [intOf]; omega
      · have hie : i = ms.length := by omega
        have htk : ms.take i = ms := List.take_of_length_le (by omega)
        rw [htk] at HOWN HSM
        rw [hie] at HOWN
        obtain ⟨A', c', rfl, hc', hkd⟩ := ref_reads HOWN.out (by omega)
        obtain ⟨kk, hkk⟩ := check_ref (ms.map rOf) (by rw [List.length_map]; omega) (fun x hx => by
          obtain ⟨q, hq, rfl⟩ := List.mem_map.1 hx
          have := (HSM.out q hq).1
          show (bs q.root).size ≤ _
          rw [show (bs q.root).size = q.root.length from rfl]
          omega)
        rw [checkMs_rOf] at hkk
        have HCK : Hid (Calls Tryz.prog 15 #[.slice A' ms.length c'] wr fun e w' => e = .returned (.tuple #[.int .i64 (checkMs ms).1, .int .i64 ((checkMs ms).2 : Int)]) ∧ Drawn0 wr w') := Lib.hid (by
          have := wharfingerref13_Check.calls kk A' c' (ms.map rOf) _ _ wr hkd (by rw [List.length_map]; exact hc') hkk
          rw [List.length_map] at this
          exact this)
        clear hkd hkk htk hc'
        obtain ⟨wo, rfl⟩ : ∃ wo : World, wo = wr := ⟨_, rfl⟩
        go_wp2_with fail
        refine HCK.out.mono ?_
        rintro e w3 ⟨rfl, hd3⟩
        have hB3 : Below (w.heap.size + 2) w1 w3 := hb.trans (hd3.below.mono (by omega))
        have k03 : w3.cell? ⟨w.heap.size, 0, none⟩ = some (.slice A ms.length c) := by rw [hB3.cell (p := ⟨w.heap.size, 0, none⟩) (by simp)]; exact q0
        have hW3 : Below w.heap.size w w3 := HB1.out.trans (hB3.mono (by omega))
        have HB3 := Lib.hid hB3
        have HW3 := Lib.hid hW3
        have HMS : Hid (∀ m ∈ ms, m.root.length ≤ 140737488355328) := Lib.hid (fun m hm => by have := (HSM.out m hm).1; omega)
        have HGW3 := Lib.hid (HG.out.below hW3)
        clear HCK hd3 k0 k1 k2 hb hB3 hW3 hBr HOWN HSM hszr
        go_wp2_with fail
        refine (check_any (.slice A ms.length c) ms w3 (HRM.out.below HW3.out) (by omega) HMS.out).mono ?_
        rintro e w4 ⟨⟨v, rfl, hv⟩, hb4⟩
        have HB4 := Lib.hid (HB3.out.trans (hb4.mono (by have := HB3.out.size; omega)))
        have HG4 := Lib.hid (HGW3.out.below hb4)
        clear hb4
        generalize checkMs ms = ck at hv
        obtain ⟨e1, p1⟩ := ck
        simp only at hv
        rcases hv with ⟨rfl, rfl⟩ | ⟨hne, fb, rfl, f0, f1⟩
        · go_wp2_with fail
          refine (number_any _ 0 w4 HG4.out.err (ErrV.nil)).mono ?_
          rintro e w5 ⟨rfl, hb5⟩
          have HB5 := Lib.hid (HB4.out.trans (hb5.mono (by have := HB4.out.size; omega)))
          have HG5 := Lib.hid (HG4.out.below hb5)
          clear hb5
          have k05 : w5.cell? ⟨w.heap.size, 0, none⟩ = some (.slice A ms.length c) := by rw [HB5.out.cell (p := ⟨w.heap.size, 0, none⟩) (by simp)]; exact q0
          have k15 : w5.cell? ⟨w.heap.size + 1, 0, none⟩ = some (.string n0) := by rw [HB5.out.cell (p := ⟨w.heap.size + 1, 0, none⟩) (by simp)]; exact q1
          go_wp2_with fail
          refine (find_any (.slice A ms.length c) ms n0 w5 (HRM.out.below (HB1.out.trans (HB5.out.mono (by omega))))).mono ?_
          rintro e wf ⟨⟨v, ok, rfl, hv⟩, hbf⟩
          have HBf := Lib.hid (HB5.out.trans (hbf.mono (by have := HB5.out.size; omega)))
          have hszf : w.heap.size + 2 ≤ wf.heap.size := by have := HBf.out.size; omega
          have hza : w.heap.size < wf.heap.size := by omega
          have hzb : w.heap.size + 1 < wf.heap.size := by omega
          clear hbf
          rcases hv with ⟨rfl, m, uv, hm, rfl, hu⟩ | ⟨rfl, rfl, hno⟩
          · obtain ⟨A3, c3, rfl, _⟩ := id hu
            have HU3 := Lib.hid hu
            have HM := Lib.hid hm
            have hmv : modVal m (.slice A3 m.users.length c3) = .agg #[.string (bs m.name), .string (bs m.root), .bool m.write, .int .i64 m.slots, .int .i64 m.quota, .slice A3 m.users.length c3] := rfl
            rw [hmv]
            have kf0 : wf.cell? ⟨w.heap.size, 0, none⟩ = some (.slice A ms.length c) := by rw [HBf.out.cell (p := ⟨w.heap.size, 0, none⟩) (by simp)]; exact q0
            have kf1 : wf.cell? ⟨w.heap.size + 1, 0, none⟩ = some (.string n0) := by rw [HBf.out.cell (p := ⟨w.heap.size + 1, 0, none⟩) (by simp)]; exact q1
            have kf2 : wf.cell? ⟨w.heap.size + 1, 1, none⟩ = some (.string n1) := by rw [HBf.out.cell (p := ⟨w.heap.size + 1, 1, none⟩) (by simp)]; exact q2
            clear hmv hm hu
            go_wp2_with fail
            go_loopw [82] (fun iv wr => ∃ i : Nat, i ≤ ms.length ∧ iv = .int .i64 i ∧ Below (wf.heap.size + 1) (wf.alloc (.cells #[.string (bs m.name), .string (bs m.root), .bool m.write, .int .i64 m.slots, .int .i64 m.quota, .slice A3 m.users.length c3] 41)) wr ∧ Hid (∀ (j : Nat) (x : Mdl), j < i → ms[j]? = some x → (x.name == n0.data.toList) = false)) (fun iv _ => ms.length - (intOf iv).toNat)
            case atStart => exact ⟨0, by omega, rfl, Below.refl _ _, Lib.hid (fun j x h => by omega)⟩
            case round =>
              obtain ⟨i, hi, rfl, hb, hall⟩ := hrel
              have hX : Below wf.heap.size wf wr := ((Below.refl _ _).alloc (Nat.le_refl _) _).trans (hb.mono (by omega))
              have hbw : Below w.heap.size w wr := HB1.out.trans ((HBf.out.trans (hX.mono (by omega))).mono (by omega))
              have kk0 := Below.cell_some hX (Nat.le_refl _) kf0
              have kk1 := Below.cell_some hX (Nat.le_refl _) kf1
              have kk2 := Below.cell_some hX (Nat.le_refl _) kf2
              have hszr : wf.heap.size < wr.heap.size := by have := hb.size; simp at this; omega
              have hszr0 : w.heap.size < wr.heap.size := by omega
              have hszr1 : w.heap.size + 1 < wr.heap.size := by omega
              have kmv : ∀ j, wr.cell? ⟨wf.heap.size, j, none⟩ = (#[Value.string (bs m.name), .string (bs m.root), .bool m.write, .int .i64 m.slots, .int .i64 m.quota, .slice A3 m.users.length c3] : Array Value)[j]? := by
                intro j
                rw [hb.cell (p := ⟨wf.heap.size, j, none⟩) (by simp), World.cell?_alloc_at _ _ _ _ rfl]
              by_cases hlt : i < ms.length
              · obtain ⟨g, o, hA, hcell⟩ := HR.out (by intro e; rw [e] at hlt; simp at hlt)
                have hu : ms[i]? = some ms[i] := List.getElem?_eq_getElem hlt
                subst hA
                obtain ⟨d0, d1, d2, d3, d4, uv, d5, hus⟩ := hcell i _ hu
                have HU := Lib.hid hu
                clear hu hcell
                generalize ms[i] = x at d0 d1 d2 d3 d4 d5 hus HU
                have hgl : g < w.heap.size := cell_lt d0
                have z0 := Below.cell_some hbw (Nat.le_refl _) d0
                have z1 := Below.cell_some hbw (Nat.le_refl _) d1
                have z2 := Below.cell_some hbw (Nat.le_refl _) d2
                have z3 := Below.cell_some hbw (Nat.le_refl _) d3
                have z4 := Below.cell_some hbw (Nat.le_refl _) d4
                have z5 := Below.cell_some hbw (Nat.le_refl _) d5
                have HUS := Lib.hid hus
                obtain ⟨A2, cc, huv, _⟩ := id hus
                subst huv
                clear d0 d1 d2 d3 d4 d5 hus
                have hnt := bs_eq' n0 x.name
                cases hnm : (x.name == n0.data.toList) with
                | false =>
                  rw [hnm] at hnt
                  have HALL : Hid (∀ (j : Nat) (y : Mdl), j < i + 1 → ms[j]? = some y → (y.name == n0.data.toList) = false) := Lib.hid (fun j y hj hy => by
                    by_cases hji : j < i
                    · exact hall.out j y hji hy
                    · have : j = i := by omega
                      subst this
                      rw [HU.out] at hy
                      injection hy with hy
                      rw [← hy]; exact hnm)
                  clear hnm kmv
                  generalize bs x.name = nmv at z0 hnt
                  go_wp2_with fail
                  go_roundw
                  case rel => exact ⟨i + 1, by omega, by go_num, hb.alloc (by omega) _, HALL⟩
                  case measure => simp [intOf]; omega
                | true =>
                  have hmx : m = x := by
                    have h1 := HM.out
                    unfold findM at h1
                    rw [find_at _ HU.out hnm hall.out] at h1
                    injection h1 with h1
                    exact h1.symm
                  obtain rfl := hmx
                  have y0 : wr.cell? ⟨wf.heap.size, 0, none⟩ = some (.string (bs m.name)) := kmv 0
                  have y1 : wr.cell? ⟨wf.heap.size, 1, none⟩ = some (.string (bs m.root)) := kmv 1
                  have y2 : wr.cell? ⟨wf.heap.size, 2, none⟩ = some (.bool m.write) := kmv 2
                  have y3 : wr.cell? ⟨wf.heap.size, 3, none⟩ = some (.int .i64 m.slots) := kmv 3
                  have y4 : wr.cell? ⟨wf.heap.size, 4, none⟩ = some (.int .i64 m.quota) := kmv 4
                  have y5 : wr.cell? ⟨wf.heap.size, 5, none⟩ = some (.slice A3 m.users.length c3) := kmv 5
                  have HX := Lib.hid hX
                  have HBW := Lib.hid hbw
                  rw [hnm] at hnt
                  clear hnm kmv hall
                  generalize bs m.name = nmv at z0 hnt y0
                  generalize bs m.root = rtv at z1 y1
                  go_wp2_with fail
                  refine (secret_any nmv rtv m.write m.slots m.quota (.slice A3 m.users.length c3) m.users n1 _ (HU3.out.below (HX.out.alloc HX.out.size _))).mono ?_
                  rintro e ws ⟨⟨t, known, rfl, hsec⟩, hbs⟩
                  have HSEC := Lib.hid hsec
                  have hbs2 := ((Below.refl wr.heap.size wr).alloc (Nat.le_refl _) (.cells #[.string nmv, .string rtv, .bool m.write, .int .i64 m.slots, .int .i64 m.quota, .slice A2 m.users.length cc] 41)).trans (hbs.mono (by simp))
                  have HBS2 := Lib.hid hbs2
                  have xz5 : ws.cell? ⟨wr.heap.size, 5, none⟩ = some (.slice A2 m.users.length cc) := by
                    rw [hbs.cell (p := ⟨wr.heap.size, 5, none⟩) (by simp), World.cell?_alloc_at _ _ _ _ rfl]; rfl
                  have xz1 : ws.cell? ⟨wr.heap.size, 1, none⟩ = some (.string rtv) := by
                    rw [hbs.cell (p := ⟨wr.heap.size, 1, none⟩) (by simp), World.cell?_alloc_at _ _ _ _ rfl]; rfl
                  have xy1 := Below.cell_some hbs2 (Nat.le_refl _) y1
                  have xk2 := Below.cell_some hbs2 (Nat.le_refl _) kk2
                  have hszs : wr.heap.size < ws.heap.size := by have := hbs.size; simp at this; omega
                  have hszs0 : wf.heap.size < ws.heap.size := by omega
                  have hszs1 : w.heap.size + 1 < ws.heap.size := by omega
                  clear hsec hbs hbs2
                  have HBS3 : Hid (Below w.heap.size w ws) := Lib.hid (HBW.out.trans (HBS2.out.mono (by omega)))
                  have hrr : (rtv.toList == rtv.toList) = true := by simp
                  obtain ⟨wo2, rfl⟩ : ∃ wo2 : World, wo2 = wr := ⟨_, rfl⟩
                  go_wp2_with fail
                  go_loopw [101] (fun iv wq => ∃ k : Nat, k ≤ m.users.length ∧ iv = .int .i64 k ∧ Below ws.heap.size ws wq ∧ Hid (∀ (j : Nat) (y : Usr), j < k → m.users[j]? = some y → (y.name == n1.data.toList) = false)) (fun iv _ => m.users.length - (intOf iv).toNat)
                  case atStart => exact ⟨0, by omega, rfl, Below.refl _ _, Lib.hid (fun j x h => by omega)⟩
                  case round =>
                    obtain ⟨k, hk, rfl, hbq, hallq⟩ := hrel
                    have wz1 := Below.cell_some hbq (Nat.le_refl _) xz1
                    have wy1 := Below.cell_some hbq (Nat.le_refl _) xy1
                    have wk2 := Below.cell_some hbq (Nat.le_refl _) xk2
                    have hszq := hbq.size
                    have hq0 : wo2.heap.size < wr.heap.size := by omega
                    have hq1 : wf.heap.size < wr.heap.size := by omega
                    have hq2 : w.heap.size + 1 < wr.heap.size := by omega
                    have hbq2 : Below w.heap.size w wr := HBS3.out.trans (hbq.mono (by omega))
                    have HBQ2 := Lib.hid hbq2
                    by_cases hkt : k < m.users.length
                    · obtain ⟨A4, c4, hA4, _, _, hcell2⟩ := HUS.out
                      injection hA4 with hA4 _ hc4
                      subst hA4
                      obtain ⟨g2, o2, hA2, hcell3⟩ := hcell2 (by intro e; rw [e] at hkt; simp at hkt)
                      subst hA2
                      have huu : m.users[k]? = some m.users[k] := List.getElem?_eq_getElem hkt
                      obtain ⟨e0, e1'⟩ := hcell3 k _ huu
                      have HUU := Lib.hid huu
                      clear hcell2 hcell3 huu
                      generalize m.users[k] = u at e0 e1' HUU
                      have hgl2 : g2 < w.heap.size := cell_lt e0
                      have v0 := Below.cell_some hbq2 (Nat.le_refl _) e0
                      have v1 := Below.cell_some hbq2 (Nat.le_refl _) e1'
                      clear e0 e1' hbq2
                      have hnt2 := bs_eq' n1 u.name
                      cases hnm2 : (u.name == n1.data.toList) with
                      | false =>
                        rw [hnm2] at hnt2
                        have HALL2 : Hid (∀ (j : Nat) (y : Usr), j < k + 1 → m.users[j]? = some y → (y.name == n1.data.toList) = false) := Lib.hid (fun j y hj hy => by
                          by_cases hji : j < k
                          · exact hallq.out j y hji hy
                          · have : j = k := by omega
                            subst this
                            rw [HUU.out] at hy
                            injection hy with hy
                            rw [← hy]; exact hnm2)
                        clear hnm2
                        generalize bs u.name = nmu at v0 hnt2
                        go_wp2_with fail
                        go_roundw
                        case rel => exact ⟨k + 1, by omega, by go_num, hbq.alloc (by omega) _, HALL2⟩
                        case measure => simp [intOf]; omega
                      | true =>
                        have hs2 := secret_at HUU.out hnm2 hallq.out
                        rcases HSEC.out with ⟨rfl, h9⟩ | ⟨_, _, h9⟩
                        · rw [hs2] at h9
                          injection h9 with h9
                          have ht2 : (t.toList == (bs u.secret).toList) = true := by rw [bs_eq, h9]; simp
                          rw [hnm2] at hnt2
                          clear hnm2 hs2 h9
                          generalize bs u.name = nmu at v0 hnt2
                          generalize bs u.secret = scu at v1 ht2
                          go_wp2_with fail
                          go_ret
                          exact ⟨rfl, HBQ2.out.alloc HBQ2.out.size _⟩
                        · rw [hs2] at h9; cases h9
                    · have hno2 := secret_none (us := m.users) (n := n1.data.toList) (fun j y hy => hallq.out j y (by have := (List.getElem?_eq_some_iff.1 hy).1; omega) hy)
                      rcases HSEC.out with ⟨_, h9⟩ | ⟨rfl, h9, _⟩
                      · rw [hno2] at h9; cases h9
                      · have ht2 : t.toList.isEmpty = true := by rw [isEmpty_toList, h9]; rfl
                        clear hno2 h9 hbq2
                        go_wp2_with fail
                        go_ret
                        exact ⟨rfl, HBQ2.out⟩
              · have hnone := findM_none (ms := ms) (n := n0.data.toList) (fun j y hy => hall.out j y (by have := (List.getElem?_eq_some_iff.1 hy).1; omega) hy)
                exact absurd (hnone.symm.trans HM.out) (by simp)
          · have hmz : modZero = .agg #[.string ⟨#[]⟩, .string ⟨#[]⟩, .bool false, .int .i64 0, .int .i64 0, .slice none 0 0] := rfl
            rw [hmz]
            have HNO : Hid (∀ (j : Nat) (x : Mdl), ms[j]? = some x → (x.name == n0.data.toList) = false) := Lib.hid (fun j x hx => by
              unfold findM at hno
              rw [List.find?_eq_none] at hno
              simpa using hno x (List.mem_of_getElem? hx))
            have kf0 : wf.cell? ⟨w.heap.size, 0, none⟩ = some (.slice A ms.length c) := by rw [HBf.out.cell (p := ⟨w.heap.size, 0, none⟩) (by simp)]; exact q0
            have kf1 : wf.cell? ⟨w.heap.size + 1, 0, none⟩ = some (.string n0) := by rw [HBf.out.cell (p := ⟨w.heap.size + 1, 0, none⟩) (by simp)]; exact q1
            clear hmz hno
            go_wp2_with fail
            go_loopw [82] (fun iv wr => ∃ i : Nat, i ≤ ms.length ∧ iv = .int .i64 i ∧ Below (wf.heap.size + 1) (wf.alloc (.cells #[.string ⟨#[]⟩, .string ⟨#[]⟩, .bool false, .int .i64 0, .int .i64 0, .slice none 0 0] 41)) wr) (fun iv _ => ms.length - (intOf iv).toNat)
            case atStart => exact ⟨0, by omega, rfl, Below.refl _ _⟩
            case round =>
              obtain ⟨i, hi, rfl, hb⟩ := hrel
              have hX : Below wf.heap.size wf wr := ((Below.refl _ _).alloc (Nat.le_refl _) _).trans (hb.mono (by omega))
              have hbw : Below w.heap.size w wr := HB1.out.trans ((HBf.out.trans (hX.mono (by omega))).mono (by omega))
              have kk0 := Below.cell_some hX (Nat.le_refl _) kf0
              have kk1 := Below.cell_some hX (Nat.le_refl _) kf1
              have hszr : wf.heap.size < wr.heap.size := by have := hb.size; simp at this; omega
              have hszr0 : w.heap.size < wr.heap.size := by omega
              have hszr1 : w.heap.size + 1 < wr.heap.size := by omega
              have kmv : ∀ j, wr.cell? ⟨wf.heap.size, j, none⟩ = (#[Value.string ⟨#[]⟩, .string ⟨#[]⟩, .bool false, .int .i64 0, .int .i64 0, .slice none 0 0] : Array Value)[j]? := by
                intro j
                rw [hb.cell (p := ⟨wf.heap.size, j, none⟩) (by simp), World.cell?_alloc_at _ _ _ _ rfl]
              by_cases hlt : i < ms.length
              · obtain ⟨g, o, hA, hcell⟩ := HR.out (by intro e; rw [e] at hlt; simp at hlt)
                have hu : ms[i]? = some ms[i] := List.getElem?_eq_getElem hlt
                subst hA
                obtain ⟨d0, d1, d2, d3, d4, uv, d5, hus⟩ := hcell i _ hu
                have hnm := HNO.out i _ hu
                clear hu hcell kmv
                generalize ms[i] = x at d0 d1 d2 d3 d4 d5 hus hnm
                have hgl : g < w.heap.size := cell_lt d0
                have z0 := Below.cell_some hbw (Nat.le_refl _) d0
                have z1 := Below.cell_some hbw (Nat.le_refl _) d1
                have z2 := Below.cell_some hbw (Nat.le_refl _) d2
                have z3 := Below.cell_some hbw (Nat.le_refl _) d3
                have z4 := Below.cell_some hbw (Nat.le_refl _) d4
                have z5 := Below.cell_some hbw (Nat.le_refl _) d5
                obtain ⟨A2, cc, huv, _⟩ := id hus
                subst huv
                have hnt := bs_eq' n0 x.name
                rw [hnm] at hnt
                clear d0 d1 d2 d3 d4 d5 hus hnm
                generalize bs x.name = nmv at z0 hnt
                go_wp2_with fail
                go_roundw
                case rel => exact ⟨i + 1, by omega, by go_num, hb.alloc (by omega) _⟩
                case measure => simp [intOf]; omega
              · have y0 : wr.cell? ⟨wf.heap.size, 0, none⟩ = some (.string ⟨#[]⟩) := kmv 0
                have y5 : wr.cell? ⟨wf.heap.size, 5, none⟩ = some (.slice none 0 0) := kmv 5
                clear kmv
                go_wp2_with fail
                go_ret
                exact ⟨rfl, hbw⟩
        · have F0 := Lib.hid f0
          have F1 := Lib.hid f1
          have t1 : (e1 == e1) = true := by simp
          have t0 : (e1 == 0) = false := by simpa using hne
          have t9 : ¬ e1 = 0 := hne
          have tp : ((p1 : Int) == (p1 : Int)) = true := by simp
          clear f0 f1 hne
          go_wp2_with fail
          refine (number_any _ e1 w4 HG4.out.err (ErrV.fault ⟨fb, 0, none⟩ e1 F1.out)).mono ?_
          rintro e w5 ⟨rfl, hb5⟩
          have F05 := Lib.hid (Below.cell_some hb5 (Nat.le_refl _) F0.out)
          have HB5 := Lib.hid (HB4.out.trans (hb5.mono (by have := HB4.out.size; omega)))
          have HG5 := Lib.hid (HG4.out.below hb5)
          clear hb5
          go_wp2_with fail
          refine (place_fault (p1 : Int) fb _ HG5.out.err F05.out).mono ?_
          rintro e w6 ⟨rfl, hb6⟩
          have HB6 := Lib.hid (HB5.out.trans (hb6.mono (by have := HB5.out.size; omega)))
          have HG6 := Lib.hid (HG5.out.below hb6)
          clear hb6
          have k06 : w6.cell? ⟨w.heap.size, 0, none⟩ = some (.slice A ms.length c) := by rw [HB6.out.cell (p := ⟨w.heap.size, 0, none⟩) (by simp)]; exact q0
          have k16 : w6.cell? ⟨w.heap.size + 1, 0, none⟩ = some (.string n0) := by rw [HB6.out.cell (p := ⟨w.heap.size + 1, 0, none⟩) (by simp)]; exact q1
          go_wp2_with fail
          refine (find_any (.slice A ms.length c) ms n0 w6 (HRM.out.below (HB1.out.trans (HB6.out.mono (by omega))))).mono ?_
          rintro e wf ⟨⟨v, ok, rfl, hv⟩, hbf⟩
          have HBf := Lib.hid (HB6.out.trans (hbf.mono (by have := HB6.out.size; omega)))
          have hszf : w.heap.size + 2 ≤ wf.heap.size := by have := HBf.out.size; omega
          have hza : w.heap.size < wf.heap.size := by omega
          have hzb : w.heap.size + 1 < wf.heap.size := by omega
          clear hbf
          rcases hv with ⟨rfl, m, uv, hm, rfl, hu⟩ | ⟨rfl, rfl, hno⟩
          · obtain ⟨A3, c3, rfl, _⟩ := id hu
            have HU3 := Lib.hid hu
            have HM := Lib.hid hm
            have hmv : modVal m (.slice A3 m.users.length c3) = .agg #[.string (bs m.name), .string (bs m.root), .bool m.write, .int .i64 m.slots, .int .i64 m.quota, .slice A3 m.users.length c3] := rfl
            rw [hmv]
            have kf0 : wf.cell? ⟨w.heap.size, 0, none⟩ = some (.slice A ms.length c) := by rw [HBf.out.cell (p := ⟨w.heap.size, 0, none⟩) (by simp)]; exact q0
            have kf1 : wf.cell? ⟨w.heap.size + 1, 0, none⟩ = some (.string n0) := by rw [HBf.out.cell (p := ⟨w.heap.size + 1, 0, none⟩) (by simp)]; exact q1
            have kf2 : wf.cell? ⟨w.heap.size + 1, 1, none⟩ = some (.string n1) := by rw [HBf.out.cell (p := ⟨w.heap.size + 1, 1, none⟩) (by simp)]; exact q2
            clear hmv hm hu
            go_wp2_with fail
            go_loopw [82] (fun iv wr => ∃ i : Nat, i ≤ ms.length ∧ iv = .int .i64 i ∧ Below (wf.heap.size + 1) (wf.alloc (.cells #[.string (bs m.name), .string (bs m.root), .bool m.write, .int .i64 m.slots, .int .i64 m.quota, .slice A3 m.users.length c3] 41)) wr ∧ Hid (∀ (j : Nat) (x : Mdl), j < i → ms[j]? = some x → (x.name == n0.data.toList) = false)) (fun iv _ => ms.length - (intOf iv).toNat)
            case atStart => exact ⟨0, by omega, rfl, Below.refl _ _, Lib.hid (fun j x h => by omega)⟩
            case round =>
              obtain ⟨i, hi, rfl, hb, hall⟩ := hrel
              have hX : Below wf.heap.size wf wr := ((Below.refl _ _).alloc (Nat.le_refl _) _).trans (hb.mono (by omega))
              have hbw : Below w.heap.size w wr := HB1.out.trans ((HBf.out.trans (hX.mono (by omega))).mono (by omega))
              have kk0 := Below.cell_some hX (Nat.le_refl _) kf0
              have kk1 := Below.cell_some hX (Nat.le_refl _) kf1
              have kk2 := Below.cell_some hX (Nat.le_refl _) kf2
              have hszr : wf.heap.size < wr.heap.size := by have := hb.size; simp at this; omega
              have hszr0 : w.heap.size < wr.heap.size := by omega
              have hszr1 : w.heap.size + 1 < wr.heap.size := by omega
              have kmv : ∀ j, wr.cell? ⟨wf.heap.size, j, none⟩ = (#[Value.string (bs m.name), .string (bs m.root), .bool m.write, .int .i64 m.slots, .int .i64 m.quota, .slice A3 m.users.length c3] : Array Value)[j]? := by
                intro j
                rw [hb.cell (p := ⟨wf.heap.size, j, none⟩) (by simp), World.cell?_alloc_at _ _ _ _ rfl]
              by_cases hlt : i < ms.length
              · obtain ⟨g, o, hA, hcell⟩ := HR.out (by intro e; rw [e] at hlt; simp at hlt)
                have hu : ms[i]? = some ms[i] := List.getElem?_eq_getElem hlt
                subst hA
                obtain ⟨d0, d1, d2, d3, d4, uv, d5, hus⟩ := hcell i _ hu
                have HU := Lib.hid hu
                clear hu hcell
                generalize ms[i] = x at d0 d1 d2 d3 d4 d5 hus HU
                have hgl : g < w.heap.size := cell_lt d0
                have z0 := Below.cell_some hbw (Nat.le_refl _) d0
                have z1 := Below.cell_some hbw (Nat.le_refl _) d1
                have z2 := Below.cell_some hbw (Nat.le_refl _) d2
                have z3 := Below.cell_some hbw (Nat.le_refl _) d3
                have z4 := Below.cell_some hbw (Nat.le_refl _) d4
                have z5 := Below.cell_some hbw (Nat.le_refl _) d5
                have HUS := Lib.hid hus
                obtain ⟨A2, cc, huv, _⟩ := id hus
                subst huv
                clear d0 d1 d2 d3 d4 d5 hus
                have hnt := bs_eq' n0 x.name
                cases hnm : (x.name == n0.data.toList) with
                | false =>
                  rw [hnm] at hnt
                  have HALL : Hid (∀ (j : Nat) (y : Mdl), j < i + 1 → ms[j]? = some y → (y.name == n0.data.toList) = false) := Lib.hid (fun j y hj hy => by
                    by_cases hji : j < i
                    · exact hall.out j y hji hy
                    · have : j = i := by omega
                      subst this
                      rw [HU.out] at hy
                      injection hy with hy
                      rw [← hy]; exact hnm)
                  clear hnm kmv
                  generalize bs x.name = nmv at z0 hnt
                  go_wp2_with fail
                  go_roundw
                  case rel => exact ⟨i + 1, by omega, by go_num, hb.alloc (by omega) _, HALL⟩
                  case measure => simp [intOf]; omega
                | true =>
                  have hmx : m = x := by
                    have h1 := HM.out
                    unfold findM at h1
                    rw [find_at _ HU.out hnm hall.out] at h1
                    injection h1 with h1
                    exact h1.symm
                  obtain rfl := hmx
                  have y0 : wr.cell? ⟨wf.heap.size, 0, none⟩ = some (.string (bs m.name)) := kmv 0
                  have y1 : wr.cell? ⟨wf.heap.size, 1, none⟩ = some (.string (bs m.root)) := kmv 1
                  have y2 : wr.cell? ⟨wf.heap.size, 2, none⟩ = some (.bool m.write) := kmv 2
                  have y3 : wr.cell? ⟨wf.heap.size, 3, none⟩ = some (.int .i64 m.slots) := kmv 3
                  have y4 : wr.cell? ⟨wf.heap.size, 4, none⟩ = some (.int .i64 m.quota) := kmv 4
                  have y5 : wr.cell? ⟨wf.heap.size, 5, none⟩ = some (.slice A3 m.users.length c3) := kmv 5
                  have HX := Lib.hid hX
                  have HBW := Lib.hid hbw
                  rw [hnm] at hnt
                  clear hnm kmv hall
                  generalize bs m.name = nmv at z0 hnt y0
                  generalize bs m.root = rtv at z1 y1
                  go_wp2_with fail
                  refine (secret_any nmv rtv m.write m.slots m.quota (.slice A3 m.users.length c3) m.users n1 _ (HU3.out.below (HX.out.alloc HX.out.size _))).mono ?_
                  rintro e ws ⟨⟨t, known, rfl, hsec⟩, hbs⟩
                  have HSEC := Lib.hid hsec
                  have hbs2 := ((Below.refl wr.heap.size wr).alloc (Nat.le_refl _) (.cells #[.string nmv, .string rtv, .bool m.write, .int .i64 m.slots, .int .i64 m.quota, .slice A2 m.users.length cc] 41)).trans (hbs.mono (by simp))
                  have HBS2 := Lib.hid hbs2
                  have xz5 : ws.cell? ⟨wr.heap.size, 5, none⟩ = some (.slice A2 m.users.length cc) := by
                    rw [hbs.cell (p := ⟨wr.heap.size, 5, none⟩) (by simp), World.cell?_alloc_at _ _ _ _ rfl]; rfl
                  have xz1 : ws.cell? ⟨wr.heap.size, 1, none⟩ = some (.string rtv) := by
                    rw [hbs.cell (p := ⟨wr.heap.size, 1, none⟩) (by simp), World.cell?_alloc_at _ _ _ _ rfl]; rfl
                  have xy1 := Below.cell_some hbs2 (Nat.le_refl _) y1
                  have xk2 := Below.cell_some hbs2 (Nat.le_refl _) kk2
                  have hszs : wr.heap.size < ws.heap.size := by have := hbs.size; simp at this; omega
                  have hszs0 : wf.heap.size < ws.heap.size := by omega
                  have hszs1 : w.heap.size + 1 < ws.heap.size := by omega
                  clear hsec hbs hbs2
                  have HBS3 : Hid (Below w.heap.size w ws) := Lib.hid (HBW.out.trans (HBS2.out.mono (by omega)))
                  have hrr : (rtv.toList == rtv.toList) = true := by simp
                  obtain ⟨wo2, rfl⟩ : ∃ wo2 : World, wo2 = wr := ⟨_, rfl⟩
                  go_wp2_with fail
                  go_loopw [101] (fun iv wq => ∃ k : Nat, k ≤ m.users.length ∧ iv = .int .i64 k ∧ Below ws.heap.size ws wq ∧ Hid (∀ (j : Nat) (y : Usr), j < k → m.users[j]? = some y → (y.name == n1.data.toList) = false)) (fun iv _ => m.users.length - (intOf iv).toNat)
                  case atStart => exact ⟨0, by omega, rfl, Below.refl _ _, Lib.hid (fun j x h => by omega)⟩
                  case round =>
                    obtain ⟨k, hk, rfl, hbq, hallq⟩ := hrel
                    have wz1 := Below.cell_some hbq (Nat.le_refl _) xz1
                    have wy1 := Below.cell_some hbq (Nat.le_refl _) xy1
                    have wk2 := Below.cell_some hbq (Nat.le_refl _) xk2
                    have hszq := hbq.size
                    have hq0 : wo2.heap.size < wr.heap.size := by omega
                    have hq1 : wf.heap.size < wr.heap.size := by omega
                    have hq2 : w.heap.size + 1 < wr.heap.size := by omega
                    have hbq2 : Below w.heap.size w wr := HBS3.out.trans (hbq.mono (by omega))
                    have HBQ2 := Lib.hid hbq2
                    by_cases hkt : k < m.users.length
                    · obtain ⟨A4, c4, hA4, _, _, hcell2⟩ := HUS.out
                      injection hA4 with hA4 _ hc4
                      subst hA4
                      obtain ⟨g2, o2, hA2, hcell3⟩ := hcell2 (by intro e; rw [e] at hkt; simp at hkt)
                      subst hA2
                      have huu : m.users[k]? = some m.users[k] := List.getElem?_eq_getElem hkt
                      obtain ⟨e0, e1'⟩ := hcell3 k _ huu
                      have HUU := Lib.hid huu
                      clear hcell2 hcell3 huu
                      generalize m.users[k] = u at e0 e1' HUU
                      have hgl2 : g2 < w.heap.size := cell_lt e0
                      have v0 := Below.cell_some hbq2 (Nat.le_refl _) e0
                      have v1 := Below.cell_some hbq2 (Nat.le_refl _) e1'
                      clear e0 e1' hbq2
                      have hnt2 := bs_eq' n1 u.name
                      cases hnm2 : (u.name == n1.data.toList) with
                      | false =>
                        rw [hnm2] at hnt2
                        have HALL2 : Hid (∀ (j : Nat) (y : Usr), j < k + 1 → m.users[j]? = some y → (y.name == n1.data.toList) = false) := Lib.hid (fun j y hj hy => by
                          by_cases hji : j < k
                          · exact hallq.out j y hji hy
                          · have : j = k := by omega
                            subst this
                            rw [HUU.out] at hy
                            injection hy with hy
                            rw [← hy]; exact hnm2)
                        clear hnm2
                        generalize bs u.name = nmu at v0 hnt2
                        go_wp2_with fail
                        go_roundw
                        case rel => exact ⟨k + 1, by omega, by go_num, hbq.alloc (by omega) _, HALL2⟩
                        case measure => simp [intOf]; omega
                      | true =>
                        have hs2 := secret_at HUU.out hnm2 hallq.out
                        rcases HSEC.out with ⟨rfl, h9⟩ | ⟨_, _, h9⟩
                        · rw [hs2] at h9
                          injection h9 with h9
                          have ht2 : (t.toList == (bs u.secret).toList) = true := by rw [bs_eq, h9]; simp
                          rw [hnm2] at hnt2
                          clear hnm2 hs2 h9
                          generalize bs u.name = nmu at v0 hnt2
                          generalize bs u.secret = scu at v1 ht2
                          go_wp2_with fail
                          go_ret
                          exact ⟨rfl, HBQ2.out.alloc HBQ2.out.size _⟩
                        · rw [hs2] at h9; cases h9
                    · have hno2 := secret_none (us := m.users) (n := n1.data.toList) (fun j y hy => hallq.out j y (by have := (List.getElem?_eq_some_iff.1 hy).1; omega) hy)
                      rcases HSEC.out with ⟨_, h9⟩ | ⟨rfl, h9, _⟩
                      · rw [hno2] at h9; cases h9
                      · have ht2 : t.toList.isEmpty = true := by rw [isEmpty_toList, h9]; rfl
                        clear hno2 h9 hbq2
                        go_wp2_with fail
                        go_ret
                        exact ⟨rfl, HBQ2.out⟩
              · have hnone := findM_none (ms := ms) (n := n0.data.toList) (fun j y hy => hall.out j y (by have := (List.getElem?_eq_some_iff.1 hy).1; omega) hy)
                exact absurd (hnone.symm.trans HM.out) (by simp)
          · have hmz : modZero = .agg #[.string ⟨#[]⟩, .string ⟨#[]⟩, .bool false, .int .i64 0, .int .i64 0, .slice none 0 0] := rfl
            rw [hmz]
            have HNO : Hid (∀ (j : Nat) (x : Mdl), ms[j]? = some x → (x.name == n0.data.toList) = false) := Lib.hid (fun j x hx => by
              unfold findM at hno
              rw [List.find?_eq_none] at hno
              simpa using hno x (List.mem_of_getElem? hx))
            have kf0 : wf.cell? ⟨w.heap.size, 0, none⟩ = some (.slice A ms.length c) := by rw [HBf.out.cell (p := ⟨w.heap.size, 0, none⟩) (by simp)]; exact q0
            have kf1 : wf.cell? ⟨w.heap.size + 1, 0, none⟩ = some (.string n0) := by rw [HBf.out.cell (p := ⟨w.heap.size + 1, 0, none⟩) (by simp)]; exact q1
            clear hmz hno
            go_wp2_with fail
            go_loopw [82] (fun iv wr => ∃ i : Nat, i ≤ ms.length ∧ iv = .int .i64 i ∧ Below (wf.heap.size + 1) (wf.alloc (.cells #[.string ⟨#[]⟩, .string ⟨#[]⟩, .bool false, .int .i64 0, .int .i64 0, .slice none 0 0] 41)) wr) (fun iv _ => ms.length - (intOf iv).toNat)
            case atStart => exact ⟨0, by omega, rfl, Below.refl _ _⟩
            case round =>
              obtain ⟨i, hi, rfl, hb⟩ := hrel
              have hX : Below wf.heap.size wf wr := ((Below.refl _ _).alloc (Nat.le_refl _) _).trans (hb.mono (by omega))
              have hbw : Below w.heap.size w wr := HB1.out.trans ((HBf.out.trans (hX.mono (by omega))).mono (by omega))
              have kk0 := Below.cell_some hX (Nat.le_refl _) kf0
              have kk1 := Below.cell_some hX (Nat.le_refl _) kf1
              have hszr : wf.heap.size < wr.heap.size := by have := hb.size; simp at this; omega
              have hszr0 : w.heap.size < wr.heap.size := by omega
              have hszr1 : w.heap.size + 1 < wr.heap.size := by omega
              have kmv : ∀ j, wr.cell? ⟨wf.heap.size, j, none⟩ = (#[Value.string ⟨#[]⟩, .string ⟨#[]⟩, .bool false, .int .i64 0, .int .i64 0, .slice none 0 0] : Array Value)[j]? := by
                intro j
                rw [hb.cell (p := ⟨wf.heap.size, j, none⟩) (by simp), World.cell?_alloc_at _ _ _ _ rfl]
              by_cases hlt : i < ms.length
              · obtain ⟨g, o, hA, hcell⟩ := HR.out (by intro e; rw [e] at hlt; simp at hlt)
                have hu : ms[i]? = some ms[i] := List.getElem?_eq_getElem hlt
                subst hA
                obtain ⟨d0, d1, d2, d3, d4, uv, d5, hus⟩ := hcell i _ hu
                have hnm := HNO.out i _ hu
                clear hu hcell kmv
                generalize ms[i] = x at d0 d1 d2 d3 d4 d5 hus hnm
                have hgl : g < w.heap.size := cell_lt d0
                have z0 := Below.cell_some hbw (Nat.le_refl _) d0
                have z1 := Below.cell_some hbw (Nat.le_refl _) d1
                have z2 := Below.cell_some hbw (Nat.le_refl _) d2
                have z3 := Below.cell_some hbw (Nat.le_refl _) d3
                have z4 := Below.cell_some hbw (Nat.le_refl _) d4
                have z5 := Below.cell_some hbw (Nat.le_refl _) d5
                obtain ⟨A2, cc, huv, _⟩ := id hus
                subst huv
                have hnt := bs_eq' n0 x.name
                rw [hnm] at hnt
                clear d0 d1 d2 d3 d4 d5 hus hnm
                generalize bs x.name = nmv at z0 hnt
                go_wp2_with fail
                go_roundw
                case rel => exact ⟨i + 1, by omega, by go_num, hb.alloc (by omega) _⟩
                case measure => simp [intOf]; omega
              · have y0 : wr.cell? ⟨wf.heap.size, 0, none⟩ = some (.string ⟨#[]⟩) := kmv 0
                have y5 : wr.cell? ⟨wf.heap.size, 5, none⟩ = some (.slice none 0 0) := kmv 5
                clear kmv
                go_wp2_with fail
                go_ret
                exact ⟨rfl, hbw⟩
end Go.Proofs.YtkbamneecfmibaaGreatDoor
