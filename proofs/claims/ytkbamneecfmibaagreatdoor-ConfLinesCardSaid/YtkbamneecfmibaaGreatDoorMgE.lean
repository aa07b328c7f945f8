/- wharfingerlaw13.parses answers true. Condition: GW. wharfingerlaw13.like answers true of the same modules. Conditions: where they lie. wharfingerlaw13.ConfParses answers true at every text: the walk. Condition: GW. -/
import Derived.Test.YtkbamneecfmibaaGreatDoorParse
import Derived.Test.YtkbamneecfmibaaGreatDoorPlace
import Derived.Test.YtkbamneecfmibaaGreatDoorMgD
import Derived.BigQuiet
namespace Go.Proofs.YtkbamneecfmibaaGreatDoor
open Go.RowKit
open C

def homeText : ByteArray := ⟨#[35, 32, 97, 108, 108, 10, 91, 104, 111, 109, 101, 93, 10, 114, 111, 111, 116, 32, 61, 32, 97, 47, 98, 10, 119, 114, 105, 116, 101, 32, 61, 32, 121, 101, 115, 10, 117, 115, 101, 114, 32, 61, 32, 97, 110, 110, 58, 115, 101, 99, 114, 101, 116]⟩
def homeM : Mdl := ⟨[104, 111, 109, 101], [97, 47, 98], true, 16, 262144, [⟨[97, 110, 110], [115, 101, 99, 114, 101, 116]⟩]⟩
theorem home_parse : parse homeText.data.toList = (0, 0, [homeM]) := by decide +kernel
theorem home_find : findM [homeM] [104, 111, 109, 101] = some homeM := by decide +kernel
theorem home_secret : secretOf homeM.users [97, 110, 110] = some [115, 101, 99, 114, 101, 116] := by decide +kernel

set_option maxRecDepth 100000 in
set_option maxHeartbeats 4000000 in
theorem head_any (w : World) (hG : GW w) :
    Calls Tryz.prog 9 #[] w fun e w' => e = .returned (.bool true) ∧ Below w.heap.size w w' := by
  have HG := Lib.hid hG
  clear hG
  go_enter Tryz.func9, Tryz.ntmps9
  go_wp2_with fail
  refine (parse_any homeText _ (by decide) HG.out).mono ?_
  rintro e w1 ⟨v, ev, rfl, hb1, h⟩
  rw [home_parse] at h
  rcases h with ⟨_, rfl, L, hL, hown⟩ | ⟨h0, _⟩
  · have hrd := hown.rd
    rw [hL] at hrd
    obtain ⟨A, c, rfl, _⟩ := id hrd
    have HRD := Lib.hid hrd
    have HB1 := Lib.hid hb1
    clear hL hown hrd hb1
    go_wp2_with fail
    refine (find_any _ [homeM] ⟨#[104, 111, 109, 101]⟩ _ (HRD.out.below ((Below.refl _ _).alloc (Nat.le_refl _) _))).mono ?_
    rintro e w2 ⟨⟨v, ok, rfl, hf⟩, hb2⟩
    rcases hf with ⟨rfl, m, uv, hm, rfl, hu⟩ | ⟨_, _, hno⟩
    · have em : m = homeM := by
        have := home_find.symm.trans hm
        injection this with this; exact this.symm
      subst em
      obtain ⟨A2, c2, rfl, _⟩ := id hu
      have HU := Lib.hid hu
      have HB2 := Lib.hid ((HB1.out.alloc HB1.out.size (.cells #[.slice A 1 c] tConf)).trans (hb2.mono (by have := HB1.out.size; simp; omega)))
      clear hu hb2 hm
      have hmvv : modVal homeM (.slice A2 homeM.users.length c2) = .agg #[.string (bs homeM.name), .string (bs homeM.root), .bool true, .int .i64 16, .int .i64 262144, .slice A2 1 c2] := rfl
      rw [hmvv]
      clear hmvv
      have t1 : ((bs homeM.root).toList == [97, 47, 98]) = true := by rw [Lib.toList_data]; rfl
      generalize bs homeM.name = nmv
      generalize bs homeM.root = rtv at t1
      go_wp2_with fail
      refine (secret_any nmv rtv true 16 262144 (.slice A2 1 c2) homeM.users ⟨#[97, 110, 110]⟩ _ (HU.out.below ((Below.refl _ _).alloc (Nat.le_refl _) _))).mono ?_
      rintro e w3 ⟨⟨t, ok, rfl, hs⟩, hb3⟩
      rcases hs with ⟨rfl, hs⟩ | ⟨_, _, hno⟩
      · have ht : t.data.toList = [115, 101, 99, 114, 101, 116] := by
          have := home_secret.symm.trans hs
          injection this with this; exact this.symm
        have t2 : (t.toList == [115, 101, 99, 114, 101, 116]) = true := by rw [Lib.toList_data, ht]; rfl
        have hcell : ∀ j, w3.cell? ⟨w2.heap.size, j, none⟩ = (#[.string nmv, .string rtv, .bool true, .int .i64 16, .int .i64 262144, .slice A2 1 c2] : Array Value)[j]? := by
          intro j
          rw [hb3.cell (p := ⟨w2.heap.size, j, none⟩) (by simp), World.cell?_alloc_at _ _ _ _ rfl]
        have k1 : w3.cell? ⟨w2.heap.size, 1, none⟩ = some (.string rtv) := hcell 1
        have k2 : w3.cell? ⟨w2.heap.size, 2, none⟩ = some (.bool true) := hcell 2
        have k3 : w3.cell? ⟨w2.heap.size, 3, none⟩ = some (.int .i64 16) := hcell 3
        have k4 : w3.cell? ⟨w2.heap.size, 4, none⟩ = some (.int .i64 262144) := hcell 4
        have HB3 := Lib.hid (HB2.out.trans (((Below.refl _ _).alloc HB2.out.size _).trans (hb3.mono (by have := HB2.out.size; simp; omega))))
        clear hs ht hcell hb3
        go_wp2_with fail
        go_ret
        exact ⟨rfl, HB3.out⟩
      · exact absurd (home_secret.symm.trans hno) (by decide)
    · exact absurd (home_find.symm.trans hno) (by decide)
  · exact absurd rfl h0
end Go.Proofs.YtkbamneecfmibaaGreatDoor
namespace Go.Proofs.YtkbamneecfmibaaGreatDoor
open Go.RowKit
open C PConfWrites Go.Proofs.YtkbamneecfmibaaGreatDoorW.PrintWords

set_option maxRecDepth 100000 in
set_option maxHeartbeats 2000000 in
theorem like_true (mv : Value) (ms : List Mdl) (X : List XM) (A : Option Addr) (c : Nat) (w : World) (hr : RdMod w mv ms) (hx : ROut w (.slice A X.length c) X) (he : X.map (·.1) = ms) :
    Calls Tryz.prog 14 #[.agg #[mv], .slice A X.length c] w fun e w' => e = .returned (.bool true) ∧ Below w.heap.size w w' := by
  obtain ⟨A1, c1, rfl, hc1, hcm, hr⟩ := hr
  have hlen : X.length = ms.length := by rw [← he, List.length_map]
  have HR := Lib.hid hr
  have HX := Lib.hid hx
  have HE := Lib.hid he
  have HLN := Lib.hid hlen
  rw [hlen]
  clear hr hx he hlen
  go_enter Tryz.func14, Tryz.ntmps14
  go_wp2_with fail
  go_loopw [19] (fun iv wr => ∃ i : Nat, i ≤ ms.length ∧ iv = .int .i64 i ∧ Below w.heap.size w wr) (fun iv _ => ms.length - (intOf iv).toNat)
  case atStart => exact ⟨0, by omega, rfl, (Below.refl _ _).alloc (Nat.le_refl _) _⟩
  case round =>
    obtain ⟨i, hi, rfl, hb⟩ := hrel
    have HB := Lib.hid hb
    have hszr : w.heap.size ≤ wr.heap.size := hb.size
    clear hb
    by_cases hlt : i < ms.length
    · obtain ⟨g, o, hA, hcell⟩ := HR.out (by intro e; rw [e] at hlt; simp at hlt)
      subst hA
      obtain ⟨⟨m, uv2, sv, S⟩, hq⟩ : ∃ q : XM, X[i]? = some q := ⟨X[i]'(by rw [HLN.out]; exact hlt), List.getElem?_eq_getElem _⟩
      have hu : ms[i]? = some m := by rw [← HE.out, List.getElem?_map, hq]; rfl
      obtain ⟨d0, d1, d2, d3, d4, uv, d5, hus⟩ := hcell i _ hu
      have hmem := List.mem_of_getElem? hq
      obtain ⟨A3, c3, hA3, hru⟩ := HX.out.usr _ hmem
      obtain ⟨A4, c4, hA4, _⟩ := HX.out.sn _ hmem
      have hA3' : uv2 = .slice A3 m.users.length c3 := hA3
      have hA4' : sv = .slice A4 S.length c4 := hA4
      subst hA3' hA4'
      obtain ⟨g2, o2, c2', hv2, _, _, hcell2⟩ := HX.out.flat.cell (by rw [HLN.out]; omega)
      have hv2' : A = some ⟨g2, o2, none⟩ := by injection hv2
      subst hv2'
      have y0 := hcell2 (i * 7 + 0) (.string (bs m.name)) (by rw [xc_at hq 0 (by omega)]; rfl)
      have y1 := hcell2 (i * 7 + 1) (.string (bs m.root)) (by rw [xc_at hq 1 (by omega)]; rfl)
      have y2 := hcell2 (i * 7 + 2) (.bool m.write) (by rw [xc_at hq 2 (by omega)]; rfl)
      have y3 := hcell2 (i * 7 + 3) (.int .i64 m.slots) (by rw [xc_at hq 3 (by omega)]; rfl)
      have y4 := hcell2 (i * 7 + 4) (.int .i64 m.quota) (by rw [xc_at hq 4 (by omega)]; rfl)
      have y5 := hcell2 (i * 7 + 5) (.slice A3 m.users.length c3) (by rw [xc_at hq 5 (by omega)]; rfl)
      have y6 := hcell2 (i * 7 + 6) (.slice A4 S.length c4) (by rw [xc_at hq 6 (by omega)]; rfl)
      simp only [Nat.add_zero, ← Nat.add_assoc] at y0 y1 y2 y3 y4 y5 y6
      have z0 := Below.cell_some HB.out (Nat.le_refl _) d0
      have z1 := Below.cell_some HB.out (Nat.le_refl _) d1
      have z2 := Below.cell_some HB.out (Nat.le_refl _) d2
      have z3 := Below.cell_some HB.out (Nat.le_refl _) d3
      have z4 := Below.cell_some HB.out (Nat.le_refl _) d4
      have z5 := Below.cell_some HB.out (Nat.le_refl _) d5
      have hgl : g < w.heap.size := cell_lt d0
      have hgl2 : g2 < w.heap.size := cell_lt y0
      have x0 := Below.cell_some HB.out (Nat.le_refl _) y0
      have x1 := Below.cell_some HB.out (Nat.le_refl _) y1
      have x2 := Below.cell_some HB.out (Nat.le_refl _) y2
      have x3 := Below.cell_some HB.out (Nat.le_refl _) y3
      have x4 := Below.cell_some HB.out (Nat.le_refl _) y4
      have x5 := Below.cell_some HB.out (Nat.le_refl _) y5
      have x6 := Below.cell_some HB.out (Nat.le_refl _) y6
      have hglr : g < wr.heap.size := by omega
      have hgl2r : g2 < wr.heap.size := by omega
      obtain ⟨A5, c5, huv, hus2, _, hus3⟩ := hus
      subst huv
      have HUS := Lib.hid hus3
      have HRU := Lib.hid hru
      have hbn : ((bs m.name).toList == (bs m.name).toList) = true := by simp
      have hbr : ((bs m.root).toList == (bs m.root).toList) = true := by simp
      clear hcell hu hq hmem hcell2 d0 d1 d2 d3 d4 d5 y0 y1 y2 y3 y4 y5 y6 hus3 hru hA3 hA4 hv2
      generalize bs m.name = nmv at z0 x0 hbn
      generalize bs m.root = rtv at z1 x1 hbr
      generalize m.write = wb at z2 x2
      generalize m.slots = sl at z3 x3
      generalize m.quota = qt at z4 x4
      obtain ⟨wo, rfl⟩ : ∃ wo : World, wo = wr := ⟨_, rfl⟩
      go_wp2_with fail
      have hW0 : Below w.heap.size w ((wo.alloc (.cells #[.string nmv, .string rtv, .bool wb, .int .i64 sl, .int .i64 qt, .slice A5 m.users.length c5] 41)).alloc (.cells #[.string nmv, .string rtv, .bool wb, .int .i64 sl, .int .i64 qt, .slice A3 m.users.length c3, .slice A4 S.length c4] 45)) := (HB.out.alloc (by omega) _).alloc (by simp; omega) _
      have HW0 := Lib.hid hW0
      have hbf : ((wo.alloc (.cells #[.string nmv, .string rtv, .bool wb, .int .i64 sl, .int .i64 qt, .slice A5 m.users.length c5] 41)).alloc (.cells #[.string nmv, .string rtv, .bool wb, .int .i64 sl, .int .i64 qt, .slice A3 m.users.length c3, .slice A4 S.length c4] 45)).cell? ⟨wo.heap.size + 1, 5, none⟩ = some (.slice A3 m.users.length c3) := by
        have h := (box7_new (wo.alloc (.cells #[.string nmv, .string rtv, .bool wb, .int .i64 sl, .int .i64 qt, .slice A5 m.users.length c5] 41)) (.string nmv) (.string rtv) (.bool wb) (.int .i64 sl) (.int .i64 qt) (.slice A3 m.users.length c3) (.slice A4 S.length c4) 45).1.2.2.2.2.2.1
        rw [show (wo.alloc (.cells #[.string nmv, .string rtv, .bool wb, .int .i64 sl, .int .i64 qt, .slice A5 m.users.length c5] 41)).heap.size = wo.heap.size + 1 from by simp] at h
        exact h
      have HBF := Lib.hid hbf
      have hsz0 : ((wo.alloc (.cells #[.string nmv, .string rtv, .bool wb, .int .i64 sl, .int .i64 qt, .slice A5 m.users.length c5] 41)).alloc (.cells #[.string nmv, .string rtv, .bool wb, .int .i64 sl, .int .i64 qt, .slice A3 m.users.length c3, .slice A4 S.length c4] 45)).heap.size = wo.heap.size + 2 := by simp
      have HSZ0 := Lib.hid hsz0
      clear hW0 hbf hsz0 z0 z1 z2 z3 z4 z5 x0 x1 x2 x3 x4 x5 x6
      go_loopw [73] (fun iv wr => ∃ k : Nat, k ≤ m.users.length ∧ iv = .int .i64 k ∧ Below (wo.heap.size + 2) ((wo.alloc (.cells #[.string nmv, .string rtv, .bool wb, .int .i64 sl, .int .i64 qt, .slice A5 m.users.length c5] 41)).alloc (.cells #[.string nmv, .string rtv, .bool wb, .int .i64 sl, .int .i64 qt, .slice A3 m.users.length c3, .slice A4 S.length c4] 45)) wr) (fun iv _ => m.users.length - (intOf iv).toNat)
      case atStart => exact ⟨0, by omega, rfl, Below.refl _ _⟩
      case round =>
        obtain ⟨k, hk, rfl, hbq⟩ := hrel
        have HBQ := Lib.hid hbq
        have hbw : Below w.heap.size w wr := HW0.out.trans (hbq.mono (by omega))
        have hszq : wo.heap.size + 2 ≤ wr.heap.size := by have := hbq.size; rw [HSZ0.out] at this; exact this
        have k5 : wr.cell? ⟨wo.heap.size + 1, 5, none⟩ = some (.slice A3 m.users.length c3) := by
          rw [hbq.cell (p := ⟨wo.heap.size + 1, 5, none⟩) (by show wo.heap.size + 1 < _; omega)]
          exact HBF.out
        have HBW := Lib.hid hbw
        have hq1 : wo.heap.size + 1 < wr.heap.size := by omega
        clear hbq hbw
        by_cases hkt : k < m.users.length
        · obtain ⟨gu, ou, hA5, hcu⟩ := HUS.out (by intro e; rw [e] at hkt; simp at hkt)
          subst hA5
          have huu : m.users[k]? = some m.users[k] := List.getElem?_eq_getElem hkt
          obtain ⟨e0, e1⟩ := hcu k _ huu
          obtain ⟨gr, orr, cr, hv3, _, _, hcr⟩ := HRU.out.cell (by omega)
          have hv3' : A3 = some ⟨gr, orr, none⟩ := by injection hv3
          subst hv3'
          have r0 := hcr (k * 2 + 0) (.string (bs m.users[k].name)) (by unfold usrCells; rw [flat_at ucells 2 (fun _ => rfl) m.users k _ 0 huu (by omega)]; rfl)
          have r1 := hcr (k * 2 + 1) (.string (bs m.users[k].secret)) (by unfold usrCells; rw [flat_at ucells 2 (fun _ => rfl) m.users k _ 1 huu (by omega)]; rfl)
          simp only [Nat.add_zero, ← Nat.add_assoc] at r0 r1
          clear hcu hcr huu hv3
          generalize m.users[k] = u at e0 e1 r0 r1
          have hgu : gu < w.heap.size := cell_lt e0
          have hgr : gr < w.heap.size := cell_lt r0
          have s0 := Below.cell_some HBW.out (Nat.le_refl _) e0
          have s1 := Below.cell_some HBW.out (Nat.le_refl _) e1
          have t0 := Below.cell_some HBW.out (Nat.le_refl _) r0
          have t1 := Below.cell_some HBW.out (Nat.le_refl _) r1
          have hgu2 : gu < wr.heap.size := by omega
          have hgr2 : gr < wr.heap.size := by omega
          clear e0 e1 r0 r1
          have hn1 : ((bs u.name).toList == (bs u.name).toList) = true := by simp
          have hn2 : ((bs u.secret).toList == (bs u.secret).toList) = true := by simp
          have hkI : (k : Int) < (m.users.length : Int) := by omega
          have hkI0 : (0 : Int) ≤ (k : Int) := by omega
          generalize bs u.name = unv at s0 t0 hn1
          generalize bs u.secret = usv at s1 t1 hn2
          go_wp2_with fail
          go_quiet (fail)
          go_wp2_with fail
          go_roundw
          case rel => exact ⟨k + 1, by omega, by go_num, pw_below_drewN (HBQ.out.alloc (by omega) _) nq⟩
          case measure => simp [intOf]; omega
        · go_wp2_with fail
          go_roundw
          case rel => exact ⟨i + 1, by omega, by go_num, HBW.out⟩
          case measure => simp [intOf]; omega
    · go_wp2_with fail
      go_ret
      exact ⟨rfl, HB.out⟩
end Go.Proofs.YtkbamneecfmibaaGreatDoor
namespace Go.Proofs.YtkbamneecfmibaaGreatDoor
open Go.RowKit
open C

theorem parse_nil {t : Bs} (h : (C.parse t).1 ≠ 0) : (C.parse t).2.2 = [] := by
  unfold C.parse at h ⊢
  by_cases h1 : 8192 < t.length
  · rw [if_pos h1]
  · rw [if_neg h1] at h ⊢
    simp only at h ⊢
    by_cases h2 : (goLines 0 (splitOn 10 t) [] []).1 = 0
    · rw [if_pos h2] at h ⊢
      by_cases h3 : (checkMs (goLines 0 (splitOn 10 t) [] []).2.2).1 = 0
      · rw [if_pos h3] at h; exact absurd rfl h
      · rw [if_neg h3]
    · rw [if_neg h2]
theorem rdmod_nil (w : World) : RdMod w (.slice none 0 0) [] := ⟨none, 0, rfl, Nat.le_refl _, by omega, fun h => absurd rfl h⟩

set_option maxRecDepth 100000 in
set_option maxHeartbeats 2000000 in
theorem parses_any (text : ByteArray) (w : World) (hG : GW w) :
    Calls Tryz.prog 3 #[.string text] w fun e w' => e = .returned (.bool true) ∧ Below w.heap.size w w' := by
  have HG := Lib.hid hG
  clear hG
  go_enter Tryz.func3, Tryz.ntmps3
  go_wp2_with fail
  refine (head_any _ HG.out).mono ?_
  rintro e w1 ⟨rfl, hb1⟩
  have HB1 := Lib.hid hb1
  have HG1 := Lib.hid (HG.out.below hb1)
  have hsz1 : w.heap.size ≤ w1.heap.size := hb1.size
  clear hb1
  by_cases h9 : 9000 < text.size
  · go_wp2_with fail
    go_ret
    exact ⟨rfl, HB1.out⟩
  · have HPA := Lib.hid (parse_any text w1 (by omega) HG1.out)
    have HPR := Lib.hid (fun w => (show Calls Tryz.prog 11 #[.string text] w (PRef text.data.toList w) from refParse_any text.data.toList w))
    have HNIL := Lib.hid (parse_nil (t := text.data.toList))
    have hPP : ∀ e w', PParse text.data.toList w1 e w' → PParse text.data.toList w1 e w' := fun _ _ h => h
    go_wp2_with fail
    refine HPA.out.mono ?_
    rintro e w2 ⟨v, ev, rfl, hb2, hcase⟩
    have HB2 := Lib.hid (HB1.out.trans (hb2.mono (by omega)))
    have HG2 := Lib.hid (HG1.out.below hb2)
    have hsz2 : w1.heap.size ≤ w2.heap.size := hb2.size
    have hvs : ∃ Av nv cv, v = .slice Av nv cv := by
      rcases hcase with ⟨_, _, L, _, hown⟩ | ⟨_, hv, _⟩
      · obtain ⟨Av, cv, h⟩ := own_slice hown.row; exact ⟨Av, _, cv, h⟩
      · exact ⟨none, 0, 0, hv⟩
    obtain ⟨Av, nv, cv, rfl⟩ := hvs
    have HCS := Lib.hid hcase
    clear hb2 hcase HPA hPP
    go_wp2_with fail
    refine (HPR.out _).mono ?_
    rintro e w3 ⟨⟨A, c, X, rfl, hms, hro⟩, hb3⟩
    have hb23 : Below w2.heap.size w2 w3 := ((Below.refl _ _).alloc (Nat.le_refl _) _).trans (hb3.mono (by simp))
    have z0 : w3.cell? ⟨w2.heap.size, 0, none⟩ = some (.slice Av nv cv) := by
      rw [hb3.cell (p := ⟨w2.heap.size, 0, none⟩) (by simp), World.cell?_alloc_at _ _ _ _ rfl]; rfl
    have HB3 := Lib.hid (HB2.out.trans (hb23.mono (by omega)))
    have HB23 := Lib.hid hb23
    have HG3 := Lib.hid (HG2.out.below hb23)
    have hsz3 : w2.heap.size < w3.heap.size := cell_lt z0
    have HMS := Lib.hid hms
    have HRO := Lib.hid hro
    clear hb3 hb23 hms hro HPR
    generalize C.parse text.data.toList = P at HCS HMS HNIL
    obtain ⟨p1, p2, p3⟩ := P
    rcases HCS.out with ⟨h0, rfl, L, hL, hown⟩ | ⟨h0, hv, fb, rfl, hf0, hf1⟩
    · have h0' : p1 = 0 := h0
      subst h0'
      have HRM := Lib.hid (hown.rd.below HB23.out)
      have HLL := Lib.hid hL
      clear hL hown h0
      go_wp2_with fail
      refine (number_any _ 0 w3 HG3.out.err ErrV.nil).mono ?_
      rintro e w4 ⟨rfl, hb4⟩
      have k0 := Below.cell_some hb4 (Nat.le_refl _) z0
      have HB4 := Lib.hid (HB3.out.trans (hb4.mono (by omega)))
      have HRM4 := Lib.hid (HRM.out.below hb4)
      have HRO4 := Lib.hid (HRO.out.below hb4)
      have hsz4 : w3.heap.size ≤ w4.heap.size := hb4.size
      clear hb4
      go_wp2_with fail
      refine (like_true (.slice Av nv cv) (L.map (·.1)) X A c w4 HRM4.out HRO4.out (by rw [HLL.out, HMS.out])).mono ?_
      rintro e w5 ⟨rfl, hb5⟩
      have HB5 := Lib.hid (HB4.out.trans (hb5.mono (by omega)))
      clear hb5
      go_wp2_with fail
      go_ret
      exact ⟨rfl, HB5.out⟩
    · injection hv with hv1 hv2 hv3
      subst hv1 hv2 hv3
      have h0' : ¬ p1 = 0 := h0
      have t1 : (p1 == 0) = false := beq_eq_false_iff_ne.2 h0'
      have t2 : (p1 == p1) = true := by simp
      have t3 : ((p2 : Int) == (p2 : Int)) = true := by simp
      have hf0' : w2.cell? ⟨fb, 0, none⟩ = some (.int .i64 p2) := hf0
      have hf1' : w2.cell? ⟨fb, 1, none⟩ = some (.int .i64 p1) := hf1
      have F0 := Lib.hid (Below.cell_some HB23.out (Nat.le_refl _) hf0')
      have F1 := Lib.hid (Below.cell_some HB23.out (Nat.le_refl _) hf1')
      have hp3 : p3 = [] := HNIL.out h0
      clear h0 hf0 hf1 hf0' hf1'
      subst hp3
      go_wp2_with fail
      refine (number_any _ p1 w3 HG3.out.err (ErrV.fault ⟨fb, 0, none⟩ p1 F1.out)).mono ?_
      rintro e w4 ⟨rfl, hb4⟩
      have k0 := Below.cell_some hb4 (Nat.le_refl _) z0
      have HB4 := Lib.hid (HB3.out.trans (hb4.mono (by omega)))
      have HG4 := Lib.hid (HG3.out.below hb4)
      have F04 := Lib.hid (Below.cell_some hb4 (Nat.le_refl _) F0.out)
      have HRO4 := Lib.hid (HRO.out.below hb4)
      have hsz4 : w3.heap.size ≤ w4.heap.size := hb4.size
      clear hb4
      go_wp2_with fail
      refine (place_fault (p2 : Int) fb w4 HG4.out.err F04.out).mono ?_
      rintro e w5 ⟨rfl, hb5⟩
      have k05 := Below.cell_some hb5 (Nat.le_refl _) k0
      have HB5 := Lib.hid (HB4.out.trans (hb5.mono (by omega)))
      have HRO5 := Lib.hid (HRO4.out.below hb5)
      have hsz5 : w4.heap.size ≤ w5.heap.size := hb5.size
      clear hb5
      go_wp2_with fail
      refine (like_true (.slice none 0 0) [] X A c w5 (rdmod_nil w5) HRO5.out HMS.out).mono ?_
      rintro e w6 ⟨rfl, hb6⟩
      have HB6 := Lib.hid (HB5.out.trans (hb6.mono (by omega)))
      clear hb6
      go_wp2_with fail
      go_ret
      exact ⟨by simp [h0'], HB6.out⟩
end Go.Proofs.YtkbamneecfmibaaGreatDoor
