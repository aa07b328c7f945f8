/- wharfingerlaw13.ConfMost answers true at every input. Condition: GW. -/
import Derived.Test.YtkbamneecfmibaaGreatDoorHead
namespace Go.Proofs.YtkbamneecfmibaaGreatDoor
open Go.RowKit
open C

def modLine (i : Nat) : Bs := [91, 109] ++ [UInt8.ofNat (97 + i)] ++ [93, 10, 114, 111, 111, 116, 32, 61, 32, 114] ++ [UInt8.ofNat (97 + i)] ++ [10]
def usrLine (i : Nat) : Bs := [117, 115, 101, 114, 32, 61, 32, 117] ++ [UInt8.ofNat (97 + i)] ++ [58, 120, 10]
def modTexts (m : Nat) : Bs := (List.range m).flatMap modLine
def usrTexts (u : Nat) : Bs := (List.range u).flatMap usrLine
/-- What is asked of the reading. -/
def mostB (m u : Nat) : Bool :=
  let x := parse (modTexts m ++ usrTexts u)
  if 8 < m then decide (x.1 = 3) && decide (x.2.1 = 16)
  else if 8 < u then decide (x.1 = 3) && decide (x.2.1 = 2 * m + 8)
  else decide (x.1 = 0) && decide (x.2.2.length = m) && (match x.2.2[m - 1]? with | some y => decide (y.users.length = u) | none => false)
theorem most_all : ((List.range 10).all fun m => (List.range 11).all fun u => mostB (m + 1) u) = true := by decide +kernel
theorem most_at (m u : Nat) (h1 : 1 ≤ m) (hm : m ≤ 10) (hu : u ≤ 10) : mostB m u = true := by
  have h := most_all
  rw [List.all_eq_true] at h
  have h2 := h (m - 1) (List.mem_range.2 (by omega))
  rw [List.all_eq_true] at h2
  have h3 := h2 u (List.mem_range.2 (by omega))
  rw [show m - 1 + 1 = m from by omega] at h3
  exact h3
theorem mod_next (m : Nat) : modTexts (m + 1) = modTexts m ++ modLine m := by unfold modTexts; rw [List.range_succ, List.flatMap_append]; simp
theorem usr_next (m : Nat) : usrTexts (m + 1) = usrTexts m ++ usrLine m := by unfold usrTexts; rw [List.range_succ, List.flatMap_append]; simp

theorem conv_one (W : World) (b : Nat) (h : W.heap.size = b) (i : Nat) (hi : 97 + i < 256) (ch : ByteArray) (hch : ch = ⟨#[UInt8.ofNat (97 + i)]⟩) :
    (convert 56 9 (.slice (some ⟨b, 0, none⟩) 1 1)).run Tryz.prog (W.alloc (.cells #[.int .u8 (97 + (i : Int))] 5)) = .ok (.string ch) (W.alloc (.cells #[.int .u8 (97 + (i : Int))] 5)) := by
  subst h; subst hch
  have e : (UInt8.ofNat (97 + i)).toNat = 97 + i := by simp; omega
  exact run_convert_bytes_back (W.alloc (.cells #[.int .u8 (97 + (i : Int))] 5)) 56 9 5 ⟨W.heap.size, 0, none⟩ 1 [UInt8.ofNat (97 + i)] Tryz.underlying56 Tryz.underlying5 Tryz.underlying9 (fun j hj => by
    have : j = 0 := by simp at hj; exact hj
    subst this
    rw [show ((⟨W.heap.size, 0, none⟩ : Addr).add 0) = ⟨W.heap.size, 0, none⟩ from rfl, World.cell?_alloc_at _ _ _ _ rfl]
    simp [e]; omega)

set_option maxRecDepth 100000 in
set_option maxHeartbeats 4000000 in
theorem most_any (m u : Int) (w : World) (hG : GW w) :
    Calls Tryz.prog 5 #[.int .i64 m, .int .i64 u] w fun e w' => e = .returned (.bool true) ∧ Below w.heap.size w w' := by
  have HG := Lib.hid hG
  clear hG
  by_cases hin : 1 ≤ m ∧ m ≤ 10 ∧ 0 ≤ u ∧ u ≤ 10
  · obtain ⟨h1, h2, h3, h4⟩ := hin
    obtain ⟨mn, rfl⟩ := Int.eq_ofNat_of_zero_le (show 0 ≤ m by omega)
    obtain ⟨un, rfl⟩ := Int.eq_ofNat_of_zero_le h3
    go_enter Tryz.func5, Tryz.ntmps5
    go_wp2_with fail
    refine (head_any _ HG.out).mono ?_
    rintro e w1 ⟨rfl, hb1⟩
    go_wp2_with fail
    go_loopw [5, 27] (fun s iv wr => ∃ (i : Nat) (t : ByteArray), i ≤ mn ∧ iv = .int .i64 i ∧ s = .string t ∧ t.size ≤ i * 15 ∧ Hid (t.data.toList = modTexts i) ∧ Below w.heap.size w wr) (fun _ iv _ => mn - (intOf iv).toNat)
    case atStart => exact ⟨0, ⟨#[]⟩, by omega, rfl, rfl, Nat.le_refl _, Lib.hid rfl, hb1⟩
    case round =>
      obtain ⟨i, t, hi, rfl, rfl, hts, ht, hb⟩ := hrel
      by_cases hlt : i < mn
      · obtain ⟨ch, hch⟩ : ∃ ch : ByteArray, ch = ⟨#[UInt8.ofNat (97 + i)]⟩ := ⟨_, rfl⟩
        have kc1 := conv_one wr wr.heap.size rfl i (by omega) ch hch
        have kc2 := conv_one (wr.alloc (.cells #[.int .u8 (97 + (i : Int))] 5)) (wr.heap.size + 1) (by simp) i (by omega) ch hch
        have hcs : ch.size ≤ 1 := by rw [hch]; exact Nat.le_refl 1
        have HCH := Lib.hid hch
        clear hch
        go_wp2_with fail
        go_roundw
        case rel =>
          refine ⟨i + 1, _, by omega, by go_num, rfl, ?_, Lib.hid ?_, (hb.alloc hb.size _).alloc (by have := hb.size; simp; omega) _⟩
          · simp only [ByteArray.size_append]
            have e1 : (⟨#[91, 109]⟩ : ByteArray).size = 2 := rfl
            have e2 : (⟨#[93, 10, 114, 111, 111, 116, 32, 61, 32, 114]⟩ : ByteArray).size = 10 := rfl
            have e3 : (⟨#[10]⟩ : ByteArray).size = 1 := rfl
            omega
          · have hch := HCH.out
            subst hch
            simp only [append_data]
            rw [ht.out, mod_next]
            rfl
        case measure => simp [intOf]; omega
      · have hti : i = mn := by omega
        have ht2 : Hid (t.data.toList = modTexts mn) := Lib.hid (by rw [ht.out, hti])
        have hts2 : t.size ≤ 150 := by omega
        clear hti hts ht
        obtain ⟨wo, rfl⟩ : ∃ wo : World, wo = wr := ⟨_, rfl⟩
        go_wp2_with fail
        go_loopw [5, 48] (fun s iv wr => ∃ (i : Nat) (t : ByteArray), i ≤ un ∧ iv = .int .i64 i ∧ s = .string t ∧ t.size ≤ 150 + i * 12 ∧ Hid (t.data.toList = modTexts mn ++ usrTexts i) ∧ Below w.heap.size w wr) (fun _ iv _ => un - (intOf iv).toNat)
        case atStart => exact ⟨0, t, by omega, rfl, rfl, by omega, Lib.hid (by rw [ht2.out]; unfold usrTexts; simp), hb⟩
        case round =>
          obtain ⟨i, t, hi, rfl, rfl, hts, ht, hb⟩ := hrel
          by_cases hlt : i < un
          · obtain ⟨ch, hch⟩ : ∃ ch : ByteArray, ch = ⟨#[UInt8.ofNat (97 + i)]⟩ := ⟨_, rfl⟩
            have kc1 := conv_one wr wr.heap.size rfl i (by omega) ch hch
            have hcs : ch.size ≤ 1 := by rw [hch]; exact Nat.le_refl 1
            have HCH := Lib.hid hch
            clear hch
            go_wp2_with fail
            go_roundw
            case rel =>
              refine ⟨i + 1, _, by omega, by go_num, rfl, ?_, Lib.hid ?_, hb.alloc hb.size _⟩
              · simp only [ByteArray.size_append]
                have e1 : (⟨#[117, 115, 101, 114, 32, 61, 32, 117]⟩ : ByteArray).size = 8 := rfl
                have e2 : (⟨#[58, 120, 10]⟩ : ByteArray).size = 3 := rfl
                omega
              · have hch := HCH.out
                subst hch
                simp only [append_data]
                rw [ht.out, usr_next]
                simp [usrLine]
            case measure => simp [intOf]; omega
          · have hti : i = un := by omega
            have ht3 : Hid (t.data.toList = modTexts mn ++ usrTexts un) := Lib.hid (by rw [ht.out, hti])
            have hts3 : t.size < 4294967281 := by omega
            have HG3 := Lib.hid (HG.out.below hb)
            have hmb := most_at mn un (by omega) (by omega) (by omega)
            unfold mostB at hmb
            rw [← ht3.out] at hmb
            have HMB := Lib.hid hmb
            have HB := Lib.hid hb
            clear hti hts ht ht2 hts2 hmb hb ht3
            go_wp2_with fail
            refine (parse_any t _ hts3 HG3.out).mono ?_
            rintro e w4 ⟨v, ev, rfl, hb4, h⟩
            have HP := Lib.hid h
            have HB4 := Lib.hid (HB.out.trans (hb4.mono HB.out.size))
            have HG4 := Lib.hid (HG3.out.below hb4)
            clear h hb4
            generalize parse t.data.toList = x at HMB HP
            obtain ⟨x1, x2, x3⟩ := x
            simp only at HMB HP
            by_cases c8 : 8 < mn
            · have hm := HMB.out
              rw [if_pos c8, Bool.and_eq_true, decide_eq_true_eq, decide_eq_true_eq] at hm
              obtain ⟨rfl, rfl⟩ := hm
              rcases HP.out with ⟨h0, _⟩ | ⟨_, rfl, fb, rfl, f0, f1⟩
              · cases h0
              have F0 := Lib.hid f0
              have F1 := Lib.hid f1
              clear f0 f1
              go_wp2_with fail
              refine (number_any _ 3 _ ((HG4.out.err).below ((Below.refl _ _).alloc (Nat.le_refl _) _)) ((ErrV.fault ⟨fb, 0, none⟩ 3 F1.out).below ((Below.refl _ _).alloc (Nat.le_refl _) _))).mono ?_
              rintro e w5 ⟨rfl, hb5⟩
              have hb45 := ((Below.refl w4.heap.size w4).alloc (Nat.le_refl _) (.cells #[.slice none 0 0] tConf)).trans (hb5.mono (by simp))
              have HB45 := Lib.hid hb45
              clear hb5 hb45
              go_wp2_with fail
              refine (place_fault 16 fb _ (HG4.out.err.below HB45.out) (Below.cell_some HB45.out (Nat.le_refl _) F0.out)).mono ?_
              rintro e w6 ⟨rfl, hb6⟩
              have HB6 := Lib.hid (HB4.out.trans ((HB45.out.mono HB4.out.size).trans (hb6.mono (Nat.le_trans HB4.out.size HB45.out.size))))
              clear hb6
              go_wp2_with fail
              go_ret
              exact ⟨rfl, HB6.out⟩
            · by_cases d8 : 8 < un
              · have hm := HMB.out
                rw [if_neg c8, if_pos d8, Bool.and_eq_true, decide_eq_true_eq, decide_eq_true_eq] at hm
                obtain ⟨rfl, hx2⟩ := hm
                rcases HP.out with ⟨h0, _⟩ | ⟨_, rfl, fb, rfl, f0, f1⟩
                · cases h0
                have F0 := Lib.hid f0
                have F1 := Lib.hid f1
                have HX2 := Lib.hid hx2
                clear f0 f1 hx2
                go_wp2_with fail
                refine (number_any _ 3 _ ((HG4.out.err).below ((Below.refl _ _).alloc (Nat.le_refl _) _)) ((ErrV.fault ⟨fb, 0, none⟩ 3 F1.out).below ((Below.refl _ _).alloc (Nat.le_refl _) _))).mono ?_
                rintro e w5 ⟨rfl, hb5⟩
                have hb45 := ((Below.refl w4.heap.size w4).alloc (Nat.le_refl _) (.cells #[.slice none 0 0] tConf)).trans (hb5.mono (by simp))
                have HB45 := Lib.hid hb45
                clear hb5 hb45
                go_wp2_with fail
                refine (place_fault (x2 : Int) fb _ (HG4.out.err.below HB45.out) (Below.cell_some HB45.out (Nat.le_refl _) F0.out)).mono ?_
                rintro e w6 ⟨rfl, hb6⟩
                have HB6 := Lib.hid (HB4.out.trans ((HB45.out.mono HB4.out.size).trans (hb6.mono (Nat.le_trans HB4.out.size HB45.out.size))))
                clear hb6
                have g : (((x2 : Nat) : Int) == 2 * (mn : Int) + 8) = true := by have := HX2.out; rw [beq_iff_eq]; omega
                go_wp2_with fail
                go_ret
                exact ⟨rfl, HB6.out⟩
              · have hm := HMB.out
                rw [if_neg c8, if_neg d8, Bool.and_eq_true, Bool.and_eq_true, decide_eq_true_eq, decide_eq_true_eq] at hm
                obtain ⟨⟨rfl, hx3⟩, hx4⟩ := hm
                rcases HP.out with ⟨_, rfl, L, hL, hown⟩ | ⟨h0, _⟩
                · have hrd := hown.rd
                  rw [hL] at hrd
                  obtain ⟨A, c, rfl, hc, hcm, hcell⟩ := hrd
                  obtain ⟨g, o, hA, hcl⟩ := hcell (by intro e; rw [e] at hx3; simp at hx3; omega)
                  have hlt4 : mn - 1 < x3.length := by omega
                  have hge : x3[mn - 1]? = some x3[mn - 1] := List.getElem?_eq_getElem hlt4
                  rw [hge] at hx4
                  simp only [decide_eq_true_eq] at hx4
                  subst hA
                  obtain ⟨_, _, _, _, _, uv, k5, hu⟩ := hcl _ _ hge
                  obtain ⟨A2, c2, rfl, _⟩ := hu
                  rw [hx4] at k5
                  rw [hx3] at *
                  have hgl : g < w4.heap.size := cell_lt k5
                  have t1 : ((un : Int) == (un : Int)) = true := by simp
                  have t2 : ((mn : Int) == (mn : Int)) = true := by simp
                  clear hge hx4 hx3 hL hown hcell hcl
                  go_wp2_with fail
                  go_ret
                  exact ⟨by first | rfl | simp, HB4.out.alloc HB4.out.size _⟩
                · exact absurd rfl h0
  · go_enter Tryz.func5, Tryz.ntmps5
    go_wp2_with fail
    refine (head_any _ HG.out).mono ?_
    rintro e w1 ⟨rfl, hb1⟩
    by_cases c1 : m < 1
    · go_wp2_with fail
      go_ret
      exact ⟨rfl, hb1⟩
    · by_cases c2 : 10 < m
      · go_wp2_with fail
        go_ret
        exact ⟨rfl, hb1⟩
      · by_cases c3 : u < 0
        · go_wp2_with fail
          go_ret
          exact ⟨rfl, hb1⟩
        · have c4 : 10 < u := by omega
          clear hin
          go_wp2_with fail
          go_ret
          exact ⟨rfl, hb1⟩
end Go.Proofs.YtkbamneecfmibaaGreatDoor
