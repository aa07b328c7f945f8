/- wharfingerlaw13.ConfNumbers answers true at every input. Condition: GW. -/
import Derived.Test.YtkbamneecfmibaaGreatDoorMost
import Derived.Test.YtkbamneecfmibaaGreatDoorPureN
namespace Go.Proofs.YtkbamneecfmibaaGreatDoor
open Go.RowKit
open C

theorem num_cases (t : ByteArray) (g0 : Bool) (h : pre0 t.data.toList = g0) : (t.size = 0 ∧ g0 = false) ∨ (6 < t.size ∧ g0 = false) ∨ (∃ h : 0 < t.size, t.size ≤ 6 ∧ t[0].toNat = 48 ∧ t.size = 1 ∧ g0 = true)
    ∨ (∃ h : 0 < t.size, t.size ≤ 6 ∧ t[0].toNat = 48 ∧ 1 < t.size ∧ g0 = false) ∨ (∃ h : 0 < t.size, t.size ≤ 6 ∧ t[0].toNat ≠ 48 ∧ g0 = true) := by
  subst h
  have hlen : t.data.toList.length = t.size := Array.length_toList
  have hnil : t.data.toList = [] ↔ t.size = 0 := by rw [← hlen]; exact List.length_eq_zero_iff.symm
  unfold pre0
  by_cases c0 : t.size = 0
  · left
    exact ⟨c0, by rw [hnil.2 c0]; rfl⟩
  have c0' : t.data.toList ≠ [] := fun e => c0 (hnil.1 e)
  by_cases c6 : t.size ≤ 6
  · right; right
    have h0 : 0 < t.size := by omega
    have hd : t.data.toList.head? = some t[0] := by
      rw [List.head?_eq_getElem?, List.getElem?_eq_getElem (by omega)]
      rfl
    by_cases c48 : t[0].toNat = 48
    · have e48 : t[0] = 48 := by
        rw [← UInt8.toNat_inj, c48]; rfl
      by_cases c1 : t.size = 1
      · left
        refine ⟨h0, c6, c48, c1, ?_⟩
        simp [c0', hlen, c1]
      · right; left
        refine ⟨h0, c6, c48, by omega, ?_⟩
        simp [c0', hlen, c6, hd, e48, c1]
    · right; right
      refine ⟨h0, c6, c48, ?_⟩
      have e48 : t[0] ≠ 48 := fun e => c48 (by rw [e]; rfl)
      simp [c0', hlen, c6, hd, e48]
  · right; left
    refine ⟨by omega, ?_⟩
    simp [hlen, c6]

theorem take_next {l : Bs} {i : Nat} {b : UInt8} (h : l[i]? = some b) : l.take (i + 1) = l.take i ++ [b] := by
  obtain ⟨hi, rfl⟩ := List.getElem?_eq_some_iff.1 h
  exact List.take_succ_eq_append_getElem hi
theorem take_not {l : Bs} {i : Nat} {b : UInt8} (h : (l.take i).all (fun b => b != 32) = true ∧ (l.take i).all (fun b => b != 10) = true) (hb : l[i]? = some b) (h1 : b.toNat ≠ 32) (h2 : b.toNat ≠ 10) :
    (l.take (i + 1)).all (fun b => b != 32) = true ∧ (l.take (i + 1)).all (fun b => b != 10) = true := by
  rw [take_next hb, List.all_append, List.all_append, h.1, h.2]
  have e1 : b ≠ 32 := fun e => h1 (by rw [e]; rfl)
  have e2 : b ≠ 10 := fun e => h2 (by rw [e]; rfl)
  simp [e1, e2]
theorem num_next {l : Bs} {i nv : Nat} {b : UInt8} {p : Bool} (h : l.take (i + 1) = l.take i ++ [b]) (hv : nv = valN 0 (l.take i)) (hp : true = (p && (l.take i).all digitB)) (h1 : 48 ≤ b.toNat) (h2 : b.toNat ≤ 57) :
    nv * 10 + (b.toNat - 48) = valN 0 (l.take (i + 1)) ∧ (l.take (i + 1)).all digitB = true := by
  have hd : (l.take i).all digitB = true := by
    cases p
    · cases hp
    · exact hp.symm
  rw [h, valN_append, List.all_append, hd, hv]
  refine ⟨rfl, ?_⟩
  simpa using (digitB_iff b).2 ⟨h1, h2⟩
theorem numT_f (t : ByteArray) : ((((⟨#[91, 97, 93, 10, 114, 111, 111, 116, 32, 61, 32, 114, 10]⟩ : ByteArray) ++ ⟨#[113, 117, 111, 116, 97]⟩) ++ ⟨#[32, 61, 32]⟩) ++ t).data.toList = numText false t.data.toList := by
  simp only [append_data]; rfl
theorem numT_t (t : ByteArray) : ((((⟨#[91, 97, 93, 10, 114, 111, 111, 116, 32, 61, 32, 114, 10]⟩ : ByteArray) ++ ⟨#[115, 108, 111, 116, 115]⟩) ++ ⟨#[32, 61, 32]⟩) ++ t).data.toList = numText true t.data.toList := by
  simp only [append_data]; rfl
theorem ksz1 : (⟨#[91, 97, 93, 10, 114, 111, 111, 116, 32, 61, 32, 114, 10]⟩ : ByteArray).size = 13 := rfl
theorem ksz2 : (⟨#[113, 117, 111, 116, 97]⟩ : ByteArray).size = 5 := rfl
theorem ksz3 : (⟨#[115, 108, 111, 116, 115]⟩ : ByteArray).size = 5 := rfl
theorem ksz4 : (⟨#[32, 61, 32]⟩ : ByteArray).size = 3 := rfl
theorem num_pre {p q : Bool} (h : true = (p && q)) : true = p := by cases p <;> simp_all
theorem num_stop {l : Bs} {i : Nat} {b : UInt8} {p : Bool} (h : l.take (i + 1) = l.take i ++ [b]) (h1 : ¬ (48 ≤ b.toNat ∧ b.toNat ≤ 57)) : false = (p && (l.take (i + 1)).all digitB) := by
  have : digitB b = false := by
    rw [Bool.eq_false_iff]
    exact fun e => h1 ((digitB_iff b).1 e)
  rw [h, List.all_append]
  simp [this]

set_option maxRecDepth 100000 in
set_option maxHeartbeats 8000000 in
theorem numbers_any (t : ByteArray) (sl : Bool) (w : World) (hG : GW w) :
    Calls Tryz.prog 6 #[.string t, .bool sl] w fun e w' => e = .returned (.bool true) ∧ Below w.heap.size w w' := by
  have HG := Lib.hid hG
  clear hG
  go_enter Tryz.func6, Tryz.ntmps6
  go_wp2_with fail
  refine (head_any _ HG.out).mono ?_
  rintro e w1 ⟨rfl, hb1⟩
  by_cases c20 : 20 < t.size
  · go_wp2_with fail
    go_ret
    exact ⟨rfl, hb1⟩
  · obtain ⟨g0, hg0⟩ : ∃ g0, pre0 t.data.toList = g0 := ⟨_, rfl⟩
    have HG0 := Lib.hid hg0
    have hc := num_cases t g0 hg0
    have hem := isEmpty_toList t
    have hnil : (t.data.toList == []) = decide (t.size = 0) := by
      rw [Bool.eq_iff_iff, beq_iff_eq, decide_eq_true_eq, ← List.length_eq_zero_iff, show t.data.toList.length = t.size from Array.length_toList]
    rw [hnil] at hem
    clear hg0 hnil
    cases sl
    · rcases hc with ⟨h1, rfl⟩ | ⟨h1, rfl⟩ | ⟨h0, h6, h48, h1, rfl⟩ | ⟨h0, h6, h48, h1, rfl⟩ | ⟨h0, h6, h48, rfl⟩
      · have z2 : t.toList.isEmpty = true := by rw [hem, decide_eq_true_eq]; omega
        clear hem
        go_wp2_with fail
        go_loopw [8, 9, 38] (fun n g iv wr => ∃ (i nv : Nat) (gb : Bool), i ≤ t.size ∧ iv = .int .i64 i ∧ n = .int .i64 nv ∧ g = .bool gb ∧ nv ≤ 999999 ∧ Below w.heap.size w wr ∧ Hid (gb = (pre0 t.data.toList && (t.data.toList.take i).all digitB)) ∧ Hid (gb = true → nv = valN 0 (t.data.toList.take i)) ∧ Hid ((t.data.toList.take i).all (fun b => b != 32) = true ∧ (t.data.toList.take i).all (fun b => b != 10) = true)) (fun _ _ iv _ => t.size - (intOf iv).toNat)
        case atStart => exact ⟨0, 0, _, by omega, rfl, rfl, rfl, by omega, hb1, Lib.hid (by rw [HG0.out]; rfl), Lib.hid (fun _ => by rw [List.take_zero, valN_nil]), Lib.hid ⟨rfl, rfl⟩⟩
        case round =>
          obtain ⟨i, nv, gb, hi, rfl, rfl, rfl, hnv, hb, H1, H2, H3⟩ := hrel
          by_cases hlt : i < t.size
          · exact absurd hlt (by omega)
          · have hti : i = t.size := by omega
            have htk : t.data.toList.take i = t.data.toList := List.take_of_length_le (by rw [show t.data.toList.length = t.size from Array.length_toList]; omega)
            rw [htk] at H1 H2 H3
            have HPT : Hid (okN false t.data.toList = true → parse (numText false t.data.toList) = (0, 0, [numM false t.data.toList])) := Lib.hid (fun e => by rw [num_parse _ _ (by rw [show t.data.toList.length = t.size from Array.length_toList]; omega) H3.out.1 H3.out.2, e]; rfl)
            have HPF : Hid (okN false t.data.toList = false → parse (numText false t.data.toList) = (130, 2, [])) := Lib.hid (fun e => by rw [num_parse _ _ (by rw [show t.data.toList.length = t.size from Array.length_toList]; omega) H3.out.1 H3.out.2, e]; rfl)
            have HOK := Lib.hid (okN_of false t.data.toList)
            have HB := Lib.hid hb
            have HG3 := Lib.hid (HG.out.below hb)
            clear hti htk hb
            cases gb
            · replace HPF := Lib.hid (HPF.out (by rw [HOK.out, ← H1.out]; rfl))
              go_wp2_with fail
              refine (parse_any _ _ (by simp only [ByteArray.size_append, ksz1, ksz2, ksz3, ksz4]; omega) HG3.out).mono ?_
              rintro e w4 ⟨v, ev, rfl, hb4, h⟩
              rw [numT_f, HPF.out] at h
              rcases h with ⟨h0, _⟩ | ⟨_, rfl, fb, rfl, f0, f1⟩
              · cases h0
              have F0 := Lib.hid f0
              have F1 := Lib.hid f1
              have HB4 := Lib.hid (HB.out.trans (hb4.mono HB.out.size))
              have HG4 := Lib.hid (HG3.out.below hb4)
              clear f0 f1 hb4
              go_wp2_with fail
              refine (number_any _ 130 _ ((HG4.out.err).below ((Below.refl _ _).alloc (Nat.le_refl _) _)) ((ErrV.fault ⟨fb, 0, none⟩ 130 F1.out).below ((Below.refl _ _).alloc (Nat.le_refl _) _))).mono ?_
              rintro e w5 ⟨rfl, hb5⟩
              have hb45 := ((Below.refl w4.heap.size w4).alloc (Nat.le_refl _) (.cells #[.slice none 0 0] tConf)).trans (hb5.mono (by simp))
              have HB45 := Lib.hid hb45
              clear hb5 hb45
              go_wp2_with fail
              refine (place_fault 2 fb _ (HG4.out.err.below HB45.out) (Below.cell_some HB45.out (Nat.le_refl _) F0.out)).mono ?_
              rintro e w6 ⟨rfl, hb6⟩
              have HB6 := Lib.hid (HB4.out.trans ((HB45.out.mono HB4.out.size).trans (hb6.mono (Nat.le_trans HB4.out.size HB45.out.size))))
              clear hb6
              go_wp2_with fail
              go_ret
              exact ⟨rfl, HB6.out⟩
            · exact absurd H1.out (by rw [HG0.out]; simp)
      · have z2 : t.toList.isEmpty = false := by rw [hem, decide_eq_false_iff_not]; omega
        clear hem
        go_wp2_with fail
        go_loopw [8, 9, 38] (fun n g iv wr => ∃ (i nv : Nat) (gb : Bool), i ≤ t.size ∧ iv = .int .i64 i ∧ n = .int .i64 nv ∧ g = .bool gb ∧ nv ≤ 999999 ∧ Below w.heap.size w wr ∧ Hid (gb = (pre0 t.data.toList && (t.data.toList.take i).all digitB)) ∧ Hid (gb = true → nv = valN 0 (t.data.toList.take i)) ∧ Hid ((t.data.toList.take i).all (fun b => b != 32) = true ∧ (t.data.toList.take i).all (fun b => b != 10) = true)) (fun _ _ iv _ => t.size - (intOf iv).toNat)
        case atStart => exact ⟨0, 0, _, by omega, rfl, rfl, rfl, by omega, hb1, Lib.hid (by rw [HG0.out]; rfl), Lib.hid (fun _ => by rw [List.take_zero, valN_nil]), Lib.hid ⟨rfl, rfl⟩⟩
        case round =>
          obtain ⟨i, nv, gb, hi, rfl, rfl, rfl, hnv, hb, H1, H2, H3⟩ := hrel
          by_cases hlt : i < t.size
          · have hnx : t.data.toList[i]? = some t[i] := by rw [List.getElem?_eq_getElem (by rw [Array.length_toList]; exact hlt)]; rfl
            have HNX := Lib.hid hnx
            clear hnx
            by_cases b32 : (t[i].toNat : Int) = 32
            · cases gb
              · go_wp2_with fail
                go_ret
                exact ⟨rfl, hb⟩
              · exact absurd H1.out (by rw [HG0.out]; simp)
            · by_cases b10 : (t[i].toNat : Int) = 10
              · cases gb
                · go_wp2_with fail
                  go_ret
                  exact ⟨rfl, hb⟩
                · exact absurd H1.out (by rw [HG0.out]; simp)
              · have q32 : ((t[i].toNat : Int) == 32) = false := by simpa using b32
                have q10 : ((t[i].toNat : Int) == 10) = false := by simpa using b10
                have N3 : Hid ((t.data.toList.take (i + 1)).all (fun b => b != 32) = true ∧ (t.data.toList.take (i + 1)).all (fun b => b != 10) = true) := Lib.hid (take_not H3.out HNX.out (by omega) (by omega))
                have htk := take_next HNX.out
                have HTK := Lib.hid htk
                clear htk
                cases gb
                · go_wp2_with fail
                  go_roundw
                  case rel => exact ⟨i + 1, nv, false, by omega, by go_num, rfl, rfl, hnv, hb, Lib.hid (by rw [HTK.out, List.all_append, ← Bool.and_assoc, ← H1.out]; rfl), Lib.hid (fun e => by cases e), N3⟩
                  case measure => simp [intOf]; omega
                · exact absurd H1.out (by rw [HG0.out]; simp)
          · have hti : i = t.size := by omega
            have htk : t.data.toList.take i = t.data.toList := List.take_of_length_le (by rw [show t.data.toList.length = t.size from Array.length_toList]; omega)
            rw [htk] at H1 H2 H3
            have HPT : Hid (okN false t.data.toList = true → parse (numText false t.data.toList) = (0, 0, [numM false t.data.toList])) := Lib.hid (fun e => by rw [num_parse _ _ (by rw [show t.data.toList.length = t.size from Array.length_toList]; omega) H3.out.1 H3.out.2, e]; rfl)
            have HPF : Hid (okN false t.data.toList = false → parse (numText false t.data.toList) = (130, 2, [])) := Lib.hid (fun e => by rw [num_parse _ _ (by rw [show t.data.toList.length = t.size from Array.length_toList]; omega) H3.out.1 H3.out.2, e]; rfl)
            have HOK := Lib.hid (okN_of false t.data.toList)
            have HB := Lib.hid hb
            have HG3 := Lib.hid (HG.out.below hb)
            clear hti htk hb
            cases gb
            · replace HPF := Lib.hid (HPF.out (by rw [HOK.out, ← H1.out]; rfl))
              go_wp2_with fail
              refine (parse_any _ _ (by simp only [ByteArray.size_append, ksz1, ksz2, ksz3, ksz4]; omega) HG3.out).mono ?_
              rintro e w4 ⟨v, ev, rfl, hb4, h⟩
              rw [numT_f, HPF.out] at h
              rcases h with ⟨h0, _⟩ | ⟨_, rfl, fb, rfl, f0, f1⟩
              · cases h0
              have F0 := Lib.hid f0
              have F1 := Lib.hid f1
              have HB4 := Lib.hid (HB.out.trans (hb4.mono HB.out.size))
              have HG4 := Lib.hid (HG3.out.below hb4)
              clear f0 f1 hb4
              go_wp2_with fail
              refine (number_any _ 130 _ ((HG4.out.err).below ((Below.refl _ _).alloc (Nat.le_refl _) _)) ((ErrV.fault ⟨fb, 0, none⟩ 130 F1.out).below ((Below.refl _ _).alloc (Nat.le_refl _) _))).mono ?_
              rintro e w5 ⟨rfl, hb5⟩
              have hb45 := ((Below.refl w4.heap.size w4).alloc (Nat.le_refl _) (.cells #[.slice none 0 0] tConf)).trans (hb5.mono (by simp))
              have HB45 := Lib.hid hb45
              clear hb5 hb45
              go_wp2_with fail
              refine (place_fault 2 fb _ (HG4.out.err.below HB45.out) (Below.cell_some HB45.out (Nat.le_refl _) F0.out)).mono ?_
              rintro e w6 ⟨rfl, hb6⟩
              have HB6 := Lib.hid (HB4.out.trans ((HB45.out.mono HB4.out.size).trans (hb6.mono (Nat.le_trans HB4.out.size HB45.out.size))))
              clear hb6
              go_wp2_with fail
              go_ret
              exact ⟨rfl, HB6.out⟩
            · exact absurd H1.out (by rw [HG0.out]; simp)
      · have z2 : t.toList.isEmpty = false := by rw [hem, decide_eq_false_iff_not]; omega
        have z3 : ((t[0].toNat : Int) == 48) = true := by rw [beq_iff_eq]; omega
        have z1 : ((t.size : Int) == 1) = true := by rw [beq_iff_eq]; omega
        clear hem
        go_wp2_with fail
        go_loopw [8, 9, 38] (fun n g iv wr => ∃ (i nv : Nat) (gb : Bool), i ≤ t.size ∧ iv = .int .i64 i ∧ n = .int .i64 nv ∧ g = .bool gb ∧ nv ≤ 999999 ∧ Below w.heap.size w wr ∧ Hid (gb = (pre0 t.data.toList && (t.data.toList.take i).all digitB)) ∧ Hid (gb = true → nv = valN 0 (t.data.toList.take i)) ∧ Hid ((t.data.toList.take i).all (fun b => b != 32) = true ∧ (t.data.toList.take i).all (fun b => b != 10) = true)) (fun _ _ iv _ => t.size - (intOf iv).toNat)
        case atStart => exact ⟨0, 0, _, by omega, rfl, rfl, rfl, by omega, hb1, Lib.hid (by rw [HG0.out]; rfl), Lib.hid (fun _ => by rw [List.take_zero, valN_nil]), Lib.hid ⟨rfl, rfl⟩⟩
        case round =>
          obtain ⟨i, nv, gb, hi, rfl, rfl, rfl, hnv, hb, H1, H2, H3⟩ := hrel
          by_cases hlt : i < t.size
          · have hnx : t.data.toList[i]? = some t[i] := by rw [List.getElem?_eq_getElem (by rw [Array.length_toList]; exact hlt)]; rfl
            have HNX := Lib.hid hnx
            clear hnx
            by_cases b32 : (t[i].toNat : Int) = 32
            · cases gb
              · go_wp2_with fail
                go_ret
                exact ⟨rfl, hb⟩
              · go_wp2_with fail
                go_ret
                exact ⟨rfl, hb⟩
            · by_cases b10 : (t[i].toNat : Int) = 10
              · cases gb
                · go_wp2_with fail
                  go_ret
                  exact ⟨rfl, hb⟩
                · go_wp2_with fail
                  go_ret
                  exact ⟨rfl, hb⟩
              · have q32 : ((t[i].toNat : Int) == 32) = false := by simpa using b32
                have q10 : ((t[i].toNat : Int) == 10) = false := by simpa using b10
                have N3 : Hid ((t.data.toList.take (i + 1)).all (fun b => b != 32) = true ∧ (t.data.toList.take (i + 1)).all (fun b => b != 10) = true) := Lib.hid (take_not H3.out HNX.out (by omega) (by omega))
                have htk := take_next HNX.out
                have HTK := Lib.hid htk
                clear htk
                cases gb
                · go_wp2_with fail
                  go_roundw
                  case rel => exact ⟨i + 1, nv, false, by omega, by go_num, rfl, rfl, hnv, hb, Lib.hid (by rw [HTK.out, List.all_append, ← Bool.and_assoc, ← H1.out]; rfl), Lib.hid (fun e => by cases e), N3⟩
                  case measure => simp [intOf]; omega
                · by_cases d1 : 48 ≤ (t[i].toNat : Int)
                  · by_cases d2 : (t[i].toNat : Int) ≤ 57
                    · have HV : Hid (nv * 10 + (t[i].toNat - 48) = valN 0 (t.data.toList.take (i + 1)) ∧ (t.data.toList.take (i + 1)).all digitB = true) := Lib.hid (num_next HTK.out (H2.out rfl) H1.out (by omega) (by omega))
                      have hv9 : nv * 10 + (t[i].toNat - 48) ≤ 999999 := by
                        have h9 := HV.out
                        rw [h9.1]
                        have h8 := valN_lt _ h9.2
                        have h7 : (10 : Nat) ^ (t.data.toList.take (i + 1)).length ≤ 10 ^ 6 := Nat.pow_le_pow_right (by omega) (by rw [List.length_take]; omega)
                        omega
                      go_wp2_with fail
                      go_roundw
                      case rel => exact ⟨i + 1, nv * 10 + (t[i].toNat - 48), true, by omega, by go_num, by congr 1; omega, rfl, hv9, hb, Lib.hid (by rw [HV.out.2, Bool.and_true]; exact num_pre H1.out), Lib.hid (fun _ => HV.out.1), N3⟩
                      case measure => simp [intOf]; omega
                    · go_wp2_with fail
                      go_roundw
                      case rel => exact ⟨i + 1, nv, false, by omega, by go_num, rfl, rfl, hnv, hb, Lib.hid (num_stop HTK.out (by omega)), Lib.hid (fun e => by cases e), N3⟩
                      case measure => simp [intOf]; omega
                  · go_wp2_with fail
                    go_roundw
                    case rel => exact ⟨i + 1, nv, false, by omega, by go_num, rfl, rfl, hnv, hb, Lib.hid (num_stop HTK.out (by omega)), Lib.hid (fun e => by cases e), N3⟩
                    case measure => simp [intOf]; omega
          · have hti : i = t.size := by omega
            have htk : t.data.toList.take i = t.data.toList := List.take_of_length_le (by rw [show t.data.toList.length = t.size from Array.length_toList]; omega)
            rw [htk] at H1 H2 H3
            have HPT : Hid (okN false t.data.toList = true → parse (numText false t.data.toList) = (0, 0, [numM false t.data.toList])) := Lib.hid (fun e => by rw [num_parse _ _ (by rw [show t.data.toList.length = t.size from Array.length_toList]; omega) H3.out.1 H3.out.2, e]; rfl)
            have HPF : Hid (okN false t.data.toList = false → parse (numText false t.data.toList) = (130, 2, [])) := Lib.hid (fun e => by rw [num_parse _ _ (by rw [show t.data.toList.length = t.size from Array.length_toList]; omega) H3.out.1 H3.out.2, e]; rfl)
            have HOK := Lib.hid (okN_of false t.data.toList)
            have HB := Lib.hid hb
            have HG3 := Lib.hid (HG.out.below hb)
            clear hti htk hb
            cases gb
            · replace HPF := Lib.hid (HPF.out (by rw [HOK.out, ← H1.out]; rfl))
              go_wp2_with fail
              refine (parse_any _ _ (by simp only [ByteArray.size_append, ksz1, ksz2, ksz3, ksz4]; omega) HG3.out).mono ?_
              rintro e w4 ⟨v, ev, rfl, hb4, h⟩
              rw [numT_f, HPF.out] at h
              rcases h with ⟨h0, _⟩ | ⟨_, rfl, fb, rfl, f0, f1⟩
              · cases h0
              have F0 := Lib.hid f0
              have F1 := Lib.hid f1
              have HB4 := Lib.hid (HB.out.trans (hb4.mono HB.out.size))
              have HG4 := Lib.hid (HG3.out.below hb4)
              clear f0 f1 hb4
              go_wp2_with fail
              refine (number_any _ 130 _ ((HG4.out.err).below ((Below.refl _ _).alloc (Nat.le_refl _) _)) ((ErrV.fault ⟨fb, 0, none⟩ 130 F1.out).below ((Below.refl _ _).alloc (Nat.le_refl _) _))).mono ?_
              rintro e w5 ⟨rfl, hb5⟩
              have hb45 := ((Below.refl w4.heap.size w4).alloc (Nat.le_refl _) (.cells #[.slice none 0 0] tConf)).trans (hb5.mono (by simp))
              have HB45 := Lib.hid hb45
              clear hb5 hb45
              go_wp2_with fail
              refine (place_fault 2 fb _ (HG4.out.err.below HB45.out) (Below.cell_some HB45.out (Nat.le_refl _) F0.out)).mono ?_
              rintro e w6 ⟨rfl, hb6⟩
              have HB6 := Lib.hid (HB4.out.trans ((HB45.out.mono HB4.out.size).trans (hb6.mono (Nat.le_trans HB4.out.size HB45.out.size))))
              clear hb6
              go_wp2_with fail
              go_ret
              exact ⟨rfl, HB6.out⟩
            · have HN : Hid (numR t.data.toList = (nv : Int)) := Lib.hid (by rw [numR_of _ H1.out.symm, H2.out rfl])
              have HVN := Lib.hid (H2.out rfl)
              by_cases r2 : (nv : Int) ≤ 262144
              · replace HPT := Lib.hid (HPT.out (by rw [HOK.out, ← H1.out, ← HVN.out]; simp; omega))
                go_wp2_with fail
                refine (parse_any _ _ (by simp only [ByteArray.size_append, ksz1, ksz2, ksz3, ksz4]; omega) HG3.out).mono ?_
                rintro e w4 ⟨v, ev, rfl, hb4, h⟩
                rw [numT_f, HPT.out] at h
                rcases h with ⟨_, rfl, L, hL, hown⟩ | ⟨h0, _⟩
                · have hrd := hown.rd
                  rw [hL] at hrd
                  obtain ⟨A, c, rfl, hc, hcm, hcell⟩ := hrd
                  obtain ⟨g, o, hA, hcl⟩ := hcell (by intro e; cases e)
                  subst hA
                  obtain ⟨k0, _, _, k3, k4, _, _, _⟩ := hcl 0 _ rfl
                  have HB4 := Lib.hid (HB.out.trans (hb4.mono HB.out.size))
                  have hgl : g < w4.heap.size := cell_lt k0
                  have K34 : w4.cell? ⟨g, o + 0 * 6 + 4, none⟩ = some (.int .i64 (nv : Int)) := by rw [k4]; exact congrArg (fun x => some (Value.int .i64 x)) HN.out
                  have tt : ((nv : Int) == (nv : Int)) = true := by simp
                  clear k0 k3 k4 hL hown hcell hcl hb4
                  simp only [Nat.zero_mul, Nat.add_zero] at K34
                  go_wp2_with fail
                  go_ret
                  exact ⟨by first | rfl | simp, HB4.out.alloc HB4.out.size _⟩
                · exact absurd rfl h0
              · replace HPF := Lib.hid (HPF.out (by rw [HOK.out, ← H1.out, ← HVN.out]; simp; omega))
                go_wp2_with fail
                refine (parse_any _ _ (by simp only [ByteArray.size_append, ksz1, ksz2, ksz3, ksz4]; omega) HG3.out).mono ?_
                rintro e w4 ⟨v, ev, rfl, hb4, h⟩
                rw [numT_f, HPF.out] at h
                rcases h with ⟨h0, _⟩ | ⟨_, rfl, fb, rfl, f0, f1⟩
                · cases h0
                have F0 := Lib.hid f0
                have F1 := Lib.hid f1
                have HB4 := Lib.hid (HB.out.trans (hb4.mono HB.out.size))
                have HG4 := Lib.hid (HG3.out.below hb4)
                clear f0 f1 hb4
                go_wp2_with fail
                refine (number_any _ 130 _ ((HG4.out.err).below ((Below.refl _ _).alloc (Nat.le_refl _) _)) ((ErrV.fault ⟨fb, 0, none⟩ 130 F1.out).below ((Below.refl _ _).alloc (Nat.le_refl _) _))).mono ?_
                rintro e w5 ⟨rfl, hb5⟩
                have hb45 := ((Below.refl w4.heap.size w4).alloc (Nat.le_refl _) (.cells #[.slice none 0 0] tConf)).trans (hb5.mono (by simp))
                have HB45 := Lib.hid hb45
                clear hb5 hb45
                go_wp2_with fail
                refine (place_fault 2 fb _ (HG4.out.err.below HB45.out) (Below.cell_some HB45.out (Nat.le_refl _) F0.out)).mono ?_
                rintro e w6 ⟨rfl, hb6⟩
                have HB6 := Lib.hid (HB4.out.trans ((HB45.out.mono HB4.out.size).trans (hb6.mono (Nat.le_trans HB4.out.size HB45.out.size))))
                clear hb6
                go_wp2_with fail
                go_ret
                exact ⟨rfl, HB6.out⟩
      · have z2 : t.toList.isEmpty = false := by rw [hem, decide_eq_false_iff_not]; omega
        have z3 : ((t[0].toNat : Int) == 48) = true := by rw [beq_iff_eq]; omega
        have z1 : ((t.size : Int) == 1) = false := by rw [beq_eq_false_iff_ne]; omega
        clear hem
        go_wp2_with fail
        go_loopw [8, 9, 38] (fun n g iv wr => ∃ (i nv : Nat) (gb : Bool), i ≤ t.size ∧ iv = .int .i64 i ∧ n = .int .i64 nv ∧ g = .bool gb ∧ nv ≤ 999999 ∧ Below w.heap.size w wr ∧ Hid (gb = (pre0 t.data.toList && (t.data.toList.take i).all digitB)) ∧ Hid (gb = true → nv = valN 0 (t.data.toList.take i)) ∧ Hid ((t.data.toList.take i).all (fun b => b != 32) = true ∧ (t.data.toList.take i).all (fun b => b != 10) = true)) (fun _ _ iv _ => t.size - (intOf iv).toNat)
        case atStart => exact ⟨0, 0, _, by omega, rfl, rfl, rfl, by omega, hb1, Lib.hid (by rw [HG0.out]; rfl), Lib.hid (fun _ => by rw [List.take_zero, valN_nil]), Lib.hid ⟨rfl, rfl⟩⟩
        case round =>
          obtain ⟨i, nv, gb, hi, rfl, rfl, rfl, hnv, hb, H1, H2, H3⟩ := hrel
          by_cases hlt : i < t.size
          · have hnx : t.data.toList[i]? = some t[i] := by rw [List.getElem?_eq_getElem (by rw [Array.length_toList]; exact hlt)]; rfl
            have HNX := Lib.hid hnx
            clear hnx
            by_cases b32 : (t[i].toNat : Int) = 32
            · cases gb
              · go_wp2_with fail
                go_ret
                exact ⟨rfl, hb⟩
              · exact absurd H1.out (by rw [HG0.out]; simp)
            · by_cases b10 : (t[i].toNat : Int) = 10
              · cases gb
                · go_wp2_with fail
                  go_ret
                  exact ⟨rfl, hb⟩
                · exact absurd H1.out (by rw [HG0.out]; simp)
              · have q32 : ((t[i].toNat : Int) == 32) = false := by simpa using b32
                have q10 : ((t[i].toNat : Int) == 10) = false := by simpa using b10
                have N3 : Hid ((t.data.toList.take (i + 1)).all (fun b => b != 32) = true ∧ (t.data.toList.take (i + 1)).all (fun b => b != 10) = true) := Lib.hid (take_not H3.out HNX.out (by omega) (by omega))
                have htk := take_next HNX.out
                have HTK := Lib.hid htk
                clear htk
                cases gb
                · go_wp2_with fail
                  go_roundw
                  case rel => exact ⟨i + 1, nv, false, by omega, by go_num, rfl, rfl, hnv, hb, Lib.hid (by rw [HTK.out, List.all_append, ← Bool.and_assoc, ← H1.out]; rfl), Lib.hid (fun e => by cases e), N3⟩
                  case measure => simp [intOf]; omega
                · exact absurd H1.out (by rw [HG0.out]; simp)
          · have hti : i = t.size := by omega
            have htk : t.data.toList.take i = t.data.toList := List.take_of_length_le (by rw [show t.data.toList.length = t.size from Array.length_toList]; omega)
            rw [htk] at H1 H2 H3
            have HPT : Hid (okN false t.data.toList = true → parse (numText false t.data.toList) = (0, 0, [numM false t.data.toList])) := Lib.hid (fun e => by rw [num_parse _ _ (by rw [show t.data.toList.length = t.size from Array.length_toList]; omega) H3.out.1 H3.out.2, e]; rfl)
            have HPF : Hid (okN false t.data.toList = false → parse (numText false t.data.toList) = (130, 2, [])) := Lib.hid (fun e => by rw [num_parse _ _ (by rw [show t.data.toList.length = t.size from Array.length_toList]; omega) H3.out.1 H3.out.2, e]; rfl)
            have HOK := Lib.hid (okN_of false t.data.toList)
            have HB := Lib.hid hb
            have HG3 := Lib.hid (HG.out.below hb)
            clear hti htk hb
            cases gb
            · replace HPF := Lib.hid (HPF.out (by rw [HOK.out, ← H1.out]; rfl))
              go_wp2_with fail
              refine (parse_any _ _ (by simp only [ByteArray.size_append, ksz1, ksz2, ksz3, ksz4]; omega) HG3.out).mono ?_
              rintro e w4 ⟨v, ev, rfl, hb4, h⟩
              rw [numT_f, HPF.out] at h
              rcases h with ⟨h0, _⟩ | ⟨_, rfl, fb, rfl, f0, f1⟩
              · cases h0
              have F0 := Lib.hid f0
              have F1 := Lib.hid f1
              have HB4 := Lib.hid (HB.out.trans (hb4.mono HB.out.size))
              have HG4 := Lib.hid (HG3.out.below hb4)
              clear f0 f1 hb4
              go_wp2_with fail
              refine (number_any _ 130 _ ((HG4.out.err).below ((Below.refl _ _).alloc (Nat.le_refl _) _)) ((ErrV.fault ⟨fb, 0, none⟩ 130 F1.out).below ((Below.refl _ _).alloc (Nat.le_refl _) _))).mono ?_
              rintro e w5 ⟨rfl, hb5⟩
              have hb45 := ((Below.refl w4.heap.size w4).alloc (Nat.le_refl _) (.cells #[.slice none 0 0] tConf)).trans (hb5.mono (by simp))
              have HB45 := Lib.hid hb45
              clear hb5 hb45
              go_wp2_with fail
              refine (place_fault 2 fb _ (HG4.out.err.below HB45.out) (Below.cell_some HB45.out (Nat.le_refl _) F0.out)).mono ?_
              rintro e w6 ⟨rfl, hb6⟩
              have HB6 := Lib.hid (HB4.out.trans ((HB45.out.mono HB4.out.size).trans (hb6.mono (Nat.le_trans HB4.out.size HB45.out.size))))
              clear hb6
              go_wp2_with fail
              go_ret
              exact ⟨rfl, HB6.out⟩
            · exact absurd H1.out (by rw [HG0.out]; simp)
      · have z2 : t.toList.isEmpty = false := by rw [hem, decide_eq_false_iff_not]; omega
        have z3 : ((t[0].toNat : Int) == 48) = false := by rw [beq_eq_false_iff_ne]; omega
        clear hem
        go_wp2_with fail
        go_loopw [8, 9, 38] (fun n g iv wr => ∃ (i nv : Nat) (gb : Bool), i ≤ t.size ∧ iv = .int .i64 i ∧ n = .int .i64 nv ∧ g = .bool gb ∧ nv ≤ 999999 ∧ Below w.heap.size w wr ∧ Hid (gb = (pre0 t.data.toList && (t.data.toList.take i).all digitB)) ∧ Hid (gb = true → nv = valN 0 (t.data.toList.take i)) ∧ Hid ((t.data.toList.take i).all (fun b => b != 32) = true ∧ (t.data.toList.take i).all (fun b => b != 10) = true)) (fun _ _ iv _ => t.size - (intOf iv).toNat)
        case atStart => exact ⟨0, 0, _, by omega, rfl, rfl, rfl, by omega, hb1, Lib.hid (by rw [HG0.out]; rfl), Lib.hid (fun _ => by rw [List.take_zero, valN_nil]), Lib.hid ⟨rfl, rfl⟩⟩
        case round =>
          obtain ⟨i, nv, gb, hi, rfl, rfl, rfl, hnv, hb, H1, H2, H3⟩ := hrel
          by_cases hlt : i < t.size
          · have hnx : t.data.toList[i]? = some t[i] := by rw [List.getElem?_eq_getElem (by rw [Array.length_toList]; exact hlt)]; rfl
            have HNX := Lib.hid hnx
            clear hnx
            by_cases b32 : (t[i].toNat : Int) = 32
            · cases gb
              · go_wp2_with fail
                go_ret
                exact ⟨rfl, hb⟩
              · go_wp2_with fail
                go_ret
                exact ⟨rfl, hb⟩
            · by_cases b10 : (t[i].toNat : Int) = 10
              · cases gb
                · go_wp2_with fail
                  go_ret
                  exact ⟨rfl, hb⟩
                · go_wp2_with fail
                  go_ret
                  exact ⟨rfl, hb⟩
              · have q32 : ((t[i].toNat : Int) == 32) = false := by simpa using b32
                have q10 : ((t[i].toNat : Int) == 10) = false := by simpa using b10
                have N3 : Hid ((t.data.toList.take (i + 1)).all (fun b => b != 32) = true ∧ (t.data.toList.take (i + 1)).all (fun b => b != 10) = true) := Lib.hid (take_not H3.out HNX.out (by omega) (by omega))
                have htk := take_next HNX.out
                have HTK := Lib.hid htk
                clear htk
                cases gb
                · go_wp2_with fail
                  go_roundw
                  case rel => exact ⟨i + 1, nv, false, by omega, by go_num, rfl, rfl, hnv, hb, Lib.hid (by rw [HTK.out, List.all_append, ← Bool.and_assoc, ← H1.out]; rfl), Lib.hid (fun e => by cases e), N3⟩
                  case measure => simp [intOf]; omega
                · by_cases d1 : 48 ≤ (t[i].toNat : Int)
                  · by_cases d2 : (t[i].toNat : Int) ≤ 57
                    · have HV : Hid (nv * 10 + (t[i].toNat - 48) = valN 0 (t.data.toList.take (i + 1)) ∧ (t.data.toList.take (i + 1)).all digitB = true) := Lib.hid (num_next HTK.out (H2.out rfl) H1.out (by omega) (by omega))
                      have hv9 : nv * 10 + (t[i].toNat - 48) ≤ 999999 := by
                        have h9 := HV.out
                        rw [h9.1]
                        have h8 := valN_lt _ h9.2
                        have h7 : (10 : Nat) ^ (t.data.toList.take (i + 1)).length ≤ 10 ^ 6 := Nat.pow_le_pow_right (by omega) (by rw [List.length_take]; omega)
                        omega
                      go_wp2_with fail
                      go_roundw
                      case rel => exact ⟨i + 1, nv * 10 + (t[i].toNat - 48), true, by omega, by go_num, by congr 1; omega, rfl, hv9, hb, Lib.hid (by rw [HV.out.2, Bool.and_true]; exact num_pre H1.out), Lib.hid (fun _ => HV.out.1), N3⟩
                      case measure => simp [intOf]; omega
                    · go_wp2_with fail
                      go_roundw
                      case rel => exact ⟨i + 1, nv, false, by omega, by go_num, rfl, rfl, hnv, hb, Lib.hid (num_stop HTK.out (by omega)), Lib.hid (fun e => by cases e), N3⟩
                      case measure => simp [intOf]; omega
                  · go_wp2_with fail
                    go_roundw
                    case rel => exact ⟨i + 1, nv, false, by omega, by go_num, rfl, rfl, hnv, hb, Lib.hid (num_stop HTK.out (by omega)), Lib.hid (fun e => by cases e), N3⟩
                    case measure => simp [intOf]; omega
          · have hti : i = t.size := by omega
            have htk : t.data.toList.take i = t.data.toList := List.take_of_length_le (by rw [show t.data.toList.length = t.size from Array.length_toList]; omega)
            rw [htk] at H1 H2 H3
            have HPT : Hid (okN false t.data.toList = true → parse (numText false t.data.toList) = (0, 0, [numM false t.data.toList])) := Lib.hid (fun e => by rw [num_parse _ _ (by rw [show t.data.toList.length = t.size from Array.length_toList]; omega) H3.out.1 H3.out.2, e]; rfl)
            have HPF : Hid (okN false t.data.toList = false → parse (numText false t.data.toList) = (130, 2, [])) := Lib.hid (fun e => by rw [num_parse _ _ (by rw [show t.data.toList.length = t.size from Array.length_toList]; omega) H3.out.1 H3.out.2, e]; rfl)
            have HOK := Lib.hid (okN_of false t.data.toList)
            have HB := Lib.hid hb
            have HG3 := Lib.hid (HG.out.below hb)
            clear hti htk hb
            cases gb
            · replace HPF := Lib.hid (HPF.out (by rw [HOK.out, ← H1.out]; rfl))
              go_wp2_with fail
              refine (parse_any _ _ (by simp only [ByteArray.size_append, ksz1, ksz2, ksz3, ksz4]; omega) HG3.out).mono ?_
              rintro e w4 ⟨v, ev, rfl, hb4, h⟩
              rw [numT_f, HPF.out] at h
              rcases h with ⟨h0, _⟩ | ⟨_, rfl, fb, rfl, f0, f1⟩
              · cases h0
              have F0 := Lib.hid f0
              have F1 := Lib.hid f1
              have HB4 := Lib.hid (HB.out.trans (hb4.mono HB.out.size))
              have HG4 := Lib.hid (HG3.out.below hb4)
              clear f0 f1 hb4
              go_wp2_with fail
              refine (number_any _ 130 _ ((HG4.out.err).below ((Below.refl _ _).alloc (Nat.le_refl _) _)) ((ErrV.fault ⟨fb, 0, none⟩ 130 F1.out).below ((Below.refl _ _).alloc (Nat.le_refl _) _))).mono ?_
              rintro e w5 ⟨rfl, hb5⟩
              have hb45 := ((Below.refl w4.heap.size w4).alloc (Nat.le_refl _) (.cells #[.slice none 0 0] tConf)).trans (hb5.mono (by simp))
              have HB45 := Lib.hid hb45
              clear hb5 hb45
              go_wp2_with fail
              refine (place_fault 2 fb _ (HG4.out.err.below HB45.out) (Below.cell_some HB45.out (Nat.le_refl _) F0.out)).mono ?_
              rintro e w6 ⟨rfl, hb6⟩
              have HB6 := Lib.hid (HB4.out.trans ((HB45.out.mono HB4.out.size).trans (hb6.mono (Nat.le_trans HB4.out.size HB45.out.size))))
              clear hb6
              go_wp2_with fail
              go_ret
              exact ⟨rfl, HB6.out⟩
            · have HN : Hid (numR t.data.toList = (nv : Int)) := Lib.hid (by rw [numR_of _ H1.out.symm, H2.out rfl])
              have HVN := Lib.hid (H2.out rfl)
              by_cases r2 : (nv : Int) ≤ 262144
              · replace HPT := Lib.hid (HPT.out (by rw [HOK.out, ← H1.out, ← HVN.out]; simp; omega))
                go_wp2_with fail
                refine (parse_any _ _ (by simp only [ByteArray.size_append, ksz1, ksz2, ksz3, ksz4]; omega) HG3.out).mono ?_
                rintro e w4 ⟨v, ev, rfl, hb4, h⟩
                rw [numT_f, HPT.out] at h
                rcases h with ⟨_, rfl, L, hL, hown⟩ | ⟨h0, _⟩
                · have hrd := hown.rd
                  rw [hL] at hrd
                  obtain ⟨A, c, rfl, hc, hcm, hcell⟩ := hrd
                  obtain ⟨g, o, hA, hcl⟩ := hcell (by intro e; cases e)
                  subst hA
                  obtain ⟨k0, _, _, k3, k4, _, _, _⟩ := hcl 0 _ rfl
                  have HB4 := Lib.hid (HB.out.trans (hb4.mono HB.out.size))
                  have hgl : g < w4.heap.size := cell_lt k0
                  have K34 : w4.cell? ⟨g, o + 0 * 6 + 4, none⟩ = some (.int .i64 (nv : Int)) := by rw [k4]; exact congrArg (fun x => some (Value.int .i64 x)) HN.out
                  have tt : ((nv : Int) == (nv : Int)) = true := by simp
                  clear k0 k3 k4 hL hown hcell hcl hb4
                  simp only [Nat.zero_mul, Nat.add_zero] at K34
                  go_wp2_with fail
                  go_ret
                  exact ⟨by first | rfl | simp, HB4.out.alloc HB4.out.size _⟩
                · exact absurd rfl h0
              · replace HPF := Lib.hid (HPF.out (by rw [HOK.out, ← H1.out, ← HVN.out]; simp; omega))
                go_wp2_with fail
                refine (parse_any _ _ (by simp only [ByteArray.size_append, ksz1, ksz2, ksz3, ksz4]; omega) HG3.out).mono ?_
                rintro e w4 ⟨v, ev, rfl, hb4, h⟩
                rw [numT_f, HPF.out] at h
                rcases h with ⟨h0, _⟩ | ⟨_, rfl, fb, rfl, f0, f1⟩
                · cases h0
                have F0 := Lib.hid f0
                have F1 := Lib.hid f1
                have HB4 := Lib.hid (HB.out.trans (hb4.mono HB.out.size))
                have HG4 := Lib.hid (HG3.out.below hb4)
                clear f0 f1 hb4
                go_wp2_with fail
                refine (number_any _ 130 _ ((HG4.out.err).below ((Below.refl _ _).alloc (Nat.le_refl _) _)) ((ErrV.fault ⟨fb, 0, none⟩ 130 F1.out).below ((Below.refl _ _).alloc (Nat.le_refl _) _))).mono ?_
                rintro e w5 ⟨rfl, hb5⟩
                have hb45 := ((Below.refl w4.heap.size w4).alloc (Nat.le_refl _) (.cells #[.slice none 0 0] tConf)).trans (hb5.mono (by simp))
                have HB45 := Lib.hid hb45
                clear hb5 hb45
                go_wp2_with fail
                refine (place_fault 2 fb _ (HG4.out.err.below HB45.out) (Below.cell_some HB45.out (Nat.le_refl _) F0.out)).mono ?_
                rintro e w6 ⟨rfl, hb6⟩
                have HB6 := Lib.hid (HB4.out.trans ((HB45.out.mono HB4.out.size).trans (hb6.mono (Nat.le_trans HB4.out.size HB45.out.size))))
                clear hb6
                go_wp2_with fail
                go_ret
                exact ⟨rfl, HB6.out⟩
    · rcases hc with ⟨h1, rfl⟩ | ⟨h1, rfl⟩ | ⟨h0, h6, h48, h1, rfl⟩ | ⟨h0, h6, h48, h1, rfl⟩ | ⟨h0, h6, h48, rfl⟩
      · have z2 : t.toList.isEmpty = true := by rw [hem, decide_eq_true_eq]; omega
        clear hem
        go_wp2_with fail
        go_loopw [8, 9, 38] (fun n g iv wr => ∃ (i nv : Nat) (gb : Bool), i ≤ t.size ∧ iv = .int .i64 i ∧ n = .int .i64 nv ∧ g = .bool gb ∧ nv ≤ 999999 ∧ Below w.heap.size w wr ∧ Hid (gb = (pre0 t.data.toList && (t.data.toList.take i).all digitB)) ∧ Hid (gb = true → nv = valN 0 (t.data.toList.take i)) ∧ Hid ((t.data.toList.take i).all (fun b => b != 32) = true ∧ (t.data.toList.take i).all (fun b => b != 10) = true)) (fun _ _ iv _ => t.size - (intOf iv).toNat)
        case atStart => exact ⟨0, 0, _, by omega, rfl, rfl, rfl, by omega, hb1, Lib.hid (by rw [HG0.out]; rfl), Lib.hid (fun _ => by rw [List.take_zero, valN_nil]), Lib.hid ⟨rfl, rfl⟩⟩
        case round =>
          obtain ⟨i, nv, gb, hi, rfl, rfl, rfl, hnv, hb, H1, H2, H3⟩ := hrel
          by_cases hlt : i < t.size
          · exact absurd hlt (by omega)
          · have hti : i = t.size := by omega
            have htk : t.data.toList.take i = t.data.toList := List.take_of_length_le (by rw [show t.data.toList.length = t.size from Array.length_toList]; omega)
            rw [htk] at H1 H2 H3
            have HPT : Hid (okN true t.data.toList = true → parse (numText true t.data.toList) = (0, 0, [numM true t.data.toList])) := Lib.hid (fun e => by rw [num_parse _ _ (by rw [show t.data.toList.length = t.size from Array.length_toList]; omega) H3.out.1 H3.out.2, e]; rfl)
            have HPF : Hid (okN true t.data.toList = false → parse (numText true t.data.toList) = (130, 2, [])) := Lib.hid (fun e => by rw [num_parse _ _ (by rw [show t.data.toList.length = t.size from Array.length_toList]; omega) H3.out.1 H3.out.2, e]; rfl)
            have HOK := Lib.hid (okN_of true t.data.toList)
            have HB := Lib.hid hb
            have HG3 := Lib.hid (HG.out.below hb)
            clear hti htk hb
            cases gb
            · replace HPF := Lib.hid (HPF.out (by rw [HOK.out, ← H1.out]; rfl))
              go_wp2_with fail
              refine (parse_any _ _ (by simp only [ByteArray.size_append, ksz1, ksz2, ksz3, ksz4]; omega) HG3.out).mono ?_
              rintro e w4 ⟨v, ev, rfl, hb4, h⟩
              rw [numT_t, HPF.out] at h
              rcases h with ⟨h0, _⟩ | ⟨_, rfl, fb, rfl, f0, f1⟩
              · cases h0
              have F0 := Lib.hid f0
              have F1 := Lib.hid f1
              have HB4 := Lib.hid (HB.out.trans (hb4.mono HB.out.size))
              have HG4 := Lib.hid (HG3.out.below hb4)
              clear f0 f1 hb4
              go_wp2_with fail
              refine (number_any _ 130 _ ((HG4.out.err).below ((Below.refl _ _).alloc (Nat.le_refl _) _)) ((ErrV.fault ⟨fb, 0, none⟩ 130 F1.out).below ((Below.refl _ _).alloc (Nat.le_refl _) _))).mono ?_
              rintro e w5 ⟨rfl, hb5⟩
              have hb45 := ((Below.refl w4.heap.size w4).alloc (Nat.le_refl _) (.cells #[.slice none 0 0] tConf)).trans (hb5.mono (by simp))
              have HB45 := Lib.hid hb45
              clear hb5 hb45
              go_wp2_with fail
              refine (place_fault 2 fb _ (HG4.out.err.below HB45.out) (Below.cell_some HB45.out (Nat.le_refl _) F0.out)).mono ?_
              rintro e w6 ⟨rfl, hb6⟩
              have HB6 := Lib.hid (HB4.out.trans ((HB45.out.mono HB4.out.size).trans (hb6.mono (Nat.le_trans HB4.out.size HB45.out.size))))
              clear hb6
              go_wp2_with fail
              go_ret
              exact ⟨rfl, HB6.out⟩
            · exact absurd H1.out (by rw [HG0.out]; simp)
      · have z2 : t.toList.isEmpty = false := by rw [hem, decide_eq_false_iff_not]; omega
        clear hem
        go_wp2_with fail
        go_loopw [8, 9, 38] (fun n g iv wr => ∃ (i nv : Nat) (gb : Bool), i ≤ t.size ∧ iv = .int .i64 i ∧ n = .int .i64 nv ∧ g = .bool gb ∧ nv ≤ 999999 ∧ Below w.heap.size w wr ∧ Hid (gb = (pre0 t.data.toList && (t.data.toList.take i).all digitB)) ∧ Hid (gb = true → nv = valN 0 (t.data.toList.take i)) ∧ Hid ((t.data.toList.take i).all (fun b => b != 32) = true ∧ (t.data.toList.take i).all (fun b => b != 10) = true)) (fun _ _ iv _ => t.size - (intOf iv).toNat)
        case atStart => exact ⟨0, 0, _, by omega, rfl, rfl, rfl, by omega, hb1, Lib.hid (by rw [HG0.out]; rfl), Lib.hid (fun _ => by rw [List.take_zero, valN_nil]), Lib.hid ⟨rfl, rfl⟩⟩
        case round =>
          obtain ⟨i, nv, gb, hi, rfl, rfl, rfl, hnv, hb, H1, H2, H3⟩ := hrel
          by_cases hlt : i < t.size
          · have hnx : t.data.toList[i]? = some t[i] := by rw [List.getElem?_eq_getElem (by rw [Array.length_toList]; exact hlt)]; rfl
            have HNX := Lib.hid hnx
            clear hnx
            by_cases b32 : (t[i].toNat : Int) = 32
            · cases gb
              · go_wp2_with fail
                go_ret
                exact ⟨rfl, hb⟩
              · exact absurd H1.out (by rw [HG0.out]; simp)
            · by_cases b10 : (t[i].toNat : Int) = 10
              · cases gb
                · go_wp2_with fail
                  go_ret
                  exact ⟨rfl, hb⟩
                · exact absurd H1.out (by rw [HG0.out]; simp)
              · have q32 : ((t[i].toNat : Int) == 32) = false := by simpa using b32
                have q10 : ((t[i].toNat : Int) == 10) = false := by simpa using b10
                have N3 : Hid ((t.data.toList.take (i + 1)).all (fun b => b != 32) = true ∧ (t.data.toList.take (i + 1)).all (fun b => b != 10) = true) := Lib.hid (take_not H3.out HNX.out (by omega) (by omega))
                have htk := take_next HNX.out
                have HTK := Lib.hid htk
                clear htk
                cases gb
                · go_wp2_with fail
                  go_roundw
                  case rel => exact ⟨i + 1, nv, false, by omega, by go_num, rfl, rfl, hnv, hb, Lib.hid (by rw [HTK.out, List.all_append, ← Bool.and_assoc, ← H1.out]; rfl), Lib.hid (fun e => by cases e), N3⟩
                  case measure => simp [intOf]; omega
                · exact absurd H1.out (by rw [HG0.out]; simp)
          · have hti : i = t.size := by omega
            have htk : t.data.toList.take i = t.data.toList := List.take_of_length_le (by rw [show t.data.toList.length = t.size from Array.length_toList]; omega)
            rw [htk] at H1 H2 H3
            have HPT : Hid (okN true t.data.toList = true → parse (numText true t.data.toList) = (0, 0, [numM true t.data.toList])) := Lib.hid (fun e => by rw [num_parse _ _ (by rw [show t.data.toList.length = t.size from Array.length_toList]; omega) H3.out.1 H3.out.2, e]; rfl)
            have HPF : Hid (okN true t.data.toList = false → parse (numText true t.data.toList) = (130, 2, [])) := Lib.hid (fun e => by rw [num_parse _ _ (by rw [show t.data.toList.length = t.size from Array.length_toList]; omega) H3.out.1 H3.out.2, e]; rfl)
            have HOK := Lib.hid (okN_of true t.data.toList)
            have HB := Lib.hid hb
            have HG3 := Lib.hid (HG.out.below hb)
            clear hti htk hb
            cases gb
            · replace HPF := Lib.hid (HPF.out (by rw [HOK.out, ← H1.out]; rfl))
              go_wp2_with fail
              refine (parse_any _ _ (by simp only [ByteArray.size_append, ksz1, ksz2, ksz3, ksz4]; omega) HG3.out).mono ?_
              rintro e w4 ⟨v, ev, rfl, hb4, h⟩
              rw [numT_t, HPF.out] at h
              rcases h with ⟨h0, _⟩ | ⟨_, rfl, fb, rfl, f0, f1⟩
              · cases h0
              have F0 := Lib.hid f0
              have F1 := Lib.hid f1
              have HB4 := Lib.hid (HB.out.trans (hb4.mono HB.out.size))
              have HG4 := Lib.hid (HG3.out.below hb4)
              clear f0 f1 hb4
              go_wp2_with fail
              refine (number_any _ 130 _ ((HG4.out.err).below ((Below.refl _ _).alloc (Nat.le_refl _) _)) ((ErrV.fault ⟨fb, 0, none⟩ 130 F1.out).below ((Below.refl _ _).alloc (Nat.le_refl _) _))).mono ?_
              rintro e w5 ⟨rfl, hb5⟩
              have hb45 := ((Below.refl w4.heap.size w4).alloc (Nat.le_refl _) (.cells #[.slice none 0 0] tConf)).trans (hb5.mono (by simp))
              have HB45 := Lib.hid hb45
              clear hb5 hb45
              go_wp2_with fail
              refine (place_fault 2 fb _ (HG4.out.err.below HB45.out) (Below.cell_some HB45.out (Nat.le_refl _) F0.out)).mono ?_
              rintro e w6 ⟨rfl, hb6⟩
              have HB6 := Lib.hid (HB4.out.trans ((HB45.out.mono HB4.out.size).trans (hb6.mono (Nat.le_trans HB4.out.size HB45.out.size))))
              clear hb6
              go_wp2_with fail
              go_ret
              exact ⟨rfl, HB6.out⟩
            · exact absurd H1.out (by rw [HG0.out]; simp)
      · have z2 : t.toList.isEmpty = false := by rw [hem, decide_eq_false_iff_not]; omega
        have z3 : ((t[0].toNat : Int) == 48) = true := by rw [beq_iff_eq]; omega
        have z1 : ((t.size : Int) == 1) = true := by rw [beq_iff_eq]; omega
        clear hem
        go_wp2_with fail
        go_loopw [8, 9, 38] (fun n g iv wr => ∃ (i nv : Nat) (gb : Bool), i ≤ t.size ∧ iv = .int .i64 i ∧ n = .int .i64 nv ∧ g = .bool gb ∧ nv ≤ 999999 ∧ Below w.heap.size w wr ∧ Hid (gb = (pre0 t.data.toList && (t.data.toList.take i).all digitB)) ∧ Hid (gb = true → nv = valN 0 (t.data.toList.take i)) ∧ Hid ((t.data.toList.take i).all (fun b => b != 32) = true ∧ (t.data.toList.take i).all (fun b => b != 10) = true)) (fun _ _ iv _ => t.size - (intOf iv).toNat)
        case atStart => exact ⟨0, 0, _, by omega, rfl, rfl, rfl, by omega, hb1, Lib.hid (by rw [HG0.out]; rfl), Lib.hid (fun _ => by rw [List.take_zero, valN_nil]), Lib.hid ⟨rfl, rfl⟩⟩
        case round =>
          obtain ⟨i, nv, gb, hi, rfl, rfl, rfl, hnv, hb, H1, H2, H3⟩ := hrel
          by_cases hlt : i < t.size
          · have hnx : t.data.toList[i]? = some t[i] := by rw [List.getElem?_eq_getElem (by rw [Array.length_toList]; exact hlt)]; rfl
            have HNX := Lib.hid hnx
            clear hnx
            by_cases b32 : (t[i].toNat : Int) = 32
            · cases gb
              · go_wp2_with fail
                go_ret
                exact ⟨rfl, hb⟩
              · go_wp2_with fail
                go_ret
                exact ⟨rfl, hb⟩
            · by_cases b10 : (t[i].toNat : Int) = 10
              · cases gb
                · go_wp2_with fail
                  go_ret
                  exact ⟨rfl, hb⟩
                · go_wp2_with fail
                  go_ret
                  exact ⟨rfl, hb⟩
              · have q32 : ((t[i].toNat : Int) == 32) = false := by simpa using b32
                have q10 : ((t[i].toNat : Int) == 10) = false := by simpa using b10
                have N3 : Hid ((t.data.toList.take (i + 1)).all (fun b => b != 32) = true ∧ (t.data.toList.take (i + 1)).all (fun b => b != 10) = true) := Lib.hid (take_not H3.out HNX.out (by omega) (by omega))
                have htk := take_next HNX.out
                have HTK := Lib.hid htk
                clear htk
                cases gb
                · go_wp2_with fail
                  go_roundw
                  case rel => exact ⟨i + 1, nv, false, by omega, by go_num, rfl, rfl, hnv, hb, Lib.hid (by rw [HTK.out, List.all_append, ← Bool.and_assoc, ← H1.out]; rfl), Lib.hid (fun e => by cases e), N3⟩
                  case measure => simp [intOf]; omega
                · by_cases d1 : 48 ≤ (t[i].toNat : Int)
                  · by_cases d2 : (t[i].toNat : Int) ≤ 57
                    · have HV : Hid (nv * 10 + (t[i].toNat - 48) = valN 0 (t.data.toList.take (i + 1)) ∧ (t.data.toList.take (i + 1)).all digitB = true) := Lib.hid (num_next HTK.out (H2.out rfl) H1.out (by omega) (by omega))
                      have hv9 : nv * 10 + (t[i].toNat - 48) ≤ 999999 := by
                        have h9 := HV.out
                        rw [h9.1]
                        have h8 := valN_lt _ h9.2
                        have h7 : (10 : Nat) ^ (t.data.toList.take (i + 1)).length ≤ 10 ^ 6 := Nat.pow_le_pow_right (by omega) (by rw [List.length_take]; omega)
                        omega
                      go_wp2_with fail
                      go_roundw
                      case rel => exact ⟨i + 1, nv * 10 + (t[i].toNat - 48), true, by omega, by go_num, by congr 1; omega, rfl, hv9, hb, Lib.hid (by rw [HV.out.2, Bool.and_true]; exact num_pre H1.out), Lib.hid (fun _ => HV.out.1), N3⟩
                      case measure => simp [intOf]; omega
                    · go_wp2_with fail
                      go_roundw
                      case rel => exact ⟨i + 1, nv, false, by omega, by go_num, rfl, rfl, hnv, hb, Lib.hid (num_stop HTK.out (by omega)), Lib.hid (fun e => by cases e), N3⟩
                      case measure => simp [intOf]; omega
                  · go_wp2_with fail
                    go_roundw
                    case rel => exact ⟨i + 1, nv, false, by omega, by go_num, rfl, rfl, hnv, hb, Lib.hid (num_stop HTK.out (by omega)), Lib.hid (fun e => by cases e), N3⟩
                    case measure => simp [intOf]; omega
          · have hti : i = t.size := by omega
            have htk : t.data.toList.take i = t.data.toList := List.take_of_length_le (by rw [show t.data.toList.length = t.size from Array.length_toList]; omega)
            rw [htk] at H1 H2 H3
            have HPT : Hid (okN true t.data.toList = true → parse (numText true t.data.toList) = (0, 0, [numM true t.data.toList])) := Lib.hid (fun e => by rw [num_parse _ _ (by rw [show t.data.toList.length = t.size from Array.length_toList]; omega) H3.out.1 H3.out.2, e]; rfl)
            have HPF : Hid (okN true t.data.toList = false → parse (numText true t.data.toList) = (130, 2, [])) := Lib.hid (fun e => by rw [num_parse _ _ (by rw [show t.data.toList.length = t.size from Array.length_toList]; omega) H3.out.1 H3.out.2, e]; rfl)
            have HOK := Lib.hid (okN_of true t.data.toList)
            have HB := Lib.hid hb
            have HG3 := Lib.hid (HG.out.below hb)
            clear hti htk hb
            cases gb
            · replace HPF := Lib.hid (HPF.out (by rw [HOK.out, ← H1.out]; rfl))
              go_wp2_with fail
              refine (parse_any _ _ (by simp only [ByteArray.size_append, ksz1, ksz2, ksz3, ksz4]; omega) HG3.out).mono ?_
              rintro e w4 ⟨v, ev, rfl, hb4, h⟩
              rw [numT_t, HPF.out] at h
              rcases h with ⟨h0, _⟩ | ⟨_, rfl, fb, rfl, f0, f1⟩
              · cases h0
              have F0 := Lib.hid f0
              have F1 := Lib.hid f1
              have HB4 := Lib.hid (HB.out.trans (hb4.mono HB.out.size))
              have HG4 := Lib.hid (HG3.out.below hb4)
              clear f0 f1 hb4
              go_wp2_with fail
              refine (number_any _ 130 _ ((HG4.out.err).below ((Below.refl _ _).alloc (Nat.le_refl _) _)) ((ErrV.fault ⟨fb, 0, none⟩ 130 F1.out).below ((Below.refl _ _).alloc (Nat.le_refl _) _))).mono ?_
              rintro e w5 ⟨rfl, hb5⟩
              have hb45 := ((Below.refl w4.heap.size w4).alloc (Nat.le_refl _) (.cells #[.slice none 0 0] tConf)).trans (hb5.mono (by simp))
              have HB45 := Lib.hid hb45
              clear hb5 hb45
              go_wp2_with fail
              refine (place_fault 2 fb _ (HG4.out.err.below HB45.out) (Below.cell_some HB45.out (Nat.le_refl _) F0.out)).mono ?_
              rintro e w6 ⟨rfl, hb6⟩
              have HB6 := Lib.hid (HB4.out.trans ((HB45.out.mono HB4.out.size).trans (hb6.mono (Nat.le_trans HB4.out.size HB45.out.size))))
              clear hb6
              go_wp2_with fail
              go_ret
              exact ⟨rfl, HB6.out⟩
            · have HN : Hid (numR t.data.toList = (nv : Int)) := Lib.hid (by rw [numR_of _ H1.out.symm, H2.out rfl])
              have HVN := Lib.hid (H2.out rfl)
              by_cases r1 : 1 ≤ (nv : Int)
              · by_cases r2 : (nv : Int) ≤ 16
                · replace HPT := Lib.hid (HPT.out (by rw [HOK.out, ← H1.out, ← HVN.out]; simp; omega))
                  go_wp2_with fail
                  refine (parse_any _ _ (by simp only [ByteArray.size_append, ksz1, ksz2, ksz3, ksz4]; omega) HG3.out).mono ?_
                  rintro e w4 ⟨v, ev, rfl, hb4, h⟩
                  rw [numT_t, HPT.out] at h
                  rcases h with ⟨_, rfl, L, hL, hown⟩ | ⟨h0, _⟩
                  · have hrd := hown.rd
                    rw [hL] at hrd
                    obtain ⟨A, c, rfl, hc, hcm, hcell⟩ := hrd
                    obtain ⟨g, o, hA, hcl⟩ := hcell (by intro e; cases e)
                    subst hA
                    obtain ⟨k0, _, _, k3, k4, _, _, _⟩ := hcl 0 _ rfl
                    have HB4 := Lib.hid (HB.out.trans (hb4.mono HB.out.size))
                    have hgl : g < w4.heap.size := cell_lt k0
                    have K34 : w4.cell? ⟨g, o + 0 * 6 + 3, none⟩ = some (.int .i64 (nv : Int)) := by rw [k3]; exact congrArg (fun x => some (Value.int .i64 x)) HN.out
                    have tt : ((nv : Int) == (nv : Int)) = true := by simp
                    clear k0 k3 k4 hL hown hcell hcl hb4
                    simp only [Nat.zero_mul, Nat.add_zero] at K34
                    go_wp2_with fail
                    go_ret
                    exact ⟨by first | rfl | simp, HB4.out.alloc HB4.out.size _⟩
                  · exact absurd rfl h0
                · replace HPF := Lib.hid (HPF.out (by rw [HOK.out, ← H1.out, ← HVN.out]; simp; omega))
                  go_wp2_with fail
                  refine (parse_any _ _ (by simp only [ByteArray.size_append, ksz1, ksz2, ksz3, ksz4]; omega) HG3.out).mono ?_
                  rintro e w4 ⟨v, ev, rfl, hb4, h⟩
                  rw [numT_t, HPF.out] at h
                  rcases h with ⟨h0, _⟩ | ⟨_, rfl, fb, rfl, f0, f1⟩
                  · cases h0
                  have F0 := Lib.hid f0
                  have F1 := Lib.hid f1
                  have HB4 := Lib.hid (HB.out.trans (hb4.mono HB.out.size))
                  have HG4 := Lib.hid (HG3.out.below hb4)
                  clear f0 f1 hb4
                  go_wp2_with fail
                  refine (number_any _ 130 _ ((HG4.out.err).below ((Below.refl _ _).alloc (Nat.le_refl _) _)) ((ErrV.fault ⟨fb, 0, none⟩ 130 F1.out).below ((Below.refl _ _).alloc (Nat.le_refl _) _))).mono ?_
                  rintro e w5 ⟨rfl, hb5⟩
                  have hb45 := ((Below.refl w4.heap.size w4).alloc (Nat.le_refl _) (.cells #[.slice none 0 0] tConf)).trans (hb5.mono (by simp))
                  have HB45 := Lib.hid hb45
                  clear hb5 hb45
                  go_wp2_with fail
                  refine (place_fault 2 fb _ (HG4.out.err.below HB45.out) (Below.cell_some HB45.out (Nat.le_refl _) F0.out)).mono ?_
                  rintro e w6 ⟨rfl, hb6⟩
                  have HB6 := Lib.hid (HB4.out.trans ((HB45.out.mono HB4.out.size).trans (hb6.mono (Nat.le_trans HB4.out.size HB45.out.size))))
                  clear hb6
                  go_wp2_with fail
                  go_ret
                  exact ⟨rfl, HB6.out⟩
              · replace HPF := Lib.hid (HPF.out (by rw [HOK.out, ← H1.out, ← HVN.out]; simp; omega))
                go_wp2_with fail
                refine (parse_any _ _ (by simp only [ByteArray.size_append, ksz1, ksz2, ksz3, ksz4]; omega) HG3.out).mono ?_
                rintro e w4 ⟨v, ev, rfl, hb4, h⟩
                rw [numT_t, HPF.out] at h
                rcases h with ⟨h0, _⟩ | ⟨_, rfl, fb, rfl, f0, f1⟩
                · cases h0
                have F0 := Lib.hid f0
                have F1 := Lib.hid f1
                have HB4 := Lib.hid (HB.out.trans (hb4.mono HB.out.size))
                have HG4 := Lib.hid (HG3.out.below hb4)
                clear f0 f1 hb4
                go_wp2_with fail
                refine (number_any _ 130 _ ((HG4.out.err).below ((Below.refl _ _).alloc (Nat.le_refl _) _)) ((ErrV.fault ⟨fb, 0, none⟩ 130 F1.out).below ((Below.refl _ _).alloc (Nat.le_refl _) _))).mono ?_
                rintro e w5 ⟨rfl, hb5⟩
                have hb45 := ((Below.refl w4.heap.size w4).alloc (Nat.le_refl _) (.cells #[.slice none 0 0] tConf)).trans (hb5.mono (by simp))
                have HB45 := Lib.hid hb45
                clear hb5 hb45
                go_wp2_with fail
                refine (place_fault 2 fb _ (HG4.out.err.below HB45.out) (Below.cell_some HB45.out (Nat.le_refl _) F0.out)).mono ?_
                rintro e w6 ⟨rfl, hb6⟩
                have HB6 := Lib.hid (HB4.out.trans ((HB45.out.mono HB4.out.size).trans (hb6.mono (Nat.le_trans HB4.out.size HB45.out.size))))
                clear hb6
                go_wp2_with fail
                go_ret
                exact ⟨rfl, HB6.out⟩
      · have z2 : t.toList.isEmpty = false := by rw [hem, decide_eq_false_iff_not]; omega
        have z3 : ((t[0].toNat : Int) == 48) = true := by rw [beq_iff_eq]; omega
        have z1 : ((t.size : Int) == 1) = false := by rw [beq_eq_false_iff_ne]; omega
        clear hem
        go_wp2_with fail
        go_loopw [8, 9, 38] (fun n g iv wr => ∃ (i nv : Nat) (gb : Bool), i ≤ t.size ∧ iv = .int .i64 i ∧ n = .int .i64 nv ∧ g = .bool gb ∧ nv ≤ 999999 ∧ Below w.heap.size w wr ∧ Hid (gb = (pre0 t.data.toList && (t.data.toList.take i).all digitB)) ∧ Hid (gb = true → nv = valN 0 (t.data.toList.take i)) ∧ Hid ((t.data.toList.take i).all (fun b => b != 32) = true ∧ (t.data.toList.take i).all (fun b => b != 10) = true)) (fun _ _ iv _ => t.size - (intOf iv).toNat)
        case atStart => exact ⟨0, 0, _, by omega, rfl, rfl, rfl, by omega, hb1, Lib.hid (by rw [HG0.out]; rfl), Lib.hid (fun _ => by rw [List.take_zero, valN_nil]), Lib.hid ⟨rfl, rfl⟩⟩
        case round =>
          obtain ⟨i, nv, gb, hi, rfl, rfl, rfl, hnv, hb, H1, H2, H3⟩ := hrel
          by_cases hlt : i < t.size
          · have hnx : t.data.toList[i]? = some t[i] := by rw [List.getElem?_eq_getElem (by rw [Array.length_toList]; exact hlt)]; rfl
            have HNX := Lib.hid hnx
            clear hnx
            by_cases b32 : (t[i].toNat : Int) = 32
            · cases gb
              · go_wp2_with fail
                go_ret
                exact ⟨rfl, hb⟩
              · exact absurd H1.out (by rw [HG0.out]; simp)
            · by_cases b10 : (t[i].toNat : Int) = 10
              · cases gb
                · go_wp2_with fail
                  go_ret
                  exact ⟨rfl, hb⟩
                · exact absurd H1.out (by rw [HG0.out]; simp)
              · have q32 : ((t[i].toNat : Int) == 32) = false := by simpa using b32
                have q10 : ((t[i].toNat : Int) == 10) = false := by simpa using b10
                have N3 : Hid ((t.data.toList.take (i + 1)).all (fun b => b != 32) = true ∧ (t.data.toList.take (i + 1)).all (fun b => b != 10) = true) := Lib.hid (take_not H3.out HNX.out (by omega) (by omega))
                have htk := take_next HNX.out
                have HTK := Lib.hid htk
                clear htk
                cases gb
                · go_wp2_with fail
                  go_roundw
                  case rel => exact ⟨i + 1, nv, false, by omega, by go_num, rfl, rfl, hnv, hb, Lib.hid (by rw [HTK.out, List.all_append, ← Bool.and_assoc, ← H1.out]; rfl), Lib.hid (fun e => by cases e), N3⟩
                  case measure => simp [intOf]; omega
                · exact absurd H1.out (by rw [HG0.out]; simp)
          · have hti : i = t.size := by omega
            have htk : t.data.toList.take i = t.data.toList := List.take_of_length_le (by rw [show t.data.toList.length = t.size from Array.length_toList]; omega)
            rw [htk] at H1 H2 H3
            have HPT : Hid (okN true t.data.toList = true → parse (numText true t.data.toList) = (0, 0, [numM true t.data.toList])) := Lib.hid (fun e => by rw [num_parse _ _ (by rw [show t.data.toList.length = t.size from Array.length_toList]; omega) H3.out.1 H3.out.2, e]; rfl)
            have HPF : Hid (okN true t.data.toList = false → parse (numText true t.data.toList) = (130, 2, [])) := Lib.hid (fun e => by rw [num_parse _ _ (by rw [show t.data.toList.length = t.size from Array.length_toList]; omega) H3.out.1 H3.out.2, e]; rfl)
            have HOK := Lib.hid (okN_of true t.data.toList)
            have HB := Lib.hid hb
            have HG3 := Lib.hid (HG.out.below hb)
            clear hti htk hb
            cases gb
            · replace HPF := Lib.hid (HPF.out (by rw [HOK.out, ← H1.out]; rfl))
              go_wp2_with fail
              refine (parse_any _ _ (by simp only [ByteArray.size_append, ksz1, ksz2, ksz3, ksz4]; omega) HG3.out).mono ?_
              rintro e w4 ⟨v, ev, rfl, hb4, h⟩
              rw [numT_t, HPF.out] at h
              rcases h with ⟨h0, _⟩ | ⟨_, rfl, fb, rfl, f0, f1⟩
              · cases h0
              have F0 := Lib.hid f0
              have F1 := Lib.hid f1
              have HB4 := Lib.hid (HB.out.trans (hb4.mono HB.out.size))
              have HG4 := Lib.hid (HG3.out.below hb4)
              clear f0 f1 hb4
              go_wp2_with fail
              refine (number_any _ 130 _ ((HG4.out.err).below ((Below.refl _ _).alloc (Nat.le_refl _) _)) ((ErrV.fault ⟨fb, 0, none⟩ 130 F1.out).below ((Below.refl _ _).alloc (Nat.le_refl _) _))).mono ?_
              rintro e w5 ⟨rfl, hb5⟩
              have hb45 := ((Below.refl w4.heap.size w4).alloc (Nat.le_refl _) (.cells #[.slice none 0 0] tConf)).trans (hb5.mono (by simp))
              have HB45 := Lib.hid hb45
              clear hb5 hb45
              go_wp2_with fail
              refine (place_fault 2 fb _ (HG4.out.err.below HB45.out) (Below.cell_some HB45.out (Nat.le_refl _) F0.out)).mono ?_
              rintro e w6 ⟨rfl, hb6⟩
              have HB6 := Lib.hid (HB4.out.trans ((HB45.out.mono HB4.out.size).trans (hb6.mono (Nat.le_trans HB4.out.size HB45.out.size))))
              clear hb6
              go_wp2_with fail
              go_ret
              exact ⟨rfl, HB6.out⟩
            · exact absurd H1.out (by rw [HG0.out]; simp)
      · have z2 : t.toList.isEmpty = false := by rw [hem, decide_eq_false_iff_not]; omega
        have z3 : ((t[0].toNat : Int) == 48) = false := by rw [beq_eq_false_iff_ne]; omega
        clear hem
        go_wp2_with fail
        go_loopw [8, 9, 38] (fun n g iv wr => ∃ (i nv : Nat) (gb : Bool), i ≤ t.size ∧ iv = .int .i64 i ∧ n = .int .i64 nv ∧ g = .bool gb ∧ nv ≤ 999999 ∧ Below w.heap.size w wr ∧ Hid (gb = (pre0 t.data.toList && (t.data.toList.take i).all digitB)) ∧ Hid (gb = true → nv = valN 0 (t.data.toList.take i)) ∧ Hid ((t.data.toList.take i).all (fun b => b != 32) = true ∧ (t.data.toList.take i).all (fun b => b != 10) = true)) (fun _ _ iv _ => t.size - (intOf iv).toNat)
        case atStart => exact ⟨0, 0, _, by omega, rfl, rfl, rfl, by omega, hb1, Lib.hid (by rw [HG0.out]; rfl), Lib.hid (fun _ => by rw [List.take_zero, valN_nil]), Lib.hid ⟨rfl, rfl⟩⟩
        case round =>
          obtain ⟨i, nv, gb, hi, rfl, rfl, rfl, hnv, hb, H1, H2, H3⟩ := hrel
          by_cases hlt : i < t.size
          · have hnx : t.data.toList[i]? = some t[i] := by rw [List.getElem?_eq_getElem (by rw [Array.length_toList]; exact hlt)]; rfl
            have HNX := Lib.hid hnx
            clear hnx
            by_cases b32 : (t[i].toNat : Int) = 32
            · cases gb
              · go_wp2_with fail
                go_ret
                exact ⟨rfl, hb⟩
              · go_wp2_with fail
                go_ret
                exact ⟨rfl, hb⟩
            · by_cases b10 : (t[i].toNat : Int) = 10
              · cases gb
                · go_wp2_with fail
                  go_ret
                  exact ⟨rfl, hb⟩
                · go_wp2_with fail
                  go_ret
                  exact ⟨rfl, hb⟩
              · have q32 : ((t[i].toNat : Int) == 32) = false := by simpa using b32
                have q10 : ((t[i].toNat : Int) == 10) = false := by simpa using b10
                have N3 : Hid ((t.data.toList.take (i + 1)).all (fun b => b != 32) = true ∧ (t.data.toList.take (i + 1)).all (fun b => b != 10) = true) := Lib.hid (take_not H3.out HNX.out (by omega) (by omega))
                have htk := take_next HNX.out
                have HTK := Lib.hid htk
                clear htk
                cases gb
                · go_wp2_with fail
                  go_roundw
                  case rel => exact ⟨i + 1, nv, false, by omega, by go_num, rfl, rfl, hnv, hb, Lib.hid (by rw [HTK.out, List.all_append, ← Bool.and_assoc, ← H1.out]; rfl), Lib.hid (fun e => by cases e), N3⟩
                  case measure => simp [intOf]; omega
                · by_cases d1 : 48 ≤ (t[i].toNat : Int)
                  · by_cases d2 : (t[i].toNat : Int) ≤ 57
                    · have HV : Hid (nv * 10 + (t[i].toNat - 48) = valN 0 (t.data.toList.take (i + 1)) ∧ (t.data.toList.take (i + 1)).all digitB = true) := Lib.hid (num_next HTK.out (H2.out rfl) H1.out (by omega) (by omega))
                      have hv9 : nv * 10 + (t[i].toNat - 48) ≤ 999999 := by
                        have h9 := HV.out
                        rw [h9.1]
                        have h8 := valN_lt _ h9.2
                        have h7 : (10 : Nat) ^ (t.data.toList.take (i + 1)).length ≤ 10 ^ 6 := Nat.pow_le_pow_right (by omega) (by rw [List.length_take]; omega)
                        omega
                      go_wp2_with fail
                      go_roundw
                      case rel => exact ⟨i + 1, nv * 10 + (t[i].toNat - 48), true, by omega, by go_num, by congr 1; omega, rfl, hv9, hb, Lib.hid (by rw [HV.out.2, Bool.and_true]; exact num_pre H1.out), Lib.hid (fun _ => HV.out.1), N3⟩
                      case measure => simp [intOf]; omega
                    · go_wp2_with fail
                      go_roundw
                      case rel => exact ⟨i + 1, nv, false, by omega, by go_num, rfl, rfl, hnv, hb, Lib.hid (num_stop HTK.out (by omega)), Lib.hid (fun e => by cases e), N3⟩
                      case measure => simp [intOf]; omega
                  · go_wp2_with fail
                    go_roundw
                    case rel => exact ⟨i + 1, nv, false, by omega, by go_num, rfl, rfl, hnv, hb, Lib.hid (num_stop HTK.out (by omega)), Lib.hid (fun e => by cases e), N3⟩
                    case measure => simp [intOf]; omega
          · have hti : i = t.size := by omega
            have htk : t.data.toList.take i = t.data.toList := List.take_of_length_le (by rw [show t.data.toList.length = t.size from Array.length_toList]; omega)
            rw [htk] at H1 H2 H3
            have HPT : Hid (okN true t.data.toList = true → parse (numText true t.data.toList) = (0, 0, [numM true t.data.toList])) := Lib.hid (fun e => by rw [num_parse _ _ (by rw [show t.data.toList.length = t.size from Array.length_toList]; omega) H3.out.1 H3.out.2, e]; rfl)
            have HPF : Hid (okN true t.data.toList = false → parse (numText true t.data.toList) = (130, 2, [])) := Lib.hid (fun e => by rw [num_parse _ _ (by rw [show t.data.toList.length = t.size from Array.length_toList]; omega) H3.out.1 H3.out.2, e]; rfl)
            have HOK := Lib.hid (okN_of true t.data.toList)
            have HB := Lib.hid hb
            have HG3 := Lib.hid (HG.out.below hb)
            clear hti htk hb
            cases gb
            · replace HPF := Lib.hid (HPF.out (by rw [HOK.out, ← H1.out]; rfl))
              go_wp2_with fail
              refine (parse_any _ _ (by simp only [ByteArray.size_append, ksz1, ksz2, ksz3, ksz4]; omega) HG3.out).mono ?_
              rintro e w4 ⟨v, ev, rfl, hb4, h⟩
              rw [numT_t, HPF.out] at h
              rcases h with ⟨h0, _⟩ | ⟨_, rfl, fb, rfl, f0, f1⟩
              · cases h0
              have F0 := Lib.hid f0
              have F1 := Lib.hid f1
              have HB4 := Lib.hid (HB.out.trans (hb4.mono HB.out.size))
              have HG4 := Lib.hid (HG3.out.below hb4)
              clear f0 f1 hb4
              go_wp2_with fail
              refine (number_any _ 130 _ ((HG4.out.err).below ((Below.refl _ _).alloc (Nat.le_refl _) _)) ((ErrV.fault ⟨fb, 0, none⟩ 130 F1.out).below ((Below.refl _ _).alloc (Nat.le_refl _) _))).mono ?_
              rintro e w5 ⟨rfl, hb5⟩
              have hb45 := ((Below.refl w4.heap.size w4).alloc (Nat.le_refl _) (.cells #[.slice none 0 0] tConf)).trans (hb5.mono (by simp))
              have HB45 := Lib.hid hb45
              clear hb5 hb45
              go_wp2_with fail
              refine (place_fault 2 fb _ (HG4.out.err.below HB45.out) (Below.cell_some HB45.out (Nat.le_refl _) F0.out)).mono ?_
              rintro e w6 ⟨rfl, hb6⟩
              have HB6 := Lib.hid (HB4.out.trans ((HB45.out.mono HB4.out.size).trans (hb6.mono (Nat.le_trans HB4.out.size HB45.out.size))))
              clear hb6
              go_wp2_with fail
              go_ret
              exact ⟨rfl, HB6.out⟩
            · have HN : Hid (numR t.data.toList = (nv : Int)) := Lib.hid (by rw [numR_of _ H1.out.symm, H2.out rfl])
              have HVN := Lib.hid (H2.out rfl)
              by_cases r1 : 1 ≤ (nv : Int)
              · by_cases r2 : (nv : Int) ≤ 16
                · replace HPT := Lib.hid (HPT.out (by rw [HOK.out, ← H1.out, ← HVN.out]; simp; omega))
                  go_wp2_with fail
                  refine (parse_any _ _ (by simp only [ByteArray.size_append, ksz1, ksz2, ksz3, ksz4]; omega) HG3.out).mono ?_
                  rintro e w4 ⟨v, ev, rfl, hb4, h⟩
                  rw [numT_t, HPT.out] at h
                  rcases h with ⟨_, rfl, L, hL, hown⟩ | ⟨h0, _⟩
                  · have hrd := hown.rd
                    rw [hL] at hrd
                    obtain ⟨A, c, rfl, hc, hcm, hcell⟩ := hrd
                    obtain ⟨g, o, hA, hcl⟩ := hcell (by intro e; cases e)
                    subst hA
                    obtain ⟨k0, _, _, k3, k4, _, _, _⟩ := hcl 0 _ rfl
                    have HB4 := Lib.hid (HB.out.trans (hb4.mono HB.out.size))
                    have hgl : g < w4.heap.size := cell_lt k0
                    have K34 : w4.cell? ⟨g, o + 0 * 6 + 3, none⟩ = some (.int .i64 (nv : Int)) := by rw [k3]; exact congrArg (fun x => some (Value.int .i64 x)) HN.out
                    have tt : ((nv : Int) == (nv : Int)) = true := by simp
                    clear k0 k3 k4 hL hown hcell hcl hb4
                    simp only [Nat.zero_mul, Nat.add_zero] at K34
                    go_wp2_with fail
                    go_ret
                    exact ⟨by first | rfl | simp, HB4.out.alloc HB4.out.size _⟩
                  · exact absurd rfl h0
                · replace HPF := Lib.hid (HPF.out (by rw [HOK.out, ← H1.out, ← HVN.out]; simp; omega))
                  go_wp2_with fail
                  refine (parse_any _ _ (by simp only [ByteArray.size_append, ksz1, ksz2, ksz3, ksz4]; omega) HG3.out).mono ?_
                  rintro e w4 ⟨v, ev, rfl, hb4, h⟩
                  rw [numT_t, HPF.out] at h
                  rcases h with ⟨h0, _⟩ | ⟨_, rfl, fb, rfl, f0, f1⟩
                  · cases h0
                  have F0 := Lib.hid f0
                  have F1 := Lib.hid f1
                  have HB4 := Lib.hid (HB.out.trans (hb4.mono HB.out.size))
                  have HG4 := Lib.hid (HG3.out.below hb4)
                  clear f0 f1 hb4
                  go_wp2_with fail
                  refine (number_any _ 130 _ ((HG4.out.err).below ((Below.refl _ _).alloc (Nat.le_refl _) _)) ((ErrV.fault ⟨fb, 0, none⟩ 130 F1.out).below ((Below.refl _ _).alloc (Nat.le_refl _) _))).mono ?_
                  rintro e w5 ⟨rfl, hb5⟩
                  have hb45 := ((Below.refl w4.heap.size w4).alloc (Nat.le_refl _) (.cells #[.slice none 0 0] tConf)).trans (hb5.mono (by simp))
                  have HB45 := Lib.hid hb45
                  clear hb5 hb45
                  go_wp2_with fail
                  refine (place_fault 2 fb _ (HG4.out.err.below HB45.out) (Below.cell_some HB45.out (Nat.le_refl _) F0.out)).mono ?_
                  rintro e w6 ⟨rfl, hb6⟩
                  have HB6 := Lib.hid (HB4.out.trans ((HB45.out.mono HB4.out.size).trans (hb6.mono (Nat.le_trans HB4.out.size HB45.out.size))))
                  clear hb6
                  go_wp2_with fail
                  go_ret
                  exact ⟨rfl, HB6.out⟩
              · replace HPF := Lib.hid (HPF.out (by rw [HOK.out, ← H1.out, ← HVN.out]; simp; omega))
                go_wp2_with fail
                refine (parse_any _ _ (by simp only [ByteArray.size_append, ksz1, ksz2, ksz3, ksz4]; omega) HG3.out).mono ?_
                rintro e w4 ⟨v, ev, rfl, hb4, h⟩
                rw [numT_t, HPF.out] at h
                rcases h with ⟨h0, _⟩ | ⟨_, rfl, fb, rfl, f0, f1⟩
                · cases h0
                have F0 := Lib.hid f0
                have F1 := Lib.hid f1
                have HB4 := Lib.hid (HB.out.trans (hb4.mono HB.out.size))
                have HG4 := Lib.hid (HG3.out.below hb4)
                clear f0 f1 hb4
                go_wp2_with fail
                refine (number_any _ 130 _ ((HG4.out.err).below ((Below.refl _ _).alloc (Nat.le_refl _) _)) ((ErrV.fault ⟨fb, 0, none⟩ 130 F1.out).below ((Below.refl _ _).alloc (Nat.le_refl _) _))).mono ?_
                rintro e w5 ⟨rfl, hb5⟩
                have hb45 := ((Below.refl w4.heap.size w4).alloc (Nat.le_refl _) (.cells #[.slice none 0 0] tConf)).trans (hb5.mono (by simp))
                have HB45 := Lib.hid hb45
                clear hb5 hb45
                go_wp2_with fail
                refine (place_fault 2 fb _ (HG4.out.err.below HB45.out) (Below.cell_some HB45.out (Nat.le_refl _) F0.out)).mono ?_
                rintro e w6 ⟨rfl, hb6⟩
                have HB6 := Lib.hid (HB4.out.trans ((HB45.out.mono HB4.out.size).trans (hb6.mono (Nat.le_trans HB4.out.size HB45.out.size))))
                clear hb6
                go_wp2_with fail
                go_ret
                exact ⟨rfl, HB6.out⟩
end Go.Proofs.YtkbamneecfmibaaGreatDoor
