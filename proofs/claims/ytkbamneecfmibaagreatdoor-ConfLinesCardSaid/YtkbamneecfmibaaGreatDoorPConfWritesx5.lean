-- PRINTED BY print.sh 35421559b90ae4d0a3588c463048766b98c2df88dd9212a6774a882060cdf62d: not written by this session
import Derived.Test.YtkbamneecfmibaaGreatDoorPConfWritesx0
namespace Go.Proofs.YtkbamneecfmibaaGreatDoor.PConfWrites
open Go.RowKit Go.Proofs.YtkbamneecfmibaaGreatDoorW.PrintWords Go.Proofs.YtkbamneecfmibaaGreatDoorW.PrintLast Go.Proofs.YtkbamneecfmibaaGreatDoorW.PrintMore
attribute [local go_sem] max2_int min2_int max_two min_two max_three min_three max_four min_four   -- for this text's walks alone
set_option linter.unusedVariables false
set_option linter.unusedSimpArgs false

-- NOT PRINTED: function 114 (strconv_ParseUint)

-- NOT PRINTED: function 104 (strconv_ParseInt)

-- NOT PRINTED: function 94 (strconv_Atoi_94)

-- NOT PRINTED: function 115 (stringslite_Clone)

-- NOT PRINTED: function 105 (strconv_syntaxError)

-- NOT PRINTED: function 106 (strconv_rangeError)

-- NOT PRINTED: function 116 (errors_New)

-- NOT PRINTED: function 107 (strconv_baseError)

-- NOT PRINTED: function 108 (strconv_bitSizeError)

-- NOT PRINTED: function 95 (strconv_toError)

-- NOT PRINTED: function 76 (strconv_Atoi_76)

-- NOT PRINTED: function 52 (conf_number)

-- NOT PRINTED: function 26 (conf_Module_set)

-- NOT PRINTED: function 27 (strings_TrimRight)

-- NOT PRINTED: function 28 (strings_TrimLeft)

-- NOT PRINTED: function 10 (conf_Parse)

-- NOT PRINTED: function 9 (wharfingerlaw13_parses)

/-! ### wharfingerref09_begins: function 62 -/
def wharfingerref09_begins.f (a0 : ByteArray) (a1 : ByteArray) : Option (Bool) := if (a0.size : Int) ≥ (a1.size : Int) then (if 0 ≤ (a1.size : Int) then (if (a1.size : Int) ≤ (a0.size : Int) then (some ((a0.extract 0 ((a1.size : Int) : Int).toNat).toList == a1.toList)) else (none)) else (none)) else (some false)
set_option maxHeartbeats 8000000 in
set_option maxRecDepth 100000 in
theorem wharfingerref09_begins.calls (a0 : ByteArray) (a1 : ByteArray) (r : Bool) (w : World) (h : wharfingerref09_begins.f a0 a1 = some r) :
    Calls Tryz.prog 62 #[.string a0, .string a1] w fun e w' => e = .returned (.bool r) ∧ Drawn0 w w' := by
  have H : (if (a0.size : Int) ≥ (a1.size : Int) then (if 0 ≤ (a1.size : Int) then (if (a1.size : Int) ≤ (a0.size : Int) then (some ((a0.extract 0 ((a1.size : Int) : Int).toNat).toList == a1.toList)) else (none)) else (none)) else (some false)) = some r := h
  clear h
  by_cases c3 : (a0.size : Int) ≥ (a1.size : Int)
  · rw [if_pos c3] at H
    have c3b0 : decide ((a1.size : Int) ≤ (a0.size : Int)) = true := decide_eq_true c3
    have c3b1 : decide (a1.size ≤ a0.size) = true := decide_eq_true (Int.ofNat_le.mp c3)
    clear c3
    by_cases c4 : 0 ≤ (a1.size : Int)
    · rw [if_pos c4] at H
      have c4b0 := eq_true c4
      have c4b1 : decide (0 ≤ (a1.size : Int)) = true := decide_eq_true c4
      clear c4
      by_cases c5 : (a1.size : Int) ≤ (a0.size : Int)
      · rw [if_pos c5] at H
        have c5b0 := eq_true c5
        have c5b1 : decide ((a1.size : Int) ≤ (a0.size : Int)) = true := decide_eq_true c5
        clear c5
        obtain rfl := Option.some.inj H
        go_enter Tryz.func62, Tryz.ntmps62
        go_wp2
        go_ret
        exact ⟨by first | rfl | (simp; done) | (simp [*]; done), by repeat (first | exact Drawn0.refl _ | apply Drawn0.step)⟩
      · rw [if_neg c5] at H
        exact absurd H (by simp)
    · rw [if_neg c4] at H
      exact absurd H (by simp)
  · rw [if_neg c3] at H
    have c3b0 : decide ((a1.size : Int) ≤ (a0.size : Int)) = false := decide_eq_false c3
    have c3b1 : decide (a1.size ≤ a0.size) = false := decide_eq_false (fun h => c3 (Int.ofNat_le.mpr h))
    clear c3
    obtain rfl := Option.some.inj H
    go_enter Tryz.func62, Tryz.ntmps62
    go_wp2
    go_ret
    exact ⟨by first | rfl | (simp; done) | (simp [*]; done), by repeat (first | exact Drawn0.refl _ | apply Drawn0.step)⟩

/-! ### wharfingerref09_Clash: function 35 -/
def wharfingerref09_Clash.f (a0 : ByteArray) (a1 : ByteArray) : Option (Bool) := if a1.size + 1 ≤ 9223372036854775807 then ((wharfingerref09_begins.f a0 (a1 ++ (⟨#[47]⟩ : ByteArray))).bind fun t163 => (if t163 = true then (some true) else (if a0.size + 1 ≤ 9223372036854775807 then ((wharfingerref09_begins.f a1 (a0 ++ (⟨#[47]⟩ : ByteArray))).bind fun t164 => (some t164)) else (none)))) else (none)
set_option maxHeartbeats 8000000 in
set_option maxRecDepth 100000 in
theorem wharfingerref09_Clash.calls (a0 : ByteArray) (a1 : ByteArray) (r : Bool) (w : World) (h : wharfingerref09_Clash.f a0 a1 = some r) :
    Calls Tryz.prog 35 #[.string a0, .string a1] w fun e w' => e = .returned (.bool r) ∧ Drawn0 w w' := by
  have H : (if a1.size + 1 ≤ 9223372036854775807 then ((wharfingerref09_begins.f a0 (a1 ++ (⟨#[47]⟩ : ByteArray))).bind fun t163 => (if t163 = true then (some true) else (if a0.size + 1 ≤ 9223372036854775807 then ((wharfingerref09_begins.f a1 (a0 ++ (⟨#[47]⟩ : ByteArray))).bind fun t164 => (some t164)) else (none)))) else (none)) = some r := h
  clear h
  by_cases c3 : a1.size + 1 ≤ 9223372036854775807
  · rw [if_pos c3] at H
    have c3b0 := eq_true c3
    have c3b1 : decide (a1.size + 1 ≤ 9223372036854775807) = true := decide_eq_true c3
    try have c3b2 : (9223372036854775807 < a1.size + 1) = False := eq_false (Nat.not_lt.2 c3)
    replace H := Option.bind_eq_some_iff.mp H
    obtain ⟨t163, A40, H⟩ := H
    replace H : (if t163 = true then (some true) else (if a0.size + 1 ≤ 9223372036854775807 then ((wharfingerref09_begins.f a1 (a0 ++ (⟨#[47]⟩ : ByteArray))).bind fun t164 => (some t164)) else (none))) = some r := H
    have A4 := Aside0.mk A40
    clear A40
    by_cases c5 : t163 = true
    · subst c5
      have H1 : (some true) = some r := by rw [if_pos rfl] at H; exact H
      clear H
      have H := H1
      clear H1
      obtain rfl := Option.some.inj H
      go_enter Tryz.func35, Tryz.ntmps35
      go_wp2_with (first | ((with_reducible refine gate_callee (f := 62) rfl ?_); refine goesL_ (some 8) rfl rfl Tryz.func62 (by kernel_rfl) rfl #[.string a0, .string (a1 ++ (⟨#[47]⟩ : ByteArray))] rfl (by (try simp only [List.map_toArray, List.map_cons, List.map_nil]); first | done | rfl | (simp only [List.length_drop, List.length_take]; rfl)) ?_; (with_reducible refine (wharfingerref09_begins.calls a0 (a1 ++ (⟨#[47]⟩ : ByteArray)) true _ A4.out).mono ?_); rintro e w' ⟨rfl, ⟨nd, rfl⟩⟩; refine ⟨_, rfl, ?_⟩))
      go_ret
      exact ⟨by first | rfl | (simp; done) | (simp [*]; done), by repeat (first | exact Drawn0.refl _ | apply Drawn0.step)⟩
    · replace c5 := Bool.eq_false_iff.mpr c5
      subst c5
      have H1 : (if a0.size + 1 ≤ 9223372036854775807 then ((wharfingerref09_begins.f a1 (a0 ++ (⟨#[47]⟩ : ByteArray))).bind fun t164 => (some t164)) else (none)) = some r := by rw [if_neg (show ¬ (false = true) by decide)] at H; exact H
      clear H
      have H := H1
      clear H1
      by_cases c6 : a0.size + 1 ≤ 9223372036854775807
      · rw [if_pos c6] at H
        have c6b0 := eq_true c6
        have c6b1 : decide (a0.size + 1 ≤ 9223372036854775807) = true := decide_eq_true c6
        try have c6b2 : (9223372036854775807 < a0.size + 1) = False := eq_false (Nat.not_lt.2 c6)
        replace H := Option.bind_eq_some_iff.mp H
        obtain ⟨t164, A70, H⟩ := H
        replace H : (some t164) = some r := H
        have A7 := Aside0.mk A70
        clear A70
        obtain rfl := Option.some.inj H
        go_enter Tryz.func35, Tryz.ntmps35
        go_wp2_with (first | ((with_reducible refine gate_callee (f := 62) rfl ?_); refine goesL_ (some 8) rfl rfl Tryz.func62 (by kernel_rfl) rfl #[.string a0, .string (a1 ++ (⟨#[47]⟩ : ByteArray))] rfl (by (try simp only [List.map_toArray, List.map_cons, List.map_nil]); first | done | rfl | (simp only [List.length_drop, List.length_take]; rfl)) ?_; (with_reducible refine (wharfingerref09_begins.calls a0 (a1 ++ (⟨#[47]⟩ : ByteArray)) false _ A4.out).mono ?_); rintro e w' ⟨rfl, ⟨nd, rfl⟩⟩; refine ⟨_, rfl, ?_⟩) | (go_at_call 62; (with_reducible refine (wharfingerref09_begins.calls a1 (a0 ++ (⟨#[47]⟩ : ByteArray)) t164 _ A7.out).mono ?_); rintro e w' ⟨rfl, ⟨nd, rfl⟩⟩))
        go_ret
        exact ⟨by first | rfl | (simp; done) | (simp [*]; done), by repeat (first | exact Drawn0.refl _ | apply Drawn0.step)⟩
      · rw [if_neg c6] at H
        exact absurd H (by simp)
  · rw [if_neg c3] at H
    exact absurd H (by simp)

/-! ### wharfingerref13_Check: function 15 -/
mutual
def wharfingerref13_Check.l0 : Nat → List (S45) → Int → Option (Int × Int)
  | 0, _, _ => none
  | k + 1, x0, x4 => if x4 < (x0.length : Int) then (if 0 ≤ x4 then (if ((rd_T45 x0 x4).f1).toList = ([] : List UInt8) then (some (4, x4)) else (wharfingerref13_Check.l1 k x0 x4 0)) else (none)) else (some (0, 0))
def wharfingerref13_Check.l1 : Nat → List (S45) → Int → Int → Option (Int × Int)
  | 0, _, _, _ => none
  | k + 1, x0, x4, x5 => if x5 < x4 then (if 0 ≤ x5 then (if x5 < (x0.length : Int) then (if 0 ≤ x4 then (if x4 < (x0.length : Int) then (if ((rd_T45 x0 x5).f1).toList = ((rd_T45 x0 x4).f1).toList then (some (90, x4)) else ((wharfingerref09_Clash.f ((rd_T45 x0 x5).f1) ((rd_T45 x0 x4).f1)).bind fun t170 => (if t170 = true then (some (90, x4)) else (wharfingerref13_Check.l1 k x0 x4 (wrap64 (x5 + 1)))))) else (none)) else (none)) else (none)) else (none)) else (wharfingerref13_Check.l0 k x0 (wrap64 (x4 + 1)))
end
def wharfingerref13_Check.f (k : Nat) (l0 : List (S45)) : Option (Int × Int) := wharfingerref13_Check.l0 k l0 0
theorem wharfingerref13_Check.mono_l : ∀ k, (∀ y0 y1, LeO (wharfingerref13_Check.l0 k y0 y1) (wharfingerref13_Check.l0 (k + 1) y0 y1)) ∧ (∀ y0 y1 y2, LeO (wharfingerref13_Check.l1 k y0 y1 y2) (wharfingerref13_Check.l1 (k + 1) y0 y1 y2))
  | 0 => ⟨fun _ _ r h => by simp [wharfingerref13_Check.l0] at h, fun _ _ _ r h => by simp [wharfingerref13_Check.l1] at h⟩
  | k + 1 => by
    obtain ⟨ih0, ih1⟩ := wharfingerref13_Check.mono_l k
    refine ⟨?_, ?_⟩
    · intro y0 y1
      unfold wharfingerref13_Check.l0
      repeat' first
      | (with_reducible exact ih0 _ _)
      | (with_reducible exact ih1 _ _ _)
      | (with_reducible exact LeO.refl _)
      | (with_reducible exact LeO.none _)
      | (with_reducible refine LeO.ite ?_ ?_)
      | (with_reducible refine LeO.bind ?_ (fun _ => ?_))
      | exact ih0 _ _
      | exact ih1 _ _ _
      | exact LeO.none _
      | refine LeO.ite ?_ ?_
      | refine LeO.bind ?_ (fun _ => ?_)
    · intro y0 y1 y2
      unfold wharfingerref13_Check.l1
      repeat' first
      | (with_reducible exact ih0 _ _)
      | (with_reducible exact ih1 _ _ _)
      | (with_reducible exact LeO.refl _)
      | (with_reducible exact LeO.none _)
      | (with_reducible refine LeO.ite ?_ ?_)
      | (with_reducible refine LeO.bind ?_ (fun _ => ?_))
      | exact ih0 _ _
      | exact ih1 _ _ _
      | exact LeO.none _
      | refine LeO.ite ?_ ?_
      | refine LeO.bind ?_ (fun _ => ?_)
theorem wharfingerref13_Check.mono : ∀ a0 k, LeO (wharfingerref13_Check.f k a0) (wharfingerref13_Check.f (k + 1) a0) := by
  intro a0 k
  obtain ⟨ih0, ih1⟩ := wharfingerref13_Check.mono_l k
  unfold wharfingerref13_Check.f
  repeat' first
      | (with_reducible exact ih0 _ _)
      | (with_reducible exact ih1 _ _ _)
      | (with_reducible exact LeO.refl _)
      | (with_reducible exact LeO.none _)
      | (with_reducible refine LeO.ite ?_ ?_)
      | (with_reducible refine LeO.bind ?_ (fun _ => ?_))
      | exact ih0 _ _
      | exact ih1 _ _ _
      | exact LeO.none _
      | refine LeO.ite ?_ ?_
      | refine LeO.bind ?_ (fun _ => ?_)
set_option maxHeartbeats 8000000 in
set_option maxRecDepth 100000 in
theorem wharfingerref13_Check.calls (k : Nat) (A0 : Option Addr) (c0 : Nat) (l0 : List (S45)) (r1 : Int) (r2 : Int) (w : World) (hr0 : Kd.C k45 w A0 l0.length l0) (hc0 : l0.length ≤ c0) (h : wharfingerref13_Check.f k l0 = some (r1, r2)) :
    Calls Tryz.prog 15 #[.slice A0 l0.length c0] w fun e w' => e = .returned (.tuple #[.int .i64 r1, .int .i64 r2]) ∧ Drawn0 w w' := by
  have HR0 := Aside0.mk hr0
  have HC0 := Aside0.mk hc0
  clear hr0 hc0
  have H : (wharfingerref13_Check.l0 k l0 0) = some (r1, r2) := h
  clear h
  have H' := Aside0.mk H
  clear H
  go_enter Tryz.func15, Tryz.ntmps15
  go_wp2
  repeat (go_quiet (fail); try go_wp2)
  go_loopg [4] k (fun kq v4 w' => ∃ (x4_1 : Int), v4 = .int .i64 x4_1 ∧ Aside0 (wharfingerref13_Check.l0 kq l0 x4_1 = some (r1, r2)) ∧ Aside0 (kq ≤ k) ∧ Drawn0 w w')
  case atStart => exact ⟨(0), (by first | rfl | (simp; done) | (simp [*]; done)), H', ⟨Nat.le_refl _⟩, by repeat (first | exact Drawn0.refl _ | apply Drawn0.step)⟩
  case round =>
    clear H'
    try clear c1
    obtain ⟨x4_1, rfl, HA, HK1, ⟨m1, rfl⟩⟩ := hrel
    cases gk with
    | zero => exact absurd HA.out (by simp [wharfingerref13_Check.l0])
    | succ k1 =>
      have H := HA.out
      clear HA
      simp only [wharfingerref13_Check.l0] at H
      by_cases c2 : x4_1 < (l0.length : Int)
      · rw [if_pos c2] at H
        have c2b0 : decide (x4_1 < (l0.length : Int)) = true := decide_eq_true c2
        clear c2
        by_cases c3 : 0 ≤ x4_1
        · rw [if_pos c3] at H
          have c3b0 : decide (0 ≤ x4_1) = true := decide_eq_true c3
          clear c3
          by_cases c4 : ((rd_T45 l0 x4_1).f1).toList = ([] : List UInt8)
          · rw [if_pos c4] at H
            have c4b0 : (((rd_T45 l0 x4_1).f1).toList == ([] : List UInt8)) = true := beq_iff_eq.mpr c4
            have c4b1 : (((rd_T45 l0 x4_1).f1).toList != ([] : List UInt8)) = false := bne_eq_false_iff_eq.mpr c4
            clear c4
            simp only [Option.some.injEq, Prod.mk.injEq] at H
            obtain ⟨rfl, rfl⟩ := H
            have p165 : 0 ≤ (x4_1 : Int) := of_decide_eq_true (by first | (with_reducible assumption) | assumption)
            have q165 : x4_1 < (l0.length : Int) := of_decide_eq_true (by first | (with_reducible assumption) | assumption)
            obtain ⟨ad165, A165_5, c165_5, A165_6, c165_6, e165, hx165_0, hx165_1, hx165_2, hx165_3, hx165_4, hx165_5, hx165_6, hl165_5, hi165_5, hl165_6, hi165_6⟩ := at_T45 HR0.out x4_1 p165 q165
            cases e165
            have HR165_5 := Aside0.mk hi165_5
            have HC165_5 := Aside0.mk hl165_5
            clear hi165_5 hl165_5
            have HR165_6 := Aside0.mk hi165_6
            have HC165_6 := Aside0.mk hl165_6
            clear hi165_6 hl165_6
            replace p165 := eq_true p165
            replace q165 := eq_true q165
            go_wp2
            repeat (go_quiet (fail); try go_wp2)
            go_ret2
            exact ⟨by first | rfl | (simp; done) | (simp [*]; done), by repeat (first | exact Drawn0.refl _ | apply Drawn0.step)⟩
          · rw [if_neg c4] at H
            have c4b0 : (((rd_T45 l0 x4_1).f1).toList == ([] : List UInt8)) = false := beq_eq_false_iff_ne.mpr c4
            have c4b1 : (((rd_T45 l0 x4_1).f1).toList != ([] : List UInt8)) = true := bne_iff_ne.mpr c4
            have H' := Aside0.mk H
            clear H
            have p165 : 0 ≤ (x4_1 : Int) := of_decide_eq_true (by first | (with_reducible assumption) | assumption)
            have q165 : x4_1 < (l0.length : Int) := of_decide_eq_true (by first | (with_reducible assumption) | assumption)
            obtain ⟨ad165, A165_5, c165_5, A165_6, c165_6, e165, hx165_0, hx165_1, hx165_2, hx165_3, hx165_4, hx165_5, hx165_6, hl165_5, hi165_5, hl165_6, hi165_6⟩ := at_T45 HR0.out x4_1 p165 q165
            cases e165
            have HR165_5 := Aside0.mk hi165_5
            have HC165_5 := Aside0.mk hl165_5
            clear hi165_5 hl165_5
            have HR165_6 := Aside0.mk hi165_6
            have HC165_6 := Aside0.mk hl165_6
            clear hi165_6 hl165_6
            replace p165 := eq_true p165
            replace q165 := eq_true q165
            go_wp2
            repeat (go_quiet (fail); try go_wp2)
            go_loopg [5] k1 (fun kq v5 w' => ∃ (x5_2 : Int), v5 = .int .i64 x5_2 ∧ Aside0 (wharfingerref13_Check.l1 kq l0 x4_1 x5_2 = some (r1, r2)) ∧ Aside0 (kq ≤ k1) ∧ Drawn0 w w')
            case atStart => exact ⟨(0), (by first | rfl | (simp; done) | (simp [*]; done)), H', ⟨Nat.le_refl _⟩, by repeat (first | exact Drawn0.refl _ | apply Drawn0.step)⟩
            case round =>
              clear H'
              try clear c1
              try clear p1
              try clear q1
              try clear hx1
              try clear c2
              try clear c2b0
              try clear p2
              try clear c3
              try clear c3b0
              try clear c4
              try clear c4b0
              try clear c4b1
              try clear hx165_0
              try clear hx165_1
              try clear hx165_2
              try clear hx165_3
              try clear hx165_4
              try clear hx165_5
              try clear hx165_6
              try clear p165
              try clear q165
              obtain ⟨x5_2, rfl, HA, HK2, ⟨m2, rfl⟩⟩ := hrel
              cases gk with
              | zero => exact absurd HA.out (by simp [wharfingerref13_Check.l1])
              | succ k2 =>
                have H := HA.out
                clear HA
                simp only [wharfingerref13_Check.l1] at H
                by_cases c5 : x5_2 < x4_1
                · rw [if_pos c5] at H
                  have c5b0 : decide (x5_2 < x4_1) = true := decide_eq_true c5
                  clear c5
                  by_cases c6 : 0 ≤ x5_2
                  · rw [if_pos c6] at H
                    have c6b0 : decide (0 ≤ x5_2) = true := decide_eq_true c6
                    clear c6
                    by_cases c7 : x5_2 < (l0.length : Int)
                    · rw [if_pos c7] at H
                      have c7b0 : decide (x5_2 < (l0.length : Int)) = true := decide_eq_true c7
                      clear c7
                      by_cases c8 : 0 ≤ x4_1
                      · rw [if_pos c8] at H
                        have c8b0 : decide (0 ≤ x4_1) = true := decide_eq_true c8
                        clear c8
                        by_cases c9 : x4_1 < (l0.length : Int)
                        · rw [if_pos c9] at H
                          have c9b0 : decide (x4_1 < (l0.length : Int)) = true := decide_eq_true c9
                          clear c9
                          by_cases c10 : ((rd_T45 l0 x5_2).f1).toList = ((rd_T45 l0 x4_1).f1).toList
                          · rw [if_pos c10] at H
                            have c10b0 : (((rd_T45 l0 x5_2).f1).toList == ((rd_T45 l0 x4_1).f1).toList) = true := beq_iff_eq.mpr c10
                            have c10b1 : (((rd_T45 l0 x5_2).f1).toList != ((rd_T45 l0 x4_1).f1).toList) = false := bne_eq_false_iff_eq.mpr c10
                            clear c10
                            simp only [Option.some.injEq, Prod.mk.injEq] at H
                            obtain ⟨rfl, rfl⟩ := H
                            have p166 : 0 ≤ (x5_2 : Int) := of_decide_eq_true (by first | (with_reducible assumption) | assumption)
                            have q166 : x5_2 < (l0.length : Int) := of_decide_eq_true (by first | (with_reducible assumption) | assumption)
                            obtain ⟨ad166, A166_5, c166_5, A166_6, c166_6, e166, hx166_0, hx166_1, hx166_2, hx166_3, hx166_4, hx166_5, hx166_6, hl166_5, hi166_5, hl166_6, hi166_6⟩ := at_T45 HR0.out x5_2 p166 q166
                            obtain rfl : ad165 = ad166 := (by injection e166)
                            have HR166_5 := Aside0.mk hi166_5
                            have HC166_5 := Aside0.mk hl166_5
                            clear hi166_5 hl166_5
                            have HR166_6 := Aside0.mk hi166_6
                            have HC166_6 := Aside0.mk hl166_6
                            clear hi166_6 hl166_6
                            replace p166 := eq_true p166
                            replace q166 := eq_true q166
                            have p167 : 0 ≤ (x4_1 : Int) := of_decide_eq_true (by first | (with_reducible assumption) | assumption)
                            have q167 : x4_1 < (l0.length : Int) := of_decide_eq_true (by first | (with_reducible assumption) | assumption)
                            obtain ⟨ad167, A167_5, c167_5, A167_6, c167_6, e167, hx167_0, hx167_1, hx167_2, hx167_3, hx167_4, hx167_5, hx167_6, hl167_5, hi167_5, hl167_6, hi167_6⟩ := at_T45 HR0.out x4_1 p167 q167
                            obtain rfl : ad165 = ad167 := (by injection e167)
                            have HR167_5 := Aside0.mk hi167_5
                            have HC167_5 := Aside0.mk hl167_5
                            clear hi167_5 hl167_5
                            have HR167_6 := Aside0.mk hi167_6
                            have HC167_6 := Aside0.mk hl167_6
                            clear hi167_6 hl167_6
                            replace p167 := eq_true p167
                            replace q167 := eq_true q167
                            go_wp2
                            repeat (go_quiet (fail); try go_wp2)
                            go_ret2
                            exact ⟨by first | rfl | (simp; done) | (simp [*]; done), by repeat (first | exact Drawn0.refl _ | apply Drawn0.step)⟩
                          · rw [if_neg c10] at H
                            have c10b0 : (((rd_T45 l0 x5_2).f1).toList == ((rd_T45 l0 x4_1).f1).toList) = false := beq_eq_false_iff_ne.mpr c10
                            have c10b1 : (((rd_T45 l0 x5_2).f1).toList != ((rd_T45 l0 x4_1).f1).toList) = true := bne_iff_ne.mpr c10
                            replace H := Option.bind_eq_some_iff.mp H
                            obtain ⟨t170, A110, H⟩ := H
                            replace H : (if t170 = true then (some (90, x4_1)) else (wharfingerref13_Check.l1 k2 l0 x4_1 (wrap64 (x5_2 + 1)))) = some (r1, r2) := H
                            have A11 := Aside0.mk A110
                            clear A110
                            by_cases c12 : t170 = true
                            · subst c12
                              have H1 : (some (90, x4_1)) = some (r1, r2) := by rw [if_pos rfl] at H; exact H
                              clear H
                              have H := H1
                              clear H1
                              simp only [Option.some.injEq, Prod.mk.injEq] at H
                              obtain ⟨rfl, rfl⟩ := H
                              have p166 : 0 ≤ (x5_2 : Int) := of_decide_eq_true (by first | (with_reducible assumption) | assumption)
                              have q166 : x5_2 < (l0.length : Int) := of_decide_eq_true (by first | (with_reducible assumption) | assumption)
                              obtain ⟨ad166, A166_5, c166_5, A166_6, c166_6, e166, hx166_0, hx166_1, hx166_2, hx166_3, hx166_4, hx166_5, hx166_6, hl166_5, hi166_5, hl166_6, hi166_6⟩ := at_T45 HR0.out x5_2 p166 q166
                              obtain rfl : ad165 = ad166 := (by injection e166)
                              have HR166_5 := Aside0.mk hi166_5
                              have HC166_5 := Aside0.mk hl166_5
                              clear hi166_5 hl166_5
                              have HR166_6 := Aside0.mk hi166_6
                              have HC166_6 := Aside0.mk hl166_6
                              clear hi166_6 hl166_6
                              replace p166 := eq_true p166
                              replace q166 := eq_true q166
                              have p167 : 0 ≤ (x4_1 : Int) := of_decide_eq_true (by first | (with_reducible assumption) | assumption)
                              have q167 : x4_1 < (l0.length : Int) := of_decide_eq_true (by first | (with_reducible assumption) | assumption)
                              obtain ⟨ad167, A167_5, c167_5, A167_6, c167_6, e167, hx167_0, hx167_1, hx167_2, hx167_3, hx167_4, hx167_5, hx167_6, hl167_5, hi167_5, hl167_6, hi167_6⟩ := at_T45 HR0.out x4_1 p167 q167
                              obtain rfl : ad165 = ad167 := (by injection e167)
                              have HR167_5 := Aside0.mk hi167_5
                              have HC167_5 := Aside0.mk hl167_5
                              clear hi167_5 hl167_5
                              have HR167_6 := Aside0.mk hi167_6
                              have HC167_6 := Aside0.mk hl167_6
                              clear hi167_6 hl167_6
                              replace p167 := eq_true p167
                              replace q167 := eq_true q167
                              have p168 : 0 ≤ (x5_2 : Int) := of_decide_eq_true (by first | (with_reducible assumption) | assumption)
                              have q168 : x5_2 < (l0.length : Int) := of_decide_eq_true (by first | (with_reducible assumption) | assumption)
                              obtain ⟨ad168, A168_5, c168_5, A168_6, c168_6, e168, hx168_0, hx168_1, hx168_2, hx168_3, hx168_4, hx168_5, hx168_6, hl168_5, hi168_5, hl168_6, hi168_6⟩ := at_T45 HR0.out x5_2 p168 q168
                              obtain rfl : ad165 = ad168 := (by injection e168)
                              have HR168_5 := Aside0.mk hi168_5
                              have HC168_5 := Aside0.mk hl168_5
                              clear hi168_5 hl168_5
                              have HR168_6 := Aside0.mk hi168_6
                              have HC168_6 := Aside0.mk hl168_6
                              clear hi168_6 hl168_6
                              replace p168 := eq_true p168
                              replace q168 := eq_true q168
                              have ea_ := Option.some.inj (hx166_5.symm.trans hx168_5)
                              injection ea_ with ea_ en_ ec_
                              subst ea_
                              subst ec_
                              clear en_
                              have ea_ := Option.some.inj (hx166_6.symm.trans hx168_6)
                              injection ea_ with ea_ en_ ec_
                              subst ea_
                              subst ec_
                              clear en_
                              have p169 : 0 ≤ (x4_1 : Int) := of_decide_eq_true (by first | (with_reducible assumption) | assumption)
                              have q169 : x4_1 < (l0.length : Int) := of_decide_eq_true (by first | (with_reducible assumption) | assumption)
                              obtain ⟨ad169, A169_5, c169_5, A169_6, c169_6, e169, hx169_0, hx169_1, hx169_2, hx169_3, hx169_4, hx169_5, hx169_6, hl169_5, hi169_5, hl169_6, hi169_6⟩ := at_T45 HR0.out x4_1 p169 q169
                              obtain rfl : ad165 = ad169 := (by injection e169)
                              have HR169_5 := Aside0.mk hi169_5
                              have HC169_5 := Aside0.mk hl169_5
                              clear hi169_5 hl169_5
                              have HR169_6 := Aside0.mk hi169_6
                              have HC169_6 := Aside0.mk hl169_6
                              clear hi169_6 hl169_6
                              replace p169 := eq_true p169
                              replace q169 := eq_true q169
                              have ea_ := Option.some.inj (hx167_5.symm.trans hx169_5)
                              injection ea_ with ea_ en_ ec_
                              subst ea_
                              subst ec_
                              clear en_
                              have ea_ := Option.some.inj (hx167_6.symm.trans hx169_6)
                              injection ea_ with ea_ en_ ec_
                              subst ea_
                              subst ec_
                              clear en_
                              go_wp2_with (first | (go_at_call 35; (with_reducible refine (wharfingerref09_Clash.calls ((rd_T45 l0 x5_2).f1) ((rd_T45 l0 x4_1).f1) true _ A11.out).mono ?_); rintro e w' ⟨rfl, ⟨nd, rfl⟩⟩; (try first | exact ⟨rfl, _, World.drewN_drewN _ _ _⟩ | exact ⟨rfl, _, Eq.trans (World.drewN_drewN _ _ _) (congrArg (World.drewN _) (Nat.add_assoc _ _ _))⟩)))
                              repeat (go_quiet (first | (go_at_call 35; (with_reducible refine (wharfingerref09_Clash.calls ((rd_T45 l0 x5_2).f1) ((rd_T45 l0 x4_1).f1) true _ A11.out).mono ?_); rintro e w' ⟨rfl, ⟨nd, rfl⟩⟩; (try first | exact ⟨rfl, _, World.drewN_drewN _ _ _⟩ | exact ⟨rfl, _, Eq.trans (World.drewN_drewN _ _ _) (congrArg (World.drewN _) (Nat.add_assoc _ _ _))⟩))); try go_wp2_with (first | (go_at_call 35; (with_reducible refine (wharfingerref09_Clash.calls ((rd_T45 l0 x5_2).f1) ((rd_T45 l0 x4_1).f1) true _ A11.out).mono ?_); rintro e w' ⟨rfl, ⟨nd, rfl⟩⟩; (try first | exact ⟨rfl, _, World.drewN_drewN _ _ _⟩ | exact ⟨rfl, _, Eq.trans (World.drewN_drewN _ _ _) (congrArg (World.drewN _) (Nat.add_assoc _ _ _))⟩))))
                              go_ret2
                              exact ⟨by first | rfl | (simp; done) | (simp [*]; done), by repeat (first | exact Drawn0.refl _ | apply Drawn0.step)⟩
                            · replace c12 := Bool.eq_false_iff.mpr c12
                              subst c12
                              have H1 : (wharfingerref13_Check.l1 k2 l0 x4_1 (wrap64 (x5_2 + 1))) = some (r1, r2) := by rw [if_neg (show ¬ (false = true) by decide)] at H; exact H
                              clear H
                              have H := H1
                              clear H1
                              have H' := Aside0.mk H
                              clear H
                              have p166 : 0 ≤ (x5_2 : Int) := of_decide_eq_true (by first | (with_reducible assumption) | assumption)
                              have q166 : x5_2 < (l0.length : Int) := of_decide_eq_true (by first | (with_reducible assumption) | assumption)
                              obtain ⟨ad166, A166_5, c166_5, A166_6, c166_6, e166, hx166_0, hx166_1, hx166_2, hx166_3, hx166_4, hx166_5, hx166_6, hl166_5, hi166_5, hl166_6, hi166_6⟩ := at_T45 HR0.out x5_2 p166 q166
                              obtain rfl : ad165 = ad166 := (by injection e166)
                              have HR166_5 := Aside0.mk hi166_5
                              have HC166_5 := Aside0.mk hl166_5
                              clear hi166_5 hl166_5
                              have HR166_6 := Aside0.mk hi166_6
                              have HC166_6 := Aside0.mk hl166_6
                              clear hi166_6 hl166_6
                              replace p166 := eq_true p166
                              replace q166 := eq_true q166
                              have p167 : 0 ≤ (x4_1 : Int) := of_decide_eq_true (by first | (with_reducible assumption) | assumption)
                              have q167 : x4_1 < (l0.length : Int) := of_decide_eq_true (by first | (with_reducible assumption) | assumption)
                              obtain ⟨ad167, A167_5, c167_5, A167_6, c167_6, e167, hx167_0, hx167_1, hx167_2, hx167_3, hx167_4, hx167_5, hx167_6, hl167_5, hi167_5, hl167_6, hi167_6⟩ := at_T45 HR0.out x4_1 p167 q167
                              obtain rfl : ad165 = ad167 := (by injection e167)
                              have HR167_5 := Aside0.mk hi167_5
                              have HC167_5 := Aside0.mk hl167_5
                              clear hi167_5 hl167_5
                              have HR167_6 := Aside0.mk hi167_6
                              have HC167_6 := Aside0.mk hl167_6
                              clear hi167_6 hl167_6
                              replace p167 := eq_true p167
                              replace q167 := eq_true q167
                              have p168 : 0 ≤ (x5_2 : Int) := of_decide_eq_true (by first | (with_reducible assumption) | assumption)
                              have q168 : x5_2 < (l0.length : Int) := of_decide_eq_true (by first | (with_reducible assumption) | assumption)
                              obtain ⟨ad168, A168_5, c168_5, A168_6, c168_6, e168, hx168_0, hx168_1, hx168_2, hx168_3, hx168_4, hx168_5, hx168_6, hl168_5, hi168_5, hl168_6, hi168_6⟩ := at_T45 HR0.out x5_2 p168 q168
                              obtain rfl : ad165 = ad168 := (by injection e168)
                              have HR168_5 := Aside0.mk hi168_5
                              have HC168_5 := Aside0.mk hl168_5
                              clear hi168_5 hl168_5
                              have HR168_6 := Aside0.mk hi168_6
                              have HC168_6 := Aside0.mk hl168_6
                              clear hi168_6 hl168_6
                              replace p168 := eq_true p168
                              replace q168 := eq_true q168
                              have ea_ := Option.some.inj (hx166_5.symm.trans hx168_5)
                              injection ea_ with ea_ en_ ec_
                              subst ea_
                              subst ec_
                              clear en_
                              have ea_ := Option.some.inj (hx166_6.symm.trans hx168_6)
                              injection ea_ with ea_ en_ ec_
                              subst ea_
                              subst ec_
                              clear en_
                              have p169 : 0 ≤ (x4_1 : Int) := of_decide_eq_true (by first | (with_reducible assumption) | assumption)
                              have q169 : x4_1 < (l0.length : Int) := of_decide_eq_true (by first | (with_reducible assumption) | assumption)
                              obtain ⟨ad169, A169_5, c169_5, A169_6, c169_6, e169, hx169_0, hx169_1, hx169_2, hx169_3, hx169_4, hx169_5, hx169_6, hl169_5, hi169_5, hl169_6, hi169_6⟩ := at_T45 HR0.out x4_1 p169 q169
                              obtain rfl : ad165 = ad169 := (by injection e169)
                              have HR169_5 := Aside0.mk hi169_5
                              have HC169_5 := Aside0.mk hl169_5
                              clear hi169_5 hl169_5
                              have HR169_6 := Aside0.mk hi169_6
                              have HC169_6 := Aside0.mk hl169_6
                              clear hi169_6 hl169_6
                              replace p169 := eq_true p169
                              replace q169 := eq_true q169
                              have ea_ := Option.some.inj (hx167_5.symm.trans hx169_5)
                              injection ea_ with ea_ en_ ec_
                              subst ea_
                              subst ec_
                              clear en_
                              have ea_ := Option.some.inj (hx167_6.symm.trans hx169_6)
                              injection ea_ with ea_ en_ ec_
                              subst ea_
                              subst ec_
                              clear en_
                              go_wp2_with (first | (go_at_call 35; (with_reducible refine (wharfingerref09_Clash.calls ((rd_T45 l0 x5_2).f1) ((rd_T45 l0 x4_1).f1) false _ A11.out).mono ?_); rintro e w' ⟨rfl, ⟨nd, rfl⟩⟩; (try first | exact ⟨rfl, _, World.drewN_drewN _ _ _⟩ | exact ⟨rfl, _, Eq.trans (World.drewN_drewN _ _ _) (congrArg (World.drewN _) (Nat.add_assoc _ _ _))⟩)))
                              repeat (go_quiet (first | (go_at_call 35; (with_reducible refine (wharfingerref09_Clash.calls ((rd_T45 l0 x5_2).f1) ((rd_T45 l0 x4_1).f1) false _ A11.out).mono ?_); rintro e w' ⟨rfl, ⟨nd, rfl⟩⟩; (try first | exact ⟨rfl, _, World.drewN_drewN _ _ _⟩ | exact ⟨rfl, _, Eq.trans (World.drewN_drewN _ _ _) (congrArg (World.drewN _) (Nat.add_assoc _ _ _))⟩))); try go_wp2_with (first | (go_at_call 35; (with_reducible refine (wharfingerref09_Clash.calls ((rd_T45 l0 x5_2).f1) ((rd_T45 l0 x4_1).f1) false _ A11.out).mono ?_); rintro e w' ⟨rfl, ⟨nd, rfl⟩⟩; (try first | exact ⟨rfl, _, World.drewN_drewN _ _ _⟩ | exact ⟨rfl, _, Eq.trans (World.drewN_drewN _ _ _) (congrArg (World.drewN _) (Nat.add_assoc _ _ _))⟩))))
                              go_roundg k2
                              case measure => have := HK1.out; have := HK2.out; omega
                              case rel => exact ⟨(wrap64 (x5_2 + 1)), (by first | rfl | (simp; done) | (simp [*]; done)), H', ⟨by have := HK1.out; have := HK2.out; omega⟩, by repeat (first | exact Drawn0.refl _ | apply Drawn0.step)⟩
                        · rw [if_neg c9] at H
                          exact absurd H (by simp)
                      · rw [if_neg c8] at H
                        exact absurd H (by simp)
                    · rw [if_neg c7] at H
                      exact absurd H (by simp)
                  · rw [if_neg c6] at H
                    exact absurd H (by simp)
                · rw [if_neg c5] at H
                  have c5b0 : decide (x5_2 < x4_1) = false := decide_eq_false c5
                  clear c5
                  have H' := Aside0.mk H
                  clear H
                  go_wp2
                  repeat (go_quiet (fail); try go_wp2)
                  go_roundg k2
                  case measure => have := HK1.out; have := HK2.out; omega
                  case rel => exact ⟨(wrap64 (x4_1 + 1)), (by first | rfl | (simp; done) | (simp [*]; done)), H', ⟨by have := HK1.out; have := HK2.out; omega⟩, by repeat (first | exact Drawn0.refl _ | apply Drawn0.step)⟩
        · rw [if_neg c3] at H
          exact absurd H (by simp)
      · rw [if_neg c2] at H
        have c2b0 : decide (x4_1 < (l0.length : Int)) = false := decide_eq_false c2
        clear c2
        simp only [Option.some.injEq, Prod.mk.injEq] at H
        obtain ⟨rfl, rfl⟩ := H
        go_wp2
        repeat (go_quiet (fail); try go_wp2)
        go_ret2
        exact ⟨by first | rfl | (simp; done) | (simp [*]; done), by repeat (first | exact Drawn0.refl _ | apply Drawn0.step)⟩

/-! ### wharfingerref13_lines: function 29 -/
def wharfingerref13_lines.l0 : Nat → ByteArray → List ByteArray → Int → Int → Option (List ByteArray)
  | 0, _, _, _, _ => none
  | k + 1, x0, x3, x4, x5 => if x5 < (x0.size : Int) then (if 0 ≤ x5 then (if (bt x0 x5) = 10 then (if 0 ≤ x4 then (if x4 ≤ x5 then (if x5 ≤ (x0.size : Int) then (if x3.length < 8796093022208 then (wharfingerref13_lines.l0 k x0 (x3 ++ [x0.extract (x4 : Int).toNat (x5 : Int).toNat]) (wrap64 (x5 + 1)) (wrap64 (x5 + 1))) else (none)) else (none)) else (none)) else (none)) else (wharfingerref13_lines.l0 k x0 x3 x4 (wrap64 (x5 + 1)))) else (none)) else (if 0 ≤ x4 then (if x4 ≤ (x0.size : Int) then (if x3.length < 8796093022208 then (some (x3 ++ [x0.extract (x4 : Int).toNat x0.size])) else (none)) else (none)) else (none))
def wharfingerref13_lines.f (k : Nat) (a0 : ByteArray) : Option (List ByteArray) := wharfingerref13_lines.l0 k a0 ([] : List ByteArray) 0 0
theorem wharfingerref13_lines.mono_l : ∀ k, (∀ y0 y1 y2 y3, LeO (wharfingerref13_lines.l0 k y0 y1 y2 y3) (wharfingerref13_lines.l0 (k + 1) y0 y1 y2 y3))
  | 0 => fun _ _ _ _ r h => by simp [wharfingerref13_lines.l0] at h
  | k + 1 => by
    have ih0 := wharfingerref13_lines.mono_l k
    · intro y0 y1 y2 y3
      unfold wharfingerref13_lines.l0
      repeat' first
      | (with_reducible exact ih0 _ _ _ _)
      | (with_reducible exact LeO.refl _)
      | (with_reducible exact LeO.none _)
      | (with_reducible refine LeO.ite ?_ ?_)
      | (with_reducible refine LeO.bind ?_ (fun _ => ?_))
      | exact ih0 _ _ _ _
      | exact LeO.none _
      | refine LeO.ite ?_ ?_
      | refine LeO.bind ?_ (fun _ => ?_)
theorem wharfingerref13_lines.mono : ∀ a0 k, LeO (wharfingerref13_lines.f k a0) (wharfingerref13_lines.f (k + 1) a0) := by
  intro a0 k
  have ih0 := wharfingerref13_lines.mono_l k
  unfold wharfingerref13_lines.f
  repeat' first
      | (with_reducible exact ih0 _ _ _ _)
      | (with_reducible exact LeO.refl _)
      | (with_reducible exact LeO.none _)
      | (with_reducible refine LeO.ite ?_ ?_)
      | (with_reducible refine LeO.bind ?_ (fun _ => ?_))
      | exact ih0 _ _ _ _
      | exact LeO.none _
      | refine LeO.ite ?_ ?_
      | refine LeO.bind ?_ (fun _ => ?_)
set_option maxHeartbeats 8000000 in
set_option maxRecDepth 100000 in
theorem wharfingerref13_lines.calls (k : Nat) (a0 : ByteArray) (r : List ByteArray) (w : World) (h : wharfingerref13_lines.f k a0 = some r) :
    Calls Tryz.prog 29 #[.string a0] w fun e w' => ∃ v0_ : Value, e = .returned (v0_) ∧ Kd.R Kd.string 9 w' w.heap.size (fun _ => True) v0_ r ∧ Below w.heap.size w w' := by
  have HB := Aside0.mk (Below.refl w.heap.size w)
  have H : (wharfingerref13_lines.l0 k a0 ([] : List ByteArray) 0 0) = some r := h
  clear h
  have H' := Aside0.mk H
  clear H
  go_enter Tryz.func29, Tryz.ntmps29
  go_wp2
  go_loopg [3, 4, 5] k (fun kq v3 v4 v5 w' => ∃ (x3_1 : List ByteArray) (x4_1 : Int) (x5_1 : Int), v4 = .int .i64 x4_1 ∧ v5 = .int .i64 x5_1 ∧ Aside0 (wharfingerref13_lines.l0 kq a0 x3_1 x4_1 x5_1 = some r) ∧ Aside0 (kq ≤ k) ∧ Aside0 (Kd.R Kd.string 9 w' w.heap.size (fun _ => True) v3 x3_1) ∧ Aside0 (Below w.heap.size w w'))
  case atStart => exact ⟨(([] : List ByteArray)), (0), (0), (by first | rfl | (simp; done) | (simp [*]; done)), (by first | rfl | (simp; done) | (simp [*]; done)), H', ⟨Nat.le_refl _⟩, ⟨by first | exact Kd.R_nil _ _ _ _ _ | exact Kd.N_nil _ _ _ _ _ | exact Kd.V_nil _ _ _ _ _ | exact Kd.Q_nil _ _ _ _ _ | exact Kd.S_nil _ _ _ _ _⟩, ⟨by repeat (first | (with_reducible first | exact HB.out | apply below_alloc | apply pw_below_drewN | apply below_drew1) | exact HB.out)⟩⟩
  case round =>
    clear H'
    obtain ⟨x3_1, x4_1, x5_1, rfl, rfl, HA, HK1, HO_3, HB⟩ := hrel
    cases gk with
    | zero => exact absurd HA.out (by simp [wharfingerref13_lines.l0])
    | succ k1 =>
      have H := HA.out
      clear HA
      simp only [wharfingerref13_lines.l0] at H
      by_cases c2 : x5_1 < (a0.size : Int)
      · rw [if_pos c2] at H
        have c2b0 : decide (x5_1 < (a0.size : Int)) = true := decide_eq_true c2
        clear c2
        by_cases c3 : 0 ≤ x5_1
        · rw [if_pos c3] at H
          have c3b0 : decide (0 ≤ x5_1) = true := decide_eq_true c3
          clear c3
          by_cases c5 : (bt a0 x5_1) = 10
          · rw [if_pos c5] at H
            have c5b0 : ((bt a0 x5_1) == 10) = true := beq_iff_eq.mpr c5
            have c5b1 : ((bt a0 x5_1) != 10) = false := bne_eq_false_iff_eq.mpr c5
            clear c5
            by_cases c6 : 0 ≤ x4_1
            · rw [if_pos c6] at H
              have c6b0 := eq_true c6
              have c6b1 : decide (0 ≤ x4_1) = true := decide_eq_true c6
              clear c6
              by_cases c7 : x4_1 ≤ x5_1
              · rw [if_pos c7] at H
                have c7b0 := eq_true c7
                have c7b1 : decide (x4_1 ≤ x5_1) = true := decide_eq_true c7
                clear c7
                by_cases c8 : x5_1 ≤ (a0.size : Int)
                · rw [if_pos c8] at H
                  have c8b0 := eq_true c8
                  have c8b1 : decide (x5_1 ≤ (a0.size : Int)) = true := decide_eq_true c8
                  clear c8
                  by_cases c9 : x3_1.length < 8796093022208
                  · rw [if_pos c9] at H
                    have LMc9 := Aside0.mk c9
                    clear c9
                    obtain ⟨y171, hy171⟩ : ∃ y_ : List ByteArray, y_ = (x3_1 ++ [a0.extract (x4_1 : Int).toNat (x5_1 : Int).toNat]) := ⟨_, rfl⟩
                    replace H : (wharfingerref13_lines.l0 k1 a0 y171 (wrap64 (x5_1 + 1)) (wrap64 (x5_1 + 1))) = some r := by first | (rw [hy171]; with_reducible exact H) | (have H2_ := (Option.bind_some _ _).symm.trans H; rw [hy171]; with_reducible exact H2_) | (have H2_ := (Option.bind_some _ _).symm.trans H; with_reducible exact H2_) | with_reducible exact H | (rw [hy171]; exact H) | exact H
                    have Ny171 := Aside0.mk hy171
                    clear hy171
                    have H' := Aside0.mk H
                    clear H
                    have p4 : 0 ≤ (x5_1 : Int) := of_decide_eq_true (by first | (with_reducible assumption) | assumption)
                    have q4 : x5_1 < (a0.size : Int) := of_decide_eq_true (by first | (with_reducible assumption) | assumption)
                    have hx4 := bt_at a0 x5_1
                    replace p4 := eq_true p4
                    replace q4 := eq_true q4
                    go_wp2_with (first | ((with_reducible refine gate_builtin (b := .append) (xs := #[.tmp 16, .tmp 21]) rfl ?_); at_builtin; refine Kd.R_append Kd.string (w0 := w) w.heap.size rfl (.tmp 16) (.tmp 21) 43 9 (.string ⟨#[]⟩) 16 rfl Tryz.underlying43 info9 rfl (by decide) (by omega) u3 x3_1 (a0.extract (x4_1 : Int).toNat (x5_1 : Int).toNat) [.string (a0.extract (x4_1 : Int).toNat (x5_1 : Int).toNat)] (fun _ => True) (fun _ => False) rfl rfl ?aP (fun _ hk => hk.elim) ?aF ?aO ?aB ?aS ?aL ?_; (case aP => exact rfl); (case aB => exact (by repeat (first | (with_reducible first | exact HB.out | apply below_alloc | apply pw_below_drewN | apply below_drew1) | exact HB.out))); (case aF => exact (fun _ _ => trivial)); (case aO => exact (by (with_reducible repeat (first | apply Kd.R_alloc | apply Kd.R_drewN | apply Kd.R_drew)); exact HO_3.out)); (case aS => exact (below_size (by repeat (first | (with_reducible first | exact HB.out | apply below_alloc | apply pw_below_drewN | apply below_drew1) | exact HB.out)))); (case aL => have := LMc9.out; omega); intro v172 w10 ho hb hg hat; rw [← Ny171.out] at ho; have n0_ := Aside0.mk (hb); have n1_ := Aside0.mk (ho); clear HB; clear HO_3; have HB := n0_; have HO173 := n1_; clear n0_ n1_; clear ho hb hg hat))
                    go_roundg k1
                    case measure => have := HK1.out; omega
                    case rel => exact ⟨(y171), (wrap64 (x5_1 + 1)), (wrap64 (x5_1 + 1)), (by first | rfl | (simp; done) | (simp [*]; done)), (by first | rfl | (simp; done) | (simp [*]; done)), H', ⟨by have := HK1.out; omega⟩, ⟨by (with_reducible repeat (first | apply Kd.R_alloc | apply Kd.R_drewN | apply Kd.R_drew)); exact HO173.out⟩, ⟨by repeat (first | (with_reducible first | exact HB.out | apply below_alloc | apply pw_below_drewN | apply below_drew1) | exact HB.out)⟩⟩
                  · rw [if_neg c9] at H
                    exact absurd H (by simp)
                · rw [if_neg c8] at H
                  exact absurd H (by simp)
              · rw [if_neg c7] at H
                exact absurd H (by simp)
            · rw [if_neg c6] at H
              exact absurd H (by simp)
          · rw [if_neg c5] at H
            have c5b0 : ((bt a0 x5_1) == 10) = false := beq_eq_false_iff_ne.mpr c5
            have c5b1 : ((bt a0 x5_1) != 10) = true := bne_iff_ne.mpr c5
            have H' := Aside0.mk H
            clear H
            have p4 : 0 ≤ (x5_1 : Int) := of_decide_eq_true (by first | (with_reducible assumption) | assumption)
            have q4 : x5_1 < (a0.size : Int) := of_decide_eq_true (by first | (with_reducible assumption) | assumption)
            have hx4 := bt_at a0 x5_1
            replace p4 := eq_true p4
            replace q4 := eq_true q4
            go_wp2
            go_roundg k1
            case measure => have := HK1.out; omega
            case rel => exact ⟨(x3_1), (x4_1), (wrap64 (x5_1 + 1)), (by first | rfl | (simp; done) | (simp [*]; done)), (by first | rfl | (simp; done) | (simp [*]; done)), H', ⟨by have := HK1.out; omega⟩, ⟨by (with_reducible repeat (first | apply Kd.R_alloc | apply Kd.R_drewN | apply Kd.R_drew)); exact HO_3.out⟩, ⟨by repeat (first | (with_reducible first | exact HB.out | apply below_alloc | apply pw_below_drewN | apply below_drew1) | exact HB.out)⟩⟩
        · rw [if_neg c3] at H
          exact absurd H (by simp)
      · rw [if_neg c2] at H
        have c2b0 : decide (x5_1 < (a0.size : Int)) = false := decide_eq_false c2
        clear c2
        by_cases c11 : 0 ≤ x4_1
        · rw [if_pos c11] at H
          have c11b0 := eq_true c11
          have c11b1 : decide (0 ≤ x4_1) = true := decide_eq_true c11
          clear c11
          by_cases c12 : x4_1 ≤ (a0.size : Int)
          · rw [if_pos c12] at H
            have c12b0 := eq_true c12
            have c12b1 : decide (x4_1 ≤ (a0.size : Int)) = true := decide_eq_true c12
            clear c12
            by_cases c13 : x3_1.length < 8796093022208
            · rw [if_pos c13] at H
              have LMc13 := Aside0.mk c13
              clear c13
              obtain ⟨y174, hy174⟩ : ∃ y_ : List ByteArray, y_ = (x3_1 ++ [a0.extract (x4_1 : Int).toNat a0.size]) := ⟨_, rfl⟩
              replace H : (some y174) = some r := by first | (rw [hy174]; with_reducible exact H) | (have H2_ := (Option.bind_some _ _).symm.trans H; rw [hy174]; with_reducible exact H2_) | (have H2_ := (Option.bind_some _ _).symm.trans H; with_reducible exact H2_) | with_reducible exact H | (rw [hy174]; exact H) | exact H
              have Ny174 := Aside0.mk hy174
              clear hy174
              obtain rfl := Option.some.inj H
              go_wp2_with (first | ((with_reducible refine gate_builtin (b := .append) (xs := #[.tmp 25, .tmp 29]) rfl ?_); at_builtin; refine Kd.R_append Kd.string (w0 := w) w.heap.size rfl (.tmp 25) (.tmp 29) 43 9 (.string ⟨#[]⟩) 16 rfl Tryz.underlying43 info9 rfl (by decide) (by omega) u3 x3_1 (a0.extract (x4_1 : Int).toNat a0.size) [.string (a0.extract (x4_1 : Int).toNat a0.size)] (fun _ => True) (fun _ => False) rfl rfl ?aP (fun _ hk => hk.elim) ?aF ?aO ?aB ?aS ?aL ?_; (case aP => exact rfl); (case aB => exact (by repeat (first | (with_reducible first | exact HB.out | apply below_alloc | apply pw_below_drewN | apply below_drew1) | exact HB.out))); (case aF => exact (fun _ _ => trivial)); (case aO => exact (by (with_reducible repeat (first | apply Kd.R_alloc | apply Kd.R_drewN | apply Kd.R_drew)); exact HO_3.out)); (case aS => exact (below_size (by repeat (first | (with_reducible first | exact HB.out | apply below_alloc | apply pw_below_drewN | apply below_drew1) | exact HB.out)))); (case aL => have := LMc13.out; omega); intro v175 w14 ho hb hg hat; rw [← Ny174.out] at ho; have n0_ := Aside0.mk (hb); have n1_ := Aside0.mk (ho); clear HB; clear HO_3; have HB := n0_; have HO176 := n1_; clear n0_ n1_; clear ho hb hg hat))
              go_ret
              exact ⟨_, by first | rfl | (simp [errW_none, errW_some] <;> rfl) | (simp [*, errW_none, errW_some] <;> rfl), by (with_reducible repeat (first | apply Kd.R_alloc | apply Kd.R_drewN | apply Kd.R_drew)); exact HO176.out, by repeat (first | (with_reducible first | exact HB.out | apply below_alloc | apply pw_below_drewN | apply below_drew1) | exact HB.out)⟩
            · rw [if_neg c13] at H
              exact absurd H (by simp)
          · rw [if_neg c12] at H
            exact absurd H (by simp)
        · rw [if_neg c11] at H
          exact absurd H (by simp)

end Go.Proofs.YtkbamneecfmibaaGreatDoor.PConfWrites
