/- The numbers of a configuration: strconv.Atoi with strconv.Itoa back, in range, against digits without noughts ahead. No program. No conditions. -/
import Derived.Test.YtkbamneecfmibaaGreatDoorPure2
import Derived.Lib.AtoiAllCases
namespace Go.Proofs.YtkbamneecfmibaaGreatDoor.C

def valN (acc : Nat) (l : Bs) : Nat := l.foldl (fun n b => n * 10 + (b.toNat - 48)) acc
theorem valN_cons (acc : Nat) (b : UInt8) (l : Bs) : valN acc (b :: l) = valN (acc * 10 + (b.toNat - 48)) l := by unfold valN; rw [List.foldl_cons]
theorem valN_nil (acc : Nat) : valN acc [] = acc := by unfold valN; rw [List.foldl_nil]
theorem valN_append (l : Bs) (d : UInt8) : ∀ acc, valN acc (l ++ [d]) = valN acc l * 10 + (d.toNat - 48) := by
  intro acc
  unfold valN
  rw [List.foldl_append, List.foldl_cons, List.foldl_nil]
theorem valN_ge (l : Bs) : ∀ acc, acc ≤ valN acc l := by
  induction l with
  | nil => intro acc; rw [valN_nil]; exact Nat.le_refl _
  | cons b l ih =>
    intro acc
    rw [valN_cons]
    refine Nat.le_trans ?_ (ih (acc * 10 + (b.toNat - 48)))
    generalize b.toNat - 48 = d
    omega
theorem digitB_iff (b : UInt8) : digitB b = true ↔ 48 ≤ b.toNat ∧ b.toNat ≤ 57 := by
  unfold digitB inR; simp
theorem foldI (l : Bs) (h : l.all digitB = true) : ∀ acc : Nat, l.foldl (fun (n : Int) b => n * 10 + ((b.toNat : Int) - 48)) (acc : Int) = (valN acc l : Int) := by
  induction l with
  | nil => intro acc; rw [valN_nil, List.foldl_nil]
  | cons b l ih =>
    intro acc
    rw [List.all_cons, Bool.and_eq_true] at h
    have hb := (digitB_iff b).1 h.1
    rw [List.foldl_cons, valN_cons]
    have e : ((acc : Int) * 10 + ((b.toNat : Int) - 48)) = ((acc * 10 + (b.toNat - 48) : Nat) : Int) := by
      generalize b.toNat = n at hb
      omega
    rw [e, ih h.2 (acc * 10 + (b.toNat - 48))]
theorem u8_of (d : UInt8) (h : 48 ≤ d.toNat) : UInt8.ofNat (48 + (d.toNat - 48)) = d := by
  rw [show 48 + (d.toNat - 48) = d.toNat from by omega]; simp
theorem dec_step {u : Nat} (h : ¬ u < 10) : Lib.decDigits u = Lib.decDigits (u / 10) ++ [UInt8.ofNat (48 + u % 10)] := by
  rw [Lib.decDigits, dif_neg h]
theorem dec_of_digits : ∀ (n : Nat) (l : Bs), l.length = n + 1 → l.all digitB = true → (l.head? = some 48 → l.length = 1) → Lib.decDigits (valN 0 l) = l := by
  intro n
  induction n with
  | zero =>
    intro l hl hd _
    match l, hl with
    | [d], _ =>
      have hb := (digitB_iff d).1 (by simpa using hd)
      rw [valN_cons, valN_nil, Nat.zero_mul, Nat.zero_add]
      rw [Lib.decDigits_one (by omega), u8_of d hb.1]
  | succ n ih =>
    intro l hl hd hh
    rcases List.eq_nil_or_concat l with rfl | ⟨l', d, rfl⟩
    · simp at hl
    · rw [List.concat_eq_append] at *
      have hl' : l'.length = n + 1 := by simpa using hl
      rw [List.all_append, Bool.and_eq_true] at hd
      have hb := (digitB_iff d).1 (by simpa using hd.2)
      match l', hl' with
      | h :: t, hl' =>
        have hne : h ≠ 48 := by
          intro e
          have := hh (by rw [e]; rfl)
          simp at this
        have hb0 := (digitB_iff h).1 (by have := hd.1; rw [List.all_cons, Bool.and_eq_true] at this; exact this.1)
        have hge : 1 ≤ valN 0 (h :: t) := by
          have h1 := valN_ge t (0 * 10 + (h.toNat - 48))
          have h2 : h.toNat ≠ 48 := fun e => hne (by
            have : h = UInt8.ofNat h.toNat := by simp
            rw [this, e]; rfl)
          rw [valN_cons]; omega
        rw [valN_append]
        rw [dec_step (by omega)]
        rw [show (valN 0 (h :: t) * 10 + (d.toNat - 48)) / 10 = valN 0 (h :: t) from by omega, show (valN 0 (h :: t) * 10 + (d.toNat - 48)) % 10 = d.toNat - 48 from by omega, u8_of d hb.1]
        rw [ih (h :: t) hl' hd.1 (fun e => by simp at e; exact absurd e hne)]
theorem dec_props : ∀ (u : Nat), (Lib.decDigits u).all digitB = true ∧ valN 0 (Lib.decDigits u) = u ∧ ((Lib.decDigits u).head? = some 48 → (Lib.decDigits u).length = 1) ∧ 1 ≤ (Lib.decDigits u).length ∧ (10 ≤ u → (Lib.decDigits u).head? ≠ some 48) ∧ (1 ≤ u → (Lib.decDigits u).head? ≠ some 48) := by
  intro u
  induction u using Nat.strongRecOn with
  | _ u ih =>
    by_cases h : u < 10
    · rw [Lib.decDigits_one h]
      have e : (UInt8.ofNat (48 + u)).toNat = 48 + u := by simp; omega
      refine ⟨?_, ?_, fun _ => rfl, Nat.le_refl _, fun h10 => absurd h (by omega), fun h1 => ?_⟩
      · simp only [List.all_cons, List.all_nil, Bool.and_true]; rw [digitB_iff, e]; omega
      · rw [valN_cons, valN_nil, e]; omega
      · intro e2
        have e3 : UInt8.ofNat (48 + u) = 48 := by simpa using e2
        rw [e3] at e
        have : (48 : UInt8).toNat = 48 := rfl
        omega
    · obtain ⟨h1, h2, h3, h4, h5, h6⟩ := ih (u / 10) (by omega)
      rw [dec_step h]
      have e : (UInt8.ofNat (48 + u % 10)).toNat = 48 + u % 10 := by simp; omega
      have hh : ∀ x : UInt8, (Lib.decDigits (u / 10) ++ [UInt8.ofNat (48 + u % 10)]).head? = some x → (Lib.decDigits (u / 10)).head? = some x := by
        intro x hx
        cases hd : Lib.decDigits (u / 10) with
        | nil => rw [hd] at h4; simp at h4
        | cons a l => rw [hd] at hx; simpa using hx
      refine ⟨?_, ?_, fun e2 => ?_, by simp, fun _ e2 => ?_, fun _ e2 => ?_⟩
      · rw [List.all_append, h1]; simp only [List.all_cons, List.all_nil, Bool.and_true, Bool.true_and]; rw [digitB_iff, e]; omega
      · rw [valN_append, h2, e]; omega
      · exact absurd (hh _ e2) (h6 (by omega))
      · exact absurd (hh _ e2) (h6 (by omega))
      · exact absurd (hh _ e2) (h6 (by omega))
theorem dec_len : ∀ (k u : Nat), u < 10 ^ (k + 1) → (Lib.decDigits u).length ≤ k + 1 := by
  intro k
  induction k with
  | zero => intro u h; rw [Lib.decDigits_one (by omega)]; simp
  | succ k ih =>
    intro u h
    by_cases h10 : u < 10
    · rw [Lib.decDigits_one h10]; simp
    · rw [dec_step h10, List.length_append]
      have := ih (u / 10) (by rw [Nat.pow_succ] at h; omega)
      simp; omega
theorem parse_digits : ∀ (l : Bs) (acc : Nat), l.all digitB = true → (acc + 1) * 10 ^ l.length ≤ 10000000 → Lib.parseUint10 acc l = .ok (valN acc l)
  | [], acc, _, _ => by rw [valN_nil]; rfl
  | c :: r, acc, h, hb => by
    rw [List.all_cons, Bool.and_eq_true] at h
    have hc := (digitB_iff c).1 h.1
    have hp : 1 ≤ 10 ^ r.length := Nat.one_le_pow _ _ (by omega)
    rw [List.length_cons, Nat.pow_succ] at hb
    have h1 : (acc + 1) * (10 ^ r.length * 10) = ((acc + 1) * 10) * 10 ^ r.length := by rw [Nat.mul_comm (10 ^ r.length) 10, Nat.mul_assoc]
    rw [h1] at hb
    have h2 : (acc + 1) * 10 ≤ 10000000 := Nat.le_trans (Nat.le_mul_of_pos_right _ hp) hb
    have h3 : (acc * 10 + (c.toNat - 48) + 1) * 10 ^ r.length ≤ ((acc + 1) * 10) * 10 ^ r.length := Nat.mul_le_mul_right _ (by omega)
    simp only [Lib.parseUint10]
    rw [if_pos hc, if_neg (by omega), if_neg (by omega)]
    rw [valN_cons]
    exact parse_digits r _ h.2 (Nat.le_trans h3 hb)
theorem numR_val {s : Bs} (h0 : s ≠ []) (h6 : s.length ≤ 6) (hz : s.head? = some 48 → s.length = 1) (hd : s.all digitB = true) : numR s = (valN 0 s : Int) := by
  unfold numR
  have hl : 1 ≤ s.length := by cases s with
    | nil => exact absurd rfl h0
    | cons => simp
  rw [if_neg (by
    rintro (h | h | ⟨h, h'⟩)
    · exact h0 h
    · omega
    · have := hz h; omega), if_pos hd]
  exact foldI s hd 0
theorem numR_neg {s : Bs} (h : ¬ (s ≠ [] ∧ s.length ≤ 6 ∧ (s.head? = some 48 → s.length = 1) ∧ s.all digitB = true)) : numR s = -1 := by
  unfold numR
  by_cases c : s = [] ∨ 6 < s.length ∨ (s.head? = some 48 ∧ 1 < s.length)
  · rw [if_pos c]
  · rw [if_neg c]
    by_cases d : s.all digitB = true
    · refine absurd ⟨fun e => c (.inl e), ?_, fun e => ?_, d⟩ h
      · exact Nat.le_of_not_lt fun e => c (.inr (.inl e))
      · have : ¬ 1 < s.length := fun e' => c (.inr (.inr ⟨e, e'⟩))
        have : s ≠ [] := fun e' => c (.inl e')
        have : 0 < s.length := List.length_pos_iff.2 this
        omega
    · rw [if_neg d]
/-- Digits without noughts ahead are read back as they were. -/
theorem num_atoi {s : Bs} (h : 0 ≤ numR s) : Lib.atoiAll s = .ok (numR s) ∧ Lib.itoa (numR s) = s := by
  by_cases c : s ≠ [] ∧ s.length ≤ 6 ∧ (s.head? = some 48 → s.length = 1) ∧ s.all digitB = true
  · obtain ⟨h0, h6, hz, hd⟩ := c
    rw [numR_val h0 h6 hz hd]
    refine ⟨?_, ?_⟩
    · cases s with
      | nil => exact absurd rfl h0
      | cons b r =>
        have hb := (digitB_iff b).1 (by rw [List.all_cons, Bool.and_eq_true] at hd; exact hd.1)
        have hp : Lib.parseMag (b :: r) = .ok (valN 0 (b :: r)) := by
          unfold Lib.parseMag
          rw [if_neg (by simp)]
          refine parse_digits _ 0 hd ?_
          have : (10 : Nat) ^ (b :: r).length ≤ 10 ^ 6 := Nat.pow_le_pow_right (by omega) h6
          omega
        have hlt : valN 0 (b :: r) < 9223372036854775808 := by
          have hdd := dec_of_digits r.length (b :: r) rfl hd hz
          have h7 : ∀ (l : Bs) (acc : Nat), l.all digitB = true → valN acc l + 1 ≤ (acc + 1) * 10 ^ l.length := by
            intro l
            induction l with
            | nil => intro acc _; rw [valN_nil]; simp
            | cons c l ih =>
              intro acc hh
              rw [List.all_cons, Bool.and_eq_true] at hh
              have hc := (digitB_iff c).1 hh.1
              have := ih (acc * 10 + (c.toNat - 48)) hh.2
              rw [valN_cons, List.length_cons, Nat.pow_succ]
              have h3 : (acc * 10 + (c.toNat - 48) + 1) * 10 ^ l.length ≤ ((acc + 1) * 10) * 10 ^ l.length := Nat.mul_le_mul_right _ (by omega)
              have h1 : (acc + 1) * (10 ^ l.length * 10) = ((acc + 1) * 10) * 10 ^ l.length := by rw [Nat.mul_comm (10 ^ l.length) 10, Nat.mul_assoc]
              omega
          have := h7 (b :: r) 0 hd
          have h8 : (10 : Nat) ^ (b :: r).length ≤ 10 ^ 6 := Nat.pow_le_pow_right (by omega) h6
          omega
        unfold Lib.atoiAll
        simp only
        rw [if_neg (by omega), hp]
        simp only
        rw [if_neg (by omega), if_neg (by omega), if_neg (by omega)]
    · unfold Lib.itoa
      rw [if_neg (by omega), Int.toNat_natCast]
      cases s with
      | nil => exact absurd rfl h0
      | cons b r => exact dec_of_digits r.length (b :: r) rfl hd hz
  · rw [numR_neg c] at h; omega
/-- A small number that is written as the text says is the text's. -/
theorem itoa_num {s : Bs} {v : Int} (h : Lib.itoa v = s) (h0 : 0 ≤ v) (h1 : v ≤ 262144) : numR s = v := by
  subst h
  unfold Lib.itoa
  rw [if_neg (by omega)]
  obtain ⟨p1, p2, p3, p4, _, _⟩ := dec_props v.toNat
  rw [numR_val (fun e => by rw [e] at p4; simp at p4) (dec_len 5 v.toNat (by omega)) p3 p1, p2]
  omega
end Go.Proofs.YtkbamneecfmibaaGreatDoor.C
