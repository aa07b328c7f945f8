/- The library's cutting of texts at one byte (Cut, Split) in the plain words of Pure1. No program. No conditions. -/
import Derived.Test.YtkbamneecfmibaaGreatDoorPure1
import Derived.Lib.Split
import Derived.Lib.CountLaws
namespace Go.Proofs.YtkbamneecfmibaaGreatDoor.C

theorem index1_cons (c b : UInt8) (l : Bs) : Lib.index (b :: l) [c] = if c == b then 0 else if Lib.index l [c] == -1 then -1 else Lib.index l [c] + 1 := by
  rw [Lib.index]
  by_cases h : c = b <;> simp [List.isPrefixOf, h]
theorem cut1_none {c : UInt8} : ∀ {l : Bs}, cut1 c l = none → Lib.index l [c] = -1
  | [], _ => by simp [Lib.index]
  | b :: l, h => by
    unfold cut1 at h
    by_cases hb : b = c
    · simp [hb] at h
    · have h1 : cut1 c l = none := by simpa [hb] using h
      rw [index1_cons, cut1_none h1]
      have : (c == b) = false := by simpa using fun e => hb e.symm
      simp [this]
theorem cut1_some {c : UInt8} : ∀ {l x y : Bs}, cut1 c l = some (x, y) → Lib.index l [c] = (x.length : Int) ∧ l = x ++ c :: y
  | [], _, _, h => by simp [cut1] at h
  | b :: l, x, y, h => by
    unfold cut1 at h
    by_cases hb : b = c
    · subst hb
      simp at h
      obtain ⟨rfl, rfl⟩ := h
      rw [index1_cons]; simp
    · have hcb : (c == b) = false := by simpa using fun e => hb e.symm
      rw [if_neg (by simpa using hb)] at h
      cases h2 : cut1 c l with
      | none => rw [h2] at h; simp at h
      | some p =>
        rw [h2] at h
        simp only [Option.map_some, Option.some.injEq, Prod.mk.injEq] at h
        obtain ⟨rfl, rfl⟩ := h
        obtain ⟨h3, h4⟩ := cut1_some (x := p.1) (y := p.2) (by rw [h2])
        refine ⟨?_, by rw [h4]; simp⟩
        rw [index1_cons, h3, hcb]
        have : (((p.1.length : Int)) == -1) = false := by
          rw [beq_eq_false_iff_ne]
          omega
        rw [this]; simp
theorem lib_cut (c : UInt8) (l : Bs) : Lib.cut l [c] = match cut1 c l with | some (x, y) => (x, y, true) | none => (l, [], false) := by
  unfold Lib.cut
  cases h : cut1 c l with
  | none => rw [cut1_none h]; simp
  | some p =>
    obtain ⟨h1, h2⟩ := cut1_some (x := p.1) (y := p.2) (by rw [h])
    rw [h1]
    have h0 := Int.natCast_nonneg p.1.length
    rw [if_pos h0]
    simp only [List.length_singleton, Int.toNat_natCast]
    have e1 : l.take p.1.length = p.1 := by rw [h2]; simp
    have e2 : l.drop (p.1.length + 1) = p.2 := by rw [h2]; simp
    rw [e1, e2]
theorem splitOn_cons (c b : UInt8) (l : Bs) : splitOn c (b :: l) = if b == c then [] :: splitOn c l else match splitOn c l with | [] => [[b]] | h :: t => (b :: h) :: t := rfl
theorem cut1_cons (c b : UInt8) (l : Bs) : cut1 c (b :: l) = if b == c then some ([], l) else (cut1 c l).map fun p => (b :: p.1, p.2) := rfl
theorem splitOn_cut (c : UInt8) : ∀ l : Bs, splitOn c l = match cut1 c l with | some (x, y) => x :: splitOn c y | none => [l]
  | [] => by simp [splitOn, cut1]
  | b :: l => by
    rw [splitOn_cons, cut1_cons]
    by_cases hb : b = c
    · simp [hb]
    · have ih := splitOn_cut c l
      simp only [beq_iff_eq, hb, if_false]
      rw [ih]
      cases h : cut1 c l with
      | none => simp
      | some p => simp
theorem splitOn_ne (c : UInt8) (l : Bs) : splitOn c l ≠ [] := by
  rw [splitOn_cut]; cases cut1 c l <;> simp

theorem splitB_on (c : UInt8) : ∀ (n : Nat) (s : ByteArray), s.size ≤ n →
    (Lib.splitB ⟨#[c]⟩ 0 (Lib.countB s ⟨#[c]⟩) s).map (fun p => p.data.toList) = splitOn c s.data.toList ∧ (Lib.splitB ⟨#[c]⟩ 0 (Lib.countB s ⟨#[c]⟩) s).length = Lib.countB s ⟨#[c]⟩ + 1 := by
  intro n
  induction n with
  | zero =>
    intro s hs
    have hl : s.data.toList = [] := by
      have := Lib.size_eq s
      apply List.eq_nil_of_length_eq_zero; omega
    have hi : Lib.indexB s ⟨#[c]⟩ = -1 := by
      show Lib.index s.data.toList _ = -1
      rw [hl]; simp [Lib.index]
    rw [Lib.countB_miss s _ hi, Lib.splitB_zero]
    simp [hl, splitOn]
  | succ n ih =>
    intro s hs
    rw [splitOn_cut]
    cases h : cut1 c s.data.toList with
    | none =>
      have hi : Lib.indexB s ⟨#[c]⟩ = -1 := cut1_none h
      rw [Lib.countB_miss s _ hi, Lib.splitB_zero]
      simp
    | some p =>
      obtain ⟨h1, h2⟩ := cut1_some (x := p.1) (y := p.2) (by rw [h])
      have hi : Lib.indexB s ⟨#[c]⟩ = ((p.1.length : Nat) : Int) := h1
      have hsz : (⟨#[c]⟩ : ByteArray).size = 1 := rfl
      have hc := Lib.countB_hit s ⟨#[c]⟩ p.1.length (by rw [hsz]; omega) hi
      rw [hsz] at hc
      rw [hc, Nat.add_comm 1, Lib.splitB]
      have hne : (Lib.indexB s ⟨#[c]⟩ == -1) = false := by
        rw [hi]
        rw [beq_eq_false_iff_ne]
        omega
      rw [hne, hi, hsz]
      simp only [Bool.false_eq_true, if_false, Int.toNat_natCast, Nat.add_zero]
      have hlen : s.data.toList.length = p.1.length + (p.2.length + 1) := by rw [h2]; simp
      have hse := Lib.size_eq s
      have e2 : (s.extract (p.1.length + 1) s.size).data.toList = p.2 := by
        rw [Lib.extract_data, List.take_of_length_le (by rw [List.length_drop]; omega), h2]
        simp
      have e1 : (s.extract 0 p.1.length).data.toList = p.1 := by
        rw [Lib.extract_data, h2]
        simp
      have hs2 : (s.extract (p.1.length + 1) s.size).size ≤ n := by
        have := Lib.size_eq (s.extract (p.1.length + 1) s.size)
        rw [this, e2]; omega
      obtain ⟨i1, i2⟩ := ih _ hs2
      refine ⟨?_, ?_⟩
      · simp only [List.map_cons, e1, i1, e2]
      · simp only [List.length_cons, i2]
end Go.Proofs.YtkbamneecfmibaaGreatDoor.C
