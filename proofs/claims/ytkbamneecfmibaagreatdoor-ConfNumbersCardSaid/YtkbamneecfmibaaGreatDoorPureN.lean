/- ConfNumbers, the plain law: what the reading of "[a]\nroot = r\nkey = text" comes to. No program. No conditions but: text has no space and no line end. -/
import Derived.Test.YtkbamneecfmibaaGreatDoorPure3
namespace Go.Proofs.YtkbamneecfmibaaGreatDoor.C

theorem splitOn_sep (c : UInt8) : ∀ (a b : Bs), a.all (fun x => x != c) = true → splitOn c (a ++ c :: b) = a :: splitOn c b
  | [], b, _ => by rw [List.nil_append, splitOn_cons, if_pos (by simp)]
  | x :: a, b, h => by
    rw [List.all_cons, Bool.and_eq_true] at h
    have hx : ¬ (x == c) = true := by have := h.1; simp at this; simpa using this
    rw [List.cons_append, splitOn_cons, if_neg hx, splitOn_sep c a b h.2]
theorem splitOn_one (c : UInt8) : ∀ (a : Bs), a.all (fun x => x != c) = true → splitOn c a = [a]
  | [], _ => rfl
  | x :: a, h => by
    rw [List.all_cons, Bool.and_eq_true] at h
    have hx : ¬ (x == c) = true := by have := h.1; simp at this; simpa using this
    rw [splitOn_cons, if_neg hx, splitOn_one c a h.2]
theorem cut1_sep (c : UInt8) : ∀ (a b : Bs), a.all (fun x => x != c) = true → cut1 c (a ++ c :: b) = some (a, b)
  | [], b, _ => by rw [List.nil_append, cut1_cons, if_pos (by simp)]
  | x :: a, b, h => by
    rw [List.all_cons, Bool.and_eq_true] at h
    have hx : ¬ (x == c) = true := by have := h.1; simp at this; simpa using this
    rw [List.cons_append, cut1_cons, if_neg hx, cut1_sep c a b h.2]
    rfl
theorem trimL_other {c x : UInt8} {l : Bs} (h : x ≠ c) : Lib.trimLeftB (x :: l) c = x :: l := by
  unfold Lib.trimLeftB
  rw [List.dropWhile_cons_of_neg (by simpa using h)]
theorem trimR_other {c x : UInt8} {l : Bs} (h : x ≠ c) : Lib.trimRightB (l ++ [x]) c = l ++ [x] := by
  unfold Lib.trimRightB
  rw [List.reverse_append, List.reverse_singleton, List.singleton_append, List.dropWhile_cons_of_neg (by simpa using h), List.reverse_cons, List.reverse_reverse]

def keyB (sl : Bool) : Bs := if sl then [115, 108, 111, 116, 115] else [113, 117, 111, 116, 97]
def numText (sl : Bool) (t : Bs) : Bs := [91, 97, 93, 10, 114, 111, 111, 116, 32, 61, 32, 114, 10] ++ keyB sl ++ [32, 61, 32] ++ t
def okN (sl : Bool) (t : Bs) : Bool := if sl then decide (1 ≤ numR t ∧ numR t ≤ 16) else decide (0 ≤ numR t ∧ numR t ≤ 262144)
def numM0 : Mdl := ⟨[97], [], false, 16, 262144, []⟩
def numM1 : Mdl := ⟨[97], [114], false, 16, 262144, []⟩
def numM (sl : Bool) (t : Bs) : Mdl := if sl then { numM1 with slots := numR t } else { numM1 with quota := numR t }
def rootK : Bs := [114, 111, 111, 116]
theorem num_l0 : lineStep [] [] [91, 97, 93] = (0, [numM0], []) := by decide +kernel
theorem num_l1 : lineStep [numM0] [] [114, 111, 111, 116, 32, 61, 32, 114] = (0, [numM1], [rootK]) := by decide +kernel
theorem num_set (sl : Bool) (t : Bs) : setM numM1 [rootK] (keyB sl) t = if okN sl t then (0, numM sl t, [keyB sl, rootK]) else (130, numM1, [keyB sl, rootK]) := by
  cases sl
  · unfold setM okN numM keyB
    rw [if_neg (by decide), if_neg (by decide), if_neg (by decide), if_neg (by decide), if_neg (by decide), if_pos (by decide)]
    simp
  · unfold setM okN numM keyB
    rw [if_neg (by decide), if_neg (by decide), if_neg (by decide), if_neg (by decide), if_pos (by decide)]
    simp
theorem num_l2 (sl : Bool) (t : Bs) (h : t.all (fun b => b != 32) = true) : lineStep [numM1] [rootK] (keyB sl ++ [32, 61, 32] ++ t)
    = if okN sl t then (0, [numM sl t], [keyB sl, rootK]) else (130, [numM1], [keyB sl, rootK]) := by
  rcases List.eq_nil_or_concat t with rfl | ⟨l, x, rfl⟩
  · cases sl <;> decide +kernel
  rw [List.concat_eq_append] at *
  have hx : x ≠ 32 := by rw [List.all_append, Bool.and_eq_true] at h; simpa using h.2
  have hcut : cut1 61 (keyB sl ++ [32, 61, 32] ++ (l ++ [x])) = some (keyB sl ++ [32], 32 :: (l ++ [x])) := by
    have := cut1_sep 61 (keyB sl ++ [32]) (32 :: (l ++ [x])) (by cases sl <;> decide)
    simpa using this
  have htr : trim (keyB sl ++ [32, 61, 32] ++ (l ++ [x])) = keyB sl ++ [32, 61, 32] ++ (l ++ [x]) := by
    unfold trim Lib.trimB
    rw [← List.append_assoc, trimR_other hx]
    cases sl
    · exact trimL_other (by decide)
    · exact trimL_other (by decide)
  have hv : Lib.trimLeftB (32 :: (l ++ [x])) 32 = l ++ [x] := by
    unfold Lib.trimLeftB
    rw [List.dropWhile_cons_of_pos (by simp)]
    cases l with
    | nil => exact trimL_other hx
    | cons y r => exact trimL_other (by rw [List.cons_append, List.all_cons, Bool.and_eq_true] at h; simpa using h.1)
  have hk : Lib.trimRightB (keyB sl ++ [32]) 32 = keyB sl := by cases sl <;> decide
  have hs := num_set sl (l ++ [x])
  generalize hT : l ++ [x] = T at *
  unfold lineStep
  rw [htr]
  cases sl
  · simp only [keyB, Bool.false_eq_true, if_false, List.cons_append, List.nil_append] at hs hk hcut ⊢
    rw [if_neg (by decide), if_neg (by decide), hcut]
    simp only [List.getLast?_singleton, List.dropLast_singleton, List.nil_append]
    rw [hk, hv, hs]
    split <;> rfl
  · simp only [keyB, if_true, List.cons_append, List.nil_append] at hs hk hcut ⊢
    rw [if_neg (by decide), if_neg (by decide), hcut]
    simp only [List.getLast?_singleton, List.dropLast_singleton, List.nil_append]
    rw [hk, hv, hs]
    split <;> rfl
theorem num_check (sl : Bool) (t : Bs) : checkMs [numM sl t] = (0, 0) := by
  cases sl <;> rfl
/-- What the reading comes to. -/
theorem num_parse (sl : Bool) (t : Bs) (h20 : t.length ≤ 20) (h1 : t.all (fun b => b != 32) = true) (h2 : t.all (fun b => b != 10) = true) :
    parse (numText sl t) = if okN sl t then (0, 0, [numM sl t]) else (130, 2, []) := by
  have hk : (keyB sl).length = 5 := by cases sl <;> rfl
  have hlen : ¬ 8192 < (numText sl t).length := by unfold numText; simp [hk]; omega
  have hsp : splitOn 10 (numText sl t) = [[91, 97, 93], [114, 111, 111, 116, 32, 61, 32, 114], keyB sl ++ [32, 61, 32] ++ t] := by
    have e1 := splitOn_sep 10 [91, 97, 93] ([114, 111, 111, 116, 32, 61, 32, 114] ++ 10 :: (keyB sl ++ [32, 61, 32] ++ t)) (by decide)
    have e2 := splitOn_sep 10 [114, 111, 111, 116, 32, 61, 32, 114] (keyB sl ++ [32, 61, 32] ++ t) (by decide)
    have e3 := splitOn_one 10 (keyB sl ++ [32, 61, 32] ++ t) (by rw [List.all_append, h2]; cases sl <;> decide)
    rw [e2, e3] at e1
    unfold numText
    rw [← e1]
    simp
  unfold parse
  rw [if_neg hlen, hsp]
  have hg : goLines 0 [[91, 97, 93], [114, 111, 111, 116, 32, 61, 32, 114], keyB sl ++ [32, 61, 32] ++ t] [] [] = if okN sl t then (0, 0, [numM sl t]) else (130, 2, []) := by
    unfold goLines
    rw [num_l0]
    simp only [if_true]
    unfold goLines
    rw [num_l1]
    simp only [if_true]
    unfold goLines
    rw [num_l2 sl t h1]
    cases okN sl t
    · simp
    · simp [goLines]
  rw [hg]
  cases okN sl t
  · simp
  · simp [num_check]

/-- The law's own reckoning: good, and the number. -/
def pre0 (t : Bs) : Bool := t != [] && decide (t.length ≤ 6) && (decide (t.head? ≠ some 48) || decide (t.length = 1))
theorem okN_of (sl : Bool) (t : Bs) : okN sl t = (pre0 t && t.all digitB && (if sl then decide (1 ≤ (valN 0 t : Int) ∧ (valN 0 t : Int) ≤ 16) else decide (0 ≤ (valN 0 t : Int) ∧ (valN 0 t : Int) ≤ 262144))) := by
  by_cases c : t ≠ [] ∧ t.length ≤ 6 ∧ (t.head? = some 48 → t.length = 1) ∧ t.all digitB = true
  · have hp : pre0 t = true := by
      unfold pre0
      obtain ⟨c1, c2, c3, _⟩ := c
      by_cases e : t.head? = some 48
      · simp [c1, c2, c3 e]
      · simp [c1, c2, e]
    unfold okN
    rw [numR_val c.1 c.2.1 c.2.2.1 c.2.2.2, hp, c.2.2.2]
    simp
  · have h0 : (pre0 t && t.all digitB) = false := by
      rw [Bool.eq_false_iff]
      intro h
      unfold pre0 at h
      simp only [Bool.and_eq_true, Bool.or_eq_true, decide_eq_true_eq, bne_iff_ne] at h
      exact c ⟨h.1.1.1, h.1.1.2, fun e => h.1.2.elim (fun x => absurd e x) id, h.2⟩
    unfold okN
    rw [numR_neg c, h0]
    cases sl <;> simp
theorem numR_of (t : Bs) (h : (pre0 t && t.all digitB) = true) : numR t = (valN 0 t : Int) := by
  unfold pre0 at h
  simp only [Bool.and_eq_true, Bool.or_eq_true, decide_eq_true_eq, bne_iff_ne] at h
  exact numR_val h.1.1.1 h.1.1.2 (fun e => h.1.2.elim (fun x => absurd e x) id) h.2
theorem valN_lt : ∀ (l : Bs), l.all digitB = true → valN 0 l < 10 ^ l.length := by
  have h7 : ∀ (l : Bs) (acc : Nat), l.all digitB = true → valN acc l + 1 ≤ (acc + 1) * 10 ^ l.length := by
    intro l
    induction l with
    | nil => intro acc _; rw [valN_nil]; simp
    | cons c l ih =>
      intro acc hh
      rw [List.all_cons, Bool.and_eq_true] at hh
      have hc := (digitB_iff c).1 hh.1
      have := ih (acc * 10 + (c.toNat - 48)) hh.2
      rw [valN_cons, List.length_cons, Nat.pow_succ]
      have h3 : (acc * 10 + (c.toNat - 48) + 1) * 10 ^ l.length ≤ ((acc + 1) * 10) * 10 ^ l.length := Nat.mul_le_mul_right _ (by omega)
      have h1 : (acc + 1) * (10 ^ l.length * 10) = ((acc + 1) * 10) * 10 ^ l.length := by rw [Nat.mul_comm (10 ^ l.length) 10, Nat.mul_assoc]
      omega
  intro l h
  have := h7 l 0 h
  omega
end Go.Proofs.YtkbamneecfmibaaGreatDoor.C
