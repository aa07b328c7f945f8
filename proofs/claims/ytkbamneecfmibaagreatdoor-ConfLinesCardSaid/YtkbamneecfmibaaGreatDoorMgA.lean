/- The document's answer for modules as a whole: what the printed 'wharfingerref13_Check.f' comes to. No program. Conditions: fewer than a million modules, roots shorter than 2^47. The document's answer for one line: what the printed small functions (trim, find, name, number, has, lines, path's Check) come to. No program. Conditions: texts shorter than a million. The document's answer for a path: what the printed 'wharfingerref09_Check.f' comes to. No program. Conditions: none but the text's length. The document's modules in memory; its small functions as contracts over lists of bytes; 'append' of a slice that is read. Conditions: texts shorter than a million. -/
import Derived.Test.YtkbamneecfmibaaGreatDoorPConfWritesx5
import Derived.Test.YtkbamneecfmibaaGreatDoorCheck
import Derived.Test.YtkbamneecfmibaaGreatDoorPConfWritesx6
import Derived.Test.YtkbamneecfmibaaGreatDoorPConfWritesx9
import Derived.Test.YtkbamneecfmibaaGreatDoorPConfWritesx10
import Derived.Test.YtkbamneecfmibaaGreatDoorOwn
import Derived.Laws.AppendOwnNone
import Derived.Deep.RegionLaw
import Derived.Deep.RegionHeld
namespace Go.Proofs.YtkbamneecfmibaaGreatDoor
open Go.RowKit
open C PConfWrites

def uOf (x : S83) : Usr := ⟨x.f0.data.toList, x.f1.data.toList⟩
def mOf (x : S45) : Mdl := ⟨x.f0.data.toList, x.f1.data.toList, x.f2, x.f3, x.f4, x.f5.map uOf⟩

theorem w64 (n : Int) (h : -9223372036854775808 ≤ n ∧ n ≤ 9223372036854775807) : wrap64 n = n := by unfold wrap64; omega
theorem prefix_take (a b : Bs) : (b.isPrefixOf a) = (decide (b.length ≤ a.length) && (a.take b.length == b)) := by
  rw [Bool.eq_iff_iff, List.isPrefixOf_iff_prefix, List.prefix_iff_eq_take]
  simp only [Bool.and_eq_true, decide_eq_true_eq, beq_iff_eq]
  constructor
  · intro h
    refine ⟨?_, h.symm⟩
    have := congrArg List.length h
    rw [List.length_take] at this
    omega
  · rintro ⟨_, h⟩
    exact h.symm
theorem begins_f (a b : ByteArray) : wharfingerref09_begins.f a b = some (b.data.toList.isPrefixOf a.data.toList) := by
  have ha : a.data.toList.length = a.size := Array.length_toList
  have hb : b.data.toList.length = b.size := Array.length_toList
  have e : ((a.extract 0 b.size).toList == b.toList) = (a.data.toList.take b.size == b.data.toList) := by
    rw [Lib.toList_data, Lib.toList_data, Lib.extract_eq]
    simp
  unfold wharfingerref09_begins.f
  rw [prefix_take, hb, ha]
  by_cases h : b.size ≤ a.size
  · rw [if_pos (by omega), if_pos (by omega), if_pos (by omega), Int.toNat_natCast, e, decide_eq_true h]
    rfl
  · rw [if_neg (by omega), decide_eq_false h]
    rfl
theorem refClash_f (a b : ByteArray) (ha : a.size ≤ 140737488355328) (hb : b.size ≤ 140737488355328) : wharfingerref09_Clash.f a b = some (clash a.data.toList b.data.toList) := by
  unfold wharfingerref09_Clash.f
  have e : (⟨#[47]⟩ : ByteArray).data.toList = [47] := rfl
  rw [if_pos (by omega), begins_f, Option.bind_some, append_data, e]
  unfold clash
  cases h : (b.data.toList ++ [47]).isPrefixOf a.data.toList
  · rw [if_neg (by decide), if_pos (by omega), begins_f, Option.bind_some, append_data, e]
    rfl
  · rw [if_pos rfl]
    rfl

abbrev Rm := S45
abbrev rdm := rd_T45
theorem rdm_at {l : List Rm} {i : Nat} (h : i < l.length) : rdm l (i : Int) = l[i] := by
  unfold rdm rd_T45
  rw [Int.toNat_natCast, List.getD_eq_getElem?_getD, List.getElem?_eq_getElem h]
  rfl
def hit (a b : Rm) : Bool := a.f1.data.toList == b.f1.data.toList || clash a.f1.data.toList b.f1.data.toList
theorem check_in (l : List Rm) (hl : l.length ≤ 1000000) (hs : ∀ x ∈ l, x.f1.size ≤ 140737488355328) (i : Nat) (hi : i < l.length) (k0 : Nat) (R : Int × Int) (h0 : wharfingerref13_Check.l0 k0 l ((i + 1 : Nat) : Int) = some R) :
    ∀ (d j : Nat), j + d = i → ∃ k, wharfingerref13_Check.l1 k l (i : Int) (j : Int) = some (if ((l.take i).drop j).any (fun x => hit x l[i]) then (90, (i : Int)) else R)
  | 0, j, hd => by
    refine ⟨k0 + 1, ?_⟩
    have e : (l.take i).drop j = [] := by rw [List.drop_eq_nil_iff, List.length_take]; omega
    rw [e]
    unfold wharfingerref13_Check.l1
    rw [if_neg (by omega), w64 _ (by omega)]
    exact h0
  | d + 1, j, hd => by
    have hj : j < i := by omega
    have hjl : j < l.length := by omega
    obtain ⟨k, hk⟩ := check_in l hl hs i hi k0 R h0 d (j + 1) (by omega)
    refine ⟨k + 1, ?_⟩
    have e : (l.take i).drop j = l[j] :: (l.take i).drop (j + 1) := by
      rw [List.drop_eq_getElem_cons (by rw [List.length_take]; omega), List.getElem_take]
    have r1 := rdm_at hjl
    have r2 := rdm_at hi
    unfold rdm at r1 r2
    unfold wharfingerref13_Check.l1
    rw [if_pos (by omega), if_pos (by omega), if_pos (by omega), if_pos (by omega), if_pos (by omega), r1, r2, e, List.any_cons, w64 _ (by omega), show ((j : Int) + 1) = ((j + 1 : Nat) : Int) from by omega, hk, Lib.toList_data, Lib.toList_data, refClash_f _ _ (hs _ (List.getElem_mem _)) (hs _ (List.getElem_mem _)), Option.bind_some]
    unfold hit
    by_cases c : l[j].f1.data.toList = l[i].f1.data.toList
    · rw [if_pos c]
      simp [c]
    · rw [if_neg c]
      have c2 : (l[j].f1.data.toList == l[i].f1.data.toList) = false := by simpa using c
      rw [c2, Bool.false_or]
      cases clash l[j].f1.data.toList l[i].f1.data.toList
      · simp
      · simp
theorem check_from (l : List Rm) (hl : l.length ≤ 1000000) (hs : ∀ x ∈ l, x.f1.size ≤ 140737488355328) :
    ∀ (d i : Nat), i + d = l.length → ∃ k, wharfingerref13_Check.l0 k l (i : Int) = some ((checkFrom i ((l.map mOf).take i) ((l.map mOf).drop i)).1, ((checkFrom i ((l.map mOf).take i) ((l.map mOf).drop i)).2 : Int))
  | 0, i, hd => by
    refine ⟨1, ?_⟩
    have e : i = (l.map mOf).length := by rw [List.length_map]; omega
    unfold wharfingerref13_Check.l0
    rw [if_neg (by omega)]
    conv => rhs; rw [e, check_end]
    rfl
  | d + 1, i, hd => by
    have hi : i < l.length := by omega
    obtain ⟨k0, h0⟩ := check_from l hl hs d (i + 1) (by omega)
    obtain ⟨k, hk⟩ := check_in l hl hs i hi k0 _ h0 i 0 (by omega)
    refine ⟨k + 1, ?_⟩
    have hm : (l.map mOf)[i]? = some (mOf l[i]) := by rw [List.getElem?_map, List.getElem?_eq_getElem hi]; rfl
    have r2 := rdm_at hi
    unfold rdm at r2
    rw [check_step hm]
    unfold wharfingerref13_Check.l0
    have ea : (((l.map mOf).take i).any fun x => x.root == (mOf l[i]).root || clash x.root (mOf l[i]).root) = (l.take i).any (fun x => hit x l[i]) := by
      rw [← List.map_take, List.any_map]
      rfl
    rw [if_pos (by omega), if_pos (by omega), r2, Lib.toList_data, ea]
    rw [List.drop_zero] at hk
    by_cases c : l[i].f1.data.toList = []
    · rw [if_pos c, if_pos (show (mOf l[i]).root = [] from c)]
    · rw [if_neg c, if_neg (show ¬ (mOf l[i]).root = [] from c)]
      have hk' : wharfingerref13_Check.l1 k l (i : Int) 0 = _ := hk
      rw [hk']
      split <;> rfl
theorem check_ref (l : List Rm) (hl : l.length ≤ 1000000) (hs : ∀ x ∈ l, x.f1.size ≤ 140737488355328) :
    ∃ k, wharfingerref13_Check.f k l = some ((checkMs (l.map mOf)).1, ((checkMs (l.map mOf)).2 : Int)) := by
  obtain ⟨k, hk⟩ := check_from l hl hs l.length 0 (by omega)
  exact ⟨k, hk⟩
end Go.Proofs.YtkbamneecfmibaaGreatDoor
namespace Go.Proofs.YtkbamneecfmibaaGreatDoor
open Go.RowKit
open C PConfWrites Go.Proofs.YtkbamneecfmibaaGreatDoorW.PrintWords

theorem bs_size (l : Bs) : (bs l).size = l.length := rfl
theorem bs_toList (l : Bs) : (bs l).toList = l := by rw [Lib.toList_data]; rfl
theorem bt_bs {l : Bs} {i : Nat} (h : i < l.length) : bt (bs l) (i : Int) = (l[i].toNat : Int) := by
  unfold bt
  rw [dif_pos (by rw [Int.toNat_natCast]; exact h)]
  rfl
theorem ext_bs (l : Bs) (a b : Nat) : (bs l).extract a b = bs ((l.drop a).take (b - a)) := Lib.extract_eq _ _ _
theorem drop_at {l : Bs} {i : Nat} (h : i < l.length) : l.drop i = l[i] :: l.drop (i + 1) := List.drop_eq_getElem_cons h
theorem bt_head (b : UInt8) (t : Bs) : bt (bs (b :: t)) 0 = (b.toNat : Int) := bt_bs (l := b :: t) (i := 0) (by simp)
theorem u8_eq {a b : UInt8} : ((a.toNat : Int) = (b.toNat : Int)) ↔ a = b := by
  constructor
  · intro h; exact UInt8.toNat_inj.1 (by omega)
  · rintro rfl; rfl

theorem find_lf (l : Bs) (hl : l.length ≤ 1000000) (c : UInt8) : ∀ (d i : Nat), i + d = l.length → ∃ k, wharfingerref13_find.l0 k (bs l) (c.toNat : Int) (i : Int) = some (match cut1 c (l.drop i) with | some p => ((i + p.1.length : Nat) : Int) | none => -1)
  | 0, i, hd => by
    refine ⟨1, ?_⟩
    unfold wharfingerref13_find.l0
    rw [if_neg (by rw [bs_size]; omega), List.drop_of_length_le (by omega)]
    rfl
  | d + 1, i, hd => by
    have hi : i < l.length := by omega
    obtain ⟨k, hk⟩ := find_lf l hl c d (i + 1) (by omega)
    refine ⟨k + 1, ?_⟩
    unfold wharfingerref13_find.l0
    rw [if_pos (by rw [bs_size]; omega), if_pos (by omega), bt_bs hi, drop_at hi, cut1_cons, w64 _ (by omega), show ((i : Int) + 1) = ((i + 1 : Nat) : Int) from by omega, hk]
    by_cases e : l[i] = c
    · rw [if_pos (u8_eq.2 e), if_pos (by simpa using e)]
      rfl
    · rw [if_neg (fun h => e (u8_eq.1 h)), if_neg (by simpa using e)]
      cases cut1 c (l.drop (i + 1)) with
      | none => rfl
      | some p =>
        show some ((i + 1 + p.1.length : Nat) : Int) = some ((i + (p.1.length + 1) : Nat) : Int)
        congr 2; omega
theorem find_f (l : Bs) (hl : l.length ≤ 1000000) (c : UInt8) : ∃ k, wharfingerref13_find.f k (bs l) (c.toNat : Int) = some (match cut1 c l with | some p => ((p.1.length : Nat) : Int) | none => -1) := by
  obtain ⟨k, hk⟩ := find_lf l hl c l.length 0 (by omega)
  refine ⟨k, ?_⟩
  unfold wharfingerref13_find.f
  rw [show (0 : Int) = ((0 : Nat) : Int) from rfl, hk, List.drop_zero]
  cases cut1 c l with
  | none => rfl
  | some p => simp

theorem trimR_cons (b c : UInt8) (t : Bs) : Lib.trimRightB (b :: t) c = if Lib.trimRightB t c = [] then (if b = c then [] else [b]) else b :: Lib.trimRightB t c := by
  unfold Lib.trimRightB
  rw [List.reverse_cons, List.dropWhile_append]
  by_cases h : t.reverse.dropWhile (· == c) = []
  · rw [h]
    by_cases e : b = c <;> simp [e]
  · have h2 : (t.reverse.dropWhile (· == c)).isEmpty = false := by simpa using h
    rw [h2]
    simp [h]
theorem trimL_cons (b c : UInt8) (t : Bs) : Lib.trimLeftB (b :: t) c = if b = c then Lib.trimLeftB t c else b :: t := by
  unfold Lib.trimLeftB
  rw [List.dropWhile_cons]
  by_cases e : b = c <;> simp [e]
theorem trim_comm (c : UInt8) : ∀ l : Bs, Lib.trimRightB (Lib.trimLeftB l c) c = Lib.trimLeftB (Lib.trimRightB l c) c
  | [] => rfl
  | b :: t => by
    have ih := trim_comm c t
    rw [trimL_cons, trimR_cons]
    by_cases e : b = c
    · rw [if_pos e, ih]
      by_cases h : Lib.trimRightB t c = []
      · rw [if_pos h, if_pos e, h]
      · rw [if_neg h, trimL_cons, if_pos e]
    · rw [if_neg e, trimR_cons]
      by_cases h : Lib.trimRightB t c = []
      · rw [if_pos h, if_neg e, trimL_cons, if_neg e]
      · rw [if_neg h, trimL_cons, if_neg e]
theorem trimR_snoc (b c : UInt8) (t : Bs) : Lib.trimRightB (t ++ [b]) c = if b = c then Lib.trimRightB t c else t ++ [b] := by
  unfold Lib.trimRightB
  rw [List.reverse_append, List.reverse_singleton, List.singleton_append, List.dropWhile_cons]
  by_cases e : b = c <;> simp [e]

theorem trim_l1 (c : UInt8) (hc : c = 32) : ∀ (n : Nat) (l : Bs), l.length = n → l.length ≤ 1000000 → ∃ k, wharfingerref13_trim.l1 k (bs l) = some (bs (Lib.trimRightB l c))
  | 0, l, hn, _ => by
    have : l = [] := List.eq_nil_of_length_eq_zero hn
    subst this
    refine ⟨1, ?_⟩
    unfold wharfingerref13_trim.l1
    rw [if_neg (by rw [bs_size]; simp)]
    rfl
  | n + 1, l, hn, hl => by
    have hne : l ≠ [] := by intro e; rw [e] at hn; simp at hn
    obtain ⟨t, b, rfl⟩ : ∃ t b, l = t ++ [b] := ⟨l.dropLast, l.getLast hne, (List.dropLast_concat_getLast hne).symm⟩
    have ht : t.length = n := by simpa using hn
    rw [List.length_append, List.length_singleton] at hl
    obtain ⟨k, hk⟩ := trim_l1 c hc n t ht (by omega)
    have hlen : (t ++ [b]).length = t.length + 1 := by simp
    refine ⟨k + 1, ?_⟩
    unfold wharfingerref13_trim.l1
    rw [bs_size, hlen, if_pos (by omega), w64 _ (by omega), show (((t.length + 1 : Nat) : Int) - 1) = ((t.length : Nat) : Int) from by omega, if_pos (by omega), if_pos (by omega), bt_bs (by rw [hlen]; omega), if_pos (c := (t.length : Int) ≤ ((t.length + 1 : Nat) : Int)) (by omega), Int.toNat_natCast, ext_bs, trimR_snoc]
    have e1 : (t ++ [b])[t.length]'(by rw [hlen]; omega) = b := by simp
    have e2 : ((t ++ [b]).drop 0).take (t.length - 0) = t := by simp
    rw [e1, e2, hk]
    subst hc
    by_cases e : b = 32
    · rw [if_pos (by rw [e]; rfl), if_pos e]
    · rw [if_neg (show ¬ ((b.toNat : Int) = 32) from fun h => e ((u8_eq (b := 32)).1 h)), if_neg e]
theorem trim_l0 : ∀ (n : Nat) (l : Bs), l.length = n → l.length ≤ 1000000 → ∃ k, wharfingerref13_trim.l0 k (bs l) = some (bs (trim l))
  | 0, l, hn, _ => by
    have : l = [] := List.eq_nil_of_length_eq_zero hn
    subst this
    exact ⟨3, rfl⟩
  | n + 1, l, hn, hl => by
    match l, hn with
    | b :: t, hn =>
      have ht : t.length = n := by simpa using hn
      have hlen : (b :: t).length = t.length + 1 := rfl
      rw [hlen] at hl
      by_cases e : b = 32
      · obtain ⟨k, hk⟩ := trim_l0 n t ht (by omega)
        refine ⟨k + 1, ?_⟩
        unfold wharfingerref13_trim.l0
        rw [bs_size, hlen, if_pos (by omega), if_pos (by omega), bt_head, if_pos (by subst e; rfl), if_pos (by omega), ext_bs, List.drop_one, List.tail_cons, List.take_of_length_le (by omega), hk]
        show _ = some (bs (Lib.trimB (b :: t) 32))
        unfold Lib.trimB trim Lib.trimB
        rw [← trim_comm, ← trim_comm, trimL_cons, if_pos e]
      · obtain ⟨k, hk⟩ := trim_l1 32 rfl _ (b :: t) rfl (by rw [hlen]; omega)
        refine ⟨k + 2, ?_⟩
        unfold wharfingerref13_trim.l0
        rw [bs_size, hlen, if_pos (by omega), if_pos (by omega), bt_head, if_neg (show ¬ ((b.toNat : Int) = 32) from fun h => e ((u8_eq (b := 32)).1 h))]
        show wharfingerref13_trim.l1 k (bs (b :: t)) = _
        rw [hk]
        show _ = some (bs (Lib.trimB (b :: t) 32))
        unfold Lib.trimB
        rw [← trim_comm, trimL_cons, if_neg e]
theorem trim_f (l : Bs) (hl : l.length ≤ 1000000) : ∃ k, wharfingerref13_trim.f k (bs l) = some (bs (trim l)) := trim_l0 _ l rfl hl

theorem name_lf (l : Bs) (hl : l.length ≤ 1000000) : ∀ (d i : Nat), i + d = l.length → ∃ k, wharfingerref13_name.l0 k (bs l) (i : Int) = some (if (l.drop i).all alnumB then (l != [] && decide (l.length ≤ 16)) else false)
  | 0, i, hd => by
    refine ⟨1, ?_⟩
    unfold wharfingerref13_name.l0
    rw [if_neg (by rw [bs_size]; omega), List.drop_of_length_le (by omega), bs_toList, bs_size]
    by_cases e : l = []
    · subst e; rfl
    · rw [if_neg e, List.all_nil, if_pos rfl, show (l != []) = true from by simpa using e, Bool.true_and]
      congr 1
      exact decide_eq_decide.2 (by omega)
  | d + 1, i, hd => by
    have hi : i < l.length := by omega
    obtain ⟨k, hk⟩ := name_lf l hl d (i + 1) (by omega)
    refine ⟨k + 1, ?_⟩
    unfold wharfingerref13_name.l0
    rw [if_pos (by rw [bs_size]; omega), if_pos (by omega), bt_bs hi, drop_at hi, List.all_cons, w64 _ (by omega), show ((i : Int) + 1) = ((i + 1 : Nat) : Int) from by omega, hk]
    have hr : (if (alnumB l[i] && (l.drop (i + 1)).all alnumB) = true then (l != [] && decide (l.length ≤ 16)) else false) = if alnumB l[i] = true then (if (l.drop (i + 1)).all alnumB = true then (l != [] && decide (l.length ≤ 16)) else false) else false := by
      cases alnumB l[i] <;> simp
    rw [hr]
    have ha : alnumB l[i] = true ↔ (97 ≤ (l[i].toNat : Int) ∧ (l[i].toNat : Int) ≤ 122) ∨ (65 ≤ (l[i].toNat : Int) ∧ (l[i].toNat : Int) ≤ 90) ∨ (48 ≤ (l[i].toNat : Int) ∧ (l[i].toNat : Int) ≤ 57) := by
      unfold alnumB inR
      simp only [Bool.or_eq_true, Bool.and_eq_true, decide_eq_true_eq]
      omega
    generalize (l[i].toNat : Int) = b at ha ⊢
    by_cases hA : alnumB l[i] = true
    · rw [if_pos hA]
      have hA := ha.1 hA
      repeat' split
      all_goals first | rfl | (exfalso; omega)
    · rw [if_neg hA]
      have hA : ¬ ((97 ≤ b ∧ b ≤ 122) ∨ (65 ≤ b ∧ b ≤ 90) ∨ (48 ≤ b ∧ b ≤ 57)) := fun h => hA (ha.2 h)
      repeat' split
      all_goals first | rfl | (exfalso; omega)
theorem name_f (l : Bs) (hl : l.length ≤ 1000000) : ∃ k, wharfingerref13_name.f k (bs l) = some (nameB l) := by
  obtain ⟨k, hk⟩ := name_lf l hl l.length 0 (by omega)
  refine ⟨k, ?_⟩
  unfold wharfingerref13_name.f
  rw [show (0 : Int) = ((0 : Nat) : Int) from rfl, hk, List.drop_zero]
  unfold nameB
  cases l.all alnumB <;> simp

/-- What number's loop comes to from place i on. -/
def numFrom (n : Int) (l : Bs) : Int := if l.all digitB then l.foldl (fun (n : Int) b => n * 10 + ((b.toNat : Int) - 48)) n else -1
theorem num_lf (l : Bs) (hl : l.length ≤ 6) : ∀ (d i n : Nat), i + d = l.length → n < 10 ^ i → ∃ k, wharfingerref13_number.l0 k (bs l) (n : Int) (i : Int) = some (numFrom (n : Int) (l.drop i))
  | 0, i, n, hd, _ => by
    refine ⟨1, ?_⟩
    unfold wharfingerref13_number.l0
    rw [if_neg (by rw [bs_size]; omega), List.drop_of_length_le (by omega)]
    rfl
  | d + 1, i, n, hd, hb => by
    have hi : i < l.length := by omega
    have hp : 10 ^ i ≤ 10 ^ 6 := Nat.pow_le_pow_right (by omega) (by omega)
    by_cases hg : 48 ≤ l[i].toNat ∧ l[i].toNat ≤ 57
    · obtain ⟨k, hk⟩ := num_lf l hl d (i + 1) (n * 10 + (l[i].toNat - 48)) (by omega) (by rw [Nat.pow_succ]; omega)
      refine ⟨k + 1, ?_⟩
      unfold wharfingerref13_number.l0
      rw [if_pos (by rw [bs_size]; omega), if_pos (by omega), bt_bs hi, if_neg (by omega), if_neg (by omega), w64 ((n : Int) * 10) (by omega), Int.emod_eq_of_lt (by omega) (by omega), w64 _ (by omega), w64 _ (by omega), show (n : Int) * 10 + ((l[i].toNat : Int) - 48) = ((n * 10 + (l[i].toNat - 48) : Nat) : Int) from by omega, show ((i : Int) + 1) = ((i + 1 : Nat) : Int) from by omega, hk, drop_at hi]
      unfold numFrom
      rw [List.all_cons, (digitB_iff _).2 hg, Bool.true_and, List.foldl_cons, show (n : Int) * 10 + ((l[i].toNat : Int) - 48) = ((n * 10 + (l[i].toNat - 48) : Nat) : Int) from by omega]
    · refine ⟨1, ?_⟩
      have hf : digitB l[i] = false := by
        rw [Bool.eq_false_iff]
        exact fun h => hg ((digitB_iff _).1 h)
      unfold wharfingerref13_number.l0
      rw [if_pos (by rw [bs_size]; omega), if_pos (by omega), bt_bs hi, drop_at hi]
      unfold numFrom
      rw [List.all_cons, hf, Bool.false_and, if_neg (show ¬ (false = true) from by simp)]
      by_cases h1 : (l[i].toNat : Int) < 48
      · rw [if_pos h1]
      · rw [if_neg h1, if_pos (by omega)]
theorem number_f (l : Bs) (hl : l.length ≤ 1000000) : ∃ k, wharfingerref13_number.f k (bs l) = some (numR l) := by
  by_cases h0 : l = []
  · subst h0
    refine ⟨1, ?_⟩
    unfold wharfingerref13_number.f
    rw [bs_toList, if_pos rfl]
    rfl
  · by_cases h6 : 6 < l.length
    · refine ⟨1, ?_⟩
      unfold wharfingerref13_number.f numR
      rw [bs_toList, bs_size, if_neg h0, if_pos (by omega), if_pos (.inr (.inl h6))]
      rfl
    · match l, h0 with
      | b :: t, _ =>
        have hlen : (b :: t).length = t.length + 1 := rfl
        have hne : ¬ (b :: t = []) := by simp
        by_cases hz : b = 48
        · by_cases h1 : 1 < (b :: t).length
          · refine ⟨1, ?_⟩
            unfold wharfingerref13_number.f numR
            rw [bs_toList, bs_size, if_neg hne, if_neg (by omega), if_pos (by omega), bt_head, if_pos (by rw [hz]; rfl), if_pos (.inr (.inr ⟨by rw [hz]; rfl, h1⟩)), decide_eq_true (by omega)]
            rfl
          · obtain ⟨k, hk⟩ := num_lf (b :: t) (by omega) (b :: t).length 0 0 (by omega) (by decide)
            have hn : ¬ (b :: t = [] ∨ 6 < (b :: t).length ∨ ((b :: t).head? = some 48 ∧ 1 < (b :: t).length)) := by
              rintro (h | h | ⟨_, h⟩)
              · exact hne h
              · omega
              · omega
            refine ⟨k + 1, ?_⟩
            unfold wharfingerref13_number.f numR
            rw [bs_toList, bs_size, if_neg hne, if_neg (by omega), if_pos (by omega), bt_head, if_pos (by rw [hz]; rfl), if_neg hn, decide_eq_false (by omega)]
            exact hk
        · obtain ⟨k, hk⟩ := num_lf (b :: t) (by omega) (b :: t).length 0 0 (by omega) (by decide)
          have hn : ¬ (b :: t = [] ∨ 6 < (b :: t).length ∨ ((b :: t).head? = some 48 ∧ 1 < (b :: t).length)) := by
            rintro (h | h | ⟨h, _⟩)
            · exact hne h
            · omega
            · exact hz (by simpa using h)
          refine ⟨k + 1, ?_⟩
          unfold wharfingerref13_number.f numR
          rw [bs_toList, bs_size, if_neg hne, if_neg (by omega), if_pos (by omega), bt_head, if_neg (show ¬ ((b.toNat : Int) = 48) from fun h => hz ((u8_eq (b := 48)).1 h)), if_neg hn]
          exact hk

/-- A string list, as 'has' goes through it. -/
theorem rdOf_at {L : List ByteArray} {i : Nat} (h : i < L.length) : rdOf ByteArray.empty L (i : Int) = L[i] := by
  unfold rdOf
  rw [Int.toNat_natCast, List.getD_eq_getElem?_getD, List.getElem?_eq_getElem h]
  rfl
theorem has_lf (L : List Bs) (s : Bs) (hl : L.length ≤ 1000000) : ∀ (d i : Nat), i + d = L.length → ∃ k, wharfingerref13_has.l0 k (L.map bs) (bs s) (i : Int) = some ((L.drop i).contains s)
  | 0, i, hd => by
    refine ⟨1, ?_⟩
    unfold wharfingerref13_has.l0
    rw [if_neg (by rw [List.length_map]; omega), List.drop_of_length_le (by omega)]
    rfl
  | d + 1, i, hd => by
    have hi : i < L.length := by omega
    obtain ⟨k, hk⟩ := has_lf L s hl d (i + 1) (by omega)
    refine ⟨k + 1, ?_⟩
    unfold wharfingerref13_has.l0
    rw [if_pos (by rw [List.length_map]; omega), if_pos (by omega), rdOf_at (by rw [List.length_map]; exact hi), List.getElem_map, bs_toList, bs_toList, w64 _ (by omega), show ((i : Int) + 1) = ((i + 1 : Nat) : Int) from by omega, hk, List.drop_eq_getElem_cons hi, List.contains_cons]
    by_cases e : L[i] = s
    · rw [if_pos e, show (s == L[i]) = true from by rw [e]; simp, Bool.true_or]
    · rw [if_neg e, show (s == L[i]) = false from by simpa using fun h => e h.symm, Bool.false_or]
theorem has_f (L : List Bs) (s : Bs) (hl : L.length ≤ 1000000) : ∃ k, wharfingerref13_has.f k (L.map bs) (bs s) = some (L.contains s) := has_lf L s hl L.length 0 (by omega)

theorem splitOn_head (c : UInt8) (pre : Bs) (hp : ∀ b ∈ pre, b ≠ c) (r : Bs) : splitOn c (pre ++ r) = match splitOn c r with | h :: t => (pre ++ h) :: t | [] => [pre] := by
  induction pre with
  | nil =>
    cases h : splitOn c r with
    | nil => exact absurd h (splitOn_ne c r)
    | cons a t => simp [h]
  | cons b pre ih =>
    rw [List.cons_append, splitOn_cons, if_neg (by simpa using hp b (by simp)), ih (fun x hx => hp x (by simp [hx]))]
    cases h : splitOn c r with
    | nil => rfl
    | cons a t => rfl
theorem lines_lf (l : Bs) (hl : l.length ≤ 1000000) : ∀ (d i j : Nat) (acc : List ByteArray), i + d = l.length → j ≤ i → acc.length ≤ i → (∀ b ∈ (l.drop j).take (i - j), b ≠ 10) → ∃ k, wharfingerref13_lines.l0 k (bs l) acc (j : Int) (i : Int) = some (acc ++ (splitOn 10 (l.drop j)).map bs)
  | 0, i, j, acc, hd, hj, ha, hp => by
    refine ⟨1, ?_⟩
    have e : splitOn 10 (l.drop j) = [l.drop j] := by
      have := splitOn_head 10 (l.drop j) (fun b hb => hp b (by rw [List.take_of_length_le (by rw [List.length_drop]; omega)]; exact hb)) []
      rw [List.append_nil] at this
      rw [this]
      simp [splitOn]
    unfold wharfingerref13_lines.l0
    rw [if_neg (by rw [bs_size]; omega), if_pos (by omega), if_pos (by rw [bs_size]; omega), if_pos (by omega), Int.toNat_natCast, bs_size, ext_bs, List.take_of_length_le (by rw [List.length_drop]; omega), e]
    rfl
  | d + 1, i, j, acc, hd, hj, ha, hp => by
    have hi : i < l.length := by omega
    by_cases e : l[i] = 10
    · have hs : l.drop j = (l.drop j).take (i - j) ++ 10 :: l.drop (i + 1) := by
        have h1 : (l.drop j).drop (i - j) = 10 :: l.drop (i + 1) := by
          rw [List.drop_drop, show j + (i - j) = i from by omega, drop_at hi, e]
        rw [← h1, List.take_append_drop]
      have hx := ext_bs l j i
      generalize (l.drop j).take (i - j) = X at hs hx hp
      obtain ⟨k, hk⟩ := lines_lf l hl d (i + 1) (i + 1) (acc ++ [bs X]) (by omega) (by omega) (by simp; omega) (by simp)
      refine ⟨k + 1, ?_⟩
      unfold wharfingerref13_lines.l0
      rw [if_pos (by rw [bs_size]; omega), if_pos (by omega), bt_bs hi, if_pos (by rw [e]; rfl), if_pos (by omega), if_pos (by omega), if_pos (by rw [bs_size]; omega), if_pos (by omega), Int.toNat_natCast, Int.toNat_natCast, hx, w64 _ (by omega), show ((i : Int) + 1) = ((i + 1 : Nat) : Int) from by omega, hk, hs, splitOn_head 10 X hp, splitOn_cons, if_pos (by simp)]
      simp
    · have ht : (l.drop j).take (i + 1 - j) = (l.drop j).take (i - j) ++ [l[i]] := by
        rw [show i + 1 - j = (i - j) + 1 from by omega, List.take_add_one, List.getElem?_drop, show j + (i - j) = i from by omega, List.getElem?_eq_getElem hi]
        rfl
      obtain ⟨k, hk⟩ := lines_lf l hl d (i + 1) j acc (by omega) (by omega) (by omega) (by
        intro b hb
        rw [ht] at hb
        rcases List.mem_append.1 hb with hb | hb
        · exact hp b hb
        · rw [List.mem_singleton] at hb
          rw [hb]; exact e)
      refine ⟨k + 1, ?_⟩
      unfold wharfingerref13_lines.l0
      rw [if_pos (by rw [bs_size]; omega), if_pos (by omega), bt_bs hi, if_neg (show ¬ ((l[i].toNat : Int) = 10) from fun h => e ((u8_eq (b := 10)).1 h)), w64 _ (by omega), show ((i : Int) + 1) = ((i + 1 : Nat) : Int) from by omega, hk]
theorem lines_f (l : Bs) (hl : l.length ≤ 1000000) : ∃ k, wharfingerref13_lines.f k (bs l) = some ((splitOn 10 l).map bs) := by
  obtain ⟨k, hk⟩ := lines_lf l hl l.length 0 0 [] (by omega) (by omega) (by simp) (by simp)
  exact ⟨k, by rw [List.drop_zero] at hk; exact hk⟩

/-! ### a path's Check -/
theorem sign_f (b : UInt8) : wharfingerref09_sign.f (b.toNat : Int) = some (signB b) := by
  have h0 := UInt8.toNat_lt b
  have e1 : (b == 95) = decide ((b.toNat : Int) = 95) := by rw [Bool.eq_iff_iff, beq_iff_eq, decide_eq_true_eq]; exact (u8_eq (b := 95)).symm
  have e2 : (b == 45) = decide ((b.toNat : Int) = 45) := by rw [Bool.eq_iff_iff, beq_iff_eq, decide_eq_true_eq]; exact (u8_eq (b := 45)).symm
  have e3 : (b == 46) = ((b.toNat : Int) == 46) := by rw [Bool.eq_iff_iff, beq_iff_eq, beq_iff_eq]; exact (u8_eq (b := 46)).symm
  have e4 : (decide (97 ≤ b.toNat) && decide (b.toNat ≤ 122)) = decide (97 ≤ (b.toNat : Int) ∧ (b.toNat : Int) ≤ 122) := by rw [Bool.eq_iff_iff, Bool.and_eq_true, decide_eq_true_eq, decide_eq_true_eq, decide_eq_true_eq]; omega
  have e5 : (decide (48 ≤ b.toNat) && decide (b.toNat ≤ 57)) = decide (48 ≤ (b.toNat : Int) ∧ (b.toNat : Int) ≤ 57) := by rw [Bool.eq_iff_iff, Bool.and_eq_true, decide_eq_true_eq, decide_eq_true_eq, decide_eq_true_eq]; omega
  unfold wharfingerref09_sign.f signB inR
  rw [e1, e2, e3, e4, e5]
  generalize (b.toNat : Int) = n at *
  repeat' split
  all_goals (congr 1; simp; omega)
theorem seg_lf (l : Bs) (hl : l.length ≤ 1000000) (j : Nat) : ∀ (d i : Nat), i + d = l.length → j ≤ i → (∀ b ∈ (l.drop j).take (i - j), b ≠ 47) → ∃ k, wharfingerref09_segment.l0 k (bs l) (j : Int) (i : Int) = some (bs ((splitOn 47 (l.drop j)).headD []))
  | 0, i, hd, hj, hp => by
    refine ⟨1, ?_⟩
    have e : splitOn 47 (l.drop j) = [l.drop j] := by
      have := splitOn_head 47 (l.drop j) (fun b hb => hp b (by rw [List.take_of_length_le (by rw [List.length_drop]; omega)]; exact hb)) []
      rw [List.append_nil] at this
      rw [this]
      simp [splitOn]
    unfold wharfingerref09_segment.l0
    rw [if_neg (by rw [bs_size]; omega), if_pos (by omega), if_pos (by omega), if_pos (by rw [bs_size]; omega), Int.toNat_natCast, Int.toNat_natCast, ext_bs, List.take_of_length_le (by rw [List.length_drop]; omega), e]
    rfl
  | d + 1, i, hd, hj, hp => by
    have hi : i < l.length := by omega
    by_cases e : l[i] = 47
    · have hs : l.drop j = (l.drop j).take (i - j) ++ 47 :: l.drop (i + 1) := by
        have h1 : (l.drop j).drop (i - j) = 47 :: l.drop (i + 1) := by
          rw [List.drop_drop, show j + (i - j) = i from by omega, drop_at hi, e]
        rw [← h1, List.take_append_drop]
      have hx := ext_bs l j i
      generalize (l.drop j).take (i - j) = X at hs hx hp
      refine ⟨1, ?_⟩
      unfold wharfingerref09_segment.l0
      rw [if_pos (by rw [bs_size]; omega), if_pos (by omega), bt_bs hi, if_pos (by rw [e]; rfl), if_pos (by omega), if_pos (by omega), if_pos (by rw [bs_size]; omega), Int.toNat_natCast, Int.toNat_natCast, hx, hs, splitOn_head 47 X hp, splitOn_cons, if_pos (by simp)]
      simp
    · have ht : (l.drop j).take (i + 1 - j) = (l.drop j).take (i - j) ++ [l[i]] := by
        rw [show i + 1 - j = (i - j) + 1 from by omega, List.take_add_one, List.getElem?_drop, show j + (i - j) = i from by omega, List.getElem?_eq_getElem hi]
        rfl
      obtain ⟨k, hk⟩ := seg_lf l hl j d (i + 1) (by omega) (by omega) (by
        intro b hb
        rw [ht] at hb
        rcases List.mem_append.1 hb with hb | hb
        · exact hp b hb
        · rw [List.mem_singleton] at hb
          rw [hb]; exact e)
      refine ⟨k + 1, ?_⟩
      unfold wharfingerref09_segment.l0
      rw [if_pos (by rw [bs_size]; omega), if_pos (by omega), bt_bs hi, if_neg (show ¬ ((l[i].toNat : Int) = 47) from fun h => e ((u8_eq (b := 47)).1 h)), w64 _ (by omega), show ((i : Int) + 1) = ((i + 1 : Nat) : Int) from by omega, hk]
theorem seg_f (l : Bs) (hl : l.length ≤ 1000000) (j : Nat) (hj : j ≤ l.length) : ∃ k, wharfingerref09_segment.f k (bs l) (j : Int) = some (bs ((splitOn 47 (l.drop j)).headD [])) := seg_lf l hl j (l.length - j) j (by omega) (Nat.le_refl _) (by simp)
end Go.Proofs.YtkbamneecfmibaaGreatDoor
namespace Go.Proofs.YtkbamneecfmibaaGreatDoor
open Go.RowKit
open C PConfWrites Go.Proofs.YtkbamneecfmibaaGreatDoorW.PrintWords

theorem iteI {p q : Prop} [Decidable p] [Decidable q] (h : p ↔ q) : (if p then (0 : Int) else 1) = if q then 0 else 1 := by simp [h]
theorem sgn_lf (l p : Bs) (hl : l.length ≤ 1000000) (hp : p.length ≤ 1000000) (j n : Nat) (hj : j ≤ 1000000) (hn : n ≤ 1000000) (R : Int × Int) (k0 : Nat) (h0 : wharfingerref09_Check.l0 k0 (bs l) ((j + (p.length + 1) : Nat) : Int) ((n + 1 : Nat) : Int) = some R) :
    ∀ (d i : Nat), i + d = p.length → ∃ k r, wharfingerref09_Check.l1 k (bs l) (j : Int) (n : Int) (bs p) (i : Int) = some (if (p.drop i).all signB then R else (1, r))
  | 0, i, hd => by
    refine ⟨k0 + 1, 0, ?_⟩
    unfold wharfingerref09_Check.l1
    rw [if_neg (by rw [bs_size]; omega), List.drop_of_length_le (by omega), bs_size, w64 ((p.length : Int) + 1) (by omega), w64 _ (by omega), w64 _ (by omega), show (j : Int) + ((p.length : Int) + 1) = ((j + (p.length + 1) : Nat) : Int) from by omega, show (n : Int) + 1 = ((n + 1 : Nat) : Int) from by omega, h0]
    rfl
  | d + 1, i, hd => by
    have hi : i < p.length := by omega
    obtain ⟨k, r, hk⟩ := sgn_lf l p hl hp j n hj hn R k0 h0 d (i + 1) (by omega)
    cases hs : signB p[i] with
    | true =>
      refine ⟨k + 1, r, ?_⟩
      unfold wharfingerref09_Check.l1
      rw [if_pos (by rw [bs_size]; omega), if_pos (by omega), bt_bs hi, sign_f, Option.bind_some, hs, if_pos rfl, drop_at hi, List.all_cons, hs, Bool.true_and, w64 _ (by omega), show ((i : Int) + 1) = ((i + 1 : Nat) : Int) from by omega, hk]
    | false =>
      refine ⟨1, wrap64 ((j : Int) + (i : Int)), ?_⟩
      unfold wharfingerref09_Check.l1
      rw [if_pos (by rw [bs_size]; omega), if_pos (by omega), bt_bs hi, sign_f, Option.bind_some, hs, if_neg (by decide), drop_at hi, List.all_cons, hs, Bool.false_and, if_neg (by decide)]
theorem pchk_lf (l : Bs) (hl : l.length ≤ 64) : ∀ (d j n : Nat), l.length - j ≤ d → j ≤ l.length → n ≤ 6 → ∃ k r, wharfingerref09_Check.l0 k (bs l) (j : Int) (n : Int) = some ((if n + (splitOn 47 (l.drop j)).length ≤ 6 ∧ (splitOn 47 (l.drop j)).all segOk = true then 0 else 1), r) := by
  intro d
  induction d with
  | zero =>
    intro j n hd hj hn
    have hjl : j = l.length := by omega
    have e : l.drop j = [] := List.drop_of_length_le (by omega)
    obtain ⟨k, hk⟩ := seg_f l (by omega) j hj
    rw [e] at hk ⊢
    have e2 : splitOn 47 ([] : Bs) = [[]] := rfl
    rw [e2] at hk ⊢
    refine ⟨k + 2, (j : Int), ?_⟩
    unfold wharfingerref09_Check.l0
    rw [if_pos (by rw [bs_size]; omega), at_rounds (wharfingerref09_segment.mono _ _) (by omega : k ≤ k + 1) hk, Option.bind_some]
    have hno : ¬ (n + [([] : Bs)].length ≤ 6 ∧ [([] : Bs)].all segOk = true) := by
      rintro ⟨_, h⟩
      exact absurd h (by decide)
    rw [if_neg hno]
    by_cases h6 : (n : Int) = 6
    · rw [if_pos h6]
      unfold wharfingerref09_Check.j1
      rw [if_pos rfl]
    · rw [if_neg h6, List.headD_cons, bs_toList, if_pos rfl]
      unfold wharfingerref09_Check.j1
      rw [if_pos rfl]
  | succ d ih =>
    intro j n hd hj hn
    obtain ⟨k, hk⟩ := seg_f l (by omega) j hj
    obtain ⟨p, t, hpt⟩ : ∃ p t, splitOn 47 (l.drop j) = p :: t := by
      cases h : splitOn 47 (l.drop j) with
      | nil => exact absurd h (splitOn_ne _ _)
      | cons p t => exact ⟨p, t, rfl⟩
    have hcut := splitOn_cut 47 (l.drop j)
    have hrest : p.length ≤ 64 ∧ ∃ k0 r, wharfingerref09_Check.l0 k0 (bs l) ((j + (p.length + 1) : Nat) : Int) ((n + 1 : Nat) : Int) = some ((if n = 6 then (if t = [] then 0 else (if n + 1 + t.length ≤ 6 ∧ t.all segOk = true then 0 else 1)) else (if n + 1 + t.length ≤ 6 ∧ t.all segOk = true then 0 else 1)), r) ∨ n = 6 := by
      cases hc : cut1 47 (l.drop j) with
      | none =>
        rw [hc, hpt] at hcut
        simp only [List.cons.injEq] at hcut
        obtain ⟨rfl, rfl⟩ := hcut
        refine ⟨by rw [List.length_drop]; omega, 1, 0, .inl ?_⟩
        unfold wharfingerref09_Check.l0
        rw [if_neg (by rw [bs_size, List.length_drop]; omega)]
        by_cases h6 : n = 6
        · rw [if_pos h6, if_pos rfl]
        · rw [if_neg h6, if_pos ⟨by simp; omega, rfl⟩]
      | some q =>
        obtain ⟨x, y⟩ := q
        rw [hc, hpt] at hcut
        simp only [List.cons.injEq] at hcut
        obtain ⟨rfl, rfl⟩ := hcut
        obtain ⟨_, hl2⟩ := cut1_some hc
        have hlen := congrArg List.length hl2
        rw [List.length_drop, List.length_append, List.length_cons] at hlen
        have hy : y = l.drop (j + (p.length + 1)) := by
          have := congrArg (List.drop (p.length + 1)) hl2
          rw [List.drop_drop] at this
          rw [this]
          simp
        by_cases h6 : n = 6
        · exact ⟨by omega, 0, 0, .inr h6⟩
        · obtain ⟨k0, r, h0⟩ := ih (j + (p.length + 1)) (n + 1) (by omega) (by omega) (by omega)
          refine ⟨by omega, k0, r, .inl ?_⟩
          rw [h0, if_neg h6, hy]
    obtain ⟨hpl, k0, r0, h0⟩ := hrest
    rw [hpt, List.headD_cons] at hk
    rw [hpt]
    have hall : ((p :: t).all segOk = true) ↔ (segOk p = true ∧ t.all segOk = true) := by rw [List.all_cons, Bool.and_eq_true]
    have hlen : (p :: t).length = t.length + 1 := rfl
    have hbad : (n = 6 ∨ p = [] ∨ p = [46] ∨ p = [46, 46] ∨ 16 < p.length) → ∃ k r, wharfingerref09_Check.l0 k (bs l) (j : Int) (n : Int) = some ((if n + (p :: t).length ≤ 6 ∧ (p :: t).all segOk = true then 0 else 1), r) := by
      intro hb
      have hno : ¬ (n + (p :: t).length ≤ 6 ∧ (p :: t).all segOk = true) := by
        rintro ⟨h1, h2⟩
        have h3 := (hall.1 h2).1
        unfold segOk at h3
        simp only [Bool.and_eq_true, bne_iff_ne, decide_eq_true_eq] at h3
        rcases hb with h | h | h | h | h
        · omega
        · exact h3.1.1.1.1 h
        · exact h3.1.1.1.2 h
        · exact h3.1.1.2 h
        · omega
      rw [if_neg hno]
      have hj1 : ∀ k, wharfingerref09_Check.j1 (k + 1) (bs l) (j : Int) (n : Int) (bs p) true = some (1, (j : Int)) := by
        intro k
        unfold wharfingerref09_Check.j1
        rw [if_pos rfl]
      refine ⟨k + 2, (j : Int), ?_⟩
      unfold wharfingerref09_Check.l0
      rw [if_pos (by rw [bs_size]; omega), at_rounds (wharfingerref09_segment.mono _ _) (by omega : k ≤ k + 1) hk, Option.bind_some, bs_toList, bs_size]
      by_cases c1 : (n : Int) = 6
      · rw [if_pos c1]; exact hj1 k
      · rw [if_neg c1]
        by_cases c2 : p = []
        · rw [if_pos c2]; exact hj1 k
        · rw [if_neg c2]
          by_cases c3 : p = [46]
          · rw [if_pos c3]; exact hj1 k
          · rw [if_neg c3]
            by_cases c4 : p = [46, 46]
            · rw [if_pos c4]; exact hj1 k
            · rw [if_neg c4, decide_eq_true (by rcases hb with h | h | h | h | h <;> first | omega | exact absurd h c2 | exact absurd h c3 | exact absurd h c4)]
              exact hj1 k
    by_cases hb : n = 6 ∨ p = [] ∨ p = [46] ∨ p = [46, 46] ∨ 16 < p.length
    · exact hbad hb
    · simp only [not_or] at hb
      obtain ⟨b1, b2, b3, b4, b5⟩ := hb
      rcases h0 with h0 | h0
      · rw [if_neg b1] at h0
        obtain ⟨k1, r1, h1⟩ := sgn_lf l p (by omega) (by omega) j n (by omega) (by omega) _ k0 h0 p.length 0 (by omega)
        rw [List.drop_zero] at h1
        have hseg : segOk p = p.all signB := by
          unfold segOk
          rw [show (p != []) = true from by simpa using b2, show (p != [46]) = true from by simpa using b3, show (p != [46, 46]) = true from by simpa using b4, decide_eq_true (by omega)]
          simp
        refine ⟨max k k1 + 2, (if p.all signB then r0 else r1), ?_⟩
        unfold wharfingerref09_Check.l0
        rw [if_pos (by rw [bs_size]; omega), at_rounds (wharfingerref09_segment.mono _ _) (by omega : k ≤ max k k1 + 1) hk, Option.bind_some, bs_toList, bs_size, if_neg (by omega), if_neg b2, if_neg b3, if_neg b4, decide_eq_false (by omega)]
        unfold wharfingerref09_Check.j1
        rw [if_neg (by decide)]
        have h2 := at_rounds (g := fun k => wharfingerref09_Check.l1 k (bs l) (j : Int) (n : Int) (bs p) 0) (fun k => (wharfingerref09_Check.mono_l k).2.2 _ _ _ _ _) (by omega : k1 ≤ max k k1) h1
        have h2' : wharfingerref09_Check.l1 (max k k1) (bs l) (j : Int) (n : Int) (bs p) 0 = _ := h2
        rw [h2', List.all_cons, hseg, hlen]
        cases p.all signB with
        | true => simp only [if_true, Bool.true_and]; congr 2; exact iteI (by rw [show n + (t.length + 1) = n + 1 + t.length from by omega])
        | false => simp
      · exact absurd h0 b1
theorem pathCheck_f (l : Bs) : ∃ k r, wharfingerref09_Check.f k (bs l) = some ((if pathOk l then 0 else 1), r) := by
  unfold pathOk
  by_cases h0 : l = []
  · refine ⟨0, 0, ?_⟩
    unfold wharfingerref09_Check.f
    rw [bs_toList, if_pos h0]
    simp [h0]
  · by_cases h64 : 64 < l.length
    · refine ⟨0, 64, ?_⟩
      unfold wharfingerref09_Check.f
      rw [bs_toList, bs_size, if_neg h0, if_pos (by omega), decide_eq_false (by omega)]
      simp
    · obtain ⟨k, r, hk⟩ := pchk_lf l (by omega) l.length 0 0 (by omega) (by omega) (by omega)
      refine ⟨k, r, ?_⟩
      unfold wharfingerref09_Check.f
      rw [bs_toList, bs_size, if_neg h0, if_neg (by omega)]
      rw [List.drop_zero, Nat.zero_add] at hk
      refine Eq.trans hk ?_
      congr 2
      refine iteI ?_
      have : l.length ≤ 64 := by omega
      simp [h0, this]
end Go.Proofs.YtkbamneecfmibaaGreatDoor
namespace Go.Proofs.YtkbamneecfmibaaGreatDoor
open Go.RowKit
open C PConfWrites Go.Proofs.YtkbamneecfmibaaGreatDoorW.PrintWords

theorem addr_add' (g o i : Nat) : (⟨g, o, none⟩ : Addr).add i = ⟨g, o + i, none⟩ := by
  unfold Addr.add
  by_cases h : i = 0 <;> simp [h]
/-- A slice of n elements of so many cells, to be read: nil, or these cells. -/
def Flat (w : World) (v : Value) (size n : Nat) (xs : List Value) : Prop :=
  xs.length = n * size ∧ ((v = .slice none 0 0 ∧ n = 0) ∨ ∃ g o c, v = .slice (some ⟨g, o, none⟩) n c ∧ n ≤ c ∧ c ≤ maxLen ∧ ∀ (j : Nat) (u : Value), xs[j]? = some u → w.cell? ⟨g, o + j, none⟩ = some u)
theorem Flat.below {w w1 : World} {v : Value} {size n : Nat} {xs : List Value} (h : Flat w v size n xs) (hb : Below w.heap.size w w1) : Flat w1 v size n xs := by
  refine ⟨h.1, h.2.imp_right fun ⟨g, o, c, hv, h1, h2, h3⟩ => ⟨g, o, c, hv, h1, h2, fun j u hu => Below.cell_some hb (Nat.le_refl _) (h3 j u hu)⟩⟩
theorem Flat.of_own {w : World} {B : Nat} {e : TypeId} {size n : Nat} {v : Value} {xs : List Value} (h : w.ownsRow B e size v n xs) : Flat w v size n xs := by
  refine ⟨h.1, ?_⟩
  rcases id h.2 with h0 | ⟨g, cap, cur, rfl, _, _, hn, hm, _, _⟩
  · exact .inl h0
  · refine .inr ⟨g, 0, cap, rfl, hn, hm, fun j u hu => ?_⟩
    have hj := (List.getElem?_eq_some_iff.1 hu).1
    rw [Nat.zero_add, h.cellAt _ (by rw [h.1] at hj; exact hj)]
    exact hu
theorem Flat.take {w : World} {g o n c size m : Nat} {xs : List Value} (h : Flat w (.slice (some ⟨g, o, none⟩) n c) size n xs) (hm : m ≤ n) : Flat w (.slice (some ⟨g, o, none⟩) m c) size m (xs.take (m * size)) := by
  obtain ⟨h1, h2⟩ := h
  refine ⟨by rw [List.length_take, h1]; exact Nat.min_eq_left (Nat.mul_le_mul_right _ hm), ?_⟩
  rcases h2 with ⟨h2, _⟩ | ⟨g', o', c', hv, h3, h4, h5⟩
  · cases h2
  · injection hv with hv _ hc
    injection hv with hv
    injection hv with hg ho
    subst hg; subst ho; subst hc
    exact .inr ⟨g, o, c, rfl, by omega, h4, fun j u hu => h5 j u (by rw [List.getElem?_take] at hu; split at hu; exact hu; cases hu)⟩
theorem Flat.cell {w : World} {v : Value} {size n : Nat} {xs : List Value} (h : Flat w v size n xs) (h0 : 0 < n) : ∃ g o c, v = .slice (some ⟨g, o, none⟩) n c ∧ n ≤ c ∧ c ≤ maxLen ∧ ∀ (j : Nat) (u : Value), xs[j]? = some u → w.cell? ⟨g, o + j, none⟩ = some u := by
  rcases h.2 with ⟨_, h1⟩ | h1
  · omega
  · exact h1

theorem wpList_append_flat {P : Program} {w : World} {ops : Array Oper} {rest : List Oper} {o : Oper} {a : Act} {Q : Exit → Act → World → Prop} (hgd : o.guard = none) (s x : Operand) (t : TypeId)
    (ho : o.op = .call { callee := .builtin .append, args := #[s, x], argTypes := #[t, t] })
    (base : Nat) (e : TypeId) (i : TypeInfo) (z : Value) (size bytes : Nat) (ht : P.underlying t = some (.slice e)) (hi : P.info? e = some i) (hz : i.zero = some z)
    (hsize : i.size = size) (hby : i.bytes = bytes) (hzs : z.cells.size = size) (hsz : 0 < size)
    (v : Value) (n : Nat) (xs : List Value) (hs : a.eval s = v) (hown : w.ownsRow base e size v n xs)
    (sv : Value) (m : Nat) (news : List Value) (hx : a.eval x = sv) (hf : Flat w sv size m news) (h1 : ∀ u ∈ news, u.oneCell' = true)
    (h63 : n + m ≤ maxLen) (hbytes : (n + m) * bytes ≤ 140737488355328) (hbase : base ≤ w.heap.size)
    (h : ∀ v' w', w'.ownsRow base e size v' (n + m) (xs ++ news) → w.grownBy w' v.ownBlock → wpList P ops Q rest (a.put o.dst v') w') : wpList P ops Q (o :: rest) a w := by
  rcases hf.2 with ⟨rfl, rfl⟩ | ⟨g, off, c, rfl, _, _, h5⟩
  · have hn : news = [] := List.eq_nil_of_length_eq_zero (by rw [hf.1]; omega)
    subst hn
    refine wpList_append_own_none hgd s x t ho base e i size ht hi v n xs hs hown hx (h v w ?_ (World.grownBy.refl _ _))
    rw [List.append_nil, Nat.add_zero]
    exact hown
  · exact wpList_append_own w hgd s x t ho base e i z size bytes ht hi hz hsize hby hzs hsz v n xs hs hown ⟨g, off, none⟩ m c news hx hf.1 (fun j u hu => by rw [addr_add']; exact h5 j u hu) h1 h63 hbytes hbase (fun v' w' a b _ => h v' w' a b)

theorem step_append_own {P : Program} {ops : Array Oper} {o : Oper} {a : Act} {w : World} {K : Act → World → Prop} {Q : Exit → Act → World → Prop} {E : Prop} (hg : o.guard = none) (s x : Operand) (t : TypeId)
    (ho : o.op = .call { callee := .builtin .append, args := #[s, x], argTypes := #[t, t] })
    (base : Nat) (e : TypeId) (i : TypeInfo) (z : Value) (size bytes : Nat) (ht : P.underlying t = some (.slice e)) (hi : P.info? e = some i) (hz : i.zero = some z)
    (hsize : i.size = size) (hby : i.bytes = bytes) (hzs : z.cells.size = size) (hsz : 0 < size)
    (v : Value) (n : Nat) (xs : List Value) (hs : a.eval s = v) (hown : w.ownsRow base e size v n xs)
    (ad : Addr) (m c : Nat) (news : List Value) (hx : a.eval x = .slice (some ad) m c) (hl : news.length = m * size) (hnews : ∀ j u, news[j]? = some u → w.cell? (ad.add j) = some u) (h1 : ∀ u ∈ news, u.oneCell' = true)
    (h63 : n + m ≤ maxLen) (hbytes : (n + m) * bytes ≤ 140737488355328) (hbase : base ≤ w.heap.size)
    (h : ∀ v' w', w'.ownsRow base e size v' (n + m) (xs ++ news) → w.grownBy w' v.ownBlock → K (a.put o.dst v') w') :
    if Region.wanted o (yielded ops a.tmps) = true then Oper.wp P o a w K Q else E := by
  have hw : Region.wanted o (yielded ops a.tmps) = true := by simp [Region.wanted, hg]
  rw [if_pos hw]
  exact wp_append_own w s x t ho base e i z size bytes ht hi hz hsize hby hzs hsz v n xs hs hown ad m c news hx hl hnews h1 h63 hbytes hbase (fun v' w' a b _ => h v' w' a b)
theorem two_new2 (w : World) (a b : Value) (t : TypeId) (n : Nat) (hn : w.heap.size = n) : ∀ j u, [a, b][j]? = some u → (w.alloc (.cells #[a, b] t)).cell? ((⟨n, 0, none⟩ : Addr).add j) = some u := by
  subst hn
  intro j u hj
  rw [addr_add', Nat.zero_add, World.cell?_alloc_at _ _ _ _ rfl]
  simpa using hj
theorem one_new (w : World) (a : Value) (t : TypeId) (n : Nat) (hn : w.heap.size = n) : ∀ j u, [a][j]? = some u → (w.alloc (.cells #[a] t)).cell? ((⟨n, 0, none⟩ : Addr).add j) = some u := by
  subst hn
  intro j u hj
  rw [addr_add', Nat.zero_add, World.cell?_alloc_at _ _ _ _ rfl]
  simpa using hj
theorem seven_new' (w : World) (a b c d e f g : Value) (t : TypeId) (n : Nat) (hn : w.heap.size = n) : ∀ j u, [a, b, c, d, e, f, g][j]? = some u → (w.alloc (.cells #[a, b, c, d, e, f, g] t)).cell? ((⟨n, 0, none⟩ : Addr).add j) = some u := by
  subst hn
  intro j u hj
  rw [addr_add', Nat.zero_add, World.cell?_alloc_at _ _ _ _ rfl]
  simpa using hj
theorem own_slice {w : World} {B : Nat} {e : TypeId} {size n : Nat} {v : Value} {xs : List Value} (h : w.ownsRow B e size v n xs) : ∃ A c, v = .slice A n c := by
  rcases h.2 with ⟨rfl, rfl⟩ | ⟨g, cap, cur, hv, _⟩
  · exact ⟨none, 0, rfl⟩
  · exact ⟨_, _, hv⟩
theorem own_setCell {w : World} {B : Nat} {e : TypeId} {size n : Nat} {v : Value} {xs : List Value} (h : w.ownsRow B e size v n xs) (g j : Nat) (hg : g < B) (u : Value) : (w.setCell ⟨g, j, none⟩ u).ownsRow B e size v n xs :=
  own_same h (fun k hk => Below.heap_setCell _ _ _ _ (by have := (own_block h hk).1; show k ≠ g; omega))
theorem own_some {w : World} {B : Nat} {e : TypeId} {size n c : Nat} {A : Option Addr} {xs : List Value} (h : w.ownsRow B e size (.slice A n c) n xs) (h0 : 0 < n) : ∃ g, A = some ⟨g, 0, none⟩ ∧ B ≤ g := by
  rcases h.2 with ⟨_, rfl⟩ | ⟨g, cap, cur, hv, hb, _⟩
  · omega
  · injection hv with hv _ _
    exact ⟨g, hv, hb⟩
theorem Flat.setCell {w : World} {A : Option Addr} {c size n : Nat} {xs : List Value} {g B : Nat} (h : Flat w (.slice A n c) size n xs) (hA : A = some ⟨g, 0, none⟩) (b j : Nat) (u : Value) (hb : b < B) (hg : B ≤ g) : Flat (w.setCell ⟨b, j, none⟩ u) (.slice A n c) size n xs := by
  refine ⟨h.1, h.2.imp_right fun ⟨g', o, c', hv, h1, h2, h3⟩ => ⟨g', o, c', hv, h1, h2, fun i y hy => ?_⟩⟩
  injection hv with hv _ _
  rw [hA] at hv
  injection hv with hv
  injection hv with hv _
  subst hv
  rw [World.cell?_setCell_far _ _ _ _ (by show b ≠ g; omega)]
  exact h3 i y hy
theorem own_empty (w : World) (t : TypeId) (size : Nat) : (w.alloc (.cells #[] t)).ownsRow w.heap.size t size (.slice (some ⟨w.heap.size, 0, none⟩) 0 0) 0 [] := by
  refine ⟨by simp, .inr ⟨w.heap.size, 0, #[], rfl, Nat.le_refl _, ?_, Nat.le_refl _, Nat.zero_le _, by simp, by simp⟩⟩
  exact (Go.MapKept.heap_alloc w _).1

/-! ### the small functions -/
theorem refFind_any (l : Bs) (hl : l.length ≤ 1000000) (c : UInt8) (ci : Int) (hc : ci = (c.toNat : Int)) (w : World) : Calls Tryz.prog 31 #[.string (bs l), .int .u8 ci] w fun e w' => e = .returned (.int .i64 (match cut1 c l with | some p => ((p.1.length : Nat) : Int) | none => -1)) ∧ Below w.heap.size w w' := by
  subst hc
  obtain ⟨k, hk⟩ := find_f l hl c
  exact (wharfingerref13_find.calls k _ _ _ w hk).mono fun e w' h => ⟨h.1, h.2.below⟩
theorem refTrim_any (l : Bs) (hl : l.length ≤ 1000000) (w : World) : Calls Tryz.prog 30 #[.string (bs l)] w fun e w' => e = .returned (.string (bs (trim l))) ∧ Below w.heap.size w w' := by
  obtain ⟨k, hk⟩ := trim_f l hl
  exact (wharfingerref13_trim.calls k _ _ w hk).mono fun e w' h => ⟨h.1, h.2.below⟩
theorem refName_any (l : Bs) (hl : l.length ≤ 1000000) (w : World) : Calls Tryz.prog 53 #[.string (bs l)] w fun e w' => e = .returned (.bool (nameB l)) ∧ Below w.heap.size w w' := by
  obtain ⟨k, hk⟩ := name_f l hl
  exact (wharfingerref13_name.calls k _ _ w hk).mono fun e w' h => ⟨h.1, h.2.below⟩
theorem refNumber_any (l : Bs) (hl : l.length ≤ 1000000) (w : World) : Calls Tryz.prog 56 #[.string (bs l)] w fun e w' => e = .returned (.int .i64 (numR l)) ∧ Below w.heap.size w w' := by
  obtain ⟨k, hk⟩ := number_f l hl
  exact (wharfingerref13_number.calls k _ _ w hk).mono fun e w' h => ⟨h.1, h.2.below⟩
theorem refPath_any (l : Bs) (w : World) : Calls Tryz.prog 57 #[.string (bs l)] w fun e w' => (∃ r : Int, e = .returned (.tuple #[.int .i64 (if pathOk l then 0 else 1), .int .i64 r])) ∧ Below w.heap.size w w' := by
  obtain ⟨k, r, hk⟩ := pathCheck_f l
  exact (wharfingerref09_Check.calls k _ _ _ w hk).mono fun e w' h => ⟨⟨r, h.1⟩, h.2.below⟩

def strCells (L : List Bs) : List Value := L.map fun s => .string (bs s)
/-- A slice of texts, to be read. -/
abbrev RdStr (w : World) (v : Value) (L : List Bs) : Prop := Flat w v 1 L.length (strCells L)
/-- A slice of the document's users, to be read. -/
abbrev RdU (w : World) (v : Value) (us : List Usr) : Prop := Flat w v 2 us.length (usrCells us)
theorem RdStr.kd {w : World} {v : Value} {L : List Bs} (h : RdStr w v L) (hl : L.length ≤ 1000000) : ∃ A c, v = .slice A (L.map bs).length c ∧ (L.map bs).length ≤ c ∧ Kd.C Kd.string w A (L.map bs).length (L.map bs) := by
  rw [List.length_map]
  rcases h.2 with ⟨rfl, h0⟩ | ⟨g, o, c, rfl, hn, _, hc⟩
  · have : L = [] := List.eq_nil_of_length_eq_zero h0
    subst this
    exact ⟨none, 0, rfl, Nat.le_refl _, ⟨rfl, by simp, fun hne => absurd hne (by simp)⟩⟩
  · refine ⟨_, c, rfl, hn, ⟨by rw [List.length_map], by omega, fun _ => ⟨⟨g, o, none⟩, rfl, fun j p hj => ?_⟩⟩⟩
    rw [List.getElem?_map, Option.map_eq_some_iff] at hj
    obtain ⟨s, hj, rfl⟩ := hj
    refine ⟨[.string (bs s)], rfl, rfl, fun i u hu => ?_⟩
    have hi : i = 0 := by have := (List.getElem?_eq_some_iff.1 hu).1; simp at this; exact this
    subst hi
    simp at hu
    subst hu
    rw [show (Kd.string).sz = 1 from rfl, addr_add', Nat.mul_one, Nat.add_zero]
    exact hc j _ (by unfold strCells; rw [List.getElem?_map, hj]; rfl)
theorem refHas_any (L : List Bs) (v : Value) (s : Bs) (hl : L.length ≤ 1000000) (w : World) (h : RdStr w v L) : Calls Tryz.prog 55 #[v, .string (bs s)] w fun e w' => e = .returned (.bool (L.contains s)) ∧ Below w.heap.size w w' := by
  obtain ⟨A, c, rfl, hc, hk⟩ := h.kd hl
  obtain ⟨k, hf⟩ := has_f L s hl
  exact (wharfingerref13_has.calls k A c (L.map bs) _ _ w hk hc hf).mono fun e w' h => ⟨h.1, h.2.below⟩
end Go.Proofs.YtkbamneecfmibaaGreatDoor
