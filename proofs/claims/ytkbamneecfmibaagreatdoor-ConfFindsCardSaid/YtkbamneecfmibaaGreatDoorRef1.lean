/- The document's answer for modules as a whole: what the printed 'wharfingerref13_Check.f' comes to. No program. Conditions: fewer than a million modules, roots shorter than 2^47. -/
import Derived.Test.YtkbamneecfmibaaGreatDoorPConfWritesx5
import Derived.Test.YtkbamneecfmibaaGreatDoorCheck
namespace Go.Proofs.YtkbamneecfmibaaGreatDoor
open Go.RowKit
open C PConfWrites

def uOf (x : S83) : Usr := ⟨x.f0.data.toList, x.f1.data.toList⟩
def mOf (x : S45) : Mdl := ⟨x.f0.data.toList, x.f1.data.toList, x.f2, x.f3, x.f4, x.f5.map uOf⟩

theorem w64 (n : Int) (h : -9223372036854775808 ≤ n ∧ n ≤ 9223372036854775807) : wrap64 n = n := by unfold wrap64; omega
theorem prefix_take (a b : Bs) : (b.isPrefixOf a) = (decide (b.length ≤ a.length) && (a.take b.length == b)) := by
  rw [Bool.eq_iff_iff, List.isPrefixOf_iff_prefix, List.prefix_iff_eq_take]
  simp only [Bool.and_eq_true, decide_eq_true_eq, beq_iff_eq]
  constructor
  · intro h
    refine ⟨?_, h.symm⟩
    have := congrArg List.length h
    rw [List.length_take] at this
    omega
  · rintro ⟨_, h⟩
    exact h.symm
theorem begins_f (a b : ByteArray) : wharfingerref09_begins.f a b = some (b.data.toList.isPrefixOf a.data.toList) := by
  have ha : a.data.toList.length = a.size := Array.length_toList
  have hb : b.data.toList.length = b.size := Array.length_toList
  have e : ((a.extract 0 b.size).toList == b.toList) = (a.data.toList.take b.size == b.data.toList) := by
    rw [Lib.toList_data, Lib.toList_data, Lib.extract_eq]
    simp
  unfold wharfingerref09_begins.f
  rw [prefix_take, hb, ha]
  by_cases h : b.size ≤ a.size
  · rw [if_pos (by omega), if_pos (by omega), if_pos (by omega), Int.toNat_natCast, e, decide_eq_true h]
    rfl
  · rw [if_neg (by omega), decide_eq_false h]
    rfl
theorem refClash_f (a b : ByteArray) (ha : a.size ≤ 140737488355328) (hb : b.size ≤ 140737488355328) : wharfingerref09_Clash.f a b = some (clash a.data.toList b.data.toList) := by
  unfold wharfingerref09_Clash.f
  have e : (⟨#[47]⟩ : ByteArray).data.toList = [47] := rfl
  rw [if_pos (by omega), begins_f, Option.bind_some, append_data, e]
  unfold clash
  cases h : (b.data.toList ++ [47]).isPrefixOf a.data.toList
  · rw [if_neg (by decide), if_pos (by omega), begins_f, Option.bind_some, append_data, e]
    rfl
  · rw [if_pos rfl]
    rfl

abbrev Rm := S45
abbrev rdm := rd_T45
theorem rdm_at {l : List Rm} {i : Nat} (h : i < l.length) : rdm l (i : Int) = l[i] := by
  unfold rdm rd_T45
  rw [Int.toNat_natCast, List.getD_eq_getElem?_getD, List.getElem?_eq_getElem h]
  rfl
def hit (a b : Rm) : Bool := a.f1.data.toList == b.f1.data.toList || clash a.f1.data.toList b.f1.data.toList
theorem check_in (l : List Rm) (hl : l.length ≤ 1000000) (hs : ∀ x ∈ l, x.f1.size ≤ 140737488355328) (i : Nat) (hi : i < l.length) (k0 : Nat) (R : Int × Int) (h0 : wharfingerref13_Check.l0 k0 l ((i + 1 : Nat) : Int) = some R) :
    ∀ (d j : Nat), j + d = i → ∃ k, wharfingerref13_Check.l1 k l (i : Int) (j : Int) = some (if ((l.take i).drop j).any (fun x => hit x l[i]) then (90, (i : Int)) else R)
  | 0, j, hd => by
    refine ⟨k0 + 1, ?_⟩
    have e : (l.take i).drop j = [] := by rw [List.drop_eq_nil_iff, List.length_take]; omega
    rw [e]
    unfold wharfingerref13_Check.l1
    rw [if_neg (by omega), w64 _ (by omega)]
    exact h0
  | d + 1, j, hd => by
    have hj : j < i := by omega
    have hjl : j < l.length := by omega
    obtain ⟨k, hk⟩ := check_in l hl hs i hi k0 R h0 d (j + 1) (by omega)
    refine ⟨k + 1, ?_⟩
    have e : (l.take i).drop j = l[j] :: (l.take i).drop (j + 1) := by
      rw [List.drop_eq_getElem_cons (by rw [List.length_take]; omega), List.getElem_take]
    have r1 := rdm_at hjl
    have r2 := rdm_at hi
    unfold rdm at r1 r2
    unfold wharfingerref13_Check.l1
    rw [if_pos (by omega), if_pos (by omega), if_pos (by omega), if_pos (by omega), if_pos (by omega), r1, r2, e, List.any_cons, w64 _ (by omega), show ((j : Int) + 1) = ((j + 1 : Nat) : Int) from by omega, hk, Lib.toList_data, Lib.toList_data, refClash_f _ _ (hs _ (List.getElem_mem _)) (hs _ (List.getElem_mem _)), Option.bind_some]
    unfold hit
    by_cases c : l[j].f1.data.toList = l[i].f1.data.toList
    · rw [if_pos c]
      simp [c]
    · rw [if_neg c]
      have c2 : (l[j].f1.data.toList == l[i].f1.data.toList) = false := by simpa using c
      rw [c2, Bool.false_or]
      cases clash l[j].f1.data.toList l[i].f1.data.toList
      · simp
      · simp
theorem check_from (l : List Rm) (hl : l.length ≤ 1000000) (hs : ∀ x ∈ l, x.f1.size ≤ 140737488355328) :
    ∀ (d i : Nat), i + d = l.length → ∃ k, wharfingerref13_Check.l0 k l (i : Int) = some ((checkFrom i ((l.map mOf).take i) ((l.map mOf).drop i)).1, ((checkFrom i ((l.map mOf).take i) ((l.map mOf).drop i)).2 : Int))
  | 0, i, hd => by
    refine ⟨1, ?_⟩
    have e : i = (l.map mOf).length := by rw [List.length_map]; omega
    unfold wharfingerref13_Check.l0
    rw [if_neg (by omega)]
    conv => rhs; rw [e, check_end]
    rfl
  | d + 1, i, hd => by
    have hi : i < l.length := by omega
    obtain ⟨k0, h0⟩ := check_from l hl hs d (i + 1) (by omega)
    obtain ⟨k, hk⟩ := check_in l hl hs i hi k0 _ h0 i 0 (by omega)
    refine ⟨k + 1, ?_⟩
    have hm : (l.map mOf)[i]? = some (mOf l[i]) := by rw [List.getElem?_map, List.getElem?_eq_getElem hi]; rfl
    have r2 := rdm_at hi
    unfold rdm at r2
    rw [check_step hm]
    unfold wharfingerref13_Check.l0
    have ea : (((l.map mOf).take i).any fun x => x.root == (mOf l[i]).root || clash x.root (mOf l[i]).root) = (l.take i).any (fun x => hit x l[i]) := by
      rw [← List.map_take, List.any_map]
      rfl
    rw [if_pos (by omega), if_pos (by omega), r2, Lib.toList_data, ea]
    rw [List.drop_zero] at hk
    by_cases c : l[i].f1.data.toList = []
    · rw [if_pos c, if_pos (show (mOf l[i]).root = [] from c)]
    · rw [if_neg c, if_neg (show ¬ (mOf l[i]).root = [] from c)]
      have hk' : wharfingerref13_Check.l1 k l (i : Int) 0 = _ := hk
      rw [hk']
      split <;> rfl
theorem check_ref (l : List Rm) (hl : l.length ≤ 1000000) (hs : ∀ x ∈ l, x.f1.size ≤ 140737488355328) :
    ∃ k, wharfingerref13_Check.f k l = some ((checkMs (l.map mOf)).1, ((checkMs (l.map mOf)).2 : Int)) := by
  obtain ⟨k, hk⟩ := check_from l hl hs l.length 0 (by omega)
  exact ⟨k, hk⟩
end Go.Proofs.YtkbamneecfmibaaGreatDoor
