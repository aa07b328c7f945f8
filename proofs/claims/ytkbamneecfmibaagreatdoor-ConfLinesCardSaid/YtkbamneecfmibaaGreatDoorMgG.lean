/- What conf.Parse reads is small; blank lines and remarks ahead of a text shift its lines. No program. No conditions. (*strings.Builder).WriteString at a builder of the call's own. Conditions: Go's own limit on its length. (conf.Config).Text: what it comes to. Conditions: GW; where the modules lie; slots and quotas are small; the text is shorter than a million. wharfingerlaw13.ConfLines answers true at every input: the walk. Condition: GW. -/
import Derived.Test.YtkbamneecfmibaaGreatDoorMgC
import Derived.Test.YtkbamneecfmibaaGreatDoorShelf
import Derived.Test.YtkbamneecfmibaaGreatDoorOwn
import Derived.Shelf.Strings.Builder1
import Derived.Shelf.Strings.BuilderF
import Derived.Lib.OthersKept
import Derived.Test.YtkbamneecfmibaaGreatDoorCheck
import Derived.Deep.RegionWith
import Derived.Deep.RegionHeld3
import Derived.Deep.DeepCutAuto
import Derived.Test.YtkbamneecfmibaaGreatDoorMgE
namespace Go.Proofs.YtkbamneecfmibaaGreatDoor
open C

/-- What a configuration's text may say. -/
structure SmallM (m : Mdl) : Prop where
  name : m.name.length ≤ 16
  root : m.root.length ≤ 64
  slots : 0 ≤ m.slots ∧ m.slots ≤ 16
  quota : 0 ≤ m.quota ∧ m.quota ≤ 262144
  users : m.users.length ≤ 8
  user : ∀ u ∈ m.users, u.name.length ≤ 16 ∧ u.secret.length ≤ 16
theorem name_len {s : Bs} (h : ¬ nameB s = false) : s.length ≤ 16 := by
  have h1 : nameB s = true := by simpa using h
  unfold nameB at h1
  simp only [Bool.and_eq_true, decide_eq_true_eq] at h1
  exact h1.1.2
theorem path_len {s : Bs} (h : pathOk s = true) : s.length ≤ 64 := by
  unfold pathOk at h
  simp only [Bool.and_eq_true, decide_eq_true_eq] at h
  exact h.1.1.2
theorem setM_smallM {m : Mdl} {seen : List Bs} {k v : Bs} (h : (setM m seen k v).1 = 0) (hm : SmallM m) : SmallM (setM m seen k v).2.1 := by
  by_cases hk : k = keyUser
  · subst hk
    rw [setM_user] at h ⊢
    have h' : (userU m.users v).1 = 0 := h
    show SmallM { m with users := (userU m.users v).2 }
    have hu : (userU m.users v).2.length ≤ 8 ∧ ∀ u ∈ (userU m.users v).2, u.name.length ≤ 16 ∧ u.secret.length ≤ 16 := by
      unfold userU at h' ⊢
      cases hc : cut1 58 v with
      | none => rw [hc] at h'; cases h'
      | some p =>
        obtain ⟨who, sec⟩ := p
        rw [hc] at h'
        simp only at h' ⊢
        by_cases h1 : sec = [] ∨ 16 < sec.length
        · rw [if_pos h1] at h'; cases h'
        · rw [if_neg h1] at h' ⊢
          by_cases h2 : nameB who = false
          · rw [if_pos h2] at h'; cases h'
          · rw [if_neg h2] at h' ⊢
            by_cases h3 : (m.users.any fun u => u.name == who) = true
            · rw [if_pos h3] at h'; cases h'
            · rw [if_neg h3] at h' ⊢
              by_cases h4 : 8 ≤ m.users.length
              · rw [if_pos h4] at h'; cases h'
              · rw [if_neg h4]
                refine ⟨by simp; omega, fun u hu => ?_⟩
                rcases List.mem_append.1 hu with hu | hu
                · exact hm.user u hu
                · rw [List.mem_singleton] at hu
                  subst hu
                  have : ¬ 16 < sec.length := fun h => h1 (.inr h)
                  exact ⟨name_len h2, by show sec.length ≤ 16; omega⟩
    exact ⟨hm.name, hm.root, hm.slots, hm.quota, hu.1, hu.2⟩
  · unfold setM at h ⊢
    rw [if_neg (show ¬ k = [117, 115, 101, 114] from hk)] at h ⊢
    by_cases h0 : seen.contains k = true
    · rw [if_pos h0] at h; cases h
    · rw [if_neg h0] at h ⊢
      by_cases h1 : k = [114, 111, 111, 116]
      · rw [if_pos h1] at h ⊢
        by_cases h2 : pathOk v = true
        · rw [if_pos h2]
          exact ⟨hm.name, path_len h2, hm.slots, hm.quota, hm.users, hm.user⟩
        · rw [if_neg h2] at h; cases h
      · rw [if_neg h1] at h ⊢
        by_cases h3 : k = [119, 114, 105, 116, 101]
        · rw [if_pos h3] at h ⊢
          split
          · exact ⟨hm.name, hm.root, hm.slots, hm.quota, hm.users, hm.user⟩
          · split <;> exact hm
        · rw [if_neg h3] at h ⊢
          by_cases h4 : k = [115, 108, 111, 116, 115]
          · rw [if_pos h4] at h ⊢
            by_cases h5 : 1 ≤ numR v ∧ numR v ≤ 16
            · rw [if_pos h5]
              exact ⟨hm.name, hm.root, ⟨by show 0 ≤ numR v; omega, h5.2⟩, hm.quota, hm.users, hm.user⟩
            · rw [if_neg h5] at h; cases h
          · rw [if_neg h4] at h ⊢
            by_cases h6 : k = [113, 117, 111, 116, 97]
            · rw [if_pos h6] at h ⊢
              by_cases h7 : 0 ≤ numR v ∧ numR v ≤ 262144
              · rw [if_pos h7]
                exact ⟨hm.name, hm.root, hm.slots, h7, hm.users, hm.user⟩
              · rw [if_neg h7] at h; cases h
            · rw [if_neg h6] at h; cases h
def SmallMs (ms : List Mdl) : Prop := ms.length ≤ 8 ∧ ∀ m ∈ ms, SmallM m
theorem step_smallMs {ms : List Mdl} {seen : List Bs} {raw : Bs} (h : (lineStep ms seen raw).1 = 0) (hm : SmallMs ms) : SmallMs (lineStep ms seen raw).2.1 := by
  rcases htr : trim raw with _ | ⟨b, r⟩
  · rw [step_blank (.inl htr)]; exact hm
  · by_cases h35 : b = 35
    · rw [step_blank (.inr ⟨r, by rw [htr, h35]⟩)]; exact hm
    · by_cases h91 : b = 91
      · subst h91
        have hs := rstep_open (ms := ms) (seen := seen) htr
        have h0 : openE ms r = 0 := by rw [← hs.1]; exact h
        rw [hs.2 h0]
        unfold openE at h0
        by_cases g1 : r.getLast? = some 93
        · rw [if_pos g1] at h0
          by_cases g2 : nameB r.dropLast = false
          · rw [if_pos g2] at h0; cases h0
          · rw [if_neg g2] at h0
            by_cases g3 : (ms.any fun m => m.name == r.dropLast) = true
            · rw [if_pos g3] at h0; cases h0
            · rw [if_neg g3] at h0
              by_cases g4 : 8 ≤ ms.length
              · rw [if_pos g4] at h0; cases h0
              · refine ⟨by simp; omega, fun m hmm => ?_⟩
                rcases List.mem_append.1 hmm with hmm | hmm
                · exact hm.2 m hmm
                · rw [List.mem_singleton] at hmm
                  subst hmm
                  exact ⟨name_len g2, Nat.zero_le _, ⟨(by decide : (0 : Int) ≤ 16), (by decide : (16 : Int) ≤ 16)⟩, ⟨(by decide : (0 : Int) ≤ 262144), (by decide : (262144 : Int) ≤ 262144)⟩, Nat.zero_le _, fun u hu => by cases hu⟩
        · rw [if_neg g1] at h0; cases h0
      · cases hc : cut1 61 (b :: r) with
        | none => rw [step_none htr h35 h91 (.inl hc)] at h; cases h
        | some p =>
          obtain ⟨k, v⟩ := p
          rcases List.eq_nil_or_concat ms with rfl | ⟨ms', m, rfl⟩
          · rw [step_none htr h35 h91 (.inr rfl)] at h; cases h
          · rw [List.concat_eq_append] at *
            rw [step_set htr h35 h91 hc] at h ⊢
            refine ⟨by have := hm.1; simp at this ⊢; exact this, fun x hx => ?_⟩
            rcases List.mem_append.1 hx with hx | hx
            · exact hm.2 x (by simp [hx])
            · rw [List.mem_singleton] at hx
              subst hx
              exact setM_smallM h (hm.2 m (by simp))
theorem goLines_smallMs : ∀ (ls : List Bs) (i : Nat) (ms : List Mdl) (seen : List Bs), SmallMs ms → SmallMs (goLines i ls ms seen).2.2
  | [], i, ms, seen, h => h
  | l :: ls, i, ms, seen, h => by
    show SmallMs (if (lineStep ms seen l).1 = 0 then goLines (i + 1) ls (lineStep ms seen l).2.1 (lineStep ms seen l).2.2 else ((lineStep ms seen l).1, i, [])).2.2
    by_cases h0 : (lineStep ms seen l).1 = 0
    · rw [if_pos h0]
      exact goLines_smallMs ls _ _ _ (step_smallMs h0 h)
    · rw [if_neg h0]
      exact ⟨Nat.zero_le _, fun m hm => by cases hm⟩
theorem parse_small (t : Bs) : SmallMs (C.parse t).2.2 := by
  have hnil : SmallMs [] := ⟨Nat.zero_le _, fun m hm => by cases hm⟩
  unfold C.parse
  by_cases h1 : 8192 < t.length
  · rw [if_pos h1]; exact hnil
  · rw [if_neg h1]
    simp only
    split
    · split
      · exact goLines_smallMs _ _ _ _ hnil
      · exact hnil
    · exact hnil
theorem itoa_le {n : Int} (h0 : 0 ≤ n) (h1 : n ≤ 262144) : (Lib.itoa n).length ≤ 6 := by
  have e : Lib.itoa n = Lib.decDigits n.toNat := by unfold Lib.itoa; rw [if_neg (by omega)]
  rw [e]
  exact dec_len 5 _ (by omega)
theorem users_len : ∀ (us : List Usr), (∀ u ∈ us, u.name.length ≤ 16 ∧ u.secret.length ≤ 16) → (us.flatMap userText).length ≤ us.length * 41
  | [], _ => by simp
  | u :: us, h => by
    have h1 := h u (by simp)
    have h2 := users_len us (fun x hx => h x (by simp [hx]))
    rw [List.flatMap_cons, List.length_append, List.length_cons]
    have : (userText u).length ≤ 41 := by simp [userText]; omega
    omega
theorem mod_len_le {m : Mdl} (h : SmallM m) : (modText m).length ≤ 1000 := by
  have h1 := users_len m.users h.user
  have h2 := h.users
  have h3 := itoa_le h.slots.1 (by have := h.slots.2; omega)
  have h4 := itoa_le h.quota.1 h.quota.2
  have h5 := h.name
  have h6 := h.root
  have h7 : (if m.write then [121, 101, 115] else [110, 111] : Bs).length ≤ 3 := by cases m.write <;> simp
  unfold modText
  simp only [List.length_append, List.length_cons, List.length_nil]
  omega
theorem text_small : ∀ (ms : List Mdl), (∀ m ∈ ms, SmallM m) → (textOf ms).length ≤ ms.length * 1000
  | [], _ => by simp [textOf]
  | m :: ms, h => by
    have h1 := mod_len_le (h m (by simp))
    have h2 := text_small ms (fun x hx => h x (by simp [hx]))
    unfold textOf at h2 ⊢
    rw [List.flatMap_cons, List.length_append, List.length_cons]
    omega

/-! ### lines ahead -/
theorem goLines_shift (d : Nat) : ∀ (ls : List Bs) (i : Nat) (ms : List Mdl) (seen : List Bs), goLines (i + d) ls ms seen = ((goLines i ls ms seen).1, (if (goLines i ls ms seen).1 = 0 then (goLines i ls ms seen).2.1 else (goLines i ls ms seen).2.1 + d), (goLines i ls ms seen).2.2)
  | [], i, ms, seen => by simp [goLines]
  | l :: ls, i, ms, seen => by
    have e : ∀ j, goLines j (l :: ls) ms seen = if (lineStep ms seen l).1 = 0 then goLines (j + 1) ls (lineStep ms seen l).2.1 (lineStep ms seen l).2.2 else ((lineStep ms seen l).1, j, []) := fun j => rfl
    rw [e, e]
    by_cases h0 : (lineStep ms seen l).1 = 0
    · rw [if_pos h0, if_pos h0, show i + d + 1 = i + 1 + d from by omega]
      exact goLines_shift d ls (i + 1) _ _
    · rw [if_neg h0, if_neg h0]
      simp only
      rw [if_neg h0]
def blankL (b : Bs) : Prop := (trim b = [] ∨ ∃ r, trim b = 35 :: r) ∧ ∀ x ∈ b, x ≠ 10
theorem goLines_ahead : ∀ (bl : List Bs) (ls : List Bs) (i : Nat), (∀ b ∈ bl, blankL b) → goLines i (bl ++ ls) [] [] = goLines (i + bl.length) ls [] []
  | [], ls, i, _ => rfl
  | b :: bl, ls, i, h => by
    have e : goLines i (b :: (bl ++ ls)) [] [] = if (lineStep [] [] b).1 = 0 then goLines (i + 1) (bl ++ ls) (lineStep [] [] b).2.1 (lineStep [] [] b).2.2 else ((lineStep [] [] b).1, i, []) := rfl
    rw [List.cons_append, e, step_blank (h b (by simp)).1, if_pos rfl, goLines_ahead bl ls (i + 1) (fun x hx => h x (by simp [hx])), List.length_cons, show i + 1 + bl.length = i + (bl.length + 1) from by omega]
theorem split_ahead : ∀ (bl : List Bs) (t : Bs), (∀ b ∈ bl, blankL b) → splitOn 10 (bl.flatMap (fun b => b ++ [10]) ++ t) = bl ++ splitOn 10 t
  | [], t, _ => rfl
  | b :: bl, t, h => by
    have h1 := split_ahead bl t (fun x hx => h x (by simp [hx]))
    rw [List.flatMap_cons, List.append_assoc, List.append_assoc, splitOn_head 10 b (h b (by simp)).2, List.singleton_append, splitOn_cons, if_pos (by simp), h1]
    simp
/-- Blank lines and remarks ahead: the same error's number, the same modules; the place is the same, or that many lines on. -/
theorem parse_ahead (bl : List Bs) (t : Bs) (h : ∀ b ∈ bl, blankL b) (hl : (bl.flatMap (fun b => b ++ [10]) ++ t).length ≤ 8192) :
    (C.parse (bl.flatMap (fun b => b ++ [10]) ++ t)).1 = (C.parse t).1 ∧ (C.parse (bl.flatMap (fun b => b ++ [10]) ++ t)).2.2 = (C.parse t).2.2
    ∧ ((C.parse (bl.flatMap (fun b => b ++ [10]) ++ t)).2.1 = (C.parse t).2.1 ∨ (C.parse (bl.flatMap (fun b => b ++ [10]) ++ t)).2.1 = (C.parse t).2.1 + bl.length) := by
  have ht : ¬ 8192 < t.length := by rw [List.length_append] at hl; omega
  have hg : goLines 0 (splitOn 10 (bl.flatMap (fun b => b ++ [10]) ++ t)) [] [] = goLines (0 + bl.length) (splitOn 10 t) [] [] := by rw [split_ahead bl t h, goLines_ahead bl _ 0 h]
  unfold C.parse
  rw [if_neg (by omega), if_neg ht, hg, goLines_shift]
  simp only
  by_cases h0 : (goLines 0 (splitOn 10 t) [] []).1 = 0
  · rw [if_pos h0, if_pos h0]
    split
    · exact ⟨rfl, rfl, .inl rfl⟩
    · exact ⟨rfl, rfl, .inl rfl⟩
  · rw [if_neg h0, if_neg h0, if_neg h0]
    exact ⟨rfl, rfl, .inr rfl⟩
end Go.Proofs.YtkbamneecfmibaaGreatDoor
namespace Go.Proofs.YtkbamneecfmibaaGreatDoor
open Go.RowKit

abbrev tBld : Nat := 87
abbrev tU8 : Nat := 5
theorem infoBld : (Tryz.prog.info? tBld).map (·.size) = some 2 := by kernel_rfl
theorem liesBld : liesAt Tryz.prog Tryz.prog.depth tBld (2 / Tryz.prog.cellsOf tBld) 0 tBld 1 = true := by kernel_rfl
theorem infoU8 : (Tryz.prog.info? tU8).map (fun i => (i.zero, i.size, i.bytes)) = some (some (.int .u8 0), 1, 1) := by kernel_rfl
set_option maxHeartbeats 1000000 in
set_option maxRecDepth 100000 in
theorem copy_used (b : Nat) (w : World) (h0 : w.cell? ⟨b, 0, none⟩ = some (.pointer (some ⟨b, 0, none⟩))) :
    Calls Tryz.prog 64 #[.pointer (some ⟨b, 0, none⟩)] w fun e w' => e = .returned (.tuple #[]) ∧ w' = w := by
  obtain ⟨j, hj, _⟩ := Option.map_eq_some_iff.1 infoBld
  go_enter Tryz.func64, Tryz.ntmps64
  go_wp2
  rw [Lib.run_neq_ptr_same w _ Tryz.underlying85 hj]
  go_wp2
  go_end0
  exact ⟨rfl, rfl⟩
set_option maxHeartbeats 1000000 in
set_option maxRecDepth 100000 in
theorem copy_fresh (b : Nat) (w : World) (h0 : w.cell? ⟨b, 0, none⟩ = some (.pointer none)) (hsh : w.shape? b = some (tBld, 2)) (hfz : w.frozen? ⟨b, 0, none⟩ = false) :
    Calls Tryz.prog 64 #[.pointer (some ⟨b, 0, none⟩)] w fun e w' => e = .returned (.tuple #[]) ∧ w' = w.setCell ⟨b, 0, none⟩ (.pointer (some ⟨b, 0, none⟩)) := by
  obtain ⟨j, hj, hjs⟩ := Option.map_eq_some_iff.1 infoBld
  go_enter Tryz.func64, Tryz.ntmps64
  go_wp2
  rw [Lib.run_to_unsafe w ⟨b, 0, none⟩ Tryz.underlying85 Tryz.underlying106 hj (by rw [hjs]; decide) hsh (Nat.zero_lt_succ 1)]
  simp only [Result.andThen]
  rw [Oper.upon_value]
  go_wp2
  rw [run_callFunc_extern Tryz.func83 (by kernel_rfl) (by kernel_rfl) (by kernel_rfl) (e := Extern.AbiNoEscape.same) (by kernel_rfl)]
  rw [Lib.run_noEscape]
  simp only [Result.andThen]
  rw [Oper.upon_value]
  go_wp2
  rw [Lib.run_from_unsafe w ⟨b, 0, none⟩ Tryz.underlying106 Tryz.underlying85 hj hsh liesBld]
  simp only [Result.andThen]
  rw [Oper.upon_value]
  go_wp2
  go_end0
  exact ⟨rfl, rfl⟩
theorem copy_any (B b : Nat) (bs : List Value) (w : World) (h : Lib.IsBuilder tBld tU8 B b bs w) :
    Calls Tryz.prog 64 #[.pointer (some ⟨b, 0, none⟩)] w fun e w' => e = .returned (.tuple #[]) ∧ (Lib.BuilderAt tBld tU8 B b (.pointer (some ⟨b, 0, none⟩)) bs w' ∧ Below B w w' ∧ Lib.OthersKept tU8 (some b) w w') := by
  rcases h with h | h
  · refine (copy_fresh b w h.cell0 h.shape h.frozen0).mono ?_
    rintro e w' ⟨rfl, rfl⟩
    exact ⟨rfl, h.used _, (Below.refl B w).setCell (p := ⟨b, 0, none⟩) h.1 _, (Lib.OthersKept.refl _ _ w).setCell ⟨b, 0, none⟩ rfl _⟩
  · refine (copy_used b w h.cell0).mono ?_
    rintro e w' ⟨rfl, rfl⟩
    exact ⟨rfl, h, Below.refl B _, Lib.OthersKept.refl _ _ _⟩
set_option maxHeartbeats 2000000 in
set_option maxRecDepth 100000 in
theorem write_any (B b : Nat) (bs : List Value) (s : ByteArray) (w : World) (h : Lib.IsBuilder tBld tU8 B b bs w) (hlen : bs.length + s.size ≤ 140737488355328) (hBw : B ≤ w.heap.size) :
    Calls Tryz.prog 37 #[.pointer (some ⟨b, 0, none⟩), .string s] w fun e w' => e = .returned (.tuple #[.int .i64 s.size, .nilIface]) ∧ (Lib.IsBuilder tBld tU8 B b (bs ++ Lib.strCells s) w' ∧ Below B w w' ∧ Lib.OthersKept tU8 (some b) w w') := by
  obtain ⟨i0, hi, hz0, hz1, hz2⟩ := info_parts infoU8
  have HCC := Lib.hid (copy_any B b bs w h)
  go_enter Tryz.func37, Tryz.ntmps37
  go_wp2_with fail
  refine HCC.out.mono ?_
  rintro e w1 ⟨rfl, h1, hb1, hk1⟩
  obtain ⟨hB, v, hbk, hown, hne⟩ := h1
  have c0 : w1.cell? ⟨b, 0, none⟩ = some (.pointer (some ⟨b, 0, none⟩)) := by rw [Lib.cell_of_heap hbk]; rfl
  have c1 : w1.cell? ⟨b, 1, none⟩ = some v := by rw [Lib.cell_of_heap hbk]; rfl
  go_wp2_with (at_builtin; refine Lib.wpList_append_own_string _ rfl _ _ 56 9 rfl B tU8 i0 Tryz.underlying56 Tryz.underlying9 hi hz0 hz1 hz2 _ _ _ rfl hown s rfl ?c3 ?c4 ?c5 ?_)
  case c3 => unfold maxLen; omega
  case c4 => omega
  case c5 => have := hb1.size; omega
  intro v' w2 hown' hgrow _
  have hlt : b < w1.heap.size := by
    rcases Nat.lt_or_ge b w1.heap.size with h' | h'
    · exact h'
    · simp [Array.getElem?_eq_none h'] at hbk
  have hb2 : w2.heap[b]? = some (.cells #[.pointer (some ⟨b, 0, none⟩), v] tBld (0, 0)) := by
    rw [hgrow.block b hlt (fun e => hne e.symm)]
    exact hbk
  have d0 : w2.cell? ⟨b, 0, none⟩ = some (.pointer (some ⟨b, 0, none⟩)) := by rw [Lib.cell_of_heap hb2]; rfl
  have d1 : w2.cell? ⟨b, 1, none⟩ = some v := by rw [Lib.cell_of_heap hb2]; rfl
  have f1 : w2.frozen? ⟨b, 1, none⟩ = false := Lib.frozen_of_heap hb2 1
  obtain ⟨ao, n', cap, rfl⟩ : ∃ ao n' cap, v' = .slice ao n' cap := by
    rcases hown'.2 with ⟨hv, _⟩ | ⟨g, cap, cur, hv, _⟩
    · exact ⟨_, _, _, hv⟩
    · exact ⟨_, _, _, hv⟩
  go_wp2
  go_ret2
  refine ⟨rfl, .inr ?_, ?_, (hk1.grown hgrow (fun g hg => by obtain ⟨_, _, cur, h⟩ := own_block hown hg; exact ⟨cur, (0, 0), h⟩)).setCell ⟨b, 1, none⟩ rfl _⟩
  · exact Lib.BuilderAt.put (T := tBld) (e := tU8) hB hb2 (bs' := bs ++ Lib.strCells s) (by simpa [Lib.strCells_length] using hown') (by decide)
  · exact (hb1.grown hgrow (by have := hb1.size; omega) (fun k hk => (hown.lt k hk).1)).setCell (p := ⟨b, 1, none⟩) hB _
theorem builder_new (w : World) : Lib.IsBuilder tBld tU8 w.heap.size w.heap.size [] (w.alloc (.cells #[.pointer none, .slice none 0 0] tBld)) :=
  .inl ⟨Nat.le_refl _, .slice none 0 0, (Go.MapKept.heap_alloc w _).1, World.ownsRow_nil _ _ _ _, by simp [Value.ownBlock]⟩
end Go.Proofs.YtkbamneecfmibaaGreatDoor
namespace Go.Proofs.YtkbamneecfmibaaGreatDoor
open Go.RowKit
open C

theorem bytes_app (a b : Bs) : Lib.byteCells (a ++ b) = Lib.byteCells a ++ Lib.byteCells b := by simp [Lib.byteCells]
theorem strCells_of (s : ByteArray) : Lib.strCells s = Lib.byteCells s.data.toList := rfl
theorem kept_of_below {e : TypeId} {b : Option Nat} {w w1 : World} (h : Below w.heap.size w w1) : Lib.OthersKept e b w w1 := fun k o hk _ _ => by
  rw [h.block k (Array.getElem?_eq_some_iff.1 hk).1]; exact hk
theorem bld_below {B b : Nat} {l : List Value} {w w1 : World} (h : Lib.IsBuilder tBld tU8 B b l w) (hb : Below w.heap.size w w1) : Lib.IsBuilder tBld tU8 B b l w1 := by
  have g : ∀ p, Lib.BuilderAt tBld tU8 B b p l w → Lib.BuilderAt tBld tU8 B b p l w1 := fun p ⟨hB, v, h1, h2, h3⟩ => ⟨hB, v, by rw [hb.block b (Array.getElem?_eq_some_iff.1 h1).1]; exact h1, own_below h2 hb, h3⟩
  exact h.imp (g _) (g _)
theorem text_take {ms : List Mdl} {i : Nat} {m : Mdl} (h : ms[i]? = some m) : textOf (ms.take (i + 1)) = textOf (ms.take i) ++ modText m := by
  obtain ⟨hi, rfl⟩ := List.getElem?_eq_some_iff.1 h
  unfold textOf
  rw [List.take_succ_eq_append_getElem hi, List.flatMap_append, List.flatMap_singleton]
theorem users_take {us : List Usr} {i : Nat} {u : Usr} (h : us[i]? = some u) : (us.take (i + 1)).flatMap userText = (us.take i).flatMap userText ++ userText u := by
  obtain ⟨hi, rfl⟩ := List.getElem?_eq_some_iff.1 h
  rw [List.take_succ_eq_append_getElem hi, List.flatMap_append, List.flatMap_singleton]
theorem text_le {ms : List Mdl} {i : Nat} : (textOf (ms.take i)).length ≤ (textOf ms).length := by
  have h := List.flatMap_append (xs := ms.take i) (ys := ms.drop i) (f := modText)
  rw [List.take_append_drop] at h
  unfold textOf
  rw [h, List.length_append]
  omega
theorem mod_le {ms : List Mdl} {i : Nat} {m : Mdl} (h : ms[i]? = some m) : (textOf (ms.take i)).length + (modText m).length ≤ (textOf ms).length := by
  have := text_le (ms := ms) (i := i + 1)
  rw [text_take h, List.length_append] at this
  exact this

/-- Text's state: what the builder b holds, and the module's variable g5. -/
structure TS (w : World) (b g5 : Nat) (cs : Array Value) (acc : Bs) (wx : World) : Prop where
  bld : Lib.IsBuilder tBld tU8 b b (Lib.byteCells acc) wx
  bel : Below w.heap.size w wx
  blk : wx.heap[g5]? = some (.cells cs tMod (0, 0))
  hb : w.heap.size ≤ b
  hg : b < g5
theorem TS.below {w wx w1 : World} {b g5 : Nat} {cs : Array Value} {acc : Bs} (h : TS w b g5 cs acc wx) (hb : Below wx.heap.size wx w1) : TS w b g5 cs acc w1 :=
  ⟨bld_below h.bld hb, h.bel.trans (hb.mono h.bel.size), by rw [hb.block g5 (Array.getElem?_eq_some_iff.1 h.blk).1]; exact h.blk, h.hb, h.hg⟩
theorem TS.lt {w wx : World} {b g5 : Nat} {cs : Array Value} {acc : Bs} (h : TS w b g5 cs acc wx) : g5 < wx.heap.size := (Array.getElem?_eq_some_iff.1 h.blk).1
theorem TS.write {w wx : World} {b g5 : Nat} {cs : Array Value} {acc : Bs} (h : TS w b g5 cs acc wx) (s : ByteArray) (hl : acc.length + s.size ≤ 100000000) :
    Calls Tryz.prog 37 #[.pointer (some ⟨b, 0, none⟩), .string s] wx fun e w' => e = .returned (.tuple #[.int .i64 s.size, .nilIface]) ∧ TS w b g5 cs (acc ++ s.data.toList) w' := by
  have hlt := h.lt
  refine (write_any b b _ s wx h.bld (by rw [Lib.byteCells_length]; omega) (by have := h.hg; omega)).mono ?_
  rintro e w' ⟨rfl, h1, h2, h3⟩
  refine ⟨rfl, by rw [bytes_app]; exact h1, h.bel.trans (h2.mono h.hb), h3 g5 _ h.blk (by intro e; injection e with e; have := h.hg; omega) (fun c fz e => by injection e with _ e _; exact absurd e (by decide)), h.hb, h.hg⟩
theorem TS.cells {w wx : World} {b g5 : Nat} {a0 a1 a2 a3 a4 a5 : Value} {acc : Bs} (h : TS w b g5 #[a0, a1, a2, a3, a4, a5] acc wx) :
    wx.cell? ⟨g5, 0, none⟩ = some a0 ∧ wx.cell? ⟨g5, 1, none⟩ = some a1 ∧ wx.cell? ⟨g5, 2, none⟩ = some a2 ∧ wx.cell? ⟨g5, 3, none⟩ = some a3 ∧ wx.cell? ⟨g5, 4, none⟩ = some a4 ∧ wx.cell? ⟨g5, 5, none⟩ = some a5 := by
  have hc := fun j => Lib.cell_of_heap h.blk j
  exact ⟨hc 0, hc 1, hc 2, hc 3, hc 4, hc 5⟩
theorem itoa_small {n : Int} (h0 : 0 ≤ n) (h1 : n ≤ 1000000) : (Lib.itoa n).length ≤ 100 := by
  obtain ⟨k, rfl⟩ := Int.eq_ofNat_of_zero_le h0
  have e : Lib.itoa (k : Int) = Lib.decDigits k := rfl
  rw [e]
  exact Nat.le_trans (dec_len 7 k (by omega)) (by omega)

theorem L4 : (⟨#[10, 115, 108, 111, 116, 115, 32, 61, 32]⟩ : ByteArray).size = 9 := rfl
theorem L5 : (⟨#[10, 113, 117, 111, 116, 97, 32, 61, 32]⟩ : ByteArray).size = 9 := rfl
theorem L6 : (⟨#[10]⟩ : ByteArray).size = 1 := rfl
theorem L7 : (⟨#[117, 115, 101, 114, 32, 61, 32]⟩ : ByteArray).size = 7 := rfl
theorem L8 : (⟨#[58]⟩ : ByteArray).size = 1 := rfl
theorem L1 : (⟨#[91]⟩ : ByteArray).size = 1 := rfl
theorem L2 : (⟨#[93, 10, 114, 111, 111, 116, 32, 61, 32]⟩ : ByteArray).size = 9 := rfl
theorem L3 : (⟨#[10, 119, 114, 105, 116, 101, 32, 61, 32]⟩ : ByteArray).size = 9 := rfl
set_option maxRecDepth 100000 in
set_option maxHeartbeats 2000000 in
theorem text_any (mv : Value) (ms : List Mdl) (w : World) (hr : RdMod w mv ms) (hG : GW w) (hsq : ∀ m ∈ ms, (0 ≤ m.slots ∧ m.slots ≤ 1000000) ∧ 0 ≤ m.quota ∧ m.quota ≤ 1000000) (hlen : (textOf ms).length ≤ 1000000) :
    Calls Tryz.prog 19 #[.agg #[mv]] w fun e w' => e = .returned (.string (bs (textOf ms))) ∧ Below w.heap.size w w' := by
  obtain ⟨A, c, rfl, hc, hcm, hr⟩ := hr
  have HR := Lib.hid hr
  have HG := Lib.hid hG
  have HSQ := Lib.hid hsq
  clear hr hG hsq
  go_enter Tryz.func19, Tryz.ntmps19
  go_wp2_with fail
  have HW1 : Hid (Below w.heap.size w ((w.alloc (.cells #[.slice A ms.length c] 25)).alloc (.cells #[.pointer none, .slice none 0 0] tBld))) := Lib.hid (((Below.refl _ _).alloc (Nat.le_refl _) _).alloc (by simp) _)
  have HNEW : Hid (Lib.IsBuilder tBld tU8 (w.heap.size + 1) (w.heap.size + 1) (Lib.byteCells (textOf (ms.take 0))) ((w.alloc (.cells #[.slice A ms.length c] 25)).alloc (.cells #[.pointer none, .slice none 0 0] tBld))) := Lib.hid (by
    have h := builder_new (w.alloc (.cells #[.slice A ms.length c] 25))
    rw [show (w.alloc (.cells #[.slice A ms.length c] 25)).heap.size = w.heap.size + 1 from by simp] at h
    exact h)
  go_loopw [11] (fun iv wr => ∃ i : Nat, i ≤ ms.length ∧ iv = .int .i64 i ∧ w.heap.size + 2 ≤ wr.heap.size ∧ Hid (Lib.IsBuilder tBld tU8 (w.heap.size + 1) (w.heap.size + 1) (Lib.byteCells (textOf (ms.take i))) wr) ∧ Hid (Below w.heap.size w wr)) (fun iv _ => ms.length - (intOf iv).toNat)
  case atStart => exact ⟨0, by omega, rfl, by simp, HNEW.out |> Lib.hid, HW1⟩
  case round =>
    obtain ⟨i, hi, rfl, hszr, HBL, HB⟩ := hrel
    by_cases hlt : i < ms.length
    · obtain ⟨g, o, hA, hcell⟩ := HR.out (by intro e; rw [e] at hlt; simp at hlt)
      have hu : ms[i]? = some ms[i] := List.getElem?_eq_getElem hlt
      subst hA
      obtain ⟨d0, d1, d2, d3, d4, uv, d5, hus⟩ := hcell i _ hu
      have hm := HSQ.out _ (List.mem_of_getElem? hu)
      have HU := Lib.hid hu
      clear hu hcell
      generalize ms[i] = m at d0 d1 d2 d3 d4 d5 hus hm HU
      have hgl : g < w.heap.size := cell_lt d0
      have z0 := Below.cell_some HB.out (Nat.le_refl _) d0
      have z1 := Below.cell_some HB.out (Nat.le_refl _) d1
      have z2 := Below.cell_some HB.out (Nat.le_refl _) d2
      have z3 := Below.cell_some HB.out (Nat.le_refl _) d3
      have z4 := Below.cell_some HB.out (Nat.le_refl _) d4
      have z5 := Below.cell_some HB.out (Nat.le_refl _) d5
      obtain ⟨A5, c5, huv, hus2, _, hus3⟩ := hus
      subst huv
      have HUS := Lib.hid hus3
      have hml := mod_le HU.out
      have hgr : g < wr.heap.size := by omega
      have hmn : m.name.length + m.root.length ≤ 1000000 := by
        unfold modText at hml
        simp only [List.length_append] at hml
        omega
      have hs1 : (bs m.name).size = m.name.length := rfl
      have hs2 : (bs m.root).size = m.root.length := rfl
      have HN1 : Hid ((bs m.name).data.toList = m.name) := Lib.hid rfl
      have HN2 : Hid ((bs m.root).data.toList = m.root) := Lib.hid rfl
      clear d0 d1 d2 d3 d4 d5 hus3
      generalize bs m.name = nmv at z0 hs1 HN1
      generalize bs m.root = rtv at z1 hs2 HN2
      obtain ⟨wo, rfl⟩ : ∃ wo : World, wo = wr := ⟨_, rfl⟩
      have hMT : modText m = [91] ++ m.name ++ [93, 10, 114, 111, 111, 116, 32, 61, 32] ++ m.root ++ [10, 119, 114, 105, 116, 101, 32, 61, 32] ++ (if m.write then [121, 101, 115] else [110, 111]) ++ [10, 115, 108, 111, 116, 115, 32, 61, 32] ++ Lib.itoa m.slots ++ [10, 113, 117, 111, 116, 97, 32, 61, 32] ++ Lib.itoa m.quota ++ [10] ++ m.users.flatMap userText := rfl
      have HMT := Lib.hid hMT
      have hits := itoa_small hm.1.1 hm.1.2
      have hitq := itoa_small hm.2.1 hm.2.2
      have hacc := Nat.le_trans (Nat.le_add_right _ _) hml
      have hul : (m.users.flatMap userText).length ≤ 1000000 := by
        rw [hMT] at hml
        simp only [List.length_append] at hml
        omega
      have HITS := Lib.hid (fun (wc : World) (hg : GW wc) => itoa_any m.slots (by omega) (by omega) wc hg)
      have HITQ := Lib.hid (fun (wc : World) (hg : GW wc) => itoa_any m.quota (by omega) (by omega) wc hg)
      generalize m.write = wb at z2 HMT
      obtain ⟨sl, hsl⟩ : ∃ x, m.slots = x := ⟨_, rfl⟩
      obtain ⟨qt, hqt⟩ : ∃ x, m.quota = x := ⟨_, rfl⟩
      rw [hsl] at z3 HMT HITS hits
      rw [hqt] at z4 HMT HITQ hitq
      have HB0 : Hid (Below w.heap.size w (wo.alloc (.cells #[.string nmv, .string rtv, .bool wb, .int .i64 sl, .int .i64 qt, .slice A5 m.users.length c5] 41))) := Lib.hid (HB.out.alloc (by omega) _)
      have HTS0 : Hid (TS w (w.heap.size + 1) wo.heap.size #[.string nmv, .string rtv, .bool wb, .int .i64 sl, .int .i64 qt, .slice A5 m.users.length c5] (textOf (ms.take i)) (wo.alloc (.cells #[.string nmv, .string rtv, .bool wb, .int .i64 sl, .int .i64 qt, .slice A5 m.users.length c5] 41))) := Lib.hid ⟨bld_below HBL.out ((Below.refl _ _).alloc (Nat.le_refl _) _), HB0.out, (Go.MapKept.heap_alloc wo _).1, by omega, by omega⟩
      clear hm hMT hsl hqt
      go_wp2_with fail
      refine (HTS0.out.write _ (by simp only [ByteArray.size_append, L1, L2, L3]; omega)).mono ?_
      rintro e w1 ⟨rfl, hts1⟩
      have HTS1 := Lib.hid hts1
      obtain ⟨v0, v1, v2, v3, v4, v5⟩ := hts1.cells
      have hlt1 := hts1.lt
      clear hts1 z0 z1 z2 z3 z4 z5
      obtain ⟨acc1, hacc1⟩ : ∃ a, textOf (ms.take i) ++ (⟨#[91]⟩ ++ nmv ++ ⟨#[93, 10, 114, 111, 111, 116, 32, 61, 32]⟩ ++ rtv ++ ⟨#[10, 119, 114, 105, 116, 101, 32, 61, 32]⟩ : ByteArray).data.toList = a := ⟨_, rfl⟩
      have ha1 : acc1.length ≤ 3000000 := by
        have hsz : ∀ s : ByteArray, s.data.toList.length = s.size := fun s => Array.length_toList
        rw [← hacc1, List.length_append, hsz]
        simp only [ByteArray.size_append, L1, L2, L3]
        omega
      rw [hacc1] at HTS1
      have HA1 := Lib.hid hacc1
      clear hacc1
      go_upto_if 25 with fail
      go_cut [] (fun wx => Hid (TS w (w.heap.size + 1) wo.heap.size #[.string nmv, .string rtv, .bool wb, .int .i64 sl, .int .i64 qt, .slice A5 m.users.length c5] (acc1 ++ (if wb then [121, 101, 115] else [110, 111])) wx))
      case first =>
        cases wb with
        | true =>
          go_wp2_with fail
          refine (HTS1.out.write _ (by show _ + 3 ≤ _; omega)).mono ?_
          rintro e w2 ⟨rfl, hts2⟩
          have HTS2 := Lib.hid hts2
          clear hts2
          go_wp2_with fail
          go_meet
          exact HTS2.out |> Lib.hid
        | false =>
          go_wp2_with fail
          refine (HTS1.out.write _ (by show _ + 2 ≤ _; omega)).mono ?_
          rintro e w2 ⟨rfl, hts2⟩
          have HTS2 := Lib.hid hts2
          clear hts2
          go_wp2_with fail
          go_meet
          exact HTS2.out |> Lib.hid
      case rest =>
        clear v0 v1 v2 v3 v4 v5
        have HT2 := hcut
        obtain ⟨acc2, hacc2⟩ : ∃ a, acc1 ++ (if wb then [121, 101, 115] else [110, 111]) = a := ⟨_, rfl⟩
        have ha2 : acc2.length ≤ 3000003 := by
          rw [← hacc2, List.length_append]
          cases wb <;> simp <;> omega
        rw [hacc2] at HT2
        have HA2 := Lib.hid hacc2
        obtain ⟨ts, hts⟩ : ∃ x, bs (Lib.itoa sl) = x := ⟨_, rfl⟩
        obtain ⟨tq, htq⟩ : ∃ x, bs (Lib.itoa qt) = x := ⟨_, rfl⟩
        have hss : ts.size ≤ 100 := by rw [← hts]; exact hits
        have hsq : tq.size ≤ 100 := by rw [← htq]; exact hitq
        have HDS : Hid (ts.data.toList = Lib.itoa sl) := Lib.hid (by rw [← hts]; rfl)
        have HDQ : Hid (tq.data.toList = Lib.itoa qt) := Lib.hid (by rw [← htq]; rfl)
        have HGC := Lib.hid (HG.out.below HT2.out.bel)
        have HIS : Hid (∀ w' : World, Below wc.heap.size wc w' → Calls Tryz.prog 38 #[.int .i64 sl] w' fun e w'' => e = .returned (.string ts) ∧ Below wc.heap.size wc w'') := Lib.hid (fun w' hb => (HITS.out w' (HGC.out.below hb)).mono (fun e w'' ⟨t, h1, h2, h3⟩ => ⟨by rw [h2, ← hts, ← h1]; rfl, hb.trans (h3.mono hb.size)⟩))
        have HIQ : Hid (∀ w' : World, Below wc.heap.size wc w' → Calls Tryz.prog 38 #[.int .i64 qt] w' fun e w'' => e = .returned (.string tq) ∧ Below wc.heap.size wc w'') := Lib.hid (fun w' hb => (HITQ.out w' (HGC.out.below hb)).mono (fun e w'' ⟨t, h1, h2, h3⟩ => ⟨by rw [h2, ← htq, ← h1]; rfl, hb.trans (h3.mono hb.size)⟩))
        have HWS : Hid (∀ w' : World, Below wc.heap.size wc w' → Calls Tryz.prog 37 #[.pointer (some ⟨w.heap.size + 1, 0, none⟩), .string (⟨#[10, 115, 108, 111, 116, 115, 32, 61, 32]⟩ ++ ts ++ ⟨#[10, 113, 117, 111, 116, 97, 32, 61, 32]⟩ ++ tq ++ ⟨#[10]⟩ : ByteArray)] w' fun e w'' => e = .returned (.tuple #[.int .i64 ((⟨#[10, 115, 108, 111, 116, 115, 32, 61, 32]⟩ ++ ts ++ ⟨#[10, 113, 117, 111, 116, 97, 32, 61, 32]⟩ ++ tq ++ ⟨#[10]⟩ : ByteArray)).size, .nilIface]) ∧ Hid (TS w (w.heap.size + 1) wo.heap.size #[.string nmv, .string rtv, .bool wb, .int .i64 sl, .int .i64 qt, .slice A5 m.users.length c5] (acc2 ++ ((⟨#[10, 115, 108, 111, 116, 115, 32, 61, 32]⟩ ++ ts ++ ⟨#[10, 113, 117, 111, 116, 97, 32, 61, 32]⟩ ++ tq ++ ⟨#[10]⟩ : ByteArray)).data.toList) w'')) := Lib.hid (fun w' hb => ((HT2.out.below hb).write _ (by simp only [ByteArray.size_append, L4, L5, L6]; omega)).mono (fun e w'' h => ⟨h.1, Lib.hid h.2⟩))
        have HC : Hid (∀ w' : World, Below wc.heap.size wc w' → w'.cell? ⟨wo.heap.size, 3, none⟩ = some (.int .i64 sl) ∧ w'.cell? ⟨wo.heap.size, 4, none⟩ = some (.int .i64 qt)) := Lib.hid (fun w' hb => ⟨(HT2.out.below hb).cells.2.2.2.1, (HT2.out.below hb).cells.2.2.2.2.1⟩)
        obtain ⟨_, _, _, v3, v4, _⟩ := HT2.out.cells
        have hltc := HT2.out.lt
        clear hacc2 hts htq hcut HITS HITQ
        go_upto_region 9 with fail
        go_cut [] from 28 to 38 (fun wx => Hid (TS w (w.heap.size + 1) wo.heap.size #[.string nmv, .string rtv, .bool wb, .int .i64 sl, .int .i64 qt, .slice A5 m.users.length c5] (acc2 ++ ((⟨#[10, 115, 108, 111, 116, 115, 32, 61, 32]⟩ ++ ts ++ ⟨#[10, 113, 117, 111, 116, 97, 32, 61, 32]⟩ ++ tq ++ ⟨#[10]⟩ : ByteArray)).data.toList) wx))
        case first =>
          have hb0 : Below wc.heap.size wc wc.drew := (Below.refl _ _).drew
          have b1 : ¬ 9223372036854775807 < 9 + ts.size := by omega
          have b2 : ¬ 9223372036854775807 < 9 + ts.size + 9 := by omega
          have b3 : ¬ 9223372036854775807 < 9 + ts.size + 9 + tq.size := by omega
          have b4 : ¬ 9223372036854775807 < 9 + ts.size + 9 + tq.size + 1 := by omega
          have HC2 : Hid (∀ w' : World, Hid (TS w (w.heap.size + 1) wo.heap.size #[.string nmv, .string rtv, .bool wb, .int .i64 sl, .int .i64 qt, .slice A5 m.users.length c5] (acc2 ++ ((⟨#[10, 115, 108, 111, 116, 115, 32, 61, 32]⟩ ++ ts ++ ⟨#[10, 113, 117, 111, 116, 97, 32, 61, 32]⟩ ++ tq ++ ⟨#[10]⟩ : ByteArray)).data.toList) w') → w'.cell? ⟨wo.heap.size, 3, none⟩ = some (.int .i64 sl) ∧ w'.cell? ⟨wo.heap.size, 4, none⟩ = some (.int .i64 qt)) := Lib.hid (fun w' h => ⟨h.out.cells.2.2.2.1, h.out.cells.2.2.2.2.1⟩)
          go_region_held3 (fun w' => w'.cell? ⟨wo.heap.size, 3, none⟩ = some (.int .i64 sl) ∧ w'.cell? ⟨wo.heap.size, 4, none⟩ = some (.int .i64 qt))
            (first | (refine HC.out _ ?_; with_reducible assumption) | (refine HC2.out _ ?_; with_reducible assumption))
            (first | (go_at_call_of 38 sl; refine (HIS.out _ (by with_reducible assumption)).mono ?_; rintro e wt ⟨rfl, hbt⟩) | (go_at_call_of 38 qt; refine (HIQ.out _ (by with_reducible assumption)).mono ?_; rintro e wt ⟨rfl, hbt⟩) | (go_at_call 37; refine (HWS.out _ (by with_reducible assumption)).mono ?_; rintro e wt ⟨rfl, hts9⟩))
          all_goals (go_wp2_with fail; go_meet; exact hts9)
        case rest =>
          have HT3 := hcut
          obtain ⟨acc3, hacc3⟩ : ∃ a, acc2 ++ ((⟨#[10, 115, 108, 111, 116, 115, 32, 61, 32]⟩ ++ ts ++ ⟨#[10, 113, 117, 111, 116, 97, 32, 61, 32]⟩ ++ tq ++ ⟨#[10]⟩ : ByteArray)).data.toList = a := ⟨_, rfl⟩
          have ha3 : acc3.length ≤ 3000303 := by
            have hsz : ∀ s : ByteArray, s.data.toList.length = s.size := fun s => Array.length_toList
            rw [← hacc3, List.length_append, hsz]
            simp only [ByteArray.size_append, L4, L5, L6]
            omega
          rw [hacc3] at HT3
          have hfin : acc3 ++ m.users.flatMap userText = textOf (ms.take (i + 1)) := by
            rw [← hacc3, ← HA2.out, ← HA1.out, text_take HU.out, HMT.out]
            simp only [append_data, HN1.out, HN2.out, HDS.out, HDQ.out, List.append_assoc]
          have HFIN := Lib.hid hfin
          obtain ⟨_, _, _, _, _, y5⟩ := HT3.out.cells
          have hlt3 := HT3.out.lt
          clear hacc3 hfin hcut v3 v4 HIS HIQ HWS HC HGC hltc
          go_wp2_with fail
          go_loopw [42] (fun iv wr => ∃ k : Nat, k ≤ m.users.length ∧ iv = .int .i64 k ∧ Hid (TS w (w.heap.size + 1) wo.heap.size #[.string nmv, .string rtv, .bool wb, .int .i64 sl, .int .i64 qt, .slice A5 m.users.length c5] (acc3 ++ (m.users.take k).flatMap userText) wr)) (fun iv _ => m.users.length - (intOf iv).toNat)
          case atStart => exact ⟨0, by omega, rfl, Lib.hid (by rw [List.take_zero, List.flatMap_nil, List.append_nil]; exact HT3.out)⟩
          case round =>
            obtain ⟨k, hk, rfl, HTK⟩ := hrel
            by_cases hkt : k < m.users.length
            · obtain ⟨gu, ou, hA5, hcu⟩ := HUS.out (by intro e; rw [e] at hkt; simp at hkt)
              subst hA5
              have huu : m.users[k]? = some m.users[k] := List.getElem?_eq_getElem hkt
              obtain ⟨e0, e1⟩ := hcu k _ huu
              have HUU := Lib.hid huu
              clear hcu huu
              generalize m.users[k] = u at e0 e1 HUU
              have hgu : gu < w.heap.size := cell_lt e0
              have s0 := Below.cell_some HTK.out.bel (Nat.le_refl _) e0
              have s1 := Below.cell_some HTK.out.bel (Nat.le_refl _) e1
              have hltk := HTK.out.lt
              have hgu2 : gu < wr.heap.size := by omega
              have hle : ((m.users.take k).flatMap userText).length + (userText u).length ≤ 1000000 := by
                have h1 := List.flatMap_append (xs := m.users.take (k + 1)) (ys := m.users.drop (k + 1)) (f := userText)
                rw [List.take_append_drop] at h1
                rw [h1, users_take HUU.out] at hul
                simp only [List.length_append] at hul ⊢
                omega
              have hue : (userText u).length = 7 + u.name.length + 1 + u.secret.length + 1 := by simp [userText]; omega
              have hn1 : (bs u.name).size = u.name.length := rfl
              have hn2 : (bs u.secret).size = u.secret.length := rfl
              have HQ1 : Hid ((bs u.name).data.toList = u.name) := Lib.hid rfl
              have HQ2 : Hid ((bs u.secret).data.toList = u.secret) := Lib.hid rfl
              have haccl : (acc3 ++ (m.users.take k).flatMap userText).length ≤ 4000303 := by rw [List.length_append]; omega
              generalize bs u.name = unv at s0 hn1 HQ1
              generalize bs u.secret = usv at s1 hn2 HQ2
              clear e0 e1
              have HWU := Lib.hid ((HTK.out.below ((Below.refl _ _).alloc (Nat.le_refl _) (.cells #[.string unv, .string usv] 54))).write (⟨#[117, 115, 101, 114, 32, 61, 32]⟩ ++ unv ++ ⟨#[58]⟩ ++ usv ++ ⟨#[10]⟩ : ByteArray) (by simp only [ByteArray.size_append, L7, L8, L6]; omega))
              have HNX : Hid (acc3 ++ (m.users.take k).flatMap userText ++ ((⟨#[117, 115, 101, 114, 32, 61, 32]⟩ ++ unv ++ ⟨#[58]⟩ ++ usv ++ ⟨#[10]⟩ : ByteArray)).data.toList = acc3 ++ (m.users.take (k + 1)).flatMap userText) := Lib.hid (by
                rw [users_take HUU.out]
                simp only [append_data, HQ1.out, HQ2.out, List.append_assoc, userText])
              go_wp2_with fail
              refine HWU.out.mono ?_
              rintro e w6 ⟨rfl, hts6⟩
              have HT6 := Lib.hid hts6
              clear hts6 HWU
              go_wp2_with fail
              go_roundw
              case rel => exact ⟨k + 1, by omega, by go_num, Lib.hid (by rw [← HNX.out]; exact HT6.out)⟩
              case measure => simp [intOf]; omega
            · have hke : m.users.take k = m.users := List.take_of_length_le (by omega)
              rw [hke] at HTK
              have hltk := HTK.out.lt
              have hgk := HTK.out.hg
              go_wp2_with fail
              go_roundw
              case rel => exact ⟨i + 1, by omega, by go_num, by omega, Lib.hid (by rw [← HFIN.out]; exact HTK.out.bld), Lib.hid HTK.out.bel⟩
              case measure => simp [intOf]; omega
    · have hie : ms.take i = ms := List.take_of_length_le (by omega)
      rw [hie] at HBL
      have HST := Lib.hid (Tryz.Builder_String_any (w.heap.size + 1) (w.heap.size + 1) (textOf ms) wr HBL.out (by omega))
      go_wp2_with fail
      refine HST.out.mono ?_
      rintro e w9 ⟨rfl, hb9⟩
      have HB9 := Lib.hid (HB.out.trans (hb9.mono (by omega)))
      clear hb9
      go_wp2_with fail
      go_ret
      exact ⟨rfl, HB9.out⟩
end Go.Proofs.YtkbamneecfmibaaGreatDoor
namespace Go.Proofs.YtkbamneecfmibaaGreatDoor
open Go.RowKit
open C

/-- The line that the law lays ahead, the i-th one. -/
def aheadB (i : Nat) : Bs := if i % 2 = 0 then [32, 32, 35, 32, 120, 32, 61, 32, 91, 121, 93] else [32, 32, 32]
def aheadL (n : Nat) : List Bs := (List.range n).map aheadB
theorem aheadL_succ (n : Nat) : (aheadL (n + 1)).flatMap (fun b => b ++ [10]) = (aheadL n).flatMap (fun b => b ++ [10]) ++ (aheadB n ++ [10]) := by
  unfold aheadL
  rw [List.range_succ, List.map_append, List.flatMap_append, List.map_singleton, List.flatMap_singleton]
theorem aheadL_len (n : Nat) : (aheadL n).length = n := by simp [aheadL]
theorem ahead_blank (n : Nat) : ∀ b ∈ aheadL n, blankL b := by
  intro b hb
  obtain ⟨i, _, rfl⟩ := List.mem_map.1 hb
  unfold aheadB
  split
  · exact ⟨.inr ⟨[32, 120, 32, 61, 32, 91, 121, 93], by decide⟩, by decide⟩
  · exact ⟨.inl (by decide), by decide⟩
theorem tmod_two (i : Nat) : Int.tmod (i : Int) 2 = ((i % 2 : Nat) : Int) := rfl

theorem goLines_le : ∀ (ls : List Bs) (i : Nat) (ms : List Mdl) (seen : List Bs), (goLines i ls ms seen).2.1 ≤ i + ls.length
  | [], i, ms, seen => Nat.zero_le _
  | l :: ls, i, ms, seen => by
    show (if (lineStep ms seen l).1 = 0 then goLines (i + 1) ls (lineStep ms seen l).2.1 (lineStep ms seen l).2.2 else ((lineStep ms seen l).1, i, [])).2.1 ≤ _
    by_cases h0 : (lineStep ms seen l).1 = 0
    · rw [if_pos h0, List.length_cons]
      have := goLines_le ls (i + 1) (lineStep ms seen l).2.1 (lineStep ms seen l).2.2
      omega
    · rw [if_neg h0]
      exact Nat.le_add_right _ _
theorem checkFrom_le : ∀ (ms pre : List Mdl) (i : Nat), (checkFrom i pre ms).2 ≤ i + ms.length
  | [], pre, i => Nat.zero_le _
  | m :: ms, pre, i => by
    unfold checkFrom
    split
    · exact Nat.le_add_right _ _
    · split
      · exact Nat.le_add_right _ _
      · have := checkFrom_le ms (pre ++ [m]) (i + 1)
        rw [List.length_cons]
        omega
theorem parse_place (t : Bs) : (C.parse t).2.1 ≤ t.length + 10 := by
  have hs := parse_small t
  unfold C.parse
  by_cases h1 : 8192 < t.length
  · rw [if_pos h1]; exact Nat.zero_le _
  · rw [if_neg h1]
    simp only
    have hg := goLines_le (splitOn 10 t) 0 [] []
    have hl := (rsplit_len 10 t).1
    have hm := (goLines_smallMs (splitOn 10 t) 0 [] [] ⟨Nat.zero_le _, fun m hm => by cases hm⟩).1
    split
    · split
      · exact Nat.zero_le _
      · have := checkFrom_le (goLines 0 (splitOn 10 t) [] []).2.2 [] 0
        show (checkFrom 0 [] (goLines 0 (splitOn 10 t) [] []).2.2).2 ≤ _
        omega
    · show (goLines 0 (splitOn 10 t) [] []).2.1 ≤ _
      omega
/-- What conf.Parse hands back, for its callers. -/
theorem pparse_use {t : Bs} {w w2 : World} {v ev : Value} (h : ((C.parse t).1 = 0 ∧ ev = .nilIface ∧ ∃ L, L.map (·.1) = (C.parse t).2.2 ∧ OwnMods w2 w.heap.size v L) ∨
     ((C.parse t).1 ≠ 0 ∧ v = .slice none 0 0 ∧ ∃ fb, ev = .iface tFaultP (.pointer (some ⟨fb, 0, none⟩)) ∧ w2.cell? ⟨fb, 0, none⟩ = some (.int .i64 (C.parse t).2.1) ∧ w2.cell? ⟨fb, 1, none⟩ = some (.int .i64 (C.parse t).1))) :
    (∃ Av nv cv, v = .slice Av nv cv) ∧ RdMod w2 v (C.parse t).2.2 ∧ ErrV w2 ev (C.parse t).1 ∧ (((C.parse t).1 = 0 ∧ ev = .nilIface) ∨ ((C.parse t).1 ≠ 0 ∧ ∃ fb, ev = .iface tFaultP (.pointer (some ⟨fb, 0, none⟩)) ∧ w2.cell? ⟨fb, 0, none⟩ = some (.int .i64 (C.parse t).2.1))) := by
  rcases h with ⟨h0, rfl, L, hL, hown⟩ | ⟨h0, rfl, fb, rfl, f0, f1⟩
  · obtain ⟨Av, cv, hv⟩ := own_slice hown.row
    refine ⟨⟨Av, _, cv, hv⟩, by rw [← hL]; exact hown.rd, by rw [h0]; exact .nil, .inl ⟨h0, rfl⟩⟩
  · exact ⟨⟨none, 0, 0, rfl⟩, by rw [parse_nil h0]; exact rdmod_nil _, .fault ⟨fb, 0, none⟩ _ f1, .inr ⟨h0, fb, rfl, f0⟩⟩

set_option maxRecDepth 100000 in
set_option maxHeartbeats 2000000 in
theorem lines_any (text : ByteArray) (front : Int) (w : World) (hG : GW w) :
    Calls Tryz.prog 8 #[.string text, .int .i64 front] w fun e w' => e = .returned (.bool true) ∧ Below w.heap.size w w' := by
  have HG := Lib.hid hG
  clear hG
  go_enter Tryz.func8, Tryz.ntmps8
  go_wp2_with fail
  refine (head_any _ HG.out).mono ?_
  rintro e w1 ⟨rfl, hb1⟩
  have HB1 := Lib.hid hb1
  have HG1 := Lib.hid (HG.out.below hb1)
  have hsz1 : w.heap.size ≤ w1.heap.size := hb1.size
  clear hb1
  by_cases hin : 0 ≤ front ∧ front ≤ 20 ∧ text.size ≤ 8000
  · obtain ⟨f0, f20, hts⟩ := hin
    obtain ⟨n, rfl⟩ := Int.eq_ofNat_of_zero_le f0
    have t1 : decide ((n : Int) < 0) = false := decide_eq_false (by omega)
    have t2 : decide (20 < (n : Int)) = false := decide_eq_false (by omega)
    have t3 : decide (8000 < (text.size : Int)) = false := decide_eq_false (by omega)
    go_wp2_with fail
    go_loopw [5, 32] (fun sv iv wr => ∃ (i : Nat) (s : ByteArray), i ≤ n ∧ iv = .int .i64 i ∧ sv = .string s ∧ s.size ≤ i * 20 ∧ Hid (s.data.toList = (aheadL i).flatMap (fun b => b ++ [10])) ∧ Below w1.heap.size w1 wr) (fun _ iv _ => n - (intOf iv).toNat)
    case atStart => exact ⟨0, ⟨#[]⟩, by omega, rfl, rfl, Nat.le_refl _, Lib.hid rfl, Below.refl _ _⟩
    case round =>
      obtain ⟨i, s, hi, rfl, rfl, hss, HS, hb⟩ := hrel
      have HBb := Lib.hid hb
      have hszr : w1.heap.size ≤ wr.heap.size := hb.size
      clear hb
      by_cases hlt : i < n
      · have e1 : (⟨#[32, 32, 35, 32, 120, 32, 61, 32, 91, 121, 93, 10]⟩ : ByteArray).size = 12 := rfl
        have e2 : (⟨#[32, 32, 32, 10]⟩ : ByteArray).size = 4 := rfl
        have hsc := aheadL_succ i
        by_cases hev : i % 2 = 0
        · have te : (Int.tmod (i : Int) 2 == 0) = true := by rw [tmod_two, hev]; rfl
          have te2 : ((i : Int) % 2 == 0) = true := by rw [beq_iff_eq]; omega
          have HS2 : Hid ((s ++ ⟨#[32, 32, 35, 32, 120, 32, 61, 32, 91, 121, 93, 10]⟩ : ByteArray).data.toList = (aheadL (i + 1)).flatMap (fun b => b ++ [10])) := Lib.hid (by
            rw [hsc, append_data, HS.out]; unfold aheadB; rw [if_pos hev]; rfl)
          clear hsc
          go_wp2_with fail
          go_roundw
          case rel => exact ⟨i + 1, _, by omega, by go_num, rfl, by rw [ByteArray.size_append, e1]; omega, HS2, HBb.out⟩
          case measure => simp [intOf]; omega
        · have h1 : i % 2 = 1 := by omega
          have te : (Int.tmod (i : Int) 2 == 0) = false := by rw [tmod_two, h1]; rfl
          have te2 : ((i : Int) % 2 == 0) = false := by rw [beq_eq_false_iff_ne]; omega
          have HS2 : Hid ((s ++ ⟨#[32, 32, 32, 10]⟩ : ByteArray).data.toList = (aheadL (i + 1)).flatMap (fun b => b ++ [10])) := Lib.hid (by
            rw [hsc, append_data, HS.out]; unfold aheadB; rw [if_neg hev]; rfl)
          clear hsc h1
          go_wp2_with fail
          go_roundw
          case rel => exact ⟨i + 1, _, by omega, by go_num, rfl, by rw [ByteArray.size_append, e2]; omega, HS2, HBb.out⟩
          case measure => simp [intOf]; omega
      · have hin : i = n := by omega
        subst hin
        by_cases hbig : 8192 < s.size + text.size
        · have t5 : decide (8192 < (s.size : Int) + (text.size : Int)) = true := decide_eq_true (by omega)
          go_wp2_with fail
          go_ret
          exact ⟨rfl, HB1.out.trans (HBb.out.mono (by omega))⟩
        · have t5 : decide (8192 < (s.size : Int) + (text.size : Int)) = false := decide_eq_false (by omega)
          have HGr := Lib.hid (HG1.out.below HBb.out)
          have HBr := Lib.hid (HB1.out.trans (HBb.out.mono (by omega)))
          have hst : (s ++ text).size = s.size + text.size := ByteArray.size_append
          have HPA := Lib.hid (parse_any text wr (by omega) HGr.out)
          have HPB := Lib.hid (fun (w' : World) (hg : GW w') => parse_any (s ++ text) w' (by omega) hg)
          have HPR := Lib.hid (fun w => (show Calls Tryz.prog 11 #[.string text] w (PRef text.data.toList w) from refParse_any text.data.toList w))
          have hpq := parse_ahead (aheadL i) text.data.toList (ahead_blank i) (by
            rw [← HS.out, List.length_append, show s.data.toList.length = s.size from Array.length_toList, show text.data.toList.length = text.size from Array.length_toList]
            omega)
          rw [← HS.out, ← append_data, aheadL_len] at hpq
          have HPQ := Lib.hid hpq
          have HSM := Lib.hid (parse_small text.data.toList)
          have HPL : Hid ((C.parse text.data.toList).2.1 ≤ 10000) := Lib.hid (by have h := parse_place text.data.toList; rw [show text.data.toList.length = text.size from Array.length_toList] at h; omega)
          clear hpq
          obtain ⟨wo, rfl⟩ : ∃ wo : World, wo = wr := ⟨_, rfl⟩
          go_wp2_with fail
          refine HPA.out.mono ?_
          rintro e w2 ⟨v1, E1, rfl, hb2, hcase⟩
          obtain ⟨⟨Av, nv, cv, rfl⟩, hrd1, her1, hcs1⟩ := pparse_use hcase
          have HRD1 := Lib.hid hrd1
          have HER1 := Lib.hid her1
          have HCS1 := Lib.hid hcs1
          have HB2 := Lib.hid (HBr.out.trans (hb2.mono (by omega)))
          have hbX : Below w2.heap.size w2 (w2.alloc (.cells #[.slice Av nv cv] 25)) := (Below.refl _ _).alloc (Nat.le_refl _) _
          have HBX := Lib.hid hbX
          have HPB2 := Lib.hid (HPB.out (w2.alloc (.cells #[.slice Av nv cv] 25)) ((HGr.out.below hb2).below hbX))
          have HG2 := Lib.hid (HGr.out.below hb2)
          have hsz2 : wo.heap.size ≤ w2.heap.size := hb2.size
          clear hcase hrd1 her1 hcs1 hb2 HPA HPB hbX
          go_wp2_with fail
          refine HPB2.out.mono ?_
          rintro e w4 ⟨v2, E2, rfl, hb4, hcase⟩
          obtain ⟨⟨Bv, nw, cw, rfl⟩, hrd2, her2, hcs2⟩ := pparse_use hcase
          have hb24 : Below w2.heap.size w2 w4 := HBX.out.trans (hb4.mono (by simp))
          have c1 : w4.cell? ⟨w2.heap.size, 0, none⟩ = some (.slice Av nv cv) := by
            rw [hb4.cell (p := ⟨w2.heap.size, 0, none⟩) (by simp), World.cell?_alloc_at _ _ _ _ rfl]; rfl
          have hbY : Below w4.heap.size w4 (w4.alloc (.cells #[.slice Bv nw cw] 25)) := (Below.refl _ _).alloc (Nat.le_refl _) _
          obtain ⟨W, hW⟩ : ∃ W, w4.alloc (.cells #[.slice Bv nw cw] 25) = W := ⟨_, rfl⟩
          have c2 : W.cell? ⟨w4.heap.size, 0, none⟩ = some (.slice Bv nw cw) := by
            rw [← hW, World.cell?_alloc_at _ _ _ _ rfl]; rfl
          rw [hW] at hbY
          have C1 := Lib.hid (Below.cell_some hbY (Nat.le_refl _) c1)
          have C2 := Lib.hid c2
          have hbW : Below w2.heap.size w2 W := hb24.trans (hbY.mono hb24.size)
          have HBW := Lib.hid (HB2.out.trans (hbW.mono (by omega)))
          have HGW := Lib.hid (HG2.out.below hbW)
          have HRD1W := Lib.hid (HRD1.out.below hbW)
          have HRD2W := Lib.hid (hrd2.below hbY)
          have HER1W := Lib.hid (HER1.out.below hbW)
          have HER2W := Lib.hid (her2.below hbY)
          have hszW : w2.heap.size < W.heap.size := cell_lt (Below.cell_some hbY (Nat.le_refl _) c1)
          have hszW4 : w4.heap.size < W.heap.size := cell_lt c2
          have HCS2 := Lib.hid hcs2
          have HF1 : Hid (∀ fb x, w2.cell? ⟨fb, 0, none⟩ = some x → W.cell? ⟨fb, 0, none⟩ = some x) := Lib.hid (fun fb x h => Below.cell_some hbW (Nat.le_refl _) h)
          have HF2 : Hid (∀ fb x, w4.cell? ⟨fb, 0, none⟩ = some x → W.cell? ⟨fb, 0, none⟩ = some x) := Lib.hid (fun fb x h => Below.cell_some hbY (Nat.le_refl _) h)
          clear hcase hrd2 her2 hcs2 hb24 hb4 hbY hbW c1 c2 HPB2
          generalize C.parse (s ++ text).data.toList = Q at HPQ HRD2W HER2W HCS2
          obtain ⟨p1, hp1⟩ : ∃ x, (C.parse text.data.toList).1 = x := ⟨_, rfl⟩
          obtain ⟨p3, hp3⟩ : ∃ x, (C.parse text.data.toList).2.2 = x := ⟨_, rfl⟩
          obtain ⟨p2, hp2⟩ : ∃ x, (C.parse text.data.toList).2.1 = x := ⟨_, rfl⟩
          rw [hp1, hp2, hp3] at HPQ
          rw [hp1] at HER1W
          rw [hp3] at HRD1W HSM
          rw [hp1, hp2] at HCS1
          have HPE := Lib.hid (And.intro hp1 hp2)
          obtain ⟨q1, q2, q3⟩ := Q
          obtain ⟨hq1, hq3, _⟩ := HPQ.out
          have hq1' : q1 = p1 := hq1
          have hq3' : q3 = p3 := hq3
          subst hq1' hq3'
          clear hp1 hp2 hp3 hq1 hq3
          have hsq : ∀ m ∈ q3, (0 ≤ m.slots ∧ m.slots ≤ 1000000) ∧ 0 ≤ m.quota ∧ m.quota ≤ 1000000 := fun m hm => by
            have h := HSM.out.2 m hm
            exact ⟨⟨h.slots.1, by have := h.slots.2; omega⟩, h.quota.1, by have := h.quota.2; omega⟩
          have htl : (textOf q3).length ≤ 1000000 := by have := text_small q3 HSM.out.2; have := HSM.out.1; omega
          have HT1 : Hid (∀ w' : World, Below W.heap.size W w' → Calls Tryz.prog 19 #[.agg #[.slice Av nv cv]] w' fun e w'' => e = .returned (.string (bs (textOf q3))) ∧ Below W.heap.size W w'') := Lib.hid (fun w' hb => (text_any _ q3 w' (HRD1W.out.below hb) (HGW.out.below hb) hsq htl).mono (fun e w'' h => ⟨h.1, hb.trans (h.2.mono hb.size)⟩))
          have HT2 : Hid (∀ w' : World, Below W.heap.size W w' → Calls Tryz.prog 19 #[.agg #[.slice Bv nw cw]] w' fun e w'' => e = .returned (.string (bs (textOf q3))) ∧ Below W.heap.size W w'') := Lib.hid (fun w' hb => (text_any _ q3 w' (HRD2W.out.below hb) (HGW.out.below hb) hsq htl).mono (fun e w'' h => ⟨h.1, hb.trans (h.2.mono hb.size)⟩))
          have HN1 : Hid (∀ w' : World, Below W.heap.size W w' → Calls Tryz.prog 12 #[E1] w' fun e w'' => e = .returned (.int .i64 q1) ∧ Below W.heap.size W w'') := Lib.hid (fun w' hb => (number_any E1 q1 w' (HGW.out.below hb).err (HER1W.out.below hb)).mono (fun e w'' h => ⟨h.1, hb.trans (h.2.mono hb.size)⟩))
          have HN2 : Hid (∀ w' : World, Below W.heap.size W w' → Calls Tryz.prog 12 #[E2] w' fun e w'' => e = .returned (.int .i64 q1) ∧ Below W.heap.size W w'') := Lib.hid (fun w' hb => (number_any E2 q1 w' (HGW.out.below hb).err (HER2W.out.below hb)).mono (fun e w'' h => ⟨h.1, hb.trans (h.2.mono hb.size)⟩))
          have HC : Hid (∀ w' : World, Below W.heap.size W w' → w'.cell? ⟨w2.heap.size, 0, none⟩ = some (.slice Av nv cv) ∧ w'.cell? ⟨w4.heap.size, 0, none⟩ = some (.slice Bv nw cw)) := Lib.hid (fun w' hb => ⟨Below.cell_some hb (Nat.le_refl _) C1.out, Below.cell_some hb (Nat.le_refl _) C2.out⟩)
          clear hsq htl
          generalize bs (textOf q3) = TX at HT1 HT2
          have t8 : (q1 != q1) = false := by simp
          have t9 : (q1 == q1) = true := by simp
          go_upto_region 17 with fail
          go_cut [72] from 61 to 71 (fun s72 wx => s72 = .bool false ∧ Hid (Below W.heap.size W wx))
          case first =>
            have hb0 : Below W.heap.size W W.drew := (Below.refl _ _).drew
            go_region_held3 (fun w' => w'.cell? ⟨w2.heap.size, 0, none⟩ = some (.slice Av nv cv) ∧ w'.cell? ⟨w4.heap.size, 0, none⟩ = some (.slice Bv nw cw))
              ((refine HC.out _ ?_; with_reducible assumption))
              (first | (go_at_call_of 12 E1; refine (HN1.out _ (by with_reducible assumption)).mono ?_; rintro e wt ⟨rfl, hbt⟩) | (go_at_call_of 12 E2; refine (HN2.out _ (by with_reducible assumption)).mono ?_; rintro e wt ⟨rfl, hbt⟩) | (go_at_call_of 19 Av; refine (HT1.out _ (by with_reducible assumption)).mono ?_; rintro e wt ⟨rfl, hbt⟩) | (go_at_call_of 19 Bv; refine (HT2.out _ (by with_reducible assumption)).mono ?_; rintro e wt ⟨rfl, hbt⟩))
            all_goals (go_wp2_with fail; go_meet; first | exact ⟨rfl, Lib.hid hbt⟩ | exact ⟨by simp, Lib.hid hbt⟩)
          case rest =>
            obtain ⟨rfl, HWC⟩ := hcut
            rcases HCS1.out with ⟨h0, hE1⟩ | ⟨h0, fb1, hE1, hf1⟩
            · have h0' : q1 = 0 := h0
              subst hE1
              go_wp2_with fail
              go_ret
              exact ⟨rfl, HBW.out.trans (HWC.out.mono (by omega))⟩
            · subst hE1
              have h0' : ¬ q1 = 0 := h0
              obtain ⟨fb2, hE2, hf2⟩ : ∃ fb, E2 = .iface tFaultP (.pointer (some ⟨fb, 0, none⟩)) ∧ w4.cell? ⟨fb, 0, none⟩ = some (.int .i64 (q2 : Int)) := by
                rcases HCS2.out with ⟨h, _⟩ | ⟨_, fb, h1, h2⟩
                · exact absurd h h0'
                · exact ⟨fb, h1, h2⟩
              subst hE2
              have F1 := Lib.hid (Below.cell_some HWC.out (Nat.le_refl _) (HF1.out _ _ hf1))
              have F2 := Lib.hid (Below.cell_some HWC.out (Nat.le_refl _) (HF2.out _ _ hf2))
              have HBC := Lib.hid (HBW.out.trans (HWC.out.mono (by omega)))
              have HGC := Lib.hid (HGW.out.below HWC.out)
              have HPR2 : Hid (∀ w' : World, Calls Tryz.prog 11 #[.string text] w' fun e w'' => (∃ A n c, e = .returned (.tuple #[.slice A n c, .int .i64 q1, .int .i64 (p2 : Int)])) ∧ Below w'.heap.size w' w'') := Lib.hid (fun w' => (HPR.out w').mono (fun e w'' ⟨⟨A, c, X, h1, _, _⟩, h4⟩ => ⟨⟨A, X.length, c, by rw [h1, HPE.out.1, HPE.out.2]⟩, h4⟩))
              have hq2 : q2 = p2 ∨ q2 = p2 + i := HPQ.out.2.2
              have HQ2 := Lib.hid hq2
              have hszc : w.heap.size ≤ wc.heap.size := HBC.out.size
              clear hf1 hf2 hq2 h0 HPR HN1 HN2 HT1 HT2 HC
              go_wp2_with fail
              refine (HPR2.out _).mono ?_
              rintro e w5 ⟨⟨A5, n5, c5, rfl⟩, hb5⟩
              have HB5 := Lib.hid hb5
              clear hb5
              go_wp2_with fail
              refine (HPR2.out _).mono ?_
              rintro e w6 ⟨⟨A6, n6, c6, rfl⟩, hb6⟩
              have HB6 := Lib.hid (HB5.out.trans (hb6.mono HB5.out.size))
              have HG6 := Lib.hid (HGC.out.below HB6.out)
              have F16 := Lib.hid (Below.cell_some HB6.out (Nat.le_refl _) F1.out)
              have F26 := Lib.hid (Below.cell_some HB6.out (Nat.le_refl _) F2.out)
              clear hb6 HB5 HPR2
              have HP1 : Hid (∀ w' : World, Below w6.heap.size w6 w' → Calls Tryz.prog 13 #[.iface tFaultP (.pointer (some ⟨fb1, 0, none⟩))] w' fun e w'' => e = .returned (.int .i64 (p2 : Int)) ∧ Below w6.heap.size w6 w'') := Lib.hid (fun w' hb => (place_fault (p2 : Int) fb1 w' (HG6.out.below hb).err (Below.cell_some hb (Nat.le_refl _) F16.out)).mono (fun e w'' h => ⟨h.1, hb.trans (h.2.mono hb.size)⟩))
              have HP2 : Hid (∀ w' : World, Below w6.heap.size w6 w' → Calls Tryz.prog 13 #[.iface tFaultP (.pointer (some ⟨fb2, 0, none⟩))] w' fun e w'' => e = .returned (.int .i64 (q2 : Int)) ∧ Below w6.heap.size w6 w'') := Lib.hid (fun w' hb => (place_fault (q2 : Int) fb2 w' (HG6.out.below hb).err (Below.cell_some hb (Nat.le_refl _) F26.out)).mono (fun e w'' h => ⟨h.1, hb.trans (h.2.mono hb.size)⟩))
              have hpp : ((p2 : Int) == (p2 : Int)) = true := by simp
              by_cases h4 : q1 = 4
              · have t10 : (q1 == 4) = true := beq_iff_eq.2 h4
                clear h4
                go_wp2_with fail
                refine (HP1.out _ (Below.refl _ _)).mono ?_
                rintro e w7 ⟨rfl, hb7⟩
                have HB7 := Lib.hid hb7
                clear hb7
                go_wp2_with fail
                go_ret
                exact ⟨by first | rfl | simp, HBC.out.trans ((HB6.out.trans (HB7.out.mono HB6.out.size)).mono (by omega))⟩
              · have t10 : (q1 == 4) = false := beq_eq_false_iff_ne.2 h4
                by_cases h5 : q2 = p2
                · have t11 : ((q2 : Int) == (p2 : Int)) = true := by rw [h5]; simp
                  clear h4
                  go_wp2_with fail
                  refine (HP2.out _ (Below.refl _ _)).mono ?_
                  rintro e w7 ⟨rfl, hb7⟩
                  have HB7 := Lib.hid hb7
                  clear hb7
                  clear h5
                  go_wp2_with fail
                  refine (HP1.out _ HB7.out).mono ?_
                  rintro e w8 ⟨rfl, hb8⟩
                  have HB8 := Lib.hid hb8
                  clear hb8
                  go_wp2_with fail
                  go_ret
                  exact ⟨by first | rfl | simp, HBC.out.trans ((HB6.out.trans (HB8.out.mono HB6.out.size)).mono (by omega))⟩
                · have h6 : q2 = p2 + i := HQ2.out.resolve_left h5
                  have t11 : ((q2 : Int) == (p2 : Int)) = false := beq_eq_false_iff_ne.2 (by omega)
                  have t12 : ((q2 : Int) == (p2 : Int) + (i : Int)) = true := beq_iff_eq.2 (by omega)
                  have hpl : p2 ≤ 10000 := by have h := HPL.out; rw [HPE.out.2] at h; exact h
                  have h6I : (q2 : Int) = wrap64 ((p2 : Int) + (i : Int)) := by rw [w64 _ (by omega)]; omega
                  have H6I := Lib.hid h6I
                  clear h4 h5 h6 h6I hpl
                  go_wp2_with fail
                  refine (HP2.out _ (Below.refl _ _)).mono ?_
                  rintro e w7 ⟨rfl, hb7⟩
                  have HB7 := Lib.hid hb7
                  clear hb7
                  go_wp2_with fail
                  refine (HP1.out _ HB7.out).mono ?_
                  rintro e w8 ⟨rfl, hb8⟩
                  have HB8 := Lib.hid hb8
                  clear hb8
                  go_wp2_with fail
                  refine (HP2.out _ HB8.out).mono ?_
                  rintro e w9 ⟨rfl, hb9⟩
                  have HB9 := Lib.hid hb9
                  clear hb9
                  go_wp2_with fail
                  go_ret
                  exact ⟨by first | rfl | (simp; exact H6I.out), HBC.out.trans ((HB6.out.trans (HB9.out.mono HB6.out.size)).mono (by omega))⟩
  · by_cases a1 : front < 0
    · go_wp2_with fail
      go_ret
      exact ⟨rfl, HB1.out⟩
    · by_cases a2 : 20 < front
      · go_wp2_with fail
        go_ret
        exact ⟨rfl, HB1.out⟩
      · have a3 : 8000 < text.size := by omega
        clear hin
        go_wp2_with fail
        go_ret
        exact ⟨rfl, HB1.out⟩
end Go.Proofs.YtkbamneecfmibaaGreatDoor
