/- wharfingerref13.open: what it comes to. Conditions: where the modules lie; short texts. The document's reading of a line, and conf.Parse's: they come to the same. No program. No conditions. wharfingerref13.Parse comes to what C.parse says. Conditions: none but the memory's bounds. -/
import Derived.Test.YtkbamneecfmibaaGreatDoorMgB
import Derived.Deep.RegionWith
namespace Go.Proofs.YtkbamneecfmibaaGreatDoor
open Go.RowKit
open C PConfWrites Go.Proofs.YtkbamneecfmibaaGreatDoorW.PrintWords

abbrev tRx : Nat := 45
theorem infoRx : (Tryz.prog.info? tRx).map (fun i => (i.zero, i.size, i.bytes)) = some (some (.agg #[.string ⟨#[]⟩, .string ⟨#[]⟩, .bool false, .int .i64 0, .int .i64 0, .slice none 0 0, .slice none 0 0]), 7, 104) := by kernel_rfl
/-- A module of the document in memory: the users' slice, the keys' slice, the keys. -/
abbrev XM := Mdl × Value × Value × List Bs
def xcells (p : XM) : List Value := [.string (bs p.1.name), .string (bs p.1.root), .bool p.1.write, .int .i64 p.1.slots, .int .i64 p.1.quota, p.2.1, p.2.2.1]
def xCells (X : List XM) : List Value := X.flatMap xcells
theorem x_snoc (X : List XM) (p : XM) : xCells (X ++ [p]) = xCells X ++ xcells p := by simp [xCells]
/-- Modules of the document in memory. -/
structure ROut (w : World) (v : Value) (X : List XM) : Prop where
  flat : Flat w v 7 X.length (xCells X)
  usr : ∀ p ∈ X, ∃ A c, p.2.1 = .slice A p.1.users.length c ∧ RdU w p.2.1 p.1.users
  sn : ∀ p ∈ X, ∃ A c, p.2.2.1 = .slice A p.2.2.2.length c ∧ RdStr w p.2.2.1 p.2.2.2
theorem ROut.below {w w1 : World} {v : Value} {X : List XM} (h : ROut w v X) (hb : Below w.heap.size w w1) : ROut w1 v X :=
  ⟨h.flat.below hb, fun p hp => by obtain ⟨A, c, h1, h2⟩ := h.usr p hp; exact ⟨A, c, h1, h2.below hb⟩, fun p hp => by obtain ⟨A, c, h1, h2⟩ := h.sn p hp; exact ⟨A, c, h1, Flat.below h2 hb⟩⟩
theorem ROut.one {w : World} {v : Value} {X : List XM} (h : ROut w v X) : ∀ u ∈ xCells X, u.oneCell' = true := by
  intro u hu
  obtain ⟨p, hp, hu⟩ := List.mem_flatMap.1 hu
  obtain ⟨A, c, h1, _⟩ := h.usr p hp
  obtain ⟨A2, c2, h2, _⟩ := h.sn p hp
  simp only [xcells, List.mem_cons, List.not_mem_nil, or_false] at hu
  rcases hu with rfl | rfl | rfl | rfl | rfl | rfl | rfl <;> first | rfl | (rw [h1]; rfl) | (rw [h2]; rfl)
theorem xc_at {X : List XM} {i : Nat} {p : XM} (h : X[i]? = some p) (j : Nat) (hj : j < 7) : (xCells X)[i * 7 + j]? = (xcells p)[j]? := flat_at xcells 7 (fun _ => rfl) X i p j h hj
def newX (n : Bs) : Mdl := ⟨n, [], false, 16, 262144, []⟩
/-- The error's number at a line that opens a module: r is what stands behind the bracket. -/
def openE (ms : List Mdl) (r : Bs) : Int :=
  if r.getLast? = some 93 then
    if nameB r.dropLast = false then 131 else if ms.any (fun m => m.name == r.dropLast) then 5 else if 8 ≤ ms.length then 3 else 0
  else 130
def POpen (x : Int) (X : List XM) (n : Bs) (w : World) (e : Ending) (w' : World) : Prop :=
  (∃ A m c, e = .returned (.tuple #[.slice A m c, .int .i64 x]) ∧ (x = 0 → m = X.length + 1 ∧ Flat w' (.slice A m c) 7 (X.length + 1) (xCells (X ++ [(newX n, .slice none 0 0, .slice none 0 0, [])])))) ∧ Below w.heap.size w w'

set_option maxRecDepth 100000 in
set_option maxHeartbeats 1000000 in
theorem refOpen_any (A : Option Addr) (c : Nat) (X : List XM) (r : Bs) (w : World) (hX : ROut w (.slice A X.length c) X) (hl : X.length ≤ 1000) (hr : r.length ≤ 1000000) :
    Calls Tryz.prog 32 #[.slice A X.length c, .string (bs (91 :: r))] w (POpen (openE (X.map (·.1)) r) X r.dropLast w) := by
  have HX := Lib.hid hX
  clear hX
  rcases List.eq_nil_or_concat r with rfl | ⟨t, b, rfl⟩
  · have hs : (bs [91]).size = 1 := rfl
    have hb : ∀ h, (((bs [91])[0]'h).toNat : Int) = 91 := fun h => rfl
    have hv : openE (X.map (·.1)) [] = 130 := rfl
    rw [hv]
    generalize bs [91] = V at hs hb
    clear hv
    go_enter Tryz.func32, Tryz.ntmps32
    go_wp2_with fail
    go_ret2
    exact ⟨⟨A, _, c, rfl, fun h => absurd h (by decide)⟩, Below.refl _ _⟩
  · rw [List.concat_eq_append] at hr ⊢
    rw [List.length_append, List.length_singleton] at hr
    have hs : (bs (91 :: (t ++ [b]))).size = t.length + 2 := by rw [bs_size]; simp
    have hb : ∀ h, (((bs (91 :: (t ++ [b])))[t.length + 1]'h).toNat : Int) = (b.toNat : Int) := fun h => by
      have : (bs (91 :: (t ++ [b])))[t.length + 1]'h = (91 :: (t ++ [b]))[t.length + 1]'(by simp) := rfl
      rw [this]; simp
    have hx : (bs (91 :: (t ++ [b]))).extract 1 (t.length + 1) = bs t := by rw [ext_bs]; simp
    have hdl : (t ++ [b]).dropLast = t := by simp
    have hv : openE (X.map (·.1)) (t ++ [b]) = if b = 93 then if nameB t = false then 131 else if (X.map (·.1)).any (fun m => m.name == t) then 5 else if 8 ≤ (X.map (·.1)).length then 3 else 0 else 130 := by
      unfold openE
      rw [hdl]
      simp
    rw [List.length_map] at hv
    rw [hdl]
    have HV := Lib.hid hv
    generalize openE (X.map (·.1)) (t ++ [b]) = x at HV
    generalize bs (91 :: (t ++ [b])) = V at hs hb hx
    clear hv hdl
    have HX0 := Lib.hid hx
    clear hx
    have HNM := Lib.hid (refName_any t (by omega))
    by_cases h93 : b = 93
    · have hb1 : ((b.toNat : Int) == 93) = true := by subst h93; rfl
      have hb2 : (b.toNat : Int) = 93 := by subst h93; rfl
      have HV2 : Hid (x = if nameB t = false then 131 else if (X.map (·.1)).any (fun m => m.name == t) then 5 else if 8 ≤ X.length then 3 else 0) := Lib.hid (by rw [HV.out, if_pos h93])
      clear h93 HV
      rw [hb2] at hb
      have hx0 := HX0.out
      go_enter Tryz.func32, Tryz.ntmps32
      go_wp2_with fail
      refine (HNM.out _).mono ?_
      rintro e w1 ⟨rfl, hb1'⟩
      have hsz1 : w.heap.size ≤ w1.heap.size := hb1'.size
      have HB1 := Lib.hid hb1'
      clear hb1' HNM
      cases hn : nameB t with
      | false =>
        obtain rfl : x = 131 := by rw [HV2.out, if_pos hn]
        clear hn
        go_wp2_with fail
        go_ret2
        exact ⟨⟨A, _, c, rfl, fun h => absurd h (by decide)⟩, HB1.out⟩
      | true =>
        have HV3 : Hid (x = if (X.map (·.1)).any (fun m => m.name == t) then 5 else if 8 ≤ X.length then 3 else 0) := Lib.hid (by rw [HV2.out, if_neg (by rw [hn]; decide)])
        clear hn HV2
        go_wp2_with fail
        go_loopw [7] (fun iv wr => ∃ i : Nat, i ≤ X.length ∧ iv = .int .i64 i ∧ Below w1.heap.size w1 wr ∧ Hid (∀ (j : Nat) (y : XM), j < i → X[j]? = some y → (y.1.name == t) = false)) (fun iv _ => X.length - (intOf iv).toNat)
        case atStart => exact ⟨0, by omega, rfl, Below.refl _ _, Lib.hid (fun j x h => by omega)⟩
        case round =>
          obtain ⟨i, hi, rfl, hb', hall⟩ := hrel
          have HBr := Lib.hid (HB1.out.trans (hb'.mono (by omega)))
          have hszr : w1.heap.size ≤ wr.heap.size := hb'.size
          have HBb := Lib.hid hb'
          clear hb'
          by_cases hlt : i < X.length
          · obtain ⟨g, o, c', hA, _, _, hcell⟩ := HX.out.flat.cell (by omega)
            injection hA with hA _ hcc
            subst hA
            obtain rfl : c' = c := hcc.symm
            have hu : X[i]? = some X[i] := List.getElem?_eq_getElem hlt
            have c0 := hcell (i * 7 + 0) (.string (bs X[i].1.name)) (by rw [xc_at hu 0 (by omega)]; rfl)
            have HUi := Lib.hid hu
            clear hu hcell
            generalize X[i] = u at c0 HUi
            have z0 : wr.cell? ⟨g, o + i * 7, none⟩ = some (.string (bs u.1.name)) := Below.cell_some HBr.out (Nat.le_refl _) c0
            have hgl : g < w.heap.size := cell_lt c0
            clear c0
            have hnt : ((bs u.1.name).toList == (bs t).toList) = (u.1.name == t) := by rw [bs_toList, bs_toList]
            cases hnm : (u.1.name == t) with
            | true =>
              obtain rfl : x = 5 := by rw [HV3.out, if_pos (any_at (x := u.1) (by rw [List.getElem?_map, HUi.out]; rfl) hnm)]
              rw [hnm] at hnt
              clear hnm
              generalize bs u.1.name = nmu at z0 hnt
              generalize bs t = tv at hnt hx0
              go_wp2_with fail
              go_ret2
              exact ⟨⟨_, _, _, rfl, fun h => absurd h (by decide)⟩, HBr.out⟩
            | false =>
              rw [hnm] at hnt
              have HALL : Hid (∀ (j : Nat) (y : XM), j < i + 1 → X[j]? = some y → (y.1.name == t) = false) := Lib.hid (fun j y hj hy => by
                by_cases hji : j < i
                · exact hall.out j y hji hy
                · have : j = i := by omega
                  subst this
                  rw [HUi.out] at hy
                  injection hy with hy
                  rw [← hy]; exact hnm)
              clear hnm
              generalize bs u.1.name = nmu at z0 hnt
              generalize bs t = tv at hnt hx0
              go_wp2_with fail
              go_roundw
              case rel => exact ⟨i + 1, by omega, by go_num, HBb.out, HALL⟩
              case measure => simp [intOf]; omega
          · have hany : (X.map (·.1)).any (fun m => m.name == t) = false := any_none (fun j y hy => by
              rw [List.getElem?_map, Option.map_eq_some_iff] at hy
              obtain ⟨z, hz, rfl⟩ := hy
              exact hall.out j z (by have := (List.getElem?_eq_some_iff.1 hz).1; omega) hz)
            have HV4 : Hid (x = if 8 ≤ X.length then 3 else 0) := Lib.hid (by rw [HV3.out, hany, if_neg (by decide)])
            clear hany hall HV3
            by_cases h8 : 8 ≤ X.length
            · obtain rfl : x = 3 := by rw [HV4.out, if_pos h8]
              go_wp2_with fail
              go_ret2
              exact ⟨⟨_, _, _, rfl, fun h => absurd h (by decide)⟩, HBr.out⟩
            · obtain rfl : x = 0 := by rw [HV4.out, if_neg h8]
              obtain ⟨i0, hi0, hy0, hy1, hy2⟩ := info_parts infoRx
              have HEMP := Lib.hid (own_empty wr tRx 7)
              have HFL := Lib.hid (HX.out.flat.below (HBr.out.alloc (by omega) (.cells #[] tRx)))
              have HONE := Lib.hid HX.out.one
              go_wp2_with (at_builtin; refine wpList_append_flat rfl _ _ 30 rfl wr.heap.size tRx i0 (.agg #[.string ⟨#[]⟩, .string ⟨#[]⟩, .bool false, .int .i64 0, .int .i64 0, .slice none 0 0, .slice none 0 0]) 7 104 Tryz.underlying30 hi0 hy0 hy1 hy2 rfl (by decide) _ _ _ rfl HEMP.out _ X.length (xCells X) rfl HFL.out HONE.out ?c3 ?c4 ?c5 ?_)
              case c3 => unfold maxLen; omega
              case c4 => omega
              case c5 => simp
              intro v4 w4 hown4 hgrow4
              obtain ⟨A4, c4, rfl⟩ := own_slice hown4
              have hb4 : Below wr.heap.size wr w4 := ((Below.refl _ _).alloc (Nat.le_refl _) _).grown hgrow4 (by simp) (fun k hk => by simp [Value.ownBlock] at hk; omega)
              have HB4 := Lib.hid hb4
              have hsz4 : wr.heap.size ≤ w4.heap.size := hb4.size
              have HOWN4 := Lib.hid hown4
              clear hown4 hgrow4 hb4 HEMP HFL HONE
              have hl1 : wr.heap.size ≤ (w4.alloc (.cells #[.string (bs t), .string ⟨#[]⟩, .bool false, .int .i64 16, .int .i64 262144, .slice none 0 0, .slice none 0 0] tRx)).heap.size := Nat.le_trans hsz4 ((Below.refl w4.heap.size w4).alloc (Nat.le_refl _) _).size
              have BB := Lib.hid (HB4.out.alloc hsz4 (.cells #[.string (bs t), .string ⟨#[]⟩, .bool false, .int .i64 16, .int .i64 262144, .slice none 0 0, .slice none 0 0] tRx))
              go_wp2_with (at_builtin; refine wpList_append_own _ rfl _ _ 30 rfl wr.heap.size tRx i0 (.agg #[.string ⟨#[]⟩, .string ⟨#[]⟩, .bool false, .int .i64 0, .int .i64 0, .slice none 0 0, .slice none 0 0]) 7 104 Tryz.underlying30 hi0 hy0 hy1 hy2 rfl (by decide) _ _ _ rfl (HOWN4.out.alloc _) ⟨w4.heap.size, 0, none⟩ 1 1 [.string (bs t), .string ⟨#[]⟩, .bool false, .int .i64 16, .int .i64 262144, .slice none 0 0, .slice none 0 0] rfl rfl (seven_new' _ _ _ _ _ _ _ _ _ _ rfl) ?c2 ?c3 ?c4 hl1 ?_)
              case c2 => intro y hy; simp at hy; rcases hy with rfl | rfl | rfl | rfl | rfl | rfl <;> rfl
              case c3 => unfold maxLen; omega
              case c4 => omega
              intro v5 w5 hown5 hgrow5 _
              obtain ⟨A5, c5, rfl⟩ := own_slice hown5
              have HB5 := Lib.hid (BB.out.grown hgrow5 hl1 (fun k hk => (own_block HOWN4.out hk).1))
              have HOWN5 := Lib.hid hown5
              clear hown5 hgrow5 BB HOWN4
              go_wp2_with fail
              go_ret2
              refine ⟨⟨A5, _, c5, rfl, fun _ => ⟨rfl, ?_⟩⟩, HBr.out.trans (HB5.out.mono (by omega))⟩
              rw [x_snoc]
              exact Flat.of_own HOWN5.out
    · obtain rfl : x = 130 := by rw [HV.out, if_neg h93]
      have hb1 : ((b.toNat : Int) == 93) = false := beq_eq_false_iff_ne.2 (fun h => h93 ((u8_eq (b := 93)).1 h))
      have hb3 : ¬ (b.toNat : Int) = 93 := fun h => h93 ((u8_eq (b := 93)).1 h)
      clear HV h93
      generalize (b.toNat : Int) = bn at hb hb1 hb3
      go_enter Tryz.func32, Tryz.ntmps32
      go_wp2_with fail
      go_ret2
      exact ⟨⟨A, _, c, rfl, fun h => absurd h (by decide)⟩, Below.refl _ _⟩
end Go.Proofs.YtkbamneecfmibaaGreatDoor
namespace Go.Proofs.YtkbamneecfmibaaGreatDoor
open Go.RowKit
open C

theorem trimL_head {c b : UInt8} {l t : Bs} (h : Lib.trimLeftB l c = b :: t) : b ≠ c := by
  induction l with
  | nil => simp [Lib.trimLeftB] at h
  | cons x l ih =>
    rw [trimL_cons] at h
    by_cases e : x = c
    · rw [if_pos e] at h; exact ih h
    · rw [if_neg e] at h
      injection h with h1 _
      rw [← h1]; exact e
theorem trim_head {b : UInt8} {raw t : Bs} (h : trim raw = b :: t) : b ≠ 32 := trimL_head h
theorem trim_last {raw t : Bs} {b : UInt8} (h : trim raw = t ++ [b]) : b ≠ 32 := by
  have h2 : Lib.trimRightB (Lib.trimLeftB raw 32) 32 = t ++ [b] := by rw [trim_comm]; exact h
  unfold Lib.trimRightB at h2
  have h3 := congrArg List.reverse h2
  rw [List.reverse_reverse, List.reverse_append, List.reverse_singleton, List.singleton_append] at h3
  exact trimL_head (l := (Lib.trimLeftB raw 32).reverse) h3
theorem trim_key {raw k v : Bs} (h : trim raw = k ++ 61 :: v) : trim k = Lib.trimRightB k 32 := by
  show Lib.trimB k 32 = _
  unfold Lib.trimB
  rw [← trim_comm]
  congr 1
  cases k with
  | nil => rfl
  | cons b t =>
    have hb : b ≠ 32 := trim_head (t := t ++ 61 :: v) h
    rw [trimL_cons, if_neg hb]
theorem trim_val {raw k v : Bs} (h : trim raw = k ++ 61 :: v) : trim v = Lib.trimLeftB v 32 := by
  show Lib.trimB v 32 = _
  unfold Lib.trimB
  congr 1
  rcases List.eq_nil_or_concat v with rfl | ⟨t, b, rfl⟩
  · rfl
  · rw [List.concat_eq_append] at h ⊢
    have hb : b ≠ 32 := trim_last (raw := raw) (t := k ++ 61 :: t) (by rw [h]; simp)
    rw [trimR_snoc, if_neg hb]
theorem rtrim_len (raw : Bs) : (trim raw).length ≤ raw.length := by
  show (Lib.trimLeftB (Lib.trimRightB raw 32) 32).length ≤ _
  unfold Lib.trimLeftB Lib.trimRightB
  refine Nat.le_trans ((List.dropWhile_sublist _).length_le) ?_
  rw [List.length_reverse]
  refine Nat.le_trans ((List.dropWhile_sublist _).length_le) ?_
  rw [List.length_reverse]
  exact Nat.le_refl _

theorem setM_small {m : Mdl} {seen : List Bs} {k v : Bs} (h : (setM m seen k v).1 = 0) (hu : m.users.length ≤ 8) (hr : m.root.length ≤ 100000) (hv : v.length ≤ 100000) : (setM m seen k v).2.1.users.length ≤ 8 ∧ (setM m seen k v).2.1.root.length ≤ 100000 := by
  by_cases hk : k = keyUser
  · subst hk
    rw [setM_user] at h ⊢
    refine ⟨?_, hr⟩
    show (userU m.users v).2.length ≤ 8
    have h' : (userU m.users v).1 = 0 := h
    unfold userU at h' ⊢
    cases hc : cut1 58 v with
    | none => rw [hc] at h'; cases h'
    | some p =>
      obtain ⟨who, sec⟩ := p
      rw [hc] at h'
      simp only at h' ⊢
      by_cases h1 : sec = [] ∨ 16 < sec.length
      · rw [if_pos h1] at h'; cases h'
      · rw [if_neg h1] at h' ⊢
        by_cases h2 : nameB who = false
        · rw [if_pos h2] at h'; cases h'
        · rw [if_neg h2] at h' ⊢
          by_cases h3 : (m.users.any fun u => u.name == who) = true
          · rw [if_pos h3] at h'; cases h'
          · rw [if_neg h3] at h' ⊢
            by_cases h4 : 8 ≤ m.users.length
            · rw [if_pos h4] at h'; cases h'
            · rw [if_neg h4]
              simp; omega
  · unfold setM
    rw [if_neg (show ¬ k = [117, 115, 101, 114] from hk)]
    repeat' split
    all_goals exact ⟨hu, by first | exact hr | exact hv⟩

/-- A step that opens a module. -/
theorem rstep_open {ms : List Mdl} {seen : List Bs} {raw r : Bs} (h : trim raw = 91 :: r) : (lineStep ms seen raw).1 = openE ms r ∧ (openE ms r = 0 → lineStep ms seen raw = (0, ms ++ [newX r.dropLast], [])) := by
  unfold lineStep openE
  rw [h]
  simp only
  rw [if_neg (show ¬ ((91 : UInt8) = 35) from by decide), if_pos True.intro]
  by_cases h1 : r.getLast? = some 93
  · rw [if_pos h1, if_pos h1]
    by_cases h2 : nameB r.dropLast = false
    · rw [if_pos h2, if_pos h2]; exact ⟨rfl, fun h => by cases h⟩
    · rw [if_neg h2, if_neg h2]
      by_cases h3 : (ms.any fun m => m.name == r.dropLast) = true
      · rw [if_pos h3, if_pos h3]; exact ⟨rfl, fun h => by cases h⟩
      · rw [if_neg h3, if_neg h3]
        by_cases h4 : 8 ≤ ms.length
        · rw [if_pos h4, if_pos h4]; exact ⟨rfl, fun h => by cases h⟩
        · rw [if_neg h4, if_neg h4]; exact ⟨rfl, fun _ => rfl⟩
  · rw [if_neg h1, if_neg h1]; exact ⟨rfl, fun h => by cases h⟩
theorem step_blank {ms : List Mdl} {seen : List Bs} {raw : Bs} (h : trim raw = [] ∨ ∃ r, trim raw = 35 :: r) : lineStep ms seen raw = (0, ms, seen) := by
  unfold lineStep
  rcases h with h | ⟨r, h⟩
  · rw [h]
  · rw [h]; simp
theorem step_none {ms : List Mdl} {seen : List Bs} {raw : Bs} {b : UInt8} {r : Bs} (h : trim raw = b :: r) (h1 : b ≠ 35) (h2 : b ≠ 91) (h3 : cut1 61 (b :: r) = none ∨ ms = []) : (lineStep ms seen raw).1 = 130 := by
  unfold lineStep
  rw [h]
  simp only
  rw [if_neg h1, if_neg h2]
  rcases h3 with h3 | rfl
  · rw [h3]
  · cases cut1 61 (b :: r) <;> rfl
theorem step_set {ms : List Mdl} {m : Mdl} {seen : List Bs} {raw : Bs} {b : UInt8} {r k v : Bs} (h : trim raw = b :: r) (h1 : b ≠ 35) (h2 : b ≠ 91) (h3 : cut1 61 (b :: r) = some (k, v)) :
    lineStep (ms ++ [m]) seen raw = ((setM m seen (trim k) (trim v)).1, ms ++ [(setM m seen (trim k) (trim v)).2.1], (setM m seen (trim k) (trim v)).2.2) := by
  have hkv : trim raw = k ++ 61 :: v := by rw [h]; exact (cut1_some h3).2
  rw [trim_key hkv, trim_val hkv]
  unfold lineStep
  rw [h]
  simp only
  rw [if_neg h1, if_neg h2, h3, List.getLast?_concat, List.dropLast_concat]
theorem goLines_step {i : Nat} {ls : List Bs} {l : Bs} {ms : List Mdl} {seen : List Bs} (h : ls[i]? = some l) : goLines i (ls.drop i) ms seen = if (lineStep ms seen l).1 = 0 then goLines (i + 1) (ls.drop (i + 1)) (lineStep ms seen l).2.1 (lineStep ms seen l).2.2 else ((lineStep ms seen l).1, i, []) := by
  obtain ⟨hi, rfl⟩ := List.getElem?_eq_some_iff.1 h
  rw [List.drop_eq_getElem_cons hi]
  rfl
theorem goLines_end {i : Nat} {ls : List Bs} {ms : List Mdl} {seen : List Bs} (h : ls.length ≤ i) : goLines i (ls.drop i) ms seen = (0, 0, ms) := by
  rw [List.drop_of_length_le h]
  rfl
end Go.Proofs.YtkbamneecfmibaaGreatDoor
namespace Go.Proofs.YtkbamneecfmibaaGreatDoor
open Go.RowKit
open C PConfWrites Go.Proofs.YtkbamneecfmibaaGreatDoorW.PrintWords

theorem refSet_all (m : Mdl) (A : Option Addr) (c : Nat) (A2 : Option Addr) (c2 : Nat) (S seen : List Bs) (key v : Bs) (w wc : World) (hbc : Below w.heap.size w wc) (hu : RdU w (.slice A m.users.length c) m.users) (hs : RdStr w (.slice A2 S.length c2) S) (hl : m.users.length ≤ 1000) (hS : S.length ≤ 100000) (hkl : key.length ≤ 1000000) (hv : v.length ≤ 1000000) (hsn : ∀ k, S.contains k = seen.contains k) :
    Calls Tryz.prog 33 #[.agg #[.string (bs m.name), .string (bs m.root), .bool m.write, .int .i64 m.slots, .int .i64 m.quota, .slice A m.users.length c, .slice A2 S.length c2], .string (bs key), .string (bs v)] wc (PSetR A c m.users A2 c2 (setM m seen key v) S wc) := by
  by_cases hk : key = keyUser
  · subst hk
    exact refSet_user (bs m.name) (bs m.root) m.write m.slots m.quota A c A2 c2 m.users S seen v wc (hu.below hbc) (Flat.below hs hbc) hl hv hsn
  · exact refSet_key (bs m.name) (bs m.root) m.write m.slots m.quota A c A2 c2 m.users S seen key v wc (hu.below hbc) (Flat.below hs hbc) hS hkl hv hsn hk
theorem refTrimD (l : Bs) (hl : l.length ≤ 1000000) (w : World) : Calls Tryz.prog 30 #[.string (bs l)] w fun e w' => e = .returned (.string (bs (trim l))) ∧ ∃ n, w' = w.drewN n := by
  obtain ⟨k, hk⟩ := trim_f l hl
  exact (wharfingerref13_trim.calls k _ _ w hk).mono fun e w' h => ⟨h.1, h.2.out⟩
theorem refLines_any (l : Bs) (hl : l.length ≤ 1000000) (w : World) : Calls Tryz.prog 29 #[.string (bs l)] w fun e w' => (∃ A c, e = .returned (.slice A (splitOn 10 l).length c) ∧ (splitOn 10 l).length ≤ c ∧ Kd.C Kd.string w' A (splitOn 10 l).length ((splitOn 10 l).map bs)) ∧ Below w.heap.size w w' := by
  obtain ⟨k, hk⟩ := lines_f l hl
  refine (wharfingerref13_lines.calls k _ _ w hk).mono fun e w' ⟨v0, h1, h2, h3⟩ => ?_
  obtain ⟨A, c, rfl, h4, h5⟩ := Kd.R_reads h2
  rw [List.length_map] at h1 h4 h5
  exact ⟨⟨A, c, h1, h4, h5⟩, h3⟩
theorem kd_str {w : World} {A : Option Addr} {L : List Bs} (h : Kd.C Kd.string w A L.length (L.map bs)) (h0 : L ≠ []) : ∃ g o, A = some ⟨g, o, none⟩ ∧ ∀ (i : Nat) (s : Bs), L[i]? = some s → w.cell? ⟨g, o + i, none⟩ = some (.string (bs s)) := by
  obtain ⟨_, _, h3⟩ := h
  obtain ⟨ad, hA, h4⟩ := h3 (List.length_pos_iff.2 h0)
  have h5 : ∀ (i : Nat) (s : Bs), L[i]? = some s → w.cell? (ad.add i) = some (.string (bs s)) := by
    intro i s hs
    obtain ⟨cs, _, hcs, hc⟩ := h4 i (bs s) (by rw [List.getElem?_map, hs]; rfl)
    have hcs' : cs = [.string (bs s)] := hcs
    subst hcs'
    have := hc 0 _ rfl
    rwa [show (Kd.string).sz = 1 from rfl, Nat.mul_one, Nat.add_zero] at this
  obtain ⟨g, o, spot⟩ := ad
  have hsp : spot = none := by
    match L, h0 with
    | s :: _, _ =>
      have := h5 0 s rfl
      simpa [Addr.add] using World.cell?_spot this
  subst hsp
  exact ⟨g, o, hA, fun i s hs => by rw [← addr_add']; exact h5 i s hs⟩
theorem box7_fill {w : World} {g : Nat} {a b c d e f h : Value} (k : Box7 w g a b c d e f h) (v0 v1 v2 v3 v4 v5 v6 : Value) :
    Box7 (((((((w.setCell ⟨g, 0, none⟩ v0).setCell ⟨g, 1, none⟩ v1).setCell ⟨g, 2, none⟩ v2).setCell ⟨g, 3, none⟩ v3).setCell ⟨g, 4, none⟩ v4).setCell ⟨g, 5, none⟩ v5).setCell ⟨g, 6, none⟩ v6) g v0 v1 v2 v3 v4 v5 v6 := by
  obtain ⟨⟨k0, k1, k2, k3, k4, k5, k6⟩, f0, f1, f2, f3, f4, f5, f6⟩ := k
  have O : ∀ (w : World) (j i : Nat) (u : Value), j ≠ i → (w.setCell ⟨g, j, none⟩ u).cell? ⟨g, i, none⟩ = w.cell? ⟨g, i, none⟩ := fun w j i u hj => World.cell?_setCell_other _ _ _ _ (by intro e; injection e with _ e _; exact hj e)
  have z : ∀ (w : World) (j i : Nat) (u : Value), (w.setCell ⟨g, j, none⟩ u).frozen? ⟨g, i, none⟩ = w.frozen? ⟨g, i, none⟩ := fun w j i u => World.frozen?_setCell _ _ _ _
  refine ⟨⟨?_, ?_, ?_, ?_, ?_, ?_, ?_⟩, ?_, ?_, ?_, ?_, ?_, ?_, ?_⟩
  · rw [O _ 6 0 _ (by omega), O _ 5 0 _ (by omega), O _ 4 0 _ (by omega), O _ 3 0 _ (by omega), O _ 2 0 _ (by omega), O _ 1 0 _ (by omega)]
    exact World.cell?_setCell_same _ _ _ k0
  · rw [O _ 6 1 _ (by omega), O _ 5 1 _ (by omega), O _ 4 1 _ (by omega), O _ 3 1 _ (by omega), O _ 2 1 _ (by omega)]
    exact World.cell?_setCell_same _ _ _ (by rw [O _ 0 1 _ (by omega)]; exact k1)
  · rw [O _ 6 2 _ (by omega), O _ 5 2 _ (by omega), O _ 4 2 _ (by omega), O _ 3 2 _ (by omega)]
    exact World.cell?_setCell_same _ _ _ (by rw [O _ 1 2 _ (by omega), O _ 0 2 _ (by omega)]; exact k2)
  · rw [O _ 6 3 _ (by omega), O _ 5 3 _ (by omega), O _ 4 3 _ (by omega)]
    exact World.cell?_setCell_same _ _ _ (by rw [O _ 2 3 _ (by omega), O _ 1 3 _ (by omega), O _ 0 3 _ (by omega)]; exact k3)
  · rw [O _ 6 4 _ (by omega), O _ 5 4 _ (by omega)]
    exact World.cell?_setCell_same _ _ _ (by rw [O _ 3 4 _ (by omega), O _ 2 4 _ (by omega), O _ 1 4 _ (by omega), O _ 0 4 _ (by omega)]; exact k4)
  · rw [O _ 6 5 _ (by omega)]
    exact World.cell?_setCell_same _ _ _ (by rw [O _ 4 5 _ (by omega), O _ 3 5 _ (by omega), O _ 2 5 _ (by omega), O _ 1 5 _ (by omega), O _ 0 5 _ (by omega)]; exact k5)
  · exact World.cell?_setCell_same _ _ _ (by rw [O _ 5 6 _ (by omega), O _ 4 6 _ (by omega), O _ 3 6 _ (by omega), O _ 2 6 _ (by omega), O _ 1 6 _ (by omega), O _ 0 6 _ (by omega)]; exact k6)
  all_goals (rw [z, z, z, z, z, z, z]; assumption)

theorem box7_drewN {w : World} {g : Nat} {a b c d e f h : Value} (k : Box7 w g a b c d e f h) (n : Nat) : Box7 (w.drewN n) g a b c d e f h := k
theorem box7_at {w : World} {g : Nat} {a b c d e f h : Value} {t : TypeId} (hg : w.heap.size = g) : Box7 (w.alloc (.cells #[a, b, c, d, e, f, h] t)) g a b c d e f h := by
  subst hg
  exact box7_new w a b c d e f h t
theorem box7_keep {w w1 : World} {g : Nat} {a b c d e f h : Value} (k : Box7 w g a b c d e f h) (hb : Below w.heap.size w w1) : Box7 w1 g a b c d e f h := k.below hb k.lt
/-- What set has handed back, laid into a variable of the call's own. -/
def PBox (w3 : World) (S : List Bs) (x : Int × Mdl × List Bs) (g : Nat) (wx : World) : Prop :=
  w3.heap.size ≤ g ∧ Below w3.heap.size w3 wx ∧ ∃ (n' r' : ByteArray) (b' : Bool) (s' q' : Int) (A : Option Addr) (n c : Nat) (A2 : Option Addr) (n2 c2 : Nat),
    Box7 wx g (.string n') (.string r') (.bool b') (.int .i64 s') (.int .i64 q') (.slice A n c) (.slice A2 n2 c2)
    ∧ (x.1 = 0 → n' = bs x.2.1.name ∧ r' = bs x.2.1.root ∧ b' = x.2.1.write ∧ s' = x.2.1.slots ∧ q' = x.2.1.quota ∧ n = x.2.1.users.length ∧ RdU wx (.slice A n c) x.2.1.users
      ∧ ∃ S', n2 = S'.length ∧ RdStr wx (.slice A2 n2 c2) S' ∧ S'.length ≤ S.length + 1 ∧ ∀ k, S'.contains k = x.2.2.contains k)
section
variable {w3 wc ws : World} {S : List Bs} {us : List Usr} {x : Int × Mdl × List Bs} {A0 A20 : Option Addr} {c0 c20 : Nat} {n' r' : ByteArray} {b' : Bool} {s' q' : Int} {A : Option Addr} {n c : Nat} {A2 : Option Addr} {n2 c2 : Nat}
theorem pbox_late (hb3 : Below w3.heap.size w3 wc) (hbs : Below wc.heap.size wc ws) (hu : RdU w3 (.slice A0 us.length c0) us) (hs : RdStr w3 (.slice A20 S.length c20) S)
    (hg : x.1 = 0 → n' = bs x.2.1.name ∧ r' = bs x.2.1.root ∧ b' = x.2.1.write ∧ s' = x.2.1.slots ∧ q' = x.2.1.quota ∧ n = x.2.1.users.length ∧ ((A = A0 ∧ c = c0 ∧ x.2.1.users = us) ∨ ((∃ g, A = some ⟨g, 0, none⟩ ∧ wc.heap.size ≤ g) ∧ RdU ws (.slice A n c) x.2.1.users))
      ∧ ∃ S', n2 = S'.length ∧ ((A2 = A20 ∧ c2 = c20 ∧ S' = S) ∨ ((∃ g, A2 = some ⟨g, 0, none⟩ ∧ wc.heap.size ≤ g) ∧ RdStr ws (.slice A2 n2 c2) S')) ∧ S'.length ≤ S.length + 1 ∧ ∀ k, S'.contains k = x.2.2.contains k) (t : TypeId) :
    PBox w3 S x ws.heap.size (ws.alloc (.cells #[.string n', .string r', .bool b', .int .i64 s', .int .i64 q', .slice A n c, .slice A2 n2 c2] t)) := by
  have h1 : Below w3.heap.size w3 ws := hb3.trans (hbs.mono hb3.size)
  have h2 : Below ws.heap.size ws (ws.alloc (.cells #[.string n', .string r', .bool b', .int .i64 s', .int .i64 q', .slice A n c, .slice A2 n2 c2] t)) := (Below.refl _ _).alloc (Nat.le_refl _) _
  have h3 := h1.trans (h2.mono h1.size)
  refine ⟨h1.size, h3, n', r', b', s', q', A, n, c, A2, n2, c2, box7_new _ _ _ _ _ _ _ _ _, fun h0 => ?_⟩
  obtain ⟨e1, e2, e3, e4, e5, e6, e7, S', e8, e9, e10, e11⟩ := hg h0
  refine ⟨e1, e2, e3, e4, e5, e6, ?_, S', e8, ?_, e10, e11⟩
  · rcases e7 with ⟨rfl, rfl, h⟩ | ⟨_, h⟩
    · rw [h] at e6 ⊢; subst e6; exact hu.below h3
    · exact Flat.below h h2
  · rcases e9 with ⟨rfl, rfl, h⟩ | ⟨_, h⟩
    · rw [h] at e8 ⊢; subst e8; exact Flat.below hs h3
    · exact Flat.below h h2
theorem pbox_early (g : Nat) (hgc : g < wc.heap.size) (hg3 : w3.heap.size ≤ g) (hb3 : Below w3.heap.size w3 wc) (hbs : Below wc.heap.size wc ws) (hu : RdU w3 (.slice A0 us.length c0) us) (hs : RdStr w3 (.slice A20 S.length c20) S)
    (hg : x.1 = 0 → n' = bs x.2.1.name ∧ r' = bs x.2.1.root ∧ b' = x.2.1.write ∧ s' = x.2.1.slots ∧ q' = x.2.1.quota ∧ n = x.2.1.users.length ∧ ((A = A0 ∧ c = c0 ∧ x.2.1.users = us) ∨ ((∃ g, A = some ⟨g, 0, none⟩ ∧ wc.heap.size ≤ g) ∧ RdU ws (.slice A n c) x.2.1.users))
      ∧ ∃ S', n2 = S'.length ∧ ((A2 = A20 ∧ c2 = c20 ∧ S' = S) ∨ ((∃ g, A2 = some ⟨g, 0, none⟩ ∧ wc.heap.size ≤ g) ∧ RdStr ws (.slice A2 n2 c2) S')) ∧ S'.length ≤ S.length + 1 ∧ ∀ k, S'.contains k = x.2.2.contains k)
    {z0 z1 z2 z3 z4 z5 z6 : Value} (hbox : Box7 ws g z0 z1 z2 z3 z4 z5 z6) :
    PBox w3 S x g (((((((ws.setCell ⟨g, 0, none⟩ (.string n')).setCell ⟨g, 1, none⟩ (.string r')).setCell ⟨g, 2, none⟩ (.bool b')).setCell ⟨g, 3, none⟩ (.int .i64 s')).setCell ⟨g, 4, none⟩ (.int .i64 q')).setCell ⟨g, 5, none⟩ (.slice A n c)).setCell ⟨g, 6, none⟩ (.slice A2 n2 c2)) := by
  have h1 : Below w3.heap.size w3 ws := hb3.trans (hbs.mono hb3.size)
  have h3 := below_set7 h1 g hg3 (.string n') (.string r') (.bool b') (.int .i64 s') (.int .i64 q') (.slice A n c) (.slice A2 n2 c2)
  have hk : ∀ (A : Option Addr) (c n size : Nat) (xs : List Value) (w2 : World) (j : Nat) (u : Value), (∃ g, A = some ⟨g, 0, none⟩ ∧ wc.heap.size ≤ g) → Flat w2 (.slice A n c) size n xs → Flat (w2.setCell ⟨g, j, none⟩ u) (.slice A n c) size n xs := fun A c n size xs w2 j u ⟨g', h1, h2⟩ h => h.setCell h1 _ _ _ hgc h2
  refine ⟨hg3, h3, n', r', b', s', q', A, n, c, A2, n2, c2, box7_fill hbox _ _ _ _ _ _ _, fun h0 => ?_⟩
  obtain ⟨e1, e2, e3, e4, e5, e6, e7, S', e8, e9, e10, e11⟩ := hg h0
  refine ⟨e1, e2, e3, e4, e5, e6, ?_, S', e8, ?_, e10, e11⟩
  · rcases e7 with ⟨rfl, rfl, h⟩ | ⟨hA, h⟩
    · rw [h] at e6 ⊢; subst e6; exact hu.below h3
    · subst e6
      exact hk _ _ _ _ _ _ _ _ hA (hk _ _ _ _ _ _ _ _ hA (hk _ _ _ _ _ _ _ _ hA (hk _ _ _ _ _ _ _ _ hA (hk _ _ _ _ _ _ _ _ hA (hk _ _ _ _ _ _ _ _ hA (hk _ _ _ _ _ _ _ _ hA h))))))
  · rcases e9 with ⟨rfl, rfl, h⟩ | ⟨hA, h⟩
    · rw [h] at e8 ⊢; subst e8; exact Flat.below hs h3
    · subst e8
      exact hk _ _ _ _ _ _ _ _ hA (hk _ _ _ _ _ _ _ _ hA (hk _ _ _ _ _ _ _ _ hA (hk _ _ _ _ _ _ _ _ hA (hk _ _ _ _ _ _ _ _ hA (hk _ _ _ _ _ _ _ _ hA (hk _ _ _ _ _ _ _ _ hA h))))))
end
/-- The document's record of a module in memory. -/
def toU (u : Usr) : S83 := ⟨bs u.name, bs u.secret⟩
def toRm (p : XM) : Rm := ⟨bs p.1.name, bs p.1.root, p.1.write, p.1.slots, p.1.quota, p.1.users.map toU, p.2.2.2.map bs⟩
theorem mOf_toRm (p : XM) : mOf (toRm p) = p.1 := by
  obtain ⟨⟨n, r, w, s, q, us⟩, _, _, _⟩ := p
  show (⟨n, r, w, s, q, (us.map toU).map uOf⟩ : Mdl) = ⟨n, r, w, s, q, us⟩
  rw [List.map_map]
  congr 1
  exact List.map_id'' (fun u => rfl) us
theorem RdU.kd {w : World} {A : Option Addr} {c : Nat} {us : List Usr} (h : RdU w (.slice A us.length c) us) (hl : us.length ≤ 1000000) : us.length ≤ c ∧ Kd.C k83 w A us.length (us.map toU) := by
  rcases h.2 with ⟨hv, h0⟩ | ⟨g, o, c', hv, hn, _, hc⟩
  · injection hv with hA _ hcc
    subst hA; subst hcc
    have : us = [] := List.eq_nil_of_length_eq_zero h0
    subst this
    exact ⟨Nat.le_refl _, ⟨rfl, by simp, fun hne => absurd hne (by simp)⟩⟩
  · injection hv with hA _ hcc
    subst hA; subst hcc
    refine ⟨hn, ⟨by rw [List.length_map], by omega, fun _ => ⟨⟨g, o, none⟩, rfl, fun j p hj => ?_⟩⟩⟩
    rw [List.getElem?_map, Option.map_eq_some_iff] at hj
    obtain ⟨u, hj, rfl⟩ := hj
    refine ⟨ucells u, rfl, k83_mk w (toU u), fun i y hy => ?_⟩
    have hi : i < 2 := (List.getElem?_eq_some_iff.1 hy).1
    rw [show k83.sz = 2 from rfl, addr_add']
    exact hc (j * 2 + i) y (by unfold usrCells; rw [flat_at ucells 2 (fun _ => rfl) us j u i hj hi]; exact hy)
theorem ROut.kd {w : World} {A : Option Addr} {c : Nat} {X : List XM} (h : ROut w (.slice A X.length c) X) (hl : X.length ≤ 1000000) (hu : ∀ p ∈ X, p.1.users.length ≤ 1000000 ∧ p.2.2.2.length ≤ 1000000) : X.length ≤ c ∧ Kd.C k45 w A X.length (X.map toRm) := by
  rcases h.flat.2 with ⟨hv, h0⟩ | ⟨g, o, c', hv, hn, _, hc⟩
  · injection hv with hA _ hcc
    subst hA; subst hcc
    have : X = [] := List.eq_nil_of_length_eq_zero h0
    subst this
    exact ⟨Nat.le_refl _, ⟨rfl, by simp, fun hne => absurd hne (by simp)⟩⟩
  · injection hv with hA _ hcc
    subst hA; subst hcc
    refine ⟨hn, ⟨by rw [List.length_map], by omega, fun _ => ⟨⟨g, o, none⟩, rfl, fun j p hj => ?_⟩⟩⟩
    rw [List.getElem?_map, Option.map_eq_some_iff] at hj
    obtain ⟨p, hj, rfl⟩ := hj
    have hm := List.mem_of_getElem? hj
    obtain ⟨Au, cu, hu1, hu2⟩ := h.usr p hm
    obtain ⟨As, cs, hs1, hs2⟩ := h.sn p hm
    have hu2' : RdU w (.slice Au p.1.users.length cu) p.1.users := hu1 ▸ hu2
    obtain ⟨lu, gu⟩ := RdU.kd hu2' (hu p hm).1
    obtain ⟨As', cs', hse, ls, gs⟩ := RdStr.kd hs2 (hu p hm).2
    rw [hs1, List.length_map] at hse
    injection hse with hAs _ hcs
    subst hAs; subst hcs
    refine ⟨xcells p, rfl, ?_, fun i y hy => ?_⟩
    · have hx : xcells p = [.string (bs p.1.name), .string (bs p.1.root), .bool p.1.write, .int .i64 p.1.slots, .int .i64 p.1.quota, .slice Au (p.1.users.map toU).length cu, .slice As (p.2.2.2.map bs).length cs] := by
        unfold xcells
        rw [hu1, hs1, List.length_map, List.length_map]
      rw [hx]
      exact k45_mk w (toRm p) (by show (p.1.users.map toU).length ≤ cu; rw [List.length_map]; exact lu) (by show Kd.C _ w Au (p.1.users.map toU).length _; rw [List.length_map]; exact gu) ls gs
    · have hi : i < 7 := (List.getElem?_eq_some_iff.1 hy).1
      rw [show k45.sz = 7 from rfl, addr_add']
      exact hc (j * 7 + i) y (by rw [xc_at hj i hi]; exact hy)
end Go.Proofs.YtkbamneecfmibaaGreatDoor
