/- wharfingerref13.Parse: the walk: it comes to what C.parse says. No conditions. -/
import Derived.Test.YtkbamneecfmibaaGreatDoorMgC
import Derived.Deep.RegionHeld3
import Derived.Deep.RegionWith
import Derived.Deep.DeepCutAuto
namespace Go.Proofs.YtkbamneecfmibaaGreatDoor
open Go.RowKit
open C PConfWrites Go.Proofs.YtkbamneecfmibaaGreatDoorW.PrintWords

def PRef (t : Bs) (w : World) (e : Ending) (w' : World) : Prop :=
  (∃ A c X, e = .returned (.tuple #[.slice A X.length c, .int .i64 (C.parse t).1, .int .i64 ((C.parse t).2.1 : Int)]) ∧ X.map (·.1) = (C.parse t).2.2 ∧ ROut w' (.slice A X.length c) X) ∧ Below w.heap.size w w'
structure RInv (L : List Bs) (w : World) (A : Option Addr) (c : Nat) (X : List XM) (seen : List Bs) (i : Nat) : Prop where
  rout : ROut w (.slice A X.length c) X
  len : X.length ≤ 8
  small : ∀ p ∈ X, p.1.users.length ≤ 8 ∧ p.1.root.length ≤ 100000 ∧ p.2.2.2.length ≤ i
  sn : ∀ p, X.getLast? = some p → ∀ k, p.2.2.2.contains k = seen.contains k
  go : goLines 0 L [] [] = goLines i (L.drop i) (X.map (·.1)) seen
theorem rout_nil (w : World) : ROut w (.slice none 0 0) [] := ⟨⟨rfl, .inl ⟨rfl, rfl⟩⟩, fun p hp => by simp at hp, fun p hp => by simp at hp⟩
theorem parse_err {t : Bs} {x : Int} {i : Nat} (ht : ¬ 8192 < t.length) (h : goLines 0 (splitOn 10 t) [] [] = (x, i, [])) (hx : x ≠ 0) : C.parse t = (x, i, []) := by
  unfold C.parse
  rw [if_neg ht, h]
  simp only
  rw [if_neg hx]
theorem parse_end {t : Bs} {ms : List Mdl} (ht : ¬ 8192 < t.length) (h : goLines 0 (splitOn 10 t) [] [] = (0, 0, ms)) : C.parse t = if (checkMs ms).1 = 0 then (0, 0, ms) else ((checkMs ms).1, (checkMs ms).2, []) := by
  unfold C.parse
  rw [if_neg ht, h]
  simp only
  rw [if_pos True.intro]
theorem rsplit_len (c : UInt8) : ∀ (t : Bs), (splitOn c t).length ≤ t.length + 1 ∧ ∀ l ∈ splitOn c t, l.length ≤ t.length
  | [] => by simp [splitOn]
  | b :: t => by
    obtain ⟨h1, h2⟩ := rsplit_len c t
    rw [splitOn_cons]
    by_cases e : (b == c) = true
    · rw [if_pos e]
      refine ⟨by simp; omega, fun l hl => ?_⟩
      rcases List.mem_cons.1 hl with rfl | hl
      · simp
      · have := h2 l hl; simp; omega
    · rw [if_neg e]
      cases hs : splitOn c t with
      | nil => exact absurd hs (splitOn_ne c t)
      | cons h r =>
        rw [hs] at h1 h2
        refine ⟨by simp at h1 ⊢; omega, fun l hl => ?_⟩
        rcases List.mem_cons.1 hl with rfl | hl
        · have := h2 h (by simp); simp; omega
        · have := h2 l (by simp [hl]); simp; omega
theorem RInv.below {L : List Bs} {w w1 : World} {A : Option Addr} {c : Nat} {X : List XM} {seen : List Bs} {i : Nat} (h : RInv L w A c X seen i) (hb : Below w.heap.size w w1) : RInv L w1 A c X seen i := ⟨h.rout.below hb, h.len, h.small, h.sn, h.go⟩
theorem RInv.next {L : List Bs} {w : World} {A : Option Addr} {c : Nat} {X : List XM} {seen : List Bs} {i : Nat} {l : Bs} (h : RInv L w A c X seen i) (hl : L[i]? = some l) (hs : lineStep (X.map (·.1)) seen l = (0, X.map (·.1), seen)) : RInv L w A c X seen (i + 1) :=
  ⟨h.rout, h.len, fun p hp => ⟨(h.small p hp).1, (h.small p hp).2.1, Nat.le_succ_of_le (h.small p hp).2.2⟩, h.sn, by rw [h.go, goLines_step hl, hs, if_pos rfl]⟩
theorem RInv.opened {L : List Bs} {w w1 : World} {A A1 : Option Addr} {c c1 : Nat} {X : List XM} {seen : List Bs} {i : Nat} {l r : Bs} (h : RInv L w A c X seen i) (hl : L[i]? = some l) (ht : trim l = 91 :: r) (h0 : openE (X.map (·.1)) r = 0) (hb : Below w.heap.size w w1)
    (hf : Flat w1 (.slice A1 (X.length + 1) c1) 7 (X.length + 1) (xCells (X ++ [(newX r.dropLast, .slice none 0 0, .slice none 0 0, [])]))) : RInv L w1 A1 c1 (X ++ [(newX r.dropLast, .slice none 0 0, .slice none 0 0, [])]) [] (i + 1) := by
  have hl8 : X.length < 8 := by
    unfold openE at h0
    rw [List.length_map] at h0
    repeat' split at h0
    all_goals first | omega | (cases h0)
  have hlen : (X ++ [((newX r.dropLast, .slice none 0 0, .slice none 0 0, []) : XM)]).length = X.length + 1 := by simp
  refine ⟨⟨by rw [hlen]; exact hf, ?_, ?_⟩, by rw [hlen]; omega, ?_, ?_, ?_⟩
  · intro p hp
    rcases List.mem_append.1 hp with hp | hp
    · obtain ⟨A, c, h1, h2⟩ := h.rout.usr p hp; exact ⟨A, c, h1, h2.below hb⟩
    · rw [List.mem_singleton] at hp; subst hp
      exact ⟨none, 0, rfl, ⟨rfl, .inl ⟨rfl, rfl⟩⟩⟩
  · intro p hp
    rcases List.mem_append.1 hp with hp | hp
    · obtain ⟨A, c, h1, h2⟩ := h.rout.sn p hp; exact ⟨A, c, h1, Flat.below h2 hb⟩
    · rw [List.mem_singleton] at hp; subst hp
      exact ⟨none, 0, rfl, ⟨rfl, .inl ⟨rfl, rfl⟩⟩⟩
  · intro p hp
    rcases List.mem_append.1 hp with hp | hp
    · exact ⟨(h.small p hp).1, (h.small p hp).2.1, Nat.le_succ_of_le (h.small p hp).2.2⟩
    · rw [List.mem_singleton] at hp; subst hp
      exact ⟨Nat.zero_le _, Nat.zero_le _, Nat.zero_le _⟩
  · intro p hp k
    rw [List.getLast?_concat] at hp
    injection hp with hp
    subst hp
    rfl
  · rw [h.go, goLines_step hl, (rstep_open ht).2 h0, if_pos rfl, List.map_append]
    rfl
/-- Behind a line that sets something of the last module. -/
theorem RInv.setted {L : List Bs} {w w1 : World} {A A1 : Option Addr} {c c1 : Nat} {X : List XM} {q q' : XM} {seen : List Bs} {i : Nat} {l r k v : Bs} {b : UInt8} (h : RInv L w A c (X ++ [q]) seen i) (hl : L[i]? = some l) (ht : trim l = b :: r) (h1 : b ≠ 35) (h2 : b ≠ 91) (h3 : cut1 61 (b :: r) = some (k, v)) (hb : Below w.heap.size w w1)
    (hv : (trim v).length ≤ 100000)
    (h0 : (setM q.1 seen (trim k) (trim v)).1 = 0) (hq : q'.1 = (setM q.1 seen (trim k) (trim v)).2.1)
    (hu : ∃ A c, q'.2.1 = .slice A q'.1.users.length c ∧ RdU w1 q'.2.1 q'.1.users) (hs : ∃ A c, q'.2.2.1 = .slice A q'.2.2.2.length c ∧ RdStr w1 q'.2.2.1 q'.2.2.2) (hsl : q'.2.2.2.length ≤ q.2.2.2.length + 1) (hsn : ∀ y, q'.2.2.2.contains y = (setM q.1 seen (trim k) (trim v)).2.2.contains y)
    (hf : Flat w1 (.slice A1 (X.length + 1) c1) 7 (X.length + 1) (xCells (X ++ [q']))) : RInv L w1 A1 c1 (X ++ [q']) (setM q.1 seen (trim k) (trim v)).2.2 (i + 1) := by
  have hlen : (X ++ [q']).length = X.length + 1 := by simp
  have hq8 := h.small q (by simp)
  have hsm := setM_small h0 hq8.1 hq8.2.1 hv
  refine ⟨⟨by rw [hlen]; exact hf, ?_, ?_⟩, by rw [hlen]; have := h.len; simp at this; omega, ?_, ?_, ?_⟩
  · intro p hp
    rcases List.mem_append.1 hp with hp | hp
    · obtain ⟨A, c, h1, h2⟩ := h.rout.usr p (by simp [hp]); exact ⟨A, c, h1, h2.below hb⟩
    · rw [List.mem_singleton] at hp; subst hp
      exact hu
  · intro p hp
    rcases List.mem_append.1 hp with hp | hp
    · obtain ⟨A, c, h1, h2⟩ := h.rout.sn p (by simp [hp]); exact ⟨A, c, h1, Flat.below h2 hb⟩
    · rw [List.mem_singleton] at hp; subst hp
      exact hs
  · intro p hp
    rcases List.mem_append.1 hp with hp | hp
    · have := h.small p (by simp [hp]); exact ⟨this.1, this.2.1, Nat.le_succ_of_le this.2.2⟩
    · rw [List.mem_singleton] at hp; subst hp
      exact ⟨by rw [hq]; exact hsm.1, by rw [hq]; exact hsm.2, by omega⟩
  · intro p hp y
    rw [List.getLast?_concat] at hp
    injection hp with hp
    subst hp
    exact hsn y
  · rw [h.go, goLines_step hl, List.map_append, List.map_singleton, step_set ht h1 h2 h3, if_pos h0, List.map_append, List.map_singleton, hq]

theorem wrap_nat {n : Nat} (h : n ≤ 1000000) : IntKind.i64.wrap (n : Int) = (n : Int) := IntWalk.i64_in _ ⟨by omega, by omega⟩
def idx1 (c : UInt8) (l : Bs) : Int := match cut1 c l with | some p => ((p.1.length : Nat) : Int) | none => -1
theorem refFindI (l : Bs) (hl : l.length ≤ 1000000) (c : UInt8) (ci : Int) (hc : ci = (c.toNat : Int)) (w : World) : Calls Tryz.prog 31 #[.string (bs l), .int .u8 ci] w fun e w' => e = .returned (.int .i64 (idx1 c l)) ∧ Below w.heap.size w w' := refFind_any l hl c ci hc w
theorem idx1_none {c : UInt8} {l : Bs} (h : cut1 c l = none) : idx1 c l = -1 := by unfold idx1; rw [h]
theorem idx1_some {c : UInt8} {l k v : Bs} (h : cut1 c l = some (k, v)) : idx1 c l = (k.length : Int) := by unfold idx1; rw [h]
set_option maxRecDepth 100000 in
set_option maxHeartbeats 3000000 in
theorem refParse_any (t : Bs) (w : World) : Calls Tryz.prog 11 #[.string (bs t)] w (PRef t w) := by
  have hsz : (bs t).size = t.length := rfl
  by_cases h8 : 8192 < t.length
  · have hp : C.parse t = (2, 0, []) := by unfold C.parse; rw [if_pos h8]
    have HP := Lib.hid hp
    have h8' : 8192 < (bs t).size := h8
    clear hp hsz h8
    generalize bs t = V at h8'
    go_enter Tryz.func11, Tryz.ntmps11
    go_wp2_with fail
    refine bodyPost_ret (v := .tuple #[.slice none 0 0, .int .i64 2, .int .i64 0]) ?_ rfl ?_
    · simp [results, Tryz.results11, go_sem, *]
    · exact ⟨⟨none, 0, [], by rw [HP.out]; rfl, by rw [HP.out]; rfl, rout_nil _⟩, Below.refl _ _⟩
  · have HLN := Lib.hid (refLines_any t (by omega))
    have H8 := Lib.hid h8
    have h8' : ¬ 8192 < (bs t).size := h8
    have hLl := (rsplit_len 10 t).1
    have hLm := (rsplit_len 10 t).2
    have HPE := Lib.hid (fun x i h hx => parse_err (t := t) (x := x) (i := i) h8 h hx)
    have HPF := Lib.hid (fun ms h => parse_end (t := t) (ms := ms) h8 h)
    have HLM : Hid (∀ l ∈ splitOn 10 t, l.length ≤ 8192) := Lib.hid (fun l hl => by have := hLm l hl; omega)
    have hLl' : (splitOn 10 t).length ≤ 8193 := by omega
    clear hsz h8 hLl hLm
    generalize splitOn 10 t = L at HLN HPE HPF HLM hLl'
    generalize bs t = V at HLN h8'
    go_enter Tryz.func11, Tryz.ntmps11
    go_wp2_with fail
    refine (HLN.out _).mono ?_
    rintro e w1 ⟨⟨AL, cL, rfl, hcL, hkd⟩, hb1⟩
    have HB1 := Lib.hid hb1
    have HKD := Lib.hid (fun (i : Nat) (hi : i < L.length) => kd_str hkd (by intro e; rw [e] at hi; simp at hi))
    have hsz1 : w.heap.size ≤ w1.heap.size := hb1.size
    clear hb1 hkd HLN
    go_wp2_with fail
    go_loopw [5, 7] (fun v iv wr => ∃ (i : Nat) (X : List XM) (A : Option Addr) (c : Nat) (seen : List Bs), i ≤ L.length ∧ iv = .int .i64 i ∧ v = .slice A X.length c ∧ Below w1.heap.size w1 wr ∧ Hid (RInv L wr A c X seen i)) (fun _ iv _ => L.length - (intOf iv).toNat)
    case atStart => exact ⟨0, [], none, 0, [], by omega, rfl, rfl, Below.refl _ _, Lib.hid ⟨rout_nil _, by simp, fun p hp => by simp at hp, fun p hp => by simp at hp, rfl⟩⟩
    case round =>
      obtain ⟨i, X, A, c, seen, hi, rfl, rfl, hb, HINV⟩ := hrel
      have HBb := Lib.hid hb
      have hszr : w1.heap.size ≤ wr.heap.size := hb.size
      clear hb
      by_cases hlt : i < L.length
      · obtain ⟨g, o, hA, hcell⟩ := HKD.out i hlt
        subst hA
        have hu : L[i]? = some L[i] := List.getElem?_eq_getElem hlt
        have c0 := hcell i _ hu
        have hll := HLM.out L[i] (List.getElem_mem _)
        have HUi := Lib.hid hu
        clear hu hcell
        generalize L[i] = l at c0 HUi hll
        have z0 : wr.cell? ⟨g, o + i, none⟩ = some (.string (bs l)) := Below.cell_some HBb.out (Nat.le_refl _) c0
        have hgl : g < w1.heap.size := cell_lt c0
        have HTR := Lib.hid (refTrim_any l (by omega))
        clear c0
        generalize bs l = lv at z0 HTR
        go_wp2_with fail
        refine (HTR.out _).mono ?_
        rintro e w2 ⟨rfl, hb2⟩
        have HB2 := Lib.hid (HBb.out.trans (hb2.mono (by omega)))
        have HI2 := Lib.hid (HINV.out.below hb2)
        have hsz2 : wr.heap.size ≤ w2.heap.size := hb2.size
        have htl := rtrim_len l
        clear hb2 HTR z0
        rcases htr : trim l with _ | ⟨b, r⟩
        · have HN := Lib.hid (HI2.out.next HUi.out (step_blank (.inl htr)))
          have te : (bs []).toList.isEmpty = true := by rw [bs_toList]; rfl
          have te2 : ((bs []).toList == []) = true := by rw [bs_toList]; rfl
          clear htr
          generalize bs [] = lv at te te2
          go_wp2_with fail
          go_roundw
          case rel => exact ⟨i + 1, X, A, c, seen, by omega, by go_num, rfl, HB2.out, HN.out⟩
          case measure => simp [intOf]; omega
        · have te : (bs (b :: r)).toList.isEmpty = false := by rw [bs_toList]; rfl
          have te2 : ((bs (b :: r)).toList == []) = false := by rw [bs_toList]; rfl
          have hbx : ∀ h, (((bs (b :: r))[0]'h).toNat : Int) = (b.toNat : Int) := fun h => rfl
          have hlvs : (bs (b :: r)).size = r.length + 1 := rfl
          have HTR := Lib.hid htr
          have hrl : r.length + 1 ≤ 8192 := by rw [htr] at htl; simp at htl; omega
          have HFD := Lib.hid (refFindI (b :: r) (by simp; omega) 61 61 rfl)
          clear htr htl
          by_cases h35 : b = 35
          · have HN := Lib.hid (HI2.out.next HUi.out (step_blank (.inr ⟨r, by rw [HTR.out, h35]⟩)))
            have t1 : ((b.toNat : Int) == 35) = true := by rw [h35]; rfl
            clear HTR h35 HFD
            generalize (b.toNat : Int) = bn at hbx t1
            generalize bs (b :: r) = lv at te te2 hbx hlvs
            go_wp2_with fail
            go_roundw
            case rel => exact ⟨i + 1, X, A, c, seen, by omega, by go_num, rfl, HB2.out, HN.out⟩
            case measure => simp [intOf]; omega
          · have t1 : ((b.toNat : Int) == 35) = false := beq_eq_false_iff_ne.2 (fun h => h35 ((u8_eq (b := 35)).1 h))
            have t1' : ¬ (b.toNat : Int) = 35 := fun h => h35 ((u8_eq (b := 35)).1 h)
            by_cases h91 : b = 91
            · subst h91
              have HOP := Lib.hid (fun w4 (h : ROut w4 (.slice A X.length c) X) => refOpen_any A c X r w4 h (by have := HI2.out.len; omega) (by omega))
              have t2 : (((91 : UInt8).toNat : Int) == 91) = true := rfl
              have HS1 := Lib.hid (rstep_open (ms := X.map (·.1)) (seen := seen) HTR.out)
              clear h35
              generalize ((91 : UInt8).toNat : Int) = bn at hbx t1 t1' t2
              generalize idx1 61 (91 :: r) = atv at HFD
              generalize bs (91 :: r) = lv at te te2 hbx hlvs HFD HOP
              have HOE : Hid (openE (X.map (·.1)) r = openE (X.map (·.1)) r) := Lib.hid rfl
              obtain ⟨x, hxo⟩ : ∃ x, openE (X.map (·.1)) r = x := ⟨_, rfl⟩
              rw [hxo] at HOP HS1
              have HXO := Lib.hid hxo
              clear hxo HOE
              go_wp2_with fail
              refine (HFD.out _).mono ?_
              rintro e w3 ⟨rfl, hb3⟩
              have HB3 := Lib.hid (HB2.out.trans (hb3.mono (by omega)))
              have HI3 := Lib.hid (HI2.out.below hb3)
              have hsz3 : w2.heap.size ≤ w3.heap.size := hb3.size
              clear hb3 HFD
              go_wp2_with fail
              refine (HOP.out _ HI3.out.rout).mono ?_
              rintro e w4 ⟨⟨A4, m4, c4, rfl, hgood⟩, hb4⟩
              have HB4 := Lib.hid (HB3.out.trans (hb4.mono (by omega)))
              have hsz4 : w3.heap.size ≤ w4.heap.size := hb4.size
              have HGD := Lib.hid hgood
              have HBL := Lib.hid hb4
              clear hgood hb4 HOP
              by_cases hx0 : x = 0
              · obtain ⟨rfl, hfl⟩ := HGD.out hx0
                have HS0 : Hid (openE (X.map (·.1)) r = 0) := Lib.hid (HXO.out.trans hx0)
                have HN := Lib.hid (HI3.out.opened HUi.out HTR.out HS0.out HBL.out hfl)
                have hlen : (X ++ [((newX r.dropLast, .slice none 0 0, .slice none 0 0, []) : XM)]).length = X.length + 1 := by simp
                have t3 : (x == 0) = true := by rw [hx0]; rfl
                clear hfl HGD
                subst hx0
                go_wp2_with fail
                go_roundw
                case rel => exact ⟨i + 1, _, A4, c4, [], by omega, by go_num, by rw [hlen], HB4.out, HN.out⟩
                case measure => simp [intOf]; omega
              · have HE : Hid (C.parse t = (x, i, [])) := Lib.hid (HPE.out x i (by rw [HI2.out.go, goLines_step HUi.out, if_neg (by rw [HS1.out.1]; exact hx0), HS1.out.1]) hx0)
                have t3 : (x == 0) = false := beq_eq_false_iff_ne.2 hx0
                clear HGD
                go_wp2_with fail
                refine bodyPost_ret (v := .tuple #[.slice none 0 0, .int .i64 x, .int .i64 i]) ?_ rfl ?_
                · simp [results, Tryz.results11, go_sem, *]
                · exact ⟨⟨none, 0, [], by rw [HE.out]; rfl, by rw [HE.out]; rfl, rout_nil _⟩, HB1.out.trans (HB4.out.mono (by omega))⟩
            · have t2 : ((b.toNat : Int) == 91) = false := beq_eq_false_iff_ne.2 (fun h => h91 ((u8_eq (b := 91)).1 h))
              have t2' : ¬ (b.toNat : Int) = 91 := fun h => h91 ((u8_eq (b := 91)).1 h)
              by_cases hno : cut1 61 (b :: r) = none ∨ X = []
              · have HE : Hid (C.parse t = (130, i, [])) := Lib.hid (by
                  have h1 := step_none (ms := X.map (·.1)) (seen := seen) HTR.out h35 h91 (hno.imp_right (fun h => by rw [h]; rfl))
                  exact HPE.out 130 i (by rw [HI2.out.go, goLines_step HUi.out, if_neg (by rw [h1]; decide), h1]) (by decide))
                have HNO := Lib.hid hno
                clear h35 h91 hno
                have hcase : (decide (idx1 61 (b :: r) < 0) || ((X.length : Int) == 0)) = true := by
                  rcases HNO.out with h | h
                  · rw [idx1_none h]; rfl
                  · rw [h]; simp
                clear HTR HNO
                generalize idx1 61 (b :: r) = atv at HFD hcase
                generalize (b.toNat : Int) = bn at hbx t1 t1' t2 t2'
                generalize bs (b :: r) = lv at te te2 hbx hlvs HFD
                cases hd : decide (atv < 0) with
                | true =>
                  clear hcase
                  go_wp2_with fail
                  refine (HFD.out _).mono ?_
                  rintro e w3 ⟨rfl, hb3⟩
                  have HB3 := Lib.hid (HB2.out.trans (hb3.mono (by omega)))
                  clear hb3 HFD
                  go_wp2_with fail
                  refine bodyPost_ret (v := .tuple #[.slice none 0 0, .int .i64 130, .int .i64 i]) ?_ rfl ?_
                  · simp [results, Tryz.results11, go_sem, *]
                  · exact ⟨⟨none, 0, [], by rw [HE.out]; rfl, by rw [HE.out]; rfl, rout_nil _⟩, HB1.out.trans (HB3.out.mono (by omega))⟩
                | false =>
                  rw [hd, Bool.false_or] at hcase
                  go_wp2_with fail
                  refine (HFD.out _).mono ?_
                  rintro e w3 ⟨rfl, hb3⟩
                  have HB3 := Lib.hid (HB2.out.trans (hb3.mono (by omega)))
                  clear hb3 HFD
                  go_wp2_with fail
                  refine bodyPost_ret (v := .tuple #[.slice none 0 0, .int .i64 130, .int .i64 i]) ?_ rfl ?_
                  · simp [results, Tryz.results11, go_sem, *]
                  · exact ⟨⟨none, 0, [], by rw [HE.out]; rfl, by rw [HE.out]; rfl, rout_nil _⟩, HB1.out.trans (HB3.out.mono (by omega))⟩
              · obtain ⟨k, v, hcut⟩ : ∃ k v, cut1 61 (b :: r) = some (k, v) := by
                  cases h : cut1 61 (b :: r) with
                  | none => exact absurd (.inl h) hno
                  | some p => exact ⟨p.1, p.2, rfl⟩
                have hXne : X ≠ [] := fun h => hno (.inr h)
                obtain ⟨X', q, hXe⟩ : ∃ X' q, X = X' ++ [q] := ⟨X.dropLast, X.getLast hXne, (List.dropLast_concat_getLast hXne).symm⟩
                obtain ⟨_, hcv⟩ := cut1_some hcut
                have hlen : r.length + 1 = k.length + (v.length + 1) := by
                  have := congrArg List.length hcv
                  rw [List.length_append, List.length_cons, List.length_cons] at this
                  exact this
                have hx0 : (bs (b :: r)).extract 0 k.length = bs k := by rw [ext_bs, hcv]; simp
                have hx1 : (bs (b :: r)).extract (k.length + 1) (r.length + 1) = bs v := by
                  have h1 : r.length + 1 - (k.length + 1) = v.length := by omega
                  rw [ext_bs, h1, hcv, ← List.drop_drop, List.drop_left, List.drop_one, List.tail_cons, List.take_of_length_le (Nat.le_refl _)]
                have hXl : X.length = X'.length + 1 := by rw [hXe]; simp
                rw [idx1_some hcut] at HFD
                have HCUT := Lib.hid hcut
                have HXE := Lib.hid hXe
                have HX0 := Lib.hid hx0
                have HX1 := Lib.hid hx1
                have H35 := Lib.hid h35
                have H91 := Lib.hid h91
                have hX8 := HI2.out.len
                clear hno hcut hXne hXe hcv hx0 hx1 h35 h91
                obtain ⟨m, uv, sv, S⟩ := q
                have hqm : ((m, uv, sv, S) : XM) ∈ X := by rw [HXE.out]; simp
                obtain ⟨Au, cu, huv, hru⟩ := HI2.out.rout.usr _ hqm
                obtain ⟨As, cs, hsv, hrs⟩ := HI2.out.rout.sn _ hqm
                have huv' : uv = .slice Au m.users.length cu := huv
                have hsv' : sv = .slice As S.length cs := hsv
                subst huv' hsv'
                have hsm := HI2.out.small _ hqm
                have HSN := Lib.hid (HI2.out.sn (m, .slice Au m.users.length cu, .slice As S.length cs, S) (by rw [HXE.out, List.getLast?_concat]))
                have HRU := Lib.hid hru
                have HRS := Lib.hid hrs
                have hSl : S.length ≤ i := hsm.2.2
                have hul : m.users.length ≤ 8 := hsm.1
                clear hqm huv hsv hru hrs hsm
                have HTK := Lib.hid (refTrimD k (by omega))
                have HTV := Lib.hid (refTrimD v (by omega))
                have hkl := rtrim_len k
                have hvl := rtrim_len v
                rw [hXl]
                generalize (b.toNat : Int) = bn at hbx t1 t1' t2 t2'
                generalize bs (b :: r) = lv at te te2 hbx hlvs HFD HX0 HX1
                go_wp2_with fail
                refine (HFD.out _).mono ?_
                rintro e w3 ⟨rfl, hb3⟩
                have HB3 := Lib.hid (HB2.out.trans (hb3.mono (by omega)))
                have hsz3 : w2.heap.size ≤ w3.heap.size := hb3.size
                have HI3 := Lib.hid (HI2.out.below hb3)
                have HSET := Lib.hid (fun wc (hbc : Below w3.heap.size w3 wc) => (refSet_all m Au cu As cs S seen (trim k) (trim v) w3 wc hbc (HRU.out.below hb3) (Flat.below HRS.out hb3) (by omega) (by omega) (by omega) (by omega) HSN.out).mono (fun e w' h => (⟨⟨h, hbc.trans (h.2.mono hbc.size)⟩, fun hx => ⟨box7_keep hx h.2, hx.lt⟩⟩ : (PSetR Au cu m.users As cs (setM m seen (trim k) (trim v)) S wc e w' ∧ Below w3.heap.size w3 w') ∧ (Box7 wc w3.heap.size (.string ⟨#[]⟩) (.string ⟨#[]⟩) (.bool false) (.int .i64 0) (.int .i64 0) (.slice none 0 0) (.slice none 0 0) → Box7 w' w3.heap.size (.string ⟨#[]⟩) (.string ⟨#[]⟩) (.bool false) (.int .i64 0) (.int .i64 0) (.slice none 0 0) (.slice none 0 0) ∧ w3.heap.size < wc.heap.size))))
                have HRU3 := Lib.hid (HRU.out.below hb3)
                have HRS3 := Lib.hid (Flat.below HRS.out hb3)
                have hfl := HI3.out.rout.flat
                obtain ⟨g2, o2, c2, hA2, _, _, hcell2⟩ := hfl.cell (by omega)
                injection hA2 with hA2 _ hcc2
                subst hA2
                obtain rfl : c2 = c := hcc2.symm
                have hq9 : X[X'.length]? = some ((m, .slice Au m.users.length cu, .slice As S.length cs, S) : XM) := by rw [HXE.out]; simp
                have z0 := hcell2 (X'.length * 7 + 0) (.string (bs m.name)) (by rw [xc_at hq9 0 (by omega)]; rfl)
                have z1 := hcell2 (X'.length * 7 + 1) (.string (bs m.root)) (by rw [xc_at hq9 1 (by omega)]; rfl)
                have z2 := hcell2 (X'.length * 7 + 2) (.bool m.write) (by rw [xc_at hq9 2 (by omega)]; rfl)
                have z3 := hcell2 (X'.length * 7 + 3) (.int .i64 m.slots) (by rw [xc_at hq9 3 (by omega)]; rfl)
                have z4 := hcell2 (X'.length * 7 + 4) (.int .i64 m.quota) (by rw [xc_at hq9 4 (by omega)]; rfl)
                have z5 := hcell2 (X'.length * 7 + 5) (.slice Au m.users.length cu) (by rw [xc_at hq9 5 (by omega)]; rfl)
                have z6 := hcell2 (X'.length * 7 + 6) (.slice As S.length cs) (by rw [xc_at hq9 6 (by omega)]; rfl)
                simp only [Nat.add_zero, ← Nat.add_assoc] at z0 z1 z2 z3 z4 z5 z6
                have HFL := Lib.hid hfl
                have hg2 : g2 < w3.heap.size := cell_lt z0
                have t4 : decide ((k.length : Int) < 0) = false := decide_eq_false (by omega)
                have t5 : (((X'.length + 1 : Nat) : Int) == 0) = false := beq_eq_false_iff_ne.2 (by omega)
                have t5' : (((X'.length : Int) + 1) == 0) = false := beq_eq_false_iff_ne.2 (by omega)
                clear hb3 HFD hfl hcell2 hq9
                have hx0 := HX0.out
                have hx1 := HX1.out
                have n1 : (k.length : Int) ≤ (r.length : Int) + 1 := by omega
                have n2 : (k.length : Int) + 1 ≤ (r.length : Int) + 1 := by omega
                have n3 : (0 : Int) ≤ (k.length : Int) + 1 := by omega
                have n4 : IntKind.i64.wrap ((k.length : Int) + 1) = (k.length : Int) + 1 := wrap_succ (by omega)
                have n5 : ((k.length : Int) + 1).toNat = k.length + 1 := toNat_succ _
                have q1 : k.length ≤ r.length + 1 := by omega
                have q2 : k.length ≤ r.length := by omega
                have q3 : (k.length : Int) ≤ (r.length : Int) := by omega
                have q4 : k.length + 1 ≤ r.length + 1 := by omega
                have n6 : IntKind.i64.wrap (X'.length : Int) = (X'.length : Int) := wrap_nat (by omega)
                have n7 : IntKind.i64.wrap (k.length : Int) = (k.length : Int) := wrap_nat (by omega)
                have m1 : (0 : Int) ≤ (X'.length : Int) + 1 - 1 := by omega
                have m2 : (X'.length : Int) + 1 - 1 < (X'.length : Int) + 1 := by omega
                have m3 : (X'.length : Int) + 1 - 1 = (X'.length : Int) := by omega
                have m4 : (X'.length : Int) < (X'.length : Int) + 1 := by omega
                have m5 : (0 : Int) ≤ (X'.length : Int) := by omega
                have HCB : Hid (∀ w' : World, Below w3.heap.size w3 w' → w'.cell? ⟨g2, o2 + X'.length * 7, none⟩ = some (.string (bs m.name)) ∧ w'.cell? ⟨g2, o2 + X'.length * 7 + 1, none⟩ = some (.string (bs m.root)) ∧ w'.cell? ⟨g2, o2 + X'.length * 7 + 2, none⟩ = some (.bool m.write) ∧ w'.cell? ⟨g2, o2 + X'.length * 7 + 3, none⟩ = some (.int .i64 m.slots) ∧ w'.cell? ⟨g2, o2 + X'.length * 7 + 4, none⟩ = some (.int .i64 m.quota) ∧ w'.cell? ⟨g2, o2 + X'.length * 7 + 5, none⟩ = some (.slice Au m.users.length cu) ∧ w'.cell? ⟨g2, o2 + X'.length * 7 + 6, none⟩ = some (.slice As S.length cs) ∧ Below w3.heap.size w3 w') := Lib.hid (fun w' hb => ⟨Below.cell_some hb (Nat.le_refl _) z0, Below.cell_some hb (Nat.le_refl _) z1, Below.cell_some hb (Nat.le_refl _) z2, Below.cell_some hb (Nat.le_refl _) z3, Below.cell_some hb (Nat.le_refl _) z4, Below.cell_some hb (Nat.le_refl _) z5, Below.cell_some hb (Nat.le_refl _) z6, hb⟩)
                obtain ⟨kv, hkv⟩ : ∃ x, bs k = x := ⟨_, rfl⟩
                obtain ⟨vv, hvv⟩ : ∃ x, bs v = x := ⟨_, rfl⟩
                obtain ⟨tkv, htkv⟩ : ∃ x, bs (trim k) = x := ⟨_, rfl⟩
                obtain ⟨tvv, htvv⟩ : ∃ x, bs (trim v) = x := ⟨_, rfl⟩
                obtain ⟨nmv, hnmv⟩ : ∃ x, bs m.name = x := ⟨_, rfl⟩
                obtain ⟨rtv, hrtv⟩ : ∃ x, bs m.root = x := ⟨_, rfl⟩
                rw [hkv, htkv] at HTK
                rw [hvv, htvv] at HTV
                rw [hkv] at hx0
                rw [hvv] at hx1
                rw [htkv, htvv, hnmv, hrtv] at HSET
                obtain ⟨x, hxs⟩ : ∃ x, setM m seen (trim k) (trim v) = x := ⟨_, rfl⟩
                rw [hxs] at HSET
                have HXS := Lib.hid hxs
                clear hxs
                rw [hnmv, hrtv] at HCB
                rw [hnmv] at z0
                rw [hrtv] at z1
                clear hkv hvv htkv htvv hnmv hrtv
                have hB33 : Below w3.heap.size w3 w3.drew := (Below.refl _ _).drew
                have HLEN := Lib.hid hlen
                clear hlen
                go_upto_region 16 with fail
                go_cut [11, 12] from 57 to 75 (fun s11 s12 wx => ∃ gx, s11 = .pointer (some ⟨gx, 0, none⟩) ∧ s12 = .int .i64 x.1 ∧ Hid (PBox w3 S x gx wx))
                case first =>
                  go_region_held3 (fun w' => w'.cell? ⟨g2, o2 + X'.length * 7, none⟩ = some (.string nmv) ∧ w'.cell? ⟨g2, o2 + X'.length * 7 + 1, none⟩ = some (.string rtv) ∧ w'.cell? ⟨g2, o2 + X'.length * 7 + 2, none⟩ = some (.bool m.write) ∧ w'.cell? ⟨g2, o2 + X'.length * 7 + 3, none⟩ = some (.int .i64 m.slots) ∧ w'.cell? ⟨g2, o2 + X'.length * 7 + 4, none⟩ = some (.int .i64 m.quota) ∧ w'.cell? ⟨g2, o2 + X'.length * 7 + 5, none⟩ = some (.slice Au m.users.length cu) ∧ w'.cell? ⟨g2, o2 + X'.length * 7 + 6, none⟩ = some (.slice As S.length cs) ∧ Below w3.heap.size w3 w')
                    ((refine HCB.out _ ?_; go_split_ands; first | (with_reducible first | assumption | exact pw_below_drewN (Below.refl _ _) _ | (refine pw_below_drewN ?_ _; assumption) | (refine below_set7 ?_ _ (Nat.le_refl _) _ _ _ _ _ _ _; assumption) | (refine pw_below_drewN ?_ _; exact Below.alloc (Below.refl _ _) (Nat.le_refl _) _) | (refine below_drew1 ?_; exact Below.alloc (Below.refl _ _) (Nat.le_refl _) _)) | (refine Below.alloc ?_ ?_ _; assumption; refine Below.size (B := w3.heap.size) ?_; assumption)))
                    (first | (go_at_call_of 30 kv; refine (HTK.out _).mono ?_; rintro e wt ⟨rfl, nq, rfl⟩) | (go_at_call_of 30 vv; refine (HTV.out _).mono ?_; rintro e wt ⟨rfl, nq, rfl⟩) | (go_at_call 33; go_split_ands; refine (HSET.out _ (by assumption)).mono ?_; rintro e ws ⟨⟨⟨⟨nm', rt', wb', sl', qt', As', ns', cs', At', nt', ct', rfl, hgood⟩, hbs⟩, hb3s⟩, hbk⟩; (with_reducible have hbx := fun hg => hbk (box7_at hg)); have hbx := hbx rfl; obtain ⟨hbx, hgc⟩ := hbx; have HBX9 := Lib.hid hbx; obtain ⟨⟨e0, e1, e2, e3, e4, e5, e6⟩, d0, d1, d2, d3, d4, d5, d6⟩ := hbx) | (go_at_call 33; go_split_ands; refine (HSET.out _ (by assumption)).mono ?_; rintro e ws ⟨⟨⟨⟨nm', rt', wb', sl', qt', As', ns', cs', At', nt', ct', rfl, hgood⟩, hbs⟩, hb3s⟩, hbk⟩; (with_reducible have hbx := fun hg => hbk (box7_drewN (box7_at hg) _)); have hbx := hbx rfl; obtain ⟨hbx, hgc⟩ := hbx; have HBX9 := Lib.hid hbx; obtain ⟨⟨e0, e1, e2, e3, e4, e5, e6⟩, d0, d1, d2, d3, d4, d5, d6⟩ := hbx) | (go_at_call 33; go_split_ands; refine (HSET.out _ (by assumption)).mono ?_; rintro e ws ⟨⟨⟨⟨nm', rt', wb', sl', qt', As', ns', cs', At', nt', ct', rfl, hgood⟩, hbs⟩, hb3s⟩, hbk⟩))
                  all_goals (go_split_ands; go_wp2_with fail; go_meet; first | (refine ⟨_, rfl, rfl, Lib.hid (pbox_late ?_ hbs HRU3.out HRS3.out hgood _)⟩; with_reducible assumption) | (refine ⟨_, rfl, rfl, Lib.hid (pbox_early _ hgc (Nat.le_refl _) ?_ hbs HRU3.out HRS3.out hgood HBX9.out)⟩; with_reducible first | assumption | (refine pw_below_drewN ?_ _; exact Below.alloc (Below.refl _ _) (Nat.le_refl _) _) | (refine below_drew1 ?_; exact Below.alloc (Below.refl _ _) (Nat.le_refl _) _)))
                case rest =>
                  obtain ⟨gx, rfl, rfl, HPB⟩ := hcut
                  obtain ⟨hgx, hbx, nm', rt', wb', sl', qt', As', ns', cs', At', nt', ct', hbox, hgood⟩ := HPB.out
                  have HBC := Lib.hid hbx
                  have HBOX := Lib.hid hbox
                  have HGD := Lib.hid hgood
                  have hszc : w3.heap.size ≤ wc.heap.size := hbx.size
                  have hgxl : gx < wc.heap.size := hbox.lt
                  have hxc : (xCells X).take (X'.length * 7) = xCells X' := by
                    rw [HXE.out, x_snoc]
                    exact List.take_left' (flat_len xcells 7 (fun _ => rfl) X')
                  have HTK2 : Hid (Flat wc (.slice (some ⟨g2, o2, none⟩) X'.length c2) 7 X'.length (xCells X')) := Lib.hid (by
                    have h := (Flat.take HFL.out (m := X'.length) (by omega))
                    rw [hxc] at h
                    exact h.below hbx)
                  have HONE : Hid (∀ u ∈ xCells X', u.oneCell' = true) := Lib.hid (fun u hu => HI3.out.rout.one u (by rw [← hxc] at hu; exact List.mem_of_mem_take hu))
                  obtain ⟨⟨k0, k1, k2, k3, k4, k5, k6⟩, f0, f1, f2, f3, f4, f5, f6⟩ := hbox
                  obtain ⟨i0, hi0, hy0, hy1, hy2⟩ := info_parts infoRx
                  have HEMP := Lib.hid (own_empty wc tRx 7)
                  have HFL2 := Lib.hid (HTK2.out.below ((Below.refl wc.heap.size wc).alloc (Nat.le_refl _) (.cells #[] tRx)))
                  clear hbx hgood hxc z0 z1 z2 z3 z4 z5 z6 hB33
                  go_wp2_with (at_builtin; refine wpList_append_flat rfl _ _ 30 rfl wc.heap.size tRx i0 (.agg #[.string ⟨#[]⟩, .string ⟨#[]⟩, .bool false, .int .i64 0, .int .i64 0, .slice none 0 0, .slice none 0 0]) 7 104 Tryz.underlying30 hi0 hy0 hy1 hy2 rfl (by decide) _ _ _ rfl HEMP.out _ X'.length (xCells X') rfl HFL2.out HONE.out ?c3 ?c4 ?c5 ?_)
                  case c3 => unfold maxLen; omega
                  case c4 => omega
                  case c5 => simp
                  intro v4 w4 hown4 hgrow4
                  obtain ⟨A4, c4, rfl⟩ := own_slice hown4
                  have hb4 : Below wc.heap.size wc w4 := ((Below.refl _ _).alloc (Nat.le_refl _) _).grown hgrow4 (by simp) (fun k hk => by simp [Value.ownBlock] at hk; omega)
                  have HB4 := Lib.hid hb4
                  have hsz4 : wc.heap.size ≤ w4.heap.size := hb4.size
                  have HBX4 := HBOX.out.below hb4 hgxl
                  have HOWN4 := Lib.hid hown4
                  clear hown4 hgrow4 hb4 HEMP HFL2 k0 k1 k2 k3 k4 k5 k6 f0 f1 f2 f3 f4 f5 f6
                  have hgx4 : gx < w4.heap.size := by omega
                  obtain ⟨⟨k0, k1, k2, k3, k4, k5, k6⟩, f0, f1, f2, f3, f4, f5, f6⟩ := HBX4
                  have hl1 : wc.heap.size ≤ (w4.alloc (.cells #[.string nm', .string rt', .bool wb', .int .i64 sl', .int .i64 qt', .slice As' ns' cs', .slice At' nt' ct'] tRx)).heap.size := Nat.le_trans hsz4 ((Below.refl w4.heap.size w4).alloc (Nat.le_refl _) _).size
                  have BB := Lib.hid (HB4.out.alloc hsz4 (.cells #[.string nm', .string rt', .bool wb', .int .i64 sl', .int .i64 qt', .slice As' ns' cs', .slice At' nt' ct'] tRx))
                  go_wp2_with (at_builtin; refine wpList_append_own _ rfl _ _ 30 rfl wc.heap.size tRx i0 (.agg #[.string ⟨#[]⟩, .string ⟨#[]⟩, .bool false, .int .i64 0, .int .i64 0, .slice none 0 0, .slice none 0 0]) 7 104 Tryz.underlying30 hi0 hy0 hy1 hy2 rfl (by decide) _ _ _ rfl (HOWN4.out.alloc _) ⟨w4.heap.size, 0, none⟩ 1 1 [.string nm', .string rt', .bool wb', .int .i64 sl', .int .i64 qt', .slice As' ns' cs', .slice At' nt' ct'] rfl rfl (seven_new' _ _ _ _ _ _ _ _ _ _ rfl) ?c2 ?c3 ?c4 hl1 ?_)
                  case c2 => intro y hy; simp at hy; rcases hy with rfl | rfl | rfl | rfl | rfl | rfl | rfl <;> rfl
                  case c3 => unfold maxLen; omega
                  case c4 => omega
                  intro v5 w5 hown5 hgrow5 _
                  obtain ⟨A5, c5, rfl⟩ := own_slice hown5
                  have HB5 := Lib.hid (BB.out.grown hgrow5 hl1 (fun k hk => (own_block HOWN4.out hk).1))
                  have hsz5 : wc.heap.size ≤ w5.heap.size := HB5.out.size
                  have HOWN5 := Lib.hid hown5
                  have HB35 := Lib.hid (HBC.out.trans (HB5.out.mono (by omega)))
                  clear hown5 hgrow5 BB HOWN4 k0 k1 k2 k3 k4 k5 k6 f0 f1 f2 f3 f4 f5 f6
                  by_cases hx0' : x.1 = 0
                  · have t7 : (x.1 == 0) = true := by rw [hx0']; rfl
                    have HN : Hid (∃ q' : XM, RInv L w5 A5 c5 (X' ++ [q']) x.2.2 (i + 1)) := Lib.hid (by
                      obtain ⟨e1, e2, e3, e4, e5, e6, e7, S', e8, e9, e10, e11⟩ := HGD.out hx0'
                      refine ⟨(x.2.1, .slice As' ns' cs', .slice At' nt' ct', S'), ?_⟩
                      have hin : RInv L w3 (some ⟨g2, o2, none⟩) c2 (X' ++ [((m, .slice Au m.users.length cu, .slice As S.length cs, S) : XM)]) seen i := by rw [← HXE.out]; exact HI3.out
                      have h := RInv.setted (w1 := w5) (A1 := A5) (c1 := c5) (q' := (x.2.1, .slice As' ns' cs', .slice At' nt' ct', S')) hin HUi.out HTR.out H35.out H91.out HCUT.out HB35.out (by have := HLEN.out; omega) (by rw [HXS.out]; exact hx0') (by rw [HXS.out]) ⟨As', cs', by show Value.slice As' ns' cs' = _; rw [e6], Flat.below e7 HB5.out⟩ ⟨At', ct', by show Value.slice At' nt' ct' = _; rw [e8], Flat.below e9 HB5.out⟩ e10 (by rw [HXS.out]; exact e11) (by
                        rw [x_snoc]
                        have := Flat.of_own HOWN5.out
                        rw [e1, e2, e3, e4, e5] at this
                        exact this)
                      rw [HXS.out] at h
                      exact h)
                    go_wp2_with fail
                    go_roundw
                    case rel =>
                      obtain ⟨q', hq'⟩ := HN.out
                      exact ⟨i + 1, X' ++ [q'], A5, c5, _, by omega, by go_num, by simp, HB3.out.trans (HB35.out.mono (by omega)), Lib.hid hq'⟩
                    case measure => simp [intOf]; omega
                  · have HE : Hid (C.parse t = (x.1, i, [])) := Lib.hid (by
                      have h1 := step_set (ms := X'.map (·.1)) (m := m) (seen := seen) HTR.out H35.out H91.out HCUT.out
                      rw [HXS.out] at h1
                      have hm : X.map (·.1) = X'.map (·.1) ++ [m] := by rw [HXE.out]; simp
                      exact HPE.out x.1 i (by rw [HI2.out.go, goLines_step HUi.out, hm, h1, if_neg hx0']) hx0')
                    have t7 : (x.1 == 0) = false := beq_eq_false_iff_ne.2 hx0'
                    go_wp2_with fail
                    refine bodyPost_ret (v := .tuple #[.slice none 0 0, .int .i64 x.1, .int .i64 i]) ?_ rfl ?_
                    · simp [results, Tryz.results11, go_sem, *]
                    · exact ⟨⟨none, 0, [], by rw [HE.out]; rfl, by rw [HE.out]; rfl, rout_nil _⟩, HB1.out.trans (HB3.out.trans (HB35.out.mono (by omega)) |>.mono (by omega))⟩
      · have hie : L.length ≤ i := by omega
        have hX8 := HINV.out.len
        have HE : Hid (C.parse t = if (checkMs (X.map (·.1))).1 = 0 then (0, 0, X.map (·.1)) else ((checkMs (X.map (·.1))).1, (checkMs (X.map (·.1))).2, [])) := Lib.hid (HPF.out _ (by rw [HINV.out.go, goLines_end hie]))
        obtain ⟨hXc, hkd⟩ := ROut.kd HINV.out.rout (by omega) (fun p hp => ⟨by have := (HINV.out.small p hp).1; omega, by have := (HINV.out.small p hp).2.2; omega⟩)
        obtain ⟨kk, hkk⟩ := check_ref (X.map toRm) (by rw [List.length_map]; omega) (fun y hy => by
          obtain ⟨q, hq, rfl⟩ := List.mem_map.1 hy
          have := (HINV.out.small q hq).2.1
          show (bs q.1.root).size ≤ _
          rw [bs_size]; omega)
        rw [List.map_map, show (mOf ∘ toRm) = (fun p : XM => p.1) from funext mOf_toRm] at hkk
        have HCK : Hid (Calls Tryz.prog 15 #[.slice A X.length c] wr fun e w' => e = .returned (.tuple #[.int .i64 (checkMs (X.map (·.1))).1, .int .i64 ((checkMs (X.map (·.1))).2 : Int)]) ∧ Drawn0 wr w') := Lib.hid (by
          have := wharfingerref13_Check.calls kk A c (X.map toRm) _ _ wr (by rw [List.length_map]; exact hkd) (by rw [List.length_map]; exact hXc) hkk
          rw [List.length_map] at this
          exact this)
        clear hkd hkk hXc
        generalize checkMs (X.map (·.1)) = y at HCK HE
        obtain ⟨y1, y2⟩ := y
        go_wp2_with fail
        refine HCK.out.mono ?_
        rintro e w9 ⟨rfl, hd9⟩
        have HB9 := Lib.hid (HBb.out.trans (hd9.below.mono (by omega)))
        have HR9 := Lib.hid (HINV.out.rout.below hd9.below)
        clear hd9 HCK
        by_cases hy0 : y1 = 0
        · have HE2 : Hid (C.parse t = (0, 0, X.map (·.1))) := Lib.hid (by rw [HE.out, if_pos hy0])
          have t8 : (y1 == 0) = true := by rw [hy0]; rfl
          subst hy0
          go_wp2_with fail
          refine bodyPost_ret (v := .tuple #[.slice A X.length c, .int .i64 0, .int .i64 0]) ?_ rfl ?_
          · simp [results, Tryz.results11, go_sem, *]
          · exact ⟨⟨A, c, X, by rw [HE2.out]; rfl, by rw [HE2.out], HR9.out⟩, HB1.out.trans (HB9.out.mono (by omega))⟩
        · have HE2 : Hid (C.parse t = (y1, y2, [])) := Lib.hid (by rw [HE.out, if_neg hy0])
          have t8 : (y1 == 0) = false := beq_eq_false_iff_ne.2 hy0
          go_wp2_with fail
          refine bodyPost_ret (v := .tuple #[.slice none 0 0, .int .i64 y1, .int .i64 (y2 : Int)]) ?_ rfl ?_
          · simp [results, Tryz.results11, go_sem, *]
          · exact ⟨⟨none, 0, [], by rw [HE2.out]; rfl, by rw [HE2.out]; rfl, rout_nil _⟩, HB1.out.trans (HB9.out.mono (by omega))⟩
end Go.Proofs.YtkbamneecfmibaaGreatDoor
