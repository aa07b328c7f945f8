/- wharfingerref13.user: what it comes to. Conditions: where the module's users lie; short texts. wharfingerref13.set: what it comes to. Conditions: where the module's users and keys lie; short texts. -/
import Derived.Test.YtkbamneecfmibaaGreatDoorMgA
namespace Go.Proofs.YtkbamneecfmibaaGreatDoor
open Go.RowKit
open C PConfWrites Go.Proofs.YtkbamneecfmibaaGreatDoorW.PrintWords

/-- A user more, or the error's number. -/
def userU (us : List Usr) (v : Bs) : Int × List Usr :=
  match cut1 58 v with
  | none => (130, us)
  | some (who, secret) =>
    if secret = [] ∨ 16 < secret.length then (130, us)
    else if nameB who = false then (131, us)
    else if us.any (fun u => u.name == who) then (5, us)
    else if 8 ≤ us.length then (3, us)
    else (0, us ++ [⟨who, secret⟩])
def PUsr (A0 : Option Addr) (c0 : Nat) (us : List Usr) (x : Int × List Usr) (nm rt : ByteArray) (wb : Bool) (sl q : Int) (sv : Value) (w : World) (e : Ending) (w' : World) : Prop :=
  (∃ A c, e = .returned (.tuple #[.agg #[.string nm, .string rt, .bool wb, .int .i64 sl, .int .i64 q, .slice A x.2.length c, sv], .int .i64 x.1]) ∧ ((A = A0 ∧ c = c0 ∧ x.2 = us) ∨ ∃ g, A = some ⟨g, 0, none⟩ ∧ w.heap.size ≤ g) ∧ RdU w' (.slice A x.2.length c) x.2) ∧ Below w.heap.size w w'
/-- A block of seven cells. -/
def Box7 (w : World) (g : Nat) (a b c d e f h : Value) : Prop :=
  (w.cell? ⟨g, 0, none⟩ = some a ∧ w.cell? ⟨g, 1, none⟩ = some b ∧ w.cell? ⟨g, 2, none⟩ = some c ∧ w.cell? ⟨g, 3, none⟩ = some d ∧ w.cell? ⟨g, 4, none⟩ = some e ∧ w.cell? ⟨g, 5, none⟩ = some f ∧ w.cell? ⟨g, 6, none⟩ = some h)
  ∧ (w.frozen? ⟨g, 0, none⟩ = false ∧ w.frozen? ⟨g, 1, none⟩ = false ∧ w.frozen? ⟨g, 2, none⟩ = false ∧ w.frozen? ⟨g, 3, none⟩ = false ∧ w.frozen? ⟨g, 4, none⟩ = false ∧ w.frozen? ⟨g, 5, none⟩ = false ∧ w.frozen? ⟨g, 6, none⟩ = false)
theorem Box7.below {w w1 : World} {B g : Nat} {a b c d e f h : Value} (k : Box7 w g a b c d e f h) (hb : Below B w w1) (hg : g < B) : Box7 w1 g a b c d e f h := by
  obtain ⟨⟨k0, k1, k2, k3, k4, k5, k6⟩, f0, f1, f2, f3, f4, f5, f6⟩ := k
  have cc : ∀ j, w1.cell? ⟨g, j, none⟩ = w.cell? ⟨g, j, none⟩ := fun j => hb.cell (p := ⟨g, j, none⟩) hg
  have ff : ∀ j, w1.frozen? ⟨g, j, none⟩ = w.frozen? ⟨g, j, none⟩ := fun j => hb.frozen (p := ⟨g, j, none⟩) hg
  exact ⟨⟨by rw [cc]; exact k0, by rw [cc]; exact k1, by rw [cc]; exact k2, by rw [cc]; exact k3, by rw [cc]; exact k4, by rw [cc]; exact k5, by rw [cc]; exact k6⟩, by rw [ff]; exact f0, by rw [ff]; exact f1, by rw [ff]; exact f2, by rw [ff]; exact f3, by rw [ff]; exact f4, by rw [ff]; exact f5, by rw [ff]; exact f6⟩
theorem Box7.lt {w : World} {g : Nat} {a b c d e f h : Value} (k : Box7 w g a b c d e f h) : g < w.heap.size := cell_lt k.1.1
theorem box7_new (w : World) (a b c d e f h : Value) (t : TypeId) : Box7 (w.alloc (.cells #[a, b, c, d, e, f, h] t)) w.heap.size a b c d e f h := by
  have cc : ∀ j, (w.alloc (.cells #[a, b, c, d, e, f, h] t)).cell? ⟨w.heap.size, j, none⟩ = (#[a, b, c, d, e, f, h] : Array Value)[j]? := fun j => World.cell?_alloc_at _ _ _ _ rfl
  refine ⟨⟨cc 0, cc 1, cc 2, cc 3, cc 4, cc 5, cc 6⟩, ?_⟩
  simp
theorem two_boxes {w w1 : World} {a b c d e f h a' b' c' d' e' f' h' : Value} {t t' : TypeId}
    (hb : Below ((w.alloc (.cells #[a, b, c, d, e, f, h] t)).alloc (.cells #[a', b', c', d', e', f', h'] t')).heap.size ((w.alloc (.cells #[a, b, c, d, e, f, h] t)).alloc (.cells #[a', b', c', d', e', f', h'] t')) w1) :
    Box7 w1 w.heap.size a b c d e f h ∧ Box7 w1 (w.heap.size + 1) a' b' c' d' e' f' h' ∧ w.heap.size + 2 ≤ w1.heap.size ∧ Below w.heap.size w w1 := by
  have hE : (w.alloc (.cells #[a, b, c, d, e, f, h] t)).heap.size = w.heap.size + 1 := by simp
  have k1 := (box7_new w a b c d e f h t).below (((Below.refl (w.heap.size + 1) _).alloc (by simp) (.cells #[a', b', c', d', e', f', h'] t'))) (by omega)
  have k2 := box7_new (w.alloc (.cells #[a, b, c, d, e, f, h] t)) a' b' c' d' e' f' h' t'
  rw [hE] at k2
  refine ⟨k1.below hb (by simp; omega), k2.below hb (by simp), by have := hb.size; simp at this; omega, ?_⟩
  exact ((((Below.refl w.heap.size w).alloc (Nat.le_refl _) (.cells #[a, b, c, d, e, f, h] t)).alloc (by simp) (.cells #[a', b', c', d', e', f', h'] t'))).trans (hb.mono (by simp; omega))
theorem below_set7 {B : Nat} {a w : World} (h : Below B a w) (g : Nat) (hg : B ≤ g) (v0 v1 v2 v3 v4 v5 v6 : Value) :
    Below B a (((((((w.setCell ⟨g, 0, none⟩ v0).setCell ⟨g, 1, none⟩ v1).setCell ⟨g, 2, none⟩ v2).setCell ⟨g, 3, none⟩ v3).setCell ⟨g, 4, none⟩ v4).setCell ⟨g, 5, none⟩ v5).setCell ⟨g, 6, none⟩ v6) :=
  (below_set6 h g hg v0 v1 v2 v3 v4 v5).setCell (p := ⟨g, 6, none⟩) hg v6

theorem toNat_succ (n : Nat) : ((n : Int) + 1).toNat = n + 1 := by omega
theorem wrap_succ {n : Nat} (h : n ≤ 1000000) : IntKind.i64.wrap ((n : Int) + 1) = (n : Int) + 1 := IntWalk.i64_in _ ⟨by omega, by omega⟩
theorem any_at {α : Type} {p : α → Bool} {l : List α} {i : Nat} {x : α} (h : l[i]? = some x) (hp : p x = true) : l.any p = true := List.any_eq_true.2 ⟨x, List.mem_of_getElem? h, hp⟩
theorem any_none {α : Type} {p : α → Bool} {l : List α} (h : ∀ (j : Nat) (x : α), l[j]? = some x → p x = false) : l.any p = false := by
  rw [List.any_eq_false]
  intro x hx
  obtain ⟨j, hj⟩ := List.getElem?_of_mem hx
  simp [h j x hj]
theorem infoRu : (Tryz.prog.info? 83).map (fun i => (i.zero, i.size, i.bytes)) = some (some (.agg #[.string ⟨#[]⟩, .string ⟨#[]⟩]), 2, 32) := by kernel_rfl
theorem infoStr : (Tryz.prog.info? 9).map (fun i => (i.zero, i.size, i.bytes)) = some (some (.string ⟨#[]⟩), 1, 16) := by kernel_rfl

set_option maxRecDepth 100000 in
set_option maxHeartbeats 1000000 in
theorem refUser_any (nm rt : ByteArray) (wb : Bool) (sl q : Int) (A : Option Addr) (c : Nat) (A2 : Option Addr) (n2 c2 : Nat) (us : List Usr) (v : Bs) (w : World) (hu : RdU w (.slice A us.length c) us) (hl : us.length ≤ 1000) (hv : v.length ≤ 1000000) :
    Calls Tryz.prog 54 #[.agg #[.string nm, .string rt, .bool wb, .int .i64 sl, .int .i64 q, .slice A us.length c, .slice A2 n2 c2], .string (bs v)] w (PUsr A c us (userU us v) nm rt wb sl q (.slice A2 n2 c2) w) := by
  have HU := Lib.hid hu
  have hsz : (bs v).size = v.length := rfl
  have HE : Hid (userU us v = userU us v) := Lib.hid rfl
  clear hu
  cases hcut : cut1 58 v with
  | none =>
    have HV : Hid (userU us v = (130, us)) := Lib.hid (by unfold userU; rw [hcut])
    have HF := Lib.hid (refFind_any v hv 58 58 rfl)
    rw [hcut] at HF
    rw [HV.out]
    clear hcut HE HV
    go_enter Tryz.func54, Tryz.ntmps54
    go_wp2_with fail
    refine (HF.out _).mono ?_
    rintro e w1 ⟨rfl, hb1⟩
    obtain ⟨⟨⟨k0, k1, k2, k3, k4, k5, k6⟩, f0, f1, f2, f3, f4, f5, f6⟩, ⟨⟨y0, y1, y2, y3, y4, y5, y6⟩, g0, g1, g2, g3, g4, g5, g6⟩, hsz1, hB1⟩ := two_boxes hb1
    have HB1 := Lib.hid hB1
    clear hb1 hB1
    go_wp2_with fail
    refine bodyPost_ret (v := .tuple #[.agg #[.string nm, .string rt, .bool wb, .int .i64 sl, .int .i64 q, .slice A us.length c, .slice A2 n2 c2], .int .i64 130]) ?_ rfl ?_
    · simp [results, Tryz.results54, go_sem, *]
    · have hX := below_set7 HB1.out (w.heap.size + 1) (by omega) (.string nm) (.string rt) (.bool wb) (.int .i64 sl) (.int .i64 q) (.slice A us.length c) (.slice A2 n2 c2)
      exact ⟨⟨A, c, rfl, .inl ⟨rfl, rfl, rfl⟩, HU.out.below hX⟩, hX⟩
  | some p =>
    obtain ⟨who, sec⟩ := p
    obtain ⟨_, hcv⟩ := cut1_some hcut
    have hlen : v.length = who.length + (sec.length + 1) := by rw [hcv, List.length_append, List.length_cons]
    have hx0 : (bs v).extract 0 who.length = bs who := by
      rw [ext_bs, hcv]; simp
    have hx1 : (bs v).extract (who.length + 1) (bs v).size = bs sec := by
      have h1 : (bs v).size - (who.length + 1) = sec.length := by rw [hsz, hlen]; omega
      rw [ext_bs, h1, hcv, ← List.drop_drop, List.drop_left, List.drop_one, List.tail_cons, List.take_of_length_le (Nat.le_refl _)]
    have HF := Lib.hid (refFind_any v hv 58 58 rfl)
    rw [hcut] at HF
    have HX1 := Lib.hid hx1
    have HX0 := Lib.hid hx0
    have HV : Hid (userU us v = if sec = [] ∨ 16 < sec.length then (130, us) else if nameB who = false then (131, us) else if us.any (fun u => u.name == who) then (5, us) else if 8 ≤ us.length then (3, us) else (0, us ++ [⟨who, sec⟩])) := Lib.hid (by unfold userU; rw [hcut])
    clear hcut hcv hx0 hx1
    have hvs : (bs v).size = who.length + (sec.length + 1) := by rw [hsz, hlen]
    clear hsz
    generalize bs v = V at HF HX0 HX1 hvs
    clear HE
    generalize userU us v = x at HV
    go_enter Tryz.func54, Tryz.ntmps54
    go_wp2_with fail
    refine (HF.out _).mono ?_
    rintro e w1 ⟨rfl, hb1⟩
    obtain ⟨⟨⟨k0, k1, k2, k3, k4, k5, k6⟩, f0, f1, f2, f3, f4, f5, f6⟩, ⟨⟨y0, y1, y2, y3, y4, y5, y6⟩, g0, g1, g2, g3, g4, g5, g6⟩, hsz1, hB1⟩ := two_boxes hb1
    have HBX := Lib.hid (two_boxes hb1)
    have HB1 := Lib.hid hB1
    have hwl : who.length ≤ 1000000 := by omega
    clear hb1 hB1 HF
    by_cases hs0 : sec = []
    · obtain rfl : x = (130, us) := by rw [HV.out, if_pos (.inl hs0)]
      have hs : sec.length = 0 := by rw [hs0]; rfl
      clear hs0
      go_wp2_with fail
      refine bodyPost_ret (v := .tuple #[.agg #[.string nm, .string rt, .bool wb, .int .i64 sl, .int .i64 q, .slice A us.length c, .slice A2 n2 c2], .int .i64 130]) ?_ rfl ?_
      · simp [results, Tryz.results54, go_sem, *]
      · have hX := below_set7 HB1.out (w.heap.size + 1) (by omega) (.string nm) (.string rt) (.bool wb) (.int .i64 sl) (.int .i64 q) (.slice A us.length c) (.slice A2 n2 c2)
        exact ⟨⟨A, c, rfl, .inl ⟨rfl, rfl, rfl⟩, HU.out.below hX⟩, hX⟩
    · have hs1 : 0 < sec.length := List.length_pos_iff.2 hs0
      by_cases h16 : 16 < sec.length
      · obtain rfl : x = (130, us) := by rw [HV.out, if_pos (.inr h16)]
        clear hs0
        go_wp2_with fail
        refine bodyPost_ret (v := .tuple #[.agg #[.string nm, .string rt, .bool wb, .int .i64 sl, .int .i64 q, .slice A us.length c, .slice A2 n2 c2], .int .i64 130]) ?_ rfl ?_
        · simp [results, Tryz.results54, go_sem, *]
        · have hX := below_set7 HB1.out (w.heap.size + 1) (by omega) (.string nm) (.string rt) (.bool wb) (.int .i64 sl) (.int .i64 q) (.slice A us.length c) (.slice A2 n2 c2)
          exact ⟨⟨A, c, rfl, .inl ⟨rfl, rfl, rfl⟩, HU.out.below hX⟩, hX⟩
      · have HV2 : Hid (x = if nameB who = false then (131, us) else if us.any (fun u => u.name == who) then (5, us) else if 8 ≤ us.length then (3, us) else (0, us ++ [⟨who, sec⟩])) := Lib.hid (by rw [HV.out, if_neg (fun h => h.elim hs0 h16)])
        clear hs0 HV
        have hx0 := HX0.out
        have t1 : decide ((who.length : Int) < 0) = false := decide_eq_false (by omega)
        have t2 : ((who.length : Int) == (who.length : Int) + ((sec.length : Int) + 1) - 1) = false := by rw [beq_eq_false_iff_ne]; omega
        have t3 : decide (16 < (who.length : Int) + ((sec.length : Int) + 1) - (who.length : Int) - 1) = false := decide_eq_false (by omega)
        have HNM := Lib.hid (refName_any who hwl)
        go_wp2_with fail
        refine (HNM.out _).mono ?_
        rintro e w2 ⟨rfl, hb2⟩
        have HB2 := Lib.hid (HB1.out.trans (hb2.mono (by omega)))
        have hszw : w1.heap.size ≤ w2.heap.size := hb2.size
        have HBX2 := HBX.out.1.below hb2 (by omega)
        have HBY2 := HBX.out.2.1.below hb2 (by omega)
        clear HBX HNM k0 k1 k2 k3 k4 k5 k6 f0 f1 f2 f3 f4 f5 f6 y0 y1 y2 y3 y4 y5 y6 g0 g1 g2 g3 g4 g5 g6 hb2
        have HBX := Lib.hid HBX2
        have HBY := Lib.hid HBY2
        clear HBX2 HBY2
        obtain ⟨⟨k0, k1, k2, k3, k4, k5, k6⟩, f0, f1, f2, f3, f4, f5, f6⟩ := HBX.out
        obtain ⟨⟨y0, y1, y2, y3, y4, y5, y6⟩, g0, g1, g2, g3, g4, g5, g6⟩ := HBY.out
        cases hnb : nameB who with
        | false =>
          obtain rfl : x = (131, us) := by rw [HV2.out, hnb, if_pos rfl]
          clear hnb
          go_wp2_with fail
          refine bodyPost_ret (v := .tuple #[.agg #[.string nm, .string rt, .bool wb, .int .i64 sl, .int .i64 q, .slice A us.length c, .slice A2 n2 c2], .int .i64 131]) ?_ rfl ?_
          · simp [results, Tryz.results54, go_sem, *]
          · have hX := below_set7 HB2.out (w.heap.size + 1) (by omega) (.string nm) (.string rt) (.bool wb) (.int .i64 sl) (.int .i64 q) (.slice A us.length c) (.slice A2 n2 c2)
            exact ⟨⟨A, c, rfl, .inl ⟨rfl, rfl, rfl⟩, HU.out.below hX⟩, hX⟩
        | true =>
          have HV3 : Hid (x = if us.any (fun u => u.name == who) then (5, us) else if 8 ≤ us.length then (3, us) else (0, us ++ [⟨who, sec⟩])) := Lib.hid (by rw [HV2.out, hnb, if_neg (by decide)])
          clear hnb HV2
          go_wp2_with fail
          go_loopw [7] (fun iv wr => ∃ i : Nat, i ≤ us.length ∧ iv = .int .i64 i ∧ Below w2.heap.size w2 wr ∧ Hid (∀ (j : Nat) (y : Usr), j < i → us[j]? = some y → (y.name == who) = false)) (fun iv _ => us.length - (intOf iv).toNat)
          case atStart => exact ⟨0, by omega, rfl, Below.refl _ _, Lib.hid (fun j x h => by omega)⟩
          case round =>
            obtain ⟨i, hi, rfl, hb, hall⟩ := hrel
            have HBr := Lib.hid (HB2.out.trans (hb.mono (by omega)))
            have hszr : w2.heap.size ≤ wr.heap.size := hb.size
            have HBXr := Lib.hid (HBX.out.below hb (by omega))
            have HBYr := Lib.hid (HBY.out.below hb (by omega))
            have HBb := Lib.hid hb
            clear k0 k1 k2 k3 k4 k5 k6 f0 f1 f2 f3 f4 f5 f6 y0 y1 y2 y3 y4 y5 y6 g0 g1 g2 g3 g4 g5 g6 hb
            obtain ⟨⟨k0, k1, k2, k3, k4, k5, k6⟩, f0, f1, f2, f3, f4, f5, f6⟩ := HBXr.out
            obtain ⟨⟨y0, y1, y2, y3, y4, y5, y6⟩, g0, g1, g2, g3, g4, g5, g6⟩ := HBYr.out
            by_cases hlt : i < us.length
            · obtain ⟨g, o, c', hA, _, _, hcell⟩ := HU.out.cell (by omega)
              injection hA with hA _ hcc
              subst hA
              obtain rfl : c' = c := hcc.symm
              have hu : us[i]? = some us[i] := List.getElem?_eq_getElem hlt
              have c0 := hcell (i * 2 + 0) (.string (bs us[i].name)) (by unfold usrCells; rw [flat_at ucells 2 (fun _ => rfl) us i _ 0 hu (by omega)]; rfl)
              have HUi := Lib.hid hu
              clear hu hcell
              generalize us[i] = u at c0 HUi
              have z0 : wr.cell? ⟨g, o + i * 2, none⟩ = some (.string (bs u.name)) := Below.cell_some HBr.out (Nat.le_refl _) c0
              have hgl : g < w.heap.size := cell_lt c0
              clear c0
              have hnt : ((bs u.name).toList == (bs who).toList) = (u.name == who) := by rw [bs_toList, bs_toList]
              cases hnm : (u.name == who) with
              | true =>
                obtain rfl : x = (5, us) := by rw [HV3.out, if_pos (any_at HUi.out hnm)]
                rw [hnm] at hnt
                clear hnm
                generalize bs u.name = nmu at z0 hnt
                generalize bs who = whov at hnt hx0
                go_wp2_with fail
                go_quiet (fail)
                go_wp2_with fail
                refine bodyPost_ret (v := .tuple #[.agg #[.string nm, .string rt, .bool wb, .int .i64 sl, .int .i64 q, .slice (some ⟨g, o, none⟩) us.length c', .slice A2 n2 c2], .int .i64 5]) ?_ rfl ?_
                · simp [results, Tryz.results54, go_sem, *]
                · have hX := below_set7 (pw_below_drewN HBr.out nq) (w.heap.size + 1) (by omega) (.string nm) (.string rt) (.bool wb) (.int .i64 sl) (.int .i64 q) (.slice (some ⟨g, o, none⟩) us.length c') (.slice A2 n2 c2)
                  exact ⟨⟨_, c', rfl, .inl ⟨rfl, rfl, rfl⟩, HU.out.below hX⟩, hX⟩
              | false =>
                rw [hnm] at hnt
                have HALL : Hid (∀ (j : Nat) (y : Usr), j < i + 1 → us[j]? = some y → (y.name == who) = false) := Lib.hid (fun j y hj hy => by
                  by_cases hji : j < i
                  · exact hall.out j y hji hy
                  · have : j = i := by omega
                    subst this
                    rw [HUi.out] at hy
                    injection hy with hy
                    rw [← hy]; exact hnm)
                clear hnm
                generalize bs u.name = nmu at z0 hnt
                generalize bs who = whov at hnt hx0
                go_wp2_with fail
                go_quiet (fail)
                go_wp2_with fail
                go_roundw
                case rel => exact ⟨i + 1, by omega, by go_num, pw_below_drewN HBb.out nq, HALL⟩
                case measure => simp [intOf]; omega
            · have hie : i = us.length := by omega
              have hany : us.any (fun u => u.name == who) = false := any_none (fun j y hy => hall.out j y (by have := (List.getElem?_eq_some_iff.1 hy).1; omega) hy)
              have HV4 : Hid (x = if 8 ≤ us.length then (3, us) else (0, us ++ [⟨who, sec⟩])) := Lib.hid (by rw [HV3.out, hany, if_neg (by decide)])
              clear hany hall HV3
              by_cases h8 : 8 ≤ us.length
              · obtain rfl : x = (3, us) := by rw [HV4.out, if_pos h8]
                go_wp2_with fail
                refine bodyPost_ret (v := .tuple #[.agg #[.string nm, .string rt, .bool wb, .int .i64 sl, .int .i64 q, .slice A us.length c, .slice A2 n2 c2], .int .i64 3]) ?_ rfl ?_
                · simp [results, Tryz.results54, go_sem, *]
                · have hX := below_set7 HBr.out (w.heap.size + 1) (by omega) (.string nm) (.string rt) (.bool wb) (.int .i64 sl) (.int .i64 q) (.slice A us.length c) (.slice A2 n2 c2)
                  exact ⟨⟨A, c, rfl, .inl ⟨rfl, rfl, rfl⟩, HU.out.below hX⟩, hX⟩
              · obtain rfl : x = (0, us ++ [⟨who, sec⟩]) := by rw [HV4.out, if_neg h8]
                obtain ⟨i0, hi0, hy0, hy1, hy2⟩ := info_parts infoRu
                have hszr0 : w.heap.size < wr.heap.size := by omega
                have hszr1 : w.heap.size + 1 < wr.heap.size := by omega
                have HEMP := Lib.hid (own_empty wr 83 2)
                have HFL := Lib.hid (HU.out.below (HBr.out.alloc (by omega) (.cells #[] 83)))
                have hone : ∀ u ∈ usrCells us, u.oneCell' = true := by
                  intro u hu
                  obtain ⟨y, _, hy⟩ := List.mem_flatMap.1 hu
                  simp only [ucells, List.mem_cons, List.not_mem_nil, or_false] at hy
                  rcases hy with rfl | rfl <;> rfl
                have HONE := Lib.hid hone
                clear hone
                go_wp2_with (at_builtin; refine wpList_append_flat rfl _ _ 42 rfl wr.heap.size 83 i0 (.agg #[.string ⟨#[]⟩, .string ⟨#[]⟩]) 2 32 Tryz.underlying42 hi0 hy0 hy1 hy2 rfl (by decide) _ _ _ rfl HEMP.out _ us.length (usrCells us) rfl HFL.out HONE.out ?c3 ?c4 ?c5 ?_)
                case c3 => unfold maxLen; omega
                case c4 => omega
                case c5 => simp
                intro v' w4 hown' hgrow
                obtain ⟨A4, c4, rfl⟩ := own_slice hown'
                have hb4 : Below wr.heap.size wr w4 := ((Below.refl _ _).alloc (Nat.le_refl _) _).grown hgrow (by simp) (fun k hk => by simp [Value.ownBlock] at hk; omega)
                have HB4 := Lib.hid hb4
                have hsz4 : wr.heap.size ≤ w4.heap.size := hb4.size
                have HBX4 := Lib.hid (HBXr.out.below hb4 hszr0)
                have HBY4 := Lib.hid (HBYr.out.below hb4 hszr1)
                have HOWN4 := Lib.hid hown'
                have hx1 := HX1.out
                have hx1' : V.extract (who.length + 1) (who.length + (sec.length + 1)) = bs sec := by rw [← hvs]; exact hx1
                clear hown' hgrow hb4 HBX HBY HEMP HFL HONE k0 k1 k2 k3 k4 k5 k6 f0 f1 f2 f3 f4 f5 f6 y0 y1 y2 y3 y4 y5 y6 g0 g1 g2 g3 g4 g5 g6
                have hsz40 : w.heap.size < w4.heap.size := by omega
                have hsz41 : w.heap.size + 1 < w4.heap.size := by omega
                obtain ⟨⟨k0, k1, k2, k3, k4, k5, k6⟩, f0, f1, f2, f3, f4, f5, f6⟩ := HBX4.out
                obtain ⟨⟨y0, y1, y2, y3, y4, y5, y6⟩, g0, g1, g2, g3, g4, g5, g6⟩ := HBY4.out
                go_wp2_with fail
                have n1 : (who.length : Int) ≤ (who.length : Int) + ((sec.length : Int) + 1) := by omega
                have n2' : (who.length : Int) + 1 ≤ (who.length : Int) + ((sec.length : Int) + 1) := by omega
                have n3 : (0 : Int) ≤ (who.length : Int) + 1 := by omega
                have n4 : IntKind.i64.wrap ((who.length : Int) + 1) = (who.length : Int) + 1 := wrap_succ hwl
                have n5 : ((who.length : Int) + 1).toNat = who.length + 1 := toNat_succ _
                have hl1 : wr.heap.size ≤ (w4.drew.alloc (.cells #[.string (bs who), .string (bs sec)] 83)).heap.size := Nat.le_trans hsz4 ((Below.refl w4.heap.size w4.drew).alloc (Nat.le_refl _) _).size
                have BB := Lib.hid (HB4.out.drew.alloc hsz4 (.cells #[.string (bs who), .string (bs sec)] 83))
                go_region_law (refine step_append_own rfl _ _ 42 rfl wr.heap.size 83 i0 (.agg #[.string ⟨#[]⟩, .string ⟨#[]⟩]) 2 32 Tryz.underlying42 hi0 hy0 hy1 hy2 rfl (by decide) _ _ _ rfl (HOWN4.out.drew.alloc _) ⟨w4.heap.size, 0, none⟩ 1 1 [.string (bs who), .string (bs sec)] rfl rfl (two_new2 _ _ _ _ _ rfl) (by intro u hu; simp at hu; rcases hu with rfl | rfl <;> rfl) (by unfold maxLen; omega) (by omega) hl1 ?_; intro v5 w5 hown5 hgrow5; obtain ⟨A5, c5, rfl⟩ := own_slice hown5; have HOWN5 := Lib.hid hown5; have hb5 := Lib.hid (BB.out.grown hgrow5 hl1 (fun k hk => (own_block HOWN4.out hk).1)); have hsz5 : wr.heap.size ≤ w5.heap.size := hb5.out.size; have hsz50 : w.heap.size < w5.heap.size := (by omega); have hsz51 : w.heap.size + 1 < w5.heap.size := (by omega); obtain ⟨⟨p0, p1, p2, p3, p4, p5, p6⟩, q0, q1, q2, q3, q4, q5, q6⟩ := HBXr.out.below hb5.out hszr0; obtain ⟨⟨r0, r1, r2, r3, r4, r5, r6⟩, s0, s1, s2, s3, s4, s5, s6⟩ := HBYr.out.below hb5.out hszr1; clear hown5 hgrow5)
                have HW5 := Lib.hid ((HBr.out.trans (hb5.out.mono (by omega))).setCell (p := ⟨w.heap.size, 5, none⟩) (Nat.le_refl _) (.slice A5 (us.length + 1) c5))
                have HRW := Lib.hid (own_setCell (own_setCell (own_setCell (own_setCell (own_setCell (own_setCell (own_setCell (own_setCell HOWN5.out w.heap.size 5 hszr0 (.slice A5 (us.length + 1) c5)) (w.heap.size + 1) 0 hszr1 (.string nm)) (w.heap.size + 1) 1 hszr1 (.string rt)) (w.heap.size + 1) 2 hszr1 (.bool wb)) (w.heap.size + 1) 3 hszr1 (.int .i64 sl)) (w.heap.size + 1) 4 hszr1 (.int .i64 q)) (w.heap.size + 1) 5 hszr1 (.slice A5 (us.length + 1) c5)) (w.heap.size + 1) 6 hszr1 (.slice A2 n2 c2))
                have hcl : (us ++ [(⟨who, sec⟩ : Usr)]).length = us.length + 1 := by simp
                have HUC : Hid (usrCells (us ++ [⟨who, sec⟩]) = usrCells us ++ [.string (bs who), .string (bs sec)]) := Lib.hid (usr_snoc _ _)
                have HA5 := Lib.hid (own_some HOWN5.out (by omega))
                clear hb5 HOWN5 k0 k1 k2 k3 k4 k5 k6 f0 f1 f2 f3 f4 f5 f6 y0 y1 y2 y3 y4 y5 y6 g0 g1 g2 g3 g4 g5 g6
                go_wp2_with fail
                refine bodyPost_ret (v := .tuple #[.agg #[.string nm, .string rt, .bool wb, .int .i64 sl, .int .i64 q, .slice A5 (us.length + 1) c5, .slice A2 n2 c2], .int .i64 0]) ?_ rfl ?_
                · simp [results, Tryz.results54, go_sem, *]
                · have hX := below_set7 HW5.out (w.heap.size + 1) (by omega) (.string nm) (.string rt) (.bool wb) (.int .i64 sl) (.int .i64 q) (.slice A5 (us.length + 1) c5) (.slice A2 n2 c2)
                  obtain ⟨g5, hA5, hg5⟩ := HA5.out
                  refine ⟨⟨A5, c5, by rw [hcl], .inr ⟨g5, hA5, by omega⟩, ?_⟩, hX⟩
                  show Flat _ _ 2 (us ++ [(⟨who, sec⟩ : Usr)]).length (usrCells (us ++ [⟨who, sec⟩]))
                  rw [hcl, HUC.out]
                  exact Flat.of_own HRW.out
end Go.Proofs.YtkbamneecfmibaaGreatDoor
namespace Go.Proofs.YtkbamneecfmibaaGreatDoor
open Go.RowKit
open C PConfWrites Go.Proofs.YtkbamneecfmibaaGreatDoorW.PrintWords

/-- What set comes to: the error's number, the module, the keys said. -/
def PSetR (A0 : Option Addr) (c0 : Nat) (us : List Usr) (A20 : Option Addr) (c20 : Nat) (x : Int × Mdl × List Bs) (S : List Bs) (w : World) (e : Ending) (w' : World) : Prop :=
  (∃ (n' r' : ByteArray) (b' : Bool) (s' q' : Int) (A : Option Addr) (n c : Nat) (A2 : Option Addr) (n2 c2 : Nat),
    e = .returned (.tuple #[.agg #[.string n', .string r', .bool b', .int .i64 s', .int .i64 q', .slice A n c, .slice A2 n2 c2], .int .i64 x.1])
    ∧ (x.1 = 0 → n' = bs x.2.1.name ∧ r' = bs x.2.1.root ∧ b' = x.2.1.write ∧ s' = x.2.1.slots ∧ q' = x.2.1.quota ∧ n = x.2.1.users.length ∧ ((A = A0 ∧ c = c0 ∧ x.2.1.users = us) ∨ ((∃ g, A = some ⟨g, 0, none⟩ ∧ w.heap.size ≤ g) ∧ RdU w' (.slice A n c) x.2.1.users))
      ∧ ∃ S', n2 = S'.length ∧ ((A2 = A20 ∧ c2 = c20 ∧ S' = S) ∨ ((∃ g, A2 = some ⟨g, 0, none⟩ ∧ w.heap.size ≤ g) ∧ RdStr w' (.slice A2 n2 c2) S')) ∧ S'.length ≤ S.length + 1 ∧ ∀ k, S'.contains k = x.2.2.contains k)) ∧ Below w.heap.size w w'
def keyUser : Bs := [117, 115, 101, 114]
theorem setM_user (m : Mdl) (seen : List Bs) (v : Bs) : setM m seen keyUser v = ((userU m.users v).1, { m with users := (userU m.users v).2 }, seen) := by
  unfold setM userU
  rw [if_pos (show keyUser = [117, 115, 101, 114] from rfl)]
  cases cut1 58 v with
  | none => rfl
  | some p =>
    obtain ⟨who, sec⟩ := p
    show (if _ then _ else _) = _
    by_cases h1 : sec = [] ∨ 16 < sec.length
    · simp only [if_pos h1]
    · simp only [if_neg h1]
      by_cases h2 : nameB who = false
      · simp only [if_pos h2]
      · simp only [if_neg h2]
        by_cases h3 : (m.users.any fun u => u.name == who) = true
        · simp only [if_pos h3]
        · simp only [if_neg h3]
          by_cases h4 : 8 ≤ m.users.length
          · simp only [if_pos h4]
          · simp only [if_neg h4]
theorem Box7.set {w : World} {g : Nat} {a b c d e f h : Value} (k : Box7 w g a b c d e f h) (u : Value) : Box7 (w.setCell ⟨g, 6, none⟩ u) g a b c d e f u := by
  obtain ⟨⟨k0, k1, k2, k3, k4, k5, k6⟩, f0, f1, f2, f3, f4, f5, f6⟩ := k
  have o : ∀ j, j ≠ 6 → (w.setCell ⟨g, 6, none⟩ u).cell? ⟨g, j, none⟩ = w.cell? ⟨g, j, none⟩ := fun j hj => World.cell?_setCell_other _ _ _ _ (by intro e; injection e with _ e _; exact hj e.symm)
  have z : ∀ j, (w.setCell ⟨g, 6, none⟩ u).frozen? ⟨g, j, none⟩ = w.frozen? ⟨g, j, none⟩ := fun j => World.frozen?_setCell _ _ _ _
  exact ⟨⟨by rw [o 0 (by omega)]; exact k0, by rw [o 1 (by omega)]; exact k1, by rw [o 2 (by omega)]; exact k2, by rw [o 3 (by omega)]; exact k3, by rw [o 4 (by omega)]; exact k4, by rw [o 5 (by omega)]; exact k5, World.cell?_setCell_same _ _ _ k6⟩, by rw [z]; exact f0, by rw [z]; exact f1, by rw [z]; exact f2, by rw [z]; exact f3, by rw [z]; exact f4, by rw [z]; exact f5, by rw [z]; exact f6⟩
theorem Box7.far {w : World} {g g' j : Nat} {a b c d e f h : Value} (k : Box7 w g a b c d e f h) (u : Value) (hne : g' ≠ g) : Box7 (w.setCell ⟨g', j, none⟩ u) g a b c d e f h := by
  obtain ⟨⟨k0, k1, k2, k3, k4, k5, k6⟩, f0, f1, f2, f3, f4, f5, f6⟩ := k
  have o : ∀ i, (w.setCell ⟨g', j, none⟩ u).cell? ⟨g, i, none⟩ = w.cell? ⟨g, i, none⟩ := fun i => World.cell?_setCell_far _ _ _ _ hne
  have z : ∀ i, (w.setCell ⟨g', j, none⟩ u).frozen? ⟨g, i, none⟩ = w.frozen? ⟨g, i, none⟩ := fun i => World.frozen?_setCell _ _ _ _
  exact ⟨⟨by rw [o]; exact k0, by rw [o]; exact k1, by rw [o]; exact k2, by rw [o]; exact k3, by rw [o]; exact k4, by rw [o]; exact k5, by rw [o]; exact k6⟩, by rw [z]; exact f0, by rw [z]; exact f1, by rw [z]; exact f2, by rw [z]; exact f3, by rw [z]; exact f4, by rw [z]; exact f5, by rw [z]; exact f6⟩
theorem str_tests (K : Bs) : (∀ k : Bs, ((bs K).toList == k) = (K == k)) := fun k => by rw [bs_toList]
theorem strCells_one (L : List Bs) : ∀ u ∈ strCells L, u.oneCell' = true := by
  intro u hu
  obtain ⟨y, _, rfl⟩ := List.mem_map.1 hu
  rfl

set_option maxRecDepth 100000 in
set_option maxHeartbeats 1000000 in
theorem refSet_user (nm rt : ByteArray) (wb : Bool) (sl q : Int) (A : Option Addr) (c : Nat) (A2 : Option Addr) (c2 : Nat) (us : List Usr) (S seen : List Bs) (v : Bs) (w : World) (hu : RdU w (.slice A us.length c) us) (hs : RdStr w (.slice A2 S.length c2) S) (hl : us.length ≤ 1000) (hv : v.length ≤ 1000000) (hsn : ∀ k, S.contains k = seen.contains k) :
    Calls Tryz.prog 33 #[.agg #[.string nm, .string rt, .bool wb, .int .i64 sl, .int .i64 q, .slice A us.length c, .slice A2 S.length c2], .string (bs keyUser), .string (bs v)] w (PSetR A c us A2 c2 (setM ⟨nm.data.toList, rt.data.toList, wb, sl, q, us⟩ seen keyUser v) S w) := by
  have HU := Lib.hid hu
  have HS := Lib.hid hs
  have HSN := Lib.hid hsn
  have t0 : ((bs keyUser).toList == [117, 115, 101, 114]) = true := by rw [bs_toList]; decide
  have HX : Hid (setM ⟨nm.data.toList, rt.data.toList, wb, sl, q, us⟩ seen keyUser v = ((userU us v).1, ⟨nm.data.toList, rt.data.toList, wb, sl, q, (userU us v).2⟩, seen)) := Lib.hid (setM_user _ _ _)
  have HK := Lib.hid (fun w1 (h : Below w.heap.size w w1) => refUser_any nm rt wb sl q A c A2 S.length c2 us v w1 (HU.out.below h) hl hv)
  rw [HX.out]
  clear hu hs hsn HX
  generalize userU us v = y at HK
  generalize bs keyUser = K at t0
  go_enter Tryz.func33, Tryz.ntmps33
  go_wp2_with fail
  refine (HK.out _ (((Below.refl _ _).alloc (Nat.le_refl _) _).alloc (by simp) _)).mono ?_
  rintro e w1 ⟨⟨A', c', rfl, hA, hru⟩, hb1⟩
  obtain ⟨⟨⟨k0, k1, k2, k3, k4, k5, k6⟩, f0, f1, f2, f3, f4, f5, f6⟩, ⟨⟨y0, y1, y2, y3, y4, y5, y6⟩, g0, g1, g2, g3, g4, g5, g6⟩, hsz1, hB1⟩ := two_boxes hb1
  have HB1 := Lib.hid hB1
  have HA := Lib.hid hA
  have HRU := Lib.hid hru
  obtain ⟨y1', y2'⟩ := y
  clear hb1 hB1 hA hru HK
  go_wp2_with fail
  refine bodyPost_ret (v := .tuple #[.agg #[.string nm, .string rt, .bool wb, .int .i64 sl, .int .i64 q, .slice A' y2'.length c', .slice A2 S.length c2], .int .i64 y1']) ?_ rfl ?_
  · simp [results, Tryz.results33, go_sem, *]
  · have hX := below_set7 HB1.out (w.heap.size + 1) (by omega) (.string nm) (.string rt) (.bool wb) (.int .i64 sl) (.int .i64 q) (.slice A' y2'.length c') (.slice A2 S.length c2)
    refine ⟨⟨_, _, _, _, _, _, _, _, _, _, _, rfl, fun _ => ⟨rfl, rfl, rfl, rfl, rfl, rfl, ?_, S, rfl, .inl ⟨rfl, rfl, rfl⟩, by omega, HSN.out⟩⟩, hX⟩
    rcases HA.out with ⟨rfl, rfl, h2⟩ | ⟨g, hAg, hg⟩
    · exact .inl ⟨rfl, rfl, h2⟩
    · have hg' : w.heap.size + 2 ≤ g := by simpa using hg
      have hRU : Flat w1 (.slice A' y2'.length c') 2 y2'.length (usrCells y2') := HRU.out
      have hk : ∀ (w2 : World) (j : Nat) (u : Value), Flat w2 (.slice A' y2'.length c') 2 y2'.length (usrCells y2') → Flat (w2.setCell ⟨w.heap.size + 1, j, none⟩ u) (.slice A' y2'.length c') 2 y2'.length (usrCells y2') := fun w2 j u h => h.setCell hAg _ _ _ (B := w.heap.size + 2) (by omega) hg'
      refine .inr ⟨⟨g, hAg, by omega⟩, ?_⟩
      exact hk _ _ _ (hk _ _ _ (hk _ _ _ (hk _ _ _ (hk _ _ _ (hk _ _ _ (hk _ _ _ hRU))))))

theorem flat_snoc {w : World} {B c : Nat} {A : Option Addr} {S : List Bs} {key : Bs} (h : w.ownsRow B 9 1 (.slice A (S.length + 1) c) (S.length + 1) (strCells S ++ [.string (bs key)])) : RdStr w (.slice A (S.length + 1) c) (S ++ [key]) := by
  have h2 := Flat.of_own h
  have e1 : (S ++ [key]).length = S.length + 1 := by simp
  have e2 : strCells (S ++ [key]) = strCells S ++ [.string (bs key)] := by simp [strCells]
  unfold RdStr
  rw [e1, e2]
  exact h2

set_option maxRecDepth 100000 in
set_option maxHeartbeats 1000000 in
theorem refSet_key (nm rt : ByteArray) (wb : Bool) (sl q : Int) (A : Option Addr) (c : Nat) (A2 : Option Addr) (c2 : Nat) (us : List Usr) (S seen : List Bs) (key v : Bs) (w : World) (hu : RdU w (.slice A us.length c) us) (hs : RdStr w (.slice A2 S.length c2) S) (hS : S.length ≤ 100000) (hkl : key.length ≤ 1000000) (hv : v.length ≤ 1000000) (hsn : ∀ k, S.contains k = seen.contains k) (hku : key ≠ keyUser) :
    Calls Tryz.prog 33 #[.agg #[.string nm, .string rt, .bool wb, .int .i64 sl, .int .i64 q, .slice A us.length c, .slice A2 S.length c2], .string (bs key), .string (bs v)] w (PSetR A c us A2 c2 (setM ⟨nm.data.toList, rt.data.toList, wb, sl, q, us⟩ seen key v) S w) := by
  have HU := Lib.hid hu
  have HS := Lib.hid hs
  have t0 : ((bs key).toList == [117, 115, 101, 114]) = false := by rw [bs_toList]; exact beq_eq_false_iff_ne.2 hku
  have HSC : Hid (∀ k, (S ++ [key]).contains k = (key :: seen).contains k) := Lib.hid (fun k => by
    rw [Bool.eq_iff_iff]
    have := hsn k
    rw [Bool.eq_iff_iff] at this
    simp only [List.contains_iff_mem] at this ⊢
    rw [List.mem_append, List.mem_singleton, List.mem_cons, this]
    exact Or.comm)
  have HHAS := Lib.hid (fun w1 (h : Below w.heap.size w w1) => refHas_any S (.slice A2 S.length c2) key (by omega) w1 (HS.out.below h))
  rw [hsn key] at HHAS
  have HV : Hid (setM ⟨nm.data.toList, rt.data.toList, wb, sl, q, us⟩ seen key v = setM ⟨nm.data.toList, rt.data.toList, wb, sl, q, us⟩ seen key v) := Lib.hid rfl
  have HKU := Lib.hid hku
  clear hu hs hsn hku
  cases hcn : seen.contains key with
  | true =>
    rw [hcn] at HHAS
    rw [show setM ⟨nm.data.toList, rt.data.toList, wb, sl, q, us⟩ seen key v = (5, ⟨nm.data.toList, rt.data.toList, wb, sl, q, us⟩, seen) from by unfold setM; rw [if_neg (show ¬ key = [117, 115, 101, 114] from HKU.out), if_pos hcn]]
    clear hcn HV
    generalize bs key = K at t0 HHAS
    go_enter Tryz.func33, Tryz.ntmps33
    go_wp2_with fail
    refine (HHAS.out _ (((Below.refl _ _).alloc (Nat.le_refl _) _).alloc (by simp) _)).mono ?_
    rintro e w1 ⟨rfl, hb1⟩
    obtain ⟨⟨⟨k0, k1, k2, k3, k4, k5, k6⟩, f0, f1, f2, f3, f4, f5, f6⟩, ⟨⟨y0, y1, y2, y3, y4, y5, y6⟩, g0, g1, g2, g3, g4, g5, g6⟩, hsz1, hB1⟩ := two_boxes hb1
    have HB1 := Lib.hid hB1
    clear hb1 hB1 HHAS
    go_wp2_with fail
    refine bodyPost_ret (v := .tuple #[.agg #[.string nm, .string rt, .bool wb, .int .i64 sl, .int .i64 q, .slice A us.length c, .slice A2 S.length c2], .int .i64 5]) ?_ rfl ?_
    · simp [results, Tryz.results33, go_sem, *]
    · have hX := below_set7 HB1.out (w.heap.size + 1) (by omega) (.string nm) (.string rt) (.bool wb) (.int .i64 sl) (.int .i64 q) (.slice A us.length c) (.slice A2 S.length c2)
      exact ⟨⟨_, _, _, _, _, _, _, _, _, _, _, rfl, fun h => absurd (show ((5 : Int)) = 0 from h) (by decide)⟩, hX⟩
  | false =>
    rw [hcn] at HHAS
    have HV2 : Hid (setM ⟨nm.data.toList, rt.data.toList, wb, sl, q, us⟩ seen key v = if key = [114, 111, 111, 116] then
    if pathOk v then (0, { (⟨nm.data.toList, rt.data.toList, wb, sl, q, us⟩ : Mdl) with root := v }, key :: seen) else (90, ⟨nm.data.toList, rt.data.toList, wb, sl, q, us⟩, key :: seen)
  else if key = [119, 114, 105, 116, 101] then
    if v = [121, 101, 115] ∨ v = [116, 114, 117, 101] then (0, { (⟨nm.data.toList, rt.data.toList, wb, sl, q, us⟩ : Mdl) with write := true }, key :: seen)
    else if v = [110, 111] ∨ v = [102, 97, 108, 115, 101] then (0, ⟨nm.data.toList, rt.data.toList, wb, sl, q, us⟩, key :: seen)
    else (130, ⟨nm.data.toList, rt.data.toList, wb, sl, q, us⟩, key :: seen)
  else if key = [115, 108, 111, 116, 115] then
    if 1 ≤ numR v ∧ numR v ≤ 16 then (0, { (⟨nm.data.toList, rt.data.toList, wb, sl, q, us⟩ : Mdl) with slots := numR v }, key :: seen) else (130, ⟨nm.data.toList, rt.data.toList, wb, sl, q, us⟩, key :: seen)
  else if key = [113, 117, 111, 116, 97] then
    if 0 ≤ numR v ∧ numR v ≤ 262144 then (0, { (⟨nm.data.toList, rt.data.toList, wb, sl, q, us⟩ : Mdl) with quota := numR v }, key :: seen) else (130, ⟨nm.data.toList, rt.data.toList, wb, sl, q, us⟩, key :: seen)
  else (130, ⟨nm.data.toList, rt.data.toList, wb, sl, q, us⟩, key :: seen)) := Lib.hid (by
      unfold setM
      rw [if_neg (show ¬ key = [117, 115, 101, 114] from HKU.out), if_neg (by rw [hcn]; decide)])
    generalize setM ⟨nm.data.toList, rt.data.toList, wb, sl, q, us⟩ seen key v = x at HV2
    have T1 := Lib.hid (str_tests key [114, 111, 111, 116])
    have T2 := Lib.hid (str_tests key [119, 114, 105, 116, 101])
    have T3 := Lib.hid (str_tests key [115, 108, 111, 116, 115])
    have T4 := Lib.hid (str_tests key [113, 117, 111, 116, 97])
    have V1 := Lib.hid (str_tests v [121, 101, 115])
    have V2 := Lib.hid (str_tests v [116, 114, 117, 101])
    have V3 := Lib.hid (str_tests v [110, 111])
    have V4 := Lib.hid (str_tests v [102, 97, 108, 115, 101])
    have HNUM := Lib.hid (refNumber_any v hv)
    have HPTH := Lib.hid (refPath_any v)
    have hvl : (bs v).size = v.length := rfl
    have HBV : Hid (bs v = bs v) := Lib.hid rfl
    clear hcn HV
    go_enter Tryz.func33, Tryz.ntmps33
    go_wp2_with fail
    refine (HHAS.out _ (((Below.refl _ _).alloc (Nat.le_refl _) _).alloc (by simp) _)).mono ?_
    rintro e w1 ⟨rfl, hb1⟩
    obtain ⟨hbx, hby, hsz1, hB1⟩ := two_boxes hb1
    have HB1 := Lib.hid hB1
    have HBX := Lib.hid hbx
    have HBY := Lib.hid hby
    obtain ⟨⟨k0, k1, k2, k3, k4, k5, k6⟩, f0, f1, f2, f3, f4, f5, f6⟩ := hbx
    obtain ⟨i0, hi0, hy0, hy1, hy2⟩ := info_parts infoStr
    have hs10 : w.heap.size < w1.heap.size := by omega
    have hs11 : w.heap.size + 1 < w1.heap.size := by omega
    have HEMP := Lib.hid (own_empty w1 9 1)
    have HFL := Lib.hid (HS.out.below (HB1.out.alloc (by omega) (.cells #[] 9)))
    clear hb1 hB1 HHAS hby
    go_wp2_with (at_builtin; refine wpList_append_flat rfl _ _ 43 rfl w1.heap.size 9 i0 (.string ⟨#[]⟩) 1 16 Tryz.underlying43 hi0 hy0 hy1 hy2 rfl (by decide) _ _ _ rfl HEMP.out _ S.length (strCells S) rfl HFL.out (strCells_one S) ?c3 ?c4 ?c5 ?_)
    case c3 => unfold maxLen; omega
    case c4 => omega
    case c5 => simp
    intro v4 w4 hown4 hgrow4
    obtain ⟨A4, c4, rfl⟩ := own_slice hown4
    have hb4 : Below w1.heap.size w1 w4 := ((Below.refl _ _).alloc (Nat.le_refl _) _).grown hgrow4 (by simp) (fun k hk => by simp [Value.ownBlock] at hk; omega)
    have HB4 := Lib.hid hb4
    have hsz4 : w1.heap.size ≤ w4.heap.size := hb4.size
    have HBX4 := HBX.out.below hb4 hs10
    have HOWN4 := Lib.hid hown4
    clear hown4 hgrow4 hb4 HEMP HFL k0 k1 k2 k3 k4 k5 k6 f0 f1 f2 f3 f4 f5 f6
    have hs40 : w.heap.size < w4.heap.size := by omega
    have hs41 : w.heap.size + 1 < w4.heap.size := by omega
    obtain ⟨⟨k0, k1, k2, k3, k4, k5, k6⟩, f0, f1, f2, f3, f4, f5, f6⟩ := HBX4
    have hl1 : w1.heap.size ≤ (w4.alloc (.cells #[.string (bs key)] 9)).heap.size := Nat.le_trans hsz4 ((Below.refl w4.heap.size w4).alloc (Nat.le_refl _) _).size
    have BB := Lib.hid (HB4.out.alloc hsz4 (.cells #[.string (bs key)] 9))
    go_wp2_with (at_builtin; refine wpList_append_own _ rfl _ _ 43 rfl w1.heap.size 9 i0 (.string ⟨#[]⟩) 1 16 Tryz.underlying43 hi0 hy0 hy1 hy2 rfl (by decide) _ _ _ rfl (HOWN4.out.alloc _) ⟨w4.heap.size, 0, none⟩ 1 1 [.string (bs key)] rfl rfl (one_new _ _ _ _ rfl) ?c2 ?c3 ?c4 hl1 ?_)
    case c2 => intro y hy; simp at hy; subst hy; rfl
    case c3 => unfold maxLen; omega
    case c4 => omega
    intro v5 w5 hown5 hgrow5 _
    obtain ⟨A5, c5, rfl⟩ := own_slice hown5
    have HB5 := Lib.hid (BB.out.grown hgrow5 hl1 (fun k hk => (own_block HOWN4.out hk).1))
    have hsz5 : w1.heap.size ≤ w5.heap.size := HB5.out.size
    have HOWN5 := Lib.hid hown5
    have HBX5 := Lib.hid (HBX.out.below HB5.out hs10)
    have HBY5 := Lib.hid (HBY.out.below HB5.out hs11)
    clear hown5 hgrow5 BB HOWN4 k0 k1 k2 k3 k4 k5 k6 f0 f1 f2 f3 f4 f5 f6
    have hs50 : w.heap.size < w5.heap.size := by omega
    have hs51 : w.heap.size + 1 < w5.heap.size := by omega
    obtain ⟨⟨k0, k1, k2, k3, k4, k5, k6⟩, f0, f1, f2, f3, f4, f5, f6⟩ := HBX5.out
    go_wp2_with fail
    refine (HNUM.out _).mono ?_
    rintro e w7 ⟨rfl, hb7⟩
    have HBX7 := (HBX5.out.set (.slice A5 (S.length + 1) c5)).below hb7 (by simpa [World.setCell] using hs50)
    have HBY7 := (HBY5.out.far (g' := w.heap.size) (j := 6) (.slice A5 (S.length + 1) c5) (by omega)).below hb7 (by simpa [World.setCell] using hs51)
    have HW7 := Lib.hid ((((HB1.out.trans (HB5.out.mono (by omega))).setCell (p := ⟨w.heap.size, 6, none⟩) (Nat.le_refl _) (.slice A5 (S.length + 1) c5))).trans (hb7.mono (by simp [World.setCell]; omega)))
    have HOWN7 := Lib.hid (own_below (own_setCell HOWN5.out w.heap.size 6 hs10 (.slice A5 (S.length + 1) c5)) hb7)
    have hsz7 : w5.heap.size ≤ w7.heap.size := by have := hb7.size; simp [World.setCell] at this; exact this
    clear hb7 HNUM k0 k1 k2 k3 k4 k5 k6 f0 f1 f2 f3 f4 f5 f6
    have hszq0 : w.heap.size < w1.heap.size := hs10
    have hszq1 : w.heap.size + 1 < w1.heap.size := hs11
    have hs70 : w.heap.size < w7.heap.size := by omega
    have hs71 : w.heap.size + 1 < w7.heap.size := by omega
    have HBXH := Lib.hid HBX7
    have HBYH := Lib.hid HBY7
    obtain ⟨⟨k0, k1, k2, k3, k4, k5, k6⟩, f0, f1, f2, f3, f4, f5, f6⟩ := HBX7
    obtain ⟨⟨y0, y1, y2, y3, y4, y5, y6⟩, g0, g1, g2, g3, g4, g5, g6⟩ := HBY7
    by_cases c1 : key = [114, 111, 111, 116]
    · have t1 : ((bs key).toList == [114, 111, 111, 116]) = true := by rw [T1.out]; exact beq_iff_eq.2 c1
      have HV3 := HV2.out
      rw [if_pos c1] at HV3
      have HV4 := Lib.hid HV3
      clear HV3 HV2 c1
      go_wp2_with fail
      refine (HPTH.out _).mono ?_
      rintro e w8 ⟨⟨r8, rfl⟩, hb8⟩
      have HBX8 := HBXH.out.below hb8 hs70
      have HBY8 := HBYH.out.below hb8 hs71
      have HW8 := Lib.hid (HW7.out.trans (hb8.mono (by omega)))
      have HOWN8 := Lib.hid (own_below HOWN7.out hb8)
      have hs80 : w.heap.size < w8.heap.size := by have := hb8.size; omega
      clear hb8 HPTH HOWN7 HW7 k0 k1 k2 k3 k4 k5 k6 f0 f1 f2 f3 f4 f5 f6 y0 y1 y2 y3 y4 y5 y6 g0 g1 g2 g3 g4 g5 g6
      have hs81 : w.heap.size + 1 < w8.heap.size := by have := HW8.out.size; have := (cell_lt HBY8.1.1); omega
      obtain ⟨⟨k0, k1, k2, k3, k4, k5, k6⟩, f0, f1, f2, f3, f4, f5, f6⟩ := HBX8
      obtain ⟨⟨y0, y1, y2, y3, y4, y5, y6⟩, g0, g1, g2, g3, g4, g5, g6⟩ := HBY8
      have HW7 := HW8
      have HOWN7 := HOWN8
      cases hp : pathOk v with
      | true =>
        obtain rfl : x = (0, ⟨nm.data.toList, v, wb, sl, q, us⟩, key :: seen) := by rw [HV4.out, if_pos hp]
        clear hp
        go_wp2_with fail
        refine bodyPost_ret (v := .tuple #[.agg #[.string nm, .string (bs v), .bool wb, .int .i64 sl, .int .i64 q, .slice A us.length c, .slice A5 (S.length + 1) c5], .int .i64 0]) ?_ rfl ?_
        · simp [results, Tryz.results33, go_sem, *]
        · have hX := below_set7 (HW7.out.setCell (p := ⟨w.heap.size, 1, none⟩) (Nat.le_refl _) (.string (bs v))) (w.heap.size + 1) (by omega) (.string nm) (.string (bs v)) (.bool wb) (.int .i64 sl) (.int .i64 q) (.slice A us.length c) (.slice A5 (S.length + 1) c5)
          have hR := own_setCell (own_setCell (own_setCell (own_setCell (own_setCell (own_setCell (own_setCell (own_setCell HOWN7.out w.heap.size 1 hszq0 (.string (bs v))) (w.heap.size + 1) 0 hszq1 (.string nm)) (w.heap.size + 1) 1 hszq1 (.string (bs v))) (w.heap.size + 1) 2 hszq1 (.bool wb)) (w.heap.size + 1) 3 hszq1 (.int .i64 sl)) (w.heap.size + 1) 4 hszq1 (.int .i64 q)) (w.heap.size + 1) 5 hszq1 (.slice A us.length c)) (w.heap.size + 1) 6 hszq1 (.slice A5 (S.length + 1) c5)
          exact ⟨⟨_, _, _, _, _, _, _, _, _, _, _, rfl, fun _ => ⟨rfl, rfl, rfl, rfl, rfl, rfl, .inl ⟨rfl, rfl, rfl⟩, S ++ [key], by simp, .inr ⟨by obtain ⟨g, h1, h2⟩ := own_some hR (by omega); exact ⟨g, h1, by omega⟩, flat_snoc hR⟩, by simp, HSC.out⟩⟩, hX⟩
      | false =>
        obtain rfl : x = (90, ⟨nm.data.toList, rt.data.toList, wb, sl, q, us⟩, key :: seen) := by rw [HV4.out, if_neg (by rw [hp]; decide)]
        clear hp
        go_wp2_with fail
        refine bodyPost_ret (v := .tuple #[.agg #[.string nm, .string rt, .bool wb, .int .i64 sl, .int .i64 q, .slice A us.length c, .slice A5 (S.length + 1) c5], .int .i64 90]) ?_ rfl ?_
        · simp [results, Tryz.results33, go_sem, *]
        · have hX := below_set7 HW7.out (w.heap.size + 1) (by omega) (.string nm) (.string rt) (.bool wb) (.int .i64 sl) (.int .i64 q) (.slice A us.length c) (.slice A5 (S.length + 1) c5)
          exact ⟨⟨_, _, _, _, _, _, _, _, _, _, _, rfl, fun h => absurd (show ((90 : Int)) = 0 from h) (by decide)⟩, hX⟩
    · by_cases c2 : key = [119, 114, 105, 116, 101]
      · have HV4 : Hid (x = if v = [121, 101, 115] ∨ v = [116, 114, 117, 101] then (0, ⟨nm.data.toList, rt.data.toList, true, sl, q, us⟩, key :: seen) else if v = [110, 111] ∨ v = [102, 97, 108, 115, 101] then (0, ⟨nm.data.toList, rt.data.toList, wb, sl, q, us⟩, key :: seen) else (130, ⟨nm.data.toList, rt.data.toList, wb, sl, q, us⟩, key :: seen)) := Lib.hid (by rw [HV2.out, if_neg c1, if_pos c2])
        have t2 : ((bs key).toList == [119, 114, 105, 116, 101]) = true := by rw [T2.out]; exact beq_iff_eq.2 c2
        have t1 : ((bs key).toList == [114, 111, 111, 116]) = false := by rw [T1.out]; exact beq_eq_false_iff_ne.2 c1
        clear HV2 c1 c2
        by_cases d1 : v = [121, 101, 115]
        · obtain rfl : x = (0, ⟨nm.data.toList, rt.data.toList, true, sl, q, us⟩, key :: seen) := by rw [HV4.out, if_pos (.inl d1)]
          have u1 : ((bs v).toList == [121, 101, 115]) = true := by rw [V1.out]; exact beq_iff_eq.2 d1
          clear d1
          go_wp2_with fail
          refine bodyPost_ret (v := .tuple #[.agg #[.string nm, .string rt, .bool true, .int .i64 sl, .int .i64 q, .slice A us.length c, .slice A5 (S.length + 1) c5], .int .i64 0]) ?_ rfl ?_
          · simp [results, Tryz.results33, go_sem, *]
          · have hX := below_set7 (HW7.out.setCell (p := ⟨w.heap.size, 2, none⟩) (Nat.le_refl _) (.bool true)) (w.heap.size + 1) (by omega) (.string nm) (.string rt) (.bool true) (.int .i64 sl) (.int .i64 q) (.slice A us.length c) (.slice A5 (S.length + 1) c5)
            have hR := own_setCell (own_setCell (own_setCell (own_setCell (own_setCell (own_setCell (own_setCell (own_setCell HOWN7.out w.heap.size 2 hszq0 (.bool true)) (w.heap.size + 1) 0 hszq1 (.string nm)) (w.heap.size + 1) 1 hszq1 (.string rt)) (w.heap.size + 1) 2 hszq1 (.bool true)) (w.heap.size + 1) 3 hszq1 (.int .i64 sl)) (w.heap.size + 1) 4 hszq1 (.int .i64 q)) (w.heap.size + 1) 5 hszq1 (.slice A us.length c)) (w.heap.size + 1) 6 hszq1 (.slice A5 (S.length + 1) c5)
            exact ⟨⟨_, _, _, _, _, _, _, _, _, _, _, rfl, fun _ => ⟨rfl, rfl, rfl, rfl, rfl, rfl, .inl ⟨rfl, rfl, rfl⟩, S ++ [key], by simp, .inr ⟨by obtain ⟨g, h1, h2⟩ := own_some hR (by omega); exact ⟨g, h1, by omega⟩, flat_snoc hR⟩, by simp, HSC.out⟩⟩, hX⟩
        · by_cases d2 : v = [116, 114, 117, 101]
          · obtain rfl : x = (0, ⟨nm.data.toList, rt.data.toList, true, sl, q, us⟩, key :: seen) := by rw [HV4.out, if_pos (.inr d2)]
            have u1 : ((bs v).toList == [121, 101, 115]) = false := by rw [V1.out]; exact beq_eq_false_iff_ne.2 d1
            have u2 : ((bs v).toList == [116, 114, 117, 101]) = true := by rw [V2.out]; exact beq_iff_eq.2 d2
            clear d1 d2
            go_wp2_with fail
            refine bodyPost_ret (v := .tuple #[.agg #[.string nm, .string rt, .bool true, .int .i64 sl, .int .i64 q, .slice A us.length c, .slice A5 (S.length + 1) c5], .int .i64 0]) ?_ rfl ?_
            · simp [results, Tryz.results33, go_sem, *]
            · have hX := below_set7 (HW7.out.setCell (p := ⟨w.heap.size, 2, none⟩) (Nat.le_refl _) (.bool true)) (w.heap.size + 1) (by omega) (.string nm) (.string rt) (.bool true) (.int .i64 sl) (.int .i64 q) (.slice A us.length c) (.slice A5 (S.length + 1) c5)
              have hR := own_setCell (own_setCell (own_setCell (own_setCell (own_setCell (own_setCell (own_setCell (own_setCell HOWN7.out w.heap.size 2 hszq0 (.bool true)) (w.heap.size + 1) 0 hszq1 (.string nm)) (w.heap.size + 1) 1 hszq1 (.string rt)) (w.heap.size + 1) 2 hszq1 (.bool true)) (w.heap.size + 1) 3 hszq1 (.int .i64 sl)) (w.heap.size + 1) 4 hszq1 (.int .i64 q)) (w.heap.size + 1) 5 hszq1 (.slice A us.length c)) (w.heap.size + 1) 6 hszq1 (.slice A5 (S.length + 1) c5)
              exact ⟨⟨_, _, _, _, _, _, _, _, _, _, _, rfl, fun _ => ⟨rfl, rfl, rfl, rfl, rfl, rfl, .inl ⟨rfl, rfl, rfl⟩, S ++ [key], by simp, .inr ⟨by obtain ⟨g, h1, h2⟩ := own_some hR (by omega); exact ⟨g, h1, by omega⟩, flat_snoc hR⟩, by simp, HSC.out⟩⟩, hX⟩
          · have HV5 : Hid (x = if v = [110, 111] ∨ v = [102, 97, 108, 115, 101] then (0, ⟨nm.data.toList, rt.data.toList, wb, sl, q, us⟩, key :: seen) else (130, ⟨nm.data.toList, rt.data.toList, wb, sl, q, us⟩, key :: seen)) := Lib.hid (by rw [HV4.out, if_neg (fun h => h.elim d1 d2)])
            have u1 : ((bs v).toList == [121, 101, 115]) = false := by rw [V1.out]; exact beq_eq_false_iff_ne.2 d1
            have u2 : ((bs v).toList == [116, 114, 117, 101]) = false := by rw [V2.out]; exact beq_eq_false_iff_ne.2 d2
            clear d1 d2 HV4
            by_cases d3 : v = [110, 111]
            · obtain rfl : x = (0, ⟨nm.data.toList, rt.data.toList, wb, sl, q, us⟩, key :: seen) := by rw [HV5.out, if_pos (.inl d3)]
              have u3 : ((bs v).toList == [110, 111]) = true := by rw [V3.out]; exact beq_iff_eq.2 d3
              clear d3
              go_wp2_with fail
              refine bodyPost_ret (v := .tuple #[.agg #[.string nm, .string rt, .bool wb, .int .i64 sl, .int .i64 q, .slice A us.length c, .slice A5 (S.length + 1) c5], .int .i64 0]) ?_ rfl ?_
              · simp [results, Tryz.results33, go_sem, *]
              · have hX := below_set7 HW7.out (w.heap.size + 1) (by omega) (.string nm) (.string rt) (.bool wb) (.int .i64 sl) (.int .i64 q) (.slice A us.length c) (.slice A5 (S.length + 1) c5)
                have hR := own_setCell (own_setCell (own_setCell (own_setCell (own_setCell (own_setCell (own_setCell (HOWN7.out) (w.heap.size + 1) 0 hszq1 (.string nm)) (w.heap.size + 1) 1 hszq1 (.string rt)) (w.heap.size + 1) 2 hszq1 (.bool wb)) (w.heap.size + 1) 3 hszq1 (.int .i64 sl)) (w.heap.size + 1) 4 hszq1 (.int .i64 q)) (w.heap.size + 1) 5 hszq1 (.slice A us.length c)) (w.heap.size + 1) 6 hszq1 (.slice A5 (S.length + 1) c5)
                exact ⟨⟨_, _, _, _, _, _, _, _, _, _, _, rfl, fun _ => ⟨rfl, rfl, rfl, rfl, rfl, rfl, .inl ⟨rfl, rfl, rfl⟩, S ++ [key], by simp, .inr ⟨by obtain ⟨g, h1, h2⟩ := own_some hR (by omega); exact ⟨g, h1, by omega⟩, flat_snoc hR⟩, by simp, HSC.out⟩⟩, hX⟩
            · by_cases d4 : v = [102, 97, 108, 115, 101]
              · obtain rfl : x = (0, ⟨nm.data.toList, rt.data.toList, wb, sl, q, us⟩, key :: seen) := by rw [HV5.out, if_pos (.inr d4)]
                have u3 : ((bs v).toList == [110, 111]) = false := by rw [V3.out]; exact beq_eq_false_iff_ne.2 d3
                have u4 : ((bs v).toList == [102, 97, 108, 115, 101]) = true := by rw [V4.out]; exact beq_iff_eq.2 d4
                clear d3 d4
                go_wp2_with fail
                refine bodyPost_ret (v := .tuple #[.agg #[.string nm, .string rt, .bool wb, .int .i64 sl, .int .i64 q, .slice A us.length c, .slice A5 (S.length + 1) c5], .int .i64 0]) ?_ rfl ?_
                · simp [results, Tryz.results33, go_sem, *]
                · have hX := below_set7 HW7.out (w.heap.size + 1) (by omega) (.string nm) (.string rt) (.bool wb) (.int .i64 sl) (.int .i64 q) (.slice A us.length c) (.slice A5 (S.length + 1) c5)
                  have hR := own_setCell (own_setCell (own_setCell (own_setCell (own_setCell (own_setCell (own_setCell (HOWN7.out) (w.heap.size + 1) 0 hszq1 (.string nm)) (w.heap.size + 1) 1 hszq1 (.string rt)) (w.heap.size + 1) 2 hszq1 (.bool wb)) (w.heap.size + 1) 3 hszq1 (.int .i64 sl)) (w.heap.size + 1) 4 hszq1 (.int .i64 q)) (w.heap.size + 1) 5 hszq1 (.slice A us.length c)) (w.heap.size + 1) 6 hszq1 (.slice A5 (S.length + 1) c5)
                  exact ⟨⟨_, _, _, _, _, _, _, _, _, _, _, rfl, fun _ => ⟨rfl, rfl, rfl, rfl, rfl, rfl, .inl ⟨rfl, rfl, rfl⟩, S ++ [key], by simp, .inr ⟨by obtain ⟨g, h1, h2⟩ := own_some hR (by omega); exact ⟨g, h1, by omega⟩, flat_snoc hR⟩, by simp, HSC.out⟩⟩, hX⟩
              · obtain rfl : x = (130, ⟨nm.data.toList, rt.data.toList, wb, sl, q, us⟩, key :: seen) := by rw [HV5.out, if_neg (fun h => h.elim d3 d4)]
                have u3 : ((bs v).toList == [110, 111]) = false := by rw [V3.out]; exact beq_eq_false_iff_ne.2 d3
                have u4 : ((bs v).toList == [102, 97, 108, 115, 101]) = false := by rw [V4.out]; exact beq_eq_false_iff_ne.2 d4
                clear d3 d4
                go_wp2_with fail
                refine bodyPost_ret (v := .tuple #[.agg #[.string nm, .string rt, .bool wb, .int .i64 sl, .int .i64 q, .slice A us.length c, .slice A5 (S.length + 1) c5], .int .i64 130]) ?_ rfl ?_
                · simp [results, Tryz.results33, go_sem, *]
                · have hX := below_set7 HW7.out (w.heap.size + 1) (by omega) (.string nm) (.string rt) (.bool wb) (.int .i64 sl) (.int .i64 q) (.slice A us.length c) (.slice A5 (S.length + 1) c5)
                  exact ⟨⟨_, _, _, _, _, _, _, _, _, _, _, rfl, fun h => absurd (show ((130 : Int)) = 0 from h) (by decide)⟩, hX⟩
      · by_cases c3 : key = [115, 108, 111, 116, 115]
        · have HV4 : Hid (x = if 1 ≤ numR v ∧ numR v ≤ 16 then (0, ⟨nm.data.toList, rt.data.toList, wb, numR v, q, us⟩, key :: seen) else (130, ⟨nm.data.toList, rt.data.toList, wb, sl, q, us⟩, key :: seen)) := Lib.hid (by rw [HV2.out, if_neg c1, if_neg c2, if_pos c3])
          have t1 : ((bs key).toList == [114, 111, 111, 116]) = false := by rw [T1.out]; exact beq_eq_false_iff_ne.2 c1
          have t2 : ((bs key).toList == [119, 114, 105, 116, 101]) = false := by rw [T2.out]; exact beq_eq_false_iff_ne.2 c2
          have t3 : ((bs key).toList == [115, 108, 111, 116, 115]) = true := by rw [T3.out]; exact beq_iff_eq.2 c3
          clear HV2 c1 c2 c3
          generalize numR v = nv at HV4 ⊢
          by_cases d1 : 1 ≤ nv
          · by_cases d2 : nv ≤ 16
            · obtain rfl : x = (0, ⟨nm.data.toList, rt.data.toList, wb, nv, q, us⟩, key :: seen) := by rw [HV4.out, if_pos ⟨d1, d2⟩]
              go_wp2_with fail
              refine bodyPost_ret (v := .tuple #[.agg #[.string nm, .string rt, .bool wb, .int .i64 nv, .int .i64 q, .slice A us.length c, .slice A5 (S.length + 1) c5], .int .i64 0]) ?_ rfl ?_
              · simp [results, Tryz.results33, go_sem, *]
              · have hX := below_set7 (HW7.out.setCell (p := ⟨w.heap.size, 3, none⟩) (Nat.le_refl _) (.int .i64 nv)) (w.heap.size + 1) (by omega) (.string nm) (.string rt) (.bool wb) (.int .i64 nv) (.int .i64 q) (.slice A us.length c) (.slice A5 (S.length + 1) c5)
                have hR := own_setCell (own_setCell (own_setCell (own_setCell (own_setCell (own_setCell (own_setCell (own_setCell HOWN7.out w.heap.size 3 hszq0 (.int .i64 nv)) (w.heap.size + 1) 0 hszq1 (.string nm)) (w.heap.size + 1) 1 hszq1 (.string rt)) (w.heap.size + 1) 2 hszq1 (.bool wb)) (w.heap.size + 1) 3 hszq1 (.int .i64 nv)) (w.heap.size + 1) 4 hszq1 (.int .i64 q)) (w.heap.size + 1) 5 hszq1 (.slice A us.length c)) (w.heap.size + 1) 6 hszq1 (.slice A5 (S.length + 1) c5)
                exact ⟨⟨_, _, _, _, _, _, _, _, _, _, _, rfl, fun _ => ⟨rfl, rfl, rfl, rfl, rfl, rfl, .inl ⟨rfl, rfl, rfl⟩, S ++ [key], by simp, .inr ⟨by obtain ⟨g, h1, h2⟩ := own_some hR (by omega); exact ⟨g, h1, by omega⟩, flat_snoc hR⟩, by simp, HSC.out⟩⟩, hX⟩
            · obtain rfl : x = (130, ⟨nm.data.toList, rt.data.toList, wb, sl, q, us⟩, key :: seen) := by rw [HV4.out, if_neg (fun h => d2 h.2)]
              go_wp2_with fail
              refine bodyPost_ret (v := .tuple #[.agg #[.string nm, .string rt, .bool wb, .int .i64 sl, .int .i64 q, .slice A us.length c, .slice A5 (S.length + 1) c5], .int .i64 130]) ?_ rfl ?_
              · simp [results, Tryz.results33, go_sem, *]
              · have hX := below_set7 HW7.out (w.heap.size + 1) (by omega) (.string nm) (.string rt) (.bool wb) (.int .i64 sl) (.int .i64 q) (.slice A us.length c) (.slice A5 (S.length + 1) c5)
                exact ⟨⟨_, _, _, _, _, _, _, _, _, _, _, rfl, fun h => absurd (show ((130 : Int)) = 0 from h) (by decide)⟩, hX⟩
          · obtain rfl : x = (130, ⟨nm.data.toList, rt.data.toList, wb, sl, q, us⟩, key :: seen) := by rw [HV4.out, if_neg (fun h => d1 h.1)]
            go_wp2_with fail
            refine bodyPost_ret (v := .tuple #[.agg #[.string nm, .string rt, .bool wb, .int .i64 sl, .int .i64 q, .slice A us.length c, .slice A5 (S.length + 1) c5], .int .i64 130]) ?_ rfl ?_
            · simp [results, Tryz.results33, go_sem, *]
            · have hX := below_set7 HW7.out (w.heap.size + 1) (by omega) (.string nm) (.string rt) (.bool wb) (.int .i64 sl) (.int .i64 q) (.slice A us.length c) (.slice A5 (S.length + 1) c5)
              exact ⟨⟨_, _, _, _, _, _, _, _, _, _, _, rfl, fun h => absurd (show ((130 : Int)) = 0 from h) (by decide)⟩, hX⟩
        · by_cases c4 : key = [113, 117, 111, 116, 97]
          · have HV4 : Hid (x = if 0 ≤ numR v ∧ numR v ≤ 262144 then (0, ⟨nm.data.toList, rt.data.toList, wb, sl, numR v, us⟩, key :: seen) else (130, ⟨nm.data.toList, rt.data.toList, wb, sl, q, us⟩, key :: seen)) := Lib.hid (by rw [HV2.out, if_neg c1, if_neg c2, if_neg c3, if_pos c4])
            have t1 : ((bs key).toList == [114, 111, 111, 116]) = false := by rw [T1.out]; exact beq_eq_false_iff_ne.2 c1
            have t2 : ((bs key).toList == [119, 114, 105, 116, 101]) = false := by rw [T2.out]; exact beq_eq_false_iff_ne.2 c2
            have t3 : ((bs key).toList == [115, 108, 111, 116, 115]) = false := by rw [T3.out]; exact beq_eq_false_iff_ne.2 c3
            have t4 : ((bs key).toList == [113, 117, 111, 116, 97]) = true := by rw [T4.out]; exact beq_iff_eq.2 c4
            clear HV2 c1 c2 c3 c4
            generalize numR v = nv at HV4 ⊢
            by_cases d1 : 0 ≤ nv
            · by_cases d2 : nv ≤ 262144
              · obtain rfl : x = (0, ⟨nm.data.toList, rt.data.toList, wb, sl, nv, us⟩, key :: seen) := by rw [HV4.out, if_pos ⟨d1, d2⟩]
                go_wp2_with fail
                refine bodyPost_ret (v := .tuple #[.agg #[.string nm, .string rt, .bool wb, .int .i64 sl, .int .i64 nv, .slice A us.length c, .slice A5 (S.length + 1) c5], .int .i64 0]) ?_ rfl ?_
                · simp [results, Tryz.results33, go_sem, *]
                · have hX := below_set7 (HW7.out.setCell (p := ⟨w.heap.size, 4, none⟩) (Nat.le_refl _) (.int .i64 nv)) (w.heap.size + 1) (by omega) (.string nm) (.string rt) (.bool wb) (.int .i64 sl) (.int .i64 nv) (.slice A us.length c) (.slice A5 (S.length + 1) c5)
                  have hR := own_setCell (own_setCell (own_setCell (own_setCell (own_setCell (own_setCell (own_setCell (own_setCell HOWN7.out w.heap.size 4 hszq0 (.int .i64 nv)) (w.heap.size + 1) 0 hszq1 (.string nm)) (w.heap.size + 1) 1 hszq1 (.string rt)) (w.heap.size + 1) 2 hszq1 (.bool wb)) (w.heap.size + 1) 3 hszq1 (.int .i64 sl)) (w.heap.size + 1) 4 hszq1 (.int .i64 nv)) (w.heap.size + 1) 5 hszq1 (.slice A us.length c)) (w.heap.size + 1) 6 hszq1 (.slice A5 (S.length + 1) c5)
                  exact ⟨⟨_, _, _, _, _, _, _, _, _, _, _, rfl, fun _ => ⟨rfl, rfl, rfl, rfl, rfl, rfl, .inl ⟨rfl, rfl, rfl⟩, S ++ [key], by simp, .inr ⟨by obtain ⟨g, h1, h2⟩ := own_some hR (by omega); exact ⟨g, h1, by omega⟩, flat_snoc hR⟩, by simp, HSC.out⟩⟩, hX⟩
              · obtain rfl : x = (130, ⟨nm.data.toList, rt.data.toList, wb, sl, q, us⟩, key :: seen) := by rw [HV4.out, if_neg (fun h => d2 h.2)]
                go_wp2_with fail
                refine bodyPost_ret (v := .tuple #[.agg #[.string nm, .string rt, .bool wb, .int .i64 sl, .int .i64 q, .slice A us.length c, .slice A5 (S.length + 1) c5], .int .i64 130]) ?_ rfl ?_
                · simp [results, Tryz.results33, go_sem, *]
                · have hX := below_set7 HW7.out (w.heap.size + 1) (by omega) (.string nm) (.string rt) (.bool wb) (.int .i64 sl) (.int .i64 q) (.slice A us.length c) (.slice A5 (S.length + 1) c5)
                  exact ⟨⟨_, _, _, _, _, _, _, _, _, _, _, rfl, fun h => absurd (show ((130 : Int)) = 0 from h) (by decide)⟩, hX⟩
            · obtain rfl : x = (130, ⟨nm.data.toList, rt.data.toList, wb, sl, q, us⟩, key :: seen) := by rw [HV4.out, if_neg (fun h => d1 h.1)]
              go_wp2_with fail
              refine bodyPost_ret (v := .tuple #[.agg #[.string nm, .string rt, .bool wb, .int .i64 sl, .int .i64 q, .slice A us.length c, .slice A5 (S.length + 1) c5], .int .i64 130]) ?_ rfl ?_
              · simp [results, Tryz.results33, go_sem, *]
              · have hX := below_set7 HW7.out (w.heap.size + 1) (by omega) (.string nm) (.string rt) (.bool wb) (.int .i64 sl) (.int .i64 q) (.slice A us.length c) (.slice A5 (S.length + 1) c5)
                exact ⟨⟨_, _, _, _, _, _, _, _, _, _, _, rfl, fun h => absurd (show ((130 : Int)) = 0 from h) (by decide)⟩, hX⟩
          · obtain rfl : x = (130, ⟨nm.data.toList, rt.data.toList, wb, sl, q, us⟩, key :: seen) := by rw [HV2.out, if_neg c1, if_neg c2, if_neg c3, if_neg c4]
            have t1 : ((bs key).toList == [114, 111, 111, 116]) = false := by rw [T1.out]; exact beq_eq_false_iff_ne.2 c1
            have t2 : ((bs key).toList == [119, 114, 105, 116, 101]) = false := by rw [T2.out]; exact beq_eq_false_iff_ne.2 c2
            have t3 : ((bs key).toList == [115, 108, 111, 116, 115]) = false := by rw [T3.out]; exact beq_eq_false_iff_ne.2 c3
            have t4 : ((bs key).toList == [113, 117, 111, 116, 97]) = false := by rw [T4.out]; exact beq_eq_false_iff_ne.2 c4
            clear HV2 c1 c2 c3 c4
            generalize numR v = nv
            go_wp2_with fail
            refine bodyPost_ret (v := .tuple #[.agg #[.string nm, .string rt, .bool wb, .int .i64 sl, .int .i64 q, .slice A us.length c, .slice A5 (S.length + 1) c5], .int .i64 130]) ?_ rfl ?_
            · simp [results, Tryz.results33, go_sem, *]
            · have hX := below_set7 HW7.out (w.heap.size + 1) (by omega) (.string nm) (.string rt) (.bool wb) (.int .i64 sl) (.int .i64 q) (.slice A us.length c) (.slice A5 (S.length + 1) c5)
              exact ⟨⟨_, _, _, _, _, _, _, _, _, _, _, rfl, fun h => absurd (show ((130 : Int)) = 0 from h) (by decide)⟩, hX⟩
end Go.Proofs.YtkbamneecfmibaaGreatDoor
