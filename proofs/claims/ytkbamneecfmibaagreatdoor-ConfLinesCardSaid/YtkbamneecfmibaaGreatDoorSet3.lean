/- (*conf.Module).set at the key user, and at every key. Conditions: GW; the module is the last one of a row of the call's own; the texts are shorter than 2^32 - 16 bytes. -/
import Derived.Test.YtkbamneecfmibaaGreatDoorSet2
import Derived.Maps.AppendAt
namespace Go.Proofs.YtkbamneecfmibaaGreatDoor
open Go.RowKit
open C

theorem own_type {w : World} {b1 b2 : Nat} {e1 e2 : TypeId} {s1 s2 n1 n2 : Nat} {v1 v2 : Value} {x1 x2 : List Value} (h1 : w.ownsRow b1 e1 s1 v1 n1 x1) (h2 : w.ownsRow b2 e2 s2 v2 n2 x2) (he : e1 ≠ e2) {k : Nat} (hk : v1.ownBlock = some k) : v2.ownBlock ≠ some k := by
  intro hk2
  obtain ⟨_, _, c1, hc1⟩ := own_block h1 hk
  obtain ⟨_, _, c2, hc2⟩ := own_block h2 hk2
  rw [hc1] at hc2
  injection hc2 with e
  injection e with _ e _
  exact he e
theorem SetIn.grow {w w2 : World} {B g cap sb : Nat} {L : List (Mdl × Value)} {m : Mdl} {u u' : Value} {S : List Bs} (h : SetIn w B g cap sb L m u S) (us : List Usr)
    (h1 : w2.ownsRow B tUser 2 u' us.length (usrCells us)) (hg : w.grownBy w2 u.ownBlock) (hat : u'.ownBlock = u.ownBlock ∨ u'.ownBlock = some w.heap.size) :
    SetIn (w2.setCell ⟨g, L.length * 6 + 5, none⟩ u') B g cap sb L { m with users := us } u' S ∧ Below B w (w2.setCell ⟨g, L.length * 6 + 5, none⟩ u') ∧ w2.cell? ⟨g, L.length * 6 + 5, none⟩ = some u ∧ w2.frozen? ⟨g, L.length * 6 + 5, none⟩ = false := by
  have hmu : (m, u) ∈ L ++ [(m, u)] := List.mem_append.2 (.inr (List.mem_singleton.2 rfl))
  have hgu : u.ownBlock ≠ some g := own_type h.own.row (h.own.usr (m, u) hmu) (by decide) rfl
  have hkeep : ∀ k, k < w.heap.size → u.ownBlock ≠ some k → w2.heap[k]? = w.heap[k]? := fun k hk hne => hg.block k hk (Ne.symm hne)
  have hrow2 : w2.ownsRow B tMod 6 (.slice (some ⟨g, 0, none⟩) (L.length + 1) cap) (L ++ [(m, u)]).length (modCells (L ++ [(m, u)])) := own_same h.own.row (fun k hk => by
    have : k = g := by simp [Value.ownBlock] at hk; exact hk.symm
    subst this
    exact hkeep k h.hg.2.1 hgu)
  have hb2 : Below B w w2 := (Below.refl _ _).grown hg h.hB (fun k hk => (own_block (h.own.usr (m, u) hmu) hk).1)
  have hbs : Below B w (w2.setCell ⟨g, L.length * 6 + 5, none⟩ u') := hb2.setCell (p := ⟨g, L.length * 6 + 5, none⟩) h.hg.1 u'
  have hr := hrow2
  rw [List.length_append, List.length_singleton] at hr
  have hs := (hr.stored (L.length * 6 + 5) u').1
  have hc : (modCells (L ++ [(m, u)])).set (L.length * 6 + 5) u' = modCells (L ++ [({ m with users := us }, u')]) := by
    rw [mod_snoc, mod_snoc, List.set_append_right _ _ (by rw [mod_len]; omega), mod_len, show L.length * 6 + 5 - L.length * 6 = 5 from by omega]; rfl
  rw [hc] at hs
  have hne := h.own.ne
  rw [List.pairwise_append] at hne
  refine ⟨⟨h.gw.belowB hbs h.h7, ⟨by rw [List.length_append, List.length_singleton]; exact hs, ?_, ?_⟩, ?_, h.hsb, h.h7, Nat.le_trans h.hB hbs.size⟩, hbs, ?_, hr.frozenAt _⟩
  · intro p hp
    rcases List.mem_append.1 hp with hp | hp
    · have hpo := h.own.usr p (List.mem_append.2 (.inl hp))
      refine own_same (own_same (w1 := w2) hpo (fun k hk => ?_)) (fun k hk => ?_)
      · exact hkeep k (own_block hpo hk).2.1 (hne.2.2 p hp (m, u) (List.mem_singleton.2 rfl) k hk)
      · refine Below.heap_setCell _ _ _ _ ?_
        rintro rfl
        exact own_type h.own.row hpo (by decide) rfl hk
    · rw [List.mem_singleton] at hp
      subst hp
      refine own_same h1 (fun k hk => Below.heap_setCell _ _ _ _ ?_)
      rintro rfl
      exact own_type hrow2 h1 (by decide) rfl hk
  · rw [List.pairwise_append]
    refine ⟨hne.1, List.pairwise_singleton _ _, fun a ha b hb k hk hk' => ?_⟩
    rw [List.mem_singleton] at hb
    subst hb
    simp only at hk'
    rcases hat with hat | hat
    · exact hne.2.2 a ha (m, u) (List.mem_singleton.2 rfl) k hk (by rw [← hat]; exact hk')
    · have := (own_block (h.own.usr a (List.mem_append.2 (.inl ha))) hk).2.1
      rw [hat] at hk'
      injection hk' with e
      omega
  · refine h.seen.same ?_
    rw [Below.heap_setCell _ _ _ _ (Ne.symm h.hg.2.2)]
    exact hkeep sb h.seen.lt (fun e => h.seen.ne (h.own.usr (m, u) hmu) e rfl)
  · rw [hr.cellAt _ (by omega), mod_snoc, List.getElem?_append_right (by rw [mod_len]; omega), mod_len, show L.length * 6 + 5 - L.length * 6 = 5 from by omega]; rfl

theorem cut_any (s : ByteArray) (c : UInt8) (w : World) (hs : s.size < 4294967281) (hG : GW w) :
    Calls Tryz.prog 23 #[.string s, .string ⟨#[c]⟩] w fun e w' => ∃ (a b : ByteArray) (ok : Bool), e = .returned (.tuple #[.string a, .string b, .bool ok]) ∧ ((ok = true ∧ cut1 c s.data.toList = some (a.data.toList, b.data.toList)) ∨ (ok = false ∧ cut1 c s.data.toList = none)) ∧ Below w.heap.size w w' := by
  obtain ⟨mx, hmx⟩ := hG.max
  refine (Tryz.strings_Cut s ⟨#[c]⟩ mx w hs hmx).mono ?_
  rintro e w' ⟨rfl, n, rfl⟩
  refine ⟨_, _, _, rfl, ?_, below_drewN (Below.refl _ _) n⟩
  rw [show (⟨#[c]⟩ : ByteArray).data.toList = [c] from rfl, lib_cut]
  cases cut1 c s.data.toList with
  | none => exact .inr ⟨rfl, rfl⟩
  | some p => exact .inl ⟨rfl, rfl⟩

theorem name_is (s : ByteArray) (b : Bool) (h : nameB s.data.toList = b) (hs : s.size ≤ 9223372036854775807) (w : World) :
    Calls Tryz.prog 25 #[.string s] w fun e w' => e = .returned (.bool b) ∧ Below w.heap.size w w' := by
  subst h; exact name_any s w hs
theorem infoUser : (Tryz.prog.info? tUser).map (fun i => (i.zero, i.size, i.bytes)) = some (some (.agg #[.string ⟨#[]⟩, .string ⟨#[]⟩]), 2, 32) := by kernel_rfl

theorem two_new (w : World) (a b : Value) (t : TypeId) : ∀ j u, [a, b][j]? = some u → (w.alloc (.cells #[a, b] t)).cell? ((⟨w.heap.size, 0, none⟩ : Addr).add j) = some u := by
  intro j u hj
  match j, hj with
  | 0, hj => simp at hj; subst hj; simp [Addr.add]
  | 1, hj => simp at hj; subst hj; simp [Addr.add]
  | j + 2, hj => simp at hj

set_option maxRecDepth 100000 in
set_option maxHeartbeats 4000000 in
theorem set_user (key value : ByteArray) (w : World) {B g cap sb : Nat} {L : List (Mdl × Value)} {m : Mdl} {u : Value} {S : List Bs} (h : SetIn w B g cap sb L m u S) (hk : key.data.toList = userKey) (hv : value.size < 4294967281) (hu8 : m.users.length ≤ 8) (x : Int × Mdl × List Bs) (hx : setM m S userKey value.data.toList = x) :
    Calls Tryz.prog 26 #[.pointer (some ⟨g, L.length * 6, none⟩), .string key, .string value, .map (some sb)] w (PSet x B g cap sb L w) := by
  obtain ⟨t0, t1, t2, t3, t4⟩ := key_tests hk
  obtain ⟨w1, hup, hb1, h1⟩ := h.said key
  rw [if_pos hk] at h1
  have H1 := Lib.hid h1
  have HB1 := Lib.hid hb1
  have HX : Hid ((match cut1 58 value.data.toList with
    | none => (130, m, S)
    | some (who, secret) =>
      if secret = [] ∨ 16 < secret.length then (130, m, S)
      else if nameB who = false then (131, m, S)
      else if m.users.any (fun u => u.name == who) then (5, m, S)
      else if 8 ≤ m.users.length then (3, m, S)
      else ((0 : Int), { m with users := m.users ++ [⟨who, secret⟩] }, S)) = x) := Lib.hid hx
  clear h1 hk hx h hb1
  have t0' : (key.toList == [117, 115, 101, 114]) = true := t0
  have t1' : (key.toList == [114, 111, 111, 116]) = false := t1
  have t2' : (key.toList == [119, 114, 105, 116, 101]) = false := t2
  have t3' : (key.toList == [115, 108, 111, 116, 115]) = false := t3
  have t4' : (key.toList == [113, 117, 111, 116, 97]) = false := t4
  clear t0 t1 t2 t3 t4
  go_enter Tryz.func26, Tryz.ntmps26
  go_wp2_with fail
  refine (cut_any value 58 _ hv H1.out.gw).mono ?_
  rintro e w2 ⟨who, sec, ok, rfl, hcut, hb2⟩
  have H2 := Lib.hid (H1.out.below hb2)
  have HB2 := Lib.hid (HB1.out.trans (hb2.mono H1.out.hB))
  clear hup hb2 H1 HB1
  rcases hcut with ⟨rfl, hcut⟩ | ⟨rfl, hcut⟩
  · have hcut0 := hcut
    have HX2 : Hid ((if sec.data.toList = [] ∨ 16 < sec.data.toList.length then (130, m, S)
      else if nameB who.data.toList = false then (131, m, S)
      else if m.users.any (fun u => u.name == who.data.toList) then (5, m, S)
      else if 8 ≤ m.users.length then (3, m, S)
      else ((0 : Int), { m with users := m.users ++ [⟨who.data.toList, sec.data.toList⟩] }, S)) = x) := Lib.hid (by have := HX.out; rw [hcut] at this; exact this)
    clear HX hcut
    have HC0 := Lib.hid hcut0
    clear hcut0
    have ds := Lib.size_eq sec
    have di := isEmpty_toList sec
    by_cases e1 : sec.data.toList = []
    · have g1 : sec.toList.isEmpty = true := by rw [di, e1]; rfl
      have HE : Hid (x = (130, m, S)) := Lib.hid (by rw [← HX2.out, if_pos (.inl e1)])
      clear ds di e1
      go_wp2_with fail
      go_ret
      exact ⟨by rw [HE.out]; rfl, HB2.out, fun h => by rw [HE.out] at h; cases h⟩
    · have g1 : sec.toList.isEmpty = false := by rw [di]; simpa using e1
      by_cases e2 : 16 < sec.size
      · have HE : Hid (x = (130, m, S)) := Lib.hid (by rw [← HX2.out, if_pos (.inr (by rw [← ds]; exact e2))])
        clear ds di e1
        go_wp2_with fail
        go_ret
        exact ⟨by rw [HE.out]; rfl, HB2.out, fun h => by rw [HE.out] at h; cases h⟩
      · have HX3 : Hid ((if nameB who.data.toList = false then (131, m, S)
          else if m.users.any (fun u => u.name == who.data.toList) then (5, m, S)
          else if 8 ≤ m.users.length then (3, m, S)
          else ((0 : Int), { m with users := m.users ++ [⟨who.data.toList, sec.data.toList⟩] }, S)) = x) := Lib.hid (by
            have := HX2.out
            rw [if_neg (fun h => h.elim e1 (fun h => e2 (by rw [ds]; exact h)))] at this
            exact this)
        have HWS : who.size ≤ 9223372036854775807 := by
          obtain ⟨_, h2⟩ := cut1_some HC0.out
          have h3 := congrArg List.length h2
          rw [List.length_append, ← Lib.size_eq, ← Lib.size_eq] at h3
          omega
        clear HX2 ds di e1 HC0
        cases hnb : nameB who.data.toList with
        | false =>
          have HE : Hid (x = (131, m, S)) := Lib.hid (by rw [← HX3.out, if_pos hnb])
          have HK := Lib.hid (name_is who false hnb HWS)
          clear hnb
          go_wp2_with fail
          refine (HK.out _).mono ?_
          rintro e w3 ⟨rfl, hb3⟩
          have HB3 := Lib.hid (HB2.out.trans (hb3.mono H2.out.hB))
          clear hb3
          go_wp2_with fail
          go_ret
          exact ⟨by rw [HE.out]; rfl, HB3.out, fun h => by rw [HE.out] at h; cases h⟩
        | true =>
          have HX4 : Hid ((if m.users.any (fun u => u.name == who.data.toList) then (5, m, S)
            else if 8 ≤ m.users.length then (3, m, S)
            else ((0 : Int), { m with users := m.users ++ [⟨who.data.toList, sec.data.toList⟩] }, S)) = x) := Lib.hid (by
              have := HX3.out
              rw [if_neg (by rw [hnb]; decide)] at this
              exact this)
          have HK := Lib.hid (name_is who true hnb HWS)
          clear HX3 hnb
          go_wp2_with fail
          refine (HK.out _).mono ?_
          rintro e w3 ⟨rfl, hb3⟩
          have h3 := H2.out.below hb3
          have HB3 := Lib.hid (HB2.out.trans (hb3.mono H2.out.hB))
          have k0 : w3.cell? ⟨g, L.length * 6, none⟩ = some (.string (bs m.name)) := (h3.own.last 0 (by omega)).1
          have k1 : w3.cell? ⟨g, L.length * 6 + 1, none⟩ = some (.string (bs m.root)) := (h3.own.last 1 (by omega)).1
          have k2 : w3.cell? ⟨g, L.length * 6 + 2, none⟩ = some (.bool m.write) := (h3.own.last 2 (by omega)).1
          have k3 : w3.cell? ⟨g, L.length * 6 + 3, none⟩ = some (.int .i64 m.slots) := (h3.own.last 3 (by omega)).1
          have k4 : w3.cell? ⟨g, L.length * 6 + 4, none⟩ = some (.int .i64 m.quota) := (h3.own.last 4 (by omega)).1
          have k5 : w3.cell? ⟨g, L.length * 6 + 5, none⟩ = some u := (h3.own.last 5 (by omega)).1
          have hru := OwnMods.rdu (h3.own.usr (m, u) (List.mem_append.2 (.inr (List.mem_singleton.2 rfl))))
          obtain ⟨Au, cu, huv, _⟩ := id hru
          simp only at huv
          subst huv
          have HR := Lib.hid hru
          have H3 := Lib.hid h3
          generalize bs m.name = nmv at k0
          generalize bs m.root = rtv at k1
          generalize m.write = wrv at k2
          generalize m.slots = slv at k3
          generalize m.quota = qv at k4
          clear hb3 hru h3 H2 HB2 HK
          go_wp2_with fail
          refine (secret_any nmv rtv wrv slv qv _ m.users who _ HR.out).mono ?_
          rintro e w4 ⟨⟨t, ok, rfl, hsec⟩, hb4⟩
          have h4 := H3.out.below hb4
          have HB4 := Lib.hid (HB3.out.trans (hb4.mono H3.out.hB))
          have k5' : w4.cell? ⟨g, L.length * 6 + 5, none⟩ = some (.slice Au m.users.length cu) := (h4.own.last 5 (by omega)).1
          have H4 := Lib.hid h4
          clear k0 k1 k2 k3 k4 k5 hb4 h4 H3 HB3 HR
          have hany : secretOf m.users who.data.toList = none ↔ m.users.any (fun u => u.name == who.data.toList) = false := by
            unfold secretOf
            rw [Option.map_eq_none_iff, List.find?_eq_none, List.any_eq_false]
          rcases hsec with ⟨rfl, hs1⟩ | ⟨rfl, _, hs1⟩
          · have HE : Hid (x = (5, m, S)) := Lib.hid (by
              have ha : m.users.any (fun u => u.name == who.data.toList) = true := by
                cases hc : m.users.any (fun u => u.name == who.data.toList) with
                | true => rfl
                | false => rw [hany.2 hc] at hs1; cases hs1
              rw [← HX4.out, if_pos ha])
            clear hs1 hany
            go_wp2_with fail
            go_ret
            exact ⟨by rw [HE.out]; rfl, HB4.out, fun h => by rw [HE.out] at h; cases h⟩
          · have HX5 : Hid ((if 8 ≤ m.users.length then (3, m, S)
              else ((0 : Int), { m with users := m.users ++ [⟨who.data.toList, sec.data.toList⟩] }, S)) = x) := Lib.hid (by
                have := HX4.out
                rw [if_neg (by rw [hany.1 hs1]; decide)] at this
                exact this)
            clear hs1 hany HX4
            by_cases e8 : 8 ≤ m.users.length
            · have g8 : ((m.users.length : Int) == 8) = true := by rw [beq_iff_eq]; omega
              have HE : Hid (x = (3, m, S)) := Lib.hid (by rw [← HX5.out, if_pos e8])
              go_wp2_with fail
              go_ret
              exact ⟨by rw [HE.out]; rfl, HB4.out, fun h => by rw [HE.out] at h; cases h⟩
            · have g8 : ((m.users.length : Int) == 8) = false := by rw [beq_eq_false_iff_ne]; omega
              have HE : Hid (x = (0, { m with users := m.users ++ [⟨who.data.toList, sec.data.toList⟩] }, S)) := Lib.hid (by rw [← HX5.out, if_neg e8])
              obtain ⟨i0, hi, hz0, hz1, hz2⟩ := info_parts infoUser
              have HU : Hid (w4.ownsRow B tUser 2 (.slice Au m.users.length cu) m.users.length (usrCells m.users)) := Lib.hid (H4.out.own.usr (m, .slice Au m.users.length cu) (List.mem_append.2 (.inr (List.mem_singleton.2 rfl))))
              have H4B := Lib.hid H4.out.hB
              clear HX5
              go_wp2_with (at_builtin; refine wpList_append_own_at _ rfl _ _ 39 rfl B tUser i0 (.agg #[.string ⟨#[]⟩, .string ⟨#[]⟩]) 2 32 Tryz.underlying39 hi hz0 hz1 hz2 rfl (by decide) _ _ _ rfl (HU.out.alloc _) ⟨w4.heap.size, 0, none⟩ 1 1 [.string who, .string sec] rfl rfl (two_new _ _ _ _) ?c2 ?c3 ?c4 ?c5 ?_)
              case c2 => intro y hy; simp at hy; rcases hy with rfl | rfl <;> rfl
              case c3 => unfold maxLen; omega
              case c4 => omega
              case c5 => have := H4B.out; simp; omega
              intro v' w5 hown' hgrow _ hat
              have hv' : ∃ A' c', v' = .slice A' (m.users.length + 1) c' := by
                rcases hown'.2 with ⟨_, h0⟩ | ⟨g', cap', cur, hv, _⟩
                · omega
                · exact ⟨_, _, hv⟩
              obtain ⟨A', c', rfl⟩ := hv'
              obtain ⟨hS6, hB6, c5, f5⟩ := SetIn.grow (H4.out.below ((Below.refl _ _).alloc (Nat.le_refl _) _)) (m.users ++ [⟨who.data.toList, sec.data.toList⟩]) (by rw [usr_snoc, List.length_append]; exact hown') hgrow (hat.imp_right (fun h => h.trans (by simp)))
              have HS6 := Lib.hid hS6
              have HB6 := Lib.hid (HB4.out.trans (((Below.refl _ _).alloc H4B.out _).trans hB6))
              clear hS6 hB6 hown' hgrow hat HU H4 HB4 hz0 hz1 hz2 hi k5'
              go_wp2_with fail
              go_ret
              exact ⟨by rw [HE.out]; rfl, HB6.out, fun _ => ⟨_, by rw [HE.out]; exact HS6.out⟩⟩
  · have HE : Hid (x = (130, m, S)) := Lib.hid (by have := HX.out; rw [hcut] at this; exact this.symm)
    clear hcut
    go_wp2_with fail
    go_ret
    exact ⟨by rw [HE.out]; rfl, HB2.out, fun h => by rw [HE.out] at h; cases h⟩

/-- set at every key. -/
theorem set_any (key value : ByteArray) (w : World) {B g cap sb : Nat} {L : List (Mdl × Value)} {m : Mdl} {u : Value} {S : List Bs} (h : SetIn w B g cap sb L m u S) (hv : value.size < 4294967281) (hu8 : m.users.length ≤ 8) :
    Calls Tryz.prog 26 #[.pointer (some ⟨g, L.length * 6, none⟩), .string key, .string value, .map (some sb)] w (PSet (setM m S key.data.toList value.data.toList) B g cap sb L w) := by
  by_cases hu : key.data.toList = userKey
  · rw [hu]; exact set_user key value w h hu hv hu8 _ rfl
  · cases hs : S.contains key.data.toList with
    | true =>
      have e : setM m S key.data.toList value.data.toList = (5, m, S) := by
        unfold setM; rw [if_neg (show ¬ key.data.toList = [117, 115, 101, 114] from hu), if_pos hs]
      rw [e]; exact set_twice key value w h hu hs
    | false =>
      have hns : ¬ S.contains key.data.toList = true := by rw [hs]; decide
      by_cases h1 : key.data.toList = kRoot
      · have e : setM m S key.data.toList value.data.toList = if pathOk value.data.toList then (0, { m with root := value.data.toList }, key.data.toList :: S) else (90, m, key.data.toList :: S) := by
          unfold setM; rw [if_neg (show ¬ key.data.toList = [117, 115, 101, 114] from hu), if_neg hns]; exact if_pos h1
        rw [e]; exact set_root key value w h h1 hs hv
      · by_cases h2 : key.data.toList = kWrite
        · have e : setM m S key.data.toList value.data.toList = if value.data.toList = [121, 101, 115] ∨ value.data.toList = [116, 114, 117, 101] then (0, { m with write := true }, key.data.toList :: S) else if value.data.toList = [110, 111] ∨ value.data.toList = [102, 97, 108, 115, 101] then (0, m, key.data.toList :: S) else (130, m, key.data.toList :: S) := by
            unfold setM; rw [if_neg (show ¬ key.data.toList = [117, 115, 101, 114] from hu), if_neg hns, if_neg (show ¬ key.data.toList = [114, 111, 111, 116] from h1)]; exact if_pos h2
          rw [e]; exact set_write key value w h h2 hs
        · by_cases h3 : key.data.toList = kSlots
          · refine set_slots key value w h h3 hs (by omega) _ ?_
            unfold setM; rw [if_neg (show ¬ key.data.toList = [117, 115, 101, 114] from hu), if_neg hns, if_neg (show ¬ key.data.toList = [114, 111, 111, 116] from h1), if_neg (show ¬ key.data.toList = [119, 114, 105, 116, 101] from h2)]; exact (if_pos h3).symm
          · by_cases h4 : key.data.toList = kQuota
            · refine set_quota key value w h h4 hs (by omega) _ ?_
              unfold setM; rw [if_neg (show ¬ key.data.toList = [117, 115, 101, 114] from hu), if_neg hns, if_neg (show ¬ key.data.toList = [114, 111, 111, 116] from h1), if_neg (show ¬ key.data.toList = [119, 114, 105, 116, 101] from h2), if_neg (show ¬ key.data.toList = [115, 108, 111, 116, 115] from h3)]; exact (if_pos h4).symm
            · have e : setM m S key.data.toList value.data.toList = (130, m, key.data.toList :: S) := by
                unfold setM; rw [if_neg (show ¬ key.data.toList = [117, 115, 101, 114] from hu), if_neg hns, if_neg (show ¬ key.data.toList = [114, 111, 111, 116] from h1), if_neg (show ¬ key.data.toList = [119, 114, 105, 116, 101] from h2), if_neg (show ¬ key.data.toList = [115, 108, 111, 116, 115] from h3)]; exact if_neg h4
              rw [e]; exact set_none key value w h hu h1 h2 h3 h4 hs
end Go.Proofs.YtkbamneecfmibaaGreatDoor
