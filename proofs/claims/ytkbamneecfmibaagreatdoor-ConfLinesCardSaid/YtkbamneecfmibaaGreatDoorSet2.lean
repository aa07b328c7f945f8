/- (*conf.Module).set at the keys write, slots, quota, and at keys that are none. Conditions: GW; the module is the last one of a row of the call's own. -/
import Derived.Test.YtkbamneecfmibaaGreatDoorSet
namespace Go.Proofs.YtkbamneecfmibaaGreatDoor
open Go.RowKit
open C

theorem val_tests (v : ByteArray) : (v.toList == [121, 101, 115]) = (v.data.toList == [121, 101, 115]) ∧ (v.toList == [116, 114, 117, 101]) = (v.data.toList == [116, 114, 117, 101]) ∧ (v.toList == [110, 111]) = (v.data.toList == [110, 111]) ∧ (v.toList == [102, 97, 108, 115, 101]) = (v.data.toList == [102, 97, 108, 115, 101]) := by
  rw [Lib.toList_data]; exact ⟨rfl, rfl, rfl, rfl⟩

set_option maxRecDepth 100000 in
set_option maxHeartbeats 2000000 in
theorem set_write (key value : ByteArray) (w : World) {B g cap sb : Nat} {L : List (Mdl × Value)} {m : Mdl} {u : Value} {S : List Bs} (h : SetIn w B g cap sb L m u S) (hk : key.data.toList = kWrite) (hs : S.contains key.data.toList = false) :
    Calls Tryz.prog 26 #[.pointer (some ⟨g, L.length * 6, none⟩), .string key, .string value, .map (some sb)] w (PSet (if value.data.toList = [121, 101, 115] ∨ value.data.toList = [116, 114, 117, 101] then (0, { m with write := true }, key.data.toList :: S) else if value.data.toList = [110, 111] ∨ value.data.toList = [102, 97, 108, 115, 101] then (0, m, key.data.toList :: S) else (130, m, key.data.toList :: S)) B g cap sb L w) := by
  have hne : key.data.toList ≠ userKey := by rw [hk]; decide
  have hl := seen_look w sb S key h.seen hne
  rw [hs] at hl
  obtain ⟨t0, t1, t2, _, _⟩ := key_tests hk
  obtain ⟨w1, hup, hb1, h1⟩ := h.said key
  rw [if_neg hne] at h1
  obtain ⟨c1, f1⟩ := h1.own.last 2 (by omega)
  have c1' : w1.cell? ⟨g, L.length * 6 + 2, none⟩ = some (.bool m.write) := c1
  obtain ⟨h2, hb2⟩ := h1.put (m' := { m with write := true }) 2 (by omega) (.bool true) rfl rfl
  have H1 := Lib.hid h1
  have HB1 := Lib.hid hb1
  have H2 := Lib.hid h2
  have HB := Lib.hid (hb1.trans hb2)
  generalize m.write = oldw at c1'
  clear c1 h1 h2 hb2 hk hs hne h hb1
  have t0' : (key.toList == [117, 115, 101, 114]) = false := t0
  have t1' : (key.toList == [114, 111, 111, 116]) = false := t1
  have t2' : (key.toList == [119, 114, 105, 116, 101]) = true := t2
  clear t0 t1 t2
  obtain ⟨v1, v2, v3, v4⟩ := val_tests value
  by_cases e1 : value.data.toList = [121, 101, 115]
  · have g1 : (value.toList == [121, 101, 115]) = true := by rw [v1, e1]; rfl
    have g2 : (value.toList == [116, 114, 117, 101]) = false := by rw [v2, e1]; rfl
    have g3 : (value.toList == [110, 111]) = false := by rw [v3, e1]; rfl
    have g4 : (value.toList == [102, 97, 108, 115, 101]) = false := by rw [v4, e1]; rfl
    rw [if_pos (.inl e1)]
    clear v1 v2 v3 v4 e1
    go_enter Tryz.func26, Tryz.ntmps26
    go_wp2_with fail
    go_ret
    exact ⟨rfl, HB.out, fun _ => ⟨u, H2.out⟩⟩
  · have g1 : (value.toList == [121, 101, 115]) = false := by rw [v1]; simpa using e1
    by_cases e2 : value.data.toList = [116, 114, 117, 101]
    · have g2 : (value.toList == [116, 114, 117, 101]) = true := by rw [v2, e2]; rfl
      have g3 : (value.toList == [110, 111]) = false := by rw [v3, e2]; rfl
      have g4 : (value.toList == [102, 97, 108, 115, 101]) = false := by rw [v4, e2]; rfl
      rw [if_pos (.inr e2)]
      clear v1 v2 v3 v4 e1 e2
      go_enter Tryz.func26, Tryz.ntmps26
      go_wp2_with fail
      go_ret
      exact ⟨rfl, HB.out, fun _ => ⟨u, H2.out⟩⟩
    · have g2 : (value.toList == [116, 114, 117, 101]) = false := by rw [v2]; simpa using e2
      rw [if_neg (fun h => h.elim e1 e2)]
      by_cases e3 : value.data.toList = [110, 111]
      · have g3 : (value.toList == [110, 111]) = true := by rw [v3, e3]; rfl
        have g4 : (value.toList == [102, 97, 108, 115, 101]) = false := by rw [v4, e3]; rfl
        rw [if_pos (.inl e3)]
        clear v1 v2 v3 v4 e1 e2 e3
        go_enter Tryz.func26, Tryz.ntmps26
        go_wp2_with fail
        go_ret
        exact ⟨rfl, HB1.out, fun _ => ⟨u, H1.out⟩⟩
      · have g3 : (value.toList == [110, 111]) = false := by rw [v3]; simpa using e3
        by_cases e4 : value.data.toList = [102, 97, 108, 115, 101]
        · have g4 : (value.toList == [102, 97, 108, 115, 101]) = true := by rw [v4, e4]; rfl
          rw [if_pos (.inr e4)]
          clear v1 v2 v3 v4 e1 e2 e3 e4
          go_enter Tryz.func26, Tryz.ntmps26
          go_wp2_with fail
          go_ret
          exact ⟨rfl, HB1.out, fun _ => ⟨u, H1.out⟩⟩
        · have g4 : (value.toList == [102, 97, 108, 115, 101]) = false := by rw [v4]; simpa using e4
          rw [if_neg (fun h => h.elim e3 e4)]
          clear v1 v2 v3 v4 e1 e2 e3 e4
          go_enter Tryz.func26, Tryz.ntmps26
          go_wp2_with fail
          go_ret
          exact ⟨rfl, HB1.out, fun h => by cases h⟩

set_option maxRecDepth 100000 in
set_option maxHeartbeats 2000000 in
theorem set_slots (key value : ByteArray) (w : World) {B g cap sb : Nat} {L : List (Mdl × Value)} {m : Mdl} {u : Value} {S : List Bs} (h : SetIn w B g cap sb L m u S) (hk : key.data.toList = kSlots) (hs : S.contains key.data.toList = false) (hv : value.size ≤ 281474976710656) (x : Int × Mdl × List Bs) (hx : (if 1 ≤ numR value.data.toList ∧ numR value.data.toList ≤ 16 then (0, { m with slots := numR value.data.toList }, key.data.toList :: S) else (130, m, key.data.toList :: S)) = x) :
    Calls Tryz.prog 26 #[.pointer (some ⟨g, L.length * 6, none⟩), .string key, .string value, .map (some sb)] w (PSet x B g cap sb L w) := by
  have hne : key.data.toList ≠ userKey := by rw [hk]; decide
  have hl := seen_look w sb S key h.seen hne
  rw [hs] at hl
  obtain ⟨t0, t1, t2, t3, _⟩ := key_tests hk
  obtain ⟨w1, hup, hb1, h1⟩ := h.said key
  rw [if_neg hne] at h1
  have H1 := Lib.hid h1
  have HB1 := Lib.hid hb1
  clear h1 hk hs hne h hb1
  have t0' : (key.toList == [117, 115, 101, 114]) = false := t0
  have t1' : (key.toList == [114, 111, 111, 116]) = false := t1
  have t2' : (key.toList == [119, 114, 105, 116, 101]) = false := t2
  have t3' : (key.toList == [115, 108, 111, 116, 115]) = true := t3
  clear t0 t1 t2 t3
  have HX := Lib.hid hx
  clear hx
  go_enter Tryz.func26, Tryz.ntmps26
  go_wp2_with fail
  refine (number_conf value 1 16 _ hv H1.out.gw (by omega) (by omega)).mono ?_
  rintro e w2 ⟨⟨n, ok, rfl, hn⟩, hb2⟩
  have h2 := H1.out.below hb2
  obtain ⟨c1, f1⟩ := h2.own.last 3 (by omega)
  have c1' : w2.cell? ⟨g, L.length * 6 + 3, none⟩ = some (.int .i64 m.slots) := c1
  obtain ⟨h3, hb3⟩ := h2.put (m' := { m with slots := n }) 3 (by omega) (.int .i64 n) rfl rfl
  generalize m.slots = olds at c1'
  have H3 := Lib.hid h3
  have HB3 := Lib.hid ((HB1.out.trans (hb2.mono H1.out.hB)).trans hb3)
  clear c1 h2 h3 hb2 hb3 hup hl
  rcases hn with ⟨rfl, hnum, hlo, hhi⟩ | ⟨rfl, hno⟩
  · have HE : Hid (x = (0, { m with slots := n }, key.data.toList :: S)) := Lib.hid (by rw [← HX.out, hnum, if_pos ⟨hlo, hhi⟩])
    clear hlo hhi hnum
    go_wp2_with fail
    go_ret
    exact ⟨by rw [HE.out]; rfl, HB3.out, fun _ => ⟨u, by rw [HE.out]; exact H3.out⟩⟩
  · have HE : Hid (x = (130, m, key.data.toList :: S)) := Lib.hid (by rw [← HX.out, if_neg hno])
    clear hno
    go_wp2_with fail
    go_ret
    exact ⟨by rw [HE.out]; rfl, HB3.out, fun h => by rw [HE.out] at h; cases h⟩

set_option maxRecDepth 100000 in
set_option maxHeartbeats 2000000 in
theorem set_quota (key value : ByteArray) (w : World) {B g cap sb : Nat} {L : List (Mdl × Value)} {m : Mdl} {u : Value} {S : List Bs} (h : SetIn w B g cap sb L m u S) (hk : key.data.toList = kQuota) (hs : S.contains key.data.toList = false) (hv : value.size ≤ 281474976710656) (x : Int × Mdl × List Bs) (hx : (if 0 ≤ numR value.data.toList ∧ numR value.data.toList ≤ 262144 then (0, { m with quota := numR value.data.toList }, key.data.toList :: S) else (130, m, key.data.toList :: S)) = x) :
    Calls Tryz.prog 26 #[.pointer (some ⟨g, L.length * 6, none⟩), .string key, .string value, .map (some sb)] w (PSet x B g cap sb L w) := by
  have hne : key.data.toList ≠ userKey := by rw [hk]; decide
  have hl := seen_look w sb S key h.seen hne
  rw [hs] at hl
  obtain ⟨t0, t1, t2, t3, t4⟩ := key_tests hk
  obtain ⟨w1, hup, hb1, h1⟩ := h.said key
  rw [if_neg hne] at h1
  have H1 := Lib.hid h1
  have HB1 := Lib.hid hb1
  clear h1 hk hs hne h hb1
  have t0' : (key.toList == [117, 115, 101, 114]) = false := t0
  have t1' : (key.toList == [114, 111, 111, 116]) = false := t1
  have t2' : (key.toList == [119, 114, 105, 116, 101]) = false := t2
  have t3' : (key.toList == [115, 108, 111, 116, 115]) = false := t3
  have t4' : (key.toList == [113, 117, 111, 116, 97]) = true := t4
  clear t0 t1 t2 t3 t4
  have HX := Lib.hid hx
  clear hx
  go_enter Tryz.func26, Tryz.ntmps26
  go_wp2_with fail
  refine (number_conf value 0 262144 _ hv H1.out.gw (by omega) (by omega)).mono ?_
  rintro e w2 ⟨⟨n, ok, rfl, hn⟩, hb2⟩
  have h2 := H1.out.below hb2
  obtain ⟨c1, f1⟩ := h2.own.last 4 (by omega)
  have c1' : w2.cell? ⟨g, L.length * 6 + 4, none⟩ = some (.int .i64 m.quota) := c1
  obtain ⟨h3, hb3⟩ := h2.put (m' := { m with quota := n }) 4 (by omega) (.int .i64 n) rfl rfl
  generalize m.quota = olds at c1'
  have H3 := Lib.hid h3
  have HB3 := Lib.hid ((HB1.out.trans (hb2.mono H1.out.hB)).trans hb3)
  clear c1 h2 h3 hb2 hb3 hup hl
  rcases hn with ⟨rfl, hnum, hlo, hhi⟩ | ⟨rfl, hno⟩
  · have HE : Hid (x = (0, { m with quota := n }, key.data.toList :: S)) := Lib.hid (by rw [← HX.out, hnum, if_pos ⟨hlo, hhi⟩])
    clear hlo hhi hnum
    go_wp2_with fail
    go_ret
    exact ⟨by rw [HE.out]; rfl, HB3.out, fun _ => ⟨u, by rw [HE.out]; exact H3.out⟩⟩
  · have HE : Hid (x = (130, m, key.data.toList :: S)) := Lib.hid (by rw [← HX.out, if_neg hno])
    clear hno
    go_wp2_with fail
    go_ret
    exact ⟨by rw [HE.out]; rfl, HB3.out, fun h => by rw [HE.out] at h; cases h⟩

set_option maxRecDepth 100000 in
set_option maxHeartbeats 2000000 in
theorem set_none (key value : ByteArray) (w : World) {B g cap sb : Nat} {L : List (Mdl × Value)} {m : Mdl} {u : Value} {S : List Bs} (h : SetIn w B g cap sb L m u S) (hu : key.data.toList ≠ userKey) (h1 : key.data.toList ≠ kRoot) (h2 : key.data.toList ≠ kWrite) (h3 : key.data.toList ≠ kSlots) (h4 : key.data.toList ≠ kQuota) (hs : S.contains key.data.toList = false) :
    Calls Tryz.prog 26 #[.pointer (some ⟨g, L.length * 6, none⟩), .string key, .string value, .map (some sb)] w (PSet (130, m, key.data.toList :: S) B g cap sb L w) := by
  have hl := seen_look w sb S key h.seen hu
  rw [hs] at hl
  obtain ⟨t0, t1, t2, t3, t4⟩ := key_tests (key := key) rfl
  obtain ⟨w1, hup, hb1, hin⟩ := h.said key
  have t0' : (key.toList == [117, 115, 101, 114]) = false := by rw [t0]; simpa using hu
  have t1' : (key.toList == [114, 111, 111, 116]) = false := by rw [t1]; simpa using h1
  have t2' : (key.toList == [119, 114, 105, 116, 101]) = false := by rw [t2]; simpa using h2
  have t3' : (key.toList == [115, 108, 111, 116, 115]) = false := by rw [t3]; simpa using h3
  have t4' : (key.toList == [113, 117, 111, 116, 97]) = false := by rw [t4]; simpa using h4
  have HB1 := Lib.hid hb1
  clear t0 t1 t2 t3 t4 h hin hb1 hs hu h1 h2 h3 h4
  go_enter Tryz.func26, Tryz.ntmps26
  go_wp2_with fail
  go_ret
  exact ⟨rfl, HB1.out, fun h => by cases h⟩
end Go.Proofs.YtkbamneecfmibaaGreatDoor
