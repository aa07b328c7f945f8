/- What the proof asks of the package-level variables (GW), and conf.number. Conditions: GW. -/
import Derived.Test.YtkbamneecfmibaaGreatDoorName
import Derived.Test.YtkbamneecfmibaaGreatDoorPure3
import Derived.WalkSmall
import Derived.Lib.AppendIntMem
import Derived.Lib.AtoiErrMem
import Derived.Lib.LaidTab
namespace Go.Proofs.YtkbamneecfmibaaGreatDoor
open Go.RowKit
open C

/-- The package-level variables hold what the program's text lays. -/
structure GW (w : World) : Prop where
  err : ErrT w
  max : ∃ m : Int, w.cell? ⟨1, 0, none⟩ = some (.int .i64 m)
  pow : Lib.TabIs Tryz.prog w "internal/strconv.uint64pow10" .u64 Lib.pow10Tab
  syn : ∃ (tp : TypeId) (p : Value), w.var? Tryz.prog "strconv.ErrSyntax" = some #[.iface tp p]
  ran : ∃ (tp : TypeId) (p : Value), w.var? Tryz.prog "strconv.ErrRange" = some #[.iface tp p]

theorem var_lt {w : World} {n : String} {g : Nat} {cs : Array Value} (hg : Tryz.prog.globalNamed n = some g) (h : w.var? Tryz.prog n = some cs) : g < w.heap.size := by
  unfold World.var? at h
  rw [hg] at h
  rcases Nat.lt_or_ge g w.heap.size with hlt | hge
  · exact hlt
  · simp [Array.getElem?_eq_none hge] at h
theorem GW.below {w w1 : World} (h : GW w) (hb : Below w.heap.size w w1) : GW w1 := by
  obtain ⟨h1, ⟨m, h2⟩, h3, ⟨tp, p, h4⟩, ⟨tq, q, h5⟩⟩ := h
  have g4 : Tryz.prog.globalNamed "internal/strconv.uint64pow10" = some 4 := by kernel_rfl
  have g5 : Tryz.prog.globalNamed "strconv.ErrSyntax" = some 5 := by kernel_rfl
  have g6 : Tryz.prog.globalNamed "strconv.ErrRange" = some 6 := by kernel_rfl
  exact ⟨h1.below hb, ⟨m, Below.cell_some hb (Nat.le_refl _) h2⟩, var?_below hb g4 (var_lt g4 h3) h3, ⟨tp, p, var?_below hb g5 (var_lt g5 h4) h4⟩, ⟨tq, q, var?_below hb g6 (var_lt g6 h5) h5⟩⟩

/-- How strconv.Atoi ends, for the walk: (n, nil), or (n, an error that is not nil). -/
theorem atoi_any (s : ByteArray) (w : World) (hs : s.size ≤ 281474976710656) (hG : GW w) :
    Calls Tryz.prog 76 #[.string s] w fun e w' => (∃ (n : Int) (ev : Value), e = .returned (.tuple #[.int .i64 n, ev]) ∧ ((ev = .nilIface ∧ Lib.atoiAll s.data.toList = .ok n) ∨ ((∃ t p, ev = .iface t p) ∧ ∀ v, Lib.atoiAll s.data.toList ≠ .ok v))) ∧ Below w.heap.size w w' := by
  obtain ⟨tp, p, h4⟩ := hG.syn
  obtain ⟨tq, q, h5⟩ := hG.ran
  cases h : Lib.atoiAll s.data.toList
  · rename_i v
    refine (Tryz.strconv_Atoi_ok s (by omega) v h w).mono ?_
    rintro e w' ⟨rfl, hw⟩
    refine ⟨⟨v, _, rfl, .inl ⟨rfl, rfl⟩⟩, ?_⟩
    rcases hw with rfl | ⟨t, rfl⟩
    · exact Below.refl _ _
    · exact Lib.bytesWorld_below _ _ _
  · refine (Tryz.strconv_Atoi_syntax_var s hs h tp p w h4).mono ?_
    rintro e w' ⟨N, rfl, _, _, hb⟩
    exact ⟨⟨_, _, rfl, .inr ⟨⟨_, _, rfl⟩, fun v e => by cases e⟩⟩, hb⟩
  · refine (Tryz.strconv_Atoi_range_var s hs h tq q w h5).mono ?_
    rintro e w' ⟨N, rfl, _, _, hb⟩
    exact ⟨⟨_, _, rfl, .inr ⟨⟨_, _, rfl⟩, fun v e => by cases e⟩⟩, hb⟩
theorem atoi_int {l : Bs} {n : Int} (h : Lib.atoiAll l = .ok n) : -9223372036854775808 ≤ n ∧ n ≤ 9223372036854775807 := by
  unfold Lib.atoiAll at h
  split at h
  · cases h
  · simp only at h
    split at h
    · cases h
    · cases h
    · split at h
      · cases h
      · split at h
        · cases h
        · injection h with h
          subst h
          split <;> omega
theorem itoa_any (n : Int) (h0 : -9223372036854775808 ≤ n) (h1 : n ≤ 9223372036854775807) (w : World) (hG : GW w) :
    Calls Tryz.prog 38 #[.int .i64 n] w fun e w' => ∃ t : ByteArray, t.data.toList = Lib.itoa n ∧ e = .returned (.string t) ∧ Below w.heap.size w w' := by
  refine (Tryz.strconv_Itoa n h0 h1 w hG.pow).mono ?_
  rintro e w' ⟨rfl, k, os, rfl⟩
  exact ⟨_, rfl, rfl, Lib.below_grow _ _ (Nat.le_refl _) _ _⟩

/-- What conf.number comes to. -/
def PNum (s : Bs) (lo hi : Int) (w : World) (e : Ending) (w' : World) : Prop :=
  (∃ (n : Int) (ok : Bool), e = .returned (.tuple #[.int .i64 n, .bool ok]) ∧ ((ok = true ∧ numR s = n ∧ lo ≤ n ∧ n ≤ hi) ∨ (ok = false ∧ ¬ (lo ≤ numR s ∧ numR s ≤ hi)))) ∧ Below w.heap.size w w'

theorem num_no {s : Bs} {n : Int} (lo hi : Int) (h0 : 0 ≤ lo) (h : Lib.atoiAll s = .ok n) (hno : ¬ (Lib.itoa n = s ∧ lo ≤ n ∧ n ≤ hi)) : ¬ (lo ≤ numR s ∧ numR s ≤ hi) := by
  rintro ⟨h1, h2⟩
  obtain ⟨h3, h4⟩ := num_atoi (s := s) (by omega)
  rw [h] at h3
  injection h3 with h3
  subst h3
  exact hno ⟨h4, h1, h2⟩

set_option maxHeartbeats 1000000 in
theorem number_conf (s : ByteArray) (lo hi : Int) (w : World) (hs : s.size ≤ 281474976710656) (hG : GW w) (hlo : 0 ≤ lo) (hhi : hi ≤ 262144) :
    Calls Tryz.prog 52 #[.string s, .int .i64 lo, .int .i64 hi] w (PNum s.data.toList lo hi w) := by
  have HG := Lib.hid hG
  clear hG
  go_enter Tryz.func52, Tryz.ntmps52
  go_wp2_with fail
  refine (atoi_any s _ hs HG.out).mono ?_
  rintro e w1 ⟨⟨n, ev, rfl, hev⟩, hb1⟩
  have HG1 := Lib.hid (HG.out.below hb1)
  rcases hev with ⟨rfl, hok⟩ | ⟨⟨t, p, rfl⟩, hno⟩
  · have HI := Lib.hid (atoi_int hok)
    have HOK := Lib.hid hok
    clear hok
    go_wp2_with fail
    refine (itoa_any n HI.out.1 HI.out.2 _ HG1.out).mono ?_
    rintro e w2 ⟨t, ht, rfl, hb2⟩
    have HT := Lib.hid ht
    clear ht
    by_cases c1 : Lib.itoa n = s.data.toList
    · have t1 : (t.toList == s.toList) = true := by rw [Lib.toList_data, Lib.toList_data, HT.out]; simpa using c1
      have C1 := Lib.hid c1
      clear c1
      by_cases c2 : lo ≤ n
      · by_cases c3 : n ≤ hi
        · go_wp2
          go_ret2
          exact ⟨⟨_, _, rfl, .inl ⟨by simp [*], itoa_num C1.out (by omega) (by omega), c2, c3⟩⟩, hb1.trans (hb2.mono hb1.size)⟩
        · go_wp2
          go_ret2
          exact ⟨⟨_, _, rfl, .inr ⟨by simp [*], num_no lo hi hlo HOK.out (fun h => by have := h.2.2; omega)⟩⟩, hb1.trans (hb2.mono hb1.size)⟩
      · go_wp2
        go_ret2
        exact ⟨⟨_, _, rfl, .inr ⟨by simp [*], num_no lo hi hlo HOK.out (fun h => by have := h.2.1; omega)⟩⟩, hb1.trans (hb2.mono hb1.size)⟩
    · have t1 : (t.toList == s.toList) = false := by rw [Lib.toList_data, Lib.toList_data, HT.out]; simpa using c1
      have C1 := Lib.hid c1
      clear c1
      go_wp2
      go_ret2
      exact ⟨⟨_, _, rfl, .inr ⟨by simp [*], num_no lo hi hlo HOK.out (fun h => C1.out h.1)⟩⟩, hb1.trans (hb2.mono hb1.size)⟩
  · have HNO := Lib.hid hno
    clear hno
    go_wp2_with fail
    go_ret2
    refine ⟨⟨_, _, rfl, .inr ⟨by simp [*], ?_⟩⟩, hb1⟩
    rintro ⟨h1, h2⟩
    exact HNO.out _ (num_atoi (s := s.data.toList) (by omega)).1
end Go.Proofs.YtkbamneecfmibaaGreatDoor
