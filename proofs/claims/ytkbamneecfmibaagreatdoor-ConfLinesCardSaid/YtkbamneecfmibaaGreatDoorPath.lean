/- path.sign and path.Check: what they answer. Condition of Check: the variable internal/bytealg.MaxLen holds an int. -/
import Derived.Test.YtkbamneecfmibaaGreatDoorNumb
import Derived.Test.YtkbamneecfmibaaGreatDoorPure2
import Derived.Test.YtkbamneecfmibaaGreatDoorShelf
namespace Go.Proofs.YtkbamneecfmibaaGreatDoor
open Go.RowKit
open C

theorem inR_int {lo hi : Nat} (b : UInt8) : inR lo hi b = (decide ((lo : Int) ≤ (b.toNat : Int)) && decide ((b.toNat : Int) ≤ (hi : Int))) := by
  unfold inR
  congr 1 <;> (rw [decide_eq_decide]; omega)

def signI (x : Int) : Bool := (decide (97 ≤ x) && decide (x ≤ 122)) || (decide (48 ≤ x) && decide (x ≤ 57)) || x == 95 || x == 45 || x == 46
theorem signI_byte (b : UInt8) : signI b.toNat = signB b := by
  unfold signI signB
  rw [inR_int, inR_int]
  have e : ∀ n : Nat, n < 256 → (((b.toNat : Int) == (n : Int)) = (b == UInt8.ofNat n)) := fun n hn => by
    rw [Bool.eq_iff_iff, beq_iff_eq, beq_iff_eq]
    constructor
    · intro h
      have h' : b.toNat = n := by omega
      rw [← h']; simp
    · intro h
      subst h
      simp; omega
  have e1 := e 95 (by omega); have e2 := e 45 (by omega); have e3 := e 46 (by omega)
  simp only [show ((95 : Nat) : Int) = 95 from rfl, show ((45 : Nat) : Int) = 45 from rfl, show ((46 : Nat) : Int) = 46 from rfl] at e1 e2 e3
  rw [e1, e2, e3]; rfl

set_option maxHeartbeats 400000 in
theorem sign_int (x : Int) (w : World) :
    Calls Tryz.prog 75 #[.int .u8 x] w fun e w' => e = .returned (.bool (signI x)) ∧ w = w' := by
  go_enter Tryz.func75, Tryz.ntmps75
  go_wp2
  all_goals
    go_ret
    refine ⟨?_, rfl⟩
    congr 2
    simp [signI, *]
    try omega

/-- What path.Check comes to: nil for a path, else a *Fault; of what was there nothing has turned. -/
def PChk (s : Bs) (w : World) (e : Ending) (w' : World) : Prop :=
  (∃ v, e = .returned v ∧ ((pathOk s = true ∧ v = .nilIface) ∨ (pathOk s = false ∧ ∃ a, v = .iface tFaultP (.pointer (some a))))) ∧ Below w.heap.size w w'

theorem split_any (s : ByteArray) (c : UInt8) (w : World) (hs : s.size < 4294967281) (m : Int) (hm : w.cell? ⟨1, 0, none⟩ = some (.int .i64 m)) :
    Calls Tryz.prog 21 #[.string s, .string ⟨#[c]⟩] w fun e w' => ∃ ps : List ByteArray, ps.map (fun p => p.data.toList) = splitOn c s.data.toList ∧ e = .returned (.slice (some ⟨w.heap.size, 0, none⟩) ps.length ps.length) ∧ w' = w.alloc (.cells (ps.map Value.string).toArray 9) := by
  refine (Tryz.strings_Split s ⟨#[c]⟩ m _ hs hm (by show 1 ≤ 1; omega)).mono ?_
  rintro e w1 ⟨rfl, rfl⟩
  obtain ⟨h1, h2⟩ := splitB_on c s.size s (Nat.le_refl _)
  exact ⟨_, h1, by rw [h2], rfl⟩

theorem isEmpty_toList (p : ByteArray) : p.toList.isEmpty = (p.data.toList == []) := by
  rw [Lib.toList_data]; cases p.data.toList <;> rfl
theorem path_seg {s : Bs} {ps : List ByteArray} (h : ps.map (fun p => p.data.toList) = splitOn 47 s) {k : Nat} (hk : k < ps.length) (hs : segOk ps[k].data.toList = false) : pathOk s = false := by
  have hm : ps[k].data.toList ∈ splitOn 47 s := by rw [← h]; exact List.mem_map.2 ⟨ps[k], List.getElem_mem hk, rfl⟩
  unfold pathOk
  have : (splitOn 47 s).all segOk = false := by
    rw [List.all_eq_false]; exact ⟨_, hm, by simp [hs]⟩
  rw [this, Bool.and_false]
theorem path_deep {s : Bs} {ps : List ByteArray} (h : ps.map (fun p => p.data.toList) = splitOn 47 s) (hk : 6 < ps.length) : pathOk s = false := by
  have hl : (splitOn 47 s).length = ps.length := by rw [← h]; simp
  unfold pathOk
  have : decide ((splitOn 47 s).length ≤ 6) = false := by simp; omega
  rw [this]; simp
theorem path_good {s : Bs} {ps : List ByteArray} (h : ps.map (fun p => p.data.toList) = splitOn 47 s) (h0 : s ≠ []) (h64 : s.length ≤ 64) (hk : ps.length ≤ 6) (hall : ∀ (j : Nat) (hj : j < ps.length), segOk ps[j].data.toList = true) : pathOk s = true := by
  have hl : (splitOn 47 s).length = ps.length := by rw [← h]; simp
  unfold pathOk
  have h1 : (splitOn 47 s).all segOk = true := by
    rw [List.all_eq_true, ← h]
    intro x hx
    obtain ⟨p, hp, rfl⟩ := List.mem_map.1 hx
    obtain ⟨j, hj, rfl⟩ := List.getElem_of_mem hp
    exact hall j hj
  rw [h1]; simp [h0, h64, hl, hk]
theorem seg_sign {p : Bs} {j : Nat} (hj : j < p.length) (h : signB p[j] = false) : segOk p = false := by
  unfold segOk
  have : p.all signB = false := by
    rw [List.all_eq_false]; exact ⟨p[j], List.getElem_mem hj, by simp [h]⟩
  rw [this, Bool.and_false]
theorem seg_long {p : Bs} (h : 16 < p.length) : segOk p = false := by
  unfold segOk
  have : decide (p.length ≤ 16) = false := by simp; omega
  rw [this]; simp
theorem seg_good {p : Bs} (h1 : p ≠ []) (h2 : p ≠ [46]) (h3 : p ≠ [46, 46]) (h4 : p.length ≤ 16) (h5 : ∀ (j : Nat) (hj : j < p.length), signB p[j] = true) : segOk p = true := by
  unfold segOk
  have : p.all signB = true := by
    rw [List.all_eq_true]; intro x hx
    obtain ⟨j, hj, rfl⟩ := List.getElem_of_mem hx
    exact h5 j hj
  rw [this]; simp [h1, h2, h3, h4]
theorem byte_data (p : ByteArray) (j : Nat) (h : j < p.size) : p[j] = p.data.toList[j]'(by rw [← Lib.size_eq]; exact h) := by
  simp; rfl

set_option maxHeartbeats 2000000 in
theorem pcheck_any (s : ByteArray) (w : World) (hs : s.size < 4294967281) (m : Int) (hm : w.cell? ⟨1, 0, none⟩ = some (.int .i64 m)) :
    Calls Tryz.prog 51 #[.string s] w (PChk s.data.toList w) := by
  by_cases h0 : s.data.toList = []
  · have h0' : s.toList.isEmpty = true := by rw [isEmpty_toList, h0]; rfl
    have hf : pathOk s.data.toList = false := by rw [h0]; rfl
    have Hf := Lib.hid hf
    clear h0 hf
    go_enter Tryz.func51, Tryz.ntmps51
    go_wp2_with fail
    go_ret
    exact ⟨⟨_, rfl, .inr ⟨Hf.out, _, rfl⟩⟩, (Below.refl _ _).alloc (Nat.le_refl _) _⟩
  · have h0' : s.toList.isEmpty = false := by rw [isEmpty_toList]; simpa using h0
    have H0 := Lib.hid h0
    clear h0
    by_cases h64 : 64 < s.size
    · have hf : pathOk s.data.toList = false := by
        unfold pathOk
        have : decide (s.data.toList.length ≤ 64) = false := by rw [← Lib.size_eq]; simp; omega
        rw [this]; simp
      have Hf := Lib.hid hf
      clear hf
      go_enter Tryz.func51, Tryz.ntmps51
      go_wp2_with fail
      go_ret
      exact ⟨⟨_, rfl, .inr ⟨Hf.out, _, rfl⟩⟩, (Below.refl _ _).alloc (Nat.le_refl _) _⟩
    · have hl64 : s.data.toList.length ≤ 64 := by rw [← Lib.size_eq]; omega
      have HL := Lib.hid hl64
      clear hl64
      go_enter Tryz.func51, Tryz.ntmps51
      go_wp2_with fail
      refine (split_any s 47 _ hs m hm).mono ?_
      rintro e w1 ⟨ps, hps, rfl, rfl⟩
      have Hps := Lib.hid hps
      clear hps
      have hwb : Below w.heap.size w (w.alloc (.cells (ps.map Value.string).toArray 9)) := (Below.refl _ _).alloc (Nat.le_refl _) _
      have hwz : w.heap.size < (w.alloc (.cells (ps.map Value.string).toArray 9)).heap.size := by simp
      have hcell : ∀ (k : Nat) (hk : k < ps.length), (w.alloc (.cells (ps.map Value.string).toArray 9)).cell? ⟨w.heap.size, k, none⟩ = some (.string ps[k]) := by
        intro k hk
        rw [World.cell?_alloc_at _ _ _ _ rfl]; simp [hk]
      have Hcell := Lib.hid hcell
      clear hcell
      generalize w.alloc (.cells (ps.map Value.string).toArray 9) = W at *
      go_wp2_with fail
      go_loop [3, 4, 5, 6, 23, 52] (fun at_ _ _ _ i _ => ∃ (k : Nat) (a : Int), k ≤ ps.length ∧ k ≤ 6 ∧ i = .int .i64 k ∧ at_ = .int .i64 a ∧ Hid (∀ (j : Nat) (hj : j < ps.length), j < k → segOk ps[j].data.toList = true)) (fun _ _ _ _ i _ => ps.length - (intOf i).toNat)
      case atStart => exact ⟨0, 0, by omega, by omega, rfl, rfl, Lib.hid (fun j hj h => by omega)⟩
      case round =>
        obtain ⟨k, a, hk, hk6, rfl, rfl, hall⟩ := hrel
        by_cases hlt : k < ps.length
        · have hc := Hcell.out k hlt
          have Hs : Hid (segOk ps[k].data.toList = false → pathOk s.data.toList = false) := Lib.hid (fun h => path_seg Hps.out hlt h)
          have Hnext : Hid (segOk ps[k].data.toList = true → ∀ (j : Nat) (hj : j < ps.length), j < k + 1 → segOk ps[j].data.toList = true) := Lib.hid (fun h j hj hjk => by
            by_cases e : j = k
            · subst e; exact h
            · exact hall.out j hj (by omega))
          generalize ps[k] = p at hc Hs Hnext
          by_cases c6 : k = 6
          · have c6' : ((k : Int) == 6) = true := by rw [beq_iff_eq]; omega
            have Hf : Hid (pathOk s.data.toList = false) := Lib.hid (path_deep Hps.out (by omega))
            clear c6
            go_wp2_with fail
            go_ret
            exact ⟨⟨_, rfl, .inr ⟨Hf.out, _, rfl⟩⟩, hwb.alloc (by omega) _⟩
          · have c6' : ((k : Int) == 6) = false := by rw [beq_eq_false_iff_ne]; omega
            have c6s : k < 6 := by omega
            have d1 : p.toList.isEmpty = (p.data.toList == []) := isEmpty_toList p
            have d2 : (p.toList == [46]) = (p.data.toList == [46]) := by rw [Lib.toList_data]
            have d3 : (p.toList == [46, 46]) = (p.data.toList == [46, 46]) := by rw [Lib.toList_data]
            have dl := Lib.size_eq p
            by_cases e1 : p.data.toList = []
            · have g1 : p.toList.isEmpty = true := by rw [d1, e1]; rfl
              have g2 : (p.toList == [46]) = false := by rw [d2, e1]; rfl
              have g3 : (p.toList == [46, 46]) = false := by rw [d3, e1]; rfl
              have g4 : p.size ≤ 16 := by rw [dl, e1]; simp
              have g5 : ¬ 16 < p.size := by omega
              have Hf : Hid (pathOk s.data.toList = false) := Lib.hid (Hs.out (by rw [e1]; rfl))
              clear d1 d2 d3 dl e1 c6
              go_wp2_with fail
              go_ret
              exact ⟨⟨_, rfl, .inr ⟨Hf.out, _, rfl⟩⟩, hwb.alloc (by omega) _⟩
            · have g1 : p.toList.isEmpty = false := by rw [d1]; simpa using e1
              by_cases e2 : p.data.toList = [46]
              · have g2 : (p.toList == [46]) = true := by rw [d2, e2]; rfl
                have g3 : (p.toList == [46, 46]) = false := by rw [d3, e2]; rfl
                have g4 : p.size ≤ 16 := by rw [dl, e2]; simp
                have Hf : Hid (pathOk s.data.toList = false) := Lib.hid (Hs.out (by rw [e2]; rfl))
                clear d1 d2 d3 dl e1 e2 c6
                go_wp2_with fail
                go_ret
                exact ⟨⟨_, rfl, .inr ⟨Hf.out, _, rfl⟩⟩, hwb.alloc (by omega) _⟩
              · have g2 : (p.toList == [46]) = false := by rw [d2]; simpa using e2
                by_cases e3 : p.data.toList = [46, 46]
                · have g3 : (p.toList == [46, 46]) = true := by rw [d3, e3]; rfl
                  have g4 : p.size ≤ 16 := by rw [dl, e3]; simp
                  have Hf : Hid (pathOk s.data.toList = false) := Lib.hid (Hs.out (by rw [e3]; rfl))
                  clear d1 d2 d3 dl e1 e2 e3 c6
                  go_wp2_with fail
                  go_ret
                  exact ⟨⟨_, rfl, .inr ⟨Hf.out, _, rfl⟩⟩, hwb.alloc (by omega) _⟩
                · have g3 : (p.toList == [46, 46]) = false := by rw [d3]; simpa using e3
                  by_cases e4 : 16 < p.size
                  · have Hf : Hid (pathOk s.data.toList = false) := Lib.hid (Hs.out (seg_long (by rw [← dl]; exact e4)))
                    clear d1 d2 d3 dl e1 e2 e3 c6
                    go_wp2_with fail
                    go_ret
                    exact ⟨⟨_, rfl, .inr ⟨Hf.out, _, rfl⟩⟩, hwb.alloc (by omega) _⟩
                  · have e4' : p.size ≤ 16 := by omega
                    have Hgood : Hid ((∀ (j : Nat) (hj : j < p.data.toList.length), signB p.data.toList[j] = true) → segOk p.data.toList = true) := Lib.hid (fun h => seg_good e1 e2 e3 (by rw [← dl]; exact e4') h)
                    have Hd := Lib.hid dl
                    clear d1 d2 d3 dl e1 e2 e3 c6 e4
                    go_wp2_with fail
                    go_loop [6, 52] (fun _ i => ∃ j : Nat, j ≤ p.size ∧ i = .int .i64 j ∧ Hid (∀ (q : Nat) (hq : q < p.data.toList.length), q < j → signB p.data.toList[q] = true)) (fun _ i => p.size - (intOf i).toNat)
                    case atStart => exact ⟨0, by omega, rfl, Lib.hid (fun q hq h => by omega)⟩
                    case round =>
                      obtain ⟨j, hj, rfl, hq⟩ := hrel
                      by_cases hjl : j < p.size
                      · have hjd : j < p.data.toList.length := by rw [← Hd.out]; exact hjl
                        have eb : signI ((p[j]'hjl).toNat : Int) = signB p.data.toList[j] := by rw [signI_byte, byte_data p j hjl]
                        by_cases hsg : signI ((p[j]'hjl).toNat : Int) = true
                        · have Hj : Hid (signB p.data.toList[j] = true) := Lib.hid (by rw [← eb]; exact hsg)
                          clear eb
                          go_wp2_with (go_at_call 75; refine (sign_int _ _).mono ?_; rintro e w' ⟨rfl, rfl⟩)
                          go_round
                          case rel => exact ⟨j + 1, by omega, by go_num, Lib.hid (fun q hql hqj => by
                            by_cases e : q = j
                            · subst e; exact Hj.out
                            · exact hq.out q hql (by omega))⟩
                          case measure => simp [intOf]; omega
                        · have hsg' : signI ((p[j]'hjl).toNat : Int) = false := by simpa using hsg
                          have Hf : Hid (pathOk s.data.toList = false) := Lib.hid (Hs.out (seg_sign hjd (by rw [← eb]; exact hsg')))
                          clear eb hsg
                          go_wp2_with (go_at_call 75; refine (sign_int _ _).mono ?_; rintro e w' ⟨rfl, rfl⟩)
                          go_ret
                          exact ⟨⟨_, rfl, .inr ⟨Hf.out, _, rfl⟩⟩, hwb.alloc (by omega) _⟩
                      · have Hk := Lib.hid (Hnext.out (Hgood.out (fun q hql => hq.out q hql (by have := Hd.out; omega))))
                        go_wp2_with fail
                        go_round
                        case rel => exact ⟨k + 1, _, by omega, by omega, by go_num, rfl, Hk⟩
                        case measure => simp [intOf]; omega
        · have Ht : Hid (pathOk s.data.toList = true) := Lib.hid (path_good Hps.out H0.out HL.out (by omega) (fun j hj => hall.out j hj (by omega)))
          go_wp2_with fail
          go_ret
          exact ⟨⟨_, rfl, .inl ⟨Ht.out, rfl⟩⟩, hwb⟩
end Go.Proofs.YtkbamneecfmibaaGreatDoor
