/- conf.name: is a text a name. No conditions. -/
import Derived.Test.YtkbamneecfmibaaGreatDoorPath
import Derived.Lib.OthersKept
namespace Go.Proofs.YtkbamneecfmibaaGreatDoor
open Go.RowKit
open C

def alnumI (x : Int) : Bool := (decide (97 ≤ x) && decide (x ≤ 122)) || (decide (65 ≤ x) && decide (x ≤ 90)) || (decide (48 ≤ x) && decide (x ≤ 57))
theorem alnumI_byte (b : UInt8) : alnumI b.toNat = alnumB b := by
  unfold alnumI alnumB
  rw [inR_int, inR_int, inR_int]; rfl
theorem decode_wide (s : ByteArray) (pos : Nat) (h : pos < s.size) (hb : 128 ≤ (s[pos]'h).toNat) : 128 ≤ (Utf8.decode s pos).1 := by
  have e : s.get! (pos + 0) = s[pos]'h := by
    show s.get! pos = _
    simp [ByteArray.get!, getElem!_pos, h]
    rfl
  have hh : ∀ k, (s.get! (pos + k)).toNat < 256 := fun k => (s.get! (pos + k)).toNat_lt
  have h0 := hh 0; have h1 := hh 1; have h2 := hh 2; have h3 := hh 3
  rw [← e] at hb
  simp only [Utf8.decode]
  repeat' split
  all_goals simp_all [Utf8.runeError]
  all_goals omega

theorem name_bad {s : ByteArray} {pos : Nat} (h : pos < s.size) (hb : alnumB (s[pos]'h) = false) : nameB s.data.toList = false := by
  unfold nameB
  have : s.data.toList.all alnumB = false := by
    rw [List.all_eq_false]
    exact ⟨s.data.toList[pos]'(by rw [← Lib.size_eq]; exact h), List.getElem_mem _, by rw [← byte_data s pos h]; simp [hb]⟩
  rw [this, Bool.and_false]
theorem name_good {s : ByteArray} (h0 : s.data.toList ≠ []) (h16 : s.size ≤ 16) (hall : ∀ (q : Nat) (hq : q < s.size), alnumB (s[q]'hq) = true) : nameB s.data.toList = true := by
  unfold nameB
  have h1 : s.data.toList.all alnumB = true := by
    rw [List.all_eq_true]; intro x hx
    obtain ⟨j, hj, rfl⟩ := List.getElem_of_mem hx
    have hjs : j < s.size := by rw [Lib.size_eq]; exact hj
    rw [← byte_data s j hjs]; exact hall j hjs
  have h2 : s.data.toList.length ≤ 16 := by rw [← Lib.size_eq]; exact h16
  rw [h1]; simp [h0]; exact h16

set_option maxHeartbeats 1000000 in
theorem name_any (s : ByteArray) (w : World) (hs : s.size ≤ 9223372036854775807) :
    Calls Tryz.prog 25 #[.string s] w fun e w' => e = .returned (.bool (nameB s.data.toList)) ∧ Below w.heap.size w w' := by
  by_cases h0 : s.data.toList = []
  · have h0' : s.toList.isEmpty = true := by rw [isEmpty_toList, h0]; rfl
    have hf : nameB s.data.toList = false := by rw [h0]; rfl
    have Hf := Lib.hid hf
    clear h0 hf
    go_enter Tryz.func25, Tryz.ntmps25
    go_wp2_with fail
    go_ret
    exact ⟨by rw [Hf.out]; rfl, Below.refl _ _⟩
  · have h0' : s.toList.isEmpty = false := by rw [isEmpty_toList]; simpa using h0
    have H0 := Lib.hid h0
    clear h0
    by_cases h16 : 16 < s.size
    · have hf : nameB s.data.toList = false := by
        unfold nameB
        have : decide (s.data.toList.length ≤ 16) = false := by rw [← Lib.size_eq]; simp; omega
        rw [this]; simp
      have Hf := Lib.hid hf
      clear hf
      go_enter Tryz.func25, Tryz.ntmps25
      go_wp2_with fail
      go_ret
      exact ⟨by rw [Hf.out]; rfl, Below.refl _ _⟩
    · go_enter Tryz.func25, Tryz.ntmps25
      go_wp2
      go_loopw [4] (fun _ wr => ∃ pos : Nat, wr = w.iter s pos ∧ pos ≤ s.size ∧ Hid (∀ (q : Nat) (hq : q < s.size), q < pos → alnumB (s[q]'hq) = true)) (fun _ wr => s.size - wr.iterPos w.heap.size)
      case atStart => exact ⟨0, rfl, by omega, Lib.hid (fun q hq h => by omega)⟩
      case round =>
        obtain ⟨pos, rfl, hps, hall⟩ := hrel
        by_cases hp : pos < s.size
        · by_cases hb : (s[pos]'hp).toNat < 128
          · have hnx : ∀ ty, (Instr.next (.pointer (some ⟨w.heap.size, 0, none⟩)) true ty).run Tryz.prog (w.iter s pos) = _ := fun ty => run_next_ascii w s pos ty hp hb
            have hbad : Hid (alnumI ((s[pos]'hp).toNat : Int) = false → nameB s.data.toList = false) := Lib.hid (fun h => name_bad hp (by rw [← alnumI_byte]; exact h))
            have hnext : Hid (alnumI ((s[pos]'hp).toNat : Int) = true → ∀ (q : Nat) (hq : q < s.size), q < pos + 1 → alnumB (s[q]'hq) = true) := Lib.hid (fun h q hq hqp => by
              by_cases e : q = pos
              · subst e; rw [← alnumI_byte]; exact h
              · exact hall.out q hq (by omega))
            generalize (s[pos]'hp).toNat = c at hnx hb hbad hnext
            go_wp2
            all_goals first
              | (go_ret; refine ⟨?_, (Below.refl _ _).alloc (Nat.le_refl _) _⟩; rw [hbad.out (by simp [alnumI]; omega)]; rfl)
              | (go_roundw
                 case rel => exact ⟨pos + 1, rfl, by omega, Lib.hid (hnext.out (by simp [alnumI]; omega))⟩
                 case measure => simp; omega)
          · have hnx : ∀ ty, (Instr.next (.pointer (some ⟨w.heap.size, 0, none⟩)) true ty).run Tryz.prog (w.iter s pos) = _ := fun ty => run_next_any w s pos ty hp
            have hwide := decode_wide s pos hp (by omega)
            have hbad : Hid (nameB s.data.toList = false) := Lib.hid (name_bad hp (by
              rw [← alnumI_byte]; simp [alnumI]; omega))
            generalize (Utf8.decode s pos).1 = c at hnx hwide
            generalize (Utf8.decode s pos).2 = d at hnx
            have g1 : ¬ (c : Int) ≤ 122 := by omega
            have g2 : ¬ (c : Int) ≤ 90 := by omega
            have g3 : ¬ (c : Int) ≤ 57 := by omega
            clear hb
            go_wp2
            all_goals (go_ret; refine ⟨?_, (Below.refl _ _).alloc (Nat.le_refl _) _⟩; rw [hbad.out]; rfl)
        · have hnx : ∀ ty, (Instr.next (.pointer (some ⟨w.heap.size, 0, none⟩)) true ty).run Tryz.prog (w.iter s pos) = _ := fun ty => run_next_end w s pos ty hp
          have hg : Hid (nameB s.data.toList = true) := Lib.hid (name_good H0.out (by omega) (fun q hq => hall.out q hq (by omega)))
          go_wp2
          go_ret
          exact ⟨by rw [hg.out]; rfl, (Below.refl _ _).alloc (Nat.le_refl _) _⟩
end Go.Proofs.YtkbamneecfmibaaGreatDoor
