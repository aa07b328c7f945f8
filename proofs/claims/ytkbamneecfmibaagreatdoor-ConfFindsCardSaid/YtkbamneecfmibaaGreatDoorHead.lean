/- wharfingerlaw13.parses answers true. Condition: GW. -/
import Derived.Test.YtkbamneecfmibaaGreatDoorParse
import Derived.Test.YtkbamneecfmibaaGreatDoorPlace
namespace Go.Proofs.YtkbamneecfmibaaGreatDoor
open Go.RowKit
open C

def homeText : ByteArray := ⟨#[35, 32, 97, 108, 108, 10, 91, 104, 111, 109, 101, 93, 10, 114, 111, 111, 116, 32, 61, 32, 97, 47, 98, 10, 119, 114, 105, 116, 101, 32, 61, 32, 121, 101, 115, 10, 117, 115, 101, 114, 32, 61, 32, 97, 110, 110, 58, 115, 101, 99, 114, 101, 116]⟩
def homeM : Mdl := ⟨[104, 111, 109, 101], [97, 47, 98], true, 16, 262144, [⟨[97, 110, 110], [115, 101, 99, 114, 101, 116]⟩]⟩
theorem home_parse : parse homeText.data.toList = (0, 0, [homeM]) := by decide +kernel
theorem home_find : findM [homeM] [104, 111, 109, 101] = some homeM := by decide +kernel
theorem home_secret : secretOf homeM.users [97, 110, 110] = some [115, 101, 99, 114, 101, 116] := by decide +kernel

set_option maxRecDepth 100000 in
set_option maxHeartbeats 4000000 in
theorem head_any (w : World) (hG : GW w) :
    Calls Tryz.prog 9 #[] w fun e w' => e = .returned (.bool true) ∧ Below w.heap.size w w' := by
  have HG := Lib.hid hG
  clear hG
  go_enter Tryz.func9, Tryz.ntmps9
  go_wp2_with fail
  refine (parse_any homeText _ (by decide) HG.out).mono ?_
  rintro e w1 ⟨v, ev, rfl, hb1, h⟩
  rw [home_parse] at h
  rcases h with ⟨_, rfl, L, hL, hown⟩ | ⟨h0, _⟩
  · have hrd := hown.rd
    rw [hL] at hrd
    obtain ⟨A, c, rfl, _⟩ := id hrd
    have HRD := Lib.hid hrd
    have HB1 := Lib.hid hb1
    clear hL hown hrd hb1
    go_wp2_with fail
    refine (find_any _ [homeM] ⟨#[104, 111, 109, 101]⟩ _ (HRD.out.below ((Below.refl _ _).alloc (Nat.le_refl _) _))).mono ?_
    rintro e w2 ⟨⟨v, ok, rfl, hf⟩, hb2⟩
    rcases hf with ⟨rfl, m, uv, hm, rfl, hu⟩ | ⟨_, _, hno⟩
    · have em : m = homeM := by
        have := home_find.symm.trans hm
        injection this with this; exact this.symm
      subst em
      obtain ⟨A2, c2, rfl, _⟩ := id hu
      have HU := Lib.hid hu
      have HB2 := Lib.hid ((HB1.out.alloc HB1.out.size (.cells #[.slice A 1 c] tConf)).trans (hb2.mono (by have := HB1.out.size; simp; omega)))
      clear hu hb2 hm
      have hmvv : modVal homeM (.slice A2 homeM.users.length c2) = .agg #[.string (bs homeM.name), .string (bs homeM.root), .bool true, .int .i64 16, .int .i64 262144, .slice A2 1 c2] := rfl
      rw [hmvv]
      clear hmvv
      have t1 : ((bs homeM.root).toList == [97, 47, 98]) = true := by rw [Lib.toList_data]; rfl
      generalize bs homeM.name = nmv
      generalize bs homeM.root = rtv at t1
      go_wp2_with fail
      refine (secret_any nmv rtv true 16 262144 (.slice A2 1 c2) homeM.users ⟨#[97, 110, 110]⟩ _ (HU.out.below ((Below.refl _ _).alloc (Nat.le_refl _) _))).mono ?_
      rintro e w3 ⟨⟨t, ok, rfl, hs⟩, hb3⟩
      rcases hs with ⟨rfl, hs⟩ | ⟨_, _, hno⟩
      · have ht : t.data.toList = [115, 101, 99, 114, 101, 116] := by
          have := home_secret.symm.trans hs
          injection this with this; exact this.symm
        have t2 : (t.toList == [115, 101, 99, 114, 101, 116]) = true := by rw [Lib.toList_data, ht]; rfl
        have hcell : ∀ j, w3.cell? ⟨w2.heap.size, j, none⟩ = (#[.string nmv, .string rtv, .bool true, .int .i64 16, .int .i64 262144, .slice A2 1 c2] : Array Value)[j]? := by
          intro j
          rw [hb3.cell (p := ⟨w2.heap.size, j, none⟩) (by simp), World.cell?_alloc_at _ _ _ _ rfl]
        have k1 : w3.cell? ⟨w2.heap.size, 1, none⟩ = some (.string rtv) := hcell 1
        have k2 : w3.cell? ⟨w2.heap.size, 2, none⟩ = some (.bool true) := hcell 2
        have k3 : w3.cell? ⟨w2.heap.size, 3, none⟩ = some (.int .i64 16) := hcell 3
        have k4 : w3.cell? ⟨w2.heap.size, 4, none⟩ = some (.int .i64 262144) := hcell 4
        have HB3 := Lib.hid (HB2.out.trans (((Below.refl _ _).alloc HB2.out.size _).trans (hb3.mono (by have := HB2.out.size; simp; omega))))
        clear hs ht hcell hb3
        go_wp2_with fail
        go_ret
        exact ⟨rfl, HB3.out⟩
      · exact absurd (home_secret.symm.trans hno) (by decide)
    · exact absurd (home_find.symm.trans hno) (by decide)
  · exact absurd rfl h0
end Go.Proofs.YtkbamneecfmibaaGreatDoor
