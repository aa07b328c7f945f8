/- (*conf.Module).set at the keys root and write, and where a key was said already. Conditions: GW; the module is the last one of a row of the call's own. -/
import Derived.Test.YtkbamneecfmibaaGreatDoorOwn
namespace Go.Proofs.YtkbamneecfmibaaGreatDoor
open Go.RowKit
open C

theorem SeenRep.same {w w1 : World} {sb : Nat} {S : List Bs} (h : SeenRep w sb S) (hs : w1.heap[sb]? = w.heap[sb]?) : SeenRep w1 sb S := by
  obtain ⟨es, clk, h1, h2⟩ := h
  exact ⟨es, clk, by rw [hs]; exact h1, h2⟩
theorem SeenRep.lt {w : World} {sb : Nat} {S : List Bs} (h : SeenRep w sb S) : sb < w.heap.size := by
  obtain ⟨es, clk, h1, h2⟩ := h
  exact (Array.getElem?_eq_some_iff.1 h1).1
theorem SeenRep.below {w w1 : World} {sb : Nat} {S : List Bs} (h : SeenRep w sb S) (hb : Below w.heap.size w w1) : SeenRep w1 sb S := h.same (hb.block sb h.lt)
theorem SeenRep.ne {w : World} {sb : Nat} {S : List Bs} (h : SeenRep w sb S) {base : Nat} {e : TypeId} {size n : Nat} {v : Value} {xs : List Value} (ho : w.ownsRow base e size v n xs) {k : Nat} (hk : v.ownBlock = some k) : k ≠ sb := by
  intro e
  obtain ⟨es, clk, h1, _⟩ := h
  obtain ⟨_, _, cur, hc⟩ := own_block ho hk
  rw [e, h1] at hc
  cases hc
theorem GW.belowB {w w1 : World} {B : Nat} (h : GW w) (hb : Below B w w1) (hB : 7 ≤ B) : GW w1 := by
  obtain ⟨h1, ⟨m, h2⟩, h3, ⟨tp, p, h4⟩, ⟨tq, q, h5⟩⟩ := h
  have g4 : Tryz.prog.globalNamed "internal/strconv.uint64pow10" = some 4 := by kernel_rfl
  have g5 : Tryz.prog.globalNamed "strconv.ErrSyntax" = some 5 := by kernel_rfl
  have g6 : Tryz.prog.globalNamed "strconv.ErrRange" = some 6 := by kernel_rfl
  refine ⟨?_, ⟨m, ?_⟩, var?_below hb g4 (by omega) h3, ⟨tp, p, var?_below hb g5 (by omega) h4⟩, ⟨tq, q, var?_below hb g6 (by omega) h5⟩⟩
  · show w1.cell? _ = _
    rw [hb.cell (p := ⟨0, 0, none⟩) (by show 0 < B; omega)]; exact h1
  · rw [hb.cell (p := ⟨1, 0, none⟩) (by show 1 < B; omega)]; exact h2

/-- What a call of set finds. -/
structure SetIn (w : World) (B g cap sb : Nat) (L : List (Mdl × Value)) (m : Mdl) (u : Value) (S : List Bs) : Prop where
  gw : GW w
  own : OwnMods w B (.slice (some ⟨g, 0, none⟩) (L.length + 1) cap) (L ++ [(m, u)])
  seen : SeenRep w sb S
  hsb : B ≤ sb
  h7 : 7 ≤ B
  hB : B ≤ w.heap.size
theorem SetIn.hg {w : World} {B g cap sb : Nat} {L : List (Mdl × Value)} {m : Mdl} {u : Value} {S : List Bs} (h : SetIn w B g cap sb L m u S) : B ≤ g ∧ g < w.heap.size ∧ g ≠ sb := by
  obtain ⟨a, b, _⟩ := own_block h.own.row (k := g) rfl
  exact ⟨a, b, h.seen.ne h.own.row rfl⟩
/-- Behind 'seen[key] = true'. -/
theorem SetIn.said {w : World} {B g cap sb : Nat} {L : List (Mdl × Value)} {m : Mdl} {u : Value} {S : List Bs} (h : SetIn w B g cap sb L m u S) (key : ByteArray) :
    ∃ w1, (Instr.mapUpdate tSB (.map (some sb)) (.string key) (.bool true)).run Tryz.prog w = .ok () w1 ∧ Below B w w1 ∧ SetIn w1 B g cap sb L m u (if key.data.toList = userKey then S else key.data.toList :: S) := by
  obtain ⟨w1, h1, h2, h3, h4, h5⟩ := seen_store w sb B S key h.seen h.hsb
  refine ⟨w1, h1, h2, ⟨h.gw.belowB h2 h.h7, ⟨?_, ?_, h.own.ne⟩, h5, h.hsb, h.h7, by rw [h3]; exact h.hB⟩⟩
  · exact own_same h.own.row (fun k hk => h4 k (h.seen.ne h.own.row hk))
  · exact fun p hp => own_same (h.own.usr p hp) (fun k hk => h4 k (h.seen.ne (h.own.usr p hp) hk))
/-- Behind a store into the last module. -/
theorem SetIn.put {w : World} {B g cap sb : Nat} {L : List (Mdl × Value)} {m m' : Mdl} {u : Value} {S : List Bs} (h : SetIn w B g cap sb L m u S) (j : Nat) (hj : j < 6) (v : Value)
    (hm : (mcells (m, u)).set j v = mcells (m', u)) (hu : m'.users = m.users) : SetIn (w.setCell ⟨g, L.length * 6 + j, none⟩ v) B g cap sb L m' u S ∧ Below B w (w.setCell ⟨g, L.length * 6 + j, none⟩ v) := by
  have hb : Below B w (w.setCell ⟨g, L.length * 6 + j, none⟩ v) := (Below.refl _ _).setCell (p := ⟨g, L.length * 6 + j, none⟩) h.hg.1 v
  exact ⟨⟨h.gw.belowB hb h.h7, h.own.put j hj v hm hu, h.seen.same (Below.heap_setCell _ _ _ _ (Ne.symm h.hg.2.2)), h.hsb, h.h7, by simpa [World.setCell] using h.hB⟩, hb⟩
theorem SetIn.below {w w1 : World} {B g cap sb : Nat} {L : List (Mdl × Value)} {m : Mdl} {u : Value} {S : List Bs} (h : SetIn w B g cap sb L m u S) (hb : Below w.heap.size w w1) : SetIn w1 B g cap sb L m u S :=
  ⟨h.gw.below hb, h.own.below hb, h.seen.below hb, h.hsb, h.h7, Nat.le_trans h.hB hb.size⟩

/-- What set comes to. -/
def PSet (x : Int × Mdl × List Bs) (B g cap sb : Nat) (L : List (Mdl × Value)) (w : World) (e : Ending) (w' : World) : Prop :=
  e = .returned (.int .i64 x.1) ∧ Below B w w' ∧ (x.1 = 0 → ∃ u', SetIn w' B g cap sb L x.2.1 u' x.2.2)

def kRoot : Bs := [114, 111, 111, 116]
def kWrite : Bs := [119, 114, 105, 116, 101]
def kSlots : Bs := [115, 108, 111, 116, 115]
def kQuota : Bs := [113, 117, 111, 116, 97]
/-- The tests of a key, as the walk writes them. -/
theorem key_tests {key : ByteArray} {k : Bs} (h : key.data.toList = k) : (key.toList == [117, 115, 101, 114]) = (k == userKey) ∧ (key.toList == [114, 111, 111, 116]) = (k == kRoot) ∧ (key.toList == [119, 114, 105, 116, 101]) = (k == kWrite) ∧ (key.toList == [115, 108, 111, 116, 115]) = (k == kSlots) ∧ (key.toList == [113, 117, 111, 116, 97]) = (k == kQuota) := by
  rw [Lib.toList_data, h]; exact ⟨rfl, rfl, rfl, rfl, rfl⟩

set_option maxRecDepth 100000 in
set_option maxHeartbeats 1000000 in
theorem set_twice (key value : ByteArray) (w : World) {B g cap sb : Nat} {L : List (Mdl × Value)} {m : Mdl} {u : Value} {S : List Bs} (h : SetIn w B g cap sb L m u S) (hk : key.data.toList ≠ userKey) (hs : S.contains key.data.toList = true) :
    Calls Tryz.prog 26 #[.pointer (some ⟨g, L.length * 6, none⟩), .string key, .string value, .map (some sb)] w (PSet (5, m, S) B g cap sb L w) := by
  have hl := seen_look w sb S key h.seen hk
  rw [hs] at hl
  have t0 : (key.toList == [117, 115, 101, 114]) = false := by rw [(key_tests rfl).1]; simpa using hk
  have H := Lib.hid h
  clear h hk hs
  go_enter Tryz.func26, Tryz.ntmps26
  go_wp2_with fail
  go_ret
  exact ⟨rfl, Below.refl _ _, fun h => by cases h⟩

set_option maxRecDepth 100000 in
set_option maxHeartbeats 2000000 in
theorem set_root (key value : ByteArray) (w : World) {B g cap sb : Nat} {L : List (Mdl × Value)} {m : Mdl} {u : Value} {S : List Bs} (h : SetIn w B g cap sb L m u S) (hk : key.data.toList = kRoot) (hs : S.contains key.data.toList = false) (hv : value.size < 4294967281) :
    Calls Tryz.prog 26 #[.pointer (some ⟨g, L.length * 6, none⟩), .string key, .string value, .map (some sb)] w (PSet (if pathOk value.data.toList then (0, { m with root := value.data.toList }, key.data.toList :: S) else (90, m, key.data.toList :: S)) B g cap sb L w) := by
  have hne : key.data.toList ≠ userKey := by rw [hk]; decide
  have hl := seen_look w sb S key h.seen hne
  rw [hs] at hl
  obtain ⟨t0, t1, _, _, _⟩ := key_tests hk
  obtain ⟨w1, hup, hb1, h1⟩ := h.said key
  rw [if_neg hne] at h1
  obtain ⟨c1, f1⟩ := h1.own.last 1 (by omega)
  have c1' : w1.cell? ⟨g, L.length * 6 + 1, none⟩ = some (.string (bs m.root)) := c1
  obtain ⟨h2, hb2⟩ := h1.put (m' := { m with root := value.data.toList }) 1 (by omega) (.string value) rfl rfl
  obtain ⟨mx, hmx⟩ := h2.gw.max
  have HX : Hid ((w1.setCell ⟨g, L.length * 6 + 1, none⟩ (.string value)).cell? ⟨1, 0, none⟩ = some (.int .i64 mx)) := Lib.hid hmx
  have H2 := Lib.hid h2
  have HB := Lib.hid (hb1.trans hb2)
  have hgl : Hid (B ≤ g) := Lib.hid h1.hg.1
  have HBs := Lib.hid h2.hB
  generalize hroot : bs m.root = oldroot at c1'
  clear c1 h1 h2 hb2 hmx hroot hk hs hne h hb1
  have t0' : (key.toList == [117, 115, 101, 114]) = false := t0
  have t1' : (key.toList == [114, 111, 111, 116]) = true := t1
  clear t0 t1
  cases hp : pathOk value.data.toList with
  | true =>
    have HP := Lib.hid hp
    clear hp
    go_enter Tryz.func26, Tryz.ntmps26
    go_wp2_with fail
    refine (pcheck_any value _ hv mx HX.out).mono ?_
    rintro e w3 ⟨⟨v, rfl, hv3⟩, hb3⟩
    rcases hv3 with ⟨_, rfl⟩ | ⟨hf, _⟩
    · go_wp2_with fail
      go_ret
      exact ⟨rfl, HB.out.trans (hb3.mono HBs.out), fun _ => ⟨u, H2.out.below hb3⟩⟩
    · rw [HP.out] at hf; cases hf
  | false =>
    have HP := Lib.hid hp
    clear hp
    go_enter Tryz.func26, Tryz.ntmps26
    go_wp2_with fail
    refine (pcheck_any value _ hv mx HX.out).mono ?_
    rintro e w3 ⟨⟨v, rfl, hv3⟩, hb3⟩
    rcases hv3 with ⟨hf, _⟩ | ⟨_, a, rfl⟩
    · rw [HP.out] at hf; cases hf
    · go_wp2_with fail
      go_ret
      exact ⟨rfl, HB.out.trans (hb3.mono HBs.out), fun h => by cases h⟩
end Go.Proofs.YtkbamneecfmibaaGreatDoor
