/- wharfingerlaw13.ConfFinds answers true at every input: the parts. Conditions: GW, and how the input lies in memory. -/
import Derived.Test.YtkbamneecfmibaaGreatDoorMost
import Derived.Test.YtkbamneecfmibaaGreatDoorRef1
import Derived.Test.YtkbamneecfmibaaGreatDoorOpen
namespace Go.Proofs.YtkbamneecfmibaaGreatDoor
open Go.RowKit
open C PConfWrites Go.Proofs.YtkbamneecfmibaaGreatDoorW.PrintWords

/-- 'checkMs' looks at the roots alone. -/
theorem check_roots : ∀ (a b pa pb : List Mdl) (i : Nat), a.map (·.root) = b.map (·.root) → pa.map (·.root) = pb.map (·.root) → checkFrom i pa a = checkFrom i pb b
  | [], b, pa, pb, i, h, _ => by
    have : b = [] := by simpa using h.symm
    subst this
    rfl
  | x :: a, [], pa, pb, i, h, _ => by simp at h
  | x :: a, y :: b, pa, pb, i, h, hp => by
    simp only [List.map_cons, List.cons.injEq] at h
    have e : (pa.any fun z => z.root == x.root || clash z.root x.root) = (pb.any fun z => z.root == y.root || clash z.root y.root) := by
      have f : ∀ (l : List Mdl) (r : Bs), (l.any fun z => z.root == r || clash z.root r) = ((l.map (·.root)).any fun z => z == r || clash z r) := fun l r => by rw [List.any_map]; rfl
      rw [f, f, hp, h.1]
    unfold checkFrom
    rw [e, h.1, check_roots a b (pa ++ [x]) (pb ++ [y]) (i + 1) h.2 (by rw [List.map_append, List.map_append, hp]; simp [h.1])]
/-- What the law hands to the document's check. -/
def rOf (m : Mdl) : Rm := ⟨bs m.name, bs m.root, false, 0, 0, [], []⟩
theorem checkMs_rOf (ms : List Mdl) : checkMs ((ms.map rOf).map mOf) = checkMs ms := by
  unfold checkMs
  refine check_roots _ _ _ _ 0 ?_ rfl
  rw [List.map_map, List.map_map]
  exact List.map_congr_left fun m _ => rfl
def rcells (m : Mdl) : List Value := [.string (bs m.name), .string (bs m.root), .bool false, .int .i64 0, .int .i64 0, .slice none 0 0, .slice none 0 0]
def refCells (ms : List Mdl) : List Value := ms.flatMap rcells
theorem ref_snoc (L : List Mdl) (p : Mdl) : refCells (L ++ [p]) = refCells L ++ rcells p := by simp [refCells]
abbrev tRm : Nat := 45
theorem infoRm : (Tryz.prog.info? tRm).map (fun i => (i.zero, i.size, i.bytes)) = some (some (.agg #[.string ⟨#[]⟩, .string ⟨#[]⟩, .bool false, .int .i64 0, .int .i64 0, .slice none 0 0, .slice none 0 0]), 7, 104) := by kernel_rfl
theorem seven_new (w : World) (a b c d e f g : Value) (t : TypeId) (n : Nat) (hn : w.heap.size = n) : ∀ j u, [a, b, c, d, e, f, g][j]? = some u → (w.alloc (.cells #[a, b, c, d, e, f, g] t)).cell? ((⟨n, 0, none⟩ : Addr).add j) = some u := by
  subst hn
  intro j u hj
  rw [addr_add, Nat.zero_add, World.cell?_alloc_at _ _ _ _ rfl]
  simpa using hj
theorem ref_reads {w : World} {B : Nat} {v : Value} {ms : List Mdl} (h : w.ownsRow B tRm 7 v ms.length (refCells ms)) (hm : ms.length ≤ 1000000) : ∃ A c, v = .slice A ms.length c ∧ ms.length ≤ c ∧ Kd.C k45 w A (ms.map rOf).length (ms.map rOf) := by
  rcases id h.2 with ⟨rfl, h0⟩ | ⟨g, cap, cur, rfl, hb, hg, hn, hcap, hs, ht⟩
  · have : ms = [] := List.eq_nil_of_length_eq_zero h0
    subst this
    exact ⟨none, 0, rfl, Nat.le_refl _, ⟨rfl, by simp, fun hne => absurd hne (by simp)⟩⟩
  · refine ⟨_, cap, rfl, hn, ⟨rfl, by rw [List.length_map]; omega, fun _ => ⟨⟨g, 0, none⟩, rfl, fun j p hj => ?_⟩⟩⟩
    rw [List.getElem?_map, Option.map_eq_some_iff] at hj
    obtain ⟨m, hj, rfl⟩ := hj
    have hi := (List.getElem?_eq_some_iff.1 hj).1
    refine ⟨rcells m, rfl, ?_, fun i u hu => ?_⟩
    · exact k45_mk w (rOf m) (A5 := none) (c5 := 0) (Nat.le_refl _) (Kd.C_nil _ _) (A6 := none) (c6 := 0) (Nat.le_refl _) (Kd.C_nil _ _)
    · have hi7 : i < 7 := (List.getElem?_eq_some_iff.1 hu).1
      rw [show k45.sz = 7 from rfl, addr_add, Nat.zero_add, h.cellAt _ (by omega)]
      rw [← hu]
      exact flat_at rcells 7 (fun _ => rfl) ms j m i hj hi7
end Go.Proofs.YtkbamneecfmibaaGreatDoor
