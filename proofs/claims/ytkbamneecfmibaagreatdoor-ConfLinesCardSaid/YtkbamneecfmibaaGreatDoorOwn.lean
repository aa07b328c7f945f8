/- Modules and users that the call itself has made, in memory. No conditions. -/
import Derived.Test.YtkbamneecfmibaaGreatDoorSeen
namespace Go.Proofs.YtkbamneecfmibaaGreatDoor
open Go.RowKit
open C

theorem flat_len {α β : Type} (f : α → List β) (k : Nat) (h : ∀ x, (f x).length = k) : ∀ l : List α, (l.flatMap f).length = l.length * k
  | [] => by simp
  | x :: l => by rw [List.flatMap_cons, List.length_append, h x, flat_len f k h l, List.length_cons, Nat.add_mul]; omega
theorem flat_at {α β : Type} (f : α → List β) (k : Nat) (h : ∀ x, (f x).length = k) : ∀ (l : List α) (i : Nat) (x : α) (j : Nat), l[i]? = some x → j < k → (l.flatMap f)[i * k + j]? = (f x)[j]?
  | [], i, x, j, hi, _ => by simp at hi
  | y :: l, 0, x, j, hi, hj => by
    simp at hi; subst hi
    rw [List.flatMap_cons, Nat.zero_mul, Nat.zero_add, List.getElem?_append_left (by rw [h]; exact hj)]
  | y :: l, i + 1, x, j, hi, hj => by
    rw [List.flatMap_cons, List.getElem?_append_right (by rw [h, Nat.add_mul]; omega), h]
    rw [show (i + 1) * k + j - k = i * k + j from by rw [Nat.add_mul]; omega]
    exact flat_at f k h l i x j (by simpa using hi) hj

def ucells (u : Usr) : List Value := [.string (bs u.name), .string (bs u.secret)]
def usrCells (us : List Usr) : List Value := us.flatMap ucells
def mcells (p : Mdl × Value) : List Value := [.string (bs p.1.name), .string (bs p.1.root), .bool p.1.write, .int .i64 p.1.slots, .int .i64 p.1.quota, p.2]
def modCells (L : List (Mdl × Value)) : List Value := L.flatMap mcells
theorem mod_len (L : List (Mdl × Value)) : (modCells L).length = L.length * 6 := flat_len mcells 6 (fun _ => rfl) L
theorem mod_snoc (L : List (Mdl × Value)) (p : Mdl × Value) : modCells (L ++ [p]) = modCells L ++ mcells p := by simp [modCells]
theorem usr_snoc (L : List Usr) (p : Usr) : usrCells (L ++ [p]) = usrCells L ++ ucells p := by simp [usrCells]

/-- Modules of the call's own, from block B on, each with its users. -/
structure OwnMods (w : World) (B : Nat) (mv : Value) (L : List (Mdl × Value)) : Prop where
  row : w.ownsRow B tMod 6 mv L.length (modCells L)
  usr : ∀ p ∈ L, w.ownsRow B tUser 2 p.2 p.1.users.length (usrCells p.1.users)
  ne : L.Pairwise (fun p q => ∀ k, p.2.ownBlock = some k → q.2.ownBlock ≠ some k)

theorem grown_of {w w1 : World} (h : Below w.heap.size w w1) (row : Option Nat) : w.grownBy w1 row := ⟨h.os, h.tape, h.output, h.size, fun k hk _ => h.block k hk⟩
theorem own_below {w w1 : World} {base : Nat} {e : TypeId} {size n : Nat} {v : Value} {xs : List Value} (h : w.ownsRow base e size v n xs) (hb : Below w.heap.size w w1) : w1.ownsRow base e size v n xs := by
  cases hv : v.ownBlock with
  | none => exact h.kept (grown_of hb none) (.inl hv)
  | some k => exact h.kept (grown_of hb none) (.inr (by rw [hv]; simp))
theorem OwnMods.below {w w1 : World} {B : Nat} {mv : Value} {L : List (Mdl × Value)} (h : OwnMods w B mv L) (hb : Below w.heap.size w w1) : OwnMods w1 B mv L :=
  ⟨own_below h.row hb, fun p hp => own_below (h.usr p hp) hb, h.ne⟩
/-- Where neither the row nor a users' row is written, they stand. -/
theorem own_same {w w1 : World} {base : Nat} {e : TypeId} {size n : Nat} {v : Value} {xs : List Value} (h : w.ownsRow base e size v n xs) (hs : ∀ k, v.ownBlock = some k → w1.heap[k]? = w.heap[k]?) : w1.ownsRow base e size v n xs := by
  obtain ⟨h1, h2⟩ := h
  refine ⟨h1, ?_⟩
  rcases h2 with h2 | ⟨g, cap, cur, rfl, a, b, c⟩
  · exact .inl h2
  · exact .inr ⟨g, cap, cur, rfl, a, by rw [hs g rfl]; exact b, c⟩
theorem own_block {w : World} {base : Nat} {e : TypeId} {size n : Nat} {v : Value} {xs : List Value} (h : w.ownsRow base e size v n xs) {k : Nat} (hk : v.ownBlock = some k) : base ≤ k ∧ k < w.heap.size ∧ ∃ cur, w.heap[k]? = some (.cells cur e (0, 0)) := by
  rcases h.2 with ⟨rfl, _⟩ | ⟨g, cap, cur, rfl, a, b, _⟩
  · simp [Value.ownBlock] at hk
  · simp [Value.ownBlock] at hk
    subst hk
    exact ⟨a, (Array.getElem?_eq_some_iff.1 b).1, cur, b⟩
theorem OwnMods.rdu {w : World} {B : Nat} {v : Value} {us : List Usr} (h : w.ownsRow B tUser 2 v us.length (usrCells us)) : RdUsr w v us := by
  rcases id h.2 with ⟨rfl, h0⟩ | ⟨g, cap, cur, rfl, hb, hg, hn, hm, hs, ht⟩
  · have : us = [] := List.eq_nil_of_length_eq_zero h0
    subst this
    exact ⟨none, 0, rfl, Nat.le_refl _, by omega, fun hne => absurd rfl hne⟩
  · refine ⟨_, cap, rfl, hn, by unfold maxLen at hm; omega, fun _ => ⟨g, 0, rfl, fun i u hu => ?_⟩⟩
    have hi := (List.getElem?_eq_some_iff.1 hu).1
    constructor
    · rw [show (0 : Nat) + i * 2 = i * 2 + 0 from by omega, h.cellAt _ (by omega)]
      exact flat_at ucells 2 (fun _ => rfl) us i u 0 hu (by omega)
    · rw [show (0 : Nat) + i * 2 + 1 = i * 2 + 1 from by omega, h.cellAt _ (by omega)]
      exact flat_at ucells 2 (fun _ => rfl) us i u 1 hu (by omega)
theorem OwnMods.rd {w : World} {B : Nat} {mv : Value} {L : List (Mdl × Value)} (h : OwnMods w B mv L) : RdMod w mv (L.map (·.1)) := by
  rcases id h.row.2 with ⟨rfl, h0⟩ | ⟨g, cap, cur, rfl, hb, hg, hn, hm, hs, ht⟩
  · have : L = [] := List.eq_nil_of_length_eq_zero h0
    subst this
    exact ⟨none, 0, rfl, Nat.le_refl _, by omega, fun hne => absurd rfl hne⟩
  · refine ⟨_, cap, by rw [List.length_map], by rw [List.length_map]; exact hn, by unfold maxLen at hm; omega, fun _ => ⟨g, 0, rfl, fun i m hm => ?_⟩⟩
    rw [List.getElem?_map, Option.map_eq_some_iff] at hm
    obtain ⟨p, hp, rfl⟩ := hm
    have hi := (List.getElem?_eq_some_iff.1 hp).1
    have hc : ∀ j, j < 6 → w.cell? ⟨g, i * 6 + j, none⟩ = (mcells p)[j]? := fun j hj => by
      rw [h.row.cellAt _ (by omega)]
      exact flat_at mcells 6 (fun _ => rfl) L i p j hp hj
    refine ⟨?_, ?_, ?_, ?_, ?_, p.2, ?_, OwnMods.rdu (h.usr p (List.mem_of_getElem? hp))⟩
    · rw [show (0 : Nat) + i * 6 = i * 6 + 0 from by omega]; exact hc 0 (by omega)
    · rw [show (0 : Nat) + i * 6 + 1 = i * 6 + 1 from by omega]; exact hc 1 (by omega)
    · rw [show (0 : Nat) + i * 6 + 2 = i * 6 + 2 from by omega]; exact hc 2 (by omega)
    · rw [show (0 : Nat) + i * 6 + 3 = i * 6 + 3 from by omega]; exact hc 3 (by omega)
    · rw [show (0 : Nat) + i * 6 + 4 = i * 6 + 4 from by omega]; exact hc 4 (by omega)
    · rw [show (0 : Nat) + i * 6 + 5 = i * 6 + 5 from by omega]; exact hc 5 (by omega)

/-- The last module's cells. -/
theorem OwnMods.last {w : World} {B g cap : Nat} {L : List (Mdl × Value)} {p : Mdl × Value} (h : OwnMods w B (.slice (some ⟨g, 0, none⟩) (L.length + 1) cap) (L ++ [p])) (j : Nat) (hj : j < 6) : w.cell? ⟨g, L.length * 6 + j, none⟩ = (mcells p)[j]? ∧ w.frozen? ⟨g, L.length * 6 + j, none⟩ = false := by
  have hr := h.row
  rw [List.length_append, List.length_singleton] at hr
  refine ⟨?_, hr.frozenAt _⟩
  rw [hr.cellAt _ (by omega), mod_snoc, List.getElem?_append_right (by rw [mod_len]; omega), mod_len]
  rw [show L.length * 6 + j - L.length * 6 = j from by omega]
/-- A store into a field of the last module that is no users' slice. -/
theorem OwnMods.put {w : World} {B g cap : Nat} {L : List (Mdl × Value)} {m m' : Mdl} {u : Value} (h : OwnMods w B (.slice (some ⟨g, 0, none⟩) (L.length + 1) cap) (L ++ [(m, u)])) (j : Nat) (hj : j < 6) (v : Value)
    (hm : (mcells (m, u)).set j v = mcells (m', u)) (hu : m'.users = m.users) : OwnMods (w.setCell ⟨g, L.length * 6 + j, none⟩ v) B (.slice (some ⟨g, 0, none⟩) (L.length + 1) cap) (L ++ [(m', u)]) := by
  have hr := h.row
  rw [List.length_append, List.length_singleton] at hr
  have hs := hr.stored (L.length * 6 + j) v
  have hc : (modCells (L ++ [(m, u)])).set (L.length * 6 + j) v = modCells (L ++ [(m', u)]) := by
    rw [mod_snoc, mod_snoc, List.set_append_right _ _ (by rw [mod_len]; omega), mod_len, show L.length * 6 + j - L.length * 6 = j from by omega, hm]
  rw [hc] at hs
  refine ⟨by rw [List.length_append, List.length_singleton]; exact hs.1, ?_, ?_⟩
  · intro p hp
    have hsame : ∀ q : Mdl × Value, q ∈ L ++ [(m, u)] → (w.setCell ⟨g, L.length * 6 + j, none⟩ v).ownsRow B tUser 2 q.2 q.1.users.length (usrCells q.1.users) := fun q hq => own_same (h.usr q hq) (fun k hk => by
      refine Below.heap_setCell _ _ _ _ ?_
      intro ek
      obtain ⟨_, _, cur, hcur⟩ := own_block (h.usr q hq) hk
      obtain ⟨_, _, cur2, hcur2⟩ := own_block h.row (k := g) rfl
      rw [show k = g from ek, hcur2] at hcur
      injection hcur with e
      injection e with _ e _
      exact absurd e (by decide))
    rcases List.mem_append.1 hp with hp | hp
    · exact hsame p (List.mem_append.2 (.inl hp))
    · rw [List.mem_singleton] at hp
      subst hp
      have := hsame (m, u) (List.mem_append.2 (.inr (List.mem_singleton.2 rfl)))
      simp only [hu]; exact this
  · have hne := h.ne
    rw [List.pairwise_append] at hne ⊢
    refine ⟨hne.1, List.pairwise_singleton _ _, fun a ha b hb => ?_⟩
    rw [List.mem_singleton] at hb
    subst hb
    exact hne.2.2 a ha (m, u) (List.mem_singleton.2 rfl)
end Go.Proofs.YtkbamneecfmibaaGreatDoor
