/- How modules and users lie in memory; (conf.Module).Secret, (conf.Config).Find. No conditions but where they lie. -/
import Derived.Test.YtkbamneecfmibaaGreatDoorNumr
namespace Go.Proofs.YtkbamneecfmibaaGreatDoor
open Go.RowKit
open C

def bs (l : Bs) : ByteArray := ⟨l.toArray⟩
theorem bs_data (l : Bs) : (bs l).data.toList = l := rfl
theorem bs_of (s : ByteArray) : bs s.data.toList = s := rfl
theorem bs_eq (s : ByteArray) (l : Bs) : (s.toList == (bs l).toList) = (s.data.toList == l) := by rw [Lib.toList_data, Lib.toList_data, bs_data]
theorem bs_eq' (s : ByteArray) (l : Bs) : ((bs l).toList == s.toList) = (l == s.data.toList) := by rw [Lib.toList_data, Lib.toList_data, bs_data]

abbrev tUser : Nat := 54
abbrev tMod : Nat := 41

/-- A slice of users, to be read. -/
def RdUsr (w : World) (v : Value) (us : List Usr) : Prop :=
  ∃ A c, v = .slice A us.length c ∧ us.length ≤ c ∧ c ≤ 9223372036854775807 ∧ (us ≠ [] → ∃ g o, A = some ⟨g, o, none⟩ ∧ ∀ (i : Nat) (u : Usr), us[i]? = some u →
    w.cell? ⟨g, o + i * 2, none⟩ = some (.string (bs u.name)) ∧ w.cell? ⟨g, o + i * 2 + 1, none⟩ = some (.string (bs u.secret)))
/-- A slice of modules, to be read. -/
def RdMod (w : World) (v : Value) (ms : List Mdl) : Prop :=
  ∃ A c, v = .slice A ms.length c ∧ ms.length ≤ c ∧ c ≤ 9223372036854775807 ∧ (ms ≠ [] → ∃ g o, A = some ⟨g, o, none⟩ ∧ ∀ (i : Nat) (m : Mdl), ms[i]? = some m →
    w.cell? ⟨g, o + i * 6, none⟩ = some (.string (bs m.name)) ∧ w.cell? ⟨g, o + i * 6 + 1, none⟩ = some (.string (bs m.root)) ∧ w.cell? ⟨g, o + i * 6 + 2, none⟩ = some (.bool m.write)
    ∧ w.cell? ⟨g, o + i * 6 + 3, none⟩ = some (.int .i64 m.slots) ∧ w.cell? ⟨g, o + i * 6 + 4, none⟩ = some (.int .i64 m.quota) ∧ ∃ uv, w.cell? ⟨g, o + i * 6 + 5, none⟩ = some uv ∧ RdUsr w uv m.users)
theorem RdUsr.below {w w1 : World} {v : Value} {us : List Usr} (h : RdUsr w v us) (hb : Below w.heap.size w w1) : RdUsr w1 v us := by
  obtain ⟨A, c, rfl, hc, hm, h⟩ := h
  refine ⟨A, c, rfl, hc, hm, fun hne => ?_⟩
  obtain ⟨g, o, hA, h2⟩ := h hne
  exact ⟨g, o, hA, fun i u hu => ⟨Below.cell_some hb (Nat.le_refl _) (h2 i u hu).1, Below.cell_some hb (Nat.le_refl _) (h2 i u hu).2⟩⟩
theorem RdMod.below {w w1 : World} {v : Value} {ms : List Mdl} (h : RdMod w v ms) (hb : Below w.heap.size w w1) : RdMod w1 v ms := by
  obtain ⟨A, c, rfl, hc, hm, h⟩ := h
  refine ⟨A, c, rfl, hc, hm, fun hne => ?_⟩
  obtain ⟨g, o, hA, h9⟩ := h hne
  refine ⟨g, o, hA, fun i m hm => ?_⟩
  obtain ⟨h0, h1, h2, h3, h4, uv, h5, h6⟩ := h9 i m hm
  exact ⟨Below.cell_some hb (Nat.le_refl _) h0, Below.cell_some hb (Nat.le_refl _) h1, Below.cell_some hb (Nat.le_refl _) h2, Below.cell_some hb (Nat.le_refl _) h3, Below.cell_some hb (Nat.le_refl _) h4, uv, Below.cell_some hb (Nat.le_refl _) h5, h6.below hb⟩

/-- What (conf.Module).Secret comes to. -/
def PSec (us : List Usr) (n : Bs) (w : World) (e : Ending) (w' : World) : Prop :=
  (∃ (t : ByteArray) (ok : Bool), e = .returned (.tuple #[.string t, .bool ok]) ∧ ((ok = true ∧ secretOf us n = some t.data.toList) ∨ (ok = false ∧ t.data.toList = [] ∧ secretOf us n = none))) ∧ Below w.heap.size w w'

theorem secret_none {us : List Usr} {n : Bs} (h : ∀ (i : Nat) (u : Usr), us[i]? = some u → (u.name == n) = false) : secretOf us n = none := by
  unfold secretOf
  rw [Option.map_eq_none_iff, List.find?_eq_none]
  intro u hu
  obtain ⟨i, hi⟩ := List.getElem?_of_mem hu
  simp [h i u hi]
theorem find_at {α : Type} (p : α → Bool) : ∀ {l : List α} {k : Nat} {u : α}, l[k]? = some u → p u = true → (∀ (i : Nat) (x : α), i < k → l[i]? = some x → p x = false) → l.find? p = some u
  | [], k, u, h, _, _ => by simp at h
  | x :: l, 0, u, h, hp, _ => by simp at h; subst h; simp [List.find?, hp]
  | x :: l, k + 1, u, h, hp, hall => by
    have hx := hall 0 x (by omega) rfl
    rw [List.find?_cons, hx]
    exact find_at p (l := l) (k := k) (by simpa using h) hp (fun i y hi hy => hall (i + 1) y (by omega) (by simpa using hy))
theorem secret_at {us : List Usr} {n : Bs} {k : Nat} {u : Usr} (h : us[k]? = some u) (hp : (u.name == n) = true) (hall : ∀ (i : Nat) (x : Usr), i < k → us[i]? = some x → (x.name == n) = false) : secretOf us n = some u.secret := by
  unfold secretOf
  rw [find_at _ h hp hall]; rfl

set_option maxHeartbeats 1000000 in
theorem secret_any (nm rt : ByteArray) (wr : Bool) (sl q : Int) (uv : Value) (us : List Usr) (n : ByteArray) (w : World) (hr : RdUsr w uv us) :
    Calls Tryz.prog 18 #[.agg #[.string nm, .string rt, .bool wr, .int .i64 sl, .int .i64 q, uv], .string n] w (PSec us n.data.toList w) := by
  obtain ⟨A, c, rfl, hc, hcm, hr⟩ := hr
  have HR := Lib.hid hr
  clear hr
  go_enter Tryz.func18, Tryz.ntmps18
  go_wp2_with fail
  go_loopw [7, 11] (fun _ iv wr => ∃ i : Nat, i ≤ us.length ∧ iv = .int .i64 i ∧ Below w.heap.size w wr ∧ Hid (∀ (j : Nat) (x : Usr), j < i → us[j]? = some x → (x.name == n.data.toList) = false)) (fun _ iv _ => us.length - (intOf iv).toNat)
  case atStart => exact ⟨0, by omega, rfl, (Below.refl _ _).alloc (Nat.le_refl _) _, Lib.hid (fun j x h => by omega)⟩
  case round =>
    obtain ⟨i, hi, rfl, hb, hall⟩ := hrel
    by_cases hlt : i < us.length
    · obtain ⟨g, o, hA, hcell⟩ := HR.out (by intro e; rw [e] at hlt; simp at hlt)
      have hu : us[i]? = some us[i] := List.getElem?_eq_getElem hlt
      subst hA
      obtain ⟨c0, c1⟩ := hcell i _ hu
      have HU := Lib.hid hu
      clear hcell hu
      generalize us[i] = u at c0 c1 HU
      have k0 : wr.cell? ⟨g, o + i * 2, none⟩ = some (.string (bs u.name)) := Below.cell_some hb (Nat.le_refl _) c0
      have k1 : wr.cell? ⟨g, o + i * 2 + 1, none⟩ = some (.string (bs u.secret)) := Below.cell_some hb (Nat.le_refl _) c1
      clear c0 c1
      have ebs : ((bs u.name).toList == n.toList) = (u.name == n.data.toList) := bs_eq' _ _
      by_cases hq : (u.name == n.data.toList) = true
      · have t1 : ((bs u.name).toList == n.toList) = true := by rw [ebs]; exact hq
        have HQ : Hid (secretOf us n.data.toList = some u.secret) := Lib.hid (secret_at HU.out hq hall.out)
        clear ebs hq
        generalize hnm : bs u.name = nmv at k0 t1
        clear hnm
        have HS : Hid ((bs u.secret).data.toList = u.secret) := Lib.hid rfl
        generalize bs u.secret = scv at k1 HS
        go_wp2_with fail
        go_ret2
        exact ⟨⟨scv, true, rfl, .inl ⟨rfl, by rw [HQ.out, HS.out]⟩⟩, hb.alloc hb.size _⟩
      · have hq' : (u.name == n.data.toList) = false := by simpa using hq
        have t1 : ((bs u.name).toList == n.toList) = false := by rw [ebs]; exact hq'
        have HQ := Lib.hid hq'
        clear ebs hq hq'
        generalize hnm : bs u.name = nmv at k0 t1
        clear hnm
        generalize bs u.secret = scv at k1
        go_wp2_with fail
        go_roundw
        case rel => exact ⟨i + 1, by omega, by go_num, hb.alloc hb.size _, Lib.hid (fun j x hj hx => by
          by_cases e : j = i
          · subst e; rw [HU.out] at hx; injection hx with hx; subst hx; exact HQ.out
          · exact hall.out j x (by omega) hx)⟩
        case measure => simp [intOf]; omega
    · have HQ : Hid (secretOf us n.data.toList = none) := Lib.hid (secret_none (fun j x hx => hall.out j x (by have := (List.getElem?_eq_some_iff.1 hx).1; omega) hx))
      go_wp2_with fail
      go_ret2
      exact ⟨⟨_, false, rfl, .inr ⟨rfl, rfl, HQ.out⟩⟩, hb⟩
end Go.Proofs.YtkbamneecfmibaaGreatDoor
