/- A configuration among the inputs: what the row's reading says of its memory. No conditions. -/
import Derived.Test.YtkbamneecfmibaaGreatDoorCheck
import Derived.OpenShut
import Derived.Deep.Slices
namespace Go.Proofs.YtkbamneecfmibaaGreatDoor
open Go.RowKit Go.ChangeShapes Go.WideShapes Go.Deep
open C

instance : Inhabited Usr := ⟨⟨[], []⟩⟩
instance : Inhabited Mdl := ⟨⟨[], [], false, 0, 0, []⟩⟩
section
variable {H : Type} {enc : TypeId × Value → H} {W : World} {base : Nat} {sp : Nat → Bool} {held : Bool}
theorem addr_add (g o i : Nat) : (⟨g, o, none⟩ : Addr).add i = ⟨g, o + i, none⟩ := by
  unfold Addr.add
  by_cases h : i = 0 <;> simp [h]
theorem rd_slice {t e : TypeId} {k fuel : Nat} {v : Value} {x : DataW H × List MemPlace} (ht : Tryz.prog.underlying t = some (.slice e)) (hk : Tryz.prog.cellsOf e = k) (h0 : 0 < k) (h : DataW.trod enc Tryz.prog W base sp held fuel t [v] = some x) :
    ∃ A len c, v = .slice A len c ∧ len ≤ c ∧ c ≤ 9223372036854775807 ∧ (0 < len → ∃ g o, A = some ⟨g, o, none⟩ ∧ ∀ i, i < len → ∃ cs n y, cs.length = k ∧ (∀ j, j < k → W.cell? ⟨g, o + i * k + j, none⟩ = cs[j]?) ∧ DataW.trod enc Tryz.prog W base sp held n e cs = some y) := by
  rcases open_slice ht h with ⟨h1, _⟩ | ⟨a, len, cap, m, n, D, Pl, h1, _, hl, hm, hmm, _, hx⟩
  · have : v = .slice none 0 0 := by simpa using h1
    subst this
    exact ⟨none, 0, 0, rfl, Nat.le_refl _, by omega, fun h => absurd h (by omega)⟩
  · have : v = .slice (some a) len cap := by simpa using h1
    subst this
    refine ⟨some a, len, cap, rfl, hl, by unfold maxLen at hm; omega, fun hlen => ?_⟩
    have hlm : len ≤ m := by rw [hmm]; split <;> omega
    obtain ⟨g, o, spot⟩ := a
    have hspot : spot = none := by
      obtain ⟨cs, h2, _⟩ := hx 0 (by omega)
      obtain ⟨_, hcl, hc⟩ := World.cells?_some h2
      have h3 := hc 0 (by rw [hk]; exact h0)
      rw [hk] at hcl
      rw [List.getElem?_eq_getElem (by omega)] at h3
      simpa [Addr.add] using World.cell?_spot h3
    subst hspot
    refine ⟨g, o, rfl, fun i hi => ?_⟩
    obtain ⟨cs, h2, h3⟩ := hx i (by omega)
    obtain ⟨_, hcl, hc⟩ := World.cells?_some h2
    rw [hk] at hcl hc
    refine ⟨cs, n, _, hcl, fun j hj => ?_, h3⟩
    have := hc j hj
    rw [addr_add, addr_add] at this
    exact this
theorem c_user : Tryz.prog.cellsOf 54 = 2 := by kernel_rfl
theorem c_mod : Tryz.prog.cellsOf 41 = 6 := by kernel_rfl
theorem c_str : Tryz.prog.cellsOf 9 = 1 := by kernel_rfl
theorem c_bool : Tryz.prog.cellsOf 4 = 1 := by kernel_rfl
theorem c_int : Tryz.prog.cellsOf 3 = 1 := by kernel_rfl
theorem c_us : Tryz.prog.cellsOf 39 = 1 := by kernel_rfl
set_option maxRecDepth 100000 in
theorem rd_user {fuel : Nat} {cs : List Value} {x : DataW H × List MemPlace} (h : DataW.trod enc Tryz.prog W base sp held fuel 54 cs = some x) : ∃ u : Usr, cs = [.string (bs u.name), .string (bs u.secret)] := by
  obtain ⟨y0, y1, n, _, hl, h0, h1⟩ := trod_struct2 Tryz.underlying54 h
  rw [c_user] at hl
  match cs, hl with
  | [a, b], _ =>
    have g0 : DataW.trod enc Tryz.prog W base sp held n 9 (([a, b].drop 0).take (Tryz.prog.cellsOf 9)) = some y0 := h0
    have g1 : DataW.trod enc Tryz.prog W base sp held n 9 (([a, b].drop 1).take (Tryz.prog.cellsOf 9)) = some y1 := h1
    rw [c_str] at g0 g1
    obtain ⟨s0, e0, _⟩ := DataW.trod_string Tryz.underlying9 g0
    obtain ⟨s1, e1, _⟩ := DataW.trod_string Tryz.underlying9 g1
    simp at e0 e1
    exact ⟨⟨s0.data.toList, s1.data.toList⟩, by rw [e0, e1]; rfl⟩
theorem rd_users {fuel : Nat} {v : Value} {x : DataW H × List MemPlace} (h : DataW.trod enc Tryz.prog W base sp held fuel 39 [v] = some x) : ∃ us, RdUsr W v us := by
  obtain ⟨A, len, c, rfl, hl, hc, hx⟩ := rd_slice Tryz.underlying39 c_user (by omega) h
  by_cases h0 : 0 < len
  · obtain ⟨g, o, rfl, hi⟩ := hx h0
    obtain ⟨U, hU⟩ := choose_lt (α := Usr) (n := len) (p := fun i u => W.cell? ⟨g, o + i * 2, none⟩ = some (.string (bs u.name)) ∧ W.cell? ⟨g, o + i * 2 + 1, none⟩ = some (.string (bs u.secret))) (fun i hi' => by
      obtain ⟨cs, n, y, _, hcell, ht⟩ := hi i hi'
      obtain ⟨u, rfl⟩ := rd_user ht
      exact ⟨u, hcell 0 (by omega), hcell 1 (by omega)⟩)
    refine ⟨(List.range len).map U, some ⟨g, o, none⟩, c, by simp, by simpa using hl, hc, fun _ => ⟨g, o, rfl, fun i u hu => ?_⟩⟩
    simp only [List.getElem?_map, Option.map_eq_some_iff] at hu
    obtain ⟨j, hj, rfl⟩ := hu
    obtain ⟨hj1, rfl⟩ := List.getElem?_eq_some_iff.1 hj
    simp only [List.length_range] at hj1
    simp only [List.getElem_range]
    exact hU i hj1
  · exact ⟨[], A, c, by rw [show len = 0 from by omega]; rfl, by simp, hc, fun e => absurd rfl e⟩
set_option maxRecDepth 100000 in
theorem rd_mod {fuel : Nat} {cs : List Value} {x : DataW H × List MemPlace} (h : DataW.trod enc Tryz.prog W base sp held fuel 41 cs = some x) :
    ∃ (m : Mdl) (uv : Value), cs = [.string (bs m.name), .string (bs m.root), .bool m.write, .int .i64 m.slots, .int .i64 m.quota, uv] ∧ RdUsr W uv m.users ∧ m.root.length ≤ 9223372036854775807 := by
  obtain ⟨xs, n, _, _, hl, hxl, hf⟩ := DataW.trod_struct Tryz.underlying41 h
  rw [c_mod] at hl
  match cs, hl, xs, hxl with
  | [a, b, c, d, e, u], _, [x0, x1, x2, x3, x4, x5], _ =>
    have h0 : DataW.trod enc Tryz.prog W base sp held n 9 (([a, b, c, d, e, u].drop 0).take (Tryz.prog.cellsOf 9)) = some x0 := hf 0 _ rfl
    rw [c_str] at h0
    have h1 : DataW.trod enc Tryz.prog W base sp held n 9 (([a, b, c, d, e, u].drop 1).take (Tryz.prog.cellsOf 9)) = some x1 := hf 1 _ rfl
    rw [c_str] at h1
    have h2 : DataW.trod enc Tryz.prog W base sp held n 4 (([a, b, c, d, e, u].drop 2).take (Tryz.prog.cellsOf 4)) = some x2 := hf 2 _ rfl
    rw [c_bool] at h2
    have h3 : DataW.trod enc Tryz.prog W base sp held n 3 (([a, b, c, d, e, u].drop 3).take (Tryz.prog.cellsOf 3)) = some x3 := hf 3 _ rfl
    rw [c_int] at h3
    have h4 : DataW.trod enc Tryz.prog W base sp held n 3 (([a, b, c, d, e, u].drop 4).take (Tryz.prog.cellsOf 3)) = some x4 := hf 4 _ rfl
    rw [c_int] at h4
    have h5 : DataW.trod enc Tryz.prog W base sp held n 39 (([a, b, c, d, e, u].drop 5).take (Tryz.prog.cellsOf 39)) = some x5 := hf 5 _ rfl
    rw [c_us] at h5
    obtain ⟨s0, e0, _⟩ := DataW.trod_string Tryz.underlying9 h0
    obtain ⟨s1, e1, _, z1⟩ := DataW.trod_string Tryz.underlying9 h1
    obtain ⟨b2, e2, _⟩ := DataW.trod_bool Tryz.underlying4 h2
    obtain ⟨n3, e3, _⟩ := DataW.trod_int Tryz.underlying3 h3
    obtain ⟨n4, e4, _⟩ := DataW.trod_int Tryz.underlying3 h4
    obtain ⟨us, hus⟩ := rd_users (v := u) h5
    simp at e0 e1 e2 e3 e4
    refine ⟨⟨s0.data.toList, s1.data.toList, b2, n3, n4, us⟩, u, by rw [e0, e1, e2, e3, e4]; rfl, hus, ?_⟩
    show s1.data.toList.length ≤ _
    rw [show s1.data.toList.length = s1.size from Array.length_toList]
    unfold maxLen at z1
    omega
theorem rd_mods {fuel : Nat} {v : Value} {x : DataW H × List MemPlace} (h : DataW.trod enc Tryz.prog W base sp held fuel 23 [v] = some x) : ∃ ms, RdMod W v ms := by
  obtain ⟨A, len, c, rfl, hl, hc, hx⟩ := rd_slice Tryz.underlying23 c_mod (by omega) h
  by_cases h0 : 0 < len
  · obtain ⟨g, o, rfl, hi⟩ := hx h0
    obtain ⟨U, hU⟩ := choose_lt (α := Mdl) (n := len) (p := fun i m => W.cell? ⟨g, o + i * 6, none⟩ = some (.string (bs m.name)) ∧ W.cell? ⟨g, o + i * 6 + 1, none⟩ = some (.string (bs m.root)) ∧ W.cell? ⟨g, o + i * 6 + 2, none⟩ = some (.bool m.write)
        ∧ W.cell? ⟨g, o + i * 6 + 3, none⟩ = some (.int .i64 m.slots) ∧ W.cell? ⟨g, o + i * 6 + 4, none⟩ = some (.int .i64 m.quota) ∧ ∃ uv, W.cell? ⟨g, o + i * 6 + 5, none⟩ = some uv ∧ RdUsr W uv m.users) (fun i hi' => by
      obtain ⟨cs, n, y, _, hcell, ht⟩ := hi i hi'
      obtain ⟨m, uv, rfl, hus, _⟩ := rd_mod ht
      exact ⟨m, hcell 0 (by omega), hcell 1 (by omega), hcell 2 (by omega), hcell 3 (by omega), hcell 4 (by omega), uv, hcell 5 (by omega), hus⟩)
    refine ⟨(List.range len).map U, some ⟨g, o, none⟩, c, by simp, by simpa using hl, hc, fun _ => ⟨g, o, rfl, fun i u hu => ?_⟩⟩
    simp only [List.getElem?_map, Option.map_eq_some_iff] at hu
    obtain ⟨j, hj, rfl⟩ := hu
    obtain ⟨hj1, rfl⟩ := List.getElem?_eq_some_iff.1 hj
    simp only [List.length_range] at hj1
    simp only [List.getElem_range]
    exact hU i hj1
  · exact ⟨[], A, c, by rw [show len = 0 from by omega]; rfl, by simp, hc, fun e => absurd rfl e⟩
end
end Go.Proofs.YtkbamneecfmibaaGreatDoor
