/- The row and the tied card of ConfFinds. -/
import Derived.Test.YtkbamneecfmibaaGreatDoorFinds2
import Derived.Test.YtkbamneecfmibaaGreatDoorLaid
namespace Go.Proofs.YtkbamneecfmibaaGreatDoor.confFindsProof
open Go.ChangeShapes Go.WideShapes Go.ChangeAt Go.RowKit C

theorem laidOut : laidOutB Tryz.prog = true := by kernel_rfl
theorem c_cfg : Tryz.prog.cellsOf 25 = 1 := by kernel_rfl
theorem c_two : Tryz.prog.cellsOf 38 = 2 := by kernel_rfl
section
variable {H : Type} {enc : TypeId × Value → H} {W : World} {base b0 : Nat} {sp : Nat → Bool} {held : Bool} {v : Value} {d : DataW H} {ps : List MemPlace}
set_option maxRecDepth 100000 in
theorem rd_config (z : Value.okWide Tryz.prog W .any b0 25 v) (h : DataW.Trod enc Tryz.prog W base sp held 25 v d ps) : ∃ mv ms, v = .agg #[mv] ∧ RdMod W mv ms := by
  unfold Value.okWide at z
  rw [Tryz.underlying25] at z
  obtain ⟨cs, rfl, hc, _⟩ := z
  rw [c_cfg] at hc
  obtain ⟨fuel, h⟩ := h
  obtain ⟨l⟩ := cs
  match l, hc with
  | [mv], _ =>
    obtain ⟨y0, n, _, _, h0⟩ := trod_struct1 Tryz.underlying25 h
    have h1 : DataW.trod enc Tryz.prog W base sp held n 23 (([mv].drop 0).take (Tryz.prog.cellsOf 23)) = some y0 := h0
    rw [show Tryz.prog.cellsOf 23 = 1 from by kernel_rfl] at h1
    obtain ⟨ms, hm⟩ := rd_mods h1
    exact ⟨mv, ms, rfl, hm⟩
set_option maxRecDepth 100000 in
theorem rd_two (z : Value.okWide Tryz.prog W .any b0 38 v) (h : DataW.Trod enc Tryz.prog W base sp held 38 v d ps) : ∃ n0 n1, v = .agg #[.string n0, .string n1] := by
  unfold Value.okWide at z
  rw [Tryz.underlying38] at z
  obtain ⟨cs, rfl, hc, _⟩ := z
  rw [c_two] at hc
  obtain ⟨fuel, h⟩ := h
  obtain ⟨l⟩ := cs
  match l, hc with
  | [a, b], _ =>
    obtain ⟨xs, n, _, _, _, hxl, hi⟩ := DataW.trod_array Tryz.underlying38 h
    match xs, hxl with
    | [x0, x1], _ =>
      have h0 : DataW.trod enc Tryz.prog W base sp held n 9 (([a, b].drop (0 * Tryz.prog.cellsOf 9)).take (Tryz.prog.cellsOf 9)) = some x0 := hi 0 (by omega)
      have h1 : DataW.trod enc Tryz.prog W base sp held n 9 (([a, b].drop (1 * Tryz.prog.cellsOf 9)).take (Tryz.prog.cellsOf 9)) = some x1 := hi 1 (by omega)
      rw [c_str] at h0 h1
      obtain ⟨s0, e0, _⟩ := DataW.trod_string Tryz.underlying9 h0
      obtain ⟨s1, e1, _⟩ := DataW.trod_string Tryz.underlying9 h1
      simp at e0 e1
      exact ⟨s0, s1, by rw [e0, e1]⟩
end

theorem reads (os : Os) {H : Type} (enc : TypeId × Value → H) : ∃ places, DataW.whole enc Tryz.prog ((laidWorld os).forCall (fun _ _ => 0) ⟨#[], #[.agg #[.slice none 0 0], .agg #[.string ⟨#[]⟩, .string ⟨#[]⟩]], []⟩).memory Tryz.f4.params.toList Rows.confFindsSpec.vars false #[Value.agg #[.slice none 0 0], Value.agg #[.string ⟨#[]⟩, .string ⟨#[]⟩]].toList 8 = some ([.agg [.nil], .agg [.lit (.string []), .lit (.string [])]], [], places) :=
  ⟨[], by kernel_rfl⟩

set_option maxRecDepth 100000 in
theorem contract (H : Type) (enc : TypeId × Value → H) (W : World) (base : Nat) (args : Array Value) (ds gs : List (DataW H)) (before : List MemPlace)
    (hval : ∀ (j : Nat) t v, Tryz.f4.params[j]? = some t → args[j]? = some v → Value.okWide Tryz.prog W .any base t v)
    (hW : DataW.Whole enc Tryz.prog Tryz.f4.params.toList Rows.confFindsSpec.vars false W args.toList ds gs before) (hG : GW W) :
    Calls Tryz.prog 4 args W fun e W' => ∃ v, e = .returned v ∧ Rows.confFindsSpec.post enc Tryz.prog Tryz.f4 false true false false W args v W' := by
  have hW' := hW
  obtain ⟨p, q, hA0, hV, rfl, hfz, hnd⟩ := hW
  have hA : DataW.TrodAll enc Tryz.prog W 0 (fun _ => true) true Tryz.f4.params.toList args.toList ds p := hA0
  rw [Tryz.params4] at hA hval
  obtain ⟨v0, vs0, d0, ds0, p0, q0, hargs, rfl, rfl, h0, r0⟩ := trodAll_cons hA
  obtain ⟨v1, vs1, d1, ds1, p1, q1, hargs1, rfl, rfl, h1, r1⟩ := trodAll_cons r0
  obtain ⟨rfl, rfl, rfl⟩ := trodAll_nil r1
  obtain rfl : args = #[v0, v1] := by cases args; simp_all
  obtain ⟨rfl, rfl⟩ := trodVars_none hV
  have z0 := hval 0 25 v0 (by simp) (by simp)
  have z1 := hval 1 38 v1 (by simp) (by simp)
  obtain ⟨mv, ms, rfl, hr⟩ := rd_config z0 h0
  obtain ⟨n0, n1, rfl⟩ := rd_two z1 h1
  have hl0 : ∀ x ∈ p0, x.block < W.heap.size := fun x hx => by simpa using hW'.lt x (by simp [hx])
  have hl1 : ∀ x ∈ p1, x.block < W.heap.size := fun x hx => by simpa using hW'.lt x (by simp [hx])
  clear hA0
  refine (finds_any mv ms n0 n1 W hr hG).mono fun e W' ⟨he, hb⟩ => ?_
  subst he
  exact ⟨_, rfl, _, _, _, [], _, [], hW', trodAll_cons_mk (shut_bool Tryz.underlying4 _) trodAll_mk0, trodAll_cons_mk (Below.trod laidOut (by kernel_rfl) (of_decide_eq_true (by kernel_rfl)) h0 hb hl0) (trodAll_cons_mk (Below.trod laidOut (by kernel_rfl) (of_decide_eq_true (by kernel_rfl)) h1 hb hl1) trodAll_mk0), rfl, hb.frame _, fun h => by cases h⟩

set_option maxRecDepth 100000 in
theorem lifted (os : Os) (started : os.Started) (H : Type) (enc : TypeId × Value → H) (F : Stop.Interp) :
    ReturnsInHanded {} Tryz.checked os 4 .any ((OpenSpec.ofChange Rows.confFindsSpec).preRow enc Tryz.prog Tryz.f4 Rows.confFindsRow.domain false Rows.confFindsRow.laid) (((OpenSpec.ofChange Rows.confFindsSpec).at F).post enc Tryz.prog Tryz.f4 false true false false) := by
  obtain ⟨places, hx⟩ := reads os enc
  refine returnsInHanded_of_row (C := Tryz.checked) (s := OpenSpec.ofChange Rows.confFindsSpec) own started (by kernel_rfl) Tryz.func4
    (witness (enc := enc) os #[.agg #[.slice none 0 0], .agg #[.string ⟨#[]⟩, .string ⟨#[]⟩]] (by kernel_rfl)
      (OpenSpec.preRow_of_cond 8 hx (by kernel_rfl) (fun k hk => by cases hk) (by kernel_rfl) (laid_met os _))) ?_
  intro W base args ds gs before hval hW _ _ _ hL hs _
  exact contract H enc W base args ds gs before hval hW (gw_of_laid hL hs)

theorem said : Rows.ConfFindsSaid :=
  OpenClaim.holds_of_cond 4 Tryz.f4 rfl rfl rfl rfl rfl rfl rfl ⟨rfl, rfl, rfl, rfl, rfl⟩ rfl rfl rfl rfl rfl (by kernel_rfl) Tryz.func4 (by kernel_rfl)
    (of_decide_eq_true (by kernel_rfl)) (by unfold Func.isWrapper; first | (rw [if_pos (by decide +kernel)]; kernel_rfl) | (rw [if_neg (by decide +kernel)]; exact ⟨rfl, rfl⟩))
    (fun os started H enc _ F => by rw [OpenClaim.pre_eq_preRow]; exact lifted os started H enc F)

theorem plain (f : FuncId) (fn : Func) (hf : Tryz.pinned.checked.prog.funcNamed "wharfinger/wharfingerlaw13.ConfFinds" = some f) (hfn : Tryz.pinned.checked.prog.funcs[f]? = some fn) :
    true = Tryz.pinned.checked.prog.looks [] ∧ ∀ (j : Nat) t, fn.params[j]? = some t → Tryz.pinned.checked.prog.wantsStandIn t = false := by
  obtain rfl : f = 4 := Option.some.inj ((show Tryz.prog.funcNamed "wharfinger/wharfingerlaw13.ConfFinds" = some 4 by kernel_rfl).symm.trans hf) |>.symm
  obtain rfl : fn = Tryz.f4 := (Option.some.inj (Tryz.func4.symm.trans hfn)).symm
  refine ⟨by kernel_rfl, fun j t ht => ?_⟩
  rw [Tryz.params4] at ht
  have hm : t = 25 ∨ t = 38 := by simpa using Array.mem_of_getElem? ht
  rcases hm with rfl | rfl
  · exact (show Tryz.prog.wantsStandIn 25 = false by kernel_rfl)
  · exact (show Tryz.prog.wantsStandIn 38 = false by kernel_rfl)

theorem card : Rows.ConfFindsCardSaid :=
  Claim7.holds_tied_plain_at .later [] _ _ _ _ said (fun _ h => by cases h) (by kernel_rfl) (fun _ h => by cases h) confFinds_row_tie rfl ⟨rfl, rfl⟩ (by kernel_rfl) rfl plain (by kernel_rfl)
end Go.Proofs.YtkbamneecfmibaaGreatDoor.confFindsProof
