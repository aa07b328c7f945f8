/- A map[string]bool of the call's own all of whose values are true: a look, a store. No conditions. -/
import Derived.Test.YtkbamneecfmibaaGreatDoorCheck
import Derived.MapKept
namespace Go.Proofs.YtkbamneecfmibaaGreatDoor
open Go.RowKit
open C Go.MapKept

abbrev tSB : Nat := 65
abbrev tStr : Nat := 9
def userKey : Bs := [117, 115, 101, 114]
/-- Block sb is a map from texts whose values are all true; beside the word user its keys are S. -/
def SeenRep (w : World) (sb : Nat) (S : List Bs) : Prop :=
  ∃ es clk, w.heap[sb]? = some (.map es clk) ∧ (∀ e ∈ es.toList, ∃ k : Bs, e.key = .string (bs k) ∧ e.val = .bool true) ∧ ∀ k : Bs, k ≠ userKey → (k ∈ S ↔ ∃ e ∈ es.toList, e.key = .string (bs k))

theorem bs_inj {a b : Bs} (h : bs a = bs b) : a = b := by
  have := congrArg (fun s => s.data.toList) h
  simpa [bs_data] using this
theorem find_str (a : ByteArray) (es : List MapEntry) (h : ∀ e ∈ es, ∃ k : Bs, e.key = .string (bs k) ∧ e.val = .bool true) :
    ∃ r, Instr.findNow .string (.string a) es 0 = some r ∧ ((r = none ∧ ∀ e ∈ es, e.key ≠ .string a) ∨ ∃ j e, r = some (j, .bool true) ∧ es[j]? = some e ∧ e.key = .string a) := by
  rcases findNow_spec (d := .string) (k := .string a) trivial es 0 (fun x hx => by obtain ⟨k, hk, _⟩ := h x hx; rw [hk]; trivial) with ⟨h1, h2⟩ | ⟨j, e, h1, h2, h3⟩
  · exact ⟨_, h1, .inl ⟨rfl, h2⟩⟩
  · obtain ⟨_, _, hv⟩ := h e (List.mem_of_getElem? h2)
    exact ⟨_, h1, .inr ⟨j, e, by rw [hv]; simp, h2, h3⟩⟩
theorem uSB : Tryz.prog.underlying tSB = some (.map tStr 4) := by kernel_rfl
theorem uStr : Tryz.prog.underlying tStr = some .string := by kernel_rfl
theorem zBool (w : World) : (zeroValue 4).run Tryz.prog w = .ok (.bool false) w := by kernel_rfl

theorem seen_look (w : World) (sb : Nat) (S : List Bs) (k : ByteArray) (h : SeenRep w sb S) (hk : k.data.toList ≠ userKey) :
    (Instr.lookup tSB (.map (some sb)) (.string k) false).run Tryz.prog w = .ok (.bool (S.contains k.data.toList)) w := by
  obtain ⟨es, clk, hb, he, hS⟩ := h
  obtain ⟨r, hr, hc⟩ := find_str k es.toList he
  have e : S.contains k.data.toList = r.isSome := by
    rw [Bool.eq_iff_iff, List.contains_iff_mem, hS _ hk]
    rcases hc with ⟨rfl, hn⟩ | ⟨j, x, rfl, hx, hxk⟩
    · simp only [Option.isSome_none, Bool.false_eq_true, iff_false]
      rintro ⟨x, hx, hxk⟩; exact hn x hx (by rw [hxk, bs_of])
    · simp only [Option.isSome_some, iff_true]
      exact ⟨x, List.mem_of_getElem? hx, by rw [hxk, bs_of]⟩
  rw [e]
  rcases hc with ⟨rfl, hn⟩ | ⟨j, x, rfl, hx, hxk⟩
  · simp [Instr.lookup, run_underlying uSB, Go.MapKept.run_getObj_map hb, run_checkKey uStr (k := .string k) trivial, run_findKey uStr hr, Result.andThen, zBool]
  · simp [Instr.lookup, run_underlying uSB, Go.MapKept.run_getObj_map hb, run_checkKey uStr (k := .string k) trivial, run_findKey uStr hr, Result.andThen]

theorem seen_store (w : World) (sb B : Nat) (S : List Bs) (k : ByteArray) (h : SeenRep w sb S) (hB : B ≤ sb) :
    ∃ w1, (Instr.mapUpdate tSB (.map (some sb)) (.string k) (.bool true)).run Tryz.prog w = .ok () w1 ∧ Below B w w1 ∧ w1.heap.size = w.heap.size ∧ (∀ b, b ≠ sb → w1.heap[b]? = w.heap[b]?) ∧ SeenRep w1 sb (if k.data.toList = userKey then S else k.data.toList :: S) := by
  obtain ⟨es, clk, hb, he, hS⟩ := h
  have hlt : sb < w.heap.size := (Array.getElem?_eq_some_iff.1 hb).1
  obtain ⟨r, hr, hc⟩ := find_str k es.toList he
  have hset : ∀ o : Obj, Below B w { w with heap := w.heap.setIfInBounds sb o } ∧ ({ w with heap := w.heap.setIfInBounds sb o } : World).heap.size = w.heap.size ∧ (∀ b, b ≠ sb → ({ w with heap := w.heap.setIfInBounds sb o } : World).heap[b]? = w.heap[b]?) ∧ ({ w with heap := w.heap.setIfInBounds sb o } : World).heap[sb]? = some o := by
    intro o
    have h2 : ∀ b, b ≠ sb → ({ w with heap := w.heap.setIfInBounds sb o } : World).heap[b]? = w.heap[b]? := fun b hb' => by
      show (w.heap.setIfInBounds sb o)[b]? = _
      rw [Array.getElem?_setIfInBounds_ne (Ne.symm hb')]
    refine ⟨⟨rfl, rfl, rfl, by simp, fun b hbB => h2 b (by omega)⟩, by simp, h2, ?_⟩
    show (w.heap.setIfInBounds sb o)[sb]? = _
    rw [Array.getElem?_setIfInBounds_self_of_lt hlt]
  rcases hc with ⟨rfl, hn⟩ | ⟨j, x, rfl, hx, hxk⟩
  · obtain ⟨s1, s2, s3, s4⟩ := hset (.map (es.push { key := .string k, val := .bool true, born := clk }) (clk + 1))
    refine ⟨_, ?_, s1, s2, s3, ⟨_, _, s4, ?_, ?_⟩⟩
    · simp [Instr.mapUpdate, run_underlying uSB, Go.MapKept.run_getObj_map hb, run_checkKey uStr (k := .string k) trivial, run_findKey uStr hr, run_setObj_map _ hb, Result.andThen]
    · intro e hm
      rw [Array.toList_push, List.mem_append] at hm
      rcases hm with hm | hm
      · exact he e hm
      · simp at hm; subst hm; exact ⟨k.data.toList, by rw [bs_of], rfl⟩
    · intro q hq
      have hex : (∃ e ∈ (es.push { key := .string k, val := .bool true, born := clk }).toList, e.key = .string (bs q)) ↔ ((∃ e ∈ es.toList, e.key = .string (bs q)) ∨ k = bs q) := by
        rw [Array.toList_push]
        constructor
        · rintro ⟨e, hm, hk⟩
          rcases List.mem_append.1 hm with hm | hm
          · exact .inl ⟨e, hm, hk⟩
          · simp at hm; subst hm; injection hk with hk; exact .inr hk
        · rintro (⟨e, hm, hk⟩ | rfl)
          · exact ⟨e, List.mem_append.2 (.inl hm), hk⟩
          · exact ⟨_, List.mem_append.2 (.inr (List.mem_singleton.2 rfl)), rfl⟩
      rw [hex, ← hS q hq]
      by_cases hu : k.data.toList = userKey
      · rw [if_pos hu]
        constructor
        · exact .inl
        · rintro (h | rfl)
          · exact h
          · exact absurd (by rw [bs_data] at hu; exact hu) hq
      · rw [if_neg hu, List.mem_cons]
        constructor
        · rintro (rfl | h)
          · exact .inr rfl
          · exact .inl h
        · rintro (h | rfl)
          · exact .inr h
          · exact .inl rfl
  · have hj : j < es.size := by have := (List.getElem?_eq_some_iff.1 hx).1; simpa using this
    have hxe : es[j]? = some x := by rw [← Array.getElem?_toList]; exact hx
    obtain ⟨s1, s2, s3, s4⟩ := hset (.map (es.modify j fun e => { e with key := .string k, val := .bool true }) clk)
    have hxv : x.val = .bool true := by obtain ⟨_, _, hv⟩ := he x (List.mem_of_getElem? hx); exact hv
    have hmod : (es.modify j fun e => { e with key := .string k, val := .bool true }).toList = es.toList := by
      apply List.ext_getElem?
      intro i
      rw [Array.getElem?_toList, Array.getElem?_toList, Array.getElem?_modify]
      by_cases hij : j = i
      · subst hij
        rw [if_pos rfl, hxe]
        obtain ⟨key, val, born⟩ := x
        simp only at hxk hxv
        subst hxk; subst hxv; rfl
      · rw [if_neg hij]
    refine ⟨_, ?_, s1, s2, s3, ⟨_, _, s4, ?_, ?_⟩⟩
    · simp [Instr.mapUpdate, run_underlying uSB, Go.MapKept.run_getObj_map hb, run_checkKey uStr (k := .string k) trivial, run_findKey uStr hr, run_setObj_map _ hb, Result.andThen, hxe, hxk, run_keyThatStays (d := .string) (k := .string k) trivial]
    · rw [hmod]; exact he
    · intro q hq
      rw [hmod, ← hS q hq]
      by_cases hu : k.data.toList = userKey
      · rw [if_pos hu]
      · rw [if_neg hu, List.mem_cons]
        constructor
        · rintro (rfl | h)
          · exact (hS _ hu).2 ⟨x, List.mem_of_getElem? hx, by rw [hxk, bs_of]⟩
          · exact h
        · exact .inr
end Go.Proofs.YtkbamneecfmibaaGreatDoor
