/- conf.Parse. Conditions: GW; the text is shorter than 2^32 - 16 bytes. -/
import Derived.Test.YtkbamneecfmibaaGreatDoorSet3
namespace Go.Proofs.YtkbamneecfmibaaGreatDoor
open Go.RowKit
open C

abbrev tConf : Nat := 25
theorem trim_any (s : ByteArray) (w : World) (hs : s.size ≤ 9223372036854775807) :
    Calls Tryz.prog 22 #[.string s, .string ⟨#[32]⟩] w fun e w' => ∃ t : ByteArray, t.data.toList = trim s.data.toList ∧ e = .returned (.string t) ∧ Below w.heap.size w w' := by
  refine (Tryz.strings_Trim_one s 32 (by decide) w hs).mono ?_
  rintro e w' ⟨rfl, hw⟩
  refine ⟨_, rfl, rfl, ?_⟩
  rcases hw with rfl | rfl
  · exact Below.refl _ _
  · exact (Below.refl _ _).drew
theorem trimL_any (s : ByteArray) (w : World) :
    Calls Tryz.prog 28 #[.string s, .string ⟨#[32]⟩] w fun e w' => ∃ t : ByteArray, t.data.toList = Lib.trimLeftB s.data.toList 32 ∧ e = .returned (.string t) ∧ Below w.heap.size w w' := by
  refine (Tryz.strings_TrimLeft_one s 32 (by decide) w).mono ?_
  rintro e w' ⟨rfl, rfl⟩
  exact ⟨_, rfl, rfl, Below.refl _ _⟩
theorem trimR_any (s : ByteArray) (w : World) (hs : s.size ≤ 9223372036854775807) :
    Calls Tryz.prog 27 #[.string s, .string ⟨#[32]⟩] w fun e w' => ∃ t : ByteArray, t.data.toList = Lib.trimRightB s.data.toList 32 ∧ e = .returned (.string t) ∧ Below w.heap.size w w' := by
  refine (Tryz.strings_TrimRight_one s 32 (by decide) w hs).mono ?_
  rintro e w' ⟨rfl, rfl⟩
  exact ⟨_, rfl, rfl, Below.refl _ _⟩

theorem dropWhile_len {α : Type} (p : α → Bool) : ∀ l : List α, (l.dropWhile p).length ≤ l.length
  | [] => by simp
  | a :: l => by
    rw [List.dropWhile_cons]
    split
    · have := dropWhile_len p l; simp; omega
    · simp
theorem trimR_len (l : Bs) : (Lib.trimRightB l 32).length ≤ l.length := by
  unfold Lib.trimRightB
  rw [List.length_reverse]
  have := dropWhile_len (· == (32 : UInt8)) l.reverse
  rw [List.length_reverse] at this; exact this
theorem trimL_len (l : Bs) : (Lib.trimLeftB l 32).length ≤ l.length := dropWhile_len _ l
theorem trim_len (l : Bs) : (trim l).length ≤ l.length := by
  unfold trim Lib.trimB
  exact Nat.le_trans (trimL_len _) (trimR_len _)
theorem splitOn_len (c : UInt8) : ∀ l : Bs, (splitOn c l).length ≤ l.length + 1
  | [] => by simp [splitOn]
  | b :: l => by
    have ih := splitOn_len c l
    rw [splitOn_cons]
    by_cases hb : b = c
    · simp [hb]; omega
    · simp only [beq_iff_eq, hb, if_false]
      cases hsp : splitOn c l with
      | nil => simp
      | cons y t => rw [hsp] at ih; simp at ih ⊢; omega
theorem alloc_at (w : World) (o : Obj) (n : Nat) (h : w.heap.size = n) : (w.alloc o).heap[n]? = some o := by subst h; exact heap_alloc_new _ _
theorem line_lt {s : ByteArray} {c : UInt8} {ps : List ByteArray} (h : ps.map (fun p => p.data.toList) = splitOn c s.data.toList) {i : Nat} (hi : i < ps.length) : ps[i].size ≤ s.size := by
  have hm : ps[i].data.toList ∈ splitOn c s.data.toList := by rw [← h]; exact List.mem_map.2 ⟨_, List.getElem_mem hi, rfl⟩
  have hall : ∀ (l : Bs) (x : Bs), x ∈ splitOn c l → x.length ≤ l.length := by
    intro l
    induction l with
    | nil => intro x hx; simp [splitOn] at hx; subst hx; simp
    | cons b l ih =>
      intro x hx
      rw [splitOn_cons] at hx
      by_cases hb : b = c
      · simp [hb] at hx
        rcases hx with rfl | hx
        · simp
        · have := ih x hx; simp; omega
      · simp only [beq_iff_eq, hb, if_false] at hx
        cases hsp : splitOn c l with
        | nil => exact absurd hsp (splitOn_ne c l)
        | cons y t =>
          rw [hsp] at hx ih
          rcases List.mem_cons.1 hx with rfl | hx
          · have := ih y List.mem_cons_self; simp; omega
          · have := ih x (List.mem_cons_of_mem _ hx); simp; omega
  have := hall _ _ hm
  rw [Lib.size_eq, Lib.size_eq s]; exact this

/-- The state of Parse at a line's head: block w.heap.size is the result, the next one the modules' variable, the next one the lines. -/
structure PInv (w wr : World) (lines : List ByteArray) (i : Nat) (mv sv : Value) (L : List (Mdl × Value)) (S : List Bs) : Prop where
  below : Below w.heap.size w wr
  res : wr.heap[w.heap.size]? = some (.cells #[.slice none 0 0] tConf (0, 0))
  var : wr.heap[w.heap.size + 1]? = some (.cells #[mv] tConf (0, 0))
  lns : wr.heap[w.heap.size + 2]? = some (.cells (lines.map Value.string).toArray tStr (0, 0))
  own : OwnMods wr (w.heap.size + 3) mv L
  seen : (L = [] ∧ S = [] ∧ sv = .map none) ∨ (L ≠ [] ∧ ∃ sb, sv = .map (some sb) ∧ SeenRep wr sb S ∧ w.heap.size + 3 ≤ sb)
  few : L.length ≤ 8
  fewU : ∀ p ∈ L, p.1.users.length ≤ 8
  roots : ∀ p ∈ L, p.1.root.length ≤ 64
  prog : goLines 0 (lines.map fun l => l.data.toList) [] [] = goLines i ((lines.map fun l => l.data.toList).drop i) (L.map (·.1)) S

/-- What Parse comes to. -/
def PParse (text : Bs) (w : World) (e : Ending) (w' : World) : Prop :=
  ∃ v ev, e = .returned (.tuple #[.agg #[v], ev]) ∧ Below w.heap.size w w' ∧
    (((parse text).1 = 0 ∧ ev = .nilIface ∧ ∃ L, L.map (·.1) = (parse text).2.2 ∧ OwnMods w' w.heap.size v L) ∨
     ((parse text).1 ≠ 0 ∧ v = .slice none 0 0 ∧ ∃ fb, ev = .iface tFaultP (.pointer (some ⟨fb, 0, none⟩)) ∧ w'.cell? ⟨fb, 0, none⟩ = some (.int .i64 (parse text).2.1) ∧ w'.cell? ⟨fb, 1, none⟩ = some (.int .i64 (parse text).1)))

theorem PInv.move {w wr w' : World} {lines : List ByteArray} {i : Nat} {mv sv : Value} {L : List (Mdl × Value)} {S : List Bs} (h : PInv w wr lines i mv sv L S) (hb : Below wr.heap.size wr w') : PInv w w' lines i mv sv L S := by
  have lt : ∀ {k : Nat} {o : Obj}, wr.heap[k]? = some o → w'.heap[k]? = some o := fun hk => by
    rw [hb.block _ (Array.getElem?_eq_some_iff.1 hk).1]; exact hk
  refine ⟨h.below.trans (hb.mono h.below.size), lt h.res, lt h.var, lt h.lns, h.own.below hb, ?_, h.few, h.fewU, h.roots, h.prog⟩
  rcases h.seen with h | ⟨h1, sb, h2, h3, h4⟩
  · exact .inl h
  · exact .inr ⟨h1, sb, h2, h3.below hb, h4⟩
/-- The cells that the walk reads and writes. -/
theorem PInv.cells {w wr : World} {lines : List ByteArray} {i : Nat} {mv sv : Value} {L : List (Mdl × Value)} {S : List Bs} (h : PInv w wr lines i mv sv L S) :
    w.heap.size < wr.heap.size ∧ w.heap.size + 1 < wr.heap.size ∧ wr.cell? ⟨w.heap.size, 0, none⟩ = some (.slice none 0 0) ∧ wr.frozen? ⟨w.heap.size, 0, none⟩ = false ∧ wr.cell? ⟨w.heap.size + 1, 0, none⟩ = some mv ∧ wr.frozen? ⟨w.heap.size + 1, 0, none⟩ = false ∧ w.heap.size + 3 ≤ wr.heap.size := by
  have h1 := (Array.getElem?_eq_some_iff.1 h.res).1
  have h2 := (Array.getElem?_eq_some_iff.1 h.var).1
  have h3 := (Array.getElem?_eq_some_iff.1 h.lns).1
  refine ⟨h1, h2, ?_, ?_, ?_, ?_, by omega⟩
  · simp [World.cell?, h.res]
  · simp [World.frozen?, h.res]
  · simp [World.cell?, h.var]
  · simp [World.frozen?, h.var]
theorem go_step {i : Nat} {ls : List Bs} {l : Bs} {ms : List Mdl} {S : List Bs} (hl : ls[i]? = some l) : goLines i (ls.drop i) ms S = if (lineStep ms S l).1 = 0 then goLines (i + 1) (ls.drop (i + 1)) (lineStep ms S l).2.1 (lineStep ms S l).2.2 else ((lineStep ms S l).1, i, []) := by
  obtain ⟨hi, rfl⟩ := List.getElem?_eq_some_iff.1 hl
  rw [List.drop_eq_getElem_cons hi]; rfl
theorem PInv.err {w wr : World} {lines : List ByteArray} {i : Nat} {mv sv : Value} {L : List (Mdl × Value)} {S : List Bs} (h : PInv w wr lines i mv sv L S) {l : Bs} (hl : (lines.map fun l => l.data.toList)[i]? = some l) {E : Int} (hE : (lineStep (L.map (·.1)) S l).1 = E) (h0 : E ≠ 0) {text : Bs} (ht : lines.map (fun l => l.data.toList) = splitOn 10 text) (h8 : ¬ 8192 < text.length) : parse text = (E, i, []) := by
  have := h.prog
  rw [go_step hl, hE, if_neg h0] at this
  unfold parse
  rw [if_neg h8, ← ht, this]
  simp only
  rw [if_neg h0]
theorem PInv.next {w wr : World} {lines : List ByteArray} {i : Nat} {mv sv : Value} {L : List (Mdl × Value)} {S : List Bs} (h : PInv w wr lines i mv sv L S) {l : Bs} (hl : (lines.map fun l => l.data.toList)[i]? = some l) {x : Int × List Mdl × List Bs} (hx : lineStep (L.map (·.1)) S l = x) (h0 : x.1 = 0) : goLines 0 (lines.map fun l => l.data.toList) [] [] = goLines (i + 1) ((lines.map fun l => l.data.toList).drop (i + 1)) x.2.1 x.2.2 := by
  rw [h.prog, go_step hl, hx, if_pos h0]
theorem PInv.same {w wr : World} {lines : List ByteArray} {i : Nat} {mv sv : Value} {L : List (Mdl × Value)} {S : List Bs} (h : PInv w wr lines i mv sv L S) {l : Bs} (hl : (lines.map fun l => l.data.toList)[i]? = some l) (hx : lineStep (L.map (·.1)) S l = (0, L.map (·.1), S)) : PInv w wr lines (i + 1) mv sv L S :=
  ⟨h.below, h.res, h.var, h.lns, h.own, h.seen, h.few, h.fewU, h.roots, h.next hl hx rfl⟩
theorem pparse_err {text : Bs} {w W : World} {E : Int} {i : Nat} (hE : parse text = (E, i, [])) (h0 : E ≠ 0) (hb : Below w.heap.size w W) :
    PParse text w (.returned (.tuple #[.agg #[.slice none 0 0], .iface tFaultP (.pointer (some ⟨W.heap.size, 0, none⟩))])) ((W.setCell ⟨w.heap.size, 0, none⟩ (.slice none 0 0)).alloc (.cells #[.int .i64 i, .int .i64 E] 64)) := by
  have hsz : (W.setCell ⟨w.heap.size, 0, none⟩ (.slice none 0 0)).heap.size = W.heap.size := by simp [World.setCell]
  refine ⟨_, _, rfl, (hb.setCell (p := ⟨w.heap.size, 0, none⟩) (Nat.le_refl _) _).alloc (by rw [hsz]; exact hb.size) _, .inr ⟨by rw [hE]; exact h0, rfl, _, rfl, ?_, ?_⟩⟩
  · rw [hE, World.cell?_alloc_at _ _ _ _ hsz.symm]; rfl
  · rw [hE, World.cell?_alloc_at _ _ _ _ hsz.symm]; rfl
theorem pparse_errX {text : Bs} {w W : World} {E : Int} {i : Nat} (hE : parse text = (E, i, [])) (h0 : E ≠ 0) (hb : Below w.heap.size w W) (X : Obj) :
    PParse text w (.returned (.tuple #[.agg #[.slice none 0 0], .iface tFaultP (.pointer (some ⟨W.heap.size + 1, 0, none⟩))])) (((W.setCell ⟨w.heap.size, 0, none⟩ (.slice none 0 0)).alloc X).alloc (.cells #[.int .i64 i, .int .i64 E] 64)) := by
  have hsz : (W.setCell ⟨w.heap.size, 0, none⟩ (.slice none 0 0)).heap.size = W.heap.size := by simp [World.setCell]
  have hs2 : ((W.setCell ⟨w.heap.size, 0, none⟩ (.slice none 0 0)).alloc X).heap.size = W.heap.size + 1 := by simp [hsz]
  refine ⟨_, _, rfl, ((hb.setCell (p := ⟨w.heap.size, 0, none⟩) (Nat.le_refl _) _).alloc (by rw [hsz]; exact hb.size) X).alloc (by rw [hs2]; have := hb.size; omega) _, .inr ⟨by rw [hE]; exact h0, rfl, _, rfl, ?_, ?_⟩⟩
  · rw [hE, World.cell?_alloc_at _ _ _ _ hs2.symm]; rfl
  · rw [hE, World.cell?_alloc_at _ _ _ _ hs2.symm]; rfl
theorem step_nil {ms : List Mdl} {S : List Bs} {l : Bs} (h : trim l = []) : lineStep ms S l = (0, ms, S) := by unfold lineStep; rw [h]
theorem step_note {ms : List Mdl} {S : List Bs} {l r : Bs} (h : trim l = 35 :: r) : lineStep ms S l = (0, ms, S) := by unfold lineStep; rw [h]; rfl
theorem byte_test (b : UInt8) (n : Nat) (hn : n < 256) : (((b.toNat : Int)) == (n : Int)) = (b == UInt8.ofNat n) := by
  rw [Bool.eq_iff_iff, beq_iff_eq, beq_iff_eq]
  constructor
  · intro h
    have h' : b.toNat = n := by omega
    rw [← h']; simp
  · intro h
    subst h
    simp; omega

theorem sfx_any (s : ByteArray) (c : UInt8) (w : World) (hs : s.size ≤ 9223372036854775807) :
    Calls Tryz.prog 24 #[.string s, .string ⟨#[c]⟩] w fun e w' => ∃ (a : ByteArray) (ok : Bool), e = .returned (.tuple #[.string a, .bool ok]) ∧ ((ok = true ∧ s.data.toList.getLast? = some c ∧ a.data.toList = s.data.toList.dropLast) ∨ (ok = false ∧ s.data.toList.getLast? ≠ some c)) ∧ w = w' := by
  refine (Tryz.strings_CutSuffix s ⟨#[c]⟩ w hs).mono ?_
  rintro e w' ⟨rfl, rfl⟩
  refine ⟨_, _, rfl, ?_, rfl⟩
  show (Lib.hasSuffix s.data.toList [c] = true ∧ _ ∧ Lib.trimSuffix s.data.toList [c] = _) ∨ (Lib.hasSuffix s.data.toList [c] = false ∧ _)
  unfold Lib.trimSuffix Lib.hasSuffix
  rcases List.eq_nil_or_concat s.data.toList with h | ⟨l, d, h⟩
  · right; rw [h]; simp [List.isSuffixOf]
  · rw [List.concat_eq_append] at h
    rw [h]
    by_cases hd : d = c
    · left; subst hd
      have h1 : [d].isSuffixOf (l ++ [d]) = true := by rw [List.isSuffixOf_iff_suffix]; exact ⟨l, rfl⟩
      rw [h1]; simp
    · right
      have h1 : [c].isSuffixOf (l ++ [d]) = false := by
        rw [Bool.eq_false_iff]
        intro h2
        rw [List.isSuffixOf_iff_suffix] at h2
        obtain ⟨t, ht⟩ := h2
        have := congrArg List.getLast? ht
        simp at this
        exact hd this.symm
      rw [h1]; simp [hd]
theorem find_parse (mv : Value) (ms : List Mdl) (n : ByteArray) (w : World) (hr : RdMod w mv ms) :
    Calls Tryz.prog 17 #[.agg #[mv], .string n] w fun e w' => ∃ (nm rt : ByteArray) (wr : Bool) (sl q : Int) (A : Option Addr) (k c : Nat) (ok : Bool), e = .returned (.tuple #[.agg #[.string nm, .string rt, .bool wr, .int .i64 sl, .int .i64 q, .slice A k c], .bool ok]) ∧ ok = ms.any (fun m => m.name == n.data.toList) ∧ Below w.heap.size w w' := by
  refine (find_any mv ms n w hr).mono ?_
  rintro e w' ⟨⟨v, ok, rfl, h⟩, hb⟩
  have hany : findM ms n.data.toList = none ↔ ms.any (fun u => u.name == n.data.toList) = false := by
    unfold findM
    rw [List.find?_eq_none, List.any_eq_false]
  rcases h with ⟨rfl, m, uv, h1, rfl, h2⟩ | ⟨rfl, rfl, h1⟩
  · obtain ⟨A, c, rfl, _⟩ := h2
    refine ⟨_, _, _, _, _, _, _, _, _, rfl, ?_, hb⟩
    cases hc : ms.any (fun u => u.name == n.data.toList) with
    | true => rfl
    | false => rw [hany.2 hc] at h1; cases h1
  · exact ⟨_, _, _, _, _, _, _, _, _, rfl, (hany.1 h1).symm, hb⟩

def newM (n : Bs) : Mdl := ⟨n, [], false, 16, 262144, []⟩
theorem infoMod : (Tryz.prog.info? tMod).map (fun i => (i.zero, i.size, i.bytes)) = some (some (.agg #[.string ⟨#[]⟩, .string ⟨#[]⟩, .bool false, .int .i64 0, .int .i64 0, .slice none 0 0]), 6, 80) := by kernel_rfl
theorem six_new (w : World) (a b c d e f : Value) (t : TypeId) : ∀ j u, [a, b, c, d, e, f][j]? = some u → (w.alloc (.cells #[a, b, c, d, e, f] t)).cell? ((⟨w.heap.size, 0, none⟩ : Addr).add j) = some u := by
  intro j u hj
  have e1 : ((⟨w.heap.size, 0, none⟩ : Addr).add j) = ⟨w.heap.size, j, none⟩ := by unfold Addr.add; split <;> simp_all
  rw [e1, World.cell?_alloc_at _ _ _ _ rfl]
  simpa using hj
theorem PInv.open_ {w W w2 : World} {lines : List ByteArray} {i : Nat} {mv sv v' : Value} {L : List (Mdl × Value)} {S : List Bs} (h : PInv w W lines i mv sv L S) (n : Bs) (X : Obj) (h8 : L.length < 8)
    (hown : w2.ownsRow (w.heap.size + 3) tMod 6 v' (L.length + 1) (modCells L ++ mcells (newM n, .slice none 0 0))) (hg : (W.alloc X).grownBy w2 mv.ownBlock)
    {l : Bs} (hl : (lines.map fun l => l.data.toList)[i]? = some l) (hx : lineStep (L.map (·.1)) S l = (0, L.map (·.1) ++ [newM n], [])) :
    PInv w ((w2.setCell ⟨w.heap.size + 1, 0, none⟩ v').alloc (.map #[] 0)) lines (i + 1) v' (.map (some w2.heap.size)) (L ++ [(newM n, .slice none 0 0)]) [] ∧ w2.cell? ⟨w.heap.size + 1, 0, none⟩ = some mv ∧ w2.frozen? ⟨w.heap.size + 1, 0, none⟩ = false := by
  have h0 : PInv w (W.alloc X) lines i mv sv L S := h.move ((Below.refl _ _).alloc (Nat.le_refl _) _)
  have hmv : ∀ k, mv.ownBlock = some k → w.heap.size + 3 ≤ k := fun k hk => (own_block h0.own.row hk).1
  have old : ∀ {k : Nat} {o : Obj}, k < w.heap.size + 3 → (W.alloc X).heap[k]? = some o → w2.heap[k]? = some o := fun {k o} hk ho => by
    rw [hg.block k (Array.getElem?_eq_some_iff.1 ho).1 (fun e => by have := hmv k e.symm; omega)]; exact ho
  have hvar2 := old (by omega) h0.var
  have hres2 := old (by omega) h0.res
  have hln2 := old (by omega) h0.lns
  have hsz : (w2.setCell ⟨w.heap.size + 1, 0, none⟩ v').heap.size = w2.heap.size := by simp [World.setCell]
  have h3le : w.heap.size + 3 ≤ w2.heap.size := by have := (Array.getElem?_eq_some_iff.1 hln2).1; omega
  have fin : ∀ {k : Nat} {o : Obj}, k ≠ w.heap.size + 1 → w2.heap[k]? = some o → ((w2.setCell ⟨w.heap.size + 1, 0, none⟩ v').alloc (.map #[] 0)).heap[k]? = some o := fun {k o} hk ho => by
    have hlt := (Array.getElem?_eq_some_iff.1 ho).1
    rw [Below.heap_alloc _ _ _ (by rw [hsz]; exact hlt), Below.heap_setCell _ _ _ _ hk]; exact ho
  have finO : ∀ {e : TypeId} {size m : Nat} {v : Value} {xs : List Value}, w2.ownsRow (w.heap.size + 3) e size v m xs → ((w2.setCell ⟨w.heap.size + 1, 0, none⟩ v').alloc (.map #[] 0)).ownsRow (w.heap.size + 3) e size v m xs := fun {e size m v xs} ho =>
    own_same ho (fun k hk => by
      have hb := own_block ho hk
      obtain ⟨_, _, cur, hc⟩ := hb
      rw [fin (by omega) hc, hc])
  have hb2 : Below w.heap.size w w2 := h0.below.grown hg h0.below.size (fun k hk => by have := hmv k hk; omega)
  refine ⟨⟨(hb2.setCell (p := ⟨w.heap.size + 1, 0, none⟩) (by show _ ≤ w.heap.size + 1; omega) _).alloc (by rw [hsz]; exact hb2.size) _, fin (by omega) hres2, ?_, fin (by omega) hln2, ⟨?_, ?_, ?_⟩, .inr ⟨by simp, w2.heap.size, rfl, ⟨#[], 0, alloc_at _ _ _ hsz, by simp, by simp⟩, h3le⟩, by simp; omega, ?_, ?_, ?_⟩, ?_, ?_⟩
  · rw [Below.heap_alloc _ _ _ (by rw [hsz]; have := (Array.getElem?_eq_some_iff.1 hvar2).1; omega)]
    simp [World.setCell, Array.getElem?_modify, hvar2]
  · rw [List.length_append, List.length_singleton, mod_snoc]; exact finO hown
  · intro p hp
    rcases List.mem_append.1 hp with hp | hp
    · have hpo := h0.own.usr p hp
      refine finO (own_same hpo (fun k hk => hg.block k (own_block hpo hk).2.1 (fun e => own_type h0.own.row hpo (by decide) e.symm hk)))
    · rw [List.mem_singleton] at hp
      subst hp
      exact World.ownsRow_nil _ _ _ _
  · rw [List.pairwise_append]
    refine ⟨h0.own.ne, List.pairwise_singleton _ _, fun a ha b hb k hk hk' => ?_⟩
    rw [List.mem_singleton] at hb
    subst hb
    simp [Value.ownBlock] at hk'
  · intro p hp
    rcases List.mem_append.1 hp with hp | hp
    · exact h0.fewU p hp
    · rw [List.mem_singleton] at hp
      subst hp
      simp [newM]
  · intro p hp
    rcases List.mem_append.1 hp with hp | hp
    · exact h0.roots p hp
    · rw [List.mem_singleton] at hp
      subst hp
      simp [newM]
  · rw [h0.next hl hx rfl]; simp
  · simp [World.cell?, hvar2]
  · simp [World.frozen?, hvar2]

/-- The line that opens a module, by its inside. -/
theorem step_open {ms : List Mdl} {S : List Bs} {l r : Bs} (h : trim l = 91 :: r) : lineStep ms S l = if r.getLast? = some 93 then
        if nameB r.dropLast = false then (131, ms, S)
        else if ms.any (fun m => m.name == r.dropLast) then (5, ms, S)
        else if 8 ≤ ms.length then (3, ms, S)
        else (0, ms ++ [newM r.dropLast], [])
      else (130, ms, S) := by unfold lineStep; rw [h]; rfl
theorem step_pair_none {ms : List Mdl} {S : List Bs} {l r : Bs} {b : UInt8} (h : trim l = b :: r) (h1 : b ≠ 35) (h2 : b ≠ 91) (hc : cut1 61 (b :: r) = none) : lineStep ms S l = (130, ms, S) := by
  unfold lineStep; rw [h]; simp only [h1, h2, if_false]; rw [hc]
theorem step_pair_nil {S : List Bs} {l r : Bs} {b : UInt8} (h : trim l = b :: r) (h1 : b ≠ 35) (h2 : b ≠ 91) : lineStep [] S l = (130, [], S) := by
  unfold lineStep; rw [h]; simp only [h1, h2, if_false]
  cases cut1 61 (b :: r) <;> rfl
theorem step_pair_some {ms : List Mdl} {m : Mdl} {S : List Bs} {l r k v : Bs} {b : UInt8} (h : trim l = b :: r) (h1 : b ≠ 35) (h2 : b ≠ 91) (hc : cut1 61 (b :: r) = some (k, v)) :
    lineStep (ms ++ [m]) S l = ((setM m S (Lib.trimRightB k 32) (Lib.trimLeftB v 32)).1, ms ++ [(setM m S (Lib.trimRightB k 32) (Lib.trimLeftB v 32)).2.1], (setM m S (Lib.trimRightB k 32) (Lib.trimLeftB v 32)).2.2) := by
  unfold lineStep; rw [h]; simp only [h1, h2, if_false]; rw [hc, List.getLast?_concat, List.dropLast_concat]

theorem setM_few {m : Mdl} {S : List Bs} {k v : Bs} (h8 : m.users.length ≤ 8 ∧ m.root.length ≤ 64) : (setM m S k v).2.1.users.length ≤ 8 ∧ (setM m S k v).2.1.root.length ≤ 64 := by
  unfold setM
  split
  · split
    · exact h8
    · split
      · exact h8
      · split
        · exact h8
        · split
          · exact h8
          · split
            · exact h8
            · refine ⟨?_, h8.2⟩
              simp; omega
  · split
    · exact h8
    · split
      · split
        · rename_i hp
          refine ⟨h8.1, ?_⟩
          unfold pathOk at hp
          simp only [Bool.and_eq_true, decide_eq_true_eq] at hp
          exact hp.1.1.2
        · exact h8
      · split
        · split
          · exact h8
          · split <;> exact h8
        · split
          · split <;> exact h8
          · split
            · split <;> exact h8
            · exact h8
/-- The cells behind a call of set. -/
theorem PInv.after {w w7 w8 : World} {lines : List ByteArray} {i : Nat} {mv sv : Value} {L : List (Mdl × Value)} {S : List Bs} (h : PInv w w7 lines i mv sv L S) (hb : Below (w.heap.size + 3) w7 w8) :
    w.heap.size < w8.heap.size ∧ w8.cell? ⟨w.heap.size, 0, none⟩ = some (.slice none 0 0) ∧ w8.frozen? ⟨w.heap.size, 0, none⟩ = false ∧ Below w.heap.size w w8 := by
  obtain ⟨z1, z2, r0, rf, v0, vf, z3⟩ := h.cells
  refine ⟨by have := hb.size; omega, ?_, ?_, h.below.trans (hb.mono (by omega))⟩
  · rw [hb.cell (p := ⟨w.heap.size, 0, none⟩) (by show w.heap.size < _; omega)]; exact r0
  · rw [hb.frozen (p := ⟨w.heap.size, 0, none⟩) (by show w.heap.size < _; omega)]; exact rf
theorem PInv.set_ {w w7 w8 : World} {lines : List ByteArray} {i g cap sb : Nat} {L0 : List (Mdl × Value)} {m m' : Mdl} {u u' : Value} {S S' : List Bs} (h : PInv w w7 lines i (.slice (some ⟨g, 0, none⟩) (L0.length + 1) cap) (.map (some sb)) (L0 ++ [(m, u)]) S) (hb : Below (w.heap.size + 3) w7 w8)
    (hS : SetIn w8 (w.heap.size + 3) g cap sb L0 m' u' S') (h8 : m'.users.length ≤ 8 ∧ m'.root.length ≤ 64) {l : Bs} (hl : (lines.map fun l => l.data.toList)[i]? = some l) (hx : lineStep ((L0 ++ [(m, u)]).map (·.1)) S l = (0, L0.map (·.1) ++ [m'], S')) :
    PInv w w8 lines (i + 1) (.slice (some ⟨g, 0, none⟩) (L0.length + 1) cap) (.map (some sb)) (L0 ++ [(m', u')]) S' := by
  refine ⟨h.below.trans (hb.mono (by omega)), by rw [hb.block _ (by omega)]; exact h.res, by rw [hb.block _ (by omega)]; exact h.var, by rw [hb.block _ (by omega)]; exact h.lns, hS.own, .inr ⟨by simp, sb, rfl, hS.seen, hS.hsb⟩, ?_, ?_, ?_, ?_⟩
  · have := h.few; simp at this ⊢; exact this
  · intro p hp
    rcases List.mem_append.1 hp with hp | hp
    · exact h.fewU p (List.mem_append.2 (.inl hp))
    · rw [List.mem_singleton] at hp; subst hp; exact h8.1
  · intro p hp
    rcases List.mem_append.1 hp with hp | hp
    · exact h.roots p (List.mem_append.2 (.inl hp))
    · rw [List.mem_singleton] at hp; subst hp; exact h8.2
  · rw [h.next hl hx rfl]; simp

theorem own_lower {w : World} {B B' : Nat} {e : TypeId} {size n : Nat} {v : Value} {xs : List Value} (h : w.ownsRow B e size v n xs) (hB : B' ≤ B) : w.ownsRow B' e size v n xs := by
  obtain ⟨h1, h2⟩ := h
  refine ⟨h1, ?_⟩
  rcases h2 with h2 | ⟨g, cap, cur, hv, a, b⟩
  · exact .inl h2
  · exact .inr ⟨g, cap, cur, hv, Nat.le_trans hB a, b⟩
theorem OwnMods.low {w : World} {B B' : Nat} {mv : Value} {L : List (Mdl × Value)} (h : OwnMods w B mv L) (hB : B' ≤ B) : OwnMods w B' mv L :=
  ⟨own_lower h.row hB, fun p hp => own_lower (h.usr p hp) hB, h.ne⟩
theorem OwnMods.setLow {w : World} {B : Nat} {mv : Value} {L : List (Mdl × Value)} (h : OwnMods w B mv L) (a : Addr) (ha : a.block < B) (v : Value) : OwnMods (w.setCell a v) B mv L :=
  ⟨own_same h.row (fun k hk => Below.heap_setCell _ _ _ _ (by have := (own_block h.row hk).1; omega)), fun p hp => own_same (h.usr p hp) (fun k hk => Below.heap_setCell _ _ _ _ (by have := (own_block (h.usr p hp) hk).1; omega)), h.ne⟩
theorem parse_ok {text : Bs} {ms : List Mdl} (h8 : ¬ 8192 < text.length) (h : goLines 0 (splitOn 10 text) [] [] = (0, 0, ms)) : parse text = if (checkMs ms).1 = 0 then (0, 0, ms) else ((checkMs ms).1, (checkMs ms).2, []) := by
  unfold parse
  rw [if_neg h8, h]
  simp only [if_true]
theorem PInv.done {w wr : World} {lines : List ByteArray} {i : Nat} {mv sv : Value} {L : List (Mdl × Value)} {S : List Bs} (h : PInv w wr lines i mv sv L S) (hi : lines.length ≤ i) {text : Bs} (ht : lines.map (fun l => l.data.toList) = splitOn 10 text) (h8 : ¬ 8192 < text.length) : parse text = if (checkMs (L.map (·.1))).1 = 0 then (0, 0, L.map (·.1)) else ((checkMs (L.map (·.1))).1, (checkMs (L.map (·.1))).2, []) := by
  refine parse_ok h8 ?_
  have h1 := h.prog
  rw [List.drop_of_length_le (by rw [List.length_map]; exact hi), ht] at h1
  rw [h1]
  cases i <;> rfl

set_option maxRecDepth 100000 in
set_option maxHeartbeats 4000000 in
theorem parse_any (text : ByteArray) (w : World) (hs : text.size < 4294967281) (hG : GW w) :
    Calls Tryz.prog 10 #[.string text] w (PParse text.data.toList w) := by
  have HG := Lib.hid hG
  have h7 : 7 ≤ w.heap.size := by
    obtain ⟨tq, q, h5⟩ := hG.ran
    exact var_lt (g := 6) (by kernel_rfl) h5
  clear hG
  by_cases hlong : 8192 < text.size
  · have HE : Hid (parse text.data.toList = (2, 0, [])) := Lib.hid (by unfold parse; rw [if_pos (by rw [← Lib.size_eq]; exact hlong)])
    go_enter Tryz.func10, Tryz.ntmps10
    go_wp2_with fail
    refine bodyPost_ret (v := .tuple #[.agg #[.slice none 0 0], .iface tFaultP (.pointer (some ⟨w.heap.size + 2, 0, none⟩))]) ?_ rfl ?_
    · simp [results, Tryz.results10, go_sem]
    · refine ⟨_, _, rfl, ?_, .inr ⟨by rw [HE.out]; simp, rfl, _, rfl, ?_, ?_⟩⟩
      · exact (((Below.refl _ _).alloc (Nat.le_refl _) _).alloc (by simp) _).alloc (by simp; omega) _
      · rw [HE.out, World.cell?_alloc_at _ _ _ _ (by simp)]; rfl
      · rw [HE.out, World.cell?_alloc_at _ _ _ _ (by simp)]; rfl
  · go_enter Tryz.func10, Tryz.ntmps10
    go_wp2_with fail
    have HG2 := Lib.hid (HG.out.below (((Below.refl _ _).alloc (Nat.le_refl _) (.cells #[.slice none 0 0] tConf)).alloc (by simp) (.cells #[.slice none 0 0] tConf)))
    obtain ⟨mx, hmx⟩ := HG2.out.max
    refine (split_any text 10 _ hs mx hmx).mono ?_
    rintro e w3 ⟨ps, hps, rfl, rfl⟩
    have HP := Lib.hid hps
    have hpn : ps.length ≤ 8193 := by
      have h1 := splitOn_len 10 text.data.toList
      rw [← hps, List.length_map, ← Lib.size_eq] at h1
      omega
    have hin : PInv w ((((w.alloc (.cells #[.slice none 0 0] tConf)).alloc (.cells #[.slice none 0 0] tConf))).alloc (.cells (ps.map Value.string).toArray tStr)) ps 0 (.slice none 0 0) (.map none) [] [] := by
      refine ⟨(((Below.refl _ _).alloc (Nat.le_refl _) _).alloc (by simp) _).alloc (by simp; omega) _, ?_, ?_, ?_, ⟨World.ownsRow_nil _ _ _ _, fun p hp => absurd hp (by simp), List.Pairwise.nil⟩, .inl ⟨rfl, rfl, rfl⟩, by simp, fun p hp => absurd hp (by simp), fun p hp => absurd hp (by simp), rfl⟩
      · rw [Below.heap_alloc _ _ _ (by simp; omega), Below.heap_alloc _ _ _ (by simp)]; exact heap_alloc_new w _
      · rw [Below.heap_alloc _ _ _ (by simp)]; exact alloc_at _ _ _ (by simp)
      · exact alloc_at _ _ _ (by simp)
    have HPI := Lib.hid hin
    clear hin hps hmx HG2
    go_wp2_with fail
    generalize (((w.alloc (.cells #[.slice none 0 0] tConf)).alloc (.cells #[.slice none 0 0] tConf))).alloc (.cells (ps.map Value.string).toArray tStr) = W at HPI
    go_loopw [5, 30] (fun sv iv wr => ∃ (i : Nat) (mv : Value) (L : List (Mdl × Value)) (S : List Bs), i ≤ ps.length ∧ iv = .int .i64 i ∧ Hid (PInv w wr ps i mv sv L S)) (fun _ iv _ => ps.length - (intOf iv).toNat)
    case atStart => exact ⟨0, _, [], [], by omega, rfl, HPI⟩
    case round =>
      obtain ⟨i, mv, L, S, hi, rfl, hinv⟩ := hrel
      by_cases hlt : i < ps.length
      · have hc : wr.cell? ⟨w.heap.size + 1 + 1, i, none⟩ = some (.string ps[i]) := by
          have := hinv.out.lns
          simp [World.cell?, this, hlt]
        have hpl := line_lt HP.out hlt
        generalize hp : ps[i] = p at hc hpl
        have HLINE : Hid ((ps.map fun l => l.data.toList)[i]? = some p.data.toList) := Lib.hid (by simp [hlt, hp])
        clear hp
        go_wp2_with fail
        refine (trim_any p _ (by omega)).mono ?_
        rintro e w4 ⟨t, ht, rfl, hb4⟩
        have HT := Lib.hid ht
        have HB4 := Lib.hid hb4
        have ht8 : t.size ≤ 8192 := by
          have h1 : (trim p.data.toList).length ≤ p.data.toList.length := trim_len _
          rw [← ht, ← Lib.size_eq, ← Lib.size_eq] at h1
          omega
        clear ht hb4 hc hpl
        go_wp2_with fail
        refine (cut_any t 61 _ (by omega) (((HG.out.below hinv.out.below).below HB4.out))).mono ?_
        rintro e w5 ⟨ka, va, pair, rfl, hcut, hb5⟩
        have HCUT := Lib.hid hcut
        have HI5 := Lib.hid ((hinv.out.move HB4.out).move hb5)
        have hi1 := isEmpty_toList t
        clear hcut hb5 HB4 hinv
        have h8t : Hid (¬ 8192 < text.data.toList.length) := Lib.hid (by rw [← Lib.size_eq]; exact hlong)
        by_cases e1 : t.data.toList = []
        · have g1 : t.toList.isEmpty = true := by rw [hi1, e1]; rfl
          have HN := Lib.hid (HI5.out.same HLINE.out (step_nil (by rw [← HT.out, e1])))
          clear hi1 e1
          go_wp2_with fail
          go_roundw
          case rel => exact ⟨i + 1, mv, L, S, by omega, by go_num, HN⟩
          case measure => simp [intOf]; omega
        · have g1 : t.toList.isEmpty = false := by rw [hi1]; simpa using e1
          have hsz0 : 0 < t.size := by
            rw [Lib.size_eq]; exact List.length_pos_iff.2 e1
          obtain ⟨b, r, hbr⟩ : ∃ b r, t.data.toList = b :: r := by
            cases hd : t.data.toList with
            | nil => exact absurd hd e1
            | cons b r => exact ⟨b, r, rfl⟩
          have hb0 : t[0] = b := by rw [byte_data t 0 hsz0]; simp [hbr]
          have q35 : ((t[0].toNat : Int) == 35) = (b == 35) := by rw [hb0]; exact byte_test b 35 (by omega)
          have q91 : ((t[0].toNat : Int) == 91) = (b == 91) := by rw [hb0]; exact byte_test b 91 (by omega)
          have HBR := Lib.hid hbr
          clear hi1 e1 hb0 hbr
          by_cases e2 : b = 35
          · have g2 : ((t[0].toNat : Int) == 35) = true := by rw [q35, e2]; rfl
            have HN := Lib.hid (HI5.out.same HLINE.out (step_note (r := r) (by rw [← HT.out, HBR.out, e2])))
            clear q35 q91 e2
            go_wp2_with fail
            go_roundw
            case rel => exact ⟨i + 1, mv, L, S, by omega, by go_num, HN⟩
            case measure => simp [intOf]; omega
          · have g2 : ((t[0].toNat : Int) == 35) = false := by rw [q35]; simpa using e2
            by_cases e3 : b = 91
            · have g3 : ((t[0].toNat : Int) == 91) = true := by rw [q91, e3]; rfl
              have hext : (t.extract 1 t.size).data.toList = r := by
                rw [Lib.extract_data, List.take_of_length_le (by rw [List.length_drop, ← Lib.size_eq]; omega), HBR.out]; rfl
              have hexs : (t.extract 1 t.size).size ≤ 9223372036854775807 := by
                rw [Lib.size_eq, hext]
                have := congrArg List.length HBR.out
                rw [← Lib.size_eq] at this
                simp at this; omega
              have HLS : Hid (lineStep (L.map (·.1)) S p.data.toList = if r.getLast? = some 93 then
                if nameB r.dropLast = false then (131, L.map (·.1), S)
                else if (L.map (·.1)).any (fun m => m.name == r.dropLast) then (5, L.map (·.1), S)
                else if 8 ≤ (L.map (·.1)).length then (3, L.map (·.1), S)
                else (0, L.map (·.1) ++ [newM r.dropLast], [])
                else (130, L.map (·.1), S)) := Lib.hid (step_open (by rw [← HT.out, HBR.out, e3]))
              have HEXT := Lib.hid hext
              have hrd := HI5.out.own.rd
              obtain ⟨Am, cm, hmv, _⟩ := id hrd
              rw [List.length_map] at hmv
              subst hmv
              have HRD := Lib.hid hrd
              obtain ⟨z1, z2, r0, rf, v0, vf, z3⟩ := HI5.out.cells
              have hrl : Hid (r.length ≤ 8192) := Lib.hid (by
                have := congrArg List.length HBR.out
                rw [← Lib.size_eq] at this
                simp at this; omega)
              clear q35 q91 e2 e3 hext hrd
              go_wp2_with fail
              refine (sfx_any _ 93 _ hexs).mono ?_
              rintro e w6 ⟨inn, sok, rfl, hsok, rfl⟩
              have HSOK := Lib.hid hsok
              clear hsok
              go_wp2_with fail
              refine (find_parse _ _ inn _ HRD.out).mono ?_
              rintro e w7 ⟨nm, rt, wrt, sl, q, A7, k7, c7, twice, rfl, htw, hb7⟩
              have HI7 := Lib.hid (HI5.out.move hb7)
              have HTW := Lib.hid htw
              clear htw r0 rf v0 vf z1 z2 z3
              obtain ⟨z1, z2, r0, rf, v0, vf, z3⟩ := HI7.out.cells
              have HB7 := Lib.hid HI7.out.below
              clear hb7 HI5 HRD
              rcases HSOK.out with ⟨rfl, hlast, hinn⟩ | ⟨rfl, hlast⟩
              · have HIN : Hid (inn.data.toList = r.dropLast) := Lib.hid (by rw [hinn, HEXT.out])
                have HL93 : Hid (r.getLast? = some 93) := Lib.hid (by rw [← HEXT.out]; exact hlast)
                have HINS : inn.size ≤ 9223372036854775807 := by
                  rw [Lib.size_eq, HIN.out, List.length_dropLast]
                  have := hrl.out
                  omega
                clear hlast hinn
                have hmm := @run_makeMap Tryz.prog
                cases hnb : nameB inn.data.toList with
                | false =>
                  have HE : Hid (parse text.data.toList = (131, i, [])) := Lib.hid (HI7.out.err HLINE.out (by rw [HLS.out, if_pos HL93.out, if_pos (by rw [← HIN.out]; exact hnb)]) (by decide) HP.out h8t.out)
                  have HK := Lib.hid (name_is inn false hnb HINS)
                  clear hnb
                  go_wp2_with fail
                  refine (HK.out _).mono ?_
                  rintro e w8 ⟨rfl, hb8⟩
                  have HI8 := Lib.hid ((HI7.out.move ((Below.refl _ _).alloc (Nat.le_refl _) _)).move hb8)
                  clear r0 rf v0 vf z1 z2 z3 hb8
                  obtain ⟨z1, z2, r0, rf, v0, vf, z3⟩ := HI8.out.cells
                  have HB8 := Lib.hid HI8.out.below
                  go_wp2_with fail
                  refine bodyPost_ret (v := .tuple #[.agg #[.slice none 0 0], .iface tFaultP (.pointer (some ⟨w8.heap.size, 0, none⟩))]) ?_ rfl ?_
                  · simp [results, Tryz.results10, go_sem, *]
                  · exact pparse_err HE.out (by decide) HB8.out
                | true =>
                  have HNB : Hid (¬ nameB r.dropLast = false) := Lib.hid (by rw [← HIN.out, hnb]; decide)
                  have HK := Lib.hid (name_is inn true hnb HINS)
                  clear hnb
                  go_wp2_with fail
                  refine (HK.out _).mono ?_
                  rintro e w8 ⟨rfl, hb8⟩
                  have HI8 := Lib.hid ((HI7.out.move ((Below.refl _ _).alloc (Nat.le_refl _) _)).move hb8)
                  clear r0 rf v0 vf z1 z2 z3 hb8
                  obtain ⟨z1, z2, r0, rf, v0, vf, z3⟩ := HI8.out.cells
                  have HB8 := Lib.hid HI8.out.below
                  cases twice with
                  | true =>
                    have HE : Hid (parse text.data.toList = (5, i, [])) := Lib.hid (HI7.out.err HLINE.out (by rw [HLS.out, if_pos HL93.out, if_neg HNB.out, if_pos (by rw [← HIN.out]; exact HTW.out.symm)]) (by decide) HP.out h8t.out)
                    go_wp2_with fail
                    refine bodyPost_ret (v := .tuple #[.agg #[.slice none 0 0], .iface tFaultP (.pointer (some ⟨w8.heap.size, 0, none⟩))]) ?_ rfl ?_
                    · simp [results, Tryz.results10, go_sem, *]
                    · exact pparse_err HE.out (by decide) HB8.out
                  | false =>
                    have hfew := HI8.out.few
                    have HNT : Hid (¬ (L.map (·.1)).any (fun m => m.name == r.dropLast) = true) := Lib.hid (by rw [← HIN.out, ← HTW.out]; decide)
                    by_cases e8 : L.length = 8
                    · have g8 : ((L.length : Int) == 8) = true := by rw [beq_iff_eq]; omega
                      have HE : Hid (parse text.data.toList = (3, i, [])) := Lib.hid (HI7.out.err HLINE.out (by rw [HLS.out, if_pos HL93.out, if_neg HNB.out, if_neg HNT.out, if_pos (by rw [List.length_map]; omega)]) (by decide) HP.out h8t.out)
                      clear e8 hfew
                      go_wp2_with fail
                      refine bodyPost_ret (v := .tuple #[.agg #[.slice none 0 0], .iface tFaultP (.pointer (some ⟨w8.heap.size, 0, none⟩))]) ?_ rfl ?_
                      · simp [results, Tryz.results10, go_sem, *]
                      · exact pparse_err HE.out (by decide) HB8.out
                    · have g8 : ((L.length : Int) == 8) = false := by rw [beq_eq_false_iff_ne]; omega
                      have hl8 : L.length < 8 := by omega
                      have HLS2 : Hid (lineStep (L.map (·.1)) S p.data.toList = (0, L.map (·.1) ++ [newM inn.data.toList], [])) := Lib.hid (by rw [HLS.out, if_pos HL93.out, if_neg HNB.out, if_neg HNT.out, if_neg (by rw [List.length_map]; omega), HIN.out])
                      clear e8 hfew
                      obtain ⟨i0, hi0, hz0, hz1, hz2⟩ := info_parts infoMod
                      go_wp2_with (at_builtin; refine wpList_append_own _ rfl _ _ 23 rfl (w.heap.size + 3) tMod i0 (.agg #[.string ⟨#[]⟩, .string ⟨#[]⟩, .bool false, .int .i64 0, .int .i64 0, .slice none 0 0]) 6 80 Tryz.underlying23 hi0 hz0 hz1 hz2 rfl (by decide) _ _ _ rfl (HI8.out.own.row.alloc _) ⟨w8.heap.size, 0, none⟩ 1 1 (mcells (newM inn.data.toList, .slice none 0 0)) rfl rfl (six_new _ _ _ _ _ _ _ _) ?c2 ?c3 ?c4 ?c5 ?_)
                      case c2 => intro y hy; simp [mcells] at hy; rcases hy with rfl | rfl | rfl | rfl | rfl | rfl <;> rfl
                      case c3 => unfold maxLen; omega
                      case c4 => omega
                      case c5 => simp; omega
                      intro v' w10 hown' hgrow _
                      have hv' : ∃ A' c', v' = .slice A' (L.length + 1) c' := by
                        rcases hown'.2 with ⟨_, h0⟩ | ⟨g', cap', cur, hv, _⟩
                        · omega
                        · exact ⟨_, _, hv⟩
                      obtain ⟨A', c', rfl⟩ := hv'
                      obtain ⟨hPN, c5, f5⟩ := PInv.open_ HI8.out inn.data.toList _ hl8 hown' hgrow HLINE.out HLS2.out
                      have HPN := Lib.hid hPN
                      have z10 : w.heap.size + 1 < w10.heap.size := cell_lt c5
                      clear hPN hown' hgrow hz0 hz1 hz2 hi0 r0 rf v0 vf
                      go_wp2_with fail
                      go_roundw
                      case rel => exact ⟨i + 1, _, _, [], by omega, by go_num, HPN⟩
                      case measure => simp [intOf]; omega
              · have HE : Hid (parse text.data.toList = (130, i, [])) := Lib.hid (HI7.out.err HLINE.out (by rw [HLS.out, if_neg (by rw [← HEXT.out]; exact hlast)]) (by decide) HP.out h8t.out)
                clear hlast
                go_wp2_with fail
                refine bodyPost_ret (v := .tuple #[.agg #[.slice none 0 0], .iface tFaultP (.pointer (some ⟨w7.heap.size + 1, 0, none⟩))]) ?_ rfl ?_
                · simp [results, Tryz.results10, go_sem, *]
                · exact pparse_errX HE.out (by decide) HB7.out _
            · have g3 : ((t[0].toNat : Int) == 91) = false := by rw [q91]; simpa using e3
              have HB35 : Hid (b ≠ 35) := Lib.hid e2
              have HB91 : Hid (b ≠ 91) := Lib.hid e3
              have HTR : Hid (trim p.data.toList = b :: r) := Lib.hid (by rw [← HT.out, HBR.out])
              clear q35 q91 e2 e3
              rcases HCUT.out with ⟨rfl, hc⟩ | ⟨rfl, hc⟩
              · have HC : Hid (cut1 61 (b :: r) = some (ka.data.toList, va.data.toList)) := Lib.hid (by rw [← HBR.out]; exact hc)
                clear hc
                rcases List.eq_nil_or_concat L with hL | ⟨L0, mu, hL⟩
                · have hrd := HI5.out.own.rd
                  obtain ⟨Am, cm, hmv, _⟩ := id hrd
                  have g0 : ((L.length : Int) == 0) = true := by rw [hL]; rfl
                  rw [List.length_map] at hmv
                  subst hmv
                  obtain ⟨z1, z2, r0, rf, v0, vf, z3⟩ := HI5.out.cells
                  have HE : Hid (parse text.data.toList = (130, i, [])) := Lib.hid (HI5.out.err HLINE.out (by rw [hL]; rw [List.map_nil, step_pair_nil HTR.out HB35.out HB91.out]) (by decide) HP.out h8t.out)
                  have HB5 := Lib.hid HI5.out.below
                  clear hrd hL
                  go_wp2_with fail
                  refine bodyPost_ret (v := .tuple #[.agg #[.slice none 0 0], .iface tFaultP (.pointer (some ⟨w5.heap.size, 0, none⟩))]) ?_ rfl ?_
                  · simp [results, Tryz.results10, go_sem, *]
                  · exact pparse_err HE.out (by decide) HB5.out
                · rw [List.concat_eq_append] at hL
                  subst hL
                  obtain ⟨m, u⟩ := mu
                  have hrow := HI5.out.own.row
                  rw [List.length_append, List.length_singleton] at hrow
                  have hmv : ∃ g cap, mv = .slice (some ⟨g, 0, none⟩) (L0.length + 1) cap := by
                    rcases hrow.2 with ⟨_, h0⟩ | ⟨g', cap', cur, hv, _⟩
                    · omega
                    · exact ⟨_, _, hv⟩
                  obtain ⟨g, cap, rfl⟩ := hmv
                  rcases HI5.out.seen with ⟨hno, _⟩ | ⟨_, sb, hsv, hseen, hsb⟩
                  · simp at hno
                  subst hsv
                  have hcap : L0.length + 1 ≤ cap := by
                    rcases hrow.2 with ⟨h0, _⟩ | ⟨g', cap', cur, hv, _, _, hle, _⟩
                    · cases h0
                    · injection hv with _ _ e; omega
                  have hl0 : L0.length + 1 ≤ 8 := by have := HI5.out.few; simp at this; omega
                  have HU8 : Hid (m.users.length ≤ 8 ∧ m.root.length ≤ 64) := Lib.hid ⟨HI5.out.fewU (m, u) (by simp), HI5.out.roots (m, u) (by simp)⟩
                  have HSI : Hid (SetIn w5 (w.heap.size + 3) g cap sb L0 m u S) := Lib.hid ⟨HG.out.below HI5.out.below, HI5.out.own, hseen, hsb, by omega, HI5.out.cells.2.2.2.2.2.2⟩
                  have g0 : (((L0.length : Int) + 1) == 0) = false := by rw [beq_eq_false_iff_ne]; omega
                  obtain ⟨z1, z2, r0, rf, v0, vf, z3⟩ := HI5.out.cells
                  have hkv : ka.size ≤ 8192 ∧ va.size ≤ 8192 := by
                    obtain ⟨_, h2⟩ := cut1_some HC.out
                    have h3 := congrArg List.length h2
                    rw [← HBR.out, List.length_append, ← Lib.size_eq, ← Lib.size_eq] at h3
                    simp at h3
                    have := Lib.size_eq va
                    omega
                  obtain ⟨hka, hva⟩ := hkv
                  clear hrow hseen
                  go_wp2_with fail
                  refine (trimR_any ka _ (by omega)).mono ?_
                  rintro e w6 ⟨kb, hkb, rfl, hb6⟩
                  have HI6 := Lib.hid (HI5.out.move hb6)
                  have HSI6 := Lib.hid (HSI.out.below hb6)
                  have HKB := Lib.hid hkb
                  clear hkb hb6 z1 z2 r0 rf v0 vf z3
                  go_wp2_with fail
                  refine (trimL_any va _).mono ?_
                  rintro e w7 ⟨vb, hvb, rfl, hb7⟩
                  have HI7 := Lib.hid (HI6.out.move hb7)
                  have HSI7 := Lib.hid (HSI6.out.below hb7)
                  have hvs : vb.size < 4294967281 := by
                    have h1 := trimL_len va.data.toList
                    rw [← hvb, ← Lib.size_eq, ← Lib.size_eq] at h1
                    omega
                  have HVB := Lib.hid hvb
                  clear hvb hb7 HSI HSI6 HI6
                  go_wp2_with fail
                  refine (set_any kb vb _ HSI7.out hvs HU8.out.1).mono ?_
                  rintro e w8 ⟨rfl, hb8, hok⟩
                  have HLS : Hid (lineStep ((L0 ++ [(m, u)]).map (·.1)) S p.data.toList = ((setM m S kb.data.toList vb.data.toList).1, L0.map (·.1) ++ [(setM m S kb.data.toList vb.data.toList).2.1], (setM m S kb.data.toList vb.data.toList).2.2)) := Lib.hid (by
                    rw [List.map_append, List.map_singleton, step_pair_some HTR.out HB35.out HB91.out HC.out, HKB.out, HVB.out])
                  have HF : Hid ((setM m S kb.data.toList vb.data.toList).2.1.users.length ≤ 8 ∧ (setM m S kb.data.toList vb.data.toList).2.1.root.length ≤ 64) := Lib.hid (setM_few HU8.out)
                  have HOK := Lib.hid hok
                  have HB8 := Lib.hid hb8
                  clear hok hb8
                  obtain ⟨z1, r0, rf, hbw⟩ := HI7.out.after HB8.out
                  have HBW := Lib.hid hbw
                  clear hbw
                  generalize setM m S kb.data.toList vb.data.toList = x at HOK HLS HF
                  obtain ⟨E, m', S'⟩ := x
                  simp only at HOK HLS HF
                  by_cases hE : E = 0
                  · subst hE
                    obtain ⟨u', hS⟩ := HOK.out rfl
                    have HN := Lib.hid (HI7.out.set_ HB8.out hS HF.out HLINE.out HLS.out)
                    clear hS
                    go_wp2_with fail
                    go_roundw
                    case rel => exact ⟨i + 1, _, _, _, by omega, by go_num, HN⟩
                    case measure => simp [intOf]; omega
                  · have hE' : (E == 0) = false := by rw [beq_eq_false_iff_ne]; exact hE
                    have hE2 : (E != 0) = true := by rw [bne_iff_ne]; exact hE
                    have HE : Hid (parse text.data.toList = (E, i, [])) := Lib.hid (HI7.out.err HLINE.out (by rw [HLS.out]) hE HP.out h8t.out)
                    have HE0 := Lib.hid hE
                    clear hE
                    go_wp2_with fail
                    refine bodyPost_ret (v := .tuple #[.agg #[.slice none 0 0], .iface tFaultP (.pointer (some ⟨w8.heap.size, 0, none⟩))]) ?_ rfl ?_
                    · simp [results, Tryz.results10, go_sem, *]
                    · exact pparse_err HE.out HE0.out HBW.out
              · have HE : Hid (parse text.data.toList = (130, i, [])) := Lib.hid (HI5.out.err HLINE.out (by rw [step_pair_none HTR.out HB35.out HB91.out (by rw [← HBR.out]; exact hc)]) (by decide) HP.out h8t.out)
                obtain ⟨z1, z2, r0, rf, v0, vf, z3⟩ := HI5.out.cells
                have HB5 := Lib.hid HI5.out.below
                clear hc
                go_wp2_with fail
                refine bodyPost_ret (v := .tuple #[.agg #[.slice none 0 0], .iface tFaultP (.pointer (some ⟨w5.heap.size, 0, none⟩))]) ?_ rfl ?_
                · simp [results, Tryz.results10, go_sem, *]
                · exact pparse_err HE.out (by decide) HB5.out
      · have HPT := Lib.hid (hinv.out.done (by omega) HP.out (by rw [← Lib.size_eq]; exact hlong))
        have hrd := hinv.out.own.rd
        have hlr : ∀ m ∈ L.map (·.1), m.root.length ≤ 140737488355328 := by
          intro m hm
          obtain ⟨p, hp, rfl⟩ := List.mem_map.1 hm
          have := hinv.out.roots p hp
          omega
        have hl8 : (L.map (·.1)).length ≤ 1000000 := by rw [List.length_map]; have := hinv.out.few; omega
        have HK := Lib.hid (fun W (hr : RdMod W mv (L.map (·.1))) => check_any mv (L.map (·.1)) W hr hl8 hlr)
        obtain ⟨Am, cm, hmv, _⟩ := id hrd
        rw [List.length_map] at hmv
        subst hmv
        have HRD := Lib.hid hrd
        obtain ⟨z1, z2, r0, rf, v0, vf, z3⟩ := hinv.out.cells
        generalize L.length = n at *
        clear hrd hlr hl8
        go_wp2_with fail
        refine (HK.out _ HRD.out).mono ?_
        rintro e w4 ⟨⟨v, rfl, hv⟩, hb4⟩
        have HI4 := Lib.hid (hinv.out.move hb4)
        clear r0 rf v0 vf z1 z2 z3 hb4
        obtain ⟨z1, z2, r0, rf, v0, vf, z3⟩ := HI4.out.cells
        have HB4 := Lib.hid HI4.out.below
        rcases hv with ⟨hck, rfl⟩ | ⟨hck, fb, rfl, hf0, hf1⟩
        · have HE : Hid (parse text.data.toList = (0, 0, L.map (·.1))) := Lib.hid (by rw [HPT.out, if_pos hck])
          clear hck
          go_wp2_with fail
          refine bodyPost_ret (v := .tuple #[.agg #[.slice Am n cm], .nilIface]) ?_ rfl ?_
          · simp [results, Tryz.results10, go_sem, *]
          · refine ⟨_, _, rfl, HB4.out.setCell (p := ⟨w.heap.size, 0, none⟩) (Nat.le_refl _) _, .inl ⟨by rw [HE.out], rfl, L, by rw [HE.out], ?_⟩⟩
            exact (HI4.out.own.setLow ⟨w.heap.size, 0, none⟩ (by show w.heap.size < _; omega) _).low (by omega)
        · have HE : Hid (parse text.data.toList = ((checkMs (L.map (·.1))).1, (checkMs (L.map (·.1))).2, [])) := Lib.hid (by rw [HPT.out, if_neg hck])
          have HCK := Lib.hid hck
          have hfb : fb ≠ w.heap.size := by
            rintro rfl
            rw [r0] at hf0
            cases hf0
          have HF0 := Lib.hid hf0
          have HF1 := Lib.hid hf1
          clear hck hf0 hf1
          go_wp2_with fail
          refine bodyPost_ret (v := .tuple #[.agg #[.slice none 0 0], .iface tFaultP (.pointer (some ⟨fb, 0, none⟩))]) ?_ rfl ?_
          · simp [results, Tryz.results10, go_sem, *]
          · have hoth : ∀ j, (w4.setCell ⟨w.heap.size, 0, none⟩ (.slice none 0 0)).cell? ⟨fb, j, none⟩ = w4.cell? ⟨fb, j, none⟩ := fun j => World.cell?_of_block (Below.heap_setCell _ _ _ _ hfb)
            refine ⟨_, _, rfl, HB4.out.setCell (p := ⟨w.heap.size, 0, none⟩) (Nat.le_refl _) _, .inr ⟨by rw [HE.out]; exact HCK.out, rfl, fb, rfl, ?_, ?_⟩⟩
            · rw [HE.out, hoth]; exact HF0.out
            · rw [HE.out, hoth]; exact HF1.out
end Go.Proofs.YtkbamneecfmibaaGreatDoor
