/- Values that a law has cut, in a row of its own: how they lie. -/
import Derived.Test.YtfnlihadibnnoaaDoorWEnc2
import Derived.Maps.AppendAt
namespace Go.Proofs.YtfnlihadibnnoaaDoor
open Go Go.RowKit Go.Sort Go.Lib

/-- The number of a value's function. -/
def kd (x : Val) : Nat := (x.kind.tmod 4).toNat
theorem kd_le {x : Val} (h : 0 ≤ x.kind) : kd x ≤ 3 ∧ x.kind.tmod 4 = kd x := by
  unfold kd
  rw [Int.tmod_eq_emod_of_nonneg h]
  omega
/-- A value of the law's, and where its lists lie. -/
abbrev OV := Val × Value × Value
/-- The cells of a value that was cut. -/
def ovCells (q : OV) : List Value := [.int .u8 q.1.kind, .int .i64 q.1.n, .string (clip q.1.s), q.2.1, q.2.2]
/-- A list lies in no block of this number. -/
def Far (w : World) (own : Option Nat) (v : Value) (e : Prop) : Prop := e ∨ ∃ b, v.ownBlock = some b ∧ b < w.heap.size ∧ own ≠ some b
/-- The lists of a value lie as they must, and not in the law's own row. -/
structure OvOk (w : World) (own : Option Nat) (q : OV) : Prop where
  kind : 0 ≤ q.1.kind ∧ q.1.kind ≤ 255
  fits : q.1.Ok
  ints : IntsV w q.2.1 (q.1.L.take 20)
  txts : TextsV w q.2.2 (cutL q.1.T)
  far1 : Far w own q.2.1 (q.1.L.take 20 = [])
  far2 : Far w own q.2.2 (cutL q.1.T = [])
theorem IntsV.grown {w w' : World} {own : Option Nat} {v : Value} {l : List Int} (h : IntsV w v l) (hg : w.grownBy w' own) (hf : Far w own v (l = [])) : IntsV w' v l := by
  obtain ⟨base, c, rfl, h⟩ := h
  refine ⟨base, c, rfl, fun hl => ?_⟩
  obtain ⟨b, o, rfl, h2⟩ := h hl
  rcases hf with hf | ⟨b', e, -, hne⟩
  · exact absurd hf hl
  · obtain rfl : b = b' := by simpa [Value.ownBlock] using e
    exact ⟨b, o, rfl, fun k hk => ⟨hg.cell (h2 k hk).1 (fun e => hne e.symm), (h2 k hk).2⟩⟩
theorem TextsV.grown {w w' : World} {own : Option Nat} {v : Value} {l : List ByteArray} (h : TextsV w v l) (hg : w.grownBy w' own) (hf : Far w own v (l = [])) : TextsV w' v l := by
  obtain ⟨base, c, rfl, h⟩ := h
  refine ⟨base, c, rfl, fun hl => ?_⟩
  obtain ⟨b, o, rfl, h2⟩ := h hl
  rcases hf with hf | ⟨b', e, -, hne⟩
  · exact absurd hf hl
  · obtain rfl : b = b' := by simpa [Value.ownBlock] using e
    exact ⟨b, o, rfl, fun k hk => ⟨hg.cell (h2 k hk).1 (fun e => hne e.symm), (h2 k hk).2⟩⟩
theorem Far.grown {w w' : World} {own own' : Option Nat} {v : Value} {e : Prop} (h : Far w own v e) (hs : w.heap.size ≤ w'.heap.size) (ho : own' = own ∨ own' = some w.heap.size) : Far w' own' v e := by
  rcases h with h | ⟨b, h1, h2, h3⟩
  · exact .inl h
  · refine .inr ⟨b, h1, by omega, ?_⟩
    rcases ho with rfl | rfl
    · exact h3
    · intro e; injection e with e; omega
theorem OvOk.grown {w w' : World} {own own' : Option Nat} {q : OV} (h : OvOk w own q) (hg : w.grownBy w' own) (ho : own' = own ∨ own' = some w.heap.size) : OvOk w' own' q :=
  ⟨h.kind, h.fits, h.ints.grown hg h.far1, h.txts.grown hg h.far2, h.far1.grown hg.size ho, h.far2.grown hg.size ho⟩
theorem OvOk.below {w w' : World} {own : Option Nat} {q : OV} (h : OvOk w own q) (hb : RowKit.Below w.heap.size w w') : OvOk w' own q :=
  ⟨h.kind, h.fits, h.ints.below hb, h.txts.below hb, h.far1.grown hb.size (.inl rfl), h.far2.grown hb.size (.inl rfl)⟩
/-- A list that lay before the law began lies in no row of the law's own. -/
theorem far_old {w w' : World} {v : Value} {l : List Int} (h : IntsV w v l) (hs : w.heap.size ≤ w'.heap.size) {own : Option Nat} (ho : ∀ k, own = some k → w.heap.size ≤ k) : Far w' own v (l = []) := by
  by_cases hl : l = []
  · exact .inl hl
  · obtain ⟨base, c, rfl, h⟩ := h
    obtain ⟨b, o, rfl, h2⟩ := h hl
    have hb := World.block_lt_of_cell? w _ (h2 0 (List.length_pos_iff.2 hl)).1
    simp only at hb
    exact .inr ⟨b, rfl, by omega, fun e => by have := ho b e; omega⟩
/-- A row that was made behind a world lies in no row that was there. -/
theorem far_new {w w' : World} {v : Value} {n : Nat} {xs : List Value} {el : TypeId} (h : w'.ownsRow w.heap.size el 1 v n xs) {own : Option Nat} (ho : ∀ k, own = some k → k < w.heap.size) (e : Prop) (he : n = 0 → e) : Far w' own v e := by
  rcases h.2 with ⟨rfl, h0⟩ | ⟨g, cap, cur, rfl, hg, hh, _⟩
  · exact .inl (he h0)
  · exact .inr ⟨g, rfl, (Array.getElem?_eq_some_iff.1 hh).1, fun e => by have := ho g e; omega⟩
theorem val_info5 : (Tryd.prog.info? 45).map (fun i => (i.zero, i.size, i.bytes)) = some (some (.agg #[.int .u8 0, .int .i64 0, .string ⟨#[]⟩, .slice none 0 0, .slice none 0 0]), 5, 80) := by kernel_rfl
theorem ov_len (qs : List OV) : (qs.flatMap ovCells).length = qs.length * 5 := by
  induction qs with
  | nil => rfl
  | cons q qs ih => rw [List.flatMap_cons, List.length_append, ih, List.length_cons]; simp [ovCells]; omega
theorem ov_get : ∀ (qs : List OV) (k : Nat) (h : k < qs.length) (j : Nat) (_hj : j < 5), (qs.flatMap ovCells)[k * 5 + j]? = (ovCells qs[k])[j]?
  | [], k, h, _, _ => absurd h (by simp)
  | q :: qs, 0, _, j, hj => by
    rw [List.flatMap_cons, List.getElem?_append_left (by simp [ovCells]; omega)]
    simp
  | q :: qs, k + 1, h, j, hj => by
    rw [List.flatMap_cons, List.getElem?_append_right (by simp [ovCells]; omega)]
    rw [show (k + 1) * 5 + j - (ovCells q).length = k * 5 + j by simp [ovCells]; omega]
    rw [ov_get qs k (by simpa using h) j hj]
    simp
/-- A row of cut values of the law's own, as a slice whose cells are known. -/
theorem own_form {w : World} {base : Nat} {v : Value} {qs : List OV} (h : w.ownsRow base 45 5 v qs.length (qs.flatMap ovCells)) : ∃ A c, v = .slice A qs.length c ∧ (0 < qs.length → ∃ g, A = some ⟨g, 0, none⟩ ∧ ∀ j (hj : j < qs.length) t, t < 5 → w.cell? ⟨g, j * 5 + t, none⟩ = (ovCells qs[j])[t]?) := by
  rcases h.2 with ⟨rfl, h0⟩ | ⟨g, cap, cur, rfl, _, hg, _⟩
  · exact ⟨none, 0, by rw [h0], fun hp => by omega⟩
  · refine ⟨_, cap, rfl, fun _ => ⟨g, rfl, fun j hj t ht => ?_⟩⟩
    have h1 := ov_get qs j hj t ht
    have hl : t < (ovCells qs[j]).length := by simpa [ovCells] using ht
    rw [List.getElem?_eq_getElem hl] at h1 ⊢
    have := h.cells (g := g) rfl _ _ h1
    rwa [addr_at] at this
theorem inv_next {V w w2 : World} {p B o : Nat} {c : Value} (hps : V.heap.size ≤ p) (hne : B ≠ p) (h : RowKit.Below V.heap.size V w ∧ w.cell? ⟨B, o, none⟩ = some c) (hb : But p w w2) : RowKit.Below V.heap.size V w2 ∧ w2.cell? ⟨B, o, none⟩ = some c :=
  ⟨h.1.trans (hb.below hps h.1.size), hb.cell hne h.2⟩
theorem sameInts_self (p : Nat) (s : ByteArray) (b : Bool) (v1 v2 : Value) (l : List Int) (h1 : l.length ≤ 100000000) (w : World) (hA : IntsV w v1 l) (hB : IntsV w v2 l) (hR : RdAt w p s b) :
    Calls Tryd.prog 26 #[v1, v2] w fun e w' => e = .returned (.bool true) ∧ But p w w' ∧ RdAt w' p s b :=
  (sameInts_any v1 v2 l l h1 w hA hB h1).mono fun e w' ⟨he, hb⟩ => ⟨by rw [he]; simp, But.of hb, hR.below hb⟩
theorem sameTexts_self (p : Nat) (s : ByteArray) (b : Bool) (v1 v2 : Value) (l : List ByteArray) (h1 : l.length ≤ 100000000) (w : World) (hA : TextsV w v1 l) (hB : TextsV w v2 l) (hR : RdAt w p s b) :
    Calls Tryd.prog 29 #[v1, v2] w fun e w' => e = .returned (.bool true) ∧ But p w w' ∧ RdAt w' p s b :=
  (sameTexts_any v1 v2 l l h1 w hA hB h1).mono fun e w' ⟨he, hb⟩ => ⟨by rw [he]; simp, But.of hb, hR.below hb⟩
/-- The bytes that a list of values is written as. -/
def allEnc (l : List Val) : List UInt8 := l.flatMap fun x => encK (kd x) x
end Go.Proofs.YtfnlihadibnnoaaDoor
