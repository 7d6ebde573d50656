/- What stays while an entry is decoded. -/
import Derived.Test.YtnkbelbalaeieaaDoorDecS
import Derived.Test.YtnkbelbalaeieaaDoorCut
namespace Go.Proofs.YtnkbelbalaeieaaDoor.Wr
open Go Go.RowKit Go.Sort Go.Lib
structure Ready (w : World) : Prop where
  sane : Sane w
  errs : ErrVars w
theorem Ready.below {w w' : World} (h : Ready w) (hb : RowKit.Below w.heap.size w w') : Ready w' := ⟨h.sane.below hb, h.errs.below hb⟩
theorem Ready.but {w w' : World} {p : Nat} (h : Ready w) (hB : But p w w') (hp : Past p) : Ready w' := ⟨h.sane.but hB hp, h.errs.but hB hp⟩
theorem Ready.alloc {w : World} (h : Ready w) (o : Obj) : Ready (w.alloc o) := h.below (below_alloc1 w o)
theorem var_lt {w : World} {n : String} {cs : Array Value} {g : Nat} (hg : Tryd.prog.globalNamed n = some g) (h : w.var? Tryd.prog n = some cs) : g < w.heap.size := by
  unfold World.var? at h
  rw [hg] at h
  simp only [Option.bind_some] at h
  rcases Nat.lt_or_ge g w.heap.size with hx | hx
  · exact hx
  · rw [Array.getElem?_eq_none hx] at h; cases h
theorem Ready.past {w : World} (h : Ready w) {p : Nat} (hp : w.heap.size ≤ p) : Past p := by
  obtain ⟨⟨h1, m, h2⟩, ⟨t1, p1, e1⟩, t2, p2, e2⟩ := h
  have a1 := h1.lt
  have a2 := World.block_lt_of_cell? w _ h2
  have a3 := var_lt (g := 2) (by kernel_rfl) e1
  have a4 := var_lt (g := 3) (by kernel_rfl) e2
  unfold Past
  simp only at a2
  omega
end Go.Proofs.YtnkbelbalaeieaaDoor.Wr
namespace Go.Proofs.YtnkbelbalaeieaaDoor
open Go Go.RowKit Go.Sort Go.Lib
attribute [local go_sem] Ent.cells
/-- While an entry is decoded: the result's cell, the entry's. -/
structure DIn (w W : World) (zb eb : Nat) (e : Ent) : Prop where
  below : RowKit.Below w.heap.size w W
  zero : EntBox W zb entZ
  box : EntBox W eb e
theorem EntBox.but {w w' : World} {b p : Nat} {e : Ent} (h : EntBox w b e) (hB : Wr.But p w w') (hp : b ≠ p) : EntBox w' b e := (hB.block b (lt_of_heap h) hp).trans h
theorem DIn.call {w W W' : World} {zb eb p : Nat} {e : Ent} (h : DIn w W zb eb e) (hB : Wr.But p W W') (hp : w.heap.size ≤ p) (hz : zb ≠ p) (he : eb ≠ p) : DIn w W' zb eb e :=
  ⟨h.below.trans (hB.below hp h.below.size), h.zero.but hB hz, h.box.but hB he⟩
theorem DIn.set {w W : World} {zb eb : Nat} {e : Ent} (h : DIn w W zb eb e) (e' : Ent) (j : Nat) (u : Value) (he : e.cells.setIfInBounds j u = e'.cells) (hz : zb ≠ eb) (hb : w.heap.size ≤ eb) : DIn w (W.setCell ⟨eb, j, none⟩ u) zb eb e' :=
  ⟨h.below.setCell (p := ⟨eb, j, none⟩) (by show w.heap.size ≤ eb; exact hb) u, h.zero.far2 hz j u, h.box.set j u he⟩
theorem cell_far {W : World} {p eb : Nat} (hne : p ≠ eb) (j : Nat) (u : Value) (o : Nat) : (W.setCell ⟨eb, j, none⟩ u).cell? ⟨p, o, none⟩ = W.cell? ⟨p, o, none⟩ :=
  World.cell?_of_block (Below.heap_setCell W ⟨eb, j, none⟩ u p (by show p ≠ eb; exact hne))
theorem frozen_far {W : World} {p eb : Nat} (hne : p ≠ eb) (j : Nat) (u : Value) (o : Nat) : (W.setCell ⟨eb, j, none⟩ u).frozen? ⟨p, o, none⟩ = W.frozen? ⟨p, o, none⟩ :=
  World.frozen?_of_block (Below.heap_setCell W ⟨eb, j, none⟩ u p (by show p ≠ eb; exact hne))
theorem rd_far {W : World} {p eb : Nat} {s : ByteArray} {b : Bool} (h : Wr.RdAt W p s b) (hne : p ≠ eb) (j : Nat) (u : Value) : Wr.RdAt (W.setCell ⟨eb, j, none⟩ u) p s b :=
  ⟨(cell_far hne j u 0).trans h.1, (cell_far hne j u 1).trans h.2.1, (frozen_far hne j u 0).trans h.2.2.1, (frozen_far hne j u 1).trans h.2.2.2⟩
theorem rf_far {W : World} {p eb k : Nat} {s : ByteArray} {b : Bool} (h : Wr.RfAt W p s k b) (hne : p ≠ eb) (j : Nat) (u : Value) : Wr.RfAt (W.setCell ⟨eb, j, none⟩ u) p s k b := by
  obtain ⟨⟨h0, h1, h2⟩, f0, f1, f2⟩ := h
  exact ⟨⟨(cell_far hne j u 0).trans h0, (cell_far hne j u 1).trans h1, (cell_far hne j u 2).trans h2⟩, (frozen_far hne j u 0).trans f0, (frozen_far hne j u 1).trans f1, (frozen_far hne j u 2).trans f2⟩
theorem RdSt.far {W : World} {p eb : Nat} {st : Option (List UInt8)} (h : RdSt W p st) (hne : p ≠ eb) (j : Nat) (u : Value) : RdSt (W.setCell ⟨eb, j, none⟩ u) p st := by
  cases st with
  | none => exact rd_far h hne j u
  | some r => exact ⟨rd_far h.1 hne j u, h.2⟩
theorem RfSt.far {W : World} {p eb : Nat} {s : ByteArray} {st : Option (List UInt8)} (h : RfSt W p s st) (hne : p ≠ eb) (j : Nat) (u : Value) : RfSt (W.setCell ⟨eb, j, none⟩ u) p s st := by
  cases st with
  | none => obtain ⟨k, hk, h⟩ := h; exact ⟨k, hk, rf_far h hne j u⟩
  | some r => obtain ⟨k, hk, hr, h⟩ := h; exact ⟨k, hk, hr, rf_far h hne j u⟩
theorem ready_below {w W : World} (h : Wr.Ready w) (hb : RowKit.Below w.heap.size w W) : Wr.Ready W := ⟨h.sane.below hb, h.errs.below hb⟩
theorem DIn.go {w W W' : World} {zb eb : Nat} {e : Ent} (h : DIn w W zb eb e) (hb : RowKit.Below W.heap.size W W') : DIn w W' zb eb e :=
  ⟨h.below.trans (hb.mono h.below.size), h.zero.below hb, h.box.below hb⟩
theorem RdSt.below {w w' : World} {p : Nat} {st : Option (List UInt8)} (h : RdSt w p st) (hb : RowKit.Below w.heap.size w w') : RdSt w' p st := by
  cases st with
  | none => exact Wr.RdAt.below h hb
  | some r => exact ⟨h.1.below hb, h.2⟩
theorem decV_many {s : List UInt8} (h : 262144 < s.length) : decV s = .tuple #[entZ.val, .int .i64 2] := by unfold decV decR; rw [if_pos h]
theorem decV_good {s : List UInt8} {e : Ent} (h : ¬ 262144 < s.length) (hd : decE (some s) = (e, some [])) : decV s = .tuple #[e.val, .int .i64 0] := by unfold decV decR; rw [if_neg h, hd, if_pos rfl]
theorem decV_bad {s : List UInt8} {e : Ent} {t : Option (List UInt8)} (h : ¬ 262144 < s.length) (hd : decE (some s) = (e, t)) (ht : t ≠ some []) : decV s = .tuple #[entZ.val, .int .i64 4] := by unfold decV decR; rw [if_neg h, hd, if_neg ht]
end Go.Proofs.YtnkbelbalaeieaaDoor
