/- The reference's readers: how they lie; New, Bad, Left, fail: each walked once. -/
import Derived.Test.YtnkbelbalaeieaaDoorVTxt
namespace Go.Proofs.YtnkbelbalaeieaaDoor.Wr
open Go Go.RowKit Go.Sort Go.Lib

/-- A reader of the reference: its text, the place, and whether it is bad. -/
def RfAt (w : World) (p : Nat) (s : ByteArray) (k : Nat) (b : Bool) : Prop := (w.cell? ⟨p, 0, none⟩ = some (.string s) ∧ w.cell? ⟨p, 1, none⟩ = some (.int .i64 k) ∧ w.cell? ⟨p, 2, none⟩ = some (.bool b)) ∧ w.frozen? ⟨p, 0, none⟩ = false ∧ w.frozen? ⟨p, 1, none⟩ = false ∧ w.frozen? ⟨p, 2, none⟩ = false
theorem RfAt.lt {w : World} {p : Nat} {s : ByteArray} {k : Nat} {b : Bool} (h : RfAt w p s k b) : p < w.heap.size := World.block_lt_of_cell? w _ h.1.1
theorem RfAt.below {w w' : World} {p : Nat} {s : ByteArray} {k : Nat} {b : Bool} (h : RfAt w p s k b) (hb : RowKit.Below w.heap.size w w') : RfAt w' p s k b :=
  ⟨⟨mv0 hb h.1.1, mv0 hb h.1.2.1, mv0 hb h.1.2.2⟩, ((bcell hb).2 _ _ h.lt).trans h.2.1, ((bcell hb).2 _ _ h.lt).trans h.2.2.1, ((bcell hb).2 _ _ h.lt).trans h.2.2.2⟩
theorem RfAt.move {w : World} {p : Nat} {s : ByteArray} {k : Nat} {b : Bool} (h : RfAt w p s k b) (k' : Nat) : RfAt (w.setCell ⟨p, 1, none⟩ (.int .i64 k')) p s k' b := by
  obtain ⟨⟨h0, h1, h2⟩, f0, f1, f2⟩ := h
  exact ⟨⟨(World.cell?_setCell_other _ _ _ _ (by simp)).trans h0, World.cell?_setCell_same _ _ _ h1, (World.cell?_setCell_other _ _ _ _ (by simp)).trans h2⟩, by simpa using f0, by simpa using f1, by simpa using f2⟩
theorem RfAt.spoil {w : World} {p : Nat} {s : ByteArray} {k : Nat} {b : Bool} (h : RfAt w p s k b) (b' : Bool) : RfAt (w.setCell ⟨p, 2, none⟩ (.bool b')) p s k b' := by
  obtain ⟨⟨h0, h1, h2⟩, f0, f1, f2⟩ := h
  exact ⟨⟨(World.cell?_setCell_other _ _ _ _ (by simp)).trans h0, (World.cell?_setCell_other _ _ _ _ (by simp)).trans h1, World.cell?_setCell_same _ _ _ h2⟩, by simpa using f0, by simpa using f1, by simpa using f2⟩
theorem rfBad_any (p : Nat) (s : ByteArray) (k : Nat) (b : Bool) (w : World) (h : RfAt w p s k b) : Calls Tryd.prog 75 #[.pointer (some ⟨p, 0, none⟩)] w fun e w' => e = .returned (.bool b) ∧ w = w' := by
  obtain ⟨⟨h0, h1, h2⟩, -⟩ := h
  go_enter Tryd.func75, Tryd.ntmps75
  go_wp2_with fail
  go_ret
  exact ⟨rfl, rfl⟩
theorem rfLeft_any (p : Nat) (s : ByteArray) (hs : s.size ≤ 100000000) (k : Nat) (hk : k ≤ s.size) (b : Bool) (w : World) (h : RfAt w p s k b) : Calls Tryd.prog 76 #[.pointer (some ⟨p, 0, none⟩)] w fun e w' => e = .returned (.int .i64 (if b = true then 0 else (s.size : Int) - k)) ∧ RowKit.Below w.heap.size w w' := by
  obtain ⟨⟨h0, h1, h2⟩, -⟩ := h
  have hw : IntKind.i64.wrap ((s.size : Int) - k) = (s.size : Int) - k := IntWalk.i64_in _ (by omega)
  cases b
  · go_enter Tryd.func76, Tryd.ntmps76
    go_wp2_with fail
    go_quiet (fail)
    go_wp2_with fail
    go_ret
    exact ⟨rfl, below_drewN' (Below.refl _ _) _⟩
  · go_enter Tryd.func76, Tryd.ntmps76
    go_wp2_with fail
    go_ret
    exact ⟨rfl, Below.refl _ _⟩
theorem rfFail_any (p : Nat) (s : ByteArray) (k : Nat) (b : Bool) (w : World) (h : RfAt w p s k b) : Calls Tryd.prog 94 #[.pointer (some ⟨p, 0, none⟩)] w fun e w' => e = .returned (.tuple #[]) ∧ RfAt w' p s k true ∧ But p w w' := by
  have hE := h.spoil true
  have hB := (But.refl p w).set 2 (.bool true)
  have hl := h.lt
  obtain ⟨⟨h0, h1, h2⟩, f0, f1, f2⟩ := h
  go_enter Tryd.func94, Tryd.ntmps94
  go_wp2_with fail
  go_end0
  exact ⟨rfl, hE, hB⟩
end Go.Proofs.YtnkbelbalaeieaaDoor.Wr
