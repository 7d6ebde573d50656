/- A strings.Builder of the call's own, by its bytes. -/
import Derived.Test.YtanmmooflhomoaaGreatDoorBase
namespace Go.Proofs.YtanmmooflhomoaaGreatDoor
open Go Go.RowKit Go.Sort

/-- Block b is a builder of the call's own (from block B on), which holds the bytes l. -/
def Bld (B b : Nat) (l : List UInt8) (w : World) : Prop := Lib.IsBuilderF 61 5 B b (Lib.byteCells l) w ∧ B ≤ w.heap.size

/-- All blocks but b, and but rows of bytes, lie as they lay. -/
abbrev Kept (b : Nat) (w w' : World) : Prop := Lib.OthersKept 5 (some b) w w'

theorem kept_below {b : Nat} {w w' : World} (h : Below w.heap.size w w') : Kept b w w' := fun k o hk _ _ => by
  have hlt : k < w.heap.size := by
    rcases Nat.lt_or_ge k w.heap.size with h' | h'
    · exact h'
    · rw [Array.getElem?_eq_none h'] at hk; cases hk
  rw [h.block k hlt]; exact hk

theorem kept_cell {b : Nat} {w w' : World} (h : Kept b w w') {k : Nat} {cs : Array Value} {t : TypeId} {fz : Nat × Nat} (hk : w.heap[k]? = some (.cells cs t fz)) (hb : k ≠ b) (ht : t ≠ 5) : w'.heap[k]? = some (.cells cs t fz) :=
  h k _ hk (by simpa using hb) (by intro c f e; injection e with _ e2; exact ht e2)

theorem Bld.new (w : World) : Bld w.heap.size w.heap.size [] (w.alloc (.cells #[.pointer none, .slice none 0 0] 61)) :=
  ⟨Lib.IsBuilderF.of (Lib.fresh_isBuilder _ _ w), by simp⟩

theorem Bld.lt {B b : Nat} {l : List UInt8} {w : World} (h : Bld B b l w) : b < w.heap.size := by
  rcases h.1 with h | h <;> exact h.lt

theorem bldF_below {T e B b : Nat} {p : Value} {bs : List Value} {w w' : World} (h : Lib.BuilderAtF T e B b p bs w) (hb : Below w.heap.size w w') : Lib.BuilderAtF T e B b p bs w' := by
  obtain ⟨hB, v, hh, ho, hn⟩ := h
  have hlt : b < w.heap.size := by
    rcases Nat.lt_or_ge b w.heap.size with h' | h'
    · exact h'
    · rw [Array.getElem?_eq_none h'] at hh; cases hh
  refine ⟨hB, v, by rw [hb.block b hlt]; exact hh, ?_, hn⟩
  exact ho.kept (row := none) ⟨hb.os, hb.tape, hb.output, hb.size, fun k hk _ => hb.block k hk⟩ (by cases hv : v.ownBlock <;> simp)

theorem Bld.below {B b : Nat} {l : List UInt8} {w w' : World} (h : Bld B b l w) (hb : Below w.heap.size w w') : Bld B b l w' :=
  ⟨h.1.elim (fun h => .inl (bldF_below h hb)) (fun h => .inr (bldF_below h hb)), Nat.le_trans h.2 hb.size⟩

theorem Bld.alloc {B b : Nat} {l : List UInt8} {w : World} (h : Bld B b l w) (o : Obj) : Bld B b l (w.alloc o) := h.below ((Below.refl _ _).alloc (Nat.le_refl _) _)

theorem byteCells_app (l m : List UInt8) : Lib.byteCells l ++ Lib.strCells ⟨m.toArray⟩ = Lib.byteCells (l ++ m) := by simp [Lib.byteCells, Lib.strCells]

/-- Builder.WriteString. -/
theorem bld_write (B b : Nat) (l m : List UInt8) (w : World) (h : Bld B b l w) (hlen : l.length + m.length ≤ 1000000000) :
    Calls Tryz.prog 31 #[.pointer (some ⟨b, 0, none⟩), .string ⟨m.toArray⟩] w fun e w' => e = .returned (.tuple #[.int .i64 m.length, .nilIface]) ∧ Bld B b (l ++ m) w' ∧ Below B w w' ∧ Kept b w w' := by
  have h1 : (⟨m.toArray⟩ : ByteArray).size = m.length := by simp [ByteArray.size]
  have := Tryz.Builder_WriteString_k B b (Lib.byteCells l) ⟨m.toArray⟩ w h.1 (by rw [Lib.byteCells_length, h1]; omega) h.2
  rw [h1] at this
  exact this.mono fun e w' ⟨he, hb, hl, hk⟩ => ⟨he, ⟨.inr (by rw [← byteCells_app]; exact hb), Nat.le_trans h.2 hl.size⟩, hl, hk⟩

/-- Builder.String. -/
theorem bld_string (B b : Nat) (l : List UInt8) (w : World) (h : Bld B b l w) :
    Calls Tryz.prog 35 #[.pointer (some ⟨b, 0, none⟩)] w fun e w' => e = .returned (.string ⟨l.toArray⟩) ∧ Bld B b l w' ∧ Below B w w' ∧ Kept b w w' :=
  (Tryz.Builder_String_any_k B b l w h.1 h.2).mono fun _e _w' ⟨he, hb, hl, hk⟩ => ⟨he, ⟨hb, Nat.le_trans h.2 hl.size⟩, hl, hk⟩
end Go.Proofs.YtanmmooflhomoaaGreatDoor
