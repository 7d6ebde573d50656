/- Readers: how they lie, and the project's New, Bad, Left, fail: each walked once. -/
import Derived.Test.YtanmmooflhomoaaGreatDoorVDec
namespace Go.Proofs.YtanmmooflhomoaaGreatDoor.Wr
open Go Go.RowKit Go.Sort Go.Lib

/-- All blocks but p lie as they lay. -/
structure But (p : Nat) (w w' : World) : Prop where
  os : w'.os = w.os
  tape : w'.tape = w.tape
  output : w'.output = w.output
  size : w.heap.size ≤ w'.heap.size
  block : ∀ k, k < w.heap.size → k ≠ p → w'.heap[k]? = w.heap[k]?
theorem But.refl (p : Nat) (w : World) : But p w w := ⟨rfl, rfl, rfl, Nat.le_refl _, fun _ _ _ => rfl⟩
theorem But.trans {p : Nat} {a b c : World} (h : But p a b) (k : But p b c) : But p a c :=
  ⟨k.os.trans h.os, k.tape.trans h.tape, k.output.trans h.output, Nat.le_trans h.size k.size, fun i hi hp => (k.block i (Nat.lt_of_lt_of_le hi h.size) hp).trans (h.block i hi hp)⟩
theorem But.of {p : Nat} {w w' : World} (h : RowKit.Below w.heap.size w w') : But p w w' := ⟨h.os, h.tape, h.output, h.size, fun k hk _ => h.block k hk⟩
theorem But.below {p B : Nat} {w w' : World} (h : But p w w') (hp : B ≤ p) (hB : B ≤ w.heap.size) : RowKit.Below B w w' := ⟨h.os, h.tape, h.output, h.size, fun k hk => h.block k (by omega) (by omega)⟩
theorem But.set {p : Nat} {a w : World} (h : But p a w) (o : Nat) (v : Value) : But p a (w.setCell ⟨p, o, none⟩ v) :=
  h.trans ⟨rfl, rfl, rfl, by simp [World.setCell], fun k _ hk => Below.heap_setCell _ _ _ _ hk⟩
theorem But.cell {p : Nat} {w w' : World} (h : But p w w') {b o : Nat} (hb : b ≠ p) {v : Value} (hc : w.cell? ⟨b, o, none⟩ = some v) : w'.cell? ⟨b, o, none⟩ = some v := by
  have hl := World.block_lt_of_cell? w _ hc
  have hh := h.block b hl hb
  simp only [World.cell?] at hc ⊢
  rw [hh]; exact hc
/-- A reader of the project: what is left, and whether it is bad. -/
def RdAt (w : World) (p : Nat) (s : ByteArray) (b : Bool) : Prop := w.cell? ⟨p, 0, none⟩ = some (.string s) ∧ w.cell? ⟨p, 1, none⟩ = some (.bool b) ∧ w.frozen? ⟨p, 0, none⟩ = false ∧ w.frozen? ⟨p, 1, none⟩ = false
theorem RdAt.lt {w : World} {p : Nat} {s : ByteArray} {b : Bool} (h : RdAt w p s b) : p < w.heap.size := World.block_lt_of_cell? w _ h.1
theorem RdAt.below {w w' : World} {p : Nat} {s : ByteArray} {b : Bool} (h : RdAt w p s b) (hb : RowKit.Below w.heap.size w w') : RdAt w' p s b :=
  ⟨mv0 hb h.1, mv0 hb h.2.1, ((bcell hb).2 _ _ h.lt).trans h.2.2.1, ((bcell hb).2 _ _ h.lt).trans h.2.2.2⟩
theorem rd_new (w : World) (s : ByteArray) (b : Bool) (t : TypeId) : RdAt (w.alloc (.cells #[.string s, .bool b] t)) w.heap.size s b := ⟨by simp [go_sem], by simp [go_sem], by simp [go_sem], by simp [go_sem]⟩
def Made (s : ByteArray) (w : World) (e : Ending) (w' : World) : Prop := ∃ p : Nat, e = .returned (.pointer (some ⟨p, 0, none⟩)) ∧ w.heap.size ≤ p ∧ RdAt w' p s false ∧ RowKit.Below w.heap.size w w'
theorem new_any (s : ByteArray) (w : World) : Calls Tryz.prog 36 #[.string s] w (Made s w) := by
  have h := rd_new w s false 99
  go_enter Tryz.func36, Tryz.ntmps36
  go_wp2_with fail
  go_ret
  exact ⟨_, rfl, Nat.le_refl _, h, below_alloc1 _ _⟩
theorem bad_any (p : Nat) (s : ByteArray) (b : Bool) (w : World) (h : RdAt w p s b) : Calls Tryz.prog 38 #[.pointer (some ⟨p, 0, none⟩)] w fun e w' => e = .returned (.bool b) ∧ w = w' := by
  obtain ⟨h0, h1, -, -⟩ := h
  go_enter Tryz.func38, Tryz.ntmps38
  go_wp2_with fail
  go_ret
  exact ⟨rfl, rfl⟩
theorem bad_nil (w : World) : Calls Tryz.prog 38 #[.pointer none] w fun e w' => e = .returned (.bool true) ∧ w = w' := by
  go_enter Tryz.func38, Tryz.ntmps38
  go_wp2_with fail
  go_ret
  exact ⟨rfl, rfl⟩
theorem left_any (p : Nat) (s : ByteArray) (b : Bool) (w : World) (h : RdAt w p s b) : Calls Tryz.prog 40 #[.pointer (some ⟨p, 0, none⟩)] w fun e w' => e = .returned (.int .i64 (if b = true then 0 else (s.size : Int))) ∧ w = w' := by
  have c := bad_any p s b w h
  obtain ⟨h0, h1, -, -⟩ := h
  cases b
  all_goals
    go_enter Tryz.func40, Tryz.ntmps40
    go_wp2_with fail
    refine c.mono ?_
    rintro x _ ⟨rfl, rfl⟩
    go_wp2_with fail
    go_ret
    exact ⟨rfl, rfl⟩
theorem left_nil (w : World) : Calls Tryz.prog 40 #[.pointer none] w fun e w' => e = .returned (.int .i64 0) ∧ w = w' := by
  have c := bad_nil w
  go_enter Tryz.func40, Tryz.ntmps40
  go_wp2_with fail
  refine c.mono ?_
  rintro x _ ⟨rfl, rfl⟩
  go_wp2_with fail
  go_ret
  exact ⟨rfl, rfl⟩
theorem RdAt.set {w : World} {p : Nat} {s : ByteArray} {b : Bool} (h : RdAt w p s b) (s' : ByteArray) : RdAt (w.setCell ⟨p, 0, none⟩ (.string s')) p s' b := by
  obtain ⟨h0, h1, f0, f1⟩ := h
  exact ⟨World.cell?_setCell_same _ _ _ h0, (World.cell?_setCell_other _ _ _ _ (by simp)).trans h1, by simpa using f0, by simpa using f1⟩
theorem RdAt.spoil {w : World} {p : Nat} {s : ByteArray} {b : Bool} (h : RdAt w p s b) (b' : Bool) : RdAt (w.setCell ⟨p, 1, none⟩ (.bool b')) p s b' := by
  obtain ⟨h0, h1, f0, f1⟩ := h
  exact ⟨(World.cell?_setCell_other _ _ _ _ (by simp)).trans h0, World.cell?_setCell_same _ _ _ h1, by simpa using f0, by simpa using f1⟩
theorem fail_any (p : Nat) (s : ByteArray) (b : Bool) (w : World) (h : RdAt w p s b) : Calls Tryz.prog 64 #[.pointer (some ⟨p, 0, none⟩)] w fun e w' => e = .returned (.tuple #[]) ∧ RdAt w' p ⟨#[]⟩ true ∧ But p w w' := by
  have hE := (h.spoil true).set ⟨#[]⟩
  have hB := ((But.refl p w).set 1 (.bool true)).set 0 (.string ⟨#[]⟩)
  have hl := h.lt
  obtain ⟨h0, h1, f0, f1⟩ := h
  go_enter Tryz.func64, Tryz.ntmps64
  go_wp2_with fail
  go_end0
  exact ⟨rfl, hE, hB⟩
end Go.Proofs.YtanmmooflhomoaaGreatDoor.Wr
