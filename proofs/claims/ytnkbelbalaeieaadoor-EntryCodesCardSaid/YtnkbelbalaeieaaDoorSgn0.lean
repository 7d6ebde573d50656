/- The zero entry, boxes, and how an entry with an error is returned. -/
import Derived.Test.YtnkbelbalaeieaaDoorMade
import Derived.Laws.ResultCell
import Derived.Laws.Rows
namespace Go.Proofs.YtnkbelbalaeieaaDoor
open Go Go.RowKit Go.Sort Go.Lib
attribute [local go_sem] Ent.cells

def entZ : Ent := ⟨0, 0, 0, 0, 0, 0, ⟨#[]⟩, 0, 0, 0, 0, 0, 0, 0, ⟨#[]⟩⟩
theorem EntBox.far2 {w : World} {b b' : Nat} {e : Ent} (h : EntBox w b e) (hb : b ≠ b') (j : Nat) (u : Value) : EntBox (w.setCell ⟨b', j, none⟩ u) b e := by
  unfold EntBox at *
  rw [Below.heap_setCell _ _ _ _ hb]; exact h
theorem three_new {w : World} (o1 o2 o3 : Obj) : RowKit.Below w.heap.size w (((w.alloc o1).alloc o2).alloc o3) ∧ (((w.alloc o1).alloc o2).alloc o3).heap[w.heap.size]? = some o1 ∧ (((w.alloc o1).alloc o2).alloc o3).heap[w.heap.size + 1]? = some o2 ∧ (((w.alloc o1).alloc o2).alloc o3).heap[w.heap.size + 1 + 1]? = some o3 := by
  have h1 := heap_alloc_new w o1
  have h2 := heap_alloc_new (w.alloc o1) o2
  have h3 := heap_alloc_new ((w.alloc o1).alloc o2) o3
  rw [size_alloc] at h2
  rw [size_alloc, size_alloc] at h3
  exact ⟨(((Below.refl _ _).alloc (Nat.le_refl _) _).alloc (by simp) _).alloc (by simp; omega) _, heap_keep (heap_keep h1 _) _, heap_keep h2 _, h3⟩
/-- What is returned: an entry out of its cell, and an error. -/
theorem sgn_results {fn : Func} {p u : Tmp} (h : fn.results = #[.cell p 26, .tmp u]) (tmps : Array Value) (w : World) (g : Nat) (e : Ent) (hp : tmps.getD p undef = .pointer (some ⟨g, 0, none⟩)) (hg : EntBox w g e) :
    (results fn tmps).run Tryd.prog w = .ok (.tuple #[e.val, tmps.getD u undef]) w := by
  rw [results_cell_tmp h, hp]
  have := run_loadVar_row (P := Tryd.prog) w g 26 26 e.cells (0, 0) _ hg Tryd.underlying26 rfl (by kernel_rfl)
  simp only [asAddr, Sem.run_pure, Result.andThen_ok, this]
  rfl
end Go.Proofs.YtnkbelbalaeieaaDoor
