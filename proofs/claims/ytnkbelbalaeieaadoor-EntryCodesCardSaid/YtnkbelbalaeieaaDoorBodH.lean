/- The frame facts of the statements' heads: what stays while entries are made. -/
import Derived.Test.YtnkbelbalaeieaaDoorSome
import Derived.Test.YtnkbelbalaeieaaDoorCut
import Derived.Test.YtnkbelbalaeieaaDoorEql
import Derived.BigQuiet
namespace Go.Proofs.YtnkbelbalaeieaaDoor
open Go Go.RowKit Go.Sort Go.Lib
attribute [local go_sem] Ent.cells
theorem ent_one (e : Ent) : ∀ u ∈ e.cells.toList, u.oneCell' = true := by
  intro u hu
  simp [Ent.cells] at hu
  rcases hu with rfl | rfl | rfl | rfl | rfl | rfl | rfl | rfl | rfl | rfl | rfl | rfl | rfl | rfl | rfl <;> rfl
theorem bod_keep {W w' : World} {qb rb : Nat} {raw : Ent} {a b c d : Int} {T : TypeId} (hq : W.heap[qb]? = some (.cells #[.int .i64 a, .int .i64 b, .int .i64 c, .int .i64 d] T (0, 0))) (hr : EntBox W rb raw) (hb : RowKit.Below W.heap.size W w') :
    RowKit.Below W.heap.size W w' ∧ (∀ j, w'.cell? ⟨rb, j, none⟩ = raw.cells[j]?) ∧ w'.cell? ⟨qb, 0, none⟩ = some (.int .i64 a) ∧ w'.cell? ⟨qb, 1, none⟩ = some (.int .i64 b) ∧ w'.cell? ⟨qb, 2, none⟩ = some (.int .i64 c) ∧ w'.cell? ⟨qb, 3, none⟩ = some (.int .i64 d) := by
  have h3' : w'.heap[qb]? = some (.cells #[.int .i64 a, .int .i64 b, .int .i64 c, .int .i64 d] T (0, 0)) := by rw [hb.block _ (lt_of_heap hq)]; exact hq
  exact ⟨hb, below_any hb hr, Lib.cell_of_heap h3' 0, Lib.cell_of_heap h3' 1, Lib.cell_of_heap h3' 2, Lib.cell_of_heap h3' 3⟩
theorem bod_next {W w w' : World} {qb rb : Nat} {raw : Ent} {a b c d : Int} {T : TypeId} {R : Prop} (hq : W.heap[qb]? = some (.cells #[.int .i64 a, .int .i64 b, .int .i64 c, .int .i64 d] T (0, 0))) (hr : EntBox W rb raw) (hb : RowKit.Below W.heap.size W w ∧ R) (h : RowKit.Below w.heap.size w w') :
    RowKit.Below W.heap.size W w' ∧ (∀ j, w'.cell? ⟨rb, j, none⟩ = raw.cells[j]?) ∧ w'.cell? ⟨qb, 0, none⟩ = some (.int .i64 a) ∧ w'.cell? ⟨qb, 1, none⟩ = some (.int .i64 b) ∧ w'.cell? ⟨qb, 2, none⟩ = some (.int .i64 c) ∧ w'.cell? ⟨qb, 3, none⟩ = some (.int .i64 d) :=
  bod_keep hq hr (hb.1.trans (h.mono hb.1.size))
theorem bod_own {W w w' : World} {R : Prop} {v : Value} {es : List Ent} (h : Ents w.heap.size w' v es) (hb : RowKit.Below W.heap.size W w ∧ R) : Ents W.heap.size w' v es := h.mono hb.1.size
end Go.Proofs.YtnkbelbalaeieaaDoor
