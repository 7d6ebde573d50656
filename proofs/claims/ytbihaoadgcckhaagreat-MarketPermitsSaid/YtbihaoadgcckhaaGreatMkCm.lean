/- market.compare: the order in which requests are dealt with. -/
import Derived.Test.YtbihaoadgcckhaaGreatMkFt
namespace Go.Proofs.YtbihaoadgcckhaaGreat
open Go Go.Proofs Go.RowKit Go.Maps Go.Sort Go.Lib
attribute [local go_sem] Req.cells

def tailB (a b : Req) : List Int := [Lib.compareInt b.priority a.priority, Lib.compareInt a.day b.day, Lib.compareInt a.server b.server, Lib.compareInt a.seq b.seq]
theorem orL_tailB (a b : Req) : orL (tailB a b) = cmpB a b := by
  unfold tailB cmpB
  simp only [orL]
  split <;> (try split) <;> (try split) <;> (try split) <;> simp_all
set_option maxHeartbeats 4000000 in
set_option maxRecDepth 100000 in
theorem compareB_any (a b : Req) (w : World) : Calls Tryz.prog 29 #[a.val, b.val] w fun x w' => x = .returned (.int .i64 (cmpB a b)) ∧ Grows w w' := by
  rw [← orL_tailB]
  have g2 : Grows w ((w.alloc (.cells a.cells 39)).alloc (.cells b.cells 39)) := (Grows.al w _).trans (Grows.al _ _)
  have hA : ReqBox ((w.alloc (.cells a.cells 39)).alloc (.cells b.cells 39)) w.heap.size a := (ReqBox.new w a).below (below_al _ _)
  have hB : ReqBox ((w.alloc (.cells a.cells 39)).alloc (.cells b.cells 39)) (w.heap.size + 1) b := new_two w _ _
  go_enter Tryz.func29, Tryz.ntmps29
  simp only [Req.cells] at g2 hA hB
  go_wp2_with fail
  generalize (w.alloc _).alloc _ = wr at g2 hA hB ⊢
  have hor : (wr.alloc (.cells #[.int .i64 (Lib.compareInt b.priority a.priority), .int .i64 (Lib.compareInt a.day b.day), .int .i64 (Lib.compareInt a.server b.server), .int .i64 (Lib.compareInt a.seq b.seq)] 3)).drew.heap[wr.heap.size]? = some (.cells ((tailB a b).map (Value.int .i64)).toArray 3 (0, 0)) := heap_alloc_new wr _
  have hO : Calls Tryz.prog 55 #[.slice (some ⟨wr.heap.size, 0, none⟩) 4 4] (wr.alloc (.cells #[.int .i64 (Lib.compareInt b.priority a.priority), .int .i64 (Lib.compareInt a.day b.day), .int .i64 (Lib.compareInt a.server b.server), .int .i64 (Lib.compareInt a.seq b.seq)] 3)).drew fun x w' => x = .returned (.int .i64 (orL (tailB a b))) ∧ _ = w' := orL_any wr.heap.size (tailB a b) _ hor (by show 4 ≤ 1000; omega)
  have hS0 : Grows wr wr.drew ∧ (∀ j, wr.drew.cell? ⟨w.heap.size, j, none⟩ = a.cells[j]?) ∧ (∀ j, wr.drew.cell? ⟨w.heap.size + 1, j, none⟩ = b.cells[j]?) := ⟨(Grows.refl _).drew, hA.cell, hB.cell⟩
  have hS1 := fun o => (show Grows wr (wr.alloc o).drew ∧ (∀ j, (wr.alloc o).drew.cell? ⟨w.heap.size, j, none⟩ = a.cells[j]?) ∧ (∀ j, (wr.alloc o).drew.cell? ⟨w.heap.size + 1, j, none⟩ = b.cells[j]?) from ⟨(Grows.al wr o).drew, (hA.below (below_al wr o)).cell, (hB.below (below_al wr o)).cell⟩)
  go_region_held3 (fun w' => Grows wr w' ∧ (∀ j, w'.cell? ⟨w.heap.size, j, none⟩ = a.cells[j]?) ∧ (∀ j, w'.cell? ⟨w.heap.size + 1, j, none⟩ = b.cells[j]?)) (first | exact hS0 | exact hS1 _ | assumption)
    (first
      | ((with_reducible refine (Tryz.cmp_Compare_int _ _ _).mono ?_); rintro x w1 ⟨rfl, rfl⟩)
      | ((with_reducible refine hO.mono ?_); rintro x w1 ⟨rfl, rfl⟩))
  go_wp2_with fail
  go_ret
  exact ⟨rfl, g2.trans (Grows.al wr _).drew⟩
end Go.Proofs.YtbihaoadgcckhaaGreat
