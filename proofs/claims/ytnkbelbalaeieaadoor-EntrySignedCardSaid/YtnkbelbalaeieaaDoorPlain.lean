/- quadriviumref10.plain: an entry with only the fields that its kind has; a theorem a kind. -/
import Derived.Test.YtnkbelbalaeieaaDoorOdd
import Derived.Test.YtnkbelbalaeieaaDoorPiece
import Derived.Deep.DeepCutAuto
import Derived.Deep.CutBlock
namespace Go.Proofs.YtnkbelbalaeieaaDoor
open Go Go.RowKit Go.Sort Go.Lib
attribute [local go_sem] Ent.cells

def plainE (e : Ent) : Ent := ⟨e.id, e.school, e.student, e.kind, e.day, e.on, if e.kind = 3 then e.course else ⟨#[]⟩, if e.kind = 3 then e.credits else 0, if e.kind = 3 ∨ e.kind = 4 then e.grade else 0,
  if e.kind = 4 ∨ e.kind = 5 ∨ e.kind = 6 ∨ e.kind = 9 then e.ref else 0, if e.kind = 7 then e.fro else 0, if e.kind = 1 ∨ e.kind = 8 ∨ e.kind = 2 then e.programme else 0, if e.kind = 2 then e.version else 0, e.key, e.mark⟩
theorem heap3b (w : World) (o o' o'' : Obj) : (((w.alloc o).alloc o').alloc o'').heap[w.heap.size + 1]? = some o' := by
  rw [(below_alloc1 ((w.alloc o).alloc o') o'').block _ (by rw [size_alloc, size_alloc]; omega)]
  have := heap_alloc_new (w.alloc o) o'
  rw [size_alloc] at this; exact this
set_option maxHeartbeats 4000000 in
set_option maxRecDepth 100000 in
theorem plain_1 (e : Ent) (hk : e.kind = 1) (w : World) :
    Calls Tryd.prog 53 #[e.val] w fun x w' => x = .returned (plainE e).val ∧ RowKit.Below w.heap.size w w' := by
  have hp := Lib.hid (show plainE e = (⟨e.id, e.school, e.student, e.kind, e.day, e.on, ⟨#[]⟩, 0, 0, 0, 0, e.programme, 0, e.key, e.mark⟩ : Ent) by unfold plainE; simp [hk])
  have HK := Lib.hid hk; clear hk
  go_enter Tryd.func53, Tryd.ntmps53
  go_upto_region 2 with fail
  have h3 := heap3 w (.cells e.cells 26) (.cells zeroCells 26) (.cells (Ent.cells (⟨e.id, e.school, e.student, e.kind, e.day, e.on, ⟨#[]⟩, 0, 0, 0, 0, 0, 0, e.key, e.mark⟩ : Ent)) 26)
  have h3b := heap3b w (.cells e.cells 26) (.cells zeroCells 26) (.cells (Ent.cells (⟨e.id, e.school, e.student, e.kind, e.day, e.on, ⟨#[]⟩, 0, 0, 0, 0, 0, 0, e.key, e.mark⟩ : Ent)) 26)
  have hbe := below3 w (.cells e.cells 26) (.cells zeroCells 26) (.cells (Ent.cells (⟨e.id, e.school, e.student, e.kind, e.day, e.on, ⟨#[]⟩, 0, 0, 0, 0, 0, 0, e.key, e.mark⟩ : Ent)) 26)
  unfold Ent.cells zeroCells at h3 h3b hbe
  generalize ((w.alloc _).alloc _).alloc _ = W at h3 h3b hbe ⊢
  obtain ⟨h3, h4⟩ := h3
  have hE : EntBox W w.heap.size e := h3
  have hZ : W.heap[w.heap.size + 1]? = some (.cells zeroCells 26 (0, 0)) := h3b
  have hO : EntBox W (w.heap.size + 1 + 1) (⟨e.id, e.school, e.student, e.kind, e.day, e.on, ⟨#[]⟩, 0, 0, 0, 0, 0, 0, e.key, e.mark⟩ : Ent) := h4
  clear h3 h3b h4
  have ck : W.cell? ⟨w.heap.size, 3, none⟩ = some (.int .i64 1) := by rw [hE.cell 3]; simp [Ent.cells, HK.out]
  have c11 : W.cell? ⟨w.heap.size, 11, none⟩ = some (.int .i64 e.programme) := hE.cell 11
  have o11 : W.cell? ⟨w.heap.size + 1 + 1, 11, none⟩ = some (.int .i64 0) := hO.cell 11
  have fz : ∀ j, W.frozen? ⟨w.heap.size + 1 + 1, j, none⟩ = false := fun j => Lib.frozen_of_heap hO j
  have hO0 : EntBox (W.setCell ⟨w.heap.size + 1 + 1, 11, none⟩ (.int .i64 e.programme)) (w.heap.size + 1 + 1) (⟨e.id, e.school, e.student, e.kind, e.day, e.on, ⟨#[]⟩, 0, 0, 0, 0, e.programme, 0, e.key, e.mark⟩ : Ent) := hO.setc 11 _ rfl
  have hZ0 : (W.setCell ⟨w.heap.size + 1 + 1, 11, none⟩ (.int .i64 e.programme)).heap[w.heap.size + 1]? = some (.cells zeroCells 26 (0, 0)) := by rw [Below.heap_setCell _ _ _ _ (by show w.heap.size + 1 ≠ w.heap.size + 1 + 1; omega)]; exact hZ
  have hb0 : RowKit.Below w.heap.size w (W.setCell ⟨w.heap.size + 1 + 1, 11, none⟩ (.int .i64 e.programme)) := hbe.setCell (by show _ ≤ w.heap.size + 1 + 1; omega) _
  have hat := hO0.at_
  clear hE hO
  go_wp2_with (first | ((with_reducible refine wpList_load_mid (op := ⟨some 68, _, _, _, _, _⟩) ?_ 26 (.tmp 3) ?_ (w.heap.size + 1 + 1) 0 ?_ (Ent.cells (⟨e.id, e.school, e.student, e.kind, e.day, e.on, ⟨#[]⟩, 0, 0, 0, 0, e.programme, 0, e.key, e.mark⟩ : Ent)).toList _ ?_ Tryd.underlying26 ?_ ?_ ?_); rfl; rfl; rfl; exact hat; rfl; kernel_rfl) | ((with_reducible refine wpList_store_row (o := ⟨none, .store 26 (.tmp 2) (.tmp 68), _, _, _, _⟩) ?_ 26 (.tmp 2) (.tmp 68) ?_ (w.heap.size + 1) (Ent.cells (⟨e.id, e.school, e.student, e.kind, e.day, e.on, ⟨#[]⟩, 0, 0, 0, 0, e.programme, 0, e.key, e.mark⟩ : Ent)) ?_ ?_ 26 zeroCells ?_ ?_ ?_ ?_ ?_); rfl; rfl; rfl; rfl; exact hZ0; kernel_rfl; rfl; simp [Ent.cells, Value.oneCell']))
  refine bodyPost_ret (v := Ent.val (⟨e.id, e.school, e.student, e.kind, e.day, e.on, ⟨#[]⟩, 0, 0, 0, 0, e.programme, 0, e.key, e.mark⟩ : Ent)) (results_cell_row (P := Tryd.prog) Tryd.results53 _ _ (w.heap.size + 1) 26 (Ent.cells (⟨e.id, e.school, e.student, e.kind, e.day, e.on, ⟨#[]⟩, 0, 0, 0, 0, e.programme, 0, e.key, e.mark⟩ : Ent)) (0, 0) _ rfl ?_ Tryd.underlying26 rfl (by kernel_rfl)) rfl ⟨by rw [hp.out], ?_⟩
  · exact heap_setRow hZ0 _
  · exact below_setRow hb0 (by omega) _

set_option maxHeartbeats 4000000 in
set_option maxRecDepth 100000 in
theorem plain_2 (e : Ent) (hk : e.kind = 2) (w : World) :
    Calls Tryd.prog 53 #[e.val] w fun x w' => x = .returned (plainE e).val ∧ RowKit.Below w.heap.size w w' := by
  have hp := Lib.hid (show plainE e = (⟨e.id, e.school, e.student, e.kind, e.day, e.on, ⟨#[]⟩, 0, 0, 0, 0, e.programme, e.version, e.key, e.mark⟩ : Ent) by unfold plainE; simp [hk])
  have HK := Lib.hid hk; clear hk
  go_enter Tryd.func53, Tryd.ntmps53
  go_upto_region 2 with fail
  have h3 := heap3 w (.cells e.cells 26) (.cells zeroCells 26) (.cells (Ent.cells (⟨e.id, e.school, e.student, e.kind, e.day, e.on, ⟨#[]⟩, 0, 0, 0, 0, 0, 0, e.key, e.mark⟩ : Ent)) 26)
  have h3b := heap3b w (.cells e.cells 26) (.cells zeroCells 26) (.cells (Ent.cells (⟨e.id, e.school, e.student, e.kind, e.day, e.on, ⟨#[]⟩, 0, 0, 0, 0, 0, 0, e.key, e.mark⟩ : Ent)) 26)
  have hbe := below3 w (.cells e.cells 26) (.cells zeroCells 26) (.cells (Ent.cells (⟨e.id, e.school, e.student, e.kind, e.day, e.on, ⟨#[]⟩, 0, 0, 0, 0, 0, 0, e.key, e.mark⟩ : Ent)) 26)
  unfold Ent.cells zeroCells at h3 h3b hbe
  generalize ((w.alloc _).alloc _).alloc _ = W at h3 h3b hbe ⊢
  obtain ⟨h3, h4⟩ := h3
  have hE : EntBox W w.heap.size e := h3
  have hZ : W.heap[w.heap.size + 1]? = some (.cells zeroCells 26 (0, 0)) := h3b
  have hO : EntBox W (w.heap.size + 1 + 1) (⟨e.id, e.school, e.student, e.kind, e.day, e.on, ⟨#[]⟩, 0, 0, 0, 0, 0, 0, e.key, e.mark⟩ : Ent) := h4
  clear h3 h3b h4
  have ck : W.cell? ⟨w.heap.size, 3, none⟩ = some (.int .i64 2) := by rw [hE.cell 3]; simp [Ent.cells, HK.out]
  have c11 : W.cell? ⟨w.heap.size, 11, none⟩ = some (.int .i64 e.programme) := hE.cell 11
  have o11 : W.cell? ⟨w.heap.size + 1 + 1, 11, none⟩ = some (.int .i64 0) := hO.cell 11
  have c12 : W.cell? ⟨w.heap.size, 12, none⟩ = some (.int .i64 e.version) := hE.cell 12
  have o12 : W.cell? ⟨w.heap.size + 1 + 1, 12, none⟩ = some (.int .i64 0) := hO.cell 12
  have fz : ∀ j, W.frozen? ⟨w.heap.size + 1 + 1, j, none⟩ = false := fun j => Lib.frozen_of_heap hO j
  have hO0 : EntBox (W.setCell ⟨w.heap.size + 1 + 1, 11, none⟩ (.int .i64 e.programme)) (w.heap.size + 1 + 1) (⟨e.id, e.school, e.student, e.kind, e.day, e.on, ⟨#[]⟩, 0, 0, 0, 0, e.programme, 0, e.key, e.mark⟩ : Ent) := hO.setc 11 _ rfl
  have hZ0 : (W.setCell ⟨w.heap.size + 1 + 1, 11, none⟩ (.int .i64 e.programme)).heap[w.heap.size + 1]? = some (.cells zeroCells 26 (0, 0)) := by rw [Below.heap_setCell _ _ _ _ (by show w.heap.size + 1 ≠ w.heap.size + 1 + 1; omega)]; exact hZ
  have hb0 : RowKit.Below w.heap.size w (W.setCell ⟨w.heap.size + 1 + 1, 11, none⟩ (.int .i64 e.programme)) := hbe.setCell (by show _ ≤ w.heap.size + 1 + 1; omega) _
  have hO1 : EntBox ((W.setCell ⟨w.heap.size + 1 + 1, 11, none⟩ (.int .i64 e.programme)).setCell ⟨w.heap.size + 1 + 1, 12, none⟩ (.int .i64 e.version)) (w.heap.size + 1 + 1) (⟨e.id, e.school, e.student, e.kind, e.day, e.on, ⟨#[]⟩, 0, 0, 0, 0, e.programme, e.version, e.key, e.mark⟩ : Ent) := hO0.setc 12 _ rfl
  have hZ1 : ((W.setCell ⟨w.heap.size + 1 + 1, 11, none⟩ (.int .i64 e.programme)).setCell ⟨w.heap.size + 1 + 1, 12, none⟩ (.int .i64 e.version)).heap[w.heap.size + 1]? = some (.cells zeroCells 26 (0, 0)) := by rw [Below.heap_setCell _ _ _ _ (by show w.heap.size + 1 ≠ w.heap.size + 1 + 1; omega)]; exact hZ0
  have hb1 : RowKit.Below w.heap.size w ((W.setCell ⟨w.heap.size + 1 + 1, 11, none⟩ (.int .i64 e.programme)).setCell ⟨w.heap.size + 1 + 1, 12, none⟩ (.int .i64 e.version)) := hb0.setCell (by show _ ≤ w.heap.size + 1 + 1; omega) _
  have hat := hO1.at_
  clear hE hO
  go_wp2_with (first | ((with_reducible refine wpList_load_mid (op := ⟨some 68, _, _, _, _, _⟩) ?_ 26 (.tmp 3) ?_ (w.heap.size + 1 + 1) 0 ?_ (Ent.cells (⟨e.id, e.school, e.student, e.kind, e.day, e.on, ⟨#[]⟩, 0, 0, 0, 0, e.programme, e.version, e.key, e.mark⟩ : Ent)).toList _ ?_ Tryd.underlying26 ?_ ?_ ?_); rfl; rfl; rfl; exact hat; rfl; kernel_rfl) | ((with_reducible refine wpList_store_row (o := ⟨none, .store 26 (.tmp 2) (.tmp 68), _, _, _, _⟩) ?_ 26 (.tmp 2) (.tmp 68) ?_ (w.heap.size + 1) (Ent.cells (⟨e.id, e.school, e.student, e.kind, e.day, e.on, ⟨#[]⟩, 0, 0, 0, 0, e.programme, e.version, e.key, e.mark⟩ : Ent)) ?_ ?_ 26 zeroCells ?_ ?_ ?_ ?_ ?_); rfl; rfl; rfl; rfl; exact hZ1; kernel_rfl; rfl; simp [Ent.cells, Value.oneCell']))
  refine bodyPost_ret (v := Ent.val (⟨e.id, e.school, e.student, e.kind, e.day, e.on, ⟨#[]⟩, 0, 0, 0, 0, e.programme, e.version, e.key, e.mark⟩ : Ent)) (results_cell_row (P := Tryd.prog) Tryd.results53 _ _ (w.heap.size + 1) 26 (Ent.cells (⟨e.id, e.school, e.student, e.kind, e.day, e.on, ⟨#[]⟩, 0, 0, 0, 0, e.programme, e.version, e.key, e.mark⟩ : Ent)) (0, 0) _ rfl ?_ Tryd.underlying26 rfl (by kernel_rfl)) rfl ⟨by rw [hp.out], ?_⟩
  · exact heap_setRow hZ1 _
  · exact below_setRow hb1 (by omega) _

set_option maxHeartbeats 4000000 in
set_option maxRecDepth 100000 in
theorem plain_3 (e : Ent) (hk : e.kind = 3) (w : World) :
    Calls Tryd.prog 53 #[e.val] w fun x w' => x = .returned (plainE e).val ∧ RowKit.Below w.heap.size w w' := by
  have hp := Lib.hid (show plainE e = (⟨e.id, e.school, e.student, e.kind, e.day, e.on, e.course, e.credits, e.grade, 0, 0, 0, 0, e.key, e.mark⟩ : Ent) by unfold plainE; simp [hk])
  have HK := Lib.hid hk; clear hk
  go_enter Tryd.func53, Tryd.ntmps53
  go_upto_region 2 with fail
  have h3 := heap3 w (.cells e.cells 26) (.cells zeroCells 26) (.cells (Ent.cells (⟨e.id, e.school, e.student, e.kind, e.day, e.on, ⟨#[]⟩, 0, 0, 0, 0, 0, 0, e.key, e.mark⟩ : Ent)) 26)
  have h3b := heap3b w (.cells e.cells 26) (.cells zeroCells 26) (.cells (Ent.cells (⟨e.id, e.school, e.student, e.kind, e.day, e.on, ⟨#[]⟩, 0, 0, 0, 0, 0, 0, e.key, e.mark⟩ : Ent)) 26)
  have hbe := below3 w (.cells e.cells 26) (.cells zeroCells 26) (.cells (Ent.cells (⟨e.id, e.school, e.student, e.kind, e.day, e.on, ⟨#[]⟩, 0, 0, 0, 0, 0, 0, e.key, e.mark⟩ : Ent)) 26)
  unfold Ent.cells zeroCells at h3 h3b hbe
  generalize ((w.alloc _).alloc _).alloc _ = W at h3 h3b hbe ⊢
  obtain ⟨h3, h4⟩ := h3
  have hE : EntBox W w.heap.size e := h3
  have hZ : W.heap[w.heap.size + 1]? = some (.cells zeroCells 26 (0, 0)) := h3b
  have hO : EntBox W (w.heap.size + 1 + 1) (⟨e.id, e.school, e.student, e.kind, e.day, e.on, ⟨#[]⟩, 0, 0, 0, 0, 0, 0, e.key, e.mark⟩ : Ent) := h4
  clear h3 h3b h4
  have ck : W.cell? ⟨w.heap.size, 3, none⟩ = some (.int .i64 3) := by rw [hE.cell 3]; simp [Ent.cells, HK.out]
  have c6 : W.cell? ⟨w.heap.size, 6, none⟩ = some (.string e.course) := hE.cell 6
  have o6 : W.cell? ⟨w.heap.size + 1 + 1, 6, none⟩ = some (.string ⟨#[]⟩) := hO.cell 6
  have c7 : W.cell? ⟨w.heap.size, 7, none⟩ = some (.int .i64 e.credits) := hE.cell 7
  have o7 : W.cell? ⟨w.heap.size + 1 + 1, 7, none⟩ = some (.int .i64 0) := hO.cell 7
  have c8 : W.cell? ⟨w.heap.size, 8, none⟩ = some (.int .i64 e.grade) := hE.cell 8
  have o8 : W.cell? ⟨w.heap.size + 1 + 1, 8, none⟩ = some (.int .i64 0) := hO.cell 8
  have fz : ∀ j, W.frozen? ⟨w.heap.size + 1 + 1, j, none⟩ = false := fun j => Lib.frozen_of_heap hO j
  have hO0 : EntBox (W.setCell ⟨w.heap.size + 1 + 1, 6, none⟩ (.string e.course)) (w.heap.size + 1 + 1) (⟨e.id, e.school, e.student, e.kind, e.day, e.on, e.course, 0, 0, 0, 0, 0, 0, e.key, e.mark⟩ : Ent) := hO.setc 6 _ rfl
  have hZ0 : (W.setCell ⟨w.heap.size + 1 + 1, 6, none⟩ (.string e.course)).heap[w.heap.size + 1]? = some (.cells zeroCells 26 (0, 0)) := by rw [Below.heap_setCell _ _ _ _ (by show w.heap.size + 1 ≠ w.heap.size + 1 + 1; omega)]; exact hZ
  have hb0 : RowKit.Below w.heap.size w (W.setCell ⟨w.heap.size + 1 + 1, 6, none⟩ (.string e.course)) := hbe.setCell (by show _ ≤ w.heap.size + 1 + 1; omega) _
  have hO1 : EntBox ((W.setCell ⟨w.heap.size + 1 + 1, 6, none⟩ (.string e.course)).setCell ⟨w.heap.size + 1 + 1, 7, none⟩ (.int .i64 e.credits)) (w.heap.size + 1 + 1) (⟨e.id, e.school, e.student, e.kind, e.day, e.on, e.course, e.credits, 0, 0, 0, 0, 0, e.key, e.mark⟩ : Ent) := hO0.setc 7 _ rfl
  have hZ1 : ((W.setCell ⟨w.heap.size + 1 + 1, 6, none⟩ (.string e.course)).setCell ⟨w.heap.size + 1 + 1, 7, none⟩ (.int .i64 e.credits)).heap[w.heap.size + 1]? = some (.cells zeroCells 26 (0, 0)) := by rw [Below.heap_setCell _ _ _ _ (by show w.heap.size + 1 ≠ w.heap.size + 1 + 1; omega)]; exact hZ0
  have hb1 : RowKit.Below w.heap.size w ((W.setCell ⟨w.heap.size + 1 + 1, 6, none⟩ (.string e.course)).setCell ⟨w.heap.size + 1 + 1, 7, none⟩ (.int .i64 e.credits)) := hb0.setCell (by show _ ≤ w.heap.size + 1 + 1; omega) _
  have hO2 : EntBox (((W.setCell ⟨w.heap.size + 1 + 1, 6, none⟩ (.string e.course)).setCell ⟨w.heap.size + 1 + 1, 7, none⟩ (.int .i64 e.credits)).setCell ⟨w.heap.size + 1 + 1, 8, none⟩ (.int .i64 e.grade)) (w.heap.size + 1 + 1) (⟨e.id, e.school, e.student, e.kind, e.day, e.on, e.course, e.credits, e.grade, 0, 0, 0, 0, e.key, e.mark⟩ : Ent) := hO1.setc 8 _ rfl
  have hZ2 : (((W.setCell ⟨w.heap.size + 1 + 1, 6, none⟩ (.string e.course)).setCell ⟨w.heap.size + 1 + 1, 7, none⟩ (.int .i64 e.credits)).setCell ⟨w.heap.size + 1 + 1, 8, none⟩ (.int .i64 e.grade)).heap[w.heap.size + 1]? = some (.cells zeroCells 26 (0, 0)) := by rw [Below.heap_setCell _ _ _ _ (by show w.heap.size + 1 ≠ w.heap.size + 1 + 1; omega)]; exact hZ1
  have hb2 : RowKit.Below w.heap.size w (((W.setCell ⟨w.heap.size + 1 + 1, 6, none⟩ (.string e.course)).setCell ⟨w.heap.size + 1 + 1, 7, none⟩ (.int .i64 e.credits)).setCell ⟨w.heap.size + 1 + 1, 8, none⟩ (.int .i64 e.grade)) := hb1.setCell (by show _ ≤ w.heap.size + 1 + 1; omega) _
  have hat := hO2.at_
  clear hE hO
  go_wp2_with (first | ((with_reducible refine wpList_load_mid (op := ⟨some 68, _, _, _, _, _⟩) ?_ 26 (.tmp 3) ?_ (w.heap.size + 1 + 1) 0 ?_ (Ent.cells (⟨e.id, e.school, e.student, e.kind, e.day, e.on, e.course, e.credits, e.grade, 0, 0, 0, 0, e.key, e.mark⟩ : Ent)).toList _ ?_ Tryd.underlying26 ?_ ?_ ?_); rfl; rfl; rfl; exact hat; rfl; kernel_rfl) | ((with_reducible refine wpList_store_row (o := ⟨none, .store 26 (.tmp 2) (.tmp 68), _, _, _, _⟩) ?_ 26 (.tmp 2) (.tmp 68) ?_ (w.heap.size + 1) (Ent.cells (⟨e.id, e.school, e.student, e.kind, e.day, e.on, e.course, e.credits, e.grade, 0, 0, 0, 0, e.key, e.mark⟩ : Ent)) ?_ ?_ 26 zeroCells ?_ ?_ ?_ ?_ ?_); rfl; rfl; rfl; rfl; exact hZ2; kernel_rfl; rfl; simp [Ent.cells, Value.oneCell']))
  refine bodyPost_ret (v := Ent.val (⟨e.id, e.school, e.student, e.kind, e.day, e.on, e.course, e.credits, e.grade, 0, 0, 0, 0, e.key, e.mark⟩ : Ent)) (results_cell_row (P := Tryd.prog) Tryd.results53 _ _ (w.heap.size + 1) 26 (Ent.cells (⟨e.id, e.school, e.student, e.kind, e.day, e.on, e.course, e.credits, e.grade, 0, 0, 0, 0, e.key, e.mark⟩ : Ent)) (0, 0) _ rfl ?_ Tryd.underlying26 rfl (by kernel_rfl)) rfl ⟨by rw [hp.out], ?_⟩
  · exact heap_setRow hZ2 _
  · exact below_setRow hb2 (by omega) _

set_option maxHeartbeats 4000000 in
set_option maxRecDepth 100000 in
theorem plain_4 (e : Ent) (hk : e.kind = 4) (w : World) :
    Calls Tryd.prog 53 #[e.val] w fun x w' => x = .returned (plainE e).val ∧ RowKit.Below w.heap.size w w' := by
  have hp := Lib.hid (show plainE e = (⟨e.id, e.school, e.student, e.kind, e.day, e.on, ⟨#[]⟩, 0, e.grade, e.ref, 0, 0, 0, e.key, e.mark⟩ : Ent) by unfold plainE; simp [hk])
  have HK := Lib.hid hk; clear hk
  go_enter Tryd.func53, Tryd.ntmps53
  go_upto_region 2 with fail
  have h3 := heap3 w (.cells e.cells 26) (.cells zeroCells 26) (.cells (Ent.cells (⟨e.id, e.school, e.student, e.kind, e.day, e.on, ⟨#[]⟩, 0, 0, 0, 0, 0, 0, e.key, e.mark⟩ : Ent)) 26)
  have h3b := heap3b w (.cells e.cells 26) (.cells zeroCells 26) (.cells (Ent.cells (⟨e.id, e.school, e.student, e.kind, e.day, e.on, ⟨#[]⟩, 0, 0, 0, 0, 0, 0, e.key, e.mark⟩ : Ent)) 26)
  have hbe := below3 w (.cells e.cells 26) (.cells zeroCells 26) (.cells (Ent.cells (⟨e.id, e.school, e.student, e.kind, e.day, e.on, ⟨#[]⟩, 0, 0, 0, 0, 0, 0, e.key, e.mark⟩ : Ent)) 26)
  unfold Ent.cells zeroCells at h3 h3b hbe
  generalize ((w.alloc _).alloc _).alloc _ = W at h3 h3b hbe ⊢
  obtain ⟨h3, h4⟩ := h3
  have hE : EntBox W w.heap.size e := h3
  have hZ : W.heap[w.heap.size + 1]? = some (.cells zeroCells 26 (0, 0)) := h3b
  have hO : EntBox W (w.heap.size + 1 + 1) (⟨e.id, e.school, e.student, e.kind, e.day, e.on, ⟨#[]⟩, 0, 0, 0, 0, 0, 0, e.key, e.mark⟩ : Ent) := h4
  clear h3 h3b h4
  have ck : W.cell? ⟨w.heap.size, 3, none⟩ = some (.int .i64 4) := by rw [hE.cell 3]; simp [Ent.cells, HK.out]
  have c9 : W.cell? ⟨w.heap.size, 9, none⟩ = some (.int .i64 e.ref) := hE.cell 9
  have o9 : W.cell? ⟨w.heap.size + 1 + 1, 9, none⟩ = some (.int .i64 0) := hO.cell 9
  have c8 : W.cell? ⟨w.heap.size, 8, none⟩ = some (.int .i64 e.grade) := hE.cell 8
  have o8 : W.cell? ⟨w.heap.size + 1 + 1, 8, none⟩ = some (.int .i64 0) := hO.cell 8
  have fz : ∀ j, W.frozen? ⟨w.heap.size + 1 + 1, j, none⟩ = false := fun j => Lib.frozen_of_heap hO j
  have hO0 : EntBox (W.setCell ⟨w.heap.size + 1 + 1, 9, none⟩ (.int .i64 e.ref)) (w.heap.size + 1 + 1) (⟨e.id, e.school, e.student, e.kind, e.day, e.on, ⟨#[]⟩, 0, 0, e.ref, 0, 0, 0, e.key, e.mark⟩ : Ent) := hO.setc 9 _ rfl
  have hZ0 : (W.setCell ⟨w.heap.size + 1 + 1, 9, none⟩ (.int .i64 e.ref)).heap[w.heap.size + 1]? = some (.cells zeroCells 26 (0, 0)) := by rw [Below.heap_setCell _ _ _ _ (by show w.heap.size + 1 ≠ w.heap.size + 1 + 1; omega)]; exact hZ
  have hb0 : RowKit.Below w.heap.size w (W.setCell ⟨w.heap.size + 1 + 1, 9, none⟩ (.int .i64 e.ref)) := hbe.setCell (by show _ ≤ w.heap.size + 1 + 1; omega) _
  have hO1 : EntBox ((W.setCell ⟨w.heap.size + 1 + 1, 9, none⟩ (.int .i64 e.ref)).setCell ⟨w.heap.size + 1 + 1, 8, none⟩ (.int .i64 e.grade)) (w.heap.size + 1 + 1) (⟨e.id, e.school, e.student, e.kind, e.day, e.on, ⟨#[]⟩, 0, e.grade, e.ref, 0, 0, 0, e.key, e.mark⟩ : Ent) := hO0.setc 8 _ rfl
  have hZ1 : ((W.setCell ⟨w.heap.size + 1 + 1, 9, none⟩ (.int .i64 e.ref)).setCell ⟨w.heap.size + 1 + 1, 8, none⟩ (.int .i64 e.grade)).heap[w.heap.size + 1]? = some (.cells zeroCells 26 (0, 0)) := by rw [Below.heap_setCell _ _ _ _ (by show w.heap.size + 1 ≠ w.heap.size + 1 + 1; omega)]; exact hZ0
  have hb1 : RowKit.Below w.heap.size w ((W.setCell ⟨w.heap.size + 1 + 1, 9, none⟩ (.int .i64 e.ref)).setCell ⟨w.heap.size + 1 + 1, 8, none⟩ (.int .i64 e.grade)) := hb0.setCell (by show _ ≤ w.heap.size + 1 + 1; omega) _
  have hat := hO1.at_
  clear hE hO
  go_wp2_with (first | ((with_reducible refine wpList_load_mid (op := ⟨some 68, _, _, _, _, _⟩) ?_ 26 (.tmp 3) ?_ (w.heap.size + 1 + 1) 0 ?_ (Ent.cells (⟨e.id, e.school, e.student, e.kind, e.day, e.on, ⟨#[]⟩, 0, e.grade, e.ref, 0, 0, 0, e.key, e.mark⟩ : Ent)).toList _ ?_ Tryd.underlying26 ?_ ?_ ?_); rfl; rfl; rfl; exact hat; rfl; kernel_rfl) | ((with_reducible refine wpList_store_row (o := ⟨none, .store 26 (.tmp 2) (.tmp 68), _, _, _, _⟩) ?_ 26 (.tmp 2) (.tmp 68) ?_ (w.heap.size + 1) (Ent.cells (⟨e.id, e.school, e.student, e.kind, e.day, e.on, ⟨#[]⟩, 0, e.grade, e.ref, 0, 0, 0, e.key, e.mark⟩ : Ent)) ?_ ?_ 26 zeroCells ?_ ?_ ?_ ?_ ?_); rfl; rfl; rfl; rfl; exact hZ1; kernel_rfl; rfl; simp [Ent.cells, Value.oneCell']))
  refine bodyPost_ret (v := Ent.val (⟨e.id, e.school, e.student, e.kind, e.day, e.on, ⟨#[]⟩, 0, e.grade, e.ref, 0, 0, 0, e.key, e.mark⟩ : Ent)) (results_cell_row (P := Tryd.prog) Tryd.results53 _ _ (w.heap.size + 1) 26 (Ent.cells (⟨e.id, e.school, e.student, e.kind, e.day, e.on, ⟨#[]⟩, 0, e.grade, e.ref, 0, 0, 0, e.key, e.mark⟩ : Ent)) (0, 0) _ rfl ?_ Tryd.underlying26 rfl (by kernel_rfl)) rfl ⟨by rw [hp.out], ?_⟩
  · exact heap_setRow hZ1 _
  · exact below_setRow hb1 (by omega) _

set_option maxHeartbeats 4000000 in
set_option maxRecDepth 100000 in
theorem plain_5 (e : Ent) (hk : e.kind = 5) (w : World) :
    Calls Tryd.prog 53 #[e.val] w fun x w' => x = .returned (plainE e).val ∧ RowKit.Below w.heap.size w w' := by
  have hp := Lib.hid (show plainE e = (⟨e.id, e.school, e.student, e.kind, e.day, e.on, ⟨#[]⟩, 0, 0, e.ref, 0, 0, 0, e.key, e.mark⟩ : Ent) by unfold plainE; simp [hk])
  have HK := Lib.hid hk; clear hk
  go_enter Tryd.func53, Tryd.ntmps53
  go_upto_region 2 with fail
  have h3 := heap3 w (.cells e.cells 26) (.cells zeroCells 26) (.cells (Ent.cells (⟨e.id, e.school, e.student, e.kind, e.day, e.on, ⟨#[]⟩, 0, 0, 0, 0, 0, 0, e.key, e.mark⟩ : Ent)) 26)
  have h3b := heap3b w (.cells e.cells 26) (.cells zeroCells 26) (.cells (Ent.cells (⟨e.id, e.school, e.student, e.kind, e.day, e.on, ⟨#[]⟩, 0, 0, 0, 0, 0, 0, e.key, e.mark⟩ : Ent)) 26)
  have hbe := below3 w (.cells e.cells 26) (.cells zeroCells 26) (.cells (Ent.cells (⟨e.id, e.school, e.student, e.kind, e.day, e.on, ⟨#[]⟩, 0, 0, 0, 0, 0, 0, e.key, e.mark⟩ : Ent)) 26)
  unfold Ent.cells zeroCells at h3 h3b hbe
  generalize ((w.alloc _).alloc _).alloc _ = W at h3 h3b hbe ⊢
  obtain ⟨h3, h4⟩ := h3
  have hE : EntBox W w.heap.size e := h3
  have hZ : W.heap[w.heap.size + 1]? = some (.cells zeroCells 26 (0, 0)) := h3b
  have hO : EntBox W (w.heap.size + 1 + 1) (⟨e.id, e.school, e.student, e.kind, e.day, e.on, ⟨#[]⟩, 0, 0, 0, 0, 0, 0, e.key, e.mark⟩ : Ent) := h4
  clear h3 h3b h4
  have ck : W.cell? ⟨w.heap.size, 3, none⟩ = some (.int .i64 5) := by rw [hE.cell 3]; simp [Ent.cells, HK.out]
  have c9 : W.cell? ⟨w.heap.size, 9, none⟩ = some (.int .i64 e.ref) := hE.cell 9
  have o9 : W.cell? ⟨w.heap.size + 1 + 1, 9, none⟩ = some (.int .i64 0) := hO.cell 9
  have fz : ∀ j, W.frozen? ⟨w.heap.size + 1 + 1, j, none⟩ = false := fun j => Lib.frozen_of_heap hO j
  have hO0 : EntBox (W.setCell ⟨w.heap.size + 1 + 1, 9, none⟩ (.int .i64 e.ref)) (w.heap.size + 1 + 1) (⟨e.id, e.school, e.student, e.kind, e.day, e.on, ⟨#[]⟩, 0, 0, e.ref, 0, 0, 0, e.key, e.mark⟩ : Ent) := hO.setc 9 _ rfl
  have hZ0 : (W.setCell ⟨w.heap.size + 1 + 1, 9, none⟩ (.int .i64 e.ref)).heap[w.heap.size + 1]? = some (.cells zeroCells 26 (0, 0)) := by rw [Below.heap_setCell _ _ _ _ (by show w.heap.size + 1 ≠ w.heap.size + 1 + 1; omega)]; exact hZ
  have hb0 : RowKit.Below w.heap.size w (W.setCell ⟨w.heap.size + 1 + 1, 9, none⟩ (.int .i64 e.ref)) := hbe.setCell (by show _ ≤ w.heap.size + 1 + 1; omega) _
  have hat := hO0.at_
  clear hE hO
  go_wp2_with (first | ((with_reducible refine wpList_load_mid (op := ⟨some 68, _, _, _, _, _⟩) ?_ 26 (.tmp 3) ?_ (w.heap.size + 1 + 1) 0 ?_ (Ent.cells (⟨e.id, e.school, e.student, e.kind, e.day, e.on, ⟨#[]⟩, 0, 0, e.ref, 0, 0, 0, e.key, e.mark⟩ : Ent)).toList _ ?_ Tryd.underlying26 ?_ ?_ ?_); rfl; rfl; rfl; exact hat; rfl; kernel_rfl) | ((with_reducible refine wpList_store_row (o := ⟨none, .store 26 (.tmp 2) (.tmp 68), _, _, _, _⟩) ?_ 26 (.tmp 2) (.tmp 68) ?_ (w.heap.size + 1) (Ent.cells (⟨e.id, e.school, e.student, e.kind, e.day, e.on, ⟨#[]⟩, 0, 0, e.ref, 0, 0, 0, e.key, e.mark⟩ : Ent)) ?_ ?_ 26 zeroCells ?_ ?_ ?_ ?_ ?_); rfl; rfl; rfl; rfl; exact hZ0; kernel_rfl; rfl; simp [Ent.cells, Value.oneCell']))
  refine bodyPost_ret (v := Ent.val (⟨e.id, e.school, e.student, e.kind, e.day, e.on, ⟨#[]⟩, 0, 0, e.ref, 0, 0, 0, e.key, e.mark⟩ : Ent)) (results_cell_row (P := Tryd.prog) Tryd.results53 _ _ (w.heap.size + 1) 26 (Ent.cells (⟨e.id, e.school, e.student, e.kind, e.day, e.on, ⟨#[]⟩, 0, 0, e.ref, 0, 0, 0, e.key, e.mark⟩ : Ent)) (0, 0) _ rfl ?_ Tryd.underlying26 rfl (by kernel_rfl)) rfl ⟨by rw [hp.out], ?_⟩
  · exact heap_setRow hZ0 _
  · exact below_setRow hb0 (by omega) _

set_option maxHeartbeats 4000000 in
set_option maxRecDepth 100000 in
theorem plain_6 (e : Ent) (hk : e.kind = 6) (w : World) :
    Calls Tryd.prog 53 #[e.val] w fun x w' => x = .returned (plainE e).val ∧ RowKit.Below w.heap.size w w' := by
  have hp := Lib.hid (show plainE e = (⟨e.id, e.school, e.student, e.kind, e.day, e.on, ⟨#[]⟩, 0, 0, e.ref, 0, 0, 0, e.key, e.mark⟩ : Ent) by unfold plainE; simp [hk])
  have HK := Lib.hid hk; clear hk
  go_enter Tryd.func53, Tryd.ntmps53
  go_upto_region 2 with fail
  have h3 := heap3 w (.cells e.cells 26) (.cells zeroCells 26) (.cells (Ent.cells (⟨e.id, e.school, e.student, e.kind, e.day, e.on, ⟨#[]⟩, 0, 0, 0, 0, 0, 0, e.key, e.mark⟩ : Ent)) 26)
  have h3b := heap3b w (.cells e.cells 26) (.cells zeroCells 26) (.cells (Ent.cells (⟨e.id, e.school, e.student, e.kind, e.day, e.on, ⟨#[]⟩, 0, 0, 0, 0, 0, 0, e.key, e.mark⟩ : Ent)) 26)
  have hbe := below3 w (.cells e.cells 26) (.cells zeroCells 26) (.cells (Ent.cells (⟨e.id, e.school, e.student, e.kind, e.day, e.on, ⟨#[]⟩, 0, 0, 0, 0, 0, 0, e.key, e.mark⟩ : Ent)) 26)
  unfold Ent.cells zeroCells at h3 h3b hbe
  generalize ((w.alloc _).alloc _).alloc _ = W at h3 h3b hbe ⊢
  obtain ⟨h3, h4⟩ := h3
  have hE : EntBox W w.heap.size e := h3
  have hZ : W.heap[w.heap.size + 1]? = some (.cells zeroCells 26 (0, 0)) := h3b
  have hO : EntBox W (w.heap.size + 1 + 1) (⟨e.id, e.school, e.student, e.kind, e.day, e.on, ⟨#[]⟩, 0, 0, 0, 0, 0, 0, e.key, e.mark⟩ : Ent) := h4
  clear h3 h3b h4
  have ck : W.cell? ⟨w.heap.size, 3, none⟩ = some (.int .i64 6) := by rw [hE.cell 3]; simp [Ent.cells, HK.out]
  have c9 : W.cell? ⟨w.heap.size, 9, none⟩ = some (.int .i64 e.ref) := hE.cell 9
  have o9 : W.cell? ⟨w.heap.size + 1 + 1, 9, none⟩ = some (.int .i64 0) := hO.cell 9
  have fz : ∀ j, W.frozen? ⟨w.heap.size + 1 + 1, j, none⟩ = false := fun j => Lib.frozen_of_heap hO j
  have hO0 : EntBox (W.setCell ⟨w.heap.size + 1 + 1, 9, none⟩ (.int .i64 e.ref)) (w.heap.size + 1 + 1) (⟨e.id, e.school, e.student, e.kind, e.day, e.on, ⟨#[]⟩, 0, 0, e.ref, 0, 0, 0, e.key, e.mark⟩ : Ent) := hO.setc 9 _ rfl
  have hZ0 : (W.setCell ⟨w.heap.size + 1 + 1, 9, none⟩ (.int .i64 e.ref)).heap[w.heap.size + 1]? = some (.cells zeroCells 26 (0, 0)) := by rw [Below.heap_setCell _ _ _ _ (by show w.heap.size + 1 ≠ w.heap.size + 1 + 1; omega)]; exact hZ
  have hb0 : RowKit.Below w.heap.size w (W.setCell ⟨w.heap.size + 1 + 1, 9, none⟩ (.int .i64 e.ref)) := hbe.setCell (by show _ ≤ w.heap.size + 1 + 1; omega) _
  have hat := hO0.at_
  clear hE hO
  go_wp2_with (first | ((with_reducible refine wpList_load_mid (op := ⟨some 68, _, _, _, _, _⟩) ?_ 26 (.tmp 3) ?_ (w.heap.size + 1 + 1) 0 ?_ (Ent.cells (⟨e.id, e.school, e.student, e.kind, e.day, e.on, ⟨#[]⟩, 0, 0, e.ref, 0, 0, 0, e.key, e.mark⟩ : Ent)).toList _ ?_ Tryd.underlying26 ?_ ?_ ?_); rfl; rfl; rfl; exact hat; rfl; kernel_rfl) | ((with_reducible refine wpList_store_row (o := ⟨none, .store 26 (.tmp 2) (.tmp 68), _, _, _, _⟩) ?_ 26 (.tmp 2) (.tmp 68) ?_ (w.heap.size + 1) (Ent.cells (⟨e.id, e.school, e.student, e.kind, e.day, e.on, ⟨#[]⟩, 0, 0, e.ref, 0, 0, 0, e.key, e.mark⟩ : Ent)) ?_ ?_ 26 zeroCells ?_ ?_ ?_ ?_ ?_); rfl; rfl; rfl; rfl; exact hZ0; kernel_rfl; rfl; simp [Ent.cells, Value.oneCell']))
  refine bodyPost_ret (v := Ent.val (⟨e.id, e.school, e.student, e.kind, e.day, e.on, ⟨#[]⟩, 0, 0, e.ref, 0, 0, 0, e.key, e.mark⟩ : Ent)) (results_cell_row (P := Tryd.prog) Tryd.results53 _ _ (w.heap.size + 1) 26 (Ent.cells (⟨e.id, e.school, e.student, e.kind, e.day, e.on, ⟨#[]⟩, 0, 0, e.ref, 0, 0, 0, e.key, e.mark⟩ : Ent)) (0, 0) _ rfl ?_ Tryd.underlying26 rfl (by kernel_rfl)) rfl ⟨by rw [hp.out], ?_⟩
  · exact heap_setRow hZ0 _
  · exact below_setRow hb0 (by omega) _

set_option maxHeartbeats 4000000 in
set_option maxRecDepth 100000 in
theorem plain_7 (e : Ent) (hk : e.kind = 7) (w : World) :
    Calls Tryd.prog 53 #[e.val] w fun x w' => x = .returned (plainE e).val ∧ RowKit.Below w.heap.size w w' := by
  have hp := Lib.hid (show plainE e = (⟨e.id, e.school, e.student, e.kind, e.day, e.on, ⟨#[]⟩, 0, 0, 0, e.fro, 0, 0, e.key, e.mark⟩ : Ent) by unfold plainE; simp [hk])
  have HK := Lib.hid hk; clear hk
  go_enter Tryd.func53, Tryd.ntmps53
  go_upto_region 2 with fail
  have h3 := heap3 w (.cells e.cells 26) (.cells zeroCells 26) (.cells (Ent.cells (⟨e.id, e.school, e.student, e.kind, e.day, e.on, ⟨#[]⟩, 0, 0, 0, 0, 0, 0, e.key, e.mark⟩ : Ent)) 26)
  have h3b := heap3b w (.cells e.cells 26) (.cells zeroCells 26) (.cells (Ent.cells (⟨e.id, e.school, e.student, e.kind, e.day, e.on, ⟨#[]⟩, 0, 0, 0, 0, 0, 0, e.key, e.mark⟩ : Ent)) 26)
  have hbe := below3 w (.cells e.cells 26) (.cells zeroCells 26) (.cells (Ent.cells (⟨e.id, e.school, e.student, e.kind, e.day, e.on, ⟨#[]⟩, 0, 0, 0, 0, 0, 0, e.key, e.mark⟩ : Ent)) 26)
  unfold Ent.cells zeroCells at h3 h3b hbe
  generalize ((w.alloc _).alloc _).alloc _ = W at h3 h3b hbe ⊢
  obtain ⟨h3, h4⟩ := h3
  have hE : EntBox W w.heap.size e := h3
  have hZ : W.heap[w.heap.size + 1]? = some (.cells zeroCells 26 (0, 0)) := h3b
  have hO : EntBox W (w.heap.size + 1 + 1) (⟨e.id, e.school, e.student, e.kind, e.day, e.on, ⟨#[]⟩, 0, 0, 0, 0, 0, 0, e.key, e.mark⟩ : Ent) := h4
  clear h3 h3b h4
  have ck : W.cell? ⟨w.heap.size, 3, none⟩ = some (.int .i64 7) := by rw [hE.cell 3]; simp [Ent.cells, HK.out]
  have c10 : W.cell? ⟨w.heap.size, 10, none⟩ = some (.int .i64 e.fro) := hE.cell 10
  have o10 : W.cell? ⟨w.heap.size + 1 + 1, 10, none⟩ = some (.int .i64 0) := hO.cell 10
  have fz : ∀ j, W.frozen? ⟨w.heap.size + 1 + 1, j, none⟩ = false := fun j => Lib.frozen_of_heap hO j
  have hO0 : EntBox (W.setCell ⟨w.heap.size + 1 + 1, 10, none⟩ (.int .i64 e.fro)) (w.heap.size + 1 + 1) (⟨e.id, e.school, e.student, e.kind, e.day, e.on, ⟨#[]⟩, 0, 0, 0, e.fro, 0, 0, e.key, e.mark⟩ : Ent) := hO.setc 10 _ rfl
  have hZ0 : (W.setCell ⟨w.heap.size + 1 + 1, 10, none⟩ (.int .i64 e.fro)).heap[w.heap.size + 1]? = some (.cells zeroCells 26 (0, 0)) := by rw [Below.heap_setCell _ _ _ _ (by show w.heap.size + 1 ≠ w.heap.size + 1 + 1; omega)]; exact hZ
  have hb0 : RowKit.Below w.heap.size w (W.setCell ⟨w.heap.size + 1 + 1, 10, none⟩ (.int .i64 e.fro)) := hbe.setCell (by show _ ≤ w.heap.size + 1 + 1; omega) _
  have hat := hO0.at_
  clear hE hO
  go_wp2_with (first | ((with_reducible refine wpList_load_mid (op := ⟨some 68, _, _, _, _, _⟩) ?_ 26 (.tmp 3) ?_ (w.heap.size + 1 + 1) 0 ?_ (Ent.cells (⟨e.id, e.school, e.student, e.kind, e.day, e.on, ⟨#[]⟩, 0, 0, 0, e.fro, 0, 0, e.key, e.mark⟩ : Ent)).toList _ ?_ Tryd.underlying26 ?_ ?_ ?_); rfl; rfl; rfl; exact hat; rfl; kernel_rfl) | ((with_reducible refine wpList_store_row (o := ⟨none, .store 26 (.tmp 2) (.tmp 68), _, _, _, _⟩) ?_ 26 (.tmp 2) (.tmp 68) ?_ (w.heap.size + 1) (Ent.cells (⟨e.id, e.school, e.student, e.kind, e.day, e.on, ⟨#[]⟩, 0, 0, 0, e.fro, 0, 0, e.key, e.mark⟩ : Ent)) ?_ ?_ 26 zeroCells ?_ ?_ ?_ ?_ ?_); rfl; rfl; rfl; rfl; exact hZ0; kernel_rfl; rfl; simp [Ent.cells, Value.oneCell']))
  refine bodyPost_ret (v := Ent.val (⟨e.id, e.school, e.student, e.kind, e.day, e.on, ⟨#[]⟩, 0, 0, 0, e.fro, 0, 0, e.key, e.mark⟩ : Ent)) (results_cell_row (P := Tryd.prog) Tryd.results53 _ _ (w.heap.size + 1) 26 (Ent.cells (⟨e.id, e.school, e.student, e.kind, e.day, e.on, ⟨#[]⟩, 0, 0, 0, e.fro, 0, 0, e.key, e.mark⟩ : Ent)) (0, 0) _ rfl ?_ Tryd.underlying26 rfl (by kernel_rfl)) rfl ⟨by rw [hp.out], ?_⟩
  · exact heap_setRow hZ0 _
  · exact below_setRow hb0 (by omega) _

set_option maxHeartbeats 4000000 in
set_option maxRecDepth 100000 in
theorem plain_8 (e : Ent) (hk : e.kind = 8) (w : World) :
    Calls Tryd.prog 53 #[e.val] w fun x w' => x = .returned (plainE e).val ∧ RowKit.Below w.heap.size w w' := by
  have hp := Lib.hid (show plainE e = (⟨e.id, e.school, e.student, e.kind, e.day, e.on, ⟨#[]⟩, 0, 0, 0, 0, e.programme, 0, e.key, e.mark⟩ : Ent) by unfold plainE; simp [hk])
  have HK := Lib.hid hk; clear hk
  go_enter Tryd.func53, Tryd.ntmps53
  go_upto_region 2 with fail
  have h3 := heap3 w (.cells e.cells 26) (.cells zeroCells 26) (.cells (Ent.cells (⟨e.id, e.school, e.student, e.kind, e.day, e.on, ⟨#[]⟩, 0, 0, 0, 0, 0, 0, e.key, e.mark⟩ : Ent)) 26)
  have h3b := heap3b w (.cells e.cells 26) (.cells zeroCells 26) (.cells (Ent.cells (⟨e.id, e.school, e.student, e.kind, e.day, e.on, ⟨#[]⟩, 0, 0, 0, 0, 0, 0, e.key, e.mark⟩ : Ent)) 26)
  have hbe := below3 w (.cells e.cells 26) (.cells zeroCells 26) (.cells (Ent.cells (⟨e.id, e.school, e.student, e.kind, e.day, e.on, ⟨#[]⟩, 0, 0, 0, 0, 0, 0, e.key, e.mark⟩ : Ent)) 26)
  unfold Ent.cells zeroCells at h3 h3b hbe
  generalize ((w.alloc _).alloc _).alloc _ = W at h3 h3b hbe ⊢
  obtain ⟨h3, h4⟩ := h3
  have hE : EntBox W w.heap.size e := h3
  have hZ : W.heap[w.heap.size + 1]? = some (.cells zeroCells 26 (0, 0)) := h3b
  have hO : EntBox W (w.heap.size + 1 + 1) (⟨e.id, e.school, e.student, e.kind, e.day, e.on, ⟨#[]⟩, 0, 0, 0, 0, 0, 0, e.key, e.mark⟩ : Ent) := h4
  clear h3 h3b h4
  have ck : W.cell? ⟨w.heap.size, 3, none⟩ = some (.int .i64 8) := by rw [hE.cell 3]; simp [Ent.cells, HK.out]
  have c11 : W.cell? ⟨w.heap.size, 11, none⟩ = some (.int .i64 e.programme) := hE.cell 11
  have o11 : W.cell? ⟨w.heap.size + 1 + 1, 11, none⟩ = some (.int .i64 0) := hO.cell 11
  have fz : ∀ j, W.frozen? ⟨w.heap.size + 1 + 1, j, none⟩ = false := fun j => Lib.frozen_of_heap hO j
  have hO0 : EntBox (W.setCell ⟨w.heap.size + 1 + 1, 11, none⟩ (.int .i64 e.programme)) (w.heap.size + 1 + 1) (⟨e.id, e.school, e.student, e.kind, e.day, e.on, ⟨#[]⟩, 0, 0, 0, 0, e.programme, 0, e.key, e.mark⟩ : Ent) := hO.setc 11 _ rfl
  have hZ0 : (W.setCell ⟨w.heap.size + 1 + 1, 11, none⟩ (.int .i64 e.programme)).heap[w.heap.size + 1]? = some (.cells zeroCells 26 (0, 0)) := by rw [Below.heap_setCell _ _ _ _ (by show w.heap.size + 1 ≠ w.heap.size + 1 + 1; omega)]; exact hZ
  have hb0 : RowKit.Below w.heap.size w (W.setCell ⟨w.heap.size + 1 + 1, 11, none⟩ (.int .i64 e.programme)) := hbe.setCell (by show _ ≤ w.heap.size + 1 + 1; omega) _
  have hat := hO0.at_
  clear hE hO
  go_wp2_with (first | ((with_reducible refine wpList_load_mid (op := ⟨some 68, _, _, _, _, _⟩) ?_ 26 (.tmp 3) ?_ (w.heap.size + 1 + 1) 0 ?_ (Ent.cells (⟨e.id, e.school, e.student, e.kind, e.day, e.on, ⟨#[]⟩, 0, 0, 0, 0, e.programme, 0, e.key, e.mark⟩ : Ent)).toList _ ?_ Tryd.underlying26 ?_ ?_ ?_); rfl; rfl; rfl; exact hat; rfl; kernel_rfl) | ((with_reducible refine wpList_store_row (o := ⟨none, .store 26 (.tmp 2) (.tmp 68), _, _, _, _⟩) ?_ 26 (.tmp 2) (.tmp 68) ?_ (w.heap.size + 1) (Ent.cells (⟨e.id, e.school, e.student, e.kind, e.day, e.on, ⟨#[]⟩, 0, 0, 0, 0, e.programme, 0, e.key, e.mark⟩ : Ent)) ?_ ?_ 26 zeroCells ?_ ?_ ?_ ?_ ?_); rfl; rfl; rfl; rfl; exact hZ0; kernel_rfl; rfl; simp [Ent.cells, Value.oneCell']))
  refine bodyPost_ret (v := Ent.val (⟨e.id, e.school, e.student, e.kind, e.day, e.on, ⟨#[]⟩, 0, 0, 0, 0, e.programme, 0, e.key, e.mark⟩ : Ent)) (results_cell_row (P := Tryd.prog) Tryd.results53 _ _ (w.heap.size + 1) 26 (Ent.cells (⟨e.id, e.school, e.student, e.kind, e.day, e.on, ⟨#[]⟩, 0, 0, 0, 0, e.programme, 0, e.key, e.mark⟩ : Ent)) (0, 0) _ rfl ?_ Tryd.underlying26 rfl (by kernel_rfl)) rfl ⟨by rw [hp.out], ?_⟩
  · exact heap_setRow hZ0 _
  · exact below_setRow hb0 (by omega) _

set_option maxHeartbeats 4000000 in
set_option maxRecDepth 100000 in
theorem plain_9 (e : Ent) (hk : e.kind = 9) (w : World) :
    Calls Tryd.prog 53 #[e.val] w fun x w' => x = .returned (plainE e).val ∧ RowKit.Below w.heap.size w w' := by
  have hp := Lib.hid (show plainE e = (⟨e.id, e.school, e.student, e.kind, e.day, e.on, ⟨#[]⟩, 0, 0, e.ref, 0, 0, 0, e.key, e.mark⟩ : Ent) by unfold plainE; simp [hk])
  have HK := Lib.hid hk; clear hk
  go_enter Tryd.func53, Tryd.ntmps53
  go_upto_region 2 with fail
  have h3 := heap3 w (.cells e.cells 26) (.cells zeroCells 26) (.cells (Ent.cells (⟨e.id, e.school, e.student, e.kind, e.day, e.on, ⟨#[]⟩, 0, 0, 0, 0, 0, 0, e.key, e.mark⟩ : Ent)) 26)
  have h3b := heap3b w (.cells e.cells 26) (.cells zeroCells 26) (.cells (Ent.cells (⟨e.id, e.school, e.student, e.kind, e.day, e.on, ⟨#[]⟩, 0, 0, 0, 0, 0, 0, e.key, e.mark⟩ : Ent)) 26)
  have hbe := below3 w (.cells e.cells 26) (.cells zeroCells 26) (.cells (Ent.cells (⟨e.id, e.school, e.student, e.kind, e.day, e.on, ⟨#[]⟩, 0, 0, 0, 0, 0, 0, e.key, e.mark⟩ : Ent)) 26)
  unfold Ent.cells zeroCells at h3 h3b hbe
  generalize ((w.alloc _).alloc _).alloc _ = W at h3 h3b hbe ⊢
  obtain ⟨h3, h4⟩ := h3
  have hE : EntBox W w.heap.size e := h3
  have hZ : W.heap[w.heap.size + 1]? = some (.cells zeroCells 26 (0, 0)) := h3b
  have hO : EntBox W (w.heap.size + 1 + 1) (⟨e.id, e.school, e.student, e.kind, e.day, e.on, ⟨#[]⟩, 0, 0, 0, 0, 0, 0, e.key, e.mark⟩ : Ent) := h4
  clear h3 h3b h4
  have ck : W.cell? ⟨w.heap.size, 3, none⟩ = some (.int .i64 9) := by rw [hE.cell 3]; simp [Ent.cells, HK.out]
  have c9 : W.cell? ⟨w.heap.size, 9, none⟩ = some (.int .i64 e.ref) := hE.cell 9
  have o9 : W.cell? ⟨w.heap.size + 1 + 1, 9, none⟩ = some (.int .i64 0) := hO.cell 9
  have fz : ∀ j, W.frozen? ⟨w.heap.size + 1 + 1, j, none⟩ = false := fun j => Lib.frozen_of_heap hO j
  have hO0 : EntBox (W.setCell ⟨w.heap.size + 1 + 1, 9, none⟩ (.int .i64 e.ref)) (w.heap.size + 1 + 1) (⟨e.id, e.school, e.student, e.kind, e.day, e.on, ⟨#[]⟩, 0, 0, e.ref, 0, 0, 0, e.key, e.mark⟩ : Ent) := hO.setc 9 _ rfl
  have hZ0 : (W.setCell ⟨w.heap.size + 1 + 1, 9, none⟩ (.int .i64 e.ref)).heap[w.heap.size + 1]? = some (.cells zeroCells 26 (0, 0)) := by rw [Below.heap_setCell _ _ _ _ (by show w.heap.size + 1 ≠ w.heap.size + 1 + 1; omega)]; exact hZ
  have hb0 : RowKit.Below w.heap.size w (W.setCell ⟨w.heap.size + 1 + 1, 9, none⟩ (.int .i64 e.ref)) := hbe.setCell (by show _ ≤ w.heap.size + 1 + 1; omega) _
  have hat := hO0.at_
  clear hE hO
  go_wp2_with (first | ((with_reducible refine wpList_load_mid (op := ⟨some 68, _, _, _, _, _⟩) ?_ 26 (.tmp 3) ?_ (w.heap.size + 1 + 1) 0 ?_ (Ent.cells (⟨e.id, e.school, e.student, e.kind, e.day, e.on, ⟨#[]⟩, 0, 0, e.ref, 0, 0, 0, e.key, e.mark⟩ : Ent)).toList _ ?_ Tryd.underlying26 ?_ ?_ ?_); rfl; rfl; rfl; exact hat; rfl; kernel_rfl) | ((with_reducible refine wpList_store_row (o := ⟨none, .store 26 (.tmp 2) (.tmp 68), _, _, _, _⟩) ?_ 26 (.tmp 2) (.tmp 68) ?_ (w.heap.size + 1) (Ent.cells (⟨e.id, e.school, e.student, e.kind, e.day, e.on, ⟨#[]⟩, 0, 0, e.ref, 0, 0, 0, e.key, e.mark⟩ : Ent)) ?_ ?_ 26 zeroCells ?_ ?_ ?_ ?_ ?_); rfl; rfl; rfl; rfl; exact hZ0; kernel_rfl; rfl; simp [Ent.cells, Value.oneCell']))
  refine bodyPost_ret (v := Ent.val (⟨e.id, e.school, e.student, e.kind, e.day, e.on, ⟨#[]⟩, 0, 0, e.ref, 0, 0, 0, e.key, e.mark⟩ : Ent)) (results_cell_row (P := Tryd.prog) Tryd.results53 _ _ (w.heap.size + 1) 26 (Ent.cells (⟨e.id, e.school, e.student, e.kind, e.day, e.on, ⟨#[]⟩, 0, 0, e.ref, 0, 0, 0, e.key, e.mark⟩ : Ent)) (0, 0) _ rfl ?_ Tryd.underlying26 rfl (by kernel_rfl)) rfl ⟨by rw [hp.out], ?_⟩
  · exact heap_setRow hZ0 _
  · exact below_setRow hb0 (by omega) _

theorem plain_any (e : Ent) (hk : 1 ≤ e.kind ∧ e.kind ≤ 9) (w : World) :
    Calls Tryd.prog 53 #[e.val] w fun x w' => x = .returned (plainE e).val ∧ RowKit.Below w.heap.size w w' := by
  have h : e.kind = 1 ∨ e.kind = 2 ∨ e.kind = 3 ∨ e.kind = 4 ∨ e.kind = 5 ∨ e.kind = 6 ∨ e.kind = 7 ∨ e.kind = 8 ∨ e.kind = 9 := by omega
  rcases h with h | h | h | h | h | h | h | h | h
  · exact plain_1 e h w
  · exact plain_2 e h w
  · exact plain_3 e h w
  · exact plain_4 e h w
  · exact plain_5 e h w
  · exact plain_6 e h w
  · exact plain_7 e h w
  · exact plain_8 e h w
  · exact plain_9 e h w
end Go.Proofs.YtnkbelbalaeieaaDoor
