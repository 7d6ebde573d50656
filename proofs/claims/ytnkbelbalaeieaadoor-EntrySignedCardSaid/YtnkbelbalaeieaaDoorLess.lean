/- entry.Less, walked once. -/
import Derived.Test.YtnkbelbalaeieaaDoorEnt
import Derived.LoopN
import Derived.LoopTactic
namespace Go.Proofs.YtnkbelbalaeieaaDoor
open Go Go.RowKit Go.Sort Go.Lib
attribute [local go_sem] Ent.cells

/-- The first that is not 0. -/
def or3 (x y z : Int) : Int := if x = 0 then (if y = 0 then z else y) else x

set_option maxRecDepth 100000 in
theorem or_any (b : Nat) (x y z : Int) (w : World) (h : IntRow w b [x, y, z]) :
    Calls Tryd.prog 50 #[.slice (some ⟨b, 0, none⟩) 3 3] w fun e w' => e = .returned (.int .i64 (or3 x y z)) ∧ w = w' := by
  have c0 : w.cell? ⟨b, 0, none⟩ = some (.int .i64 x) := h.cell (k := 0) (by simp)
  have c1 : w.cell? ⟨b, 1, none⟩ = some (.int .i64 y) := h.cell (k := 1) (by simp)
  have c2 : w.cell? ⟨b, 2, none⟩ = some (.int .i64 z) := h.cell (k := 2) (by simp)
  clear h
  by_cases hx : x = 0
  · by_cases hy : y = 0
    · by_cases hz : z = 0
      · have H := Lib.hid (show or3 x y z = 0 by unfold or3; rw [if_pos hx, if_pos hy, hz])
        subst hx; subst hy; subst hz
        go_enter Tryd.func50, Tryd.ntmps50
        go_wp2_with fail
        refine wp_loop_rounds 4 ?_
        rw [rounds_succ]; go_wp2_with fail
        rw [rounds_succ]; go_wp2_with fail
        rw [rounds_succ]; go_wp2_with fail
        rw [rounds_succ]; go_wp2_with fail
        go_ret
        exact ⟨ret_int H.out.symm, rfl⟩
      · have H := Lib.hid (show or3 x y z = z by unfold or3; rw [if_pos hx, if_pos hy])
        have hz' : (z == 0) = false := by simpa using hz
        subst hx; subst hy
        go_enter Tryd.func50, Tryd.ntmps50
        go_wp2_with fail
        refine wp_loop_rounds 3 ?_
        rw [rounds_succ]; go_wp2_with fail
        rw [rounds_succ]; go_wp2_with fail
        rw [rounds_succ]; go_wp2_with fail
        go_ret
        exact ⟨ret_int H.out.symm, rfl⟩
    · have H := Lib.hid (show or3 x y z = y by unfold or3; rw [if_pos hx, if_neg hy])
      have hy' : (y == 0) = false := by simpa using hy
      subst hx
      go_enter Tryd.func50, Tryd.ntmps50
      go_wp2_with fail
      refine wp_loop_rounds 2 ?_
      rw [rounds_succ]; go_wp2_with fail
      rw [rounds_succ]; go_wp2_with fail
      go_ret
      exact ⟨ret_int H.out.symm, rfl⟩
  · have H := Lib.hid (show or3 x y z = x by unfold or3; rw [if_neg hx])
    have hx' : (x == 0) = false := by simpa using hx
    go_enter Tryd.func50, Tryd.ntmps50
    go_wp2_with fail
    refine wp_loop_rounds 1 ?_
    rw [rounds_succ]; go_wp2_with fail
    go_ret
    exact ⟨ret_int H.out.symm, rfl⟩

/-- The order of entries: by student, day, Id. -/
def lessB (a b : Ent) : Bool := decide (or3 (Lib.compareInt a.student b.student) (Lib.compareInt a.on b.on) (Lib.compareInt a.id b.id) < 0)

theorem less_keep {W w' : World} {ab bb : Nat} {a b : Ent} (h1 : EntBox W ab a) (h2 : EntBox W bb b) (hb : RowKit.Below W.heap.size W w') :
    RowKit.Below W.heap.size W w' ∧ (∀ j, w'.cell? ⟨ab, j, none⟩ = a.cells[j]?) ∧ (∀ j, w'.cell? ⟨bb, j, none⟩ = b.cells[j]?) :=
  ⟨hb, (h1.below hb).cell, (h2.below hb).cell⟩

set_option maxHeartbeats 2000000 in
set_option maxRecDepth 100000 in
theorem less_any (a b : Ent) (w : World) :
    Calls Tryd.prog 16 #[a.val, b.val] w fun e w' => e = .returned (.bool (lessB a b)) ∧ RowKit.Below w.heap.size w w' := by
  go_enter Tryd.func16, Tryd.ntmps16
  go_wp2_with fail
  have h1 := (EntBox.new w a).below (below_alloc1 _ (.cells b.cells 26))
  have h2 := EntBox.new (w.alloc (.cells a.cells 26)) b
  rw [size_alloc] at h2
  have hbw := ((Below.refl w.heap.size w).alloc (Nat.le_refl _) (.cells a.cells 26)).alloc (by simp) (.cells b.cells 26)
  have hsz : ((w.alloc (.cells a.cells 26)).alloc (.cells b.cells 26)).heap.size = w.heap.size + 1 + 1 := by rw [size_alloc, size_alloc]
  unfold Ent.cells at h1 h2 hbw hsz
  generalize (w.alloc _).alloc _ = W at h1 h2 hbw hsz ⊢
  have hS0 := less_keep (W := W) (ab := w.heap.size) (bb := w.heap.size + 1) (a := a) (b := b) h1 h2 (Below.refl _ _).drew
  have hS1 := fun o => less_keep (W := W) (ab := w.heap.size) (bb := w.heap.size + 1) (a := a) (b := b) h1 h2 (below_alloc1 W o).drew
  have hrow : IntRow (W.alloc (.cells #[.int .i64 (Lib.compareInt a.student b.student), .int .i64 (Lib.compareInt a.on b.on), .int .i64 (Lib.compareInt a.id b.id)] 3)).drew (w.heap.size + 1 + 1) [Lib.compareInt a.student b.student, Lib.compareInt a.on b.on, Lib.compareInt a.id b.id] := by
    have := IntRow.new W [Lib.compareInt a.student b.student, Lib.compareInt a.on b.on, Lib.compareInt a.id b.id]
    rw [hsz] at this; exact this
  go_region_held3 (fun w' => RowKit.Below W.heap.size W w' ∧ (∀ j, w'.cell? ⟨w.heap.size, j, none⟩ = a.cells[j]?) ∧ (∀ j, w'.cell? ⟨w.heap.size + 1, j, none⟩ = b.cells[j]?)) (first | exact hS0 | exact hS1 _ | assumption)
    (first
      | ((with_reducible refine (Tryd.cmp_Compare_int _ _ _).mono ?_); rintro x w1 ⟨rfl, rfl⟩)
      | ((with_reducible refine (or_any (w.heap.size + 1 + 1) _ _ _ _ hrow).mono ?_); rintro x w1 ⟨rfl, rfl⟩))
  go_wp2_with fail
  go_ret
  exact ⟨ret_bool rfl, hbw.trans ((below_alloc1 W _).drew.mono hbw.size)⟩
end Go.Proofs.YtnkbelbalaeieaaDoor
