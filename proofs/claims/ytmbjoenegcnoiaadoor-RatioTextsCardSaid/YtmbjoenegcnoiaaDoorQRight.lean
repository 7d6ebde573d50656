/- Right and Of, of the project and of the reference: each walked once. -/
import Derived.Test.YtmbjoenegcnoiaaDoorQSmall
import Derived.Test.YtmbjoenegcnoiaaDoorQFlow
namespace Go.Proofs.YtmbjoenegcnoiaaDoor
open Go Go.RowKit Go.Sort Go.Lib

theorem within_is (lo n hi : Int) (b : Bool) (h : (decide (lo ≤ n) && decide (n ≤ hi)) = b) (w : World) :
    Calls Tryd.prog 37 #[.int .i64 lo, .int .i64 n, .int .i64 hi] w fun e w' => e = .returned (.bool b) ∧ w = w' := by
  subst h; exact within_any lo n hi w

/-- A ratio lies in two cells. -/
def RatAt (w : World) (b : Nat) (r : Rt) : Prop := w.cell? ⟨b, 0, none⟩ = some (.int .i64 r.n) ∧ w.cell? ⟨b, 1, none⟩ = some (.int .i64 r.d)
theorem RatAt.lt {w : World} {b : Nat} {r : Rt} (h : RatAt w b r) : b < w.heap.size := World.block_lt_of_cell? w _ h.1
theorem RatAt.below {w w' : World} {b : Nat} {r : Rt} (h : RatAt w b r) (hb : RowKit.Below w.heap.size w w') : RatAt w' b r :=
  ⟨by rw [(bcell hb).1 _ _ h.lt]; exact h.1, by rw [(bcell hb).1 _ _ h.lt]; exact h.2⟩
theorem RatAt.new (w : World) (r : Rt) (t : TypeId) : RatAt (w.alloc (.cells #[.int .i64 r.n, .int .i64 r.d] t)) w.heap.size r :=
  ⟨Lib.cell_of_heap (heap_alloc_new w _) 0, Lib.cell_of_heap (heap_alloc_new w _) 1⟩
theorem rat_next {W w w' : World} {b : Nat} {r : Rt} (h : RowKit.Below W.heap.size W w ∧ w.cell? ⟨b, 0, none⟩ = some (.int .i64 r.n) ∧ w.cell? ⟨b, 1, none⟩ = some (.int .i64 r.d)) (hb : RowKit.Below w.heap.size w w') :
    RowKit.Below W.heap.size W w' ∧ w'.cell? ⟨b, 0, none⟩ = some (.int .i64 r.n) ∧ w'.cell? ⟨b, 1, none⟩ = some (.int .i64 r.d) :=
  ⟨h.1.trans (hb.mono h.1.size), RatAt.below ⟨h.2.1, h.2.2⟩ hb⟩
theorem rat_drew {W : World} {b : Nat} {r : Rt} (h : RatAt W b r) : RowKit.Below W.heap.size W W.drew ∧ W.drew.cell? ⟨b, 0, none⟩ = some (.int .i64 r.n) ∧ W.drew.cell? ⟨b, 1, none⟩ = some (.int .i64 r.d) :=
  rat_next ⟨Below.refl _ _, h⟩ (Below.refl _ _).drew
theorem below_alloc1 (w : World) (o : Obj) : RowKit.Below w.heap.size w (w.alloc o) := (Below.refl _ _).alloc (Nat.le_refl _) _

set_option maxHeartbeats 1000000 in
theorem refRight_any (r : Rt) (h : r.Ok) (w : World) :
    Calls Tryd.prog 39 #[r.val] w fun e w' => e = .returned (.bool (decide (Right r))) ∧ RowKit.Below w.heap.size w w' := by
  obtain ⟨hn, hd⟩ := h
  have cn := fun w => refSize_any r.n hn w
  have cd := fun w => refSize_any r.d hd w
  unfold I64 at hn hd
  have cg := fun w => refGcd_any r.n.natAbs r.d.natAbs (by omega) (by omega) w
  obtain ⟨b1, h1⟩ : ∃ b, decide (1 ≤ r.d) = b := ⟨_, rfl⟩
  obtain ⟨b2, h2⟩ : ∃ b, decide (r.d ≤ 1073741824) = b := ⟨_, rfl⟩
  obtain ⟨b3, h3⟩ : ∃ b, decide (-1073741824 ≤ r.n) = b := ⟨_, rfl⟩
  obtain ⟨b4, h4⟩ : ∃ b, decide (r.n ≤ 1073741824) = b := ⟨_, rfl⟩
  have HV : Hid (decide (Right r) = (b1 && b2 && b3 && b4 && (((r.n.natAbs.gcd r.d.natAbs : Nat) : Int) == 1))) := Lib.hid (by
    rw [← h1, ← h2, ← h3, ← h4, Bool.eq_iff_iff, decide_eq_true_eq]; simp only [Bool.and_eq_true, decide_eq_true_eq, beq_iff_eq]; unfold Right; omega)
  unfold Rt.val
  go_enter Tryd.func39, Tryd.ntmps39
  go_wp2_with fail
  have hr := RatAt.new w r 24
  have hb0 := below_alloc1 w (.cells #[.int .i64 r.n, .int .i64 r.d] 24)
  generalize w.alloc _ = W at hr hb0 ⊢
  cases b1
  · refine of_onlyN ?_ (fun _ _ h => h)
    refine wp_region_flow (S := fun w' => RowKit.Below W.heap.size W w' ∧ w'.cell? ⟨w.heap.size, 0, none⟩ = some (.int .i64 r.n) ∧ w'.cell? ⟨w.heap.size, 1, none⟩ = some (.int .i64 r.d)) [(0, true), (1, true), (2, true), (3, true), (4, true), (5, true), (6, true), (7, true), (8, true), (9, true), (10, true), (11, true), (12, true), (13, true), (14, true), (15, true), (16, true), (17, true), (18, true), (19, true), (20, true), (22, true), (23, true), (21, false), (24, false), (25, false), (26, true), (27, true), (28, true)] (by kernel_rfl) (by kernel_rfl) (by kernel_rfl) (by decide) (rat_drew hr) ?_
    have hS := rat_drew hr
    refine flow_take ⟨some 3, _, _, _, _, _⟩ ?_ rfl (by rfl) ?_ ?_
    rotate_left 1
    · intro w hSw; (try dsimp only at hSw); go_simp; (try with_reducible rfl)
    simp only [Act.put, List.setIfInBounds_toArray, List.set_cons_zero, List.set_cons_succ]
    refine flow_take ⟨some 4, _, _, _, _, _⟩ ?_ rfl (by rfl) ?_ ?_
    rotate_left 1
    · intro w hSw; (try dsimp only at hSw); go_simp; (try with_reducible rfl)
    simp only [Act.put, List.setIfInBounds_toArray, List.set_cons_zero, List.set_cons_succ]
    refine flow_take ⟨some 5, _, _, _, _, _⟩ ?_ rfl (by rfl) ?_ ?_
    rotate_left 1
    · intro w hSw; (try dsimp only at hSw); go_simp; (try with_reducible rfl)
    simp only [Act.put, List.setIfInBounds_toArray, List.set_cons_zero, List.set_cons_succ]
    refine flow_take ⟨some 6, _, _, _, _, _⟩ ?_ rfl (by rfl) ?_ ?_
    rotate_left 1
    · intro w hSw; (try dsimp only at hSw); go_simp; (try with_reducible rfl)
    simp only [Act.put, List.setIfInBounds_toArray, List.set_cons_zero, List.set_cons_succ]
    refine flow_skip ⟨some 7, _, _, _, _, _⟩ rfl (by rfl) ?_
    simp only [Act.put, List.setIfInBounds_toArray, List.set_cons_zero, List.set_cons_succ]
    refine flow_skip ⟨some 8, _, _, _, _, _⟩ rfl (by rfl) ?_
    simp only [Act.put, List.setIfInBounds_toArray, List.set_cons_zero, List.set_cons_succ]
    refine flow_skip ⟨some 9, _, _, _, _, _⟩ rfl (by rfl) ?_
    simp only [Act.put, List.setIfInBounds_toArray, List.set_cons_zero, List.set_cons_succ]
    refine flow_take ⟨some 10, _, _, _, _, _⟩ ?_ rfl (by rfl) ?_ ?_
    rotate_left 1
    · intro w hSw; (try dsimp only at hSw); go_simp; (try with_reducible rfl)
    simp only [Act.put, List.setIfInBounds_toArray, List.set_cons_zero, List.set_cons_succ]
    refine flow_take ⟨some 11, _, _, _, _, _⟩ ?_ rfl (by rfl) ?_ ?_
    rotate_left 1
    · intro w hSw; (try dsimp only at hSw); go_simp; (try with_reducible rfl)
    simp only [Act.put, List.setIfInBounds_toArray, List.set_cons_zero, List.set_cons_succ]
    refine flow_skip ⟨some 12, _, _, _, _, _⟩ rfl (by rfl) ?_
    simp only [Act.put, List.setIfInBounds_toArray, List.set_cons_zero, List.set_cons_succ]
    refine flow_skip ⟨some 13, _, _, _, _, _⟩ rfl (by rfl) ?_
    simp only [Act.put, List.setIfInBounds_toArray, List.set_cons_zero, List.set_cons_succ]
    refine flow_skip ⟨some 14, _, _, _, _, _⟩ rfl (by rfl) ?_
    simp only [Act.put, List.setIfInBounds_toArray, List.set_cons_zero, List.set_cons_succ]
    refine flow_take ⟨some 15, _, _, _, _, _⟩ ?_ rfl (by rfl) ?_ ?_
    rotate_left 1
    · intro w hSw; (try dsimp only at hSw); go_simp; (try with_reducible rfl)
    simp only [Act.put, List.setIfInBounds_toArray, List.set_cons_zero, List.set_cons_succ]
    refine flow_take ⟨some 16, _, _, _, _, _⟩ ?_ rfl (by rfl) ?_ ?_
    rotate_left 1
    · intro w hSw; (try dsimp only at hSw); go_simp; (try with_reducible rfl)
    simp only [Act.put, List.setIfInBounds_toArray, List.set_cons_zero, List.set_cons_succ]
    refine flow_skip ⟨some 17, _, _, _, _, _⟩ rfl (by rfl) ?_
    simp only [Act.put, List.setIfInBounds_toArray, List.set_cons_zero, List.set_cons_succ]
    refine flow_skip ⟨some 18, _, _, _, _, _⟩ rfl (by rfl) ?_
    simp only [Act.put, List.setIfInBounds_toArray, List.set_cons_zero, List.set_cons_succ]
    refine flow_skip ⟨some 19, _, _, _, _, _⟩ rfl (by rfl) ?_
    simp only [Act.put, List.setIfInBounds_toArray, List.set_cons_zero, List.set_cons_succ]
    refine flow_take ⟨some 20, _, _, _, _, _⟩ ?_ rfl (by rfl) ?_ ?_
    rotate_left 1
    · intro w hSw; (try dsimp only at hSw); go_simp; (try with_reducible rfl)
    simp only [Act.put, List.setIfInBounds_toArray, List.set_cons_zero, List.set_cons_succ]
    refine flow_take ⟨some 21, _, _, _, _, _⟩ ?_ rfl (by rfl) ?_ ?_
    rotate_left 1
    · intro w hSw; (try dsimp only at hSw); go_simp; (try with_reducible rfl)
    simp only [Act.put, List.setIfInBounds_toArray, List.set_cons_zero, List.set_cons_succ]
    refine flow_skip ⟨some 22, _, _, _, _, _⟩ rfl (by rfl) ?_
    simp only [Act.put, List.setIfInBounds_toArray, List.set_cons_zero, List.set_cons_succ]
    refine flow_skip ⟨some 23, _, _, _, _, _⟩ rfl (by rfl) ?_
    simp only [Act.put, List.setIfInBounds_toArray, List.set_cons_zero, List.set_cons_succ]
    refine flow_skip ⟨some 25, _, _, _, _, _⟩ rfl (by rfl) ?_
    simp only [Act.put, List.setIfInBounds_toArray, List.set_cons_zero, List.set_cons_succ]
    refine flow_skip ⟨some 26, _, _, _, _, _⟩ rfl (by rfl) ?_
    simp only [Act.put, List.setIfInBounds_toArray, List.set_cons_zero, List.set_cons_succ]
    refine flow_skip' ⟨some 24, _, _, _, _, _⟩ rfl (by rfl) hS ?_
    simp only [Act.put, List.setIfInBounds_toArray, List.set_cons_zero, List.set_cons_succ]
    refine flow_skip' ⟨some 27, _, _, _, _, _⟩ rfl (by rfl) hS ?_
    simp only [Act.put, List.setIfInBounds_toArray, List.set_cons_zero, List.set_cons_succ]
    refine flow_skip' ⟨some 28, _, _, _, _, _⟩ rfl (by rfl) hS ?_
    simp only [Act.put, List.setIfInBounds_toArray, List.set_cons_zero, List.set_cons_succ]
    refine flow_skip ⟨some 29, _, _, _, _, _⟩ rfl (by rfl) ?_
    simp only [Act.put, List.setIfInBounds_toArray, List.set_cons_zero, List.set_cons_succ]
    refine flow_take ⟨some 30, _, _, _, _, _⟩ ?_ rfl (by rfl) ?_ ?_
    rotate_left 1
    · intro w hSw; (try dsimp only at hSw); go_simp; (try with_reducible rfl)
    simp only [Act.put, List.setIfInBounds_toArray, List.set_cons_zero, List.set_cons_succ]
    refine flow_take ⟨some 2, _, _, _, _, _⟩ ?_ rfl (by rfl) ?_ ?_
    rotate_left 1
    · intro w hSw; (try dsimp only at hSw); go_simp; (try with_reducible rfl)
    simp only [Act.put, List.setIfInBounds_toArray, List.set_cons_zero, List.set_cons_succ]
    simp only [wpFlow, OnlyN]
    go_wp2_with fail
    go_ret
    exact ⟨ret_bool (by rw [HV.out]; simp), hb0.trans (hS.1.mono hb0.size)⟩
  · cases b2
    · refine of_onlyN ?_ (fun _ _ h => h)
      refine wp_region_flow (S := fun w' => RowKit.Below W.heap.size W w' ∧ w'.cell? ⟨w.heap.size, 0, none⟩ = some (.int .i64 r.n) ∧ w'.cell? ⟨w.heap.size, 1, none⟩ = some (.int .i64 r.d)) [(0, true), (1, true), (2, true), (3, true), (4, true), (5, true), (6, true), (7, true), (8, true), (9, true), (10, true), (11, true), (12, true), (13, true), (14, true), (15, true), (16, true), (17, true), (18, true), (19, true), (20, true), (22, true), (23, true), (21, false), (24, false), (25, false), (26, true), (27, true), (28, true)] (by kernel_rfl) (by kernel_rfl) (by kernel_rfl) (by decide) (rat_drew hr) ?_
      have hS := rat_drew hr
      refine flow_take ⟨some 3, _, _, _, _, _⟩ ?_ rfl (by rfl) ?_ ?_
      rotate_left 1
      · intro w hSw; (try dsimp only at hSw); go_simp; (try with_reducible rfl)
      simp only [Act.put, List.setIfInBounds_toArray, List.set_cons_zero, List.set_cons_succ]
      refine flow_take ⟨some 4, _, _, _, _, _⟩ ?_ rfl (by rfl) ?_ ?_
      rotate_left 1
      · intro w hSw; (try dsimp only at hSw); go_simp; (try with_reducible rfl)
      simp only [Act.put, List.setIfInBounds_toArray, List.set_cons_zero, List.set_cons_succ]
      refine flow_take ⟨some 5, _, _, _, _, _⟩ ?_ rfl (by rfl) ?_ ?_
      rotate_left 1
      · intro w hSw; (try dsimp only at hSw); go_simp; (try with_reducible rfl)
      simp only [Act.put, List.setIfInBounds_toArray, List.set_cons_zero, List.set_cons_succ]
      refine flow_take ⟨some 6, _, _, _, _, _⟩ ?_ rfl (by rfl) ?_ ?_
      rotate_left 1
      · intro w hSw; (try dsimp only at hSw); go_simp; (try with_reducible rfl)
      simp only [Act.put, List.setIfInBounds_toArray, List.set_cons_zero, List.set_cons_succ]
      refine flow_take ⟨some 7, _, _, _, _, _⟩ ?_ rfl (by rfl) ?_ ?_
      rotate_left 1
      · intro w hSw; (try dsimp only at hSw); go_simp; (try with_reducible rfl)
      simp only [Act.put, List.setIfInBounds_toArray, List.set_cons_zero, List.set_cons_succ]
      refine flow_take ⟨some 8, _, _, _, _, _⟩ ?_ rfl (by rfl) ?_ ?_
      rotate_left 1
      · intro w hSw; (try dsimp only at hSw); go_simp; (try with_reducible rfl)
      simp only [Act.put, List.setIfInBounds_toArray, List.set_cons_zero, List.set_cons_succ]
      refine flow_take ⟨some 9, _, _, _, _, _⟩ ?_ rfl (by rfl) ?_ ?_
      rotate_left 1
      · intro w hSw; (try dsimp only at hSw); go_simp; (try with_reducible rfl)
      simp only [Act.put, List.setIfInBounds_toArray, List.set_cons_zero, List.set_cons_succ]
      refine flow_take ⟨some 10, _, _, _, _, _⟩ ?_ rfl (by rfl) ?_ ?_
      rotate_left 1
      · intro w hSw; (try dsimp only at hSw); go_simp; (try with_reducible rfl)
      simp only [Act.put, List.setIfInBounds_toArray, List.set_cons_zero, List.set_cons_succ]
      refine flow_take ⟨some 11, _, _, _, _, _⟩ ?_ rfl (by rfl) ?_ ?_
      rotate_left 1
      · intro w hSw; (try dsimp only at hSw); go_simp; (try with_reducible rfl)
      simp only [Act.put, List.setIfInBounds_toArray, List.set_cons_zero, List.set_cons_succ]
      refine flow_skip ⟨some 12, _, _, _, _, _⟩ rfl (by rfl) ?_
      simp only [Act.put, List.setIfInBounds_toArray, List.set_cons_zero, List.set_cons_succ]
      refine flow_skip ⟨some 13, _, _, _, _, _⟩ rfl (by rfl) ?_
      simp only [Act.put, List.setIfInBounds_toArray, List.set_cons_zero, List.set_cons_succ]
      refine flow_skip ⟨some 14, _, _, _, _, _⟩ rfl (by rfl) ?_
      simp only [Act.put, List.setIfInBounds_toArray, List.set_cons_zero, List.set_cons_succ]
      refine flow_take ⟨some 15, _, _, _, _, _⟩ ?_ rfl (by rfl) ?_ ?_
      rotate_left 1
      · intro w hSw; (try dsimp only at hSw); go_simp; (try with_reducible rfl)
      simp only [Act.put, List.setIfInBounds_toArray, List.set_cons_zero, List.set_cons_succ]
      refine flow_take ⟨some 16, _, _, _, _, _⟩ ?_ rfl (by rfl) ?_ ?_
      rotate_left 1
      · intro w hSw; (try dsimp only at hSw); go_simp; (try with_reducible rfl)
      simp only [Act.put, List.setIfInBounds_toArray, List.set_cons_zero, List.set_cons_succ]
      refine flow_skip ⟨some 17, _, _, _, _, _⟩ rfl (by rfl) ?_
      simp only [Act.put, List.setIfInBounds_toArray, List.set_cons_zero, List.set_cons_succ]
      refine flow_skip ⟨some 18, _, _, _, _, _⟩ rfl (by rfl) ?_
      simp only [Act.put, List.setIfInBounds_toArray, List.set_cons_zero, List.set_cons_succ]
      refine flow_skip ⟨some 19, _, _, _, _, _⟩ rfl (by rfl) ?_
      simp only [Act.put, List.setIfInBounds_toArray, List.set_cons_zero, List.set_cons_succ]
      refine flow_take ⟨some 20, _, _, _, _, _⟩ ?_ rfl (by rfl) ?_ ?_
      rotate_left 1
      · intro w hSw; (try dsimp only at hSw); go_simp; (try with_reducible rfl)
      simp only [Act.put, List.setIfInBounds_toArray, List.set_cons_zero, List.set_cons_succ]
      refine flow_take ⟨some 21, _, _, _, _, _⟩ ?_ rfl (by rfl) ?_ ?_
      rotate_left 1
      · intro w hSw; (try dsimp only at hSw); go_simp; (try with_reducible rfl)
      simp only [Act.put, List.setIfInBounds_toArray, List.set_cons_zero, List.set_cons_succ]
      refine flow_skip ⟨some 22, _, _, _, _, _⟩ rfl (by rfl) ?_
      simp only [Act.put, List.setIfInBounds_toArray, List.set_cons_zero, List.set_cons_succ]
      refine flow_skip ⟨some 23, _, _, _, _, _⟩ rfl (by rfl) ?_
      simp only [Act.put, List.setIfInBounds_toArray, List.set_cons_zero, List.set_cons_succ]
      refine flow_skip ⟨some 25, _, _, _, _, _⟩ rfl (by rfl) ?_
      simp only [Act.put, List.setIfInBounds_toArray, List.set_cons_zero, List.set_cons_succ]
      refine flow_skip ⟨some 26, _, _, _, _, _⟩ rfl (by rfl) ?_
      simp only [Act.put, List.setIfInBounds_toArray, List.set_cons_zero, List.set_cons_succ]
      refine flow_skip' ⟨some 24, _, _, _, _, _⟩ rfl (by rfl) hS ?_
      simp only [Act.put, List.setIfInBounds_toArray, List.set_cons_zero, List.set_cons_succ]
      refine flow_skip' ⟨some 27, _, _, _, _, _⟩ rfl (by rfl) hS ?_
      simp only [Act.put, List.setIfInBounds_toArray, List.set_cons_zero, List.set_cons_succ]
      refine flow_skip' ⟨some 28, _, _, _, _, _⟩ rfl (by rfl) hS ?_
      simp only [Act.put, List.setIfInBounds_toArray, List.set_cons_zero, List.set_cons_succ]
      refine flow_skip ⟨some 29, _, _, _, _, _⟩ rfl (by rfl) ?_
      simp only [Act.put, List.setIfInBounds_toArray, List.set_cons_zero, List.set_cons_succ]
      refine flow_take ⟨some 30, _, _, _, _, _⟩ ?_ rfl (by rfl) ?_ ?_
      rotate_left 1
      · intro w hSw; (try dsimp only at hSw); go_simp; (try with_reducible rfl)
      simp only [Act.put, List.setIfInBounds_toArray, List.set_cons_zero, List.set_cons_succ]
      refine flow_take ⟨some 2, _, _, _, _, _⟩ ?_ rfl (by rfl) ?_ ?_
      rotate_left 1
      · intro w hSw; (try dsimp only at hSw); go_simp; (try with_reducible rfl)
      simp only [Act.put, List.setIfInBounds_toArray, List.set_cons_zero, List.set_cons_succ]
      simp only [wpFlow, OnlyN]
      go_wp2_with fail
      go_ret
      exact ⟨ret_bool (by rw [HV.out]; simp), hb0.trans (hS.1.mono hb0.size)⟩
    · cases b3
      · refine of_onlyN ?_ (fun _ _ h => h)
        refine wp_region_flow (S := fun w' => RowKit.Below W.heap.size W w' ∧ w'.cell? ⟨w.heap.size, 0, none⟩ = some (.int .i64 r.n) ∧ w'.cell? ⟨w.heap.size, 1, none⟩ = some (.int .i64 r.d)) [(0, true), (1, true), (2, true), (3, true), (4, true), (5, true), (6, true), (7, true), (8, true), (9, true), (10, true), (11, true), (12, true), (13, true), (14, true), (15, true), (16, true), (17, true), (18, true), (19, true), (20, true), (22, true), (23, true), (21, false), (24, false), (25, false), (26, true), (27, true), (28, true)] (by kernel_rfl) (by kernel_rfl) (by kernel_rfl) (by decide) (rat_drew hr) ?_
        have hS := rat_drew hr
        refine flow_take ⟨some 3, _, _, _, _, _⟩ ?_ rfl (by rfl) ?_ ?_
        rotate_left 1
        · intro w hSw; (try dsimp only at hSw); go_simp; (try with_reducible rfl)
        simp only [Act.put, List.setIfInBounds_toArray, List.set_cons_zero, List.set_cons_succ]
        refine flow_take ⟨some 4, _, _, _, _, _⟩ ?_ rfl (by rfl) ?_ ?_
        rotate_left 1
        · intro w hSw; (try dsimp only at hSw); go_simp; (try with_reducible rfl)
        simp only [Act.put, List.setIfInBounds_toArray, List.set_cons_zero, List.set_cons_succ]
        refine flow_take ⟨some 5, _, _, _, _, _⟩ ?_ rfl (by rfl) ?_ ?_
        rotate_left 1
        · intro w hSw; (try dsimp only at hSw); go_simp; (try with_reducible rfl)
        simp only [Act.put, List.setIfInBounds_toArray, List.set_cons_zero, List.set_cons_succ]
        refine flow_take ⟨some 6, _, _, _, _, _⟩ ?_ rfl (by rfl) ?_ ?_
        rotate_left 1
        · intro w hSw; (try dsimp only at hSw); go_simp; (try with_reducible rfl)
        simp only [Act.put, List.setIfInBounds_toArray, List.set_cons_zero, List.set_cons_succ]
        refine flow_take ⟨some 7, _, _, _, _, _⟩ ?_ rfl (by rfl) ?_ ?_
        rotate_left 1
        · intro w hSw; (try dsimp only at hSw); go_simp; (try with_reducible rfl)
        simp only [Act.put, List.setIfInBounds_toArray, List.set_cons_zero, List.set_cons_succ]
        refine flow_take ⟨some 8, _, _, _, _, _⟩ ?_ rfl (by rfl) ?_ ?_
        rotate_left 1
        · intro w hSw; (try dsimp only at hSw); go_simp; (try with_reducible rfl)
        simp only [Act.put, List.setIfInBounds_toArray, List.set_cons_zero, List.set_cons_succ]
        refine flow_take ⟨some 9, _, _, _, _, _⟩ ?_ rfl (by rfl) ?_ ?_
        rotate_left 1
        · intro w hSw; (try dsimp only at hSw); go_simp; (try with_reducible rfl)
        simp only [Act.put, List.setIfInBounds_toArray, List.set_cons_zero, List.set_cons_succ]
        refine flow_take ⟨some 10, _, _, _, _, _⟩ ?_ rfl (by rfl) ?_ ?_
        rotate_left 1
        · intro w hSw; (try dsimp only at hSw); go_simp; (try with_reducible rfl)
        simp only [Act.put, List.setIfInBounds_toArray, List.set_cons_zero, List.set_cons_succ]
        refine flow_take ⟨some 11, _, _, _, _, _⟩ ?_ rfl (by rfl) ?_ ?_
        rotate_left 1
        · intro w hSw; (try dsimp only at hSw); go_simp; (try with_reducible rfl)
        simp only [Act.put, List.setIfInBounds_toArray, List.set_cons_zero, List.set_cons_succ]
        refine flow_take ⟨some 12, _, _, _, _, _⟩ ?_ rfl (by rfl) ?_ ?_
        rotate_left 1
        · intro w hSw; (try dsimp only at hSw); go_simp; (try with_reducible rfl)
        simp only [Act.put, List.setIfInBounds_toArray, List.set_cons_zero, List.set_cons_succ]
        refine flow_take ⟨some 13, _, _, _, _, _⟩ ?_ rfl (by rfl) ?_ ?_
        rotate_left 1
        · intro w hSw; (try dsimp only at hSw); go_simp; (try with_reducible rfl)
        simp only [Act.put, List.setIfInBounds_toArray, List.set_cons_zero, List.set_cons_succ]
        refine flow_take ⟨some 14, _, _, _, _, _⟩ ?_ rfl (by rfl) ?_ ?_
        rotate_left 1
        · intro w hSw; (try dsimp only at hSw); go_simp; (try with_reducible rfl)
        simp only [Act.put, List.setIfInBounds_toArray, List.set_cons_zero, List.set_cons_succ]
        refine flow_take ⟨some 15, _, _, _, _, _⟩ ?_ rfl (by rfl) ?_ ?_
        rotate_left 1
        · intro w hSw; (try dsimp only at hSw); go_simp; (try with_reducible rfl)
        simp only [Act.put, List.setIfInBounds_toArray, List.set_cons_zero, List.set_cons_succ]
        refine flow_take ⟨some 16, _, _, _, _, _⟩ ?_ rfl (by rfl) ?_ ?_
        rotate_left 1
        · intro w hSw; (try dsimp only at hSw); go_simp; (try with_reducible rfl)
        simp only [Act.put, List.setIfInBounds_toArray, List.set_cons_zero, List.set_cons_succ]
        refine flow_skip ⟨some 17, _, _, _, _, _⟩ rfl (by rfl) ?_
        simp only [Act.put, List.setIfInBounds_toArray, List.set_cons_zero, List.set_cons_succ]
        refine flow_skip ⟨some 18, _, _, _, _, _⟩ rfl (by rfl) ?_
        simp only [Act.put, List.setIfInBounds_toArray, List.set_cons_zero, List.set_cons_succ]
        refine flow_skip ⟨some 19, _, _, _, _, _⟩ rfl (by rfl) ?_
        simp only [Act.put, List.setIfInBounds_toArray, List.set_cons_zero, List.set_cons_succ]
        refine flow_take ⟨some 20, _, _, _, _, _⟩ ?_ rfl (by rfl) ?_ ?_
        rotate_left 1
        · intro w hSw; (try dsimp only at hSw); go_simp; (try with_reducible rfl)
        simp only [Act.put, List.setIfInBounds_toArray, List.set_cons_zero, List.set_cons_succ]
        refine flow_take ⟨some 21, _, _, _, _, _⟩ ?_ rfl (by rfl) ?_ ?_
        rotate_left 1
        · intro w hSw; (try dsimp only at hSw); go_simp; (try with_reducible rfl)
        simp only [Act.put, List.setIfInBounds_toArray, List.set_cons_zero, List.set_cons_succ]
        refine flow_skip ⟨some 22, _, _, _, _, _⟩ rfl (by rfl) ?_
        simp only [Act.put, List.setIfInBounds_toArray, List.set_cons_zero, List.set_cons_succ]
        refine flow_skip ⟨some 23, _, _, _, _, _⟩ rfl (by rfl) ?_
        simp only [Act.put, List.setIfInBounds_toArray, List.set_cons_zero, List.set_cons_succ]
        refine flow_skip ⟨some 25, _, _, _, _, _⟩ rfl (by rfl) ?_
        simp only [Act.put, List.setIfInBounds_toArray, List.set_cons_zero, List.set_cons_succ]
        refine flow_skip ⟨some 26, _, _, _, _, _⟩ rfl (by rfl) ?_
        simp only [Act.put, List.setIfInBounds_toArray, List.set_cons_zero, List.set_cons_succ]
        refine flow_skip' ⟨some 24, _, _, _, _, _⟩ rfl (by rfl) hS ?_
        simp only [Act.put, List.setIfInBounds_toArray, List.set_cons_zero, List.set_cons_succ]
        refine flow_skip' ⟨some 27, _, _, _, _, _⟩ rfl (by rfl) hS ?_
        simp only [Act.put, List.setIfInBounds_toArray, List.set_cons_zero, List.set_cons_succ]
        refine flow_skip' ⟨some 28, _, _, _, _, _⟩ rfl (by rfl) hS ?_
        simp only [Act.put, List.setIfInBounds_toArray, List.set_cons_zero, List.set_cons_succ]
        refine flow_skip ⟨some 29, _, _, _, _, _⟩ rfl (by rfl) ?_
        simp only [Act.put, List.setIfInBounds_toArray, List.set_cons_zero, List.set_cons_succ]
        refine flow_take ⟨some 30, _, _, _, _, _⟩ ?_ rfl (by rfl) ?_ ?_
        rotate_left 1
        · intro w hSw; (try dsimp only at hSw); go_simp; (try with_reducible rfl)
        simp only [Act.put, List.setIfInBounds_toArray, List.set_cons_zero, List.set_cons_succ]
        refine flow_take ⟨some 2, _, _, _, _, _⟩ ?_ rfl (by rfl) ?_ ?_
        rotate_left 1
        · intro w hSw; (try dsimp only at hSw); go_simp; (try with_reducible rfl)
        simp only [Act.put, List.setIfInBounds_toArray, List.set_cons_zero, List.set_cons_succ]
        simp only [wpFlow, OnlyN]
        go_wp2_with fail
        go_ret
        exact ⟨ret_bool (by rw [HV.out]; simp), hb0.trans (hS.1.mono hb0.size)⟩
      · cases b4
        · refine of_onlyN ?_ (fun _ _ h => h)
          refine wp_region_flow (S := fun w' => RowKit.Below W.heap.size W w' ∧ w'.cell? ⟨w.heap.size, 0, none⟩ = some (.int .i64 r.n) ∧ w'.cell? ⟨w.heap.size, 1, none⟩ = some (.int .i64 r.d)) [(0, true), (1, true), (2, true), (3, true), (4, true), (5, true), (6, true), (7, true), (8, true), (9, true), (10, true), (11, true), (12, true), (13, true), (14, true), (15, true), (16, true), (17, true), (18, true), (19, true), (20, true), (22, true), (23, true), (21, false), (24, false), (25, false), (26, true), (27, true), (28, true)] (by kernel_rfl) (by kernel_rfl) (by kernel_rfl) (by decide) (rat_drew hr) ?_
          have hS := rat_drew hr
          refine flow_take ⟨some 3, _, _, _, _, _⟩ ?_ rfl (by rfl) ?_ ?_
          rotate_left 1
          · intro w hSw; (try dsimp only at hSw); go_simp; (try with_reducible rfl)
          simp only [Act.put, List.setIfInBounds_toArray, List.set_cons_zero, List.set_cons_succ]
          refine flow_take ⟨some 4, _, _, _, _, _⟩ ?_ rfl (by rfl) ?_ ?_
          rotate_left 1
          · intro w hSw; (try dsimp only at hSw); go_simp; (try with_reducible rfl)
          simp only [Act.put, List.setIfInBounds_toArray, List.set_cons_zero, List.set_cons_succ]
          refine flow_take ⟨some 5, _, _, _, _, _⟩ ?_ rfl (by rfl) ?_ ?_
          rotate_left 1
          · intro w hSw; (try dsimp only at hSw); go_simp; (try with_reducible rfl)
          simp only [Act.put, List.setIfInBounds_toArray, List.set_cons_zero, List.set_cons_succ]
          refine flow_take ⟨some 6, _, _, _, _, _⟩ ?_ rfl (by rfl) ?_ ?_
          rotate_left 1
          · intro w hSw; (try dsimp only at hSw); go_simp; (try with_reducible rfl)
          simp only [Act.put, List.setIfInBounds_toArray, List.set_cons_zero, List.set_cons_succ]
          refine flow_take ⟨some 7, _, _, _, _, _⟩ ?_ rfl (by rfl) ?_ ?_
          rotate_left 1
          · intro w hSw; (try dsimp only at hSw); go_simp; (try with_reducible rfl)
          simp only [Act.put, List.setIfInBounds_toArray, List.set_cons_zero, List.set_cons_succ]
          refine flow_take ⟨some 8, _, _, _, _, _⟩ ?_ rfl (by rfl) ?_ ?_
          rotate_left 1
          · intro w hSw; (try dsimp only at hSw); go_simp; (try with_reducible rfl)
          simp only [Act.put, List.setIfInBounds_toArray, List.set_cons_zero, List.set_cons_succ]
          refine flow_take ⟨some 9, _, _, _, _, _⟩ ?_ rfl (by rfl) ?_ ?_
          rotate_left 1
          · intro w hSw; (try dsimp only at hSw); go_simp; (try with_reducible rfl)
          simp only [Act.put, List.setIfInBounds_toArray, List.set_cons_zero, List.set_cons_succ]
          refine flow_take ⟨some 10, _, _, _, _, _⟩ ?_ rfl (by rfl) ?_ ?_
          rotate_left 1
          · intro w hSw; (try dsimp only at hSw); go_simp; (try with_reducible rfl)
          simp only [Act.put, List.setIfInBounds_toArray, List.set_cons_zero, List.set_cons_succ]
          refine flow_take ⟨some 11, _, _, _, _, _⟩ ?_ rfl (by rfl) ?_ ?_
          rotate_left 1
          · intro w hSw; (try dsimp only at hSw); go_simp; (try with_reducible rfl)
          simp only [Act.put, List.setIfInBounds_toArray, List.set_cons_zero, List.set_cons_succ]
          refine flow_take ⟨some 12, _, _, _, _, _⟩ ?_ rfl (by rfl) ?_ ?_
          rotate_left 1
          · intro w hSw; (try dsimp only at hSw); go_simp; (try with_reducible rfl)
          simp only [Act.put, List.setIfInBounds_toArray, List.set_cons_zero, List.set_cons_succ]
          refine flow_take ⟨some 13, _, _, _, _, _⟩ ?_ rfl (by rfl) ?_ ?_
          rotate_left 1
          · intro w hSw; (try dsimp only at hSw); go_simp; (try with_reducible rfl)
          simp only [Act.put, List.setIfInBounds_toArray, List.set_cons_zero, List.set_cons_succ]
          refine flow_take ⟨some 14, _, _, _, _, _⟩ ?_ rfl (by rfl) ?_ ?_
          rotate_left 1
          · intro w hSw; (try dsimp only at hSw); go_simp; (try with_reducible rfl)
          simp only [Act.put, List.setIfInBounds_toArray, List.set_cons_zero, List.set_cons_succ]
          refine flow_take ⟨some 15, _, _, _, _, _⟩ ?_ rfl (by rfl) ?_ ?_
          rotate_left 1
          · intro w hSw; (try dsimp only at hSw); go_simp; (try with_reducible rfl)
          simp only [Act.put, List.setIfInBounds_toArray, List.set_cons_zero, List.set_cons_succ]
          refine flow_take ⟨some 16, _, _, _, _, _⟩ ?_ rfl (by rfl) ?_ ?_
          rotate_left 1
          · intro w hSw; (try dsimp only at hSw); go_simp; (try with_reducible rfl)
          simp only [Act.put, List.setIfInBounds_toArray, List.set_cons_zero, List.set_cons_succ]
          refine flow_take ⟨some 17, _, _, _, _, _⟩ ?_ rfl (by rfl) ?_ ?_
          rotate_left 1
          · intro w hSw; (try dsimp only at hSw); go_simp; (try with_reducible rfl)
          simp only [Act.put, List.setIfInBounds_toArray, List.set_cons_zero, List.set_cons_succ]
          refine flow_take ⟨some 18, _, _, _, _, _⟩ ?_ rfl (by rfl) ?_ ?_
          rotate_left 1
          · intro w hSw; (try dsimp only at hSw); go_simp; (try with_reducible rfl)
          simp only [Act.put, List.setIfInBounds_toArray, List.set_cons_zero, List.set_cons_succ]
          refine flow_take ⟨some 19, _, _, _, _, _⟩ ?_ rfl (by rfl) ?_ ?_
          rotate_left 1
          · intro w hSw; (try dsimp only at hSw); go_simp; (try with_reducible rfl)
          simp only [Act.put, List.setIfInBounds_toArray, List.set_cons_zero, List.set_cons_succ]
          refine flow_take ⟨some 20, _, _, _, _, _⟩ ?_ rfl (by rfl) ?_ ?_
          rotate_left 1
          · intro w hSw; (try dsimp only at hSw); go_simp; (try with_reducible rfl)
          simp only [Act.put, List.setIfInBounds_toArray, List.set_cons_zero, List.set_cons_succ]
          refine flow_take ⟨some 21, _, _, _, _, _⟩ ?_ rfl (by rfl) ?_ ?_
          rotate_left 1
          · intro w hSw; (try dsimp only at hSw); go_simp; (try with_reducible rfl)
          simp only [Act.put, List.setIfInBounds_toArray, List.set_cons_zero, List.set_cons_succ]
          refine flow_skip ⟨some 22, _, _, _, _, _⟩ rfl (by rfl) ?_
          simp only [Act.put, List.setIfInBounds_toArray, List.set_cons_zero, List.set_cons_succ]
          refine flow_skip ⟨some 23, _, _, _, _, _⟩ rfl (by rfl) ?_
          simp only [Act.put, List.setIfInBounds_toArray, List.set_cons_zero, List.set_cons_succ]
          refine flow_skip ⟨some 25, _, _, _, _, _⟩ rfl (by rfl) ?_
          simp only [Act.put, List.setIfInBounds_toArray, List.set_cons_zero, List.set_cons_succ]
          refine flow_skip ⟨some 26, _, _, _, _, _⟩ rfl (by rfl) ?_
          simp only [Act.put, List.setIfInBounds_toArray, List.set_cons_zero, List.set_cons_succ]
          refine flow_skip' ⟨some 24, _, _, _, _, _⟩ rfl (by rfl) hS ?_
          simp only [Act.put, List.setIfInBounds_toArray, List.set_cons_zero, List.set_cons_succ]
          refine flow_skip' ⟨some 27, _, _, _, _, _⟩ rfl (by rfl) hS ?_
          simp only [Act.put, List.setIfInBounds_toArray, List.set_cons_zero, List.set_cons_succ]
          refine flow_skip' ⟨some 28, _, _, _, _, _⟩ rfl (by rfl) hS ?_
          simp only [Act.put, List.setIfInBounds_toArray, List.set_cons_zero, List.set_cons_succ]
          refine flow_skip ⟨some 29, _, _, _, _, _⟩ rfl (by rfl) ?_
          simp only [Act.put, List.setIfInBounds_toArray, List.set_cons_zero, List.set_cons_succ]
          refine flow_take ⟨some 30, _, _, _, _, _⟩ ?_ rfl (by rfl) ?_ ?_
          rotate_left 1
          · intro w hSw; (try dsimp only at hSw); go_simp; (try with_reducible rfl)
          simp only [Act.put, List.setIfInBounds_toArray, List.set_cons_zero, List.set_cons_succ]
          refine flow_take ⟨some 2, _, _, _, _, _⟩ ?_ rfl (by rfl) ?_ ?_
          rotate_left 1
          · intro w hSw; (try dsimp only at hSw); go_simp; (try with_reducible rfl)
          simp only [Act.put, List.setIfInBounds_toArray, List.set_cons_zero, List.set_cons_succ]
          simp only [wpFlow, OnlyN]
          go_wp2_with fail
          go_ret
          exact ⟨ret_bool (by rw [HV.out]; simp), hb0.trans (hS.1.mono hb0.size)⟩
        · refine of_onlyN ?_ (fun _ _ h => h)
          refine wp_region_flow (S := fun w' => RowKit.Below W.heap.size W w' ∧ w'.cell? ⟨w.heap.size, 0, none⟩ = some (.int .i64 r.n) ∧ w'.cell? ⟨w.heap.size, 1, none⟩ = some (.int .i64 r.d)) [(0, true), (1, true), (2, true), (3, true), (4, true), (5, true), (6, true), (7, true), (8, true), (9, true), (10, true), (11, true), (12, true), (13, true), (14, true), (15, true), (16, true), (17, true), (18, true), (19, true), (20, true), (22, true), (23, true), (21, false), (24, false), (25, false), (26, true), (27, true), (28, true)] (by kernel_rfl) (by kernel_rfl) (by kernel_rfl) (by decide) (rat_drew hr) ?_
          have hS := rat_drew hr
          refine flow_take ⟨some 3, _, _, _, _, _⟩ ?_ rfl (by rfl) ?_ ?_
          rotate_left 1
          · intro w hSw; (try dsimp only at hSw); go_simp; (try with_reducible rfl)
          simp only [Act.put, List.setIfInBounds_toArray, List.set_cons_zero, List.set_cons_succ]
          refine flow_take ⟨some 4, _, _, _, _, _⟩ ?_ rfl (by rfl) ?_ ?_
          rotate_left 1
          · intro w hSw; (try dsimp only at hSw); go_simp; (try with_reducible rfl)
          simp only [Act.put, List.setIfInBounds_toArray, List.set_cons_zero, List.set_cons_succ]
          refine flow_take ⟨some 5, _, _, _, _, _⟩ ?_ rfl (by rfl) ?_ ?_
          rotate_left 1
          · intro w hSw; (try dsimp only at hSw); go_simp; (try with_reducible rfl)
          simp only [Act.put, List.setIfInBounds_toArray, List.set_cons_zero, List.set_cons_succ]
          refine flow_take ⟨some 6, _, _, _, _, _⟩ ?_ rfl (by rfl) ?_ ?_
          rotate_left 1
          · intro w hSw; (try dsimp only at hSw); go_simp; (try with_reducible rfl)
          simp only [Act.put, List.setIfInBounds_toArray, List.set_cons_zero, List.set_cons_succ]
          refine flow_take ⟨some 7, _, _, _, _, _⟩ ?_ rfl (by rfl) ?_ ?_
          rotate_left 1
          · intro w hSw; (try dsimp only at hSw); go_simp; (try with_reducible rfl)
          simp only [Act.put, List.setIfInBounds_toArray, List.set_cons_zero, List.set_cons_succ]
          refine flow_take ⟨some 8, _, _, _, _, _⟩ ?_ rfl (by rfl) ?_ ?_
          rotate_left 1
          · intro w hSw; (try dsimp only at hSw); go_simp; (try with_reducible rfl)
          simp only [Act.put, List.setIfInBounds_toArray, List.set_cons_zero, List.set_cons_succ]
          refine flow_take ⟨some 9, _, _, _, _, _⟩ ?_ rfl (by rfl) ?_ ?_
          rotate_left 1
          · intro w hSw; (try dsimp only at hSw); go_simp; (try with_reducible rfl)
          simp only [Act.put, List.setIfInBounds_toArray, List.set_cons_zero, List.set_cons_succ]
          refine flow_take ⟨some 10, _, _, _, _, _⟩ ?_ rfl (by rfl) ?_ ?_
          rotate_left 1
          · intro w hSw; (try dsimp only at hSw); go_simp; (try with_reducible rfl)
          simp only [Act.put, List.setIfInBounds_toArray, List.set_cons_zero, List.set_cons_succ]
          refine flow_take ⟨some 11, _, _, _, _, _⟩ ?_ rfl (by rfl) ?_ ?_
          rotate_left 1
          · intro w hSw; (try dsimp only at hSw); go_simp; (try with_reducible rfl)
          simp only [Act.put, List.setIfInBounds_toArray, List.set_cons_zero, List.set_cons_succ]
          refine flow_take ⟨some 12, _, _, _, _, _⟩ ?_ rfl (by rfl) ?_ ?_
          rotate_left 1
          · intro w hSw; (try dsimp only at hSw); go_simp; (try with_reducible rfl)
          simp only [Act.put, List.setIfInBounds_toArray, List.set_cons_zero, List.set_cons_succ]
          refine flow_take ⟨some 13, _, _, _, _, _⟩ ?_ rfl (by rfl) ?_ ?_
          rotate_left 1
          · intro w hSw; (try dsimp only at hSw); go_simp; (try with_reducible rfl)
          simp only [Act.put, List.setIfInBounds_toArray, List.set_cons_zero, List.set_cons_succ]
          refine flow_take ⟨some 14, _, _, _, _, _⟩ ?_ rfl (by rfl) ?_ ?_
          rotate_left 1
          · intro w hSw; (try dsimp only at hSw); go_simp; (try with_reducible rfl)
          simp only [Act.put, List.setIfInBounds_toArray, List.set_cons_zero, List.set_cons_succ]
          refine flow_take ⟨some 15, _, _, _, _, _⟩ ?_ rfl (by rfl) ?_ ?_
          rotate_left 1
          · intro w hSw; (try dsimp only at hSw); go_simp; (try with_reducible rfl)
          simp only [Act.put, List.setIfInBounds_toArray, List.set_cons_zero, List.set_cons_succ]
          refine flow_take ⟨some 16, _, _, _, _, _⟩ ?_ rfl (by rfl) ?_ ?_
          rotate_left 1
          · intro w hSw; (try dsimp only at hSw); go_simp; (try with_reducible rfl)
          simp only [Act.put, List.setIfInBounds_toArray, List.set_cons_zero, List.set_cons_succ]
          refine flow_take ⟨some 17, _, _, _, _, _⟩ ?_ rfl (by rfl) ?_ ?_
          rotate_left 1
          · intro w hSw; (try dsimp only at hSw); go_simp; (try with_reducible rfl)
          simp only [Act.put, List.setIfInBounds_toArray, List.set_cons_zero, List.set_cons_succ]
          refine flow_take ⟨some 18, _, _, _, _, _⟩ ?_ rfl (by rfl) ?_ ?_
          rotate_left 1
          · intro w hSw; (try dsimp only at hSw); go_simp; (try with_reducible rfl)
          simp only [Act.put, List.setIfInBounds_toArray, List.set_cons_zero, List.set_cons_succ]
          refine flow_take ⟨some 19, _, _, _, _, _⟩ ?_ rfl (by rfl) ?_ ?_
          rotate_left 1
          · intro w hSw; (try dsimp only at hSw); go_simp; (try with_reducible rfl)
          simp only [Act.put, List.setIfInBounds_toArray, List.set_cons_zero, List.set_cons_succ]
          refine flow_take ⟨some 20, _, _, _, _, _⟩ ?_ rfl (by rfl) ?_ ?_
          rotate_left 1
          · intro w hSw; (try dsimp only at hSw); go_simp; (try with_reducible rfl)
          simp only [Act.put, List.setIfInBounds_toArray, List.set_cons_zero, List.set_cons_succ]
          refine flow_take ⟨some 21, _, _, _, _, _⟩ ?_ rfl (by rfl) ?_ ?_
          rotate_left 1
          · intro w hSw; (try dsimp only at hSw); go_simp; (try with_reducible rfl)
          simp only [Act.put, List.setIfInBounds_toArray, List.set_cons_zero, List.set_cons_succ]
          refine flow_take ⟨some 22, _, _, _, _, _⟩ ?_ rfl (by rfl) ?_ ?_
          rotate_left 1
          · intro w hSw; (try dsimp only at hSw); go_simp; (try with_reducible rfl)
          simp only [Act.put, List.setIfInBounds_toArray, List.set_cons_zero, List.set_cons_succ]
          refine flow_take ⟨some 23, _, _, _, _, _⟩ ?_ rfl (by rfl) ?_ ?_
          rotate_left 1
          · intro w hSw; (try dsimp only at hSw); go_simp; (try with_reducible rfl)
          simp only [Act.put, List.setIfInBounds_toArray, List.set_cons_zero, List.set_cons_succ]
          refine flow_take ⟨some 25, _, _, _, _, _⟩ ?_ rfl (by rfl) ?_ ?_
          rotate_left 1
          · intro w hSw; (try dsimp only at hSw); go_simp; (try with_reducible rfl)
          simp only [Act.put, List.setIfInBounds_toArray, List.set_cons_zero, List.set_cons_succ]
          refine flow_take ⟨some 26, _, _, _, _, _⟩ ?_ rfl (by rfl) ?_ ?_
          rotate_left 1
          · intro w hSw; (try dsimp only at hSw); go_simp; (try with_reducible rfl)
          simp only [Act.put, List.setIfInBounds_toArray, List.set_cons_zero, List.set_cons_succ]
          (first | (refine flow_call ⟨some 24, _, _, _, _, _⟩ rfl (by rfl) 31 _ _ (by rfl) _ (by rfl) Tryd.call31 (cn _) ?_; rintro x wn ⟨rfl, rfl⟩; refine ⟨_, rfl, hS, ?_⟩) | (refine flow_call ⟨some 24, _, _, _, _, _⟩ rfl (by rfl) 31 _ _ (by rfl) _ (by rfl) Tryd.call31 (cd _) ?_; rintro x wn ⟨rfl, rfl⟩; refine ⟨_, rfl, hS, ?_⟩))
          simp only [Act.put, List.setIfInBounds_toArray, List.set_cons_zero, List.set_cons_succ]
          (first | (refine flow_call ⟨some 27, _, _, _, _, _⟩ rfl (by rfl) 31 _ _ (by rfl) _ (by rfl) Tryd.call31 (cn _) ?_; rintro x wn ⟨rfl, rfl⟩; refine ⟨_, rfl, hS, ?_⟩) | (refine flow_call ⟨some 27, _, _, _, _, _⟩ rfl (by rfl) 31 _ _ (by rfl) _ (by rfl) Tryd.call31 (cd _) ?_; rintro x wn ⟨rfl, rfl⟩; refine ⟨_, rfl, hS, ?_⟩))
          simp only [Act.put, List.setIfInBounds_toArray, List.set_cons_zero, List.set_cons_succ]
          refine flow_call ⟨some 28, _, _, _, _, _⟩ rfl (by rfl) 30 _ _ (by rfl) _ (by rfl) Tryd.call30 (cg _) ?_; rintro x wn ⟨rfl, hb⟩; replace hS := rat_next hS hb; refine ⟨_, rfl, hS, ?_⟩; (try clear hb)
          simp only [Act.put, List.setIfInBounds_toArray, List.set_cons_zero, List.set_cons_succ]
          refine flow_take ⟨some 29, _, _, _, _, _⟩ ?_ rfl (by rfl) ?_ ?_
          rotate_left 1
          · intro w hSw; (try dsimp only at hSw); go_simp; (try with_reducible rfl)
          simp only [Act.put, List.setIfInBounds_toArray, List.set_cons_zero, List.set_cons_succ]
          refine flow_take ⟨some 30, _, _, _, _, _⟩ ?_ rfl (by rfl) ?_ ?_
          rotate_left 1
          · intro w hSw; (try dsimp only at hSw); go_simp; (try with_reducible rfl)
          simp only [Act.put, List.setIfInBounds_toArray, List.set_cons_zero, List.set_cons_succ]
          refine flow_take ⟨some 2, _, _, _, _, _⟩ ?_ rfl (by rfl) ?_ ?_
          rotate_left 1
          · intro w hSw; (try dsimp only at hSw); go_simp; (try with_reducible rfl)
          simp only [Act.put, List.setIfInBounds_toArray, List.set_cons_zero, List.set_cons_succ]
          simp only [wpFlow, OnlyN]
          go_wp2_with fail
          go_ret
          exact ⟨ret_bool (by rw [HV.out]; simp), hb0.trans (hS.1.mono hb0.size)⟩

theorem pair_next {W w : World} {b : Nat} {r : Rt} (h : RowKit.Below W.heap.size W w ∧ w.cell? ⟨b, 0, none⟩ = some (.int .i64 r.n) ∧ w.cell? ⟨b, 1, none⟩ = some (.int .i64 r.d)) (o : Obj) :
    RowKit.Below W.heap.size W (w.alloc o) ∧ (w.alloc o).cell? ⟨b, 0, none⟩ = some (.int .i64 r.n) ∧ (w.alloc o).cell? ⟨b, 1, none⟩ = some (.int .i64 r.d) := rat_next h (below_alloc1 w o)
theorem pair_at (w : World) (x y : Value) (t : TypeId) : (w.alloc (.cells #[x, y] t)).cell? ⟨w.heap.size, 0, none⟩ = some x ∧ (w.alloc (.cells #[x, y] t)).cell? ⟨w.heap.size, 1, none⟩ = some y :=
  ⟨Lib.cell_of_heap (heap_alloc_new w _) 0, Lib.cell_of_heap (heap_alloc_new w _) 1⟩
/-- The project's gcd of two numbers laid in a row of their own. -/
theorem gcd_new (a b : Nat) (ha : a ≤ 9223372036854775808) (hb : b ≤ 9223372036854775808) (w : World) :
    Calls Tryd.prog 45 #[.slice (some ⟨w.heap.size, 0, none⟩) 2 2] (w.alloc (.cells #[.int .u64 a, .int .u64 b] 57)) fun e w' => e = .returned (.int .u64 (a.gcd b : Nat)) ∧ RowKit.Below (w.alloc (.cells #[.int .u64 a, .int .u64 b] 57)).heap.size (w.alloc (.cells #[.int .u64 a, .int .u64 b] 57)) w' :=
  gcd_any a b w.heap.size ha hb _ (pair_at w _ _ _).1 (pair_at w _ _ _).2
set_option maxHeartbeats 1000000 in
theorem right_any (r : Rt) (h : r.Ok) (w : World) :
    Calls Tryd.prog 36 #[r.val] w fun e w' => e = .returned (.bool (decide (Right r))) ∧ RowKit.Below w.heap.size w w' := by
  obtain ⟨hn, hd⟩ := h
  have cn := fun w => size_any r.n hn w
  have cd := fun w => size_any r.d hd w
  unfold I64 at hn hd
  have cg := fun w => gcd_new r.n.natAbs r.d.natAbs (by omega) (by omega) w
  obtain ⟨b1, h1⟩ : ∃ b, (decide (1 ≤ r.d) && decide (r.d ≤ 1073741824)) = b := ⟨_, rfl⟩
  obtain ⟨b2, h2⟩ : ∃ b, (decide (-1073741824 ≤ r.n) && decide (r.n ≤ 1073741824)) = b := ⟨_, rfl⟩
  have HV : Hid (decide (Right r) = (b1 && b2 && (((r.n.natAbs.gcd r.d.natAbs : Nat) : Int) == 1))) := Lib.hid (by
    rw [← h1, ← h2, Bool.eq_iff_iff, decide_eq_true_eq]; simp only [Bool.and_eq_true, decide_eq_true_eq, beq_iff_eq]; unfold Right; omega)
  have k1 := fun w => within_is 1 r.d 1073741824 b1 h1 w
  have k2 := fun w => within_is (-1073741824) r.n 1073741824 b2 h2 w
  clear h1 h2
  unfold Rt.val
  go_enter Tryd.func36, Tryd.ntmps36
  go_wp2_with fail
  have hr := RatAt.new w r 24
  have hb0 := below_alloc1 w (.cells #[.int .i64 r.n, .int .i64 r.d] 24)
  generalize w.alloc _ = W at hr hb0 ⊢
  cases b1
  · refine of_onlyN ?_ (fun _ _ h => h)
    refine wp_region_flow (S := fun w' => RowKit.Below W.heap.size W w' ∧ w'.cell? ⟨w.heap.size, 0, none⟩ = some (.int .i64 r.n) ∧ w'.cell? ⟨w.heap.size, 1, none⟩ = some (.int .i64 r.d)) [(0, true), (1, true), (2, false), (3, true), (4, true), (5, true), (6, false), (7, true), (8, true), (9, true), (10, true), (12, true), (13, true), (11, false), (14, false), (15, false), (16, false), (17, true), (18, true), (19, true)] (by kernel_rfl) (by kernel_rfl) (by kernel_rfl) (by decide) (rat_drew hr) ?_
    have hS := rat_drew hr
    refine flow_take ⟨some 3, _, _, _, _, _⟩ ?_ rfl (by rfl) ?_ ?_
    rotate_left 1
    · intro w hSw; (try dsimp only at hSw); go_simp; (try with_reducible rfl)
    simp only [Act.put, List.setIfInBounds_toArray, List.set_cons_zero, List.set_cons_succ]
    refine flow_take ⟨some 4, _, _, _, _, _⟩ ?_ rfl (by rfl) ?_ ?_
    rotate_left 1
    · intro w hSw; (try dsimp only at hSw); go_simp; (try with_reducible rfl)
    simp only [Act.put, List.setIfInBounds_toArray, List.set_cons_zero, List.set_cons_succ]
    refine flow_call ⟨some 5, _, _, _, _, _⟩ rfl (by rfl) 37 _ _ (by rfl) _ (by rfl) Tryd.call37 (k1 _) ?_; rintro x wn ⟨rfl, rfl⟩; refine ⟨_, rfl, hS, ?_⟩
    simp only [Act.put, List.setIfInBounds_toArray, List.set_cons_zero, List.set_cons_succ]
    refine flow_take ⟨some 6, _, _, _, _, _⟩ ?_ rfl (by rfl) ?_ ?_
    rotate_left 1
    · intro w hSw; (try dsimp only at hSw); go_simp; (try with_reducible rfl)
    simp only [Act.put, List.setIfInBounds_toArray, List.set_cons_zero, List.set_cons_succ]
    refine flow_skip ⟨some 7, _, _, _, _, _⟩ rfl (by rfl) ?_
    simp only [Act.put, List.setIfInBounds_toArray, List.set_cons_zero, List.set_cons_succ]
    refine flow_skip ⟨some 8, _, _, _, _, _⟩ rfl (by rfl) ?_
    simp only [Act.put, List.setIfInBounds_toArray, List.set_cons_zero, List.set_cons_succ]
    refine flow_skip' ⟨some 9, _, _, _, _, _⟩ rfl (by rfl) hS ?_
    simp only [Act.put, List.setIfInBounds_toArray, List.set_cons_zero, List.set_cons_succ]
    refine flow_take ⟨some 10, _, _, _, _, _⟩ ?_ rfl (by rfl) ?_ ?_
    rotate_left 1
    · intro w hSw; (try dsimp only at hSw); go_simp; (try with_reducible rfl)
    simp only [Act.put, List.setIfInBounds_toArray, List.set_cons_zero, List.set_cons_succ]
    refine flow_take ⟨some 11, _, _, _, _, _⟩ ?_ rfl (by rfl) ?_ ?_
    rotate_left 1
    · intro w hSw; (try dsimp only at hSw); go_simp; (try with_reducible rfl)
    simp only [Act.put, List.setIfInBounds_toArray, List.set_cons_zero, List.set_cons_succ]
    refine flow_skip ⟨some 12, _, _, _, _, _⟩ rfl (by rfl) ?_
    simp only [Act.put, List.setIfInBounds_toArray, List.set_cons_zero, List.set_cons_succ]
    refine flow_skip ⟨some 13, _, _, _, _, _⟩ rfl (by rfl) ?_
    simp only [Act.put, List.setIfInBounds_toArray, List.set_cons_zero, List.set_cons_succ]
    refine flow_skip ⟨some 15, _, _, _, _, _⟩ rfl (by rfl) ?_
    simp only [Act.put, List.setIfInBounds_toArray, List.set_cons_zero, List.set_cons_succ]
    refine flow_skip ⟨some 16, _, _, _, _, _⟩ rfl (by rfl) ?_
    simp only [Act.put, List.setIfInBounds_toArray, List.set_cons_zero, List.set_cons_succ]
    refine flow_skip' ⟨some 14, _, _, _, _, _⟩ rfl (by rfl) hS ?_
    simp only [Act.put, List.setIfInBounds_toArray, List.set_cons_zero, List.set_cons_succ]
    refine flow_skip' ⟨some 17, _, _, _, _, _⟩ rfl (by rfl) hS ?_
    simp only [Act.put, List.setIfInBounds_toArray, List.set_cons_zero, List.set_cons_succ]
    refine flow_skip' ⟨some 18, _, _, _, _, _⟩ rfl (by rfl) hS ?_
    simp only [Act.put, List.setIfInBounds_toArray, List.set_cons_zero, List.set_cons_succ]
    refine flow_skip' ⟨some 19, _, _, _, _, _⟩ rfl (by rfl) hS ?_
    simp only [Act.put, List.setIfInBounds_toArray, List.set_cons_zero, List.set_cons_succ]
    refine flow_skip ⟨some 20, _, _, _, _, _⟩ rfl (by rfl) ?_
    simp only [Act.put, List.setIfInBounds_toArray, List.set_cons_zero, List.set_cons_succ]
    refine flow_take ⟨some 21, _, _, _, _, _⟩ ?_ rfl (by rfl) ?_ ?_
    rotate_left 1
    · intro w hSw; (try dsimp only at hSw); go_simp; (try with_reducible rfl)
    simp only [Act.put, List.setIfInBounds_toArray, List.set_cons_zero, List.set_cons_succ]
    refine flow_take ⟨some 2, _, _, _, _, _⟩ ?_ rfl (by rfl) ?_ ?_
    rotate_left 1
    · intro w hSw; (try dsimp only at hSw); go_simp; (try with_reducible rfl)
    simp only [Act.put, List.setIfInBounds_toArray, List.set_cons_zero, List.set_cons_succ]
    simp only [wpFlow, OnlyN]
    go_wp2_with fail
    go_ret
    exact ⟨ret_bool (by rw [HV.out]; simp), hb0.trans (hS.1.mono hb0.size)⟩
  · cases b2
    · refine of_onlyN ?_ (fun _ _ h => h)
      refine wp_region_flow (S := fun w' => RowKit.Below W.heap.size W w' ∧ w'.cell? ⟨w.heap.size, 0, none⟩ = some (.int .i64 r.n) ∧ w'.cell? ⟨w.heap.size, 1, none⟩ = some (.int .i64 r.d)) [(0, true), (1, true), (2, false), (3, true), (4, true), (5, true), (6, false), (7, true), (8, true), (9, true), (10, true), (12, true), (13, true), (11, false), (14, false), (15, false), (16, false), (17, true), (18, true), (19, true)] (by kernel_rfl) (by kernel_rfl) (by kernel_rfl) (by decide) (rat_drew hr) ?_
      have hS := rat_drew hr
      refine flow_take ⟨some 3, _, _, _, _, _⟩ ?_ rfl (by rfl) ?_ ?_
      rotate_left 1
      · intro w hSw; (try dsimp only at hSw); go_simp; (try with_reducible rfl)
      simp only [Act.put, List.setIfInBounds_toArray, List.set_cons_zero, List.set_cons_succ]
      refine flow_take ⟨some 4, _, _, _, _, _⟩ ?_ rfl (by rfl) ?_ ?_
      rotate_left 1
      · intro w hSw; (try dsimp only at hSw); go_simp; (try with_reducible rfl)
      simp only [Act.put, List.setIfInBounds_toArray, List.set_cons_zero, List.set_cons_succ]
      (first | (refine flow_call ⟨some 5, _, _, _, _, _⟩ rfl (by rfl) 37 _ _ (by rfl) _ (by rfl) Tryd.call37 (k1 _) ?_; rintro x wn ⟨rfl, rfl⟩; refine ⟨_, rfl, hS, ?_⟩) | (refine flow_call ⟨some 5, _, _, _, _, _⟩ rfl (by rfl) 37 _ _ (by rfl) _ (by rfl) Tryd.call37 (k2 _) ?_; rintro x wn ⟨rfl, rfl⟩; refine ⟨_, rfl, hS, ?_⟩))
      simp only [Act.put, List.setIfInBounds_toArray, List.set_cons_zero, List.set_cons_succ]
      refine flow_take ⟨some 6, _, _, _, _, _⟩ ?_ rfl (by rfl) ?_ ?_
      rotate_left 1
      · intro w hSw; (try dsimp only at hSw); go_simp; (try with_reducible rfl)
      simp only [Act.put, List.setIfInBounds_toArray, List.set_cons_zero, List.set_cons_succ]
      refine flow_take ⟨some 7, _, _, _, _, _⟩ ?_ rfl (by rfl) ?_ ?_
      rotate_left 1
      · intro w hSw; (try dsimp only at hSw); go_simp; (try with_reducible rfl)
      simp only [Act.put, List.setIfInBounds_toArray, List.set_cons_zero, List.set_cons_succ]
      refine flow_take ⟨some 8, _, _, _, _, _⟩ ?_ rfl (by rfl) ?_ ?_
      rotate_left 1
      · intro w hSw; (try dsimp only at hSw); go_simp; (try with_reducible rfl)
      simp only [Act.put, List.setIfInBounds_toArray, List.set_cons_zero, List.set_cons_succ]
      (first | (refine flow_call ⟨some 9, _, _, _, _, _⟩ rfl (by rfl) 37 _ _ (by rfl) _ (by rfl) Tryd.call37 (k1 _) ?_; rintro x wn ⟨rfl, rfl⟩; refine ⟨_, rfl, hS, ?_⟩) | (refine flow_call ⟨some 9, _, _, _, _, _⟩ rfl (by rfl) 37 _ _ (by rfl) _ (by rfl) Tryd.call37 (k2 _) ?_; rintro x wn ⟨rfl, rfl⟩; refine ⟨_, rfl, hS, ?_⟩))
      simp only [Act.put, List.setIfInBounds_toArray, List.set_cons_zero, List.set_cons_succ]
      refine flow_take ⟨some 10, _, _, _, _, _⟩ ?_ rfl (by rfl) ?_ ?_
      rotate_left 1
      · intro w hSw; (try dsimp only at hSw); go_simp; (try with_reducible rfl)
      simp only [Act.put, List.setIfInBounds_toArray, List.set_cons_zero, List.set_cons_succ]
      refine flow_take ⟨some 11, _, _, _, _, _⟩ ?_ rfl (by rfl) ?_ ?_
      rotate_left 1
      · intro w hSw; (try dsimp only at hSw); go_simp; (try with_reducible rfl)
      simp only [Act.put, List.setIfInBounds_toArray, List.set_cons_zero, List.set_cons_succ]
      refine flow_skip ⟨some 12, _, _, _, _, _⟩ rfl (by rfl) ?_
      simp only [Act.put, List.setIfInBounds_toArray, List.set_cons_zero, List.set_cons_succ]
      refine flow_skip ⟨some 13, _, _, _, _, _⟩ rfl (by rfl) ?_
      simp only [Act.put, List.setIfInBounds_toArray, List.set_cons_zero, List.set_cons_succ]
      refine flow_skip ⟨some 15, _, _, _, _, _⟩ rfl (by rfl) ?_
      simp only [Act.put, List.setIfInBounds_toArray, List.set_cons_zero, List.set_cons_succ]
      refine flow_skip ⟨some 16, _, _, _, _, _⟩ rfl (by rfl) ?_
      simp only [Act.put, List.setIfInBounds_toArray, List.set_cons_zero, List.set_cons_succ]
      refine flow_skip' ⟨some 14, _, _, _, _, _⟩ rfl (by rfl) hS ?_
      simp only [Act.put, List.setIfInBounds_toArray, List.set_cons_zero, List.set_cons_succ]
      refine flow_skip' ⟨some 17, _, _, _, _, _⟩ rfl (by rfl) hS ?_
      simp only [Act.put, List.setIfInBounds_toArray, List.set_cons_zero, List.set_cons_succ]
      refine flow_skip' ⟨some 18, _, _, _, _, _⟩ rfl (by rfl) hS ?_
      simp only [Act.put, List.setIfInBounds_toArray, List.set_cons_zero, List.set_cons_succ]
      refine flow_skip' ⟨some 19, _, _, _, _, _⟩ rfl (by rfl) hS ?_
      simp only [Act.put, List.setIfInBounds_toArray, List.set_cons_zero, List.set_cons_succ]
      refine flow_skip ⟨some 20, _, _, _, _, _⟩ rfl (by rfl) ?_
      simp only [Act.put, List.setIfInBounds_toArray, List.set_cons_zero, List.set_cons_succ]
      refine flow_take ⟨some 21, _, _, _, _, _⟩ ?_ rfl (by rfl) ?_ ?_
      rotate_left 1
      · intro w hSw; (try dsimp only at hSw); go_simp; (try with_reducible rfl)
      simp only [Act.put, List.setIfInBounds_toArray, List.set_cons_zero, List.set_cons_succ]
      refine flow_take ⟨some 2, _, _, _, _, _⟩ ?_ rfl (by rfl) ?_ ?_
      rotate_left 1
      · intro w hSw; (try dsimp only at hSw); go_simp; (try with_reducible rfl)
      simp only [Act.put, List.setIfInBounds_toArray, List.set_cons_zero, List.set_cons_succ]
      simp only [wpFlow, OnlyN]
      go_wp2_with fail
      go_ret
      exact ⟨ret_bool (by rw [HV.out]; simp), hb0.trans (hS.1.mono hb0.size)⟩
    · refine of_onlyN ?_ (fun _ _ h => h)
      refine wp_region_flow (S := fun w' => RowKit.Below W.heap.size W w' ∧ w'.cell? ⟨w.heap.size, 0, none⟩ = some (.int .i64 r.n) ∧ w'.cell? ⟨w.heap.size, 1, none⟩ = some (.int .i64 r.d)) [(0, true), (1, true), (2, false), (3, true), (4, true), (5, true), (6, false), (7, true), (8, true), (9, true), (10, true), (12, true), (13, true), (11, false), (14, false), (15, false), (16, false), (17, true), (18, true), (19, true)] (by kernel_rfl) (by kernel_rfl) (by kernel_rfl) (by decide) (rat_drew hr) ?_
      have hS := rat_drew hr
      refine flow_take ⟨some 3, _, _, _, _, _⟩ ?_ rfl (by rfl) ?_ ?_
      rotate_left 1
      · intro w hSw; (try dsimp only at hSw); go_simp; (try with_reducible rfl)
      simp only [Act.put, List.setIfInBounds_toArray, List.set_cons_zero, List.set_cons_succ]
      refine flow_take ⟨some 4, _, _, _, _, _⟩ ?_ rfl (by rfl) ?_ ?_
      rotate_left 1
      · intro w hSw; (try dsimp only at hSw); go_simp; (try with_reducible rfl)
      simp only [Act.put, List.setIfInBounds_toArray, List.set_cons_zero, List.set_cons_succ]
      (first | (refine flow_call ⟨some 5, _, _, _, _, _⟩ rfl (by rfl) 37 _ _ (by rfl) _ (by rfl) Tryd.call37 (k1 _) ?_; rintro x wn ⟨rfl, rfl⟩; refine ⟨_, rfl, hS, ?_⟩) | (refine flow_call ⟨some 5, _, _, _, _, _⟩ rfl (by rfl) 37 _ _ (by rfl) _ (by rfl) Tryd.call37 (k2 _) ?_; rintro x wn ⟨rfl, rfl⟩; refine ⟨_, rfl, hS, ?_⟩))
      simp only [Act.put, List.setIfInBounds_toArray, List.set_cons_zero, List.set_cons_succ]
      refine flow_take ⟨some 6, _, _, _, _, _⟩ ?_ rfl (by rfl) ?_ ?_
      rotate_left 1
      · intro w hSw; (try dsimp only at hSw); go_simp; (try with_reducible rfl)
      simp only [Act.put, List.setIfInBounds_toArray, List.set_cons_zero, List.set_cons_succ]
      refine flow_take ⟨some 7, _, _, _, _, _⟩ ?_ rfl (by rfl) ?_ ?_
      rotate_left 1
      · intro w hSw; (try dsimp only at hSw); go_simp; (try with_reducible rfl)
      simp only [Act.put, List.setIfInBounds_toArray, List.set_cons_zero, List.set_cons_succ]
      refine flow_take ⟨some 8, _, _, _, _, _⟩ ?_ rfl (by rfl) ?_ ?_
      rotate_left 1
      · intro w hSw; (try dsimp only at hSw); go_simp; (try with_reducible rfl)
      simp only [Act.put, List.setIfInBounds_toArray, List.set_cons_zero, List.set_cons_succ]
      (first | (refine flow_call ⟨some 9, _, _, _, _, _⟩ rfl (by rfl) 37 _ _ (by rfl) _ (by rfl) Tryd.call37 (k1 _) ?_; rintro x wn ⟨rfl, rfl⟩; refine ⟨_, rfl, hS, ?_⟩) | (refine flow_call ⟨some 9, _, _, _, _, _⟩ rfl (by rfl) 37 _ _ (by rfl) _ (by rfl) Tryd.call37 (k2 _) ?_; rintro x wn ⟨rfl, rfl⟩; refine ⟨_, rfl, hS, ?_⟩))
      simp only [Act.put, List.setIfInBounds_toArray, List.set_cons_zero, List.set_cons_succ]
      refine flow_take ⟨some 10, _, _, _, _, _⟩ ?_ rfl (by rfl) ?_ ?_
      rotate_left 1
      · intro w hSw; (try dsimp only at hSw); go_simp; (try with_reducible rfl)
      simp only [Act.put, List.setIfInBounds_toArray, List.set_cons_zero, List.set_cons_succ]
      refine flow_take ⟨some 11, _, _, _, _, _⟩ ?_ rfl (by rfl) ?_ ?_
      rotate_left 1
      · intro w hSw; (try dsimp only at hSw); go_simp; (try with_reducible rfl)
      simp only [Act.put, List.setIfInBounds_toArray, List.set_cons_zero, List.set_cons_succ]
      refine flow_take ⟨some 12, _, _, _, _, _⟩ ?_ rfl (by rfl) ?_ ?_
      rotate_left 1
      · intro w hSw; (try dsimp only at hSw); go_simp; (try with_reducible rfl)
      simp only [Act.put, List.setIfInBounds_toArray, List.set_cons_zero, List.set_cons_succ]
      refine flow_take ⟨some 13, _, _, _, _, _⟩ ?_ rfl (by rfl) ?_ ?_
      rotate_left 1
      · intro w hSw; (try dsimp only at hSw); go_simp; (try with_reducible rfl)
      simp only [Act.put, List.setIfInBounds_toArray, List.set_cons_zero, List.set_cons_succ]
      refine flow_take ⟨some 15, _, _, _, _, _⟩ ?_ rfl (by rfl) ?_ ?_
      rotate_left 1
      · intro w hSw; (try dsimp only at hSw); go_simp; (try with_reducible rfl)
      simp only [Act.put, List.setIfInBounds_toArray, List.set_cons_zero, List.set_cons_succ]
      refine flow_take ⟨some 16, _, _, _, _, _⟩ ?_ rfl (by rfl) ?_ ?_
      rotate_left 1
      · intro w hSw; (try dsimp only at hSw); go_simp; (try with_reducible rfl)
      simp only [Act.put, List.setIfInBounds_toArray, List.set_cons_zero, List.set_cons_succ]
      (first | (refine flow_call ⟨some 14, _, _, _, _, _⟩ rfl (by rfl) 46 _ _ (by rfl) _ (by rfl) Tryd.call46 (cn _) ?_; rintro x wn ⟨rfl, rfl⟩; refine ⟨_, rfl, hS, ?_⟩) | (refine flow_call ⟨some 14, _, _, _, _, _⟩ rfl (by rfl) 46 _ _ (by rfl) _ (by rfl) Tryd.call46 (cd _) ?_; rintro x wn ⟨rfl, rfl⟩; refine ⟨_, rfl, hS, ?_⟩))
      simp only [Act.put, List.setIfInBounds_toArray, List.set_cons_zero, List.set_cons_succ]
      (first | (refine flow_call ⟨some 17, _, _, _, _, _⟩ rfl (by rfl) 46 _ _ (by rfl) _ (by rfl) Tryd.call46 (cn _) ?_; rintro x wn ⟨rfl, rfl⟩; refine ⟨_, rfl, hS, ?_⟩) | (refine flow_call ⟨some 17, _, _, _, _, _⟩ rfl (by rfl) 46 _ _ (by rfl) _ (by rfl) Tryd.call46 (cd _) ?_; rintro x wn ⟨rfl, rfl⟩; refine ⟨_, rfl, hS, ?_⟩))
      simp only [Act.put, List.setIfInBounds_toArray, List.set_cons_zero, List.set_cons_succ]
      refine flow_run ⟨some 18, _, _, _, _, _⟩ (.slice (some ⟨W.heap.size, 0, none⟩) 2 2) (W.drew.alloc (.cells #[.int .u64 r.n.natAbs, .int .u64 r.d.natAbs] 57)) rfl (by rfl) (by go_simp) (pair_next hS _) ?_; replace hS := pair_next hS (.cells #[.int .u64 r.n.natAbs, .int .u64 r.d.natAbs] 57)
      simp only [Act.put, List.setIfInBounds_toArray, List.set_cons_zero, List.set_cons_succ]
      refine flow_call ⟨some 19, _, _, _, _, _⟩ rfl (by rfl) 45 _ _ (by rfl) _ (by rfl) Tryd.call45 (cg W.drew) ?_; rintro x wn ⟨rfl, hb⟩; replace hS := rat_next hS hb; refine ⟨_, rfl, hS, ?_⟩; (try clear hb)
      simp only [Act.put, List.setIfInBounds_toArray, List.set_cons_zero, List.set_cons_succ]
      refine flow_take ⟨some 20, _, _, _, _, _⟩ ?_ rfl (by rfl) ?_ ?_
      rotate_left 1
      · intro w hSw; (try dsimp only at hSw); go_simp; (try with_reducible rfl)
      simp only [Act.put, List.setIfInBounds_toArray, List.set_cons_zero, List.set_cons_succ]
      refine flow_take ⟨some 21, _, _, _, _, _⟩ ?_ rfl (by rfl) ?_ ?_
      rotate_left 1
      · intro w hSw; (try dsimp only at hSw); go_simp; (try with_reducible rfl)
      simp only [Act.put, List.setIfInBounds_toArray, List.set_cons_zero, List.set_cons_succ]
      refine flow_take ⟨some 2, _, _, _, _, _⟩ ?_ rfl (by rfl) ?_ ?_
      rotate_left 1
      · intro w hSw; (try dsimp only at hSw); go_simp; (try with_reducible rfl)
      simp only [Act.put, List.setIfInBounds_toArray, List.set_cons_zero, List.set_cons_succ]
      simp only [wpFlow, OnlyN]
      go_wp2_with fail
      go_ret
      exact ⟨ret_bool (by rw [HV.out]; simp), hb0.trans (hS.1.mono hb0.size)⟩
end Go.Proofs.YtmbjoenegcnoiaaDoor
