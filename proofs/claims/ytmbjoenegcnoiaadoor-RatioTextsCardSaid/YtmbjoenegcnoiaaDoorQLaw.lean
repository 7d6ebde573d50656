/- The law's own small functions: of, rounds: each walked once. -/
import Derived.Test.YtmbjoenegcnoiaaDoorQParse
namespace Go.Proofs.YtmbjoenegcnoiaaDoor
open Go Go.RowKit Go.Sort Go.Lib

set_option maxHeartbeats 1000000 in
theorem lawOf_any (n d up down e : Int) (hn : I64 n) (hd : I64 d) (h : ofV n d = (⟨up, down⟩, e)) (w : World) :
    Calls Tryd.prog 28 #[.int .i64 n, .int .i64 d, .int .i64 up, .int .i64 down, .int .i64 e] w fun x w' => x = .returned (.bool true) ∧ RowKit.Below w.heap.size w w' := by
  have c := fun w => of_any n d hn hd w
  rw [h] at c
  unfold Rt.val at c
  dsimp only at c
  clear h hn hd
  go_enter Tryd.func28, Tryd.ntmps28
  go_wp2_with fail
  refine (c _).mono ?_
  rintro x w1 ⟨rfl, hb1⟩
  go_wp2_with fail
  go_ret
  exact ⟨rfl, below_next hb1 (below_alloc1 _ _)⟩
structure Rnd (w : World) (r : Rt) (B : Nat) (x1 x2 x3 x4 : Int) (W : World) : Prop where
  c0 : W.cell? ⟨w.heap.size, 0, none⟩ = some (.int .i64 r.n)
  c1 : W.cell? ⟨w.heap.size, 1, none⟩ = some (.int .i64 r.d)
  d0 : W.cell? ⟨B, 0, none⟩ = some (.int .i64 x1)
  d1 : W.cell? ⟨B, 1, none⟩ = some (.int .i64 x2)
  d2 : W.cell? ⟨B, 2, none⟩ = some (.int .i64 x3)
  d3 : W.cell? ⟨B, 3, none⟩ = some (.int .i64 x4)
  below : RowKit.Below w.heap.size w W
theorem Rnd.next {w W W' : World} {r : Rt} {B : Nat} {x1 x2 x3 x4 : Int} (h : Rnd w r B x1 x2 x3 x4 W) (hb : RowKit.Below W.heap.size W W') : Rnd w r B x1 x2 x3 x4 W' := by
  obtain ⟨hc, _⟩ := bcell hb
  exact ⟨(hc _ _ (World.block_lt_of_cell? W _ h.c0)).trans h.c0, (hc _ _ (World.block_lt_of_cell? W _ h.c1)).trans h.c1, (hc _ _ (World.block_lt_of_cell? W _ h.d0)).trans h.d0, (hc _ _ (World.block_lt_of_cell? W _ h.d1)).trans h.d1, (hc _ _ (World.block_lt_of_cell? W _ h.d2)).trans h.d2, (hc _ _ (World.block_lt_of_cell? W _ h.d3)).trans h.d3, h.below.trans (hb.mono h.below.size)⟩
set_option maxHeartbeats 2000000 in
theorem rounds_any (r : Rt) (hr : Right r) (B : Nat) (x1 x2 x3 x4 : Int) (h1 : roundV r 1 = x1) (h2 : roundV r 2 = x2) (h3 : roundV r 3 = x3) (h4 : roundV r 4 = x4) (w : World) (hd0 : w.cell? ⟨B, 0, none⟩ = some (.int .i64 x1)) (hd1 : w.cell? ⟨B, 1, none⟩ = some (.int .i64 x2)) (hd2 : w.cell? ⟨B, 2, none⟩ = some (.int .i64 x3)) (hd3 : w.cell? ⟨B, 3, none⟩ = some (.int .i64 x4)) :
    Calls Tryd.prog 29 #[r.val, .slice (some ⟨B, 0, none⟩) 4 4] w fun x w' => x = .returned (.bool true) ∧ RowKit.Below w.heap.size w w' := by
  have ra := fun k (h : 1 ≤ k ∧ k ≤ 4) w => round_any r hr.ok k w
  have a1 := ra 1 (by omega)
  have a2 := ra 2 (by omega)
  have a3 := ra 3 (by omega)
  have a4 := ra 4 (by omega)
  rw [if_pos ⟨hr, by omega⟩, if_pos ⟨hr, by omega⟩] at a1 a2 a3 a4
  rw [h1] at a1; rw [h2] at a2; rw [h3] at a3; rw [h4] at a4
  have R0 : Rnd w r B x1 x2 x3 x4 (w.alloc (.cells #[.int .i64 r.n, .int .i64 r.d] 24)) := by
    obtain ⟨hc, _⟩ := bcell (below_alloc1 w (.cells #[.int .i64 r.n, .int .i64 r.d] 24))
    exact ⟨by simp [go_sem], by simp [go_sem], (hc _ _ (World.block_lt_of_cell? w _ hd0)).trans hd0, (hc _ _ (World.block_lt_of_cell? w _ hd1)).trans hd1, (hc _ _ (World.block_lt_of_cell? w _ hd2)).trans hd2, (hc _ _ (World.block_lt_of_cell? w _ hd3)).trans hd3, below_alloc1 _ _⟩
  unfold Rt.val at *
  clear ra h1 h2 h3 h4 hr hd0 hd1 hd2 hd3
  go_enter Tryd.func29, Tryd.ntmps29
  go_wp2_with fail
  generalize w.alloc _ = W at R0 ⊢
  obtain ⟨c0, c1, d0, d1, d2, d3, hbw⟩ := R0
  refine wp_loop_rounds 5 ?_
  rw [rounds_succ]
  go_wp2_with fail
  refine (a1 _).mono ?_
  rintro x w1 ⟨rfl, hb⟩
  have R := (⟨c0, c1, d0, d1, d2, d3, hbw⟩ : Rnd w r B x1 x2 x3 x4 W).next hb
  clear hb c0 c1 d0 d1 d2 d3 hbw
  obtain ⟨c0, c1, d0, d1, d2, d3, hbw⟩ := R
  go_wp2_with fail
  rw [rounds_succ]
  go_wp2_with fail
  refine (a2 _).mono ?_
  rintro x w2 ⟨rfl, hb⟩
  have R := (⟨c0, c1, d0, d1, d2, d3, hbw⟩ : Rnd w r B x1 x2 x3 x4 w1).next hb
  clear hb c0 c1 d0 d1 d2 d3 hbw
  obtain ⟨c0, c1, d0, d1, d2, d3, hbw⟩ := R
  go_wp2_with fail
  rw [rounds_succ]
  go_wp2_with fail
  refine (a3 _).mono ?_
  rintro x w3 ⟨rfl, hb⟩
  have R := (⟨c0, c1, d0, d1, d2, d3, hbw⟩ : Rnd w r B x1 x2 x3 x4 w2).next hb
  clear hb c0 c1 d0 d1 d2 d3 hbw
  obtain ⟨c0, c1, d0, d1, d2, d3, hbw⟩ := R
  go_wp2_with fail
  rw [rounds_succ]
  go_wp2_with fail
  refine (a4 _).mono ?_
  rintro x w4 ⟨rfl, hb⟩
  have R := (⟨c0, c1, d0, d1, d2, d3, hbw⟩ : Rnd w r B x1 x2 x3 x4 w3).next hb
  clear hb c0 c1 d0 d1 d2 d3 hbw
  obtain ⟨c0, c1, d0, d1, d2, d3, hbw⟩ := R
  go_wp2_with fail
  rw [rounds_succ]
  go_wp2_with fail
  go_ret
  exact ⟨rfl, hbw⟩
end Go.Proofs.YtmbjoenegcnoiaaDoor
