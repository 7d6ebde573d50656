/- pairs, of the laws' argument: walked once. -/
import Derived.Test.YtmbjoenegcnoiaaDoorQSmP
import Derived.Test.YtmbjoenegcnoiaaDoorQRds
namespace Go.Proofs.YtmbjoenegcnoiaaDoor
open Go Go.RowKit Go.Sort Go.Lib

theorem row12_new (w : World) (l : List Rt) (cs : Array Value) (hl : l.length = 12) (_hc : cs.size = 24) (h : ∀ k, k < 12 → cs[k * 2]? = some (.int .i64 (l.getD k ⟨0, 0⟩).n) ∧ cs[k * 2 + 1]? = some (.int .i64 (l.getD k ⟨0, 0⟩).d)) (t : TypeId) : RowAt (w.alloc (.cells cs t)) w.heap.size l := fun k hk => by
  rw [Lib.cell_of_heap (heap_alloc_new w _), Lib.cell_of_heap (heap_alloc_new w _)]
  exact h k (by omega)
/-- The pairs, in a row of their own. -/
def PairsPost (L : List Rt) (w : World) (e : Ending) (w' : World) : Prop := ∃ g : Nat, e = .returned (.slice (some ⟨g, 0, none⟩) 6 6) ∧ RowAt w' g L ∧ RowKit.Below w.heap.size w w'
set_option maxHeartbeats 4000000 in
set_option maxRecDepth 100000 in
theorem pairs_any (x0 x1 x2 x3 x4 x5 x6 x7 : Int) (A B : Rt) (w : World) (c0 : ∀ w, Calls Tryd.prog 11 #[.int .i64 x0, .int .i64 x1] w fun e w' => e = .returned (.agg #[.int .i64 A.n, .int .i64 A.d]) ∧ RowKit.Below w.heap.size w w') (c1 : ∀ w, Calls Tryd.prog 11 #[.int .i64 x2, .int .i64 x3] w fun e w' => e = .returned (.agg #[.int .i64 B.n, .int .i64 B.d]) ∧ RowKit.Below w.heap.size w w') :
    Calls Tryd.prog 14 #[.agg #[.int .i64 x0, .int .i64 x1, .int .i64 x2, .int .i64 x3, .int .i64 x4, .int .i64 x5, .int .i64 x6, .int .i64 x7]] w (PairsPost [A, B, B, A, A, A, ⟨x4, x5⟩, B, A, ⟨x6, x7⟩, ⟨x4, x5⟩, ⟨x6, x7⟩] w) := by
  have hbw := below_alloc1 w (.cells #[.int .i64 x0, .int .i64 x1, .int .i64 x2, .int .i64 x3, .int .i64 x4, .int .i64 x5, .int .i64 x6, .int .i64 x7] 26)
  have h0 : (w.alloc (.cells #[.int .i64 x0, .int .i64 x1, .int .i64 x2, .int .i64 x3, .int .i64 x4, .int .i64 x5, .int .i64 x6, .int .i64 x7] 26)).cell? ⟨w.heap.size, 0, none⟩ = some (.int .i64 x0) := Lib.cell_of_heap (heap_alloc_new w _) 0
  have h1 : (w.alloc (.cells #[.int .i64 x0, .int .i64 x1, .int .i64 x2, .int .i64 x3, .int .i64 x4, .int .i64 x5, .int .i64 x6, .int .i64 x7] 26)).cell? ⟨w.heap.size, 1, none⟩ = some (.int .i64 x1) := Lib.cell_of_heap (heap_alloc_new w _) 1
  have h2 : (w.alloc (.cells #[.int .i64 x0, .int .i64 x1, .int .i64 x2, .int .i64 x3, .int .i64 x4, .int .i64 x5, .int .i64 x6, .int .i64 x7] 26)).cell? ⟨w.heap.size, 2, none⟩ = some (.int .i64 x2) := Lib.cell_of_heap (heap_alloc_new w _) 2
  have h3 : (w.alloc (.cells #[.int .i64 x0, .int .i64 x1, .int .i64 x2, .int .i64 x3, .int .i64 x4, .int .i64 x5, .int .i64 x6, .int .i64 x7] 26)).cell? ⟨w.heap.size, 3, none⟩ = some (.int .i64 x3) := Lib.cell_of_heap (heap_alloc_new w _) 3
  have h4 : (w.alloc (.cells #[.int .i64 x0, .int .i64 x1, .int .i64 x2, .int .i64 x3, .int .i64 x4, .int .i64 x5, .int .i64 x6, .int .i64 x7] 26)).cell? ⟨w.heap.size, 4, none⟩ = some (.int .i64 x4) := Lib.cell_of_heap (heap_alloc_new w _) 4
  have h5 : (w.alloc (.cells #[.int .i64 x0, .int .i64 x1, .int .i64 x2, .int .i64 x3, .int .i64 x4, .int .i64 x5, .int .i64 x6, .int .i64 x7] 26)).cell? ⟨w.heap.size, 5, none⟩ = some (.int .i64 x5) := Lib.cell_of_heap (heap_alloc_new w _) 5
  have h6 : (w.alloc (.cells #[.int .i64 x0, .int .i64 x1, .int .i64 x2, .int .i64 x3, .int .i64 x4, .int .i64 x5, .int .i64 x6, .int .i64 x7] 26)).cell? ⟨w.heap.size, 6, none⟩ = some (.int .i64 x6) := Lib.cell_of_heap (heap_alloc_new w _) 6
  have h7 : (w.alloc (.cells #[.int .i64 x0, .int .i64 x1, .int .i64 x2, .int .i64 x3, .int .i64 x4, .int .i64 x5, .int .i64 x6, .int .i64 x7] 26)).cell? ⟨w.heap.size, 7, none⟩ = some (.int .i64 x7) := Lib.cell_of_heap (heap_alloc_new w _) 7
  go_enter Tryd.func14, Tryd.ntmps14
  go_wp2_with fail
  refine pairs_r1 w.heap.size x0 x1 x2 x3 x4 x5 x6 x7 A B _ _ h0 h1 h2 h3 h4 h5 h6 h7 c0 c1 ?_
  intro b0 b1 V n01 hb z0 z1 t0 t1
  have hlt := World.block_lt_of_cell? _ _ h0
  replace h0 := mv0 hb h0
  replace h1 := mv0 hb h1
  replace h2 := mv0 hb h2
  replace h3 := mv0 hb h3
  replace h4 := mv0 hb h4
  replace h5 := mv0 hb h5
  replace h6 := mv0 hb h6
  replace h7 := mv0 hb h7
  replace hbw := below_next hbw hb
  have hlt2 := World.block_lt_of_cell? _ _ h0
  obtain ⟨fA0, fA1, -, -⟩ := id t0
  obtain ⟨fB0, fB1, -, -⟩ := id t1
  have zA := t0.lt
  have zB := t1.lt
  clear t0 t1 hb hlt c0 c1 z0 z1 n01
  go_wp2_with fail
  go_ret
  exact ⟨V.heap.size, rfl, row12_new V _ #[.int .i64 A.n, .int .i64 A.d, .int .i64 B.n, .int .i64 B.d, .int .i64 B.n, .int .i64 B.d, .int .i64 A.n, .int .i64 A.d, .int .i64 A.n, .int .i64 A.d, .int .i64 A.n, .int .i64 A.d, .int .i64 x4, .int .i64 x5, .int .i64 B.n, .int .i64 B.d, .int .i64 A.n, .int .i64 A.d, .int .i64 x6, .int .i64 x7, .int .i64 x4, .int .i64 x5, .int .i64 x6, .int .i64 x7] rfl rfl (fun k hk => by match k, hk with | 0, _ => exact ⟨rfl, rfl⟩ | 1, _ => exact ⟨rfl, rfl⟩ | 2, _ => exact ⟨rfl, rfl⟩ | 3, _ => exact ⟨rfl, rfl⟩ | 4, _ => exact ⟨rfl, rfl⟩ | 5, _ => exact ⟨rfl, rfl⟩ | 6, _ => exact ⟨rfl, rfl⟩ | 7, _ => exact ⟨rfl, rfl⟩ | 8, _ => exact ⟨rfl, rfl⟩ | 9, _ => exact ⟨rfl, rfl⟩ | 10, _ => exact ⟨rfl, rfl⟩ | 11, _ => exact ⟨rfl, rfl⟩) _, below_next hbw (below_alloc1 _ _)⟩
end Go.Proofs.YtmbjoenegcnoiaaDoor
