/- The chapter's examples: sanity returns true. -/
import Derived.Test.YtmbjoenegcnoiaaDoorQLaw
namespace Go.Proofs.YtmbjoenegcnoiaaDoor
open Go Go.RowKit Go.Sort Go.Lib

theorem i64_lit {n : Int} (h : -4294967296 ≤ n ∧ n ≤ 4294967296) : I64 n := by unfold I64; omega
theorem rt_lit {n d : Int} (h : (-4294967296 ≤ n ∧ n ≤ 4294967296) ∧ (-4294967296 ≤ d ∧ d ≤ 4294967296)) : Rt.Ok ⟨n, d⟩ := ⟨i64_lit h.1, i64_lit h.2⟩

theorem mv0 {W W' : World} {b o : Nat} {v : Value} (hb : RowKit.Below W.heap.size W W') (h : W.cell? ⟨b, o, none⟩ = some v) : W'.cell? ⟨b, o, none⟩ = some v :=
  ((bcell hb).1 _ _ (World.block_lt_of_cell? W _ h)).trans h
theorem mv1 {W W' : World} {x : Obj} {b o : Nat} {v : Value} (hb : RowKit.Below (W.alloc x).heap.size (W.alloc x) W') (h : W.cell? ⟨b, o, none⟩ = some v) : W'.cell? ⟨b, o, none⟩ = some v :=
  mv0 hb (mv0 (below_alloc1 W x) h)
theorem mv2 {W W' : World} {x y : Obj} {b o : Nat} {v : Value} (hb : RowKit.Below ((W.alloc x).alloc y).heap.size ((W.alloc x).alloc y) W') (h : W.cell? ⟨b, o, none⟩ = some v) : W'.cell? ⟨b, o, none⟩ = some v :=
  mv1 hb (mv0 (below_alloc1 W x) h)
theorem mz0 {W W' : World} {B b : Nat} (hb : RowKit.Below B W W') (h : b < W.heap.size) : b < W'.heap.size := Nat.lt_of_lt_of_le h hb.size
theorem mz1 {W W' : World} {x : Obj} {B b : Nat} (hb : RowKit.Below B (W.alloc x) W') (h : b < W.heap.size) : b < W'.heap.size := mz0 hb (mz0 (below_alloc1 W x) h)
theorem mz2 {W W' : World} {x y : Obj} {B b : Nat} (hb : RowKit.Below B ((W.alloc x).alloc y) W') (h : b < W.heap.size) : b < W'.heap.size := mz1 hb (mz0 (below_alloc1 W x) h)
theorem mb0 {w W W' : World} (h : RowKit.Below w.heap.size w W) (hb : RowKit.Below W.heap.size W W') : RowKit.Below w.heap.size w W' := below_next h hb
theorem mb1 {w W W' : World} {x : Obj} (h : RowKit.Below w.heap.size w W) (hb : RowKit.Below (W.alloc x).heap.size (W.alloc x) W') : RowKit.Below w.heap.size w W' := below_next (below_next h (below_alloc1 _ _)) hb
theorem mb2 {w W W' : World} {x y : Obj} (h : RowKit.Below w.heap.size w W) (hb : RowKit.Below ((W.alloc x).alloc y).heap.size ((W.alloc x).alloc y) W') : RowKit.Below w.heap.size w W' := below_next (below_next (below_next h (below_alloc1 _ _)) (below_alloc1 _ _)) hb
theorem ex_of1 (w : World) : Calls Tryd.prog 28 #[.int .i64 6, .int .i64 (-4), .int .i64 (-3), .int .i64 2, .int .i64 0] w fun x w' => x = .returned (.bool true) ∧ RowKit.Below w.heap.size w w' :=
  lawOf_any 6 (-4) (-3) 2 0 (i64_lit (by omega)) (i64_lit (by omega)) (by decide +kernel) w
theorem ex_of2 (w : World) : Calls Tryd.prog 28 #[.int .i64 0, .int .i64 7, .int .i64 0, .int .i64 1, .int .i64 0] w fun x w' => x = .returned (.bool true) ∧ RowKit.Below w.heap.size w w' :=
  lawOf_any 0 7 0 1 0 (i64_lit (by omega)) (i64_lit (by omega)) (by decide +kernel) w
theorem ex_of3 (w : World) : Calls Tryd.prog 28 #[.int .i64 1, .int .i64 0, .int .i64 0, .int .i64 0, .int .i64 1] w fun x w' => x = .returned (.bool true) ∧ RowKit.Below w.heap.size w w' :=
  lawOf_any 1 0 0 0 1 (i64_lit (by omega)) (i64_lit (by omega)) (by decide +kernel) w
theorem ex_of4 (w : World) : Calls Tryd.prog 28 #[.int .i64 2147483648, .int .i64 1, .int .i64 0, .int .i64 0, .int .i64 3] w fun x w' => x = .returned (.bool true) ∧ RowKit.Below w.heap.size w w' :=
  lawOf_any 2147483648 1 0 0 3 (i64_lit (by omega)) (i64_lit (by omega)) (by decide +kernel) w
theorem ex_of5 (w : World) : Calls Tryd.prog 28 #[.int .i64 2147483648, .int .i64 2, .int .i64 1073741824, .int .i64 1, .int .i64 0] w fun x w' => x = .returned (.bool true) ∧ RowKit.Below w.heap.size w w' :=
  lawOf_any 2147483648 2 1073741824 1 0 (i64_lit (by omega)) (i64_lit (by omega)) (by decide +kernel) w
theorem ex_add (w : World) : Calls Tryd.prog 20 #[.agg #[.int .i64 1, .int .i64 2], .agg #[.int .i64 1, .int .i64 3]] w fun x w' => x = .returned (.tuple #[.agg #[.int .i64 5, .int .i64 6], .int .i64 0]) ∧ RowKit.Below w.heap.size w w' := by
  have h := add_any ⟨1, 2⟩ ⟨1, 3⟩ (rt_lit (by omega)) (rt_lit (by omega)) w
  rw [show addV ⟨1, 2⟩ ⟨1, 3⟩ = (⟨5, 6⟩, 0) by decide +kernel] at h
  exact h
theorem ex_sub (w : World) : Calls Tryd.prog 22 #[.agg #[.int .i64 1, .int .i64 2], .agg #[.int .i64 1, .int .i64 3]] w fun x w' => x = .returned (.tuple #[.agg #[.int .i64 1, .int .i64 6], .int .i64 0]) ∧ RowKit.Below w.heap.size w w' := by
  have h := sub_any ⟨1, 2⟩ ⟨1, 3⟩ (rt_lit (by omega)) (rt_lit (by omega)) w
  rw [show subV ⟨1, 2⟩ ⟨1, 3⟩ = (⟨1, 6⟩, 0) by decide +kernel] at h
  exact h
theorem ex_mul (w : World) : Calls Tryd.prog 26 #[.agg #[.int .i64 1, .int .i64 2], .agg #[.int .i64 1, .int .i64 3]] w fun x w' => x = .returned (.tuple #[.agg #[.int .i64 1, .int .i64 6], .int .i64 0]) ∧ RowKit.Below w.heap.size w w' := by
  have h := mul_any ⟨1, 2⟩ ⟨1, 3⟩ (rt_lit (by omega)) (rt_lit (by omega)) w
  rw [show mulV ⟨1, 2⟩ ⟨1, 3⟩ = (⟨1, 6⟩, 0) by decide +kernel] at h
  exact h
theorem ex_far (w : World) : Calls Tryd.prog 20 #[.agg #[.int .i64 1, .int .i64 1073741823], .agg #[.int .i64 1, .int .i64 2]] w fun x w' => x = .returned (.tuple #[.agg #[.int .i64 0, .int .i64 0], .int .i64 3]) ∧ RowKit.Below w.heap.size w w' := by
  have h := add_any ⟨1, 1073741823⟩ ⟨1, 2⟩ (rt_lit (by omega)) (rt_lit (by omega)) w
  rw [show addV ⟨1, 1073741823⟩ ⟨1, 2⟩ = (⟨0, 0⟩, 3) by decide +kernel] at h
  exact h
theorem ex_rnd1 (W : World) (B : Nat) (h : W.heap.size = B) : Calls Tryd.prog 29 #[.agg #[.int .i64 (-5), .int .i64 2], .slice (some ⟨B, 0, none⟩) 4 4] (W.alloc (.cells #[.int .i64 (-3), .int .i64 (-2), .int .i64 (-2), .int .i64 (-2)] 3)) fun x w' => x = .returned (.bool true) ∧ RowKit.Below (W.alloc (.cells #[.int .i64 (-3), .int .i64 (-2), .int .i64 (-2), .int .i64 (-2)] 3)).heap.size (W.alloc (.cells #[.int .i64 (-3), .int .i64 (-2), .int .i64 (-2), .int .i64 (-2)] 3)) w' := by
  subst h
  exact rounds_any ⟨(-5), 2⟩ (by decide +kernel) W.heap.size ((-3)) ((-2)) ((-2)) ((-2)) (by decide +kernel) (by decide +kernel) (by decide +kernel) (by decide +kernel) _ (Lib.cell_of_heap (heap_alloc_new W _) 0) (Lib.cell_of_heap (heap_alloc_new W _) 1) (Lib.cell_of_heap (heap_alloc_new W _) 2) (Lib.cell_of_heap (heap_alloc_new W _) 3)
theorem ex_rnd2 (W : World) (B : Nat) (h : W.heap.size = B) : Calls Tryd.prog 29 #[.agg #[.int .i64 5, .int .i64 2], .slice (some ⟨B, 0, none⟩) 4 4] (W.alloc (.cells #[.int .i64 2, .int .i64 3, .int .i64 3, .int .i64 2] 3)) fun x w' => x = .returned (.bool true) ∧ RowKit.Below (W.alloc (.cells #[.int .i64 2, .int .i64 3, .int .i64 3, .int .i64 2] 3)).heap.size (W.alloc (.cells #[.int .i64 2, .int .i64 3, .int .i64 3, .int .i64 2] 3)) w' := by
  subst h
  exact rounds_any ⟨5, 2⟩ (by decide +kernel) W.heap.size (2) (3) (3) (2) (by decide +kernel) (by decide +kernel) (by decide +kernel) (by decide +kernel) _ (Lib.cell_of_heap (heap_alloc_new W _) 0) (Lib.cell_of_heap (heap_alloc_new W _) 1) (Lib.cell_of_heap (heap_alloc_new W _) 2) (Lib.cell_of_heap (heap_alloc_new W _) 3)
theorem ex_parse1 (w : World) (ht : Sane w) : Calls Tryd.prog 16 #[.string ⟨#[52, 47, 50]⟩] w fun x w' => x = .returned (.tuple #[.agg #[.int .i64 0, .int .i64 0], .bool false]) ∧ RowKit.Below w.heap.size w w' :=
  (parse_ok ⟨#[52, 47, 50]⟩ (by decide) [52] [50] true ⟨4, 2⟩ (rt_lit (by omega)) (by decide +kernel) (by decide) (by decide) (by decide +kernel) (by decide +kernel) w ht).mono fun x w' h => by
    unfold PPost at h
    rw [show (textL ⟨4, 2⟩ == (⟨#[52, 47, 50]⟩ : ByteArray).toList) = false by decide +kernel] at h
    exact h
theorem ex_parse2 (w : World) (ht : Sane w) : Calls Tryd.prog 16 #[.string ⟨#[45, 55]⟩] w fun x w' => x = .returned (.tuple #[.agg #[.int .i64 (-7), .int .i64 1], .bool true]) ∧ RowKit.Below w.heap.size w w' :=
  (parse_ok ⟨#[45, 55]⟩ (by decide) [45, 55] [] false ⟨-7, 1⟩ (rt_lit (by omega)) (by decide +kernel) (by decide) (by decide) (by decide +kernel) (by decide +kernel) w ht).mono fun x w' h => by
    unfold PPost at h
    rw [show (textL ⟨-7, 1⟩ == (⟨#[45, 55]⟩ : ByteArray).toList) = true by decide +kernel] at h
    exact h
theorem ex_text1 (w : World) (ht : Tabs w) : Calls Tryd.prog 15 #[.agg #[.int .i64 (-3), .int .i64 2]] w fun x w' => x = .returned (.string ⟨#[45, 51, 47, 50]⟩) ∧ RowKit.Below w.heap.size w w' := by
  have h := text_any ⟨-3, 2⟩ (rt_lit (by omega)) w ht
  rw [show textL ⟨-3, 2⟩ = [45, 51, 47, 50] by decide +kernel] at h
  exact h
theorem ex_text2 (w : World) (ht : Tabs w) : Calls Tryd.prog 15 #[.agg #[.int .i64 7, .int .i64 1]] w fun x w' => x = .returned (.string ⟨#[55]⟩) ∧ RowKit.Below w.heap.size w w' := by
  have h := text_any ⟨7, 1⟩ (rt_lit (by omega)) w ht
  rw [show textL ⟨7, 1⟩ = [55] by decide +kernel] at h
  exact h
set_option maxHeartbeats 4000000 in
set_option maxRecDepth 100000 in
theorem sanity_any (w : World) (ht : Sane w) :
    Calls Tryd.prog 9 #[] w fun x w' => x = .returned (.bool true) ∧ RowKit.Below w.heap.size w w' := by
  have hbw : RowKit.Below w.heap.size w w := Below.refl _ _
  go_enter Tryd.func9, Tryd.ntmps9
  go_wp2_with fail
  refine (ex_of1 _).mono ?_
  rintro x w1 ⟨rfl, hb⟩
  have fH0 : w1.cell? ⟨w.heap.size, 0, none⟩ = some (.int .i64 1) := ((bcell hb).1 _ _ (by simp <;> omega)).trans (by simp [go_sem])
  have fH1 : w1.cell? ⟨w.heap.size, 1, none⟩ = some (.int .i64 2) := ((bcell hb).1 _ _ (by simp <;> omega)).trans (by simp [go_sem])
  have zH : w.heap.size < w1.heap.size := by have := hb.size; simp at this; omega
  have fT0 : w1.cell? ⟨w.heap.size + 1, 0, none⟩ = some (.int .i64 1) := ((bcell hb).1 _ _ (by simp <;> omega)).trans (by simp [go_sem])
  have fT1 : w1.cell? ⟨w.heap.size + 1, 1, none⟩ = some (.int .i64 3) := ((bcell hb).1 _ _ (by simp <;> omega)).trans (by simp [go_sem])
  have zT : w.heap.size + 1 < w1.heap.size := by have := hb.size; simp at this; omega
  replace hbw := mb2 hbw hb
  clear hb
  go_wp2_with fail
  refine (ex_of2 _).mono ?_
  rintro x w2 ⟨rfl, hb⟩
  replace fH0 := mv0 hb fH0
  replace fH1 := mv0 hb fH1
  replace fT0 := mv0 hb fT0
  replace fT1 := mv0 hb fT1
  replace zH := mz0 hb zH
  replace zT := mz0 hb zT
  replace hbw := mb0 hbw hb
  clear hb
  go_wp2_with fail
  refine (ex_of3 _).mono ?_
  rintro x w3 ⟨rfl, hb⟩
  replace fH0 := mv0 hb fH0
  replace fH1 := mv0 hb fH1
  replace fT0 := mv0 hb fT0
  replace fT1 := mv0 hb fT1
  replace zH := mz0 hb zH
  replace zT := mz0 hb zT
  replace hbw := mb0 hbw hb
  clear hb
  go_wp2_with fail
  refine (ex_of4 _).mono ?_
  rintro x w4 ⟨rfl, hb⟩
  replace fH0 := mv0 hb fH0
  replace fH1 := mv0 hb fH1
  replace fT0 := mv0 hb fT0
  replace fT1 := mv0 hb fT1
  replace zH := mz0 hb zH
  replace zT := mz0 hb zT
  replace hbw := mb0 hbw hb
  clear hb
  go_wp2_with fail
  refine (ex_of5 _).mono ?_
  rintro x w5 ⟨rfl, hb⟩
  replace fH0 := mv0 hb fH0
  replace fH1 := mv0 hb fH1
  replace fT0 := mv0 hb fT0
  replace fT1 := mv0 hb fT1
  replace zH := mz0 hb zH
  replace zT := mz0 hb zT
  replace hbw := mb0 hbw hb
  clear hb
  go_wp2_with fail
  refine (ex_add _).mono ?_
  rintro x w6 ⟨rfl, hb⟩
  replace fH0 := mv0 hb fH0
  replace fH1 := mv0 hb fH1
  replace fT0 := mv0 hb fT0
  replace fT1 := mv0 hb fT1
  replace zH := mz0 hb zH
  replace zT := mz0 hb zT
  replace hbw := mb0 hbw hb
  clear hb
  go_wp2_with fail
  refine (ex_sub _).mono ?_
  rintro x w7 ⟨rfl, hb⟩
  replace fH0 := mv1 hb fH0
  replace fH1 := mv1 hb fH1
  replace fT0 := mv1 hb fT0
  replace fT1 := mv1 hb fT1
  replace zH := mz1 hb zH
  replace zT := mz1 hb zT
  have fA0 : w7.cell? ⟨w6.heap.size, 0, none⟩ = some (.int .i64 5) := ((bcell hb).1 _ _ (by simp <;> omega)).trans (by simp [go_sem])
  have fA1 : w7.cell? ⟨w6.heap.size, 1, none⟩ = some (.int .i64 6) := ((bcell hb).1 _ _ (by simp <;> omega)).trans (by simp [go_sem])
  have zA : w6.heap.size < w7.heap.size := by have := hb.size; simp at this; omega
  replace hbw := mb1 hbw hb
  clear hb
  go_wp2_with fail
  refine (ex_mul _).mono ?_
  rintro x w8 ⟨rfl, hb⟩
  replace fH0 := mv1 hb fH0
  replace fH1 := mv1 hb fH1
  replace fT0 := mv1 hb fT0
  replace fT1 := mv1 hb fT1
  replace fA0 := mv1 hb fA0
  replace fA1 := mv1 hb fA1
  replace zH := mz1 hb zH
  replace zT := mz1 hb zT
  replace zA := mz1 hb zA
  have fB0 : w8.cell? ⟨w7.heap.size, 0, none⟩ = some (.int .i64 1) := ((bcell hb).1 _ _ (by simp <;> omega)).trans (by simp [go_sem])
  have fB1 : w8.cell? ⟨w7.heap.size, 1, none⟩ = some (.int .i64 6) := ((bcell hb).1 _ _ (by simp <;> omega)).trans (by simp [go_sem])
  have zB : w7.heap.size < w8.heap.size := by have := hb.size; simp at this; omega
  replace hbw := mb1 hbw hb
  clear hb
  go_wp2_with fail
  refine (ex_far _).mono ?_
  rintro x w9 ⟨rfl, hb⟩
  replace fH0 := mv1 hb fH0
  replace fH1 := mv1 hb fH1
  replace fT0 := mv1 hb fT0
  replace fT1 := mv1 hb fT1
  replace fA0 := mv1 hb fA0
  replace fA1 := mv1 hb fA1
  replace fB0 := mv1 hb fB0
  replace fB1 := mv1 hb fB1
  replace zH := mz1 hb zH
  replace zT := mz1 hb zT
  replace zA := mz1 hb zA
  replace zB := mz1 hb zB
  have fC0 : w9.cell? ⟨w8.heap.size, 0, none⟩ = some (.int .i64 1) := ((bcell hb).1 _ _ (by simp <;> omega)).trans (by simp [go_sem])
  have fC1 : w9.cell? ⟨w8.heap.size, 1, none⟩ = some (.int .i64 6) := ((bcell hb).1 _ _ (by simp <;> omega)).trans (by simp [go_sem])
  have zC : w8.heap.size < w9.heap.size := by have := hb.size; simp at this; omega
  replace hbw := mb1 hbw hb
  clear hb
  go_wp2_with fail
  refine (ex_rnd1 _ _ (by simp)).mono ?_
  rintro x w10 ⟨rfl, hb⟩
  replace fH0 := mv2 hb fH0
  replace fH1 := mv2 hb fH1
  replace fT0 := mv2 hb fT0
  replace fT1 := mv2 hb fT1
  replace fA0 := mv2 hb fA0
  replace fA1 := mv2 hb fA1
  replace fB0 := mv2 hb fB0
  replace fB1 := mv2 hb fB1
  replace fC0 := mv2 hb fC0
  replace fC1 := mv2 hb fC1
  replace zH := mz2 hb zH
  replace zT := mz2 hb zT
  replace zA := mz2 hb zA
  replace zB := mz2 hb zB
  replace zC := mz2 hb zC
  replace hbw := mb2 hbw hb
  clear hb
  go_wp2_with fail
  refine (ex_rnd2 _ _ (by simp)).mono ?_
  rintro x w11 ⟨rfl, hb⟩
  replace fH0 := mv1 hb fH0
  replace fH1 := mv1 hb fH1
  replace fT0 := mv1 hb fT0
  replace fT1 := mv1 hb fT1
  replace fA0 := mv1 hb fA0
  replace fA1 := mv1 hb fA1
  replace fB0 := mv1 hb fB0
  replace fB1 := mv1 hb fB1
  replace fC0 := mv1 hb fC0
  replace fC1 := mv1 hb fC1
  replace zH := mz1 hb zH
  replace zT := mz1 hb zT
  replace zA := mz1 hb zA
  replace zB := mz1 hb zB
  replace zC := mz1 hb zC
  replace hbw := mb1 hbw hb
  clear hb
  go_wp2_with fail
  refine (ex_parse1 _ (ht.below hbw)).mono ?_
  rintro x w12 ⟨rfl, hb⟩
  replace fH0 := mv0 hb fH0
  replace fH1 := mv0 hb fH1
  replace fT0 := mv0 hb fT0
  replace fT1 := mv0 hb fT1
  replace fA0 := mv0 hb fA0
  replace fA1 := mv0 hb fA1
  replace fB0 := mv0 hb fB0
  replace fB1 := mv0 hb fB1
  replace fC0 := mv0 hb fC0
  replace fC1 := mv0 hb fC1
  replace zH := mz0 hb zH
  replace zT := mz0 hb zT
  replace zA := mz0 hb zA
  replace zB := mz0 hb zB
  replace zC := mz0 hb zC
  replace hbw := mb0 hbw hb
  clear hb
  go_wp2_with fail
  refine (ex_parse2 _ (ht.below (below_next hbw (below_alloc1 _ _)))).mono ?_
  rintro x w13 ⟨rfl, hb⟩
  replace fH0 := mv1 hb fH0
  replace fH1 := mv1 hb fH1
  replace fT0 := mv1 hb fT0
  replace fT1 := mv1 hb fT1
  replace fA0 := mv1 hb fA0
  replace fA1 := mv1 hb fA1
  replace fB0 := mv1 hb fB0
  replace fB1 := mv1 hb fB1
  replace fC0 := mv1 hb fC0
  replace fC1 := mv1 hb fC1
  replace zH := mz1 hb zH
  replace zT := mz1 hb zT
  replace zA := mz1 hb zA
  replace zB := mz1 hb zB
  replace zC := mz1 hb zC
  replace hbw := mb1 hbw hb
  clear hb
  go_wp2_with fail
  refine (ex_text1 _ (ht.below (below_next hbw (below_alloc1 _ _))).1).mono ?_
  rintro x w14 ⟨rfl, hb⟩
  replace fH0 := mv1 hb fH0
  replace fH1 := mv1 hb fH1
  replace fT0 := mv1 hb fT0
  replace fT1 := mv1 hb fT1
  replace fA0 := mv1 hb fA0
  replace fA1 := mv1 hb fA1
  replace fB0 := mv1 hb fB0
  replace fB1 := mv1 hb fB1
  replace fC0 := mv1 hb fC0
  replace fC1 := mv1 hb fC1
  replace zH := mz1 hb zH
  replace zT := mz1 hb zT
  replace zA := mz1 hb zA
  replace zB := mz1 hb zB
  replace zC := mz1 hb zC
  have fS0 : w14.cell? ⟨w13.heap.size, 0, none⟩ = some (.int .i64 (-7)) := ((bcell hb).1 _ _ (by simp <;> omega)).trans (by simp [go_sem])
  have fS1 : w14.cell? ⟨w13.heap.size, 1, none⟩ = some (.int .i64 1) := ((bcell hb).1 _ _ (by simp <;> omega)).trans (by simp [go_sem])
  have zS : w13.heap.size < w14.heap.size := by have := hb.size; simp at this; omega
  replace hbw := mb1 hbw hb
  clear hb
  go_wp2_with fail
  refine (ex_text2 _ (ht.below hbw).1).mono ?_
  rintro x w15 ⟨rfl, hb⟩
  replace fH0 := mv0 hb fH0
  replace fH1 := mv0 hb fH1
  replace fT0 := mv0 hb fT0
  replace fT1 := mv0 hb fT1
  replace fA0 := mv0 hb fA0
  replace fA1 := mv0 hb fA1
  replace fB0 := mv0 hb fB0
  replace fB1 := mv0 hb fB1
  replace fC0 := mv0 hb fC0
  replace fC1 := mv0 hb fC1
  replace fS0 := mv0 hb fS0
  replace fS1 := mv0 hb fS1
  replace zH := mz0 hb zH
  replace zT := mz0 hb zT
  replace zA := mz0 hb zA
  replace zB := mz0 hb zB
  replace zC := mz0 hb zC
  replace zS := mz0 hb zS
  replace hbw := mb0 hbw hb
  clear hb
  go_wp2_with fail
  go_ret
  exact ⟨rfl, hbw⟩
end Go.Proofs.YtmbjoenegcnoiaaDoor
