/- The law RatioRounds, walked. -/
import Derived.Test.YtmbjoenegcnoiaaDoorQSanity
namespace Go.Proofs.YtmbjoenegcnoiaaDoor
open Go Go.RowKit Go.Sort Go.Lib

/-- The argument of several laws: two ratios by numbers, and two as they are, in eight cells. -/
def FourAt (w : World) (b : Nat) (x : List Int) : Prop := x.length = 8 ∧ ∀ k, k < 8 → w.cell? ⟨b, k, none⟩ = some (.int .i64 (x.getD k 0))
theorem FourAt.below {w w' : World} {b : Nat} {x : List Int} (h : FourAt w b x) (hb : RowKit.Below w.heap.size w w') : FourAt w' b x :=
  ⟨h.1, fun k hk => mv0 hb (h.2 k hk)⟩
theorem four_new (w : World) (x0 x1 x2 x3 x4 x5 x6 x7 : Int) (t : TypeId) : FourAt (w.alloc (.cells #[.int .i64 x0, .int .i64 x1, .int .i64 x2, .int .i64 x3, .int .i64 x4, .int .i64 x5, .int .i64 x6, .int .i64 x7] t)) w.heap.size [x0, x1, x2, x3, x4, x5, x6, x7] :=
  ⟨rfl, fun k hk => by rw [Lib.cell_of_heap (heap_alloc_new w _)]; match k, hk with | 0, _ => rfl | 1, _ => rfl | 2, _ => rfl | 3, _ => rfl | 4, _ => rfl | 5, _ => rfl | 6, _ => rfl | 7, _ => rfl⟩
/-- A row of ratios in a block. -/
def RowAt (w : World) (b : Nat) (l : List Rt) : Prop := ∀ k, k < l.length → w.cell? ⟨b, k * 2, none⟩ = some (.int .i64 (l.getD k ⟨0, 0⟩).n) ∧ w.cell? ⟨b, k * 2 + 1, none⟩ = some (.int .i64 (l.getD k ⟨0, 0⟩).d)
theorem RowAt.below {w w' : World} {b : Nat} {l : List Rt} (h : RowAt w b l) (hb : RowKit.Below w.heap.size w w') : RowAt w' b l := fun k hk => ⟨mv0 hb (h k hk).1, mv0 hb (h k hk).2⟩
/-- A row of numbers in a block. -/
def NumsAt (w : World) (b : Nat) (l : List Int) : Prop := ∀ k, k < l.length → w.cell? ⟨b, k, none⟩ = some (.int .i64 (l.getD k 0))
theorem NumsAt.below {w w' : World} {b : Nat} {l : List Int} (h : NumsAt w b l) (hb : RowKit.Below w.heap.size w w') : NumsAt w' b l := fun k hk => mv0 hb (h k hk)
theorem row5_new (w : World) (a b c d e : Rt) (t : TypeId) : RowAt (w.alloc (.cells #[.int .i64 a.n, .int .i64 a.d, .int .i64 b.n, .int .i64 b.d, .int .i64 c.n, .int .i64 c.d, .int .i64 d.n, .int .i64 d.d, .int .i64 e.n, .int .i64 e.d] t)) w.heap.size [a, b, c, d, e] := fun k hk => by
  rw [Lib.cell_of_heap (heap_alloc_new w _), Lib.cell_of_heap (heap_alloc_new w _)]
  match k, hk with | 0, _ => exact ⟨rfl, rfl⟩ | 1, _ => exact ⟨rfl, rfl⟩ | 2, _ => exact ⟨rfl, rfl⟩ | 3, _ => exact ⟨rfl, rfl⟩ | 4, _ => exact ⟨rfl, rfl⟩
theorem nums5_new (w : World) (a b c d e : Int) (t : TypeId) : NumsAt (w.alloc (.cells #[.int .i64 a, .int .i64 b, .int .i64 c, .int .i64 d, .int .i64 e] t)) w.heap.size [a, b, c, d, e] := fun k hk => by
  rw [Lib.cell_of_heap (heap_alloc_new w _)]
  match k, hk with | 0, _ => rfl | 1, _ => rfl | 2, _ => rfl | 3, _ => rfl | 4, _ => rfl
theorem rds_next {W w w' : World} {b g : Nat} {y0 y1 y2 y3 y4 y5 y6 y7 z0 z1 : Value} (h : RowKit.Below W.heap.size W w ∧ w.cell? ⟨b, 0, none⟩ = some y0 ∧ w.cell? ⟨b, 1, none⟩ = some y1 ∧ w.cell? ⟨b, 2, none⟩ = some y2 ∧ w.cell? ⟨b, 3, none⟩ = some y3 ∧ w.cell? ⟨b, 4, none⟩ = some y4 ∧ w.cell? ⟨b, 5, none⟩ = some y5 ∧ w.cell? ⟨b, 6, none⟩ = some y6 ∧ w.cell? ⟨b, 7, none⟩ = some y7 ∧ w.cell? ⟨g, 0, none⟩ = some z0 ∧ w.cell? ⟨g, 1, none⟩ = some z1) (hb : RowKit.Below w.heap.size w w') :
    RowKit.Below W.heap.size W w' ∧ w'.cell? ⟨b, 0, none⟩ = some y0 ∧ w'.cell? ⟨b, 1, none⟩ = some y1 ∧ w'.cell? ⟨b, 2, none⟩ = some y2 ∧ w'.cell? ⟨b, 3, none⟩ = some y3 ∧ w'.cell? ⟨b, 4, none⟩ = some y4 ∧ w'.cell? ⟨b, 5, none⟩ = some y5 ∧ w'.cell? ⟨b, 6, none⟩ = some y6 ∧ w'.cell? ⟨b, 7, none⟩ = some y7 ∧ w'.cell? ⟨g, 0, none⟩ = some z0 ∧ w'.cell? ⟨g, 1, none⟩ = some z1 :=
  ⟨h.1.trans (hb.mono h.1.size), mv0 hb h.2.1, mv0 hb h.2.2.1, mv0 hb h.2.2.2.1, mv0 hb h.2.2.2.2.1, mv0 hb h.2.2.2.2.2.1, mv0 hb h.2.2.2.2.2.2.1, mv0 hb h.2.2.2.2.2.2.2.1, mv0 hb h.2.2.2.2.2.2.2.2.1, mv0 hb h.2.2.2.2.2.2.2.2.2.1, mv0 hb h.2.2.2.2.2.2.2.2.2.2⟩
set_option maxHeartbeats 4000000 in
set_option maxRecDepth 100000 in
theorem rounds_law (x0 x1 x2 x3 x4 x5 x6 x7 how : Int) (h0 : I64 x0) (h1 : I64 x1) (h2 : I64 x2) (h3 : I64 x3) (h4 : I64 x4) (h5 : I64 x5) (h6 : I64 x6) (h7 : I64 x7) (_hh : I64 how) (w : World) (ht : Sane w) :
    Calls Tryd.prog 3 #[.agg #[.int .i64 x0, .int .i64 x1, .int .i64 x2, .int .i64 x3, .int .i64 x4, .int .i64 x5, .int .i64 x6, .int .i64 x7], .int .i64 how] w fun x w' => x = .returned (.bool true) ∧ RowKit.Below w.heap.size w w' := by
  have hF := four_new w x0 x1 x2 x3 x4 x5 x6 x7 26
  have hbw := below_alloc1 w (.cells #[.int .i64 x0, .int .i64 x1, .int .i64 x2, .int .i64 x3, .int .i64 x4, .int .i64 x5, .int .i64 x6, .int .i64 x7] 26)
  go_enter Tryd.func3, Tryd.ntmps3
  go_wp2_with fail
  refine (sanity_any _ (ht.below hbw)).mono ?_
  rintro x w1 ⟨rfl, hb⟩
  replace hF := hF.below hb
  replace hbw := below_next hbw hb
  clear hb
  have n1 := Int.lt_tmod_of_pos x0 (show (0 : Int) < 536870912 by omega)
  have n2 := Int.tmod_lt_of_pos x0 (show (0 : Int) < 536870912 by omega)
  have c0 := fun w => refOf_any (x0.tmod 536870912) 2 (by unfold I64; omega) (i64_lit (by omega)) w
  have cOk := Right.ok (ofV_right (low_ok (n := x0.tmod 536870912) (d := 2) (by omega) (by omega) (by omega)))
  have ce := low_ok (n := x0.tmod 536870912) (d := 2) (by omega) (by omega) (by omega)
  generalize ofV (x0.tmod 536870912) 2 = X at c0 cOk ce
  obtain ⟨H, e⟩ := X
  dsimp only at c0 cOk ce
  subst ce
  have f0 := hF.2 0 (by omega)
  simp only [List.getD_cons_zero] at f0
  go_wp2_with fail
  refine (c0 _).mono ?_
  rintro x w2 ⟨rfl, hb⟩
  replace hF := hF.below hb
  replace hbw := below_next hbw hb
  clear hb f0 c0
  unfold Rt.val
  go_wp2_with fail
  have c1 := fun w => made_any x0 x1 h0 h1 w
  have c2 := fun w => made_any x2 x3 h2 h3 w
  have ok1 := (made_right x0 x1).ok
  have ok2 := (made_right x2 x3).ok
  generalize madeV x0 x1 = A at c1 ok1
  generalize madeV x2 x3 = B at c2 ok2
  unfold Rt.val at c1 c2
  have hF' := hF.below (below_alloc1 w2 (.cells #[.int .i64 H.n, .int .i64 H.d] 24))
  have hH := RatAt.new w2 H 24
  have hbW := below_next hbw (below_alloc1 w2 (.cells #[.int .i64 H.n, .int .i64 H.d] 24))
  generalize w2.alloc (.cells #[.int .i64 H.n, .int .i64 H.d] 24) = W at hF' hH hbW ⊢
  have hS0 := rds_next ⟨Below.refl W.heap.size W, hF'.2 0 (by omega), hF'.2 1 (by omega), hF'.2 2 (by omega), hF'.2 3 (by omega), hF'.2 4 (by omega), hF'.2 5 (by omega), hF'.2 6 (by omega), hF'.2 7 (by omega), hH.1, hH.2⟩ (Below.refl _ _).drew
  simp only [List.getD_cons_zero, List.getD_cons_succ] at hS0
  clear hF hF' hH hbw h0 h1 h2 h3
  refine of_onlyN ?_ (fun _ _ h => h)
  refine wp_region_flow (S := fun w' => RowKit.Below W.heap.size W w' ∧ w'.cell? ⟨w.heap.size, 0, none⟩ = some (.int .i64 x0) ∧ w'.cell? ⟨w.heap.size, 1, none⟩ = some (.int .i64 x1) ∧ w'.cell? ⟨w.heap.size, 2, none⟩ = some (.int .i64 x2) ∧ w'.cell? ⟨w.heap.size, 3, none⟩ = some (.int .i64 x3) ∧ w'.cell? ⟨w.heap.size, 4, none⟩ = some (.int .i64 x4) ∧ w'.cell? ⟨w.heap.size, 5, none⟩ = some (.int .i64 x5) ∧ w'.cell? ⟨w.heap.size, 6, none⟩ = some (.int .i64 x6) ∧ w'.cell? ⟨w.heap.size, 7, none⟩ = some (.int .i64 x7) ∧ w'.cell? ⟨w2.heap.size, 0, none⟩ = some (.int .i64 H.n) ∧ w'.cell? ⟨w2.heap.size, 1, none⟩ = some (.int .i64 H.d)) [(0, true), (1, true), (2, true), (3, true), (4, true), (5, true), (7, true), (8, true), (9, true), (10, true), (11, true), (12, true), (14, true), (15, true), (16, true), (17, true), (18, true), (21, true), (6, false), (13, false), (19, false), (20, true)] (by kernel_rfl) (by kernel_rfl) (by kernel_rfl) (by decide) (hS0) ?_
  have hS := hS0
  refine flow_take ⟨some 25, _, _, _, _, _⟩ ?_ rfl (by rfl) ?_ ?_
  rotate_left 1
  · intro w hSw; (try dsimp only at hSw); go_simp; (try with_reducible rfl)
  simp only [Act.put, List.setIfInBounds_toArray, List.set_cons_zero, List.set_cons_succ]
  refine flow_take ⟨some 26, _, _, _, _, _⟩ ?_ rfl (by rfl) ?_ ?_
  rotate_left 1
  · intro w hSw; (try dsimp only at hSw); go_simp; (try with_reducible rfl)
  simp only [Act.put, List.setIfInBounds_toArray, List.set_cons_zero, List.set_cons_succ]
  refine flow_take ⟨some 27, _, _, _, _, _⟩ ?_ rfl (by rfl) ?_ ?_
  rotate_left 1
  · intro w hSw; (try dsimp only at hSw); go_simp; (try with_reducible rfl)
  simp only [Act.put, List.setIfInBounds_toArray, List.set_cons_zero, List.set_cons_succ]
  refine flow_take ⟨some 28, _, _, _, _, _⟩ ?_ rfl (by rfl) ?_ ?_
  rotate_left 1
  · intro w hSw; (try dsimp only at hSw); go_simp; (try with_reducible rfl)
  simp only [Act.put, List.setIfInBounds_toArray, List.set_cons_zero, List.set_cons_succ]
  refine flow_take ⟨some 29, _, _, _, _, _⟩ ?_ rfl (by rfl) ?_ ?_
  rotate_left 1
  · intro w hSw; (try dsimp only at hSw); go_simp; (try with_reducible rfl)
  simp only [Act.put, List.setIfInBounds_toArray, List.set_cons_zero, List.set_cons_succ]
  refine flow_take ⟨some 30, _, _, _, _, _⟩ ?_ rfl (by rfl) ?_ ?_
  rotate_left 1
  · intro w hSw; (try dsimp only at hSw); go_simp; (try with_reducible rfl)
  simp only [Act.put, List.setIfInBounds_toArray, List.set_cons_zero, List.set_cons_succ]
  refine flow_take ⟨some 32, _, _, _, _, _⟩ ?_ rfl (by rfl) ?_ ?_
  rotate_left 1
  · intro w hSw; (try dsimp only at hSw); go_simp; (try with_reducible rfl)
  simp only [Act.put, List.setIfInBounds_toArray, List.set_cons_zero, List.set_cons_succ]
  refine flow_take ⟨some 33, _, _, _, _, _⟩ ?_ rfl (by rfl) ?_ ?_
  rotate_left 1
  · intro w hSw; (try dsimp only at hSw); go_simp; (try with_reducible rfl)
  simp only [Act.put, List.setIfInBounds_toArray, List.set_cons_zero, List.set_cons_succ]
  refine flow_take ⟨some 34, _, _, _, _, _⟩ ?_ rfl (by rfl) ?_ ?_
  rotate_left 1
  · intro w hSw; (try dsimp only at hSw); go_simp; (try with_reducible rfl)
  simp only [Act.put, List.setIfInBounds_toArray, List.set_cons_zero, List.set_cons_succ]
  refine flow_take ⟨some 35, _, _, _, _, _⟩ ?_ rfl (by rfl) ?_ ?_
  rotate_left 1
  · intro w hSw; (try dsimp only at hSw); go_simp; (try with_reducible rfl)
  simp only [Act.put, List.setIfInBounds_toArray, List.set_cons_zero, List.set_cons_succ]
  refine flow_take ⟨some 36, _, _, _, _, _⟩ ?_ rfl (by rfl) ?_ ?_
  rotate_left 1
  · intro w hSw; (try dsimp only at hSw); go_simp; (try with_reducible rfl)
  simp only [Act.put, List.setIfInBounds_toArray, List.set_cons_zero, List.set_cons_succ]
  refine flow_take ⟨some 37, _, _, _, _, _⟩ ?_ rfl (by rfl) ?_ ?_
  rotate_left 1
  · intro w hSw; (try dsimp only at hSw); go_simp; (try with_reducible rfl)
  simp only [Act.put, List.setIfInBounds_toArray, List.set_cons_zero, List.set_cons_succ]
  refine flow_take ⟨some 39, _, _, _, _, _⟩ ?_ rfl (by rfl) ?_ ?_
  rotate_left 1
  · intro w hSw; (try dsimp only at hSw); go_simp; (try with_reducible rfl)
  simp only [Act.put, List.setIfInBounds_toArray, List.set_cons_zero, List.set_cons_succ]
  refine flow_take ⟨some 40, _, _, _, _, _⟩ ?_ rfl (by rfl) ?_ ?_
  rotate_left 1
  · intro w hSw; (try dsimp only at hSw); go_simp; (try with_reducible rfl)
  simp only [Act.put, List.setIfInBounds_toArray, List.set_cons_zero, List.set_cons_succ]
  refine flow_take ⟨some 41, _, _, _, _, _⟩ ?_ rfl (by rfl) ?_ ?_
  rotate_left 1
  · intro w hSw; (try dsimp only at hSw); go_simp; (try with_reducible rfl)
  simp only [Act.put, List.setIfInBounds_toArray, List.set_cons_zero, List.set_cons_succ]
  refine flow_take ⟨some 42, _, _, _, _, _⟩ ?_ rfl (by rfl) ?_ ?_
  rotate_left 1
  · intro w hSw; (try dsimp only at hSw); go_simp; (try with_reducible rfl)
  simp only [Act.put, List.setIfInBounds_toArray, List.set_cons_zero, List.set_cons_succ]
  refine flow_take ⟨some 43, _, _, _, _, _⟩ ?_ rfl (by rfl) ?_ ?_
  rotate_left 1
  · intro w hSw; (try dsimp only at hSw); go_simp; (try with_reducible rfl)
  simp only [Act.put, List.setIfInBounds_toArray, List.set_cons_zero, List.set_cons_succ]
  refine flow_take ⟨some 46, _, _, _, _, _⟩ ?_ rfl (by rfl) ?_ ?_
  rotate_left 1
  · intro w hSw; (try dsimp only at hSw); go_simp; (try with_reducible rfl)
  simp only [Act.put, List.setIfInBounds_toArray, List.set_cons_zero, List.set_cons_succ]
  (first | (refine flow_call ⟨some 31, _, _, _, _, _⟩ rfl (by rfl) 11 _ _ (by rfl) _ (by rfl) Tryd.call11 (c1 _) ?_; rintro x wn ⟨rfl, hb⟩; replace hS := rds_next hS hb; refine ⟨_, rfl, hS, ?_⟩; (try clear hb)) | (refine flow_call ⟨some 31, _, _, _, _, _⟩ rfl (by rfl) 11 _ _ (by rfl) _ (by rfl) Tryd.call11 (c2 _) ?_; rintro x wn ⟨rfl, hb⟩; replace hS := rds_next hS hb; refine ⟨_, rfl, hS, ?_⟩; (try clear hb)))
  simp only [Act.put, List.setIfInBounds_toArray, List.set_cons_zero, List.set_cons_succ]
  (first | (refine flow_call ⟨some 38, _, _, _, _, _⟩ rfl (by rfl) 11 _ _ (by rfl) _ (by rfl) Tryd.call11 (c1 _) ?_; rintro x wn ⟨rfl, hb⟩; replace hS := rds_next hS hb; refine ⟨_, rfl, hS, ?_⟩; (try clear hb)) | (refine flow_call ⟨some 38, _, _, _, _, _⟩ rfl (by rfl) 11 _ _ (by rfl) _ (by rfl) Tryd.call11 (c2 _) ?_; rintro x wn ⟨rfl, hb⟩; replace hS := rds_next hS hb; refine ⟨_, rfl, hS, ?_⟩; (try clear hb)))
  simp only [Act.put, List.setIfInBounds_toArray, List.set_cons_zero, List.set_cons_succ]
  refine flow_run ⟨some 44, _, _, _, _, _⟩ (.slice (some ⟨wn.heap.size, 0, none⟩) 5 5) (wn.alloc (.cells #[.int .i64 A.n, .int .i64 A.d, .int .i64 B.n, .int .i64 B.d, .int .i64 H.n, .int .i64 H.d, .int .i64 x4, .int .i64 x5, .int .i64 x6, .int .i64 x7] 24)) rfl (by rfl) (by go_simp) (rds_next hS (below_alloc1 _ _)) ?_; have hR := row5_new wn A B H ⟨x4, x5⟩ ⟨x6, x7⟩ 24; replace hS := rds_next hS (below_alloc1 wn (.cells #[.int .i64 A.n, .int .i64 A.d, .int .i64 B.n, .int .i64 B.d, .int .i64 H.n, .int .i64 H.d, .int .i64 x4, .int .i64 x5, .int .i64 x6, .int .i64 x7] 24))
  simp only [Act.put, List.setIfInBounds_toArray, List.set_cons_zero, List.set_cons_succ]
  refine flow_take ⟨some 45, _, _, _, _, _⟩ ?_ rfl (by rfl) ?_ ?_
  rotate_left 1
  · intro w hSw; (try dsimp only at hSw); go_simp; (try with_reducible rfl)
  simp only [Act.put, List.setIfInBounds_toArray, List.set_cons_zero, List.set_cons_succ]
  simp only [wpFlow, OnlyN]
  have hOk : ∀ k, k < 5 → (([A, B, H, ⟨x4, x5⟩, ⟨x6, x7⟩] : List Rt).getD k ⟨0, 0⟩).Ok := fun k hk => by
    match k, hk with
    | 0, _ => exact ok1
    | 1, _ => exact ok2
    | 2, _ => exact cOk
    | 3, _ => exact ⟨h4, h5⟩
    | 4, _ => exact ⟨h6, h7⟩
  dsimp only at hR
  have hl : ([A, B, H, ⟨x4, x5⟩, ⟨x6, x7⟩] : List Rt).length = 5 := rfl
  have hbx := hbW.trans (hS.1.mono hbW.size)
  generalize ([A, B, H, ⟨x4, x5⟩, ⟨x6, x7⟩] : List Rt) = L at hR hOk hl
  have hGz : wn.heap.size < (wn.alloc (.cells #[.int .i64 A.n, .int .i64 A.d, .int .i64 B.n, .int .i64 B.d, .int .i64 H.n, .int .i64 H.d, .int .i64 x4, .int .i64 x5, .int .i64 x6, .int .i64 x7] 24)).heap.size := by simp
  generalize wn.alloc (.cells #[.int .i64 A.n, .int .i64 A.d, .int .i64 B.n, .int .i64 B.d, .int .i64 H.n, .int .i64 H.d, .int .i64 x4, .int .i64 x5, .int .i64 x6, .int .i64 x7] 24) = V at *
  generalize wn.heap.size = G at *
  have HOk := Lib.hid hOk
  have HR := Lib.hid hR
  have HL := Lib.hid hl
  clear hOk hR hl hS0 hS c1 c2 ok1 ok2 cOk h4 h5 h6 h7 n1 n2
  go_wp2_with fail
  go_loopw [46] (fun i wr => ∃ k : Nat, k ≤ 5 ∧ i = .int .i64 k ∧ RowKit.Below V.heap.size V wr) (fun i _ => 5 - (RowKit.intOf i).toNat)
  case atStart => exact ⟨0, by omega, rfl, Below.refl _ _⟩
  case round =>
    obtain ⟨k, hk, rfl, hbr⟩ := hrel
    by_cases hlt : k < 5
    · obtain ⟨k0, k1⟩ := HR.out.below hbr k (by rw [HL.out]; exact hlt)
      have ok := HOk.out k hlt
      generalize L.getD k ⟨0, 0⟩ = r at k0 k1 ok
      have hr0 := RatAt.below (RatAt.new wr r 24) (below_alloc1 _ (.cells #[.int .i64 1, .int .i64 2, .int .i64 3, .int .i64 4, .int .i64 how] 3))
      have hN0 := nums5_new (wr.alloc (.cells #[.int .i64 r.n, .int .i64 r.d] 24)) 1 2 3 4 how 3
      have hb0 : RowKit.Below V.heap.size V ((wr.alloc (.cells #[.int .i64 r.n, .int .i64 r.d] 24)).alloc (.cells #[.int .i64 1, .int .i64 2, .int .i64 3, .int .i64 4, .int .i64 how] 3)) := below_next (below_next hbr (below_alloc1 _ _)) (below_alloc1 _ _)
      have hsz : (wr.alloc (.cells #[.int .i64 r.n, .int .i64 r.d] 24)).heap.size = wr.heap.size + 1 := by simp
      rw [hsz] at hN0
      clear hsz
      have hM0 : ([1, 2, 3, 4, how] : List Int).length = 5 := rfl
      generalize hM : ([1, 2, 3, 4, how] : List Int) = M at hN0 hM0
      have HN := Lib.hid hN0
      have HM := Lib.hid hM0
      have HRt := Lib.hid hr0
      clear hM hN0 hM0 hr0
      have hdk : decide ((k : Int) < 5) = true := by simp; omega
      go_wp2_with fail
      clear k0 k1 hdk
      generalize (wr.alloc (.cells #[.int .i64 r.n, .int .i64 r.d] 24)).alloc (.cells #[.int .i64 1, .int .i64 2, .int .i64 3, .int .i64 4, .int .i64 how] 3) = Y at *
      generalize wr.heap.size = g at *
      go_loopw [53] (fun i wq => ∃ j : Nat, j ≤ 5 ∧ i = .int .i64 j ∧ RowKit.Below Y.heap.size Y wq) (fun i _ => 5 - (RowKit.intOf i).toNat)
      case atStart => exact ⟨0, by omega, rfl, Below.refl _ _⟩
      case round =>
        obtain ⟨j, hj, rfl, hbq⟩ := hrel
        by_cases hlj : j < 5
        · have m0 := HN.out.below hbq j (by rw [HM.out]; exact hlj)
          generalize M.getD j 0 = m at m0
          have hRq := HRt.out.below hbq
          have cr := fun w => round_any r ok m w
          have cq := fun w => refRound_any r ok m w
          generalize (if Right r ∧ 1 ≤ m ∧ m ≤ 4 then roundV r m else 0) = q1 at cr cq
          generalize (if Right r ∧ 1 ≤ m ∧ m ≤ 4 then (0 : Int) else 1) = q2 at cr cq
          unfold Rt.val at cr cq
          obtain ⟨l0, l1⟩ := id hRq
          go_wp2_with fail
          refine (cr _).mono ?_
          rintro x wp ⟨rfl, hb1⟩
          have hRp := hRq.below hb1
          replace hbq := below_next hbq hb1
          clear hb1 l0 l1 hRq m0
          obtain ⟨l0, l1⟩ := hRp
          go_wp2_with fail
          refine (cq _).mono ?_
          rintro x wz ⟨rfl, hb2⟩
          replace hbq := below_next hbq hb2
          clear hb2 l0 l1 cr cq
          go_wp2_with fail
          go_roundw
          case rel => first | exact ⟨j + 1, by omega, by go_num, hbq⟩ | ((repeat apply Exists.intro); exact ⟨⟨j + 1, by omega, by go_num, hbq⟩, rfl⟩)
          case measure => simp [RowKit.intOf]; omega
        · obtain rfl : j = 5 := by omega
          have hb5 := hb0.trans (hbq.mono hb0.size)
          clear HN HRt hbq hb0
          go_wp2_with fail
          go_roundw
          case rel => first | exact ⟨k + 1, by omega, by go_num, hb5⟩ | ((repeat apply Exists.intro); exact ⟨⟨k + 1, by omega, by go_num, hb5⟩, rfl⟩)
          case measure => simp [RowKit.intOf]; omega
    · obtain rfl : k = 5 := by omega
      go_wp2_with fail
      go_ret
      exact ⟨rfl, hbx.trans (hbr.mono hbx.size)⟩
end Go.Proofs.YtmbjoenegcnoiaaDoor
