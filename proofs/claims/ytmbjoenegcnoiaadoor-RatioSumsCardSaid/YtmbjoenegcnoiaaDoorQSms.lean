/- The law RatioSums, walked. -/
import Derived.Test.YtmbjoenegcnoiaaDoorQPrs
import Derived.Test.YtmbjoenegcnoiaaDoorQOrd
namespace Go.Proofs.YtmbjoenegcnoiaaDoor
open Go Go.RowKit Go.Sort Go.Lib

theorem mulV_ok (a b : Rt) : (mulV a b).1.Ok := by
  unfold mulV
  split
  · exact ofV_fst_ok _ _
  · exact rt_lit (by omega)
theorem ofT (a b : Int) (ha : I64 a) (hb : I64 b) : ∃ n d e : Int, (∀ w, Calls Tryd.prog 19 #[.int .i64 a, .int .i64 b] w fun r w' => r = .returned (.tuple #[.agg #[.int .i64 n, .int .i64 d], .int .i64 e]) ∧ RowKit.Below w.heap.size w w') ∧ (∀ w, Calls Tryd.prog 10 #[.int .i64 a, .int .i64 b] w fun r w' => r = .returned (.tuple #[.agg #[.int .i64 n, .int .i64 d], .int .i64 e]) ∧ RowKit.Below w.heap.size w w') :=
  ⟨(ofV a b).1.n, (ofV a b).1.d, (ofV a b).2, fun w => of_any a b ha hb w, fun w => refOf_any a b ha hb w⟩
theorem twelve_next {W w w' : World} {a b c d p : Nat} {x0 x1 y0 y1 z0 z1 u0 u1 q0 q1 q2 q3 : Value} (h : RowKit.Below W.heap.size W w ∧ w.cell? ⟨a, 0, none⟩ = some x0 ∧ w.cell? ⟨a, 1, none⟩ = some x1 ∧ w.cell? ⟨b, 0, none⟩ = some y0 ∧ w.cell? ⟨b, 1, none⟩ = some y1 ∧ w.cell? ⟨c, 0, none⟩ = some z0 ∧ w.cell? ⟨c, 1, none⟩ = some z1 ∧ w.cell? ⟨d, 0, none⟩ = some u0 ∧ w.cell? ⟨d, 1, none⟩ = some u1 ∧ w.cell? ⟨p, 0, none⟩ = some q0 ∧ w.cell? ⟨p, 1, none⟩ = some q1 ∧ w.cell? ⟨p, 2, none⟩ = some q2 ∧ w.cell? ⟨p, 3, none⟩ = some q3) (hb : RowKit.Below w.heap.size w w') :
    RowKit.Below W.heap.size W w' ∧ w'.cell? ⟨a, 0, none⟩ = some x0 ∧ w'.cell? ⟨a, 1, none⟩ = some x1 ∧ w'.cell? ⟨b, 0, none⟩ = some y0 ∧ w'.cell? ⟨b, 1, none⟩ = some y1 ∧ w'.cell? ⟨c, 0, none⟩ = some z0 ∧ w'.cell? ⟨c, 1, none⟩ = some z1 ∧ w'.cell? ⟨d, 0, none⟩ = some u0 ∧ w'.cell? ⟨d, 1, none⟩ = some u1 ∧ w'.cell? ⟨p, 0, none⟩ = some q0 ∧ w'.cell? ⟨p, 1, none⟩ = some q1 ∧ w'.cell? ⟨p, 2, none⟩ = some q2 ∧ w'.cell? ⟨p, 3, none⟩ = some q3 :=
  ⟨h.1.trans (hb.mono h.1.size), mv0 hb h.2.1, mv0 hb h.2.2.1, mv0 hb h.2.2.2.1, mv0 hb h.2.2.2.2.1, mv0 hb h.2.2.2.2.2.1, mv0 hb h.2.2.2.2.2.2.1, mv0 hb h.2.2.2.2.2.2.2.1, mv0 hb h.2.2.2.2.2.2.2.2.1, mv0 hb h.2.2.2.2.2.2.2.2.2.1, mv0 hb h.2.2.2.2.2.2.2.2.2.2.1, mv0 hb h.2.2.2.2.2.2.2.2.2.2.2.1, mv0 hb h.2.2.2.2.2.2.2.2.2.2.2.2⟩
theorem mf0 {W W' : World} {b o : Nat} (hb : RowKit.Below W.heap.size W W') (hz : b < W.heap.size) (h : W.frozen? ⟨b, o, none⟩ = false) : W'.frozen? ⟨b, o, none⟩ = false := ((bcell hb).2 _ _ hz).trans h
theorem mf1 {W W' : World} {x : Obj} {b o : Nat} (hb : RowKit.Below (W.alloc x).heap.size (W.alloc x) W') (hz : b < W.heap.size) (h : W.frozen? ⟨b, o, none⟩ = false) : W'.frozen? ⟨b, o, none⟩ = false :=
  mf0 hb (mz0 (below_alloc1 W x) hz) (mf0 (below_alloc1 W x) hz h)
set_option maxHeartbeats 8000000 in
set_option maxRecDepth 100000 in
theorem sums_any (x0 x1 x2 x3 x4 x5 x6 x7 : Int) (i0 : I64 x0) (i1 : I64 x1) (i2 : I64 x2) (i3 : I64 x3) (i4 : I64 x4) (i5 : I64 x5) (i6 : I64 x6) (i7 : I64 x7) (w : World) (ht : Sane w) :
    Calls Tryd.prog 6 #[.agg #[.int .i64 x0, .int .i64 x1, .int .i64 x2, .int .i64 x3, .int .i64 x4, .int .i64 x5, .int .i64 x6, .int .i64 x7]] w fun x w' => x = .returned (.bool true) ∧ RowKit.Below w.heap.size w w' := by
  have hbw := below_alloc1 w (.cells #[.int .i64 x0, .int .i64 x1, .int .i64 x2, .int .i64 x3, .int .i64 x4, .int .i64 x5, .int .i64 x6, .int .i64 x7] 26)
  have h0 : (w.alloc (.cells #[.int .i64 x0, .int .i64 x1, .int .i64 x2, .int .i64 x3, .int .i64 x4, .int .i64 x5, .int .i64 x6, .int .i64 x7] 26)).cell? ⟨w.heap.size, 0, none⟩ = some (.int .i64 x0) := Lib.cell_of_heap (heap_alloc_new w _) 0
  have h1 : (w.alloc (.cells #[.int .i64 x0, .int .i64 x1, .int .i64 x2, .int .i64 x3, .int .i64 x4, .int .i64 x5, .int .i64 x6, .int .i64 x7] 26)).cell? ⟨w.heap.size, 1, none⟩ = some (.int .i64 x1) := Lib.cell_of_heap (heap_alloc_new w _) 1
  have h2 : (w.alloc (.cells #[.int .i64 x0, .int .i64 x1, .int .i64 x2, .int .i64 x3, .int .i64 x4, .int .i64 x5, .int .i64 x6, .int .i64 x7] 26)).cell? ⟨w.heap.size, 2, none⟩ = some (.int .i64 x2) := Lib.cell_of_heap (heap_alloc_new w _) 2
  have h3 : (w.alloc (.cells #[.int .i64 x0, .int .i64 x1, .int .i64 x2, .int .i64 x3, .int .i64 x4, .int .i64 x5, .int .i64 x6, .int .i64 x7] 26)).cell? ⟨w.heap.size, 3, none⟩ = some (.int .i64 x3) := Lib.cell_of_heap (heap_alloc_new w _) 3
  have h4 : (w.alloc (.cells #[.int .i64 x0, .int .i64 x1, .int .i64 x2, .int .i64 x3, .int .i64 x4, .int .i64 x5, .int .i64 x6, .int .i64 x7] 26)).cell? ⟨w.heap.size, 4, none⟩ = some (.int .i64 x4) := Lib.cell_of_heap (heap_alloc_new w _) 4
  have h5 : (w.alloc (.cells #[.int .i64 x0, .int .i64 x1, .int .i64 x2, .int .i64 x3, .int .i64 x4, .int .i64 x5, .int .i64 x6, .int .i64 x7] 26)).cell? ⟨w.heap.size, 5, none⟩ = some (.int .i64 x5) := Lib.cell_of_heap (heap_alloc_new w _) 5
  have h6 : (w.alloc (.cells #[.int .i64 x0, .int .i64 x1, .int .i64 x2, .int .i64 x3, .int .i64 x4, .int .i64 x5, .int .i64 x6, .int .i64 x7] 26)).cell? ⟨w.heap.size, 6, none⟩ = some (.int .i64 x6) := Lib.cell_of_heap (heap_alloc_new w _) 6
  have h7 : (w.alloc (.cells #[.int .i64 x0, .int .i64 x1, .int .i64 x2, .int .i64 x3, .int .i64 x4, .int .i64 x5, .int .i64 x6, .int .i64 x7] 26)).cell? ⟨w.heap.size, 7, none⟩ = some (.int .i64 x7) := Lib.cell_of_heap (heap_alloc_new w _) 7
  obtain ⟨n0, d0, e0, c0, r0⟩ := ofT x0 x1 i0 i1
  obtain ⟨n1, d1, e1, c1, r1⟩ := ofT x1 x2 i1 i2
  obtain ⟨n2, d2, e2, c2, r2⟩ := ofT x2 x3 i2 i3
  obtain ⟨n3, d3, e3, c3, r3⟩ := ofT x3 x0 i3 i0
  have m0 := fun w => made_any x0 x1 i0 i1 w
  have m1 := fun w => made_any x2 x3 i2 i3 w
  have rA := (made_right x0 x1).ok
  have rB := (made_right x2 x3).ok
  generalize madeV x0 x1 = A at m0 rA
  generalize madeV x2 x3 = B at m1 rB
  unfold Rt.val at m0 m1
  go_enter Tryd.func6, Tryd.ntmps6
  go_wp2_with fail
  refine (sanity_any _ (ht.below hbw)).mono ?_
  rintro x w1 ⟨rfl, hb⟩
  replace h0 := mv0 hb h0
  replace h1 := mv0 hb h1
  replace h2 := mv0 hb h2
  replace h3 := mv0 hb h3
  replace h4 := mv0 hb h4
  replace h5 := mv0 hb h5
  replace h6 := mv0 hb h6
  replace h7 := mv0 hb h7
  replace hbw := below_next hbw hb
  clear hb ht
  go_wp2_with fail
  refine wp_loop_rounds 5 ?_
  rw [rounds_succ]
  go_wp2_with fail
  refine sms_r5_0 w.heap.size x0 x1 x2 x3 x4 x5 x6 x7 n0 d0 e0 _ _ h0 h1 h2 h3 h4 h5 h6 h7 c0 ?_
  intro _ _ _ _ _ _ _ _ _ _ _ _ _ _ p0 V0 hb z t
  replace h0 := mv0 hb h0
  replace h1 := mv0 hb h1
  replace h2 := mv0 hb h2
  replace h3 := mv0 hb h3
  replace h4 := mv0 hb h4
  replace h5 := mv0 hb h5
  replace h6 := mv0 hb h6
  replace h7 := mv0 hb h7
  replace hbw := below_next hbw hb
  clear hb z
  go_wp2_with fail
  refine sms_r6_0 w.heap.size x0 x1 x2 x3 x4 x5 x6 x7 n0 d0 e0 _ _ h0 h1 h2 h3 h4 h5 h6 h7 r0 ?_
  intro _ _ _ _ _ _ _ _ _ _ _ _ _ _ q0 U0 hb z t2
  replace h0 := mv0 hb h0
  replace h1 := mv0 hb h1
  replace h2 := mv0 hb h2
  replace h3 := mv0 hb h3
  replace h4 := mv0 hb h4
  replace h5 := mv0 hb h5
  replace h6 := mv0 hb h6
  replace h7 := mv0 hb h7
  replace hbw := below_next hbw hb
  have t' := t.below hb
  obtain ⟨f0, f1, -, -⟩ := id t'
  obtain ⟨g0, g1, -, -⟩ := id t2
  clear hb z t t' c0 r0
  go_wp2_with fail
  clear f0 f1 g0 g1 t2
  rw [rounds_succ]
  go_wp2_with fail
  refine sms_r5_1 w.heap.size x0 x1 x2 x3 x4 x5 x6 x7 n1 d1 e1 _ _ h0 h1 h2 h3 h4 h5 h6 h7 c1 ?_
  intro _ _ _ _ _ _ _ _ _ _ _ _ _ _ p1 V1 hb z t
  replace h0 := mv0 hb h0
  replace h1 := mv0 hb h1
  replace h2 := mv0 hb h2
  replace h3 := mv0 hb h3
  replace h4 := mv0 hb h4
  replace h5 := mv0 hb h5
  replace h6 := mv0 hb h6
  replace h7 := mv0 hb h7
  replace hbw := below_next hbw hb
  clear hb z
  go_wp2_with fail
  refine sms_r6_1 w.heap.size x0 x1 x2 x3 x4 x5 x6 x7 n1 d1 e1 _ _ h0 h1 h2 h3 h4 h5 h6 h7 r1 ?_
  intro _ _ _ _ _ _ _ _ _ _ _ _ _ _ q1 U1 hb z t2
  replace h0 := mv0 hb h0
  replace h1 := mv0 hb h1
  replace h2 := mv0 hb h2
  replace h3 := mv0 hb h3
  replace h4 := mv0 hb h4
  replace h5 := mv0 hb h5
  replace h6 := mv0 hb h6
  replace h7 := mv0 hb h7
  replace hbw := below_next hbw hb
  have t' := t.below hb
  obtain ⟨f0, f1, -, -⟩ := id t'
  obtain ⟨g0, g1, -, -⟩ := id t2
  clear hb z t t' c1 r1
  go_wp2_with fail
  clear f0 f1 g0 g1 t2
  rw [rounds_succ]
  go_wp2_with fail
  refine sms_r5_2 w.heap.size x0 x1 x2 x3 x4 x5 x6 x7 n2 d2 e2 _ _ h0 h1 h2 h3 h4 h5 h6 h7 c2 ?_
  intro _ _ _ _ _ _ _ _ _ _ _ _ _ _ p2 V2 hb z t
  replace h0 := mv0 hb h0
  replace h1 := mv0 hb h1
  replace h2 := mv0 hb h2
  replace h3 := mv0 hb h3
  replace h4 := mv0 hb h4
  replace h5 := mv0 hb h5
  replace h6 := mv0 hb h6
  replace h7 := mv0 hb h7
  replace hbw := below_next hbw hb
  clear hb z
  go_wp2_with fail
  refine sms_r6_2 w.heap.size x0 x1 x2 x3 x4 x5 x6 x7 n2 d2 e2 _ _ h0 h1 h2 h3 h4 h5 h6 h7 r2 ?_
  intro _ _ _ _ _ _ _ _ _ _ _ _ _ _ q2 U2 hb z t2
  replace h0 := mv0 hb h0
  replace h1 := mv0 hb h1
  replace h2 := mv0 hb h2
  replace h3 := mv0 hb h3
  replace h4 := mv0 hb h4
  replace h5 := mv0 hb h5
  replace h6 := mv0 hb h6
  replace h7 := mv0 hb h7
  replace hbw := below_next hbw hb
  have t' := t.below hb
  obtain ⟨f0, f1, -, -⟩ := id t'
  obtain ⟨g0, g1, -, -⟩ := id t2
  clear hb z t t' c2 r2
  go_wp2_with fail
  clear f0 f1 g0 g1 t2
  rw [rounds_succ]
  go_wp2_with fail
  refine sms_r5_3 w.heap.size x0 x1 x2 x3 x4 x5 x6 x7 n3 d3 e3 _ _ h0 h1 h2 h3 h4 h5 h6 h7 c3 ?_
  intro _ _ _ _ _ _ _ _ _ _ _ _ _ _ p3 V3 hb z t
  replace h0 := mv0 hb h0
  replace h1 := mv0 hb h1
  replace h2 := mv0 hb h2
  replace h3 := mv0 hb h3
  replace h4 := mv0 hb h4
  replace h5 := mv0 hb h5
  replace h6 := mv0 hb h6
  replace h7 := mv0 hb h7
  replace hbw := below_next hbw hb
  clear hb z
  go_wp2_with fail
  refine sms_r6_3 w.heap.size x0 x1 x2 x3 x4 x5 x6 x7 n3 d3 e3 _ _ h0 h1 h2 h3 h4 h5 h6 h7 r3 ?_
  intro _ _ _ _ _ _ _ _ _ _ _ _ _ _ q3 U3 hb z t2
  replace h0 := mv0 hb h0
  replace h1 := mv0 hb h1
  replace h2 := mv0 hb h2
  replace h3 := mv0 hb h3
  replace h4 := mv0 hb h4
  replace h5 := mv0 hb h5
  replace h6 := mv0 hb h6
  replace h7 := mv0 hb h7
  replace hbw := below_next hbw hb
  have t' := t.below hb
  obtain ⟨f0, f1, -, -⟩ := id t'
  obtain ⟨g0, g1, -, -⟩ := id t2
  clear hb z t t' c3 r3
  go_wp2_with fail
  clear f0 f1 g0 g1 t2
  rw [rounds_succ]
  go_wp2_with fail
  have pa := fun w => pairs_any x0 x1 x2 x3 x4 x5 x6 x7 A B w m0 m1
  have hOk : ∀ k, k < 12 → (([A, B, B, A, A, A, ⟨x4, x5⟩, B, A, ⟨x6, x7⟩, ⟨x4, x5⟩, ⟨x6, x7⟩] : List Rt).getD k ⟨0, 0⟩).Ok := fun k hk => by
    match k, hk with
    | 0, _ => exact rA
    | 1, _ => exact rB
    | 2, _ => exact rB
    | 3, _ => exact rA
    | 4, _ => exact rA
    | 5, _ => exact rA
    | 6, _ => exact ⟨i4, i5⟩
    | 7, _ => exact rB
    | 8, _ => exact rA
    | 9, _ => exact ⟨i6, i7⟩
    | 10, _ => exact ⟨i4, i5⟩
    | 11, _ => exact ⟨i6, i7⟩
  have hl : ([A, B, B, A, A, A, ⟨x4, x5⟩, B, A, ⟨x6, x7⟩, ⟨x4, x5⟩, ⟨x6, x7⟩] : List Rt).length = 12 := rfl
  generalize ([A, B, B, A, A, A, ⟨x4, x5⟩, B, A, ⟨x6, x7⟩, ⟨x4, x5⟩, ⟨x6, x7⟩] : List Rt) = L at pa hOk hl
  refine (pa _).mono ?_
  rintro x V ⟨G, rfl, hR, hb⟩
  replace hbw := below_next hbw hb
  have HOk := Lib.hid hOk
  have HR := Lib.hid hR
  have HL := Lib.hid hl
  clear hOk hR hl pa m0 m1 rA rB h0 h1 h2 h3 h4 h5 h6 h7 hb i0 i1 i2 i3 i4 i5 i6 i7
  go_wp2_with fail
  go_loopw [63] (fun i wr => ∃ k : Nat, k ≤ 6 ∧ i = .int .i64 k ∧ RowKit.Below V.heap.size V wr) (fun i _ => 6 - (RowKit.intOf i).toNat)
  case atStart => exact ⟨0, by omega, rfl, Below.refl _ _⟩
  case round =>
    obtain ⟨k, hk, rfl, hbr⟩ := hrel
    by_cases hlt : k < 6
    · obtain ⟨j0, j1⟩ := HR.out.below hbr (2 * k) (by rw [HL.out]; omega)
      obtain ⟨j2, j3⟩ := HR.out.below hbr (2 * k + 1) (by rw [HL.out]; omega)
      have okX := HOk.out (2 * k) (by omega)
      have okY := HOk.out (2 * k + 1) (by omega)
      rw [show 2 * k * 2 = k * 4 by omega] at j0 j1
      rw [show (2 * k + 1) * 2 = k * 4 + 2 by omega] at j2 j3
      generalize L.getD (2 * k) ⟨0, 0⟩ = X at j0 j1 okX
      generalize L.getD (2 * k + 1) ⟨0, 0⟩ = Y at j2 j3 okY
      have a1 := fun w => add_any X Y okX okY w
      have a2 := fun w => refAdd_any X Y okX okY w
      have a3 := fun w => sub_any X Y okX okY w
      have a4 := fun w => refSub_any X Y okX okY w
      have a5 := fun w => cmp_any X Y okX okY w
      have a6 := fun w => refCmp_any X Y okX okY w
      have a7 := fun w => mul_any X Y okX okY w
      have a8 := fun w => refMul_any X Y okX okY w
      generalize addV X Y = s at a1 a2
      generalize subV X Y = d at a3 a4
      generalize mulV X Y = m at a7 a8
      generalize cmpV X Y = cc at a5 a6
      obtain ⟨⟨sn, sd⟩, se⟩ := s
      obtain ⟨⟨dn, dd⟩, de⟩ := d
      obtain ⟨⟨mn, md⟩, me⟩ := m
      obtain ⟨Xn, Xd⟩ := X
      obtain ⟨Yn, Yd⟩ := Y
      unfold Rt.val at *
      dsimp only at *
      clear okX okY
      have hdk : decide ((k : Int) < 6) = true := by simp; omega
      go_wp2_with fail
      have hbV := hbw
      replace hbw := hbr
      clear j0 j1 j2 j3
      refine (a1 _).mono ?_
      rintro x w21 ⟨rfl, hb⟩
      have fP0 : w21.cell? ⟨wr.heap.size, 0, none⟩ = some (.int .i64 Xn) := ((bcell hb).1 _ _ (by simp <;> omega)).trans (by simp [go_sem])
      have fP1 : w21.cell? ⟨wr.heap.size, 1, none⟩ = some (.int .i64 Xd) := ((bcell hb).1 _ _ (by simp <;> omega)).trans (by simp [go_sem])
      have fP2 : w21.cell? ⟨wr.heap.size, 2, none⟩ = some (.int .i64 Yn) := ((bcell hb).1 _ _ (by simp <;> omega)).trans (by simp [go_sem])
      have fP3 : w21.cell? ⟨wr.heap.size, 3, none⟩ = some (.int .i64 Yd) := ((bcell hb).1 _ _ (by simp <;> omega)).trans (by simp [go_sem])
      have zP : wr.heap.size < w21.heap.size := by have := hb.size; simp at this; omega
      replace hbw := mb1 hbw hb
      clear hb
      go_wp2_with fail
      have hzA : V.heap.size ≤ w21.heap.size := hbw.size
      have nPA : ¬ wr.heap.size = w21.heap.size := by omega
      refine (a2 _).mono ?_
      rintro x w22 ⟨rfl, hb⟩
      replace fP0 := mv1 hb fP0
      replace fP1 := mv1 hb fP1
      replace fP2 := mv1 hb fP2
      replace fP3 := mv1 hb fP3
      replace zP := mz1 hb zP
      have fA0 : w22.cell? ⟨w21.heap.size, 0, none⟩ = some (.int .i64 sn) := ((bcell hb).1 _ _ (by simp <;> omega)).trans (by simp [go_sem])
      have fA1 : w22.cell? ⟨w21.heap.size, 1, none⟩ = some (.int .i64 sd) := ((bcell hb).1 _ _ (by simp <;> omega)).trans (by simp [go_sem])
      have zA : w21.heap.size < w22.heap.size := by have := hb.size; simp at this; omega
      replace hbw := mb1 hbw hb
      have kA0 : w22.frozen? ⟨w21.heap.size, 0, none⟩ = false := ((bcell hb).2 _ _ (by simp <;> omega)).trans (by simp [go_sem])
      have kA1 : w22.frozen? ⟨w21.heap.size, 1, none⟩ = false := ((bcell hb).2 _ _ (by simp <;> omega)).trans (by simp [go_sem])
      clear hb
      go_wp2_with fail
      have hzB : V.heap.size ≤ w22.heap.size := hbw.size
      have nAB : ¬ w21.heap.size = w22.heap.size := by omega
      have nPB : ¬ wr.heap.size = w22.heap.size := by omega
      refine (a3 _).mono ?_
      rintro x w23 ⟨rfl, hb⟩
      replace kA0 := mf1 hb zA kA0
      replace kA1 := mf1 hb zA kA1
      replace fP0 := mv1 hb fP0
      replace fP1 := mv1 hb fP1
      replace fP2 := mv1 hb fP2
      replace fP3 := mv1 hb fP3
      replace fA0 := mv1 hb fA0
      replace fA1 := mv1 hb fA1
      replace zP := mz1 hb zP
      replace zA := mz1 hb zA
      have fB0 : w23.cell? ⟨w22.heap.size, 0, none⟩ = some (.int .i64 sn) := ((bcell hb).1 _ _ (by simp <;> omega)).trans (by simp [go_sem])
      have fB1 : w23.cell? ⟨w22.heap.size, 1, none⟩ = some (.int .i64 sd) := ((bcell hb).1 _ _ (by simp <;> omega)).trans (by simp [go_sem])
      have zB : w22.heap.size < w23.heap.size := by have := hb.size; simp at this; omega
      replace hbw := mb1 hbw hb
      have kB0 : w23.frozen? ⟨w22.heap.size, 0, none⟩ = false := ((bcell hb).2 _ _ (by simp <;> omega)).trans (by simp [go_sem])
      have kB1 : w23.frozen? ⟨w22.heap.size, 1, none⟩ = false := ((bcell hb).2 _ _ (by simp <;> omega)).trans (by simp [go_sem])
      clear hb
      go_wp2_with fail
      refine (a4 _).mono ?_
      rintro x w24 ⟨rfl, hb⟩
      replace kA0 := mf1 hb zA kA0
      replace kA1 := mf1 hb zA kA1
      replace kB0 := mf1 hb zB kB0
      replace kB1 := mf1 hb zB kB1
      replace fP0 := mv1 hb fP0
      replace fP1 := mv1 hb fP1
      replace fP2 := mv1 hb fP2
      replace fP3 := mv1 hb fP3
      replace fA0 := mv1 hb fA0
      replace fA1 := mv1 hb fA1
      replace fB0 := mv1 hb fB0
      replace fB1 := mv1 hb fB1
      replace zP := mz1 hb zP
      replace zA := mz1 hb zA
      replace zB := mz1 hb zB
      have fC0 : w24.cell? ⟨w23.heap.size, 0, none⟩ = some (.int .i64 dn) := ((bcell hb).1 _ _ (by simp <;> omega)).trans (by simp [go_sem])
      have fC1 : w24.cell? ⟨w23.heap.size, 1, none⟩ = some (.int .i64 dd) := ((bcell hb).1 _ _ (by simp <;> omega)).trans (by simp [go_sem])
      have zC : w23.heap.size < w24.heap.size := by have := hb.size; simp at this; omega
      replace hbw := mb1 hbw hb
      clear hb
      go_wp2_with fail
      have hDn := pair_at w24 (.int .i64 dn) (.int .i64 dd) 24
      replace fP0 := mv0 (below_alloc1 w24 (.cells #[.int .i64 dn, .int .i64 dd] 24)) fP0
      replace fP1 := mv0 (below_alloc1 w24 (.cells #[.int .i64 dn, .int .i64 dd] 24)) fP1
      replace fP2 := mv0 (below_alloc1 w24 (.cells #[.int .i64 dn, .int .i64 dd] 24)) fP2
      replace fP3 := mv0 (below_alloc1 w24 (.cells #[.int .i64 dn, .int .i64 dd] 24)) fP3
      replace fA0 := mv0 (below_alloc1 w24 (.cells #[.int .i64 dn, .int .i64 dd] 24)) fA0
      replace fA1 := mv0 (below_alloc1 w24 (.cells #[.int .i64 dn, .int .i64 dd] 24)) fA1
      replace fB0 := mv0 (below_alloc1 w24 (.cells #[.int .i64 dn, .int .i64 dd] 24)) fB0
      replace fB1 := mv0 (below_alloc1 w24 (.cells #[.int .i64 dn, .int .i64 dd] 24)) fB1
      replace fC0 := mv0 (below_alloc1 w24 (.cells #[.int .i64 dn, .int .i64 dd] 24)) fC0
      replace fC1 := mv0 (below_alloc1 w24 (.cells #[.int .i64 dn, .int .i64 dd] 24)) fC1
      replace kA0 := mf0 (below_alloc1 w24 (.cells #[.int .i64 dn, .int .i64 dd] 24)) zA kA0
      replace kA1 := mf0 (below_alloc1 w24 (.cells #[.int .i64 dn, .int .i64 dd] 24)) zA kA1
      replace kB0 := mf0 (below_alloc1 w24 (.cells #[.int .i64 dn, .int .i64 dd] 24)) zB kB0
      replace kB1 := mf0 (below_alloc1 w24 (.cells #[.int .i64 dn, .int .i64 dd] 24)) zB kB1
      replace zP := mz0 (below_alloc1 w24 (.cells #[.int .i64 dn, .int .i64 dd] 24)) zP
      replace zA := mz0 (below_alloc1 w24 (.cells #[.int .i64 dn, .int .i64 dd] 24)) zA
      replace zB := mz0 (below_alloc1 w24 (.cells #[.int .i64 dn, .int .i64 dd] 24)) zB
      replace zC := mz0 (below_alloc1 w24 (.cells #[.int .i64 dn, .int .i64 dd] 24)) zC
      replace hbw := below_next hbw (below_alloc1 w24 (.cells #[.int .i64 dn, .int .i64 dd] 24))
      obtain ⟨fD0, fD1⟩ := hDn
      generalize w24.alloc (.cells #[.int .i64 dn, .int .i64 dd] 24) = V5 at *
      generalize w24.heap.size = pD at *
      generalize w23.heap.size = pC at *
      generalize w22.heap.size = pB at *
      generalize w21.heap.size = pA at *
      generalize wr.heap.size = pP at *
      have hS0 := twelve_next ⟨Below.refl V5.heap.size V5, fA0, fA1, fB0, fB1, fC0, fC1, fD0, fD1, fP0, fP1, fP2, fP3⟩ (Below.refl _ _).drew
      refine of_onlyN ?_ (fun _ _ h => h)
      refine wp_region_flow (S := fun w' => RowKit.Below V5.heap.size V5 w' ∧ w'.cell? ⟨pA, 0, none⟩ = some (.int .i64 sn) ∧ w'.cell? ⟨pA, 1, none⟩ = some (.int .i64 sd) ∧ w'.cell? ⟨pB, 0, none⟩ = some (.int .i64 sn) ∧ w'.cell? ⟨pB, 1, none⟩ = some (.int .i64 sd) ∧ w'.cell? ⟨pC, 0, none⟩ = some (.int .i64 dn) ∧ w'.cell? ⟨pC, 1, none⟩ = some (.int .i64 dd) ∧ w'.cell? ⟨pD, 0, none⟩ = some (.int .i64 dn) ∧ w'.cell? ⟨pD, 1, none⟩ = some (.int .i64 dd) ∧ w'.cell? ⟨pP, 0, none⟩ = some (.int .i64 Xn) ∧ w'.cell? ⟨pP, 1, none⟩ = some (.int .i64 Xd) ∧ w'.cell? ⟨pP, 2, none⟩ = some (.int .i64 Yn) ∧ w'.cell? ⟨pP, 3, none⟩ = some (.int .i64 Yd)) [(0, true), (1, true), (2, true), (3, true), (4, true), (5, true), (6, true), (7, true), (8, true), (9, true), (10, true), (11, true), (12, true), (13, true), (14, true), (15, true), (16, true), (17, true), (18, true), (19, true), (20, true), (21, true), (22, true), (24, true), (25, true), (26, true), (27, true), (23, false), (28, false), (29, true), (30, true)] (by kernel_rfl) (by kernel_rfl) (by kernel_rfl) (by decide) (hS0) ?_
      have hS := hS0
      refine flow_take ⟨some 99, _, _, _, _, _⟩ ?_ rfl (by rfl) ?_ ?_
      rotate_left 1
      · intro w hSw; (try dsimp only at hSw); go_simp; (try with_reducible rfl)
      simp only [Act.put, List.setIfInBounds_toArray, List.set_cons_zero, List.set_cons_succ]
      refine flow_take ⟨some 100, _, _, _, _, _⟩ ?_ rfl (by rfl) ?_ ?_
      rotate_left 1
      · intro w hSw; (try dsimp only at hSw); go_simp; (try with_reducible rfl)
      simp only [Act.put, List.setIfInBounds_toArray, List.set_cons_zero, List.set_cons_succ]
      refine flow_take ⟨some 101, _, _, _, _, _⟩ ?_ rfl (by rfl) ?_ ?_
      rotate_left 1
      · intro w hSw; (try dsimp only at hSw); go_simp; (try with_reducible rfl)
      simp only [Act.put, List.setIfInBounds_toArray, List.set_cons_zero, List.set_cons_succ]
      refine flow_take ⟨some 102, _, _, _, _, _⟩ ?_ rfl (by rfl) ?_ ?_
      rotate_left 1
      · intro w hSw; (try dsimp only at hSw); go_simp; (try with_reducible rfl)
      simp only [Act.put, List.setIfInBounds_toArray, List.set_cons_zero, List.set_cons_succ]
      refine flow_take ⟨some 103, _, _, _, _, _⟩ ?_ rfl (by rfl) ?_ ?_
      rotate_left 1
      · intro w hSw; (try dsimp only at hSw); go_simp; (try with_reducible rfl)
      simp only [Act.put, List.setIfInBounds_toArray, List.set_cons_zero, List.set_cons_succ]
      refine flow_take ⟨some 104, _, _, _, _, _⟩ ?_ rfl (by rfl) ?_ ?_
      rotate_left 1
      · intro w hSw; (try dsimp only at hSw); go_simp; (try with_reducible rfl)
      simp only [Act.put, List.setIfInBounds_toArray, List.set_cons_zero, List.set_cons_succ]
      refine flow_take ⟨some 105, _, _, _, _, _⟩ ?_ rfl (by rfl) ?_ ?_
      rotate_left 1
      · intro w hSw; (try dsimp only at hSw); go_simp; (try with_reducible rfl)
      simp only [Act.put, List.setIfInBounds_toArray, List.set_cons_zero, List.set_cons_succ]
      refine flow_take ⟨some 106, _, _, _, _, _⟩ ?_ rfl (by rfl) ?_ ?_
      rotate_left 1
      · intro w hSw; (try dsimp only at hSw); go_simp; (try with_reducible rfl)
      simp only [Act.put, List.setIfInBounds_toArray, List.set_cons_zero, List.set_cons_succ]
      refine flow_take ⟨some 107, _, _, _, _, _⟩ ?_ rfl (by rfl) ?_ ?_
      rotate_left 1
      · intro w hSw; (try dsimp only at hSw); go_simp; (try with_reducible rfl)
      simp only [Act.put, List.setIfInBounds_toArray, List.set_cons_zero, List.set_cons_succ]
      refine flow_take ⟨some 108, _, _, _, _, _⟩ ?_ rfl (by rfl) ?_ ?_
      rotate_left 1
      · intro w hSw; (try dsimp only at hSw); go_simp; (try with_reducible rfl)
      simp only [Act.put, List.setIfInBounds_toArray, List.set_cons_zero, List.set_cons_succ]
      refine flow_take ⟨some 109, _, _, _, _, _⟩ ?_ rfl (by rfl) ?_ ?_
      rotate_left 1
      · intro w hSw; (try dsimp only at hSw); go_simp; (try with_reducible rfl)
      simp only [Act.put, List.setIfInBounds_toArray, List.set_cons_zero, List.set_cons_succ]
      refine flow_take ⟨some 110, _, _, _, _, _⟩ ?_ rfl (by rfl) ?_ ?_
      rotate_left 1
      · intro w hSw; (try dsimp only at hSw); go_simp; (try with_reducible rfl)
      simp only [Act.put, List.setIfInBounds_toArray, List.set_cons_zero, List.set_cons_succ]
      refine flow_take ⟨some 111, _, _, _, _, _⟩ ?_ rfl (by rfl) ?_ ?_
      rotate_left 1
      · intro w hSw; (try dsimp only at hSw); go_simp; (try with_reducible rfl)
      simp only [Act.put, List.setIfInBounds_toArray, List.set_cons_zero, List.set_cons_succ]
      refine flow_take ⟨some 112, _, _, _, _, _⟩ ?_ rfl (by rfl) ?_ ?_
      rotate_left 1
      · intro w hSw; (try dsimp only at hSw); go_simp; (try with_reducible rfl)
      simp only [Act.put, List.setIfInBounds_toArray, List.set_cons_zero, List.set_cons_succ]
      refine flow_take ⟨some 113, _, _, _, _, _⟩ ?_ rfl (by rfl) ?_ ?_
      rotate_left 1
      · intro w hSw; (try dsimp only at hSw); go_simp; (try with_reducible rfl)
      simp only [Act.put, List.setIfInBounds_toArray, List.set_cons_zero, List.set_cons_succ]
      refine flow_take ⟨some 114, _, _, _, _, _⟩ ?_ rfl (by rfl) ?_ ?_
      rotate_left 1
      · intro w hSw; (try dsimp only at hSw); go_simp; (try with_reducible rfl)
      simp only [Act.put, List.setIfInBounds_toArray, List.set_cons_zero, List.set_cons_succ]
      refine flow_take ⟨some 115, _, _, _, _, _⟩ ?_ rfl (by rfl) ?_ ?_
      rotate_left 1
      · intro w hSw; (try dsimp only at hSw); go_simp; (try with_reducible rfl)
      simp only [Act.put, List.setIfInBounds_toArray, List.set_cons_zero, List.set_cons_succ]
      refine flow_take ⟨some 116, _, _, _, _, _⟩ ?_ rfl (by rfl) ?_ ?_
      rotate_left 1
      · intro w hSw; (try dsimp only at hSw); go_simp; (try with_reducible rfl)
      simp only [Act.put, List.setIfInBounds_toArray, List.set_cons_zero, List.set_cons_succ]
      refine flow_take ⟨some 117, _, _, _, _, _⟩ ?_ rfl (by rfl) ?_ ?_
      rotate_left 1
      · intro w hSw; (try dsimp only at hSw); go_simp; (try with_reducible rfl)
      simp only [Act.put, List.setIfInBounds_toArray, List.set_cons_zero, List.set_cons_succ]
      refine flow_take ⟨some 118, _, _, _, _, _⟩ ?_ rfl (by rfl) ?_ ?_
      rotate_left 1
      · intro w hSw; (try dsimp only at hSw); go_simp; (try with_reducible rfl)
      simp only [Act.put, List.setIfInBounds_toArray, List.set_cons_zero, List.set_cons_succ]
      refine flow_take ⟨some 119, _, _, _, _, _⟩ ?_ rfl (by rfl) ?_ ?_
      rotate_left 1
      · intro w hSw; (try dsimp only at hSw); go_simp; (try with_reducible rfl)
      simp only [Act.put, List.setIfInBounds_toArray, List.set_cons_zero, List.set_cons_succ]
      refine flow_take ⟨some 120, _, _, _, _, _⟩ ?_ rfl (by rfl) ?_ ?_
      rotate_left 1
      · intro w hSw; (try dsimp only at hSw); go_simp; (try with_reducible rfl)
      simp only [Act.put, List.setIfInBounds_toArray, List.set_cons_zero, List.set_cons_succ]
      refine flow_take ⟨some 121, _, _, _, _, _⟩ ?_ rfl (by rfl) ?_ ?_
      rotate_left 1
      · intro w hSw; (try dsimp only at hSw); go_simp; (try with_reducible rfl)
      simp only [Act.put, List.setIfInBounds_toArray, List.set_cons_zero, List.set_cons_succ]
      refine flow_take ⟨some 123, _, _, _, _, _⟩ ?_ rfl (by rfl) ?_ ?_
      rotate_left 1
      · intro w hSw; (try dsimp only at hSw); go_simp; (try with_reducible rfl)
      simp only [Act.put, List.setIfInBounds_toArray, List.set_cons_zero, List.set_cons_succ]
      refine flow_take ⟨some 124, _, _, _, _, _⟩ ?_ rfl (by rfl) ?_ ?_
      rotate_left 1
      · intro w hSw; (try dsimp only at hSw); go_simp; (try with_reducible rfl)
      simp only [Act.put, List.setIfInBounds_toArray, List.set_cons_zero, List.set_cons_succ]
      refine flow_take ⟨some 125, _, _, _, _, _⟩ ?_ rfl (by rfl) ?_ ?_
      rotate_left 1
      · intro w hSw; (try dsimp only at hSw); go_simp; (try with_reducible rfl)
      simp only [Act.put, List.setIfInBounds_toArray, List.set_cons_zero, List.set_cons_succ]
      refine flow_take ⟨some 126, _, _, _, _, _⟩ ?_ rfl (by rfl) ?_ ?_
      rotate_left 1
      · intro w hSw; (try dsimp only at hSw); go_simp; (try with_reducible rfl)
      simp only [Act.put, List.setIfInBounds_toArray, List.set_cons_zero, List.set_cons_succ]
      refine flow_call ⟨some 122, _, _, _, _, _⟩ rfl (by rfl) 24 _ _ (by rfl) _ (by rfl) Tryd.call24 (a5 _) ?_; rintro x wn ⟨rfl, hb⟩; replace hS := twelve_next hS hb; refine ⟨_, rfl, hS, ?_⟩; (try clear hb)
      simp only [Act.put, List.setIfInBounds_toArray, List.set_cons_zero, List.set_cons_succ]
      refine flow_call ⟨some 127, _, _, _, _, _⟩ rfl (by rfl) 25 _ _ (by rfl) _ (by rfl) Tryd.call25 (a6 _) ?_; rintro x wn ⟨rfl, hb⟩; replace hS := twelve_next hS hb; refine ⟨_, rfl, hS, ?_⟩; (try clear hb)
      simp only [Act.put, List.setIfInBounds_toArray, List.set_cons_zero, List.set_cons_succ]
      refine flow_take ⟨some 128, _, _, _, _, _⟩ ?_ rfl (by rfl) ?_ ?_
      rotate_left 1
      · intro w hSw; (try dsimp only at hSw); go_simp; (try with_reducible rfl)
      simp only [Act.put, List.setIfInBounds_toArray, List.set_cons_zero, List.set_cons_succ]
      refine flow_take ⟨some 129, _, _, _, _, _⟩ ?_ rfl (by rfl) ?_ ?_
      rotate_left 1
      · intro w hSw; (try dsimp only at hSw); go_simp; (try with_reducible rfl)
      simp only [Act.put, List.setIfInBounds_toArray, List.set_cons_zero, List.set_cons_succ]
      simp only [wpFlow, OnlyN]
      obtain ⟨hb, fA0, fA1, fB0, fB1, -, -, -, -, fP0, fP1, fP2, fP3⟩ := hS
      replace kA0 := mf0 hb zA kA0
      replace kA1 := mf0 hb zA kA1
      replace kB0 := mf0 hb zB kB0
      replace kB1 := mf0 hb zB kB1
      replace zA := mz0 hb zA
      replace zB := mz0 hb zB
      replace zP := mz0 hb zP
      replace hbw := hbw.trans (hb.mono hbw.size)
      clear hb hS0 zC fC0 fC1 fD0 fD1 a1 a2 a3 a4 a5 a6
      go_wp2_with fail
      refine (a7 _).mono ?_
      rintro x y1 ⟨rfl, hb⟩
      replace fA0 := mv0 hb fA0
      replace fA1 := mv0 hb fA1
      replace fB0 := mv0 hb fB0
      replace fB1 := mv0 hb fB1
      replace fP0 := mv0 hb fP0
      replace fP1 := mv0 hb fP1
      replace fP2 := mv0 hb fP2
      replace fP3 := mv0 hb fP3
      replace kA0 := mf0 hb zA kA0
      replace kA1 := mf0 hb zA kA1
      replace kB0 := mf0 hb zB kB0
      replace kB1 := mf0 hb zB kB1
      replace zA := mz0 hb zA
      replace zB := mz0 hb zB
      replace zP := mz0 hb zP
      replace hbw := below_next hbw hb
      clear hb
      have tA := Two2.set ⟨fA0, fA1, kA0, kA1⟩ mn md
      have tB := Two2.far ⟨fB0, fB1, kB0, kB1⟩ nAB (.int .i64 mn) (.int .i64 md)
      have g0 : ((y1.setCell ⟨pA, 0, none⟩ (.int .i64 mn)).setCell ⟨pA, 1, none⟩ (.int .i64 md)).cell? ⟨pP, 0, none⟩ = some (.int .i64 Xn) := by rw [World.cell?_setCell_far _ _ _ _ (fun e => nPA e.symm), World.cell?_setCell_far _ _ _ _ (fun e => nPA e.symm)]; exact fP0
      have g1 : ((y1.setCell ⟨pA, 0, none⟩ (.int .i64 mn)).setCell ⟨pA, 1, none⟩ (.int .i64 md)).cell? ⟨pP, 1, none⟩ = some (.int .i64 Xd) := by rw [World.cell?_setCell_far _ _ _ _ (fun e => nPA e.symm), World.cell?_setCell_far _ _ _ _ (fun e => nPA e.symm)]; exact fP1
      have g2 : ((y1.setCell ⟨pA, 0, none⟩ (.int .i64 mn)).setCell ⟨pA, 1, none⟩ (.int .i64 md)).cell? ⟨pP, 2, none⟩ = some (.int .i64 Yn) := by rw [World.cell?_setCell_far _ _ _ _ (fun e => nPA e.symm), World.cell?_setCell_far _ _ _ _ (fun e => nPA e.symm)]; exact fP2
      have g3 : ((y1.setCell ⟨pA, 0, none⟩ (.int .i64 mn)).setCell ⟨pA, 1, none⟩ (.int .i64 md)).cell? ⟨pP, 3, none⟩ = some (.int .i64 Yd) := by rw [World.cell?_setCell_far _ _ _ _ (fun e => nPA e.symm), World.cell?_setCell_far _ _ _ _ (fun e => nPA e.symm)]; exact fP3
      have hz : V.heap.size ≤ pA ∧ V.heap.size ≤ pB := ⟨hzA, hzB⟩
      have hbn := two_sets hbw hz.1 (.int .i64 mn) (.int .i64 md)
      have zA' : pA < ((y1.setCell ⟨pA, 0, none⟩ (.int .i64 mn)).setCell ⟨pA, 1, none⟩ (.int .i64 md)).heap.size := tA.lt
      have zB' : pB < ((y1.setCell ⟨pA, 0, none⟩ (.int .i64 mn)).setCell ⟨pA, 1, none⟩ (.int .i64 md)).heap.size := tB.lt
      go_wp2_with fail
      clear fA0 fA1 fB0 fB1 fP0 fP1 fP2 fP3 kA0 kA1 kB0 kB1 zA zB zP hbw a7
      generalize (y1.setCell ⟨pA, 0, none⟩ (.int .i64 mn)).setCell ⟨pA, 1, none⟩ (.int .i64 md) = y2 at *
      refine (a8 _).mono ?_
      rintro x y3 ⟨rfl, hb⟩
      replace tA := tA.below hb
      replace tB := tB.below hb
      replace hbn := below_next hbn hb
      clear hb g0 g1 g2 g3 zA' zB'
      obtain ⟨fA0, fA1, kA0, kA1⟩ := id tA
      obtain ⟨fB0, fB1, kB0, kB1⟩ := id tB
      have tB2 := tB.set mn md
      have tA2 := tA.far (fun e => nAB e.symm) (.int .i64 mn) (.int .i64 md)
      have hbz := two_sets hbn hz.2 (.int .i64 mn) (.int .i64 md)
      have nAB' : ¬ pB = pA := fun e => nAB e.symm
      go_wp2_with fail
      exact ⟨⟨k + 1, by omega, by go_num, hbz⟩, by simp [RowKit.intOf]; omega⟩
    · obtain rfl : k = 6 := by omega
      go_wp2_with fail
      go_ret
      exact ⟨rfl, hbw.trans (hbr.mono hbw.size)⟩
end Go.Proofs.YtmbjoenegcnoiaaDoor
