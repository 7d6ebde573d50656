/- The law RatioOrder, walked. -/
import Derived.Test.YtmbjoenegcnoiaaDoorQOrdP
import Derived.Deep.DeepCutAuto
namespace Go.Proofs.YtmbjoenegcnoiaaDoor
open Go Go.RowKit Go.Sort Go.Lib

theorem ofV_fst_ok (n d : Int) : (ofV n d).1.Ok := by
  by_cases h : (ofV n d).2 = 0
  · exact (ofV_right h).ok
  · have : (ofV n d).1 = ⟨0, 0⟩ := by
      unfold ofV at *
      split
      · rfl
      · split
        · rfl
        · rename_i h1 h2; rw [if_neg h1, if_neg h2] at h; exact absurd rfl h
    rw [this]; exact rt_lit (by omega)
theorem addV_ok (a b : Rt) : (addV a b).1.Ok := by
  unfold addV
  split
  · exact ofV_fst_ok _ _
  · exact rt_lit (by omega)
theorem subV_ok (a b : Rt) : (subV a b).1.Ok := by
  unfold subV
  split
  · exact ofV_fst_ok _ _
  · exact rt_lit (by omega)
theorem sgn_three (a b : Int) : sgn a b = -1 ∨ sgn a b = 0 ∨ sgn a b = 1 := by unfold sgn; split <;> (try split) <;> omega
theorem cmpV_three (a b : Rt) : cmpV a b = -1 ∨ cmpV a b = 0 ∨ cmpV a b = 1 := by
  unfold cmpV; split
  · exact sgn_three _ _
  · exact .inr (.inl rfl)
set_option maxHeartbeats 8000000 in
set_option maxRecDepth 100000 in
theorem order_any (x0 x1 x2 x3 x4 x5 : Int) (i0 : I64 x0) (i1 : I64 x1) (i2 : I64 x2) (i3 : I64 x3) (i4 : I64 x4) (i5 : I64 x5) (w : World) (ht : Sane w) :
    Calls Tryd.prog 7 #[.agg #[.int .i64 x0, .int .i64 x1, .int .i64 x2, .int .i64 x3, .int .i64 x4, .int .i64 x5]] w fun x w' => x = .returned (.bool true) ∧ RowKit.Below w.heap.size w w' := by
  have hbw := below_alloc1 w (.cells #[.int .i64 x0, .int .i64 x1, .int .i64 x2, .int .i64 x3, .int .i64 x4, .int .i64 x5] 50)
  have h0 : (w.alloc (.cells #[.int .i64 x0, .int .i64 x1, .int .i64 x2, .int .i64 x3, .int .i64 x4, .int .i64 x5] 50)).cell? ⟨w.heap.size, 0, none⟩ = some (.int .i64 x0) := Lib.cell_of_heap (heap_alloc_new w _) 0
  have h1 : (w.alloc (.cells #[.int .i64 x0, .int .i64 x1, .int .i64 x2, .int .i64 x3, .int .i64 x4, .int .i64 x5] 50)).cell? ⟨w.heap.size, 1, none⟩ = some (.int .i64 x1) := Lib.cell_of_heap (heap_alloc_new w _) 1
  have h2 : (w.alloc (.cells #[.int .i64 x0, .int .i64 x1, .int .i64 x2, .int .i64 x3, .int .i64 x4, .int .i64 x5] 50)).cell? ⟨w.heap.size, 2, none⟩ = some (.int .i64 x2) := Lib.cell_of_heap (heap_alloc_new w _) 2
  have h3 : (w.alloc (.cells #[.int .i64 x0, .int .i64 x1, .int .i64 x2, .int .i64 x3, .int .i64 x4, .int .i64 x5] 50)).cell? ⟨w.heap.size, 3, none⟩ = some (.int .i64 x3) := Lib.cell_of_heap (heap_alloc_new w _) 3
  have h4 : (w.alloc (.cells #[.int .i64 x0, .int .i64 x1, .int .i64 x2, .int .i64 x3, .int .i64 x4, .int .i64 x5] 50)).cell? ⟨w.heap.size, 4, none⟩ = some (.int .i64 x4) := Lib.cell_of_heap (heap_alloc_new w _) 4
  have h5 : (w.alloc (.cells #[.int .i64 x0, .int .i64 x1, .int .i64 x2, .int .i64 x3, .int .i64 x4, .int .i64 x5] 50)).cell? ⟨w.heap.size, 5, none⟩ = some (.int .i64 x5) := Lib.cell_of_heap (heap_alloc_new w _) 5
  have c0 := fun w => made_any x0 x1 i0 i1 w
  have c1 := fun w => made_any x2 x3 i2 i3 w
  have c2 := fun w => made_any x4 x5 i4 i5 w
  have rA := made_right x0 x1
  have rB := made_right x2 x3
  have rC := made_right x4 x5
  generalize madeV x0 x1 = A at c0 rA
  generalize madeV x2 x3 = B at c1 rB
  generalize madeV x4 x5 = C at c2 rC
  unfold Rt.val at c0 c1 c2
  go_enter Tryd.func7, Tryd.ntmps7
  go_wp2_with fail
  refine (sanity_any _ (ht.below hbw)).mono ?_
  rintro x w1 ⟨rfl, hb⟩
  replace h0 := mv0 hb h0
  replace h1 := mv0 hb h1
  replace h2 := mv0 hb h2
  replace h3 := mv0 hb h3
  replace h4 := mv0 hb h4
  replace h5 := mv0 hb h5
  replace hbw := below_next hbw hb
  clear hb ht i0 i1 i2 i3 i4 i5
  go_wp2_with fail
  refine ord_r2 w.heap.size x0 x1 x2 x3 x4 x5 A B C _ _ h0 h1 h2 h3 h4 h5 c0 c1 c2 ?_
  intro b0 b1 b2 w0 n01 n02 n12 hb z0 z1 z2 t0 t1 t2
  replace hbw := below_next hbw hb
  obtain ⟨fA0, fA1, -, -⟩ := id t0
  obtain ⟨fB0, fB1, -, -⟩ := id t1
  obtain ⟨fC0, fC1, -, -⟩ := id t2
  have zA := t0.lt
  have zB := t1.lt
  have zC := t2.lt
  clear hb t0 t1 t2 z0 z1 z2 h0 h1 h2 h3 h4 h5 c0 c1 c2 n01 n02 n12
  -- the sums
  have oX := addV_ok A B
  have oD := subV_ok A B
  have hX := fun h => sub_add rA rB h
  have hD := fun h => cmp_sub rA rB h
  have e1 := fun w => add_any A B rA.ok rB.ok w
  have e2 := fun w => add_any B A rB.ok rA.ok w
  rw [add_comm' B A] at e2
  have e3 := fun w => mul_any A B rA.ok rB.ok w
  have e4 := fun w => mul_any B A rB.ok rA.ok w
  rw [mul_comm' B A] at e4
  have e5 := fun w => sub_any (addV A B).1 B oX rB.ok w
  have e6 := fun w => sub_any A B rA.ok rB.ok w
  have e7 := fun w => cmp_any (subV A B).1 ⟨0, 1⟩ oD (rt_lit (by omega)) w
  have e8 := fun w => cmp_any A B rA.ok rB.ok w
  have e9 := fun w => cmp_any B C rB.ok rC.ok w
  have e10 := fun w => cmp_any A C rA.ok rC.ok w
  have e11 := fun w => cmp_any B A rB.ok rA.ok w
  rw [cmp_anti] at e11
  have e12 := fun w => cmp_any A A rA.ok rA.ok w
  rw [cmp_self] at e12
  have s0 := fun h => cmp_zero rA rB h
  have s1 := fun h k => cmp_up rA rB rC h k
  have s2 := fun h k => cmp_down rA rB rC h k
  have v1 := cmpV_three A B
  have v2 := cmpV_three B C
  have v3 := cmpV_three A C
  generalize hcD : cmpV (subV A B).1 ⟨0, 1⟩ = cD at e7 hD
  generalize cmpV A B = o at *
  generalize cmpV B C = t at *
  generalize cmpV A C = u at *
  generalize subV (addV A B).1 B = Y at e5 hX
  generalize addV A B = X at *
  generalize mulV A B = M at *
  generalize subV A B = D at *
  obtain ⟨⟨xn, xd⟩, xe⟩ := X
  obtain ⟨⟨mn, md⟩, me⟩ := M
  obtain ⟨⟨dn, dd⟩, de⟩ := D
  obtain ⟨⟨yn, yd⟩, ye⟩ := Y
  obtain ⟨an, ad⟩ := A
  obtain ⟨bn, bd⟩ := B
  obtain ⟨cn, cd⟩ := C
  unfold Rt.val at *
  dsimp only at *
  clear rA rB rC oX oD hcD
  have HX := Lib.hid hX
  have HD := Lib.hid hD
  have S0 := Lib.hid s0
  have S1 := Lib.hid s1
  have S2 := Lib.hid s2
  have V1h := Lib.hid v1
  have V2h := Lib.hid v2
  have V3h := Lib.hid v3
  clear hX hD s0 s1 s2 v1 v2 v3
  go_wp2_with fail
  refine (e1 _).mono ?_
  rintro x w11 ⟨rfl, hb⟩
  replace fA0 := mv0 hb fA0
  replace fA1 := mv0 hb fA1
  replace fB0 := mv0 hb fB0
  replace fB1 := mv0 hb fB1
  replace fC0 := mv0 hb fC0
  replace fC1 := mv0 hb fC1
  replace zA := mz0 hb zA
  replace zB := mz0 hb zB
  replace zC := mz0 hb zC
  replace hbw := mb0 hbw hb
  clear hb
  go_wp2_with fail
  refine (e2 _).mono ?_
  rintro x w12 ⟨rfl, hb⟩
  replace fA0 := mv1 hb fA0
  replace fA1 := mv1 hb fA1
  replace fB0 := mv1 hb fB0
  replace fB1 := mv1 hb fB1
  replace fC0 := mv1 hb fC0
  replace fC1 := mv1 hb fC1
  replace zA := mz1 hb zA
  replace zB := mz1 hb zB
  replace zC := mz1 hb zC
  have fX0 : w12.cell? ⟨w11.heap.size, 0, none⟩ = some (.int .i64 xn) := ((bcell hb).1 _ _ (by simp <;> omega)).trans (by simp [go_sem])
  have fX1 : w12.cell? ⟨w11.heap.size, 1, none⟩ = some (.int .i64 xd) := ((bcell hb).1 _ _ (by simp <;> omega)).trans (by simp [go_sem])
  have zX : w11.heap.size < w12.heap.size := by have := hb.size; simp at this; omega
  replace hbw := mb1 hbw hb
  clear hb
  go_wp2_with fail
  refine (e3 _).mono ?_
  rintro x w13 ⟨rfl, hb⟩
  replace fA0 := mv1 hb fA0
  replace fA1 := mv1 hb fA1
  replace fB0 := mv1 hb fB0
  replace fB1 := mv1 hb fB1
  replace fC0 := mv1 hb fC0
  replace fC1 := mv1 hb fC1
  replace fX0 := mv1 hb fX0
  replace fX1 := mv1 hb fX1
  replace zA := mz1 hb zA
  replace zB := mz1 hb zB
  replace zC := mz1 hb zC
  replace zX := mz1 hb zX
  have fZ0 : w13.cell? ⟨w12.heap.size, 0, none⟩ = some (.int .i64 xn) := ((bcell hb).1 _ _ (by simp <;> omega)).trans (by simp [go_sem])
  have fZ1 : w13.cell? ⟨w12.heap.size, 1, none⟩ = some (.int .i64 xd) := ((bcell hb).1 _ _ (by simp <;> omega)).trans (by simp [go_sem])
  have zZ : w12.heap.size < w13.heap.size := by have := hb.size; simp at this; omega
  replace hbw := mb1 hbw hb
  clear hb
  go_wp2_with fail
  refine (e4 _).mono ?_
  rintro x w14 ⟨rfl, hb⟩
  replace fA0 := mv1 hb fA0
  replace fA1 := mv1 hb fA1
  replace fB0 := mv1 hb fB0
  replace fB1 := mv1 hb fB1
  replace fC0 := mv1 hb fC0
  replace fC1 := mv1 hb fC1
  replace fX0 := mv1 hb fX0
  replace fX1 := mv1 hb fX1
  replace fZ0 := mv1 hb fZ0
  replace fZ1 := mv1 hb fZ1
  replace zA := mz1 hb zA
  replace zB := mz1 hb zB
  replace zC := mz1 hb zC
  replace zX := mz1 hb zX
  replace zZ := mz1 hb zZ
  have fM0 : w14.cell? ⟨w13.heap.size, 0, none⟩ = some (.int .i64 mn) := ((bcell hb).1 _ _ (by simp <;> omega)).trans (by simp [go_sem])
  have fM1 : w14.cell? ⟨w13.heap.size, 1, none⟩ = some (.int .i64 md) := ((bcell hb).1 _ _ (by simp <;> omega)).trans (by simp [go_sem])
  have zM : w13.heap.size < w14.heap.size := by have := hb.size; simp at this; omega
  replace hbw := mb1 hbw hb
  clear hb
  go_wp2_with fail
  refine (e5 _).mono ?_
  rintro x w15 ⟨rfl, hb⟩
  replace fA0 := mv1 hb fA0
  replace fA1 := mv1 hb fA1
  replace fB0 := mv1 hb fB0
  replace fB1 := mv1 hb fB1
  replace fC0 := mv1 hb fC0
  replace fC1 := mv1 hb fC1
  replace fX0 := mv1 hb fX0
  replace fX1 := mv1 hb fX1
  replace fZ0 := mv1 hb fZ0
  replace fZ1 := mv1 hb fZ1
  replace fM0 := mv1 hb fM0
  replace fM1 := mv1 hb fM1
  replace zA := mz1 hb zA
  replace zB := mz1 hb zB
  replace zC := mz1 hb zC
  replace zX := mz1 hb zX
  replace zZ := mz1 hb zZ
  replace zM := mz1 hb zM
  have fN0 : w15.cell? ⟨w14.heap.size, 0, none⟩ = some (.int .i64 mn) := ((bcell hb).1 _ _ (by simp <;> omega)).trans (by simp [go_sem])
  have fN1 : w15.cell? ⟨w14.heap.size, 1, none⟩ = some (.int .i64 md) := ((bcell hb).1 _ _ (by simp <;> omega)).trans (by simp [go_sem])
  have zN : w14.heap.size < w15.heap.size := by have := hb.size; simp at this; omega
  replace hbw := mb1 hbw hb
  clear hb
  go_upto_region 10 with fail
  have hYn := pair_at w15 (.int .i64 yn) (.int .i64 yd) 24
  replace fA0 := mv0 (below_alloc1 w15 (.cells #[.int .i64 yn, .int .i64 yd] 24)) fA0
  replace fA1 := mv0 (below_alloc1 w15 (.cells #[.int .i64 yn, .int .i64 yd] 24)) fA1
  replace fB0 := mv0 (below_alloc1 w15 (.cells #[.int .i64 yn, .int .i64 yd] 24)) fB0
  replace fB1 := mv0 (below_alloc1 w15 (.cells #[.int .i64 yn, .int .i64 yd] 24)) fB1
  replace fC0 := mv0 (below_alloc1 w15 (.cells #[.int .i64 yn, .int .i64 yd] 24)) fC0
  replace fC1 := mv0 (below_alloc1 w15 (.cells #[.int .i64 yn, .int .i64 yd] 24)) fC1
  replace fX0 := mv0 (below_alloc1 w15 (.cells #[.int .i64 yn, .int .i64 yd] 24)) fX0
  replace fX1 := mv0 (below_alloc1 w15 (.cells #[.int .i64 yn, .int .i64 yd] 24)) fX1
  replace fZ0 := mv0 (below_alloc1 w15 (.cells #[.int .i64 yn, .int .i64 yd] 24)) fZ0
  replace fZ1 := mv0 (below_alloc1 w15 (.cells #[.int .i64 yn, .int .i64 yd] 24)) fZ1
  replace fM0 := mv0 (below_alloc1 w15 (.cells #[.int .i64 yn, .int .i64 yd] 24)) fM0
  replace fM1 := mv0 (below_alloc1 w15 (.cells #[.int .i64 yn, .int .i64 yd] 24)) fM1
  replace fN0 := mv0 (below_alloc1 w15 (.cells #[.int .i64 yn, .int .i64 yd] 24)) fN0
  replace fN1 := mv0 (below_alloc1 w15 (.cells #[.int .i64 yn, .int .i64 yd] 24)) fN1
  replace zA := mz0 (below_alloc1 w15 (.cells #[.int .i64 yn, .int .i64 yd] 24)) zA
  replace zB := mz0 (below_alloc1 w15 (.cells #[.int .i64 yn, .int .i64 yd] 24)) zB
  replace zC := mz0 (below_alloc1 w15 (.cells #[.int .i64 yn, .int .i64 yd] 24)) zC
  replace zX := mz0 (below_alloc1 w15 (.cells #[.int .i64 yn, .int .i64 yd] 24)) zX
  replace zZ := mz0 (below_alloc1 w15 (.cells #[.int .i64 yn, .int .i64 yd] 24)) zZ
  replace zM := mz0 (below_alloc1 w15 (.cells #[.int .i64 yn, .int .i64 yd] 24)) zM
  replace zN := mz0 (below_alloc1 w15 (.cells #[.int .i64 yn, .int .i64 yd] 24)) zN
  replace hbw := below_next hbw (below_alloc1 w15 (.cells #[.int .i64 yn, .int .i64 yd] 24))
  have zY : w15.heap.size < (w15.alloc (.cells #[.int .i64 yn, .int .i64 yd] 24)).heap.size := by simp
  obtain ⟨fY0, fY1⟩ := hYn
  generalize w15.alloc (.cells #[.int .i64 yn, .int .i64 yd] 24) = V1 at *
  generalize w15.heap.size = pY at *
  refine ord_r10 pY b0 xe ye yn yd an ad V1 _ (fun h => by have := HX.out h; simp only [Prod.mk.injEq, Rt.mk.injEq] at this; exact ⟨this.2, this.1.1, this.1.2⟩) fY0 fY1 fA0 fA1 ?_
  intro _ _ _ _ _ _ _ _ _ _
  go_wp2_with fail
  refine (e6 _).mono ?_
  rintro x w16 ⟨rfl, hb⟩
  replace fA0 := mv0 hb fA0
  replace fA1 := mv0 hb fA1
  replace fB0 := mv0 hb fB0
  replace fB1 := mv0 hb fB1
  replace fC0 := mv0 hb fC0
  replace fC1 := mv0 hb fC1
  replace fX0 := mv0 hb fX0
  replace fX1 := mv0 hb fX1
  replace fZ0 := mv0 hb fZ0
  replace fZ1 := mv0 hb fZ1
  replace fM0 := mv0 hb fM0
  replace fM1 := mv0 hb fM1
  replace fN0 := mv0 hb fN0
  replace fN1 := mv0 hb fN1
  replace fY0 := mv0 hb fY0
  replace fY1 := mv0 hb fY1
  replace zA := mz0 hb zA
  replace zB := mz0 hb zB
  replace zC := mz0 hb zC
  replace zX := mz0 hb zX
  replace zZ := mz0 hb zZ
  replace zM := mz0 hb zM
  replace zN := mz0 hb zN
  replace zY := mz0 hb zY
  replace hbw := mb0 hbw hb
  clear hb
  go_wp2_with fail
  have hDn := pair_at w16 (.int .i64 dn) (.int .i64 dd) 24
  replace fA0 := mv0 (below_alloc1 w16 (.cells #[.int .i64 dn, .int .i64 dd] 24)) fA0
  replace fA1 := mv0 (below_alloc1 w16 (.cells #[.int .i64 dn, .int .i64 dd] 24)) fA1
  replace fB0 := mv0 (below_alloc1 w16 (.cells #[.int .i64 dn, .int .i64 dd] 24)) fB0
  replace fB1 := mv0 (below_alloc1 w16 (.cells #[.int .i64 dn, .int .i64 dd] 24)) fB1
  replace fC0 := mv0 (below_alloc1 w16 (.cells #[.int .i64 dn, .int .i64 dd] 24)) fC0
  replace fC1 := mv0 (below_alloc1 w16 (.cells #[.int .i64 dn, .int .i64 dd] 24)) fC1
  replace fX0 := mv0 (below_alloc1 w16 (.cells #[.int .i64 dn, .int .i64 dd] 24)) fX0
  replace fX1 := mv0 (below_alloc1 w16 (.cells #[.int .i64 dn, .int .i64 dd] 24)) fX1
  replace fZ0 := mv0 (below_alloc1 w16 (.cells #[.int .i64 dn, .int .i64 dd] 24)) fZ0
  replace fZ1 := mv0 (below_alloc1 w16 (.cells #[.int .i64 dn, .int .i64 dd] 24)) fZ1
  replace fM0 := mv0 (below_alloc1 w16 (.cells #[.int .i64 dn, .int .i64 dd] 24)) fM0
  replace fM1 := mv0 (below_alloc1 w16 (.cells #[.int .i64 dn, .int .i64 dd] 24)) fM1
  replace fN0 := mv0 (below_alloc1 w16 (.cells #[.int .i64 dn, .int .i64 dd] 24)) fN0
  replace fN1 := mv0 (below_alloc1 w16 (.cells #[.int .i64 dn, .int .i64 dd] 24)) fN1
  replace fY0 := mv0 (below_alloc1 w16 (.cells #[.int .i64 dn, .int .i64 dd] 24)) fY0
  replace fY1 := mv0 (below_alloc1 w16 (.cells #[.int .i64 dn, .int .i64 dd] 24)) fY1
  replace zA := mz0 (below_alloc1 w16 (.cells #[.int .i64 dn, .int .i64 dd] 24)) zA
  replace zB := mz0 (below_alloc1 w16 (.cells #[.int .i64 dn, .int .i64 dd] 24)) zB
  replace zC := mz0 (below_alloc1 w16 (.cells #[.int .i64 dn, .int .i64 dd] 24)) zC
  replace zX := mz0 (below_alloc1 w16 (.cells #[.int .i64 dn, .int .i64 dd] 24)) zX
  replace zZ := mz0 (below_alloc1 w16 (.cells #[.int .i64 dn, .int .i64 dd] 24)) zZ
  replace zM := mz0 (below_alloc1 w16 (.cells #[.int .i64 dn, .int .i64 dd] 24)) zM
  replace zN := mz0 (below_alloc1 w16 (.cells #[.int .i64 dn, .int .i64 dd] 24)) zN
  replace zY := mz0 (below_alloc1 w16 (.cells #[.int .i64 dn, .int .i64 dd] 24)) zY
  replace hbw := below_next hbw (below_alloc1 w16 (.cells #[.int .i64 dn, .int .i64 dd] 24))
  obtain ⟨fD0, fD1⟩ := hDn
  generalize w16.alloc (.cells #[.int .i64 dn, .int .i64 dd] 24) = V2 at *
  generalize w16.heap.size = pD at *
  refine ord_r13 pD b0 b1 de dn dd an ad bn bd cD o V2 _ HD.out e7 e8 fD0 fD1 fA0 fA1 fB0 fB1 ?_
  intro _ _ _ _ _ _ _ _ _ _ V3 hb
  replace fA0 := mv0 hb fA0
  replace fA1 := mv0 hb fA1
  replace fB0 := mv0 hb fB0
  replace fB1 := mv0 hb fB1
  replace fC0 := mv0 hb fC0
  replace fC1 := mv0 hb fC1
  replace zA := mz0 hb zA
  replace zB := mz0 hb zB
  replace zC := mz0 hb zC
  replace hbw := below_next hbw hb
  clear hb fD0 fD1 fX0 fX1 fZ0 fZ1 fM0 fM1 fN0 fN1 fY0 fY1 zX zZ zM zN zY
  go_wp2_with fail
  have hS0 := six_next ⟨Below.refl V3.heap.size V3, fA0, fA1, fB0, fB1, fC0, fC1⟩ (Below.refl _ _).drew
  refine of_onlyN ?_ (fun _ _ h => h)
  refine wp_region_flow (S := fun w' => RowKit.Below V3.heap.size V3 w' ∧ w'.cell? ⟨b0, 0, none⟩ = some (.int .i64 an) ∧ w'.cell? ⟨b0, 1, none⟩ = some (.int .i64 ad) ∧ w'.cell? ⟨b1, 0, none⟩ = some (.int .i64 bn) ∧ w'.cell? ⟨b1, 1, none⟩ = some (.int .i64 bd) ∧ w'.cell? ⟨b2, 0, none⟩ = some (.int .i64 cn) ∧ w'.cell? ⟨b2, 1, none⟩ = some (.int .i64 cd)) [(0, true), (1, true), (3, true), (4, true), (6, true), (7, true), (2, false), (5, false), (8, false), (9, true), (10, true), (11, true)] (by kernel_rfl) (by kernel_rfl) (by kernel_rfl) (by decide) (hS0) ?_
  have hS := hS0
  refine flow_take ⟨some 120, _, _, _, _, _⟩ ?_ rfl (by rfl) ?_ ?_
  rotate_left 1
  · intro w hSw; (try dsimp only at hSw); go_simp; (try with_reducible rfl)
  simp only [Act.put, List.setIfInBounds_toArray, List.set_cons_zero, List.set_cons_succ]
  refine flow_take ⟨some 121, _, _, _, _, _⟩ ?_ rfl (by rfl) ?_ ?_
  rotate_left 1
  · intro w hSw; (try dsimp only at hSw); go_simp; (try with_reducible rfl)
  simp only [Act.put, List.setIfInBounds_toArray, List.set_cons_zero, List.set_cons_succ]
  refine flow_take ⟨some 123, _, _, _, _, _⟩ ?_ rfl (by rfl) ?_ ?_
  rotate_left 1
  · intro w hSw; (try dsimp only at hSw); go_simp; (try with_reducible rfl)
  simp only [Act.put, List.setIfInBounds_toArray, List.set_cons_zero, List.set_cons_succ]
  refine flow_take ⟨some 124, _, _, _, _, _⟩ ?_ rfl (by rfl) ?_ ?_
  rotate_left 1
  · intro w hSw; (try dsimp only at hSw); go_simp; (try with_reducible rfl)
  simp only [Act.put, List.setIfInBounds_toArray, List.set_cons_zero, List.set_cons_succ]
  refine flow_take ⟨some 126, _, _, _, _, _⟩ ?_ rfl (by rfl) ?_ ?_
  rotate_left 1
  · intro w hSw; (try dsimp only at hSw); go_simp; (try with_reducible rfl)
  simp only [Act.put, List.setIfInBounds_toArray, List.set_cons_zero, List.set_cons_succ]
  refine flow_take ⟨some 127, _, _, _, _, _⟩ ?_ rfl (by rfl) ?_ ?_
  rotate_left 1
  · intro w hSw; (try dsimp only at hSw); go_simp; (try with_reducible rfl)
  simp only [Act.put, List.setIfInBounds_toArray, List.set_cons_zero, List.set_cons_succ]
  (first | (refine flow_call ⟨some 122, _, _, _, _, _⟩ rfl (by rfl) 24 _ _ (by rfl) _ (by rfl) Tryd.call24 (e8 _) ?_; rintro x wn ⟨rfl, hb⟩; replace hS := six_next hS hb; refine ⟨_, rfl, hS, ?_⟩; (try clear hb)) | (refine flow_call ⟨some 122, _, _, _, _, _⟩ rfl (by rfl) 24 _ _ (by rfl) _ (by rfl) Tryd.call24 (e9 _) ?_; rintro x wn ⟨rfl, hb⟩; replace hS := six_next hS hb; refine ⟨_, rfl, hS, ?_⟩; (try clear hb)) | (refine flow_call ⟨some 122, _, _, _, _, _⟩ rfl (by rfl) 24 _ _ (by rfl) _ (by rfl) Tryd.call24 (e10 _) ?_; rintro x wn ⟨rfl, hb⟩; replace hS := six_next hS hb; refine ⟨_, rfl, hS, ?_⟩; (try clear hb)))
  simp only [Act.put, List.setIfInBounds_toArray, List.set_cons_zero, List.set_cons_succ]
  (first | (refine flow_call ⟨some 125, _, _, _, _, _⟩ rfl (by rfl) 24 _ _ (by rfl) _ (by rfl) Tryd.call24 (e8 _) ?_; rintro x wn ⟨rfl, hb⟩; replace hS := six_next hS hb; refine ⟨_, rfl, hS, ?_⟩; (try clear hb)) | (refine flow_call ⟨some 125, _, _, _, _, _⟩ rfl (by rfl) 24 _ _ (by rfl) _ (by rfl) Tryd.call24 (e9 _) ?_; rintro x wn ⟨rfl, hb⟩; replace hS := six_next hS hb; refine ⟨_, rfl, hS, ?_⟩; (try clear hb)) | (refine flow_call ⟨some 125, _, _, _, _, _⟩ rfl (by rfl) 24 _ _ (by rfl) _ (by rfl) Tryd.call24 (e10 _) ?_; rintro x wn ⟨rfl, hb⟩; replace hS := six_next hS hb; refine ⟨_, rfl, hS, ?_⟩; (try clear hb)))
  simp only [Act.put, List.setIfInBounds_toArray, List.set_cons_zero, List.set_cons_succ]
  (first | (refine flow_call ⟨some 128, _, _, _, _, _⟩ rfl (by rfl) 24 _ _ (by rfl) _ (by rfl) Tryd.call24 (e8 _) ?_; rintro x wn ⟨rfl, hb⟩; replace hS := six_next hS hb; refine ⟨_, rfl, hS, ?_⟩; (try clear hb)) | (refine flow_call ⟨some 128, _, _, _, _, _⟩ rfl (by rfl) 24 _ _ (by rfl) _ (by rfl) Tryd.call24 (e9 _) ?_; rintro x wn ⟨rfl, hb⟩; replace hS := six_next hS hb; refine ⟨_, rfl, hS, ?_⟩; (try clear hb)) | (refine flow_call ⟨some 128, _, _, _, _, _⟩ rfl (by rfl) 24 _ _ (by rfl) _ (by rfl) Tryd.call24 (e10 _) ?_; rintro x wn ⟨rfl, hb⟩; replace hS := six_next hS hb; refine ⟨_, rfl, hS, ?_⟩; (try clear hb)))
  simp only [Act.put, List.setIfInBounds_toArray, List.set_cons_zero, List.set_cons_succ]
  refine flow_take ⟨some 19, _, _, _, _, _⟩ ?_ rfl (by rfl) ?_ ?_
  rotate_left 1
  · intro w hSw; (try dsimp only at hSw); go_simp; (try with_reducible rfl)
  simp only [Act.put, List.setIfInBounds_toArray, List.set_cons_zero, List.set_cons_succ]
  refine flow_take ⟨some 20, _, _, _, _, _⟩ ?_ rfl (by rfl) ?_ ?_
  rotate_left 1
  · intro w hSw; (try dsimp only at hSw); go_simp; (try with_reducible rfl)
  simp only [Act.put, List.setIfInBounds_toArray, List.set_cons_zero, List.set_cons_succ]
  refine flow_take ⟨some 21, _, _, _, _, _⟩ ?_ rfl (by rfl) ?_ ?_
  rotate_left 1
  · intro w hSw; (try dsimp only at hSw); go_simp; (try with_reducible rfl)
  simp only [Act.put, List.setIfInBounds_toArray, List.set_cons_zero, List.set_cons_succ]
  simp only [wpFlow, OnlyN]
  replace hbw := hbw.trans (hS.1.mono hbw.size)
  obtain ⟨-, fA0, fA1, fB0, fB1, -, -⟩ := hS
  go_upto_region 16 with fail
  refine ord_r16 b0 b1 an ad bn bd o t u _ _ (fun h => by have := S0.out h; simp only [Rt.mk.injEq] at this; exact this) S1.out S2.out V1h.out V2h.out V3h.out e11 fA0 fA1 fB0 fB1 ?_
  intro _ _ _ _ _ _ _ _ _ _ _ _ _ _ _ _ _ _ _ _ _ _ _ _ _ _ _ _ _ _ _ _ _ _ _ _ _ _ V4 hb
  replace fA0 := mv0 hb fA0
  replace fA1 := mv0 hb fA1
  replace hbw := below_next hbw hb
  clear hb
  go_wp2_with fail
  refine (e12 _).mono ?_
  rintro x V5 ⟨rfl, hb⟩
  replace hbw := below_next hbw hb
  go_wp2_with fail
  go_ret
  exact ⟨rfl, hbw⟩
end Go.Proofs.YtmbjoenegcnoiaaDoor
