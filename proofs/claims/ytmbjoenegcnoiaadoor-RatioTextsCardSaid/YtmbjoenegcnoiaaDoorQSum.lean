/- Add, Sub, Mul, Cmp, of the project and of the reference: each walked once. -/
import Derived.Test.YtmbjoenegcnoiaaDoorQOf
namespace Go.Proofs.YtmbjoenegcnoiaaDoor
open Go Go.RowKit Go.Sort Go.Lib

theorem mul_bd {x y A B : Int} (h1 : -A ≤ x) (h2 : x ≤ A) (h3 : 0 ≤ y) (h4 : y ≤ B) (hA : 0 ≤ A) : -(A * B) ≤ x * y ∧ x * y ≤ A * B := by
  have e1 := Int.mul_le_mul_of_nonneg_right h1 h3
  have e2 := Int.mul_le_mul_of_nonneg_right h2 h3
  have e3 := Int.mul_le_mul_of_nonneg_left h4 hA
  rw [Int.neg_mul] at e1
  omega
theorem prod_bd {a b : Rt} (h1 : Right a) (h2 : Right b) : (-1152921504606846976 ≤ a.n * b.d ∧ a.n * b.d ≤ 1152921504606846976) ∧ (-1152921504606846976 ≤ b.n * a.d ∧ b.n * a.d ≤ 1152921504606846976) ∧ (0 ≤ a.d * b.d ∧ a.d * b.d ≤ 1152921504606846976) ∧ (-1152921504606846976 ≤ a.n * b.n ∧ a.n * b.n ≤ 1152921504606846976) := by
  obtain ⟨p1, p2, p3, p4, _⟩ := h1
  obtain ⟨q1, q2, q3, q4, _⟩ := h2
  refine ⟨mul_bd p3 p4 (by omega) q2 (by omega), mul_bd q3 q4 (by omega) p2 (by omega), ⟨Int.mul_nonneg (by omega) (by omega), (mul_bd (by omega) p2 (by omega) q2 (by omega)).2⟩, ?_⟩
  rcases Int.le_total 0 b.n with h | h
  · exact mul_bd p3 p4 h q4 (by omega)
  · have := mul_bd (x := a.n) (y := -b.n) (B := 1073741824) p3 p4 (by omega) (by omega) (by omega)
    rw [Int.mul_neg] at this; omega

/-- Three boxes at the walk's begin: two ratios, and the result. -/
structure Three (w : World) (a b : Rt) (W : World) : Prop where
  c0 : W.cell? ⟨w.heap.size, 0, none⟩ = some (.int .i64 a.n)
  c1 : W.cell? ⟨w.heap.size, 1, none⟩ = some (.int .i64 a.d)
  c2 : W.cell? ⟨w.heap.size + 1, 0, none⟩ = some (.int .i64 b.n)
  c3 : W.cell? ⟨w.heap.size + 1, 1, none⟩ = some (.int .i64 b.d)
  c4 : W.cell? ⟨w.heap.size + 1 + 1, 0, none⟩ = some (.int .i64 0)
  c5 : W.cell? ⟨w.heap.size + 1 + 1, 1, none⟩ = some (.int .i64 0)
  f : W.frozen? ⟨w.heap.size + 1 + 1, 0, none⟩ = false
  f' : W.frozen? ⟨w.heap.size + 1 + 1, 1, none⟩ = false
  z : w.heap.size + 1 + 1 < W.heap.size
  z1 : w.heap.size + 1 < W.heap.size
  z2 : w.heap.size < W.heap.size
  below : RowKit.Below w.heap.size w W
theorem Three.next {w W W' : World} {a b : Rt} (h : Three w a b W) (hb : RowKit.Below W.heap.size W W') : Three w a b W' := by
  obtain ⟨hc, hf⟩ := bcell hb
  have hs := hb.size
  exact ⟨(hc _ _ h.z2).trans h.c0, (hc _ _ h.z2).trans h.c1, (hc _ _ h.z1).trans h.c2, (hc _ _ h.z1).trans h.c3, (hc _ _ h.z).trans h.c4, (hc _ _ h.z).trans h.c5, (hf _ _ h.z).trans h.f, (hf _ _ h.z).trans h.f', Nat.lt_of_lt_of_le h.z hs, Nat.lt_of_lt_of_le h.z1 hs, Nat.lt_of_lt_of_le h.z2 hs, h.below.trans (hb.mono h.below.size)⟩
theorem three_new (w : World) (a b : Rt) : Three w a b (((w.alloc (.cells #[.int .i64 a.n, .int .i64 a.d] 24)).alloc (.cells #[.int .i64 b.n, .int .i64 b.d] 24)).alloc (.cells #[.int .i64 0, .int .i64 0] 24)) :=
  ⟨by simp [go_sem], by simp [go_sem], by simp [go_sem], by simp [go_sem], by simp [go_sem], by simp [go_sem], by simp [go_sem], by simp [go_sem], by simp, by simp, by simp; omega, (((Below.refl _ _).alloc (Nat.le_refl _) _).alloc (by simp) _).alloc (by simp; omega) _⟩

set_option maxHeartbeats 1000000 in
theorem add_any (a b : Rt) (ha : a.Ok) (hb : b.Ok) (w : World) :
    Calls Tryd.prog 20 #[a.val, b.val] w fun e w' => e = .returned (.tuple #[(addV a b).1.val, .int .i64 (addV a b).2]) ∧ RowKit.Below w.heap.size w w' := by
  have ra := fun w => right_any a ha w
  have rb := fun w => right_any b hb w
  by_cases h1 : Right a
  · by_cases h2 : Right b
    · have HV := Lib.hid (show addV a b = ofV (a.n * b.d + b.n * a.d) (a.d * b.d) from if_pos ⟨h1, h2⟩)
      rw [decide_eq_true h1] at ra
      rw [decide_eq_true h2] at rb
      obtain ⟨⟨B1, B2⟩, ⟨B3, B4⟩, ⟨B5, B6⟩, ⟨B7, B8⟩⟩ := prod_bd h1 h2
      have hI1 : I64 (a.n * b.d + b.n * a.d) := by unfold I64; omega
      have hI2 : I64 (a.d * b.d) := by unfold I64; omega
      have ro := fun w => of_any (a.n * b.d + b.n * a.d) (a.d * b.d) hI1 hI2 w
      clear h1 h2 ha hb hI1 hI2
      generalize ofV (a.n * b.d + b.n * a.d) (a.d * b.d) = X at ro HV
      obtain ⟨⟨n, d⟩, e⟩ := X
      rw [HV.out]
      unfold Rt.val at *
      dsimp only at *
      go_enter Tryd.func20, Tryd.ntmps20
      go_wp2_with fail
      have T := three_new w a b
      refine (ra _).mono ?_
      rintro x w1 ⟨rfl, hb1⟩
      replace T := T.next hb1
      clear hb1
      obtain ⟨c0, c1, c2, c3, c4, c5, f, f', hz, hz1, hz2, hbw⟩ := T
      go_wp2_with fail
      refine (rb _).mono ?_
      rintro x w2 ⟨rfl, hb2⟩
      have T := (⟨c0, c1, c2, c3, c4, c5, f, f', hz, hz1, hz2, hbw⟩ : Three w a b w1).next hb2
      clear hb2 c0 c1 c2 c3 c4 c5 f f' hz hz1 hz2 hbw
      obtain ⟨c0, c1, c2, c3, c4, c5, f, f', hz, hz1, hz2, hbw⟩ := T
      go_wp2_with fail
      refine (ro _).mono ?_
      rintro x w3 ⟨rfl, hb3⟩
      have T := (⟨c0, c1, c2, c3, c4, c5, f, f', hz, hz1, hz2, hbw⟩ : Three w a b w2).next hb3
      clear hb3 c0 c1 c2 c3 c4 c5 f f' hz hz1 hz2 hbw
      obtain ⟨c0, c1, c2, c3, c4, c5, f, f', hz, hz1, hz2, hbw⟩ := T
      go_wp2_with fail
      exact bodyPost_ret (v := .tuple #[.agg #[.int .i64 n, .int .i64 d], .int .i64 e]) (by simp [results, Tryd.results20, go_sem, c4, c5]) rfl ⟨rfl, (hbw.setCell (by simp; omega) _).setCell (by simp; omega) _⟩
    · have HV := Lib.hid (show addV a b = (⟨0, 0⟩, 1) from if_neg fun h => h2 h.2)
      rw [decide_eq_true h1] at ra
      rw [decide_eq_false h2] at rb
      clear h1 h2 ha hb
      unfold Rt.val at ra rb ⊢
      go_enter Tryd.func20, Tryd.ntmps20
      go_wp2_with fail
      have T := three_new w a b
      refine (ra _).mono ?_
      rintro x w1 ⟨rfl, hb1⟩
      replace T := T.next hb1
      clear hb1
      obtain ⟨c0, c1, c2, c3, c4, c5, f, f', hz, hz1, hz2, hbw⟩ := T
      go_wp2_with fail
      refine (rb _).mono ?_
      rintro x w2 ⟨rfl, hb2⟩
      have T := (⟨c0, c1, c2, c3, c4, c5, f, f', hz, hz1, hz2, hbw⟩ : Three w a b w1).next hb2
      clear hb2 c0 c1 c2 c3 c4 c5 f f' hz hz1 hz2 hbw
      obtain ⟨c0, c1, c2, c3, c4, c5, f, f', hz, hz1, hz2, hbw⟩ := T
      go_wp2_with fail
      exact bodyPost_ret (v := .tuple #[.agg #[.int .i64 0, .int .i64 0], .int .i64 1]) (by simp [results, Tryd.results20, go_sem, c4, c5]) rfl ⟨by rw [HV.out], (hbw.setCell (by simp; omega) _).setCell (by simp; omega) _⟩
  · have HV := Lib.hid (show addV a b = (⟨0, 0⟩, 1) from if_neg fun h => h1 h.1)
    rw [decide_eq_false h1] at ra
    clear h1 ha hb rb
    unfold Rt.val at ra ⊢
    go_enter Tryd.func20, Tryd.ntmps20
    go_wp2_with fail
    have T := three_new w a b
    refine (ra _).mono ?_
    rintro x w1 ⟨rfl, hb1⟩
    replace T := T.next hb1
    clear hb1
    obtain ⟨c0, c1, c2, c3, c4, c5, f, f', hz, hz1, hz2, hbw⟩ := T
    go_wp2_with fail
    exact bodyPost_ret (v := .tuple #[.agg #[.int .i64 0, .int .i64 0], .int .i64 1]) (by simp [results, Tryd.results20, go_sem, c4, c5]) rfl ⟨by rw [HV.out], (hbw.setCell (by simp; omega) _).setCell (by simp; omega) _⟩

set_option maxHeartbeats 1000000 in
theorem sub_any (a b : Rt) (ha : a.Ok) (hb : b.Ok) (w : World) :
    Calls Tryd.prog 22 #[a.val, b.val] w fun e w' => e = .returned (.tuple #[(subV a b).1.val, .int .i64 (subV a b).2]) ∧ RowKit.Below w.heap.size w w' := by
  have ra := fun w => right_any a ha w
  have rb := fun w => right_any b hb w
  by_cases h1 : Right a
  · by_cases h2 : Right b
    · have HV := Lib.hid (show subV a b = ofV (a.n * b.d - b.n * a.d) (a.d * b.d) from if_pos ⟨h1, h2⟩)
      rw [decide_eq_true h1] at ra
      rw [decide_eq_true h2] at rb
      obtain ⟨⟨B1, B2⟩, ⟨B3, B4⟩, ⟨B5, B6⟩, ⟨B7, B8⟩⟩ := prod_bd h1 h2
      have hI1 : I64 (a.n * b.d - b.n * a.d) := by unfold I64; omega
      have hI2 : I64 (a.d * b.d) := by unfold I64; omega
      have ro := fun w => of_any (a.n * b.d - b.n * a.d) (a.d * b.d) hI1 hI2 w
      clear h1 h2 ha hb hI1 hI2
      generalize ofV (a.n * b.d - b.n * a.d) (a.d * b.d) = X at ro HV
      obtain ⟨⟨n, d⟩, e⟩ := X
      rw [HV.out]
      unfold Rt.val at *
      dsimp only at *
      go_enter Tryd.func22, Tryd.ntmps22
      go_wp2_with fail
      have T := three_new w a b
      refine (ra _).mono ?_
      rintro x w1 ⟨rfl, hb1⟩
      replace T := T.next hb1
      clear hb1
      obtain ⟨c0, c1, c2, c3, c4, c5, f, f', hz, hz1, hz2, hbw⟩ := T
      go_wp2_with fail
      refine (rb _).mono ?_
      rintro x w2 ⟨rfl, hb2⟩
      have T := (⟨c0, c1, c2, c3, c4, c5, f, f', hz, hz1, hz2, hbw⟩ : Three w a b w1).next hb2
      clear hb2 c0 c1 c2 c3 c4 c5 f f' hz hz1 hz2 hbw
      obtain ⟨c0, c1, c2, c3, c4, c5, f, f', hz, hz1, hz2, hbw⟩ := T
      go_wp2_with fail
      refine (ro _).mono ?_
      rintro x w3 ⟨rfl, hb3⟩
      have T := (⟨c0, c1, c2, c3, c4, c5, f, f', hz, hz1, hz2, hbw⟩ : Three w a b w2).next hb3
      clear hb3 c0 c1 c2 c3 c4 c5 f f' hz hz1 hz2 hbw
      obtain ⟨c0, c1, c2, c3, c4, c5, f, f', hz, hz1, hz2, hbw⟩ := T
      go_wp2_with fail
      exact bodyPost_ret (v := .tuple #[.agg #[.int .i64 n, .int .i64 d], .int .i64 e]) (by simp [results, Tryd.results22, go_sem, c4, c5]) rfl ⟨rfl, (hbw.setCell (by simp; omega) _).setCell (by simp; omega) _⟩
    · have HV := Lib.hid (show subV a b = (⟨0, 0⟩, 1) from if_neg fun h => h2 h.2)
      rw [decide_eq_true h1] at ra
      rw [decide_eq_false h2] at rb
      clear h1 h2 ha hb
      unfold Rt.val at ra rb ⊢
      go_enter Tryd.func22, Tryd.ntmps22
      go_wp2_with fail
      have T := three_new w a b
      refine (ra _).mono ?_
      rintro x w1 ⟨rfl, hb1⟩
      replace T := T.next hb1
      clear hb1
      obtain ⟨c0, c1, c2, c3, c4, c5, f, f', hz, hz1, hz2, hbw⟩ := T
      go_wp2_with fail
      refine (rb _).mono ?_
      rintro x w2 ⟨rfl, hb2⟩
      have T := (⟨c0, c1, c2, c3, c4, c5, f, f', hz, hz1, hz2, hbw⟩ : Three w a b w1).next hb2
      clear hb2 c0 c1 c2 c3 c4 c5 f f' hz hz1 hz2 hbw
      obtain ⟨c0, c1, c2, c3, c4, c5, f, f', hz, hz1, hz2, hbw⟩ := T
      go_wp2_with fail
      exact bodyPost_ret (v := .tuple #[.agg #[.int .i64 0, .int .i64 0], .int .i64 1]) (by simp [results, Tryd.results22, go_sem, c4, c5]) rfl ⟨by rw [HV.out], (hbw.setCell (by simp; omega) _).setCell (by simp; omega) _⟩
  · have HV := Lib.hid (show subV a b = (⟨0, 0⟩, 1) from if_neg fun h => h1 h.1)
    rw [decide_eq_false h1] at ra
    clear h1 ha hb rb
    unfold Rt.val at ra ⊢
    go_enter Tryd.func22, Tryd.ntmps22
    go_wp2_with fail
    have T := three_new w a b
    refine (ra _).mono ?_
    rintro x w1 ⟨rfl, hb1⟩
    replace T := T.next hb1
    clear hb1
    obtain ⟨c0, c1, c2, c3, c4, c5, f, f', hz, hz1, hz2, hbw⟩ := T
    go_wp2_with fail
    exact bodyPost_ret (v := .tuple #[.agg #[.int .i64 0, .int .i64 0], .int .i64 1]) (by simp [results, Tryd.results22, go_sem, c4, c5]) rfl ⟨by rw [HV.out], (hbw.setCell (by simp; omega) _).setCell (by simp; omega) _⟩

set_option maxHeartbeats 1000000 in
theorem mul_any (a b : Rt) (ha : a.Ok) (hb : b.Ok) (w : World) :
    Calls Tryd.prog 26 #[a.val, b.val] w fun e w' => e = .returned (.tuple #[(mulV a b).1.val, .int .i64 (mulV a b).2]) ∧ RowKit.Below w.heap.size w w' := by
  have ra := fun w => right_any a ha w
  have rb := fun w => right_any b hb w
  by_cases h1 : Right a
  · by_cases h2 : Right b
    · have HV := Lib.hid (show mulV a b = ofV (a.n * b.n) (a.d * b.d) from if_pos ⟨h1, h2⟩)
      rw [decide_eq_true h1] at ra
      rw [decide_eq_true h2] at rb
      obtain ⟨⟨B1, B2⟩, ⟨B3, B4⟩, ⟨B5, B6⟩, ⟨B7, B8⟩⟩ := prod_bd h1 h2
      have hI1 : I64 (a.n * b.n) := by unfold I64; omega
      have hI2 : I64 (a.d * b.d) := by unfold I64; omega
      have ro := fun w => of_any (a.n * b.n) (a.d * b.d) hI1 hI2 w
      clear h1 h2 ha hb hI1 hI2
      generalize ofV (a.n * b.n) (a.d * b.d) = X at ro HV
      obtain ⟨⟨n, d⟩, e⟩ := X
      rw [HV.out]
      unfold Rt.val at *
      dsimp only at *
      go_enter Tryd.func26, Tryd.ntmps26
      go_wp2_with fail
      have T := three_new w a b
      refine (ra _).mono ?_
      rintro x w1 ⟨rfl, hb1⟩
      replace T := T.next hb1
      clear hb1
      obtain ⟨c0, c1, c2, c3, c4, c5, f, f', hz, hz1, hz2, hbw⟩ := T
      go_wp2_with fail
      refine (rb _).mono ?_
      rintro x w2 ⟨rfl, hb2⟩
      have T := (⟨c0, c1, c2, c3, c4, c5, f, f', hz, hz1, hz2, hbw⟩ : Three w a b w1).next hb2
      clear hb2 c0 c1 c2 c3 c4 c5 f f' hz hz1 hz2 hbw
      obtain ⟨c0, c1, c2, c3, c4, c5, f, f', hz, hz1, hz2, hbw⟩ := T
      go_wp2_with fail
      refine (ro _).mono ?_
      rintro x w3 ⟨rfl, hb3⟩
      have T := (⟨c0, c1, c2, c3, c4, c5, f, f', hz, hz1, hz2, hbw⟩ : Three w a b w2).next hb3
      clear hb3 c0 c1 c2 c3 c4 c5 f f' hz hz1 hz2 hbw
      obtain ⟨c0, c1, c2, c3, c4, c5, f, f', hz, hz1, hz2, hbw⟩ := T
      go_wp2_with fail
      exact bodyPost_ret (v := .tuple #[.agg #[.int .i64 n, .int .i64 d], .int .i64 e]) (by simp [results, Tryd.results26, go_sem, c4, c5]) rfl ⟨rfl, (hbw.setCell (by simp; omega) _).setCell (by simp; omega) _⟩
    · have HV := Lib.hid (show mulV a b = (⟨0, 0⟩, 1) from if_neg fun h => h2 h.2)
      rw [decide_eq_true h1] at ra
      rw [decide_eq_false h2] at rb
      clear h1 h2 ha hb
      unfold Rt.val at ra rb ⊢
      go_enter Tryd.func26, Tryd.ntmps26
      go_wp2_with fail
      have T := three_new w a b
      refine (ra _).mono ?_
      rintro x w1 ⟨rfl, hb1⟩
      replace T := T.next hb1
      clear hb1
      obtain ⟨c0, c1, c2, c3, c4, c5, f, f', hz, hz1, hz2, hbw⟩ := T
      go_wp2_with fail
      refine (rb _).mono ?_
      rintro x w2 ⟨rfl, hb2⟩
      have T := (⟨c0, c1, c2, c3, c4, c5, f, f', hz, hz1, hz2, hbw⟩ : Three w a b w1).next hb2
      clear hb2 c0 c1 c2 c3 c4 c5 f f' hz hz1 hz2 hbw
      obtain ⟨c0, c1, c2, c3, c4, c5, f, f', hz, hz1, hz2, hbw⟩ := T
      go_wp2_with fail
      exact bodyPost_ret (v := .tuple #[.agg #[.int .i64 0, .int .i64 0], .int .i64 1]) (by simp [results, Tryd.results26, go_sem, c4, c5]) rfl ⟨by rw [HV.out], (hbw.setCell (by simp; omega) _).setCell (by simp; omega) _⟩
  · have HV := Lib.hid (show mulV a b = (⟨0, 0⟩, 1) from if_neg fun h => h1 h.1)
    rw [decide_eq_false h1] at ra
    clear h1 ha hb rb
    unfold Rt.val at ra ⊢
    go_enter Tryd.func26, Tryd.ntmps26
    go_wp2_with fail
    have T := three_new w a b
    refine (ra _).mono ?_
    rintro x w1 ⟨rfl, hb1⟩
    replace T := T.next hb1
    clear hb1
    obtain ⟨c0, c1, c2, c3, c4, c5, f, f', hz, hz1, hz2, hbw⟩ := T
    go_wp2_with fail
    exact bodyPost_ret (v := .tuple #[.agg #[.int .i64 0, .int .i64 0], .int .i64 1]) (by simp [results, Tryd.results26, go_sem, c4, c5]) rfl ⟨by rw [HV.out], (hbw.setCell (by simp; omega) _).setCell (by simp; omega) _⟩

set_option maxHeartbeats 1000000 in
theorem refAdd_any (a b : Rt) (ha : a.Ok) (hb : b.Ok) (w : World) :
    Calls Tryd.prog 21 #[a.val, b.val] w fun e w' => e = .returned (.tuple #[(addV a b).1.val, .int .i64 (addV a b).2]) ∧ RowKit.Below w.heap.size w w' := by
  have ra := fun w => refRight_any a ha w
  have rb := fun w => refRight_any b hb w
  by_cases h1 : Right a
  · by_cases h2 : Right b
    · have HV := Lib.hid (show addV a b = ofV (a.n * b.d + b.n * a.d) (a.d * b.d) from if_pos ⟨h1, h2⟩)
      rw [decide_eq_true h1] at ra
      rw [decide_eq_true h2] at rb
      obtain ⟨⟨B1, B2⟩, ⟨B3, B4⟩, ⟨B5, B6⟩, ⟨B7, B8⟩⟩ := prod_bd h1 h2
      have hI1 : I64 (a.n * b.d + b.n * a.d) := by unfold I64; omega
      have hI2 : I64 (a.d * b.d) := by unfold I64; omega
      have ro := fun w => refOf_any (a.n * b.d + b.n * a.d) (a.d * b.d) hI1 hI2 w
      clear h1 h2 ha hb hI1 hI2
      generalize ofV (a.n * b.d + b.n * a.d) (a.d * b.d) = X at ro HV
      obtain ⟨⟨n, d⟩, e⟩ := X
      rw [HV.out]
      unfold Rt.val at *
      dsimp only at *
      go_enter Tryd.func21, Tryd.ntmps21
      go_wp2_with fail
      have T := three_new w a b
      refine (ra _).mono ?_
      rintro x w1 ⟨rfl, hb1⟩
      replace T := T.next hb1
      clear hb1
      obtain ⟨c0, c1, c2, c3, c4, c5, f, f', hz, hz1, hz2, hbw⟩ := T
      go_wp2_with fail
      refine (rb _).mono ?_
      rintro x w2 ⟨rfl, hb2⟩
      have T := (⟨c0, c1, c2, c3, c4, c5, f, f', hz, hz1, hz2, hbw⟩ : Three w a b w1).next hb2
      clear hb2 c0 c1 c2 c3 c4 c5 f f' hz hz1 hz2 hbw
      obtain ⟨c0, c1, c2, c3, c4, c5, f, f', hz, hz1, hz2, hbw⟩ := T
      go_wp2_with fail
      refine (ro _).mono ?_
      rintro x w3 ⟨rfl, hb3⟩
      have T := (⟨c0, c1, c2, c3, c4, c5, f, f', hz, hz1, hz2, hbw⟩ : Three w a b w2).next hb3
      clear hb3 c0 c1 c2 c3 c4 c5 f f' hz hz1 hz2 hbw
      obtain ⟨c0, c1, c2, c3, c4, c5, f, f', hz, hz1, hz2, hbw⟩ := T
      go_wp2_with fail
      exact bodyPost_ret (v := .tuple #[.agg #[.int .i64 n, .int .i64 d], .int .i64 e]) (by simp [results, Tryd.results21, go_sem, c4, c5]) rfl ⟨rfl, (hbw.setCell (by simp; omega) _).setCell (by simp; omega) _⟩
    · have HV := Lib.hid (show addV a b = (⟨0, 0⟩, 1) from if_neg fun h => h2 h.2)
      rw [decide_eq_true h1] at ra
      rw [decide_eq_false h2] at rb
      clear h1 h2 ha hb
      unfold Rt.val at ra rb ⊢
      go_enter Tryd.func21, Tryd.ntmps21
      go_wp2_with fail
      have T := three_new w a b
      refine (ra _).mono ?_
      rintro x w1 ⟨rfl, hb1⟩
      replace T := T.next hb1
      clear hb1
      obtain ⟨c0, c1, c2, c3, c4, c5, f, f', hz, hz1, hz2, hbw⟩ := T
      go_wp2_with fail
      refine (rb _).mono ?_
      rintro x w2 ⟨rfl, hb2⟩
      have T := (⟨c0, c1, c2, c3, c4, c5, f, f', hz, hz1, hz2, hbw⟩ : Three w a b w1).next hb2
      clear hb2 c0 c1 c2 c3 c4 c5 f f' hz hz1 hz2 hbw
      obtain ⟨c0, c1, c2, c3, c4, c5, f, f', hz, hz1, hz2, hbw⟩ := T
      go_wp2_with fail
      exact bodyPost_ret (v := .tuple #[.agg #[.int .i64 0, .int .i64 0], .int .i64 1]) (by simp [results, Tryd.results21, go_sem, c4, c5]) rfl ⟨by rw [HV.out], (hbw.setCell (by simp; omega) _).setCell (by simp; omega) _⟩
  · have HV := Lib.hid (show addV a b = (⟨0, 0⟩, 1) from if_neg fun h => h1 h.1)
    rw [decide_eq_false h1] at ra
    clear h1 ha hb
    generalize decide (Right b) = B at rb
    unfold Rt.val at ra rb ⊢
    cases B
    all_goals
      go_enter Tryd.func21, Tryd.ntmps21
      go_wp2_with fail
      have T := three_new w a b
      refine (ra _).mono ?_
      rintro x w1 ⟨rfl, hb1⟩
      replace T := T.next hb1
      clear hb1
      obtain ⟨c0, c1, c2, c3, c4, c5, f, f', hz, hz1, hz2, hbw⟩ := T
      go_wp2_with fail
      refine (rb _).mono ?_
      rintro x w2 ⟨rfl, hb2⟩
      have T := (⟨c0, c1, c2, c3, c4, c5, f, f', hz, hz1, hz2, hbw⟩ : Three w a b w1).next hb2
      clear hb2 c0 c1 c2 c3 c4 c5 f f' hz hz1 hz2 hbw
      obtain ⟨c0, c1, c2, c3, c4, c5, f, f', hz, hz1, hz2, hbw⟩ := T
      go_wp2_with fail
      exact bodyPost_ret (v := .tuple #[.agg #[.int .i64 0, .int .i64 0], .int .i64 1]) (by simp [results, Tryd.results21, go_sem, c4, c5]) rfl ⟨by rw [HV.out], (hbw.setCell (by simp; omega) _).setCell (by simp; omega) _⟩

set_option maxHeartbeats 1000000 in
theorem refMul_any (a b : Rt) (ha : a.Ok) (hb : b.Ok) (w : World) :
    Calls Tryd.prog 27 #[a.val, b.val] w fun e w' => e = .returned (.tuple #[(mulV a b).1.val, .int .i64 (mulV a b).2]) ∧ RowKit.Below w.heap.size w w' := by
  have ra := fun w => refRight_any a ha w
  have rb := fun w => refRight_any b hb w
  by_cases h1 : Right a
  · by_cases h2 : Right b
    · have HV := Lib.hid (show mulV a b = ofV (a.n * b.n) (a.d * b.d) from if_pos ⟨h1, h2⟩)
      rw [decide_eq_true h1] at ra
      rw [decide_eq_true h2] at rb
      obtain ⟨⟨B1, B2⟩, ⟨B3, B4⟩, ⟨B5, B6⟩, ⟨B7, B8⟩⟩ := prod_bd h1 h2
      have hI1 : I64 (a.n * b.n) := by unfold I64; omega
      have hI2 : I64 (a.d * b.d) := by unfold I64; omega
      have ro := fun w => refOf_any (a.n * b.n) (a.d * b.d) hI1 hI2 w
      clear h1 h2 ha hb hI1 hI2
      generalize ofV (a.n * b.n) (a.d * b.d) = X at ro HV
      obtain ⟨⟨n, d⟩, e⟩ := X
      rw [HV.out]
      unfold Rt.val at *
      dsimp only at *
      go_enter Tryd.func27, Tryd.ntmps27
      go_wp2_with fail
      have T := three_new w a b
      refine (ra _).mono ?_
      rintro x w1 ⟨rfl, hb1⟩
      replace T := T.next hb1
      clear hb1
      obtain ⟨c0, c1, c2, c3, c4, c5, f, f', hz, hz1, hz2, hbw⟩ := T
      go_wp2_with fail
      refine (rb _).mono ?_
      rintro x w2 ⟨rfl, hb2⟩
      have T := (⟨c0, c1, c2, c3, c4, c5, f, f', hz, hz1, hz2, hbw⟩ : Three w a b w1).next hb2
      clear hb2 c0 c1 c2 c3 c4 c5 f f' hz hz1 hz2 hbw
      obtain ⟨c0, c1, c2, c3, c4, c5, f, f', hz, hz1, hz2, hbw⟩ := T
      go_wp2_with fail
      refine (ro _).mono ?_
      rintro x w3 ⟨rfl, hb3⟩
      have T := (⟨c0, c1, c2, c3, c4, c5, f, f', hz, hz1, hz2, hbw⟩ : Three w a b w2).next hb3
      clear hb3 c0 c1 c2 c3 c4 c5 f f' hz hz1 hz2 hbw
      obtain ⟨c0, c1, c2, c3, c4, c5, f, f', hz, hz1, hz2, hbw⟩ := T
      go_wp2_with fail
      exact bodyPost_ret (v := .tuple #[.agg #[.int .i64 n, .int .i64 d], .int .i64 e]) (by simp [results, Tryd.results27, go_sem, c4, c5]) rfl ⟨rfl, (hbw.setCell (by simp; omega) _).setCell (by simp; omega) _⟩
    · have HV := Lib.hid (show mulV a b = (⟨0, 0⟩, 1) from if_neg fun h => h2 h.2)
      rw [decide_eq_true h1] at ra
      rw [decide_eq_false h2] at rb
      clear h1 h2 ha hb
      unfold Rt.val at ra rb ⊢
      go_enter Tryd.func27, Tryd.ntmps27
      go_wp2_with fail
      have T := three_new w a b
      refine (ra _).mono ?_
      rintro x w1 ⟨rfl, hb1⟩
      replace T := T.next hb1
      clear hb1
      obtain ⟨c0, c1, c2, c3, c4, c5, f, f', hz, hz1, hz2, hbw⟩ := T
      go_wp2_with fail
      refine (rb _).mono ?_
      rintro x w2 ⟨rfl, hb2⟩
      have T := (⟨c0, c1, c2, c3, c4, c5, f, f', hz, hz1, hz2, hbw⟩ : Three w a b w1).next hb2
      clear hb2 c0 c1 c2 c3 c4 c5 f f' hz hz1 hz2 hbw
      obtain ⟨c0, c1, c2, c3, c4, c5, f, f', hz, hz1, hz2, hbw⟩ := T
      go_wp2_with fail
      exact bodyPost_ret (v := .tuple #[.agg #[.int .i64 0, .int .i64 0], .int .i64 1]) (by simp [results, Tryd.results27, go_sem, c4, c5]) rfl ⟨by rw [HV.out], (hbw.setCell (by simp; omega) _).setCell (by simp; omega) _⟩
  · have HV := Lib.hid (show mulV a b = (⟨0, 0⟩, 1) from if_neg fun h => h1 h.1)
    rw [decide_eq_false h1] at ra
    clear h1 ha hb
    generalize decide (Right b) = B at rb
    unfold Rt.val at ra rb ⊢
    cases B
    all_goals
      go_enter Tryd.func27, Tryd.ntmps27
      go_wp2_with fail
      have T := three_new w a b
      refine (ra _).mono ?_
      rintro x w1 ⟨rfl, hb1⟩
      replace T := T.next hb1
      clear hb1
      obtain ⟨c0, c1, c2, c3, c4, c5, f, f', hz, hz1, hz2, hbw⟩ := T
      go_wp2_with fail
      refine (rb _).mono ?_
      rintro x w2 ⟨rfl, hb2⟩
      have T := (⟨c0, c1, c2, c3, c4, c5, f, f', hz, hz1, hz2, hbw⟩ : Three w a b w1).next hb2
      clear hb2 c0 c1 c2 c3 c4 c5 f f' hz hz1 hz2 hbw
      obtain ⟨c0, c1, c2, c3, c4, c5, f, f', hz, hz1, hz2, hbw⟩ := T
      go_wp2_with fail
      exact bodyPost_ret (v := .tuple #[.agg #[.int .i64 0, .int .i64 0], .int .i64 1]) (by simp [results, Tryd.results27, go_sem, c4, c5]) rfl ⟨by rw [HV.out], (hbw.setCell (by simp; omega) _).setCell (by simp; omega) _⟩
end Go.Proofs.YtmbjoenegcnoiaaDoor
