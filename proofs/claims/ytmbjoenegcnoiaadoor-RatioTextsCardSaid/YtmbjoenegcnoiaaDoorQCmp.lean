/- Sub of the reference, Cmp of both, Made: each walked once. -/
import Derived.Test.YtmbjoenegcnoiaaDoorQSum
namespace Go.Proofs.YtmbjoenegcnoiaaDoor
open Go Go.RowKit Go.Sort Go.Lib

theorem right_negI {n d : Int} (h : I64 n) : Right ⟨IntKind.i64.wrap (-n), d⟩ ↔ Right ⟨n, d⟩ := by
  unfold I64 at h
  by_cases hm : n = -9223372036854775808
  · subst hm
    have e : IntKind.i64.wrap (-(-9223372036854775808)) = -9223372036854775808 := by decide +kernel
    rw [e]
  · have e : IntKind.i64.wrap (-n) = -n := IntWalk.i64_in _ (by omega)
    rw [e]
    constructor
    · intro h; have := right_neg h; rw [show (⟨-(-n), d⟩ : Rt) = ⟨n, d⟩ by rw [Int.neg_neg]] at this; exact this
    · intro h; exact right_neg h
theorem sub_as_add (a b : Rt) (h : I64 b.n) : addV a ⟨IntKind.i64.wrap (-b.n), b.d⟩ = subV a b := by
  unfold addV subV
  by_cases h1 : Right a ∧ Right b
  · rw [if_pos h1, if_pos ⟨h1.1, (right_negI h).2 h1.2⟩]
    have := h1.2
    obtain ⟨_, _, p3, p4, _⟩ := this
    have e : IntKind.i64.wrap (-b.n) = -b.n := IntWalk.i64_in _ (by omega)
    show ofV (a.n * b.d + IntKind.i64.wrap (-b.n) * a.d) _ = _
    rw [e, Int.neg_mul]; rfl
  · rw [if_neg h1, if_neg (fun x => h1 ⟨x.1, (right_negI h).1 x.2⟩)]
theorem wrap_I (n : Int) : I64 (IntKind.i64.wrap n) := by
  unfold I64; simp only [IntKind.wrap, IntKind.signed, IntKind.bits]; simp; omega
theorem i64_wrap64 (n : Int) : IntKind.i64.wrap n = wrap64 n := by
  simp only [IntKind.wrap, IntKind.signed, IntKind.bits, wrap64]; simp; omega
set_option maxHeartbeats 1000000 in
theorem refSub_any (a b : Rt) (ha : a.Ok) (hb : b.Ok) (w : World) :
    Calls Tryd.prog 23 #[a.val, b.val] w fun e w' => e = .returned (.tuple #[(subV a b).1.val, .int .i64 (subV a b).2]) ∧ RowKit.Below w.heap.size w w' := by
  have ro := fun w => refAdd_any a ⟨IntKind.i64.wrap (-b.n), b.d⟩ ha ⟨wrap_I _, hb.2⟩ w
  rw [sub_as_add a b hb.1] at ro
  rw [i64_wrap64] at ro
  generalize subV a b = X at ro ⊢
  obtain ⟨⟨n, d⟩, e⟩ := X
  unfold Rt.val at *
  dsimp only at *
  clear ha hb
  go_enter Tryd.func23, Tryd.ntmps23
  go_wp2_with fail
  have T := three_new w a b
  refine (ro _).mono ?_
  rintro x w1 ⟨rfl, hb1⟩
  replace T := T.next hb1
  clear hb1
  obtain ⟨c0, c1, c2, c3, c4, c5, f, f', hz, hz1, hz2, hbw⟩ := T
  go_wp2_with fail
  exact bodyPost_ret (v := .tuple #[.agg #[.int .i64 n, .int .i64 d], .int .i64 e]) (by simp [results, Tryd.results23, go_sem, c4, c5]) rfl ⟨rfl, (hbw.setCell (by simp; omega) _).setCell (by simp; omega) _⟩

/-- Two boxes at the walk's begin. -/
structure Two (w : World) (a b : Rt) (W : World) : Prop where
  c0 : W.cell? ⟨w.heap.size, 0, none⟩ = some (.int .i64 a.n)
  c1 : W.cell? ⟨w.heap.size, 1, none⟩ = some (.int .i64 a.d)
  c2 : W.cell? ⟨w.heap.size + 1, 0, none⟩ = some (.int .i64 b.n)
  c3 : W.cell? ⟨w.heap.size + 1, 1, none⟩ = some (.int .i64 b.d)
  z1 : w.heap.size + 1 < W.heap.size
  z2 : w.heap.size < W.heap.size
  below : RowKit.Below w.heap.size w W
theorem Two.next {w W W' : World} {a b : Rt} (h : Two w a b W) (hb : RowKit.Below W.heap.size W W') : Two w a b W' := by
  obtain ⟨hc, hf⟩ := bcell hb
  have hs := hb.size
  exact ⟨(hc _ _ h.z2).trans h.c0, (hc _ _ h.z2).trans h.c1, (hc _ _ h.z1).trans h.c2, (hc _ _ h.z1).trans h.c3, Nat.lt_of_lt_of_le h.z1 hs, Nat.lt_of_lt_of_le h.z2 hs, h.below.trans (hb.mono h.below.size)⟩
theorem two_new (w : World) (a b : Rt) : Two w a b ((w.alloc (.cells #[.int .i64 a.n, .int .i64 a.d] 24)).alloc (.cells #[.int .i64 b.n, .int .i64 b.d] 24)) :=
  ⟨by simp [go_sem], by simp [go_sem], by simp [go_sem], by simp [go_sem], by simp, by simp; omega, ((Below.refl _ _).alloc (Nat.le_refl _) _).alloc (by simp) _⟩
theorem cmp_any' (x y : Int) (w : World) : Calls Tryd.prog 47 #[.int .i64 x, .int .i64 y] w fun e w' => e = .returned (.int .i64 (sgn x y)) ∧ w = w' :=
  (Tryd.cmp_Compare_int x y w).mono fun _ _ ⟨h, hw⟩ => ⟨h, hw.symm⟩

set_option maxHeartbeats 1000000 in
theorem cmp_any (a b : Rt) (ha : a.Ok) (hb : b.Ok) (w : World) :
    Calls Tryd.prog 24 #[a.val, b.val] w fun e w' => e = .returned (.int .i64 (cmpV a b)) ∧ RowKit.Below w.heap.size w w' := by
  have ra := fun w => right_any a ha w
  have rb := fun w => right_any b hb w
  by_cases h1 : Right a
  · by_cases h2 : Right b
    · have HV := Lib.hid (show cmpV a b = sgn (a.n * b.d) (b.n * a.d) from if_pos ⟨h1, h2⟩)
      rw [decide_eq_true h1] at ra
      rw [decide_eq_true h2] at rb
      obtain ⟨⟨B1, B2⟩, ⟨B3, B4⟩, _⟩ := prod_bd h1 h2
      clear h1 h2 ha hb
      unfold Rt.val at *
      go_enter Tryd.func24, Tryd.ntmps24
      go_wp2_with fail
      have T := two_new w a b
      refine (ra _).mono ?_
      rintro x w1 ⟨rfl, hb1⟩
      replace T := T.next hb1
      clear hb1
      obtain ⟨c0, c1, c2, c3, hz1, hz2, hbw⟩ := T
      go_wp2_with fail
      refine (rb _).mono ?_
      rintro x w2 ⟨rfl, hb2⟩
      have T := (⟨c0, c1, c2, c3, hz1, hz2, hbw⟩ : Two w a b w1).next hb2
      clear hb2 c0 c1 c2 c3 hz1 hz2 hbw
      obtain ⟨c0, c1, c2, c3, hz1, hz2, hbw⟩ := T
      go_wp2_with fail
      refine (cmp_any' _ _ _).mono ?_
      rintro x w3 ⟨rfl, rfl⟩
      go_wp2_with fail
      go_ret
      exact ⟨ret_int HV.out.symm, hbw⟩
    · have HV := Lib.hid (show cmpV a b = 0 from if_neg fun h => h2 h.2)
      rw [decide_eq_true h1] at ra
      rw [decide_eq_false h2] at rb
      clear h1 h2 ha hb
      unfold Rt.val at *
      go_enter Tryd.func24, Tryd.ntmps24
      go_wp2_with fail
      have T := two_new w a b
      refine (ra _).mono ?_
      rintro x w1 ⟨rfl, hb1⟩
      replace T := T.next hb1
      clear hb1
      obtain ⟨c0, c1, c2, c3, hz1, hz2, hbw⟩ := T
      go_wp2_with fail
      refine (rb _).mono ?_
      rintro x w2 ⟨rfl, hb2⟩
      have T := (⟨c0, c1, c2, c3, hz1, hz2, hbw⟩ : Two w a b w1).next hb2
      clear hb2 c0 c1 c2 c3 hz1 hz2 hbw
      obtain ⟨c0, c1, c2, c3, hz1, hz2, hbw⟩ := T
      go_wp2_with fail
      go_ret
      exact ⟨ret_int HV.out.symm, hbw⟩
  · have HV := Lib.hid (show cmpV a b = 0 from if_neg fun h => h1 h.1)
    rw [decide_eq_false h1] at ra
    clear h1 ha hb
    unfold Rt.val at *
    go_enter Tryd.func24, Tryd.ntmps24
    go_wp2_with fail
    have T := two_new w a b
    refine (ra _).mono ?_
    rintro x w1 ⟨rfl, hb1⟩
    replace T := T.next hb1
    clear hb1
    obtain ⟨c0, c1, c2, c3, hz1, hz2, hbw⟩ := T
    go_wp2_with fail
    go_ret
    exact ⟨ret_int HV.out.symm, hbw⟩

set_option maxHeartbeats 1000000 in
theorem refCmp_any (a b : Rt) (ha : a.Ok) (hb : b.Ok) (w : World) :
    Calls Tryd.prog 25 #[a.val, b.val] w fun e w' => e = .returned (.int .i64 (cmpV a b)) ∧ RowKit.Below w.heap.size w w' := by
  have ra := fun w => refRight_any a ha w
  have rb := fun w => refRight_any b hb w
  by_cases h1 : Right a
  · by_cases h2 : Right b
    · have HV := Lib.hid (show cmpV a b = sgn (a.n * b.d) (b.n * a.d) from if_pos ⟨h1, h2⟩)
      rw [decide_eq_true h1] at ra
      rw [decide_eq_true h2] at rb
      obtain ⟨⟨B1, B2⟩, ⟨B3, B4⟩, _⟩ := prod_bd h1 h2
      clear h1 h2 ha hb
      unfold Rt.val at *
      go_enter Tryd.func25, Tryd.ntmps25
      go_wp2_with fail
      have T := two_new w a b
      refine (ra _).mono ?_
      rintro x w1 ⟨rfl, hb1⟩
      replace T := T.next hb1
      clear hb1
      obtain ⟨c0, c1, c2, c3, hz1, hz2, hbw⟩ := T
      go_wp2_with fail
      refine (rb _).mono ?_
      rintro x w2 ⟨rfl, hb2⟩
      have T := (⟨c0, c1, c2, c3, hz1, hz2, hbw⟩ : Two w a b w1).next hb2
      clear hb2 c0 c1 c2 c3 hz1 hz2 hbw
      obtain ⟨c0, c1, c2, c3, hz1, hz2, hbw⟩ := T
      go_wp2_with fail
      all_goals go_ret
      all_goals exact ⟨ret_int (by rw [HV.out]; unfold sgn; split <;> (try split) <;> omega), hbw⟩
    · have HV := Lib.hid (show cmpV a b = 0 from if_neg fun h => h2 h.2)
      rw [decide_eq_true h1] at ra
      rw [decide_eq_false h2] at rb
      clear h1 h2 ha hb
      unfold Rt.val at *
      go_enter Tryd.func25, Tryd.ntmps25
      go_wp2_with fail
      have T := two_new w a b
      refine (ra _).mono ?_
      rintro x w1 ⟨rfl, hb1⟩
      replace T := T.next hb1
      clear hb1
      obtain ⟨c0, c1, c2, c3, hz1, hz2, hbw⟩ := T
      go_wp2_with fail
      refine (rb _).mono ?_
      rintro x w2 ⟨rfl, hb2⟩
      have T := (⟨c0, c1, c2, c3, hz1, hz2, hbw⟩ : Two w a b w1).next hb2
      clear hb2 c0 c1 c2 c3 hz1 hz2 hbw
      obtain ⟨c0, c1, c2, c3, hz1, hz2, hbw⟩ := T
      go_wp2_with fail
      go_ret
      exact ⟨ret_int HV.out.symm, hbw⟩
  · have HV := Lib.hid (show cmpV a b = 0 from if_neg fun h => h1 h.1)
    rw [decide_eq_false h1] at ra
    clear h1 ha hb
    unfold Rt.val at *
    generalize decide (Right b) = B at rb
    cases B
    all_goals
      go_enter Tryd.func25, Tryd.ntmps25
      go_wp2_with fail
      have T := two_new w a b
      refine (ra _).mono ?_
      rintro x w1 ⟨rfl, hb1⟩
      replace T := T.next hb1
      clear hb1
      obtain ⟨c0, c1, c2, c3, hz1, hz2, hbw⟩ := T
      go_wp2_with fail
      refine (rb _).mono ?_
      rintro x w2 ⟨rfl, hb2⟩
      have T := (⟨c0, c1, c2, c3, hz1, hz2, hbw⟩ : Two w a b w1).next hb2
      clear hb2 c0 c1 c2 c3 hz1 hz2 hbw
      obtain ⟨c0, c1, c2, c3, hz1, hz2, hbw⟩ := T
      go_wp2_with fail
      go_ret
      exact ⟨ret_int HV.out.symm, hbw⟩
end Go.Proofs.YtmbjoenegcnoiaaDoor
