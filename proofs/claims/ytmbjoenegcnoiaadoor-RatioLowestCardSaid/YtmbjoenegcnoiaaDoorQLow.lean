/- The law RatioLowest, walked. -/
import Derived.Test.YtmbjoenegcnoiaaDoorQSanity
namespace Go.Proofs.YtmbjoenegcnoiaaDoor
open Go Go.RowKit Go.Sort Go.Lib

theorem of_is (n d : Int) (hn : I64 n) (hd : I64 d) (x y e : Int) (h : ofV n d = (⟨x, y⟩, e)) (w : World) :
    Calls Tryd.prog 19 #[.int .i64 n, .int .i64 d] w fun r w' => r = .returned (.tuple #[.agg #[.int .i64 x, .int .i64 y], .int .i64 e]) ∧ RowKit.Below w.heap.size w w' := by
  have c := of_any n d hn hd w
  rw [h] at c
  exact c
theorem prod30 {n k : Int} (h1 : -1073741824 < n) (h2 : n < 1073741824) (h3 : 1 ≤ k) (h4 : k ≤ 1048576) : -1125899906842624 ≤ n * k ∧ n * k ≤ 1125899906842624 := by
  have := mul_bd (x := n) (y := k) (A := 1073741824) (B := 1048576) (by omega) (by omega) (by omega) h4 (by omega)
  omega
set_option maxHeartbeats 4000000 in
set_option maxRecDepth 100000 in
theorem lowest_any (n d k : Int) (_hn : I64 n) (_hd : I64 d) (_hk : I64 k) (w : World) (ht : Sane w) :
    Calls Tryd.prog 5 #[.int .i64 n, .int .i64 d, .int .i64 k] w fun x w' => x = .returned (.bool true) ∧ RowKit.Below w.heap.size w w' := by
  have n1 := Int.lt_tmod_of_pos n (show (0 : Int) < 1073741824 by omega)
  have n2 := Int.tmod_lt_of_pos n (show (0 : Int) < 1073741824 by omega)
  have d1 := Int.lt_tmod_of_pos d (show (0 : Int) < 1073741824 by omega)
  have d2 := Int.tmod_lt_of_pos d (show (0 : Int) < 1073741824 by omega)
  have k1 := Int.lt_tmod_of_pos k (show (0 : Int) < 1048576 by omega)
  have k2 := Int.tmod_lt_of_pos k (show (0 : Int) < 1048576 by omega)
  generalize hN : n.tmod 1073741824 = N at *
  generalize hD : d.tmod 1073741824 = D at *
  generalize hK : k.tmod 1048576 = K at *
  have e1 : 0 ≤ K % 1048576 ∧ K % 1048576 < 1048576 := by omega
  generalize hL : K % 1048576 = L at *
  have p1 := prod30 n1 n2 (show 1 ≤ L + 1 by omega) (by omega)
  have p2 := prod30 d1 d2 (show 1 ≤ L + 1 by omega) (by omega)
  have hbw : RowKit.Below w.heap.size w w := Below.refl _ _
  by_cases h0 : D = 0
  · subst h0
    have c1 := fun w => of_is N 0 (by unfold I64; omega) (by unfold I64; omega) 0 0 1 (low_zero _) w
    have c2 := fun w => of_is (N * (L + 1)) 0 (by unfold I64; omega) (by unfold I64; omega) 0 0 1 (low_zero _) w
    have c3 := fun w => of_is (-N) 0 (by unfold I64; omega) (by unfold I64; omega) 0 0 1 (low_zero _) w
    go_enter Tryd.func5, Tryd.ntmps5
    go_wp2_with fail
    refine (sanity_any _ ht).mono ?_
    rintro x w1 ⟨rfl, hb⟩
    replace hbw := mb0 hbw hb
    clear hb
    go_wp2_with fail
    refine (c1 _).mono ?_
    rintro x w2 ⟨rfl, hb⟩
    replace hbw := mb0 hbw hb
    clear hb
    go_wp2_with fail
    refine (c2 _).mono ?_
    rintro x w3 ⟨rfl, hb⟩
    have fR0 : w3.cell? ⟨w2.heap.size, 0, none⟩ = some (.int .i64 0) := ((bcell hb).1 _ _ (by simp <;> omega)).trans (by simp [go_sem])
    have fR1 : w3.cell? ⟨w2.heap.size, 1, none⟩ = some (.int .i64 0) := ((bcell hb).1 _ _ (by simp <;> omega)).trans (by simp [go_sem])
    have zR : w2.heap.size < w3.heap.size := by have := hb.size; simp at this; omega
    replace hbw := mb1 hbw hb
    clear hb
    go_wp2_with fail
    refine (c3 _).mono ?_
    rintro x w4 ⟨rfl, hb⟩
    replace fR0 := mv1 hb fR0
    replace fR1 := mv1 hb fR1
    replace zR := mz1 hb zR
    have fS0 : w4.cell? ⟨w3.heap.size, 0, none⟩ = some (.int .i64 0) := ((bcell hb).1 _ _ (by simp <;> omega)).trans (by simp [go_sem])
    have fS1 : w4.cell? ⟨w3.heap.size, 1, none⟩ = some (.int .i64 0) := ((bcell hb).1 _ _ (by simp <;> omega)).trans (by simp [go_sem])
    have zS : w3.heap.size < w4.heap.size := by have := hb.size; simp at this; omega
    replace hbw := mb1 hbw hb
    clear hb
    go_wp2_with fail
    go_ret
    exact ⟨rfl, below_next hbw (below_alloc1 _ _)⟩
  · have hX : ∃ x y : Int, ofV N D = (⟨x, y⟩, 0) ∧ (1 ≤ y ∧ y ≤ 1073741824) ∧ (-1073741824 ≤ x ∧ x ≤ 1073741824) ∧ x * D = N * y ∧ (N = 0 → x = 0 ∧ y = 1) := by
      have ho := low_ok (n := N) h0 (by omega) (by omega)
      have hr := ofV_right ho
      have hs := ofV_same ho
      refine ⟨(ofV N D).1.n, (ofV N D).1.d, Prod.ext rfl ho, ⟨hr.1, hr.2.1⟩, ⟨hr.2.2.1, hr.2.2.2.1⟩, hs, fun h => ?_⟩
      subst h
      rw [low_null h0]; exact ⟨rfl, rfl⟩
    obtain ⟨x, y, hX, ⟨y1, y2⟩, ⟨x1, x2⟩, hxy, hz⟩ := hX
    have c1 := fun w => of_is N D (by unfold I64; omega) (by unfold I64; omega) x y 0 hX w
    have c2 := fun w => of_is (N * (L + 1)) (D * (L + 1)) (by unfold I64; omega) (by unfold I64; omega) x y 0 (by rw [low_mul (by omega) (by omega) (by omega)]; exact hX) w
    have c3 := fun w => of_is (-N) (-D) (by unfold I64; omega) (by unfold I64; omega) x y 0 (by rw [low_neg (by omega) (by omega)]; exact hX) w
    clear hX
    have hd0 : (D == 0) = false := by simpa using h0
    by_cases hn0 : N = 0
    · subst hn0
      obtain ⟨rfl, rfl⟩ := hz rfl
      clear hz
      simp only [Int.zero_mul, Int.neg_zero] at c2 c3
      go_enter Tryd.func5, Tryd.ntmps5
      go_wp2_with fail
      refine (sanity_any _ ht).mono ?_
      rintro x w1 ⟨rfl, hb⟩
      replace hbw := mb0 hbw hb
      clear hb
      go_wp2_with fail
      refine (c1 _).mono ?_
      rintro x w2 ⟨rfl, hb⟩
      replace hbw := mb0 hbw hb
      clear hb
      go_wp2_with fail
      refine (c2 _).mono ?_
      rintro x w3 ⟨rfl, hb⟩
      have fR0 : w3.cell? ⟨w2.heap.size, 0, none⟩ = some (.int .i64 0) := ((bcell hb).1 _ _ (by simp <;> omega)).trans (by simp [go_sem])
      have fR1 : w3.cell? ⟨w2.heap.size, 1, none⟩ = some (.int .i64 1) := ((bcell hb).1 _ _ (by simp <;> omega)).trans (by simp [go_sem])
      have zR : w2.heap.size < w3.heap.size := by have := hb.size; simp at this; omega
      replace hbw := mb1 hbw hb
      clear hb
      go_wp2_with fail
      refine (c3 _).mono ?_
      rintro x w4 ⟨rfl, hb⟩
      replace fR0 := mv1 hb fR0
      replace fR1 := mv1 hb fR1
      replace zR := mz1 hb zR
      have fS0 : w4.cell? ⟨w3.heap.size, 0, none⟩ = some (.int .i64 0) := ((bcell hb).1 _ _ (by simp <;> omega)).trans (by simp [go_sem])
      have fS1 : w4.cell? ⟨w3.heap.size, 1, none⟩ = some (.int .i64 1) := ((bcell hb).1 _ _ (by simp <;> omega)).trans (by simp [go_sem])
      have zS : w3.heap.size < w4.heap.size := by have := hb.size; simp at this; omega
      replace hbw := mb1 hbw hb
      clear hb
      go_wp2_with fail
      go_ret
      exact ⟨rfl, below_next hbw (below_alloc1 _ _)⟩
    · have hn1 : (N != 0) = true := by simpa using hn0
      clear hz
      go_enter Tryd.func5, Tryd.ntmps5
      go_wp2_with fail
      refine (sanity_any _ ht).mono ?_
      rintro x w1 ⟨rfl, hb⟩
      replace hbw := mb0 hbw hb
      clear hb
      go_wp2_with fail
      refine (c1 _).mono ?_
      rintro x w2 ⟨rfl, hb⟩
      replace hbw := mb0 hbw hb
      clear hb
      go_wp2_with fail
      refine (c2 _).mono ?_
      rintro x w3 ⟨rfl, hb⟩
      have fR0 : w3.cell? ⟨w2.heap.size, 0, none⟩ = some (.int .i64 x) := ((bcell hb).1 _ _ (by simp <;> omega)).trans (by simp [go_sem])
      have fR1 : w3.cell? ⟨w2.heap.size, 1, none⟩ = some (.int .i64 y) := ((bcell hb).1 _ _ (by simp <;> omega)).trans (by simp [go_sem])
      have zR : w2.heap.size < w3.heap.size := by have := hb.size; simp at this; omega
      replace hbw := mb1 hbw hb
      clear hb
      go_wp2_with fail
      refine (c3 _).mono ?_
      rintro x w4 ⟨rfl, hb⟩
      replace fR0 := mv1 hb fR0
      replace fR1 := mv1 hb fR1
      replace zR := mz1 hb zR
      have fS0 : w4.cell? ⟨w3.heap.size, 0, none⟩ = some (.int .i64 x) := ((bcell hb).1 _ _ (by simp <;> omega)).trans (by simp [go_sem])
      have fS1 : w4.cell? ⟨w3.heap.size, 1, none⟩ = some (.int .i64 y) := ((bcell hb).1 _ _ (by simp <;> omega)).trans (by simp [go_sem])
      have zS : w3.heap.size < w4.heap.size := by have := hb.size; simp at this; omega
      replace hbw := mb1 hbw hb
      clear hb
      go_wp2_with fail
      go_ret
      exact ⟨rfl, below_next hbw (below_alloc1 _ _)⟩
end Go.Proofs.YtmbjoenegcnoiaaDoor
