/- Round of the reference: walked once. -/
import Derived.Test.YtmbjoenegcnoiaaDoorQRound
namespace Go.Proofs.YtmbjoenegcnoiaaDoor
open Go Go.RowKit Go.Sort Go.Lib

/-- The reference's cases say what the parts say. -/
def refRd (l s o how : Int) : Int :=
  if s = 0 ∨ how = 1 then l else if how = 2 ∨ o < 2 * s then l + 1 else if 2 * s < o then l else if how = 3 ∨ l % 2 ≠ 0 then l + 1 else l
theorem refRd_eq {l s o how : Int} (h0 : 0 ≤ s) (h1 : s < o) (hh : 1 ≤ how ∧ how ≤ 4) : refRd l s o how = rdV l s o how := by
  have h4 : how = 1 ∨ how = 2 ∨ how = 3 ∨ how = 4 := by omega
  unfold refRd rdV
  rcases h4 with rfl | rfl | rfl | rfl
  · simp
  · simp only [show ¬ (2 : Int) = 1 by omega, if_false, or_false, if_true, true_or]
    split <;> omega
  · simp only [show ¬ (3 : Int) = 1 by omega, show ¬ (3 : Int) = 2 by omega, if_false, or_false, false_or, if_true, true_or]
    split <;> (try split) <;> (try split) <;> (try split) <;> omega
  · simp only [show ¬ (4 : Int) = 1 by omega, show ¬ (4 : Int) = 2 by omega, show ¬ (4 : Int) = 3 by omega, if_false, or_false, false_or]
    split <;> (try split) <;> (try split) <;> (try split) <;> (try split) <;> omega
theorem tmod2_eq (l : Int) : (l.tmod 2 = 0) = (l % 2 = 0) := by
  rw [← Int.dvd_iff_tmod_eq_zero, Int.dvd_iff_emod_eq_zero]
theorem ret2_int {a b c : Int} (h : a = b) : Ending.returned (.tuple #[.int .i64 a, .int .i64 c]) = .returned (.tuple #[.int .i64 b, .int .i64 c]) := by rw [h]
set_option maxHeartbeats 2000000 in
set_option maxRecDepth 100000 in
theorem refRound_any (r : Rt) (h : r.Ok) (how : Int) (w : World) :
    Calls Tryd.prog 13 #[r.val, .int .i64 how] w fun e w' => e = .returned (.tuple #[.int .i64 (if Right r ∧ 1 ≤ how ∧ how ≤ 4 then roundV r how else 0), .int .i64 (if Right r ∧ 1 ≤ how ∧ how ≤ 4 then 0 else 1)]) ∧ RowKit.Below w.heap.size w w' := by
  have ra := fun w => refRight_any r h w
  unfold Rt.val at *
  by_cases h1 : Right r
  · rw [decide_eq_true h1] at ra
    by_cases h2 : 1 ≤ how ∧ how ≤ 4
    · rw [if_pos ⟨h1, h2⟩, if_pos ⟨h1, h2⟩]
      obtain ⟨p1, p2, p3, p4, -⟩ := id h1
      obtain ⟨t, p, hT, hP, ⟨t1, t2⟩, ⟨q1, q2⟩, hM, k1, k2⟩ := floor_parts p1 p2 p3 p4
      have hd0 : (r.d == 0) = false := by simp; omega
      obtain ⟨n0, n1, -⟩ := round_parts h1
      have n0' := n0
      have n1' := n1
      by_cases hp : p ≤ r.n
      · have HV := Lib.hid (show roundV r how = refRd (t) (r.n - p) r.d how by obtain ⟨e1, e2⟩ := k1 hp; rw [e2] at n0 n1; rw [refRd_eq n0 n1 h2]; unfold roundV; rw [e1, e2])
        have N0 : 0 ≤ r.n - p := by obtain ⟨e1, e2⟩ := k1 hp; rw [e2] at n0; exact n0
        clear h1 h k1 k2 n0 n1 hM
        obtain ⟨h21, h22⟩ := h2
        go_enter Tryd.func13, Tryd.ntmps13
        go_wp2_with fail
        refine (ra _).mono ?_
        rintro x w1 ⟨rfl, hb1⟩
        obtain ⟨hc1, hf1⟩ := bcell hb1
        have k0 : w1.cell? ⟨w.heap.size, 0, none⟩ = some (.int .i64 r.n) := (hc1 _ _ (by simp)).trans (by simp [go_sem])
        have k1 : w1.cell? ⟨w.heap.size, 1, none⟩ = some (.int .i64 r.d) := (hc1 _ _ (by simp)).trans (by simp [go_sem])
        have hbw : RowKit.Below w.heap.size w w1 := (below_alloc1 _ _).trans (hb1.mono (by simp))
        clear hb1 hc1 hf1 ra
        go_wp2_with fail
        all_goals go_ret2
        all_goals refine ⟨?_, hbw⟩
        all_goals (rw [HV.out]; clear HV; refine ret2_int ?_; unfold refRd; simp only [bne_iff_ne, beq_iff_eq, beq_eq_false_iff_ne, bne_eq_false_iff_eq, ne_eq, tmod2_eq] at *; split <;> (try split) <;> (try split) <;> (try split) <;> omega)
      · have hp' : r.n < p := by omega
        have HV := Lib.hid (show roundV r how = refRd (t - 1) (r.n - (p - r.d)) r.d how by obtain ⟨e1, e2⟩ := k2 hp'; rw [e2] at n0 n1; rw [refRd_eq n0 n1 h2]; unfold roundV; rw [e1, e2])
        have N0 : 0 ≤ r.n - (p - r.d) := by obtain ⟨e1, e2⟩ := k2 hp'; rw [e2] at n0; exact n0
        clear hp h1 h k1 k2 n0 n1
        obtain ⟨h21, h22⟩ := h2
        go_enter Tryd.func13, Tryd.ntmps13
        go_wp2_with fail
        refine (ra _).mono ?_
        rintro x w1 ⟨rfl, hb1⟩
        obtain ⟨hc1, hf1⟩ := bcell hb1
        have k0 : w1.cell? ⟨w.heap.size, 0, none⟩ = some (.int .i64 r.n) := (hc1 _ _ (by simp)).trans (by simp [go_sem])
        have k1 : w1.cell? ⟨w.heap.size, 1, none⟩ = some (.int .i64 r.d) := (hc1 _ _ (by simp)).trans (by simp [go_sem])
        have hbw : RowKit.Below w.heap.size w w1 := (below_alloc1 _ _).trans (hb1.mono (by simp))
        clear hb1 hc1 hf1 ra
        go_wp2_with fail
        all_goals go_ret2
        all_goals refine ⟨?_, hbw⟩
        all_goals (rw [HV.out]; clear HV; refine ret2_int ?_; unfold refRd; simp only [bne_iff_ne, beq_iff_eq, beq_eq_false_iff_ne, bne_eq_false_iff_eq, ne_eq, tmod2_eq] at *; split <;> (try split) <;> (try split) <;> (try split) <;> omega)
    · rw [if_neg (fun x => h2 x.2), if_neg (fun x => h2 x.2)]
      clear h1 h
      go_enter Tryd.func13, Tryd.ntmps13
      go_wp2_with fail
      refine (ra _).mono ?_
      rintro x w1 ⟨rfl, hb1⟩
      have hbw : RowKit.Below w.heap.size w w1 := (below_alloc1 _ _).trans (hb1.mono (by simp))
      clear hb1 ra
      rcases Int.lt_or_le how 1 with h5 | h5
      · clear h2
        go_wp2_with fail
        go_ret2
        exact ⟨rfl, hbw⟩
      · have h6 : 4 < how := by omega
        clear h2
        go_wp2_with fail
        go_ret2
        exact ⟨rfl, hbw⟩
  · rw [decide_eq_false h1] at ra
    rw [if_neg (fun x => h1 x.1), if_neg (fun x => h1 x.1)]
    clear h1 h
    go_enter Tryd.func13, Tryd.ntmps13
    go_wp2_with fail
    refine (ra _).mono ?_
    rintro x w1 ⟨rfl, hb1⟩
    have hbw : RowKit.Below w.heap.size w w1 := (below_alloc1 _ _).trans (hb1.mono (by simp))
    clear hb1
    go_wp2_with fail
    go_ret2
    exact ⟨rfl, hbw⟩
end Go.Proofs.YtmbjoenegcnoiaaDoor
