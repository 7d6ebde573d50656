/- Made and Round, of the project and of the reference: each walked once. -/
import Derived.Test.YtmbjoenegcnoiaaDoorQCmp
namespace Go.Proofs.YtmbjoenegcnoiaaDoor
open Go Go.RowKit Go.Sort Go.Lib

/-- A right ratio that two numbers make. -/
def madeV (n d : Int) : Rt :=
  if (ofV (n.tmod 2147483648) (d.tmod 2147483648)).2 = 0 then (ofV (n.tmod 2147483648) (d.tmod 2147483648)).1
  else if (ofV (n.tmod 1000) (1 + d.tmod 1000 % 1000)).2 = 0 then (ofV (n.tmod 1000) (1 + d.tmod 1000 % 1000)).1
  else ⟨0, 1⟩
theorem made_right (n d : Int) : Right (madeV n d) := by
  unfold madeV
  split
  · rename_i h; exact ofV_right h
  · split
    · rename_i h; exact ofV_right h
    · decide
set_option maxHeartbeats 1000000 in
theorem made_any (n d : Int) (_hn : I64 n) (_hd : I64 d) (w : World) :
    Calls Tryd.prog 11 #[.int .i64 n, .int .i64 d] w fun e w' => e = .returned (madeV n d).val ∧ RowKit.Below w.heap.size w w' := by
  have a1 := Int.lt_tmod_of_pos n (show (0 : Int) < 2147483648 by omega)
  have a2 := Int.tmod_lt_of_pos n (show (0 : Int) < 2147483648 by omega)
  have b1 := Int.lt_tmod_of_pos d (show (0 : Int) < 2147483648 by omega)
  have b2 := Int.tmod_lt_of_pos d (show (0 : Int) < 2147483648 by omega)
  have c1 := Int.lt_tmod_of_pos n (show (0 : Int) < 1000 by omega)
  have c2 := Int.tmod_lt_of_pos n (show (0 : Int) < 1000 by omega)
  have d1 := Int.lt_tmod_of_pos d (show (0 : Int) < 1000 by omega)
  have d2 := Int.tmod_lt_of_pos d (show (0 : Int) < 1000 by omega)
  have r1 := fun w => refOf_any (n.tmod 2147483648) (d.tmod 2147483648) (by unfold I64; omega) (by unfold I64; omega) w
  have r2 := fun w => refOf_any (n.tmod 1000) (1 + d.tmod 1000 % 1000) (by unfold I64; omega) (by unfold I64; omega) w
  have HV := Lib.hid (show madeV n d = if (ofV (n.tmod 2147483648) (d.tmod 2147483648)).2 = 0 then (ofV (n.tmod 2147483648) (d.tmod 2147483648)).1 else if (ofV (n.tmod 1000) (1 + d.tmod 1000 % 1000)).2 = 0 then (ofV (n.tmod 1000) (1 + d.tmod 1000 % 1000)).1 else ⟨0, 1⟩ from rfl)
  generalize ofV (n.tmod 2147483648) (d.tmod 2147483648) = X at r1 HV
  generalize ofV (n.tmod 1000) (1 + d.tmod 1000 % 1000) = Y at r2 HV
  obtain ⟨⟨xn, xd⟩, xe⟩ := X
  obtain ⟨⟨yn, yd⟩, ye⟩ := Y
  unfold Rt.val at *
  dsimp only at *
  go_enter Tryd.func11, Tryd.ntmps11
  go_wp2_with fail
  refine (r1 _).mono ?_
  rintro x w1 ⟨rfl, hb1⟩
  obtain ⟨hc1, hf1⟩ := bcell hb1
  have hz0 : w.heap.size < w1.heap.size := by have := hb1.size; simp at this; omega
  have k0 : w1.cell? ⟨w.heap.size, 0, none⟩ = some (.int .i64 0) := (hc1 _ _ (by simp)).trans (by simp)
  have k1 : w1.cell? ⟨w.heap.size, 1, none⟩ = some (.int .i64 0) := (hc1 _ _ (by simp)).trans (by simp)
  have f0 : w1.frozen? ⟨w.heap.size, 0, none⟩ = false := (hf1 _ _ (by simp)).trans (by simp)
  have f1 : w1.frozen? ⟨w.heap.size, 1, none⟩ = false := (hf1 _ _ (by simp)).trans (by simp)
  have hbw : RowKit.Below w.heap.size w w1 := ((Below.refl w.heap.size w).alloc (Nat.le_refl _) _).trans (hb1.mono (by simp))
  clear hb1 hc1 hf1 r1
  by_cases hx : xe = 0
  · subst hx
    clear r2
    go_wp2_with fail
    exact bodyPost_ret (v := .agg #[.int .i64 xn, .int .i64 xd]) (by simp [results, Tryd.results11, go_sem, k0, k1, hz0]) rfl ⟨by rw [HV.out]; simp, fin3 hbw _ _ _⟩
  · have hx' : (xe != 0) = true := by simpa using hx
    have HV2 := Lib.hid (HV.out.trans (if_neg hx))
    clear HV hx
    go_wp2_with fail
    refine (r2 _).mono ?_
    rintro x w2 ⟨rfl, hb2⟩
    obtain ⟨hc2, hf2⟩ := bcell hb2
    have hz1 : w1.heap.size < w2.heap.size := by have := hb2.size; simp at this; omega
    have hz2 : w.heap.size < w2.heap.size := by omega
    have l0 : w2.cell? ⟨w.heap.size, 0, none⟩ = some (.int .i64 0) := (hc2 _ _ (by simp; omega)).trans (by simp [go_sem, k0, hz0])
    have l1 : w2.cell? ⟨w.heap.size, 1, none⟩ = some (.int .i64 0) := (hc2 _ _ (by simp; omega)).trans (by simp [go_sem, k1, hz0])
    have g0 : w2.frozen? ⟨w.heap.size, 0, none⟩ = false := (hf2 _ _ (by simp; omega)).trans (by simp [go_sem, f0, hz0])
    have g1 : w2.frozen? ⟨w.heap.size, 1, none⟩ = false := (hf2 _ _ (by simp; omega)).trans (by simp [go_sem, f1, hz0])
    have m0 : w2.cell? ⟨w1.heap.size, 0, none⟩ = some (.int .i64 xn) := (hc2 _ _ (by simp)).trans (by simp)
    have m1 : w2.cell? ⟨w1.heap.size, 1, none⟩ = some (.int .i64 xd) := (hc2 _ _ (by simp)).trans (by simp)
    have h0 : w2.frozen? ⟨w1.heap.size, 0, none⟩ = false := (hf2 _ _ (by simp)).trans (by simp)
    have h1 : w2.frozen? ⟨w1.heap.size, 1, none⟩ = false := (hf2 _ _ (by simp)).trans (by simp)
    have hne : ¬ w.heap.size = w1.heap.size := by omega
    have hne' : ¬ w1.heap.size = w.heap.size := by omega
    have hbw2 : RowKit.Below w.heap.size w w2 := (hbw.alloc hbw.size _).trans (hb2.mono (by simp; omega))
    clear hb2 hc2 hf2 r2 k0 k1 f0 f1
    by_cases hy : ye = 0
    · subst hy
      go_wp2_with fail
      exact bodyPost_ret (v := .agg #[.int .i64 yn, .int .i64 yd]) (by simp [results, Tryd.results11, go_sem, l0, l1]) rfl ⟨by rw [HV2.out]; simp, (((hbw2.setCell (by simp; omega) _).setCell (by simp; omega) _).setCell (by simp) _).setCell (by simp) _⟩
    · have hy' : (ye != 0) = true := by simpa using hy
      have HV3 := Lib.hid (HV2.out.trans (if_neg hy))
      clear HV2 hy
      go_wp2_with fail
      exact bodyPost_ret (v := .agg #[.int .i64 0, .int .i64 1]) (by simp [results, Tryd.results11, go_sem, l0, l1]) rfl ⟨by rw [HV3.out], (((hbw2.setCell (by simp; omega) _).setCell (by simp; omega) _).setCell (by simp) _).setCell (by simp) _⟩
end Go.Proofs.YtmbjoenegcnoiaaDoor
