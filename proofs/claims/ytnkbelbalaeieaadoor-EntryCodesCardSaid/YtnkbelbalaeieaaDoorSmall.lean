/- Contracts of small functions of the project, each walked once. -/
import Derived.Test.YtnkbelbalaeieaaDoorBase
namespace Go.Proofs.YtnkbelbalaeieaaDoor
open Go Go.RowKit

theorem modv_eq (n m : Int) : (n.tmod m + m) % m = n % m := by
  rw [Int.add_emod_right]
  by_cases hn : 0 ≤ n
  · rw [Int.tmod_eq_emod_of_nonneg hn, Int.emod_emod_of_dvd _ (Int.dvd_refl m)]
  · have h1 : n.tmod m = -((-n) % m) := by
      rw [← Int.tmod_eq_emod_of_nonneg (by omega), Int.neg_tmod, Int.neg_neg]
    have h2 := Int.emod_add_mul_ediv n m
    have h3 := Int.tmod_add_mul_tdiv n m
    have e : n.tmod m = n % m + m * (n / m - n.tdiv m) := by rw [Int.mul_sub]; omega
    rw [e, Int.add_mul_emod_self_left, Int.emod_emod_of_dvd _ (Int.dvd_refl m)]

theorem mod_any (n m : Int) (w : World) (hm : 0 < m) (hm2 : m ≤ 1000000) :
    Calls Tryd.prog 24 #[.int .i64 n, .int .i64 m] w fun e w' => e = .returned (.int .i64 (n % m)) ∧ w = w' := by
  have hlo := Int.lt_tmod_of_pos n hm
  have hhi := Int.tmod_lt_of_pos n hm
  have hne : (m == 0) = false := by simp; omega
  have H := Lib.hid (modv_eq n m)
  go_enter Tryd.func24, Tryd.ntmps24
  go_wp2
  go_ret
  exact ⟨ret_int H.out, rfl⟩

/-- Is n outside lo .. hi? -/
def beyondB (n lo hi : Int) : Bool := decide (n < lo) || decide (hi < n)
theorem beyond_any (n lo hi : Int) (w : World) :
    Calls Tryd.prog 39 #[.int .i64 n, .int .i64 lo, .int .i64 hi] w fun e w' => e = .returned (.bool (beyondB n lo hi)) ∧ w = w' := by
  by_cases h : n < lo
  · have hd : decide (n < lo) = true := by simpa using h
    go_enter Tryd.func39, Tryd.ntmps39
    go_wp2
    go_ret
    exact ⟨ret_bool (by simp [beyondB, hd]), rfl⟩
  · have hd : decide (n < lo) = false := by simpa using h
    go_enter Tryd.func39, Tryd.ntmps39
    go_wp2
    go_ret
    exact ⟨ret_bool (by simp [beyondB, hd]), rfl⟩

/-- Is n in lo .. hi? -/
def betweenB (n lo hi : Int) : Bool := decide (lo ≤ n) && decide (n ≤ hi)
theorem between_any (n lo hi : Int) (w : World) :
    Calls Tryd.prog 52 #[.int .i64 n, .int .i64 lo, .int .i64 hi] w fun e w' => e = .returned (.bool (betweenB n lo hi)) ∧ w = w' := by
  by_cases h : lo ≤ n
  · have hd : decide (lo ≤ n) = true := by simpa using h
    go_enter Tryd.func52, Tryd.ntmps52
    go_wp2
    go_ret
    exact ⟨ret_bool (by simp [betweenB, hd]), rfl⟩
  · have hd : decide (lo ≤ n) = false := by simpa using h
    go_enter Tryd.func52, Tryd.ntmps52
    go_wp2
    go_ret
    exact ⟨ret_bool (by simp [betweenB, hd]), rfl⟩

def hasv (k : Int) : Int := if k = 1 ∨ k = 8 then 32 else if k = 2 then 96 else if k = 3 then 7 else if k = 4 then 12 else if k = 5 ∨ k = 6 ∨ k = 9 then 8 else if k = 7 then 16 else 0
theorem has_any (k : Int) (w : World) :
    Calls Tryd.prog 41 #[.int .i64 k] w fun e w' => e = .returned (.int .i64 (hasv k)) ∧ w = w' := by
  go_enter Tryd.func41, Tryd.ntmps41
  go_wp2
  all_goals go_ret
  all_goals exact ⟨ret_int (by simp_all [hasv]), rfl⟩
end Go.Proofs.YtnkbelbalaeieaaDoor
