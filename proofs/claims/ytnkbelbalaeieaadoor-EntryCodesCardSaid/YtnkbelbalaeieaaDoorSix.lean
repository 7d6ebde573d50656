/- entry.six and the reference's six: a number from 0 to 999999 in six digits. -/
import Derived.Test.YtnkbelbalaeieaaDoorBase
import Derived.LoopTactic
import Derived.LoopN
namespace Go.Proofs.YtnkbelbalaeieaaDoor
open Go Go.RowKit Go.Sort Go.Lib
attribute [local go_sem] conv_bytes1 conv_bytes6

/-- The six digits of a number. -/
def sixL (n : Nat) : List UInt8 := [n / 10 / 10 / 10 / 10 / 10, n / 10 / 10 / 10 / 10, n / 10 / 10 / 10, n / 10 / 10, n / 10, n].map fun m => UInt8.ofNat (48 + m % 10)

set_option maxRecDepth 100000 in
theorem six_any (n : Nat) (w : World) (hn : n ≤ 999999) :
    Calls Tryd.prog 38 #[.int .i64 n] w fun e w' => e = .returned (.string ⟨(sixL n).toArray⟩) ∧ Below w.heap.size w w' := by
  go_enter Tryd.func38, Tryd.ntmps38
  go_wp2_with fail
  refine wp_loop_rounds 7 ?_
  rw [rounds_succ]; go_wp2_with fail
  rw [rounds_succ]; go_wp2_with fail
  rw [rounds_succ]; go_wp2_with fail
  rw [rounds_succ]; go_wp2_with fail
  rw [rounds_succ]; go_wp2_with fail
  rw [rounds_succ]; go_wp2_with fail
  rw [rounds_succ]; go_wp2_with fail
  go_ret
  exact ⟨ret_str rfl, (Below.refl _ _).alloc (Nat.le_refl _) _⟩

set_option maxRecDepth 100000 in
theorem refSix_any (n : Nat) (w : World) (hn : n ≤ 999999) :
    Calls Tryd.prog 57 #[.int .i64 n] w fun e w' => e = .returned (.string ⟨(sixL n).toArray⟩) ∧ Below w.heap.size w w' := by
  go_enter Tryd.func57, Tryd.ntmps57
  go_wp2_with fail
  refine wp_loop_rounds 7 ?_
  rw [rounds_succ]; go_wp2_with fail
  rw [rounds_succ]; go_wp2_with fail
  rw [rounds_succ]; go_wp2_with fail
  rw [rounds_succ]; go_wp2_with fail
  rw [rounds_succ]; go_wp2_with fail
  rw [rounds_succ]; go_wp2_with fail
  rw [rounds_succ]; go_wp2_with fail
  go_ret
  refine ⟨ret_str (ba_ext (by simp [sixL, UInt8.ofNat_add])), ?_⟩
  exact ((((((Below.refl _ _).alloc (Nat.le_refl _) _).alloc (by simp) _).alloc (by simp; omega) _).alloc (by simp; omega) _).alloc (by simp; omega) _).alloc (by simp; omega) _
end Go.Proofs.YtnkbelbalaeieaaDoor
