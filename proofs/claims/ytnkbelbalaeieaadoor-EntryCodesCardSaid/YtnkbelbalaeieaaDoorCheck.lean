/- entry.Check, walked once. -/
import Derived.Test.YtnkbelbalaeieaaDoorEnt
import Derived.Test.YtnkbelbalaeieaaDoorCode
import Derived.Test.YtnkbelbalaeieaaDoorSmall
import Derived.LoopN
namespace Go.Proofs.YtnkbelbalaeieaaDoor
open Go Go.RowKit Go.Sort Go.Lib

theorem chk1_any (e : Ent) (h : e.course.size ≤ 1000000) (b : Nat) (w : World) (hb : EntBox w b e) :
    Calls Tryd.prog 42 #[.pointer (some ⟨b, 0, none⟩)] w fun x w' => x = .returned (.bool (!codeL e.course.data.toList)) ∧ Below w.heap.size w w' := by
  have hc : w.cell? ⟨b, 6, none⟩ = some (.string e.course) := hb.cell 6
  go_enter Tryd.func42, Tryd.ntmps42
  go_wp2_with fail
  refine (code_any e.course _ h).mono ?_
  rintro x w1 ⟨rfl, hb1⟩
  go_wp2_with fail
  go_ret
  exact ⟨rfl, hb1⟩
theorem chk2_any (e : Ent) (b : Nat) (w : World) (hb : EntBox w b e) :
    Calls Tryd.prog 44 #[.pointer (some ⟨b, 0, none⟩)] w fun x w' => x = .returned (.bool (beyondB e.credits 1 60)) ∧ w = w' := by
  have hc : w.cell? ⟨b, 7, none⟩ = some (.int .i64 e.credits) := hb.cell 7
  go_enter Tryd.func44, Tryd.ntmps44
  go_wp2_with fail
  refine (beyond_any _ _ _ _).mono ?_
  rintro x w1 ⟨rfl, rfl⟩
  go_wp2_with fail
  go_ret
  exact ⟨rfl, rfl⟩
theorem chk3_any (e : Ent) (b : Nat) (w : World) (hb : EntBox w b e) :
    Calls Tryd.prog 45 #[.pointer (some ⟨b, 0, none⟩)] w fun x w' => x = .returned (.bool (beyondB e.grade (-1000) 1000)) ∧ w = w' := by
  have hc : w.cell? ⟨b, 8, none⟩ = some (.int .i64 e.grade) := hb.cell 8
  go_enter Tryd.func45, Tryd.ntmps45
  go_wp2_with fail
  refine (beyond_any _ _ _ _).mono ?_
  rintro x w1 ⟨rfl, rfl⟩
  go_wp2_with fail
  go_ret
  exact ⟨rfl, rfl⟩
theorem chk4_any (e : Ent) (b : Nat) (w : World) (hb : EntBox w b e) :
    Calls Tryd.prog 46 #[.pointer (some ⟨b, 0, none⟩)] w fun x w' => x = .returned (.bool (decide (e.programme < 1))) ∧ w = w' := by
  have hc : w.cell? ⟨b, 11, none⟩ = some (.int .i64 e.programme) := hb.cell 11
  go_enter Tryd.func46, Tryd.ntmps46
  go_wp2_with fail
  go_ret
  exact ⟨rfl, rfl⟩
theorem chk5_any (e : Ent) (b : Nat) (w : World) (hb : EntBox w b e) :
    Calls Tryd.prog 47 #[.pointer (some ⟨b, 0, none⟩)] w fun x w' => x = .returned (.bool (decide (e.version < 1))) ∧ w = w' := by
  have hc : w.cell? ⟨b, 12, none⟩ = some (.int .i64 e.version) := hb.cell 12
  go_enter Tryd.func47, Tryd.ntmps47
  go_wp2_with fail
  go_ret
  exact ⟨rfl, rfl⟩
theorem chk6_any (e : Ent) (b : Nat) (w : World) (hb : EntBox w b e) :
    Calls Tryd.prog 48 #[.pointer (some ⟨b, 0, none⟩)] w fun x w' => x = .returned (.bool (beyondB e.fro 1 8 || e.fro == e.school)) ∧ w = w' := by
  have hc : w.cell? ⟨b, 10, none⟩ = some (.int .i64 e.fro) := hb.cell 10
  have hc1 : w.cell? ⟨b, 1, none⟩ = some (.int .i64 e.school) := hb.cell 1
  cases hbb : beyondB e.fro 1 8
  all_goals
    go_enter Tryd.func48, Tryd.ntmps48
    go_wp2_with fail
    refine (beyond_any _ _ _ _).mono ?_
    rintro x w1 ⟨rfl, rfl⟩
    go_wp2_with fail
    go_ret
    exact ⟨ret_bool (by simp), rfl⟩
theorem chk7_any (e : Ent) (b : Nat) (w : World) (hb : EntBox w b e) :
    Calls Tryd.prog 49 #[.pointer (some ⟨b, 0, none⟩)] w fun x w' => x = .returned (.bool (beyondB e.ref 1 899999 || e.ref == e.id)) ∧ w = w' := by
  have hc : w.cell? ⟨b, 9, none⟩ = some (.int .i64 e.ref) := hb.cell 9
  have hc1 : w.cell? ⟨b, 0, none⟩ = some (.int .i64 e.id) := hb.cell 0
  cases hbb : beyondB e.ref 1 899999
  all_goals
    go_enter Tryd.func49, Tryd.ntmps49
    go_wp2_with fail
    refine (beyond_any _ _ _ _).mono ?_
    rintro x w1 ⟨rfl, rfl⟩
    go_wp2_with fail
    go_ret
    exact ⟨ret_bool (by simp), rfl⟩

/-- What the loop of 'filled' has gathered after k rounds. -/
def accF (l : List Bool) : Nat → Int
  | 0 => 0
  | k + 1 => if l.getD k false then bits .or .i64 (accF l k) (2 ^ k : Nat) else accF l k
def Ent.some7 (e : Ent) : List Bool := [!e.course.toList.isEmpty, e.credits != 0, e.grade != 0, e.ref != 0, e.fro != 0, e.programme != 0, e.version != 0]
def filledV (e : Ent) : Int := accF e.some7 7

theorem filled_any (e : Ent) (w : World) :
    Calls Tryd.prog 40 #[e.val] w fun x w' => x = .returned (.int .i64 (filledV e)) ∧ Below w.heap.size w w' := by
  go_enter Tryd.func40, Tryd.ntmps40
  go_wp2_with fail
  have H7 : Hid (filledV e = accF [!e.course.toList.isEmpty, e.credits != 0, e.grade != 0, e.ref != 0, e.fro != 0, e.programme != 0, e.version != 0] 7) := rfl
  generalize (!e.course.toList.isEmpty) = b0 at H7 ⊢
  generalize (e.credits != 0) = b1 at H7 ⊢
  generalize (e.grade != 0) = b2 at H7 ⊢
  generalize (e.ref != 0) = b3 at H7 ⊢
  generalize (e.fro != 0) = b4 at H7 ⊢
  generalize (e.programme != 0) = b5 at H7 ⊢
  generalize (e.version != 0) = b6 at H7 ⊢
  go_loop [3, 29] (fun t i => ∃ (k : Nat) (m : Int), k ≤ 7 ∧ i = .int .i64 k ∧ t = .int .i64 m ∧ Hid (m = accF [b0, b1, b2, b3, b4, b5, b6] k)) (fun _ i => 7 - (intOf i).toNat)
  case atStart => exact ⟨0, 0, by omega, rfl, rfl, rfl⟩
  case round =>
    obtain ⟨k, m, hk, rfl, rfl, H⟩ := hrel
    have hk8 : k = 0 ∨ k = 1 ∨ k = 2 ∨ k = 3 ∨ k = 4 ∨ k = 5 ∨ k = 6 ∨ k = 7 := by omega
    rcases hk8 with rfl | rfl | rfl | rfl | rfl | rfl | rfl | rfl
    · cases b0
      all_goals
        go_wp2_with fail
        go_round
        case rel => exact ⟨1, _, by omega, rfl, rfl, by unfold Hid; rw [H.out]; rfl⟩
        case measure => simp [intOf]
    · cases b1
      all_goals
        go_wp2_with fail
        go_round
        case rel => exact ⟨2, _, by omega, rfl, rfl, by unfold Hid; rw [H.out]; rfl⟩
        case measure => simp [intOf]
    · cases b2
      all_goals
        go_wp2_with fail
        go_round
        case rel => exact ⟨3, _, by omega, rfl, rfl, by unfold Hid; rw [H.out]; rfl⟩
        case measure => simp [intOf]
    · cases b3
      all_goals
        go_wp2_with fail
        go_round
        case rel => exact ⟨4, _, by omega, rfl, rfl, by unfold Hid; rw [H.out]; rfl⟩
        case measure => simp [intOf]
    · cases b4
      all_goals
        go_wp2_with fail
        go_round
        case rel => exact ⟨5, _, by omega, rfl, rfl, by unfold Hid; rw [H.out]; rfl⟩
        case measure => simp [intOf]
    · cases b5
      all_goals
        go_wp2_with fail
        go_round
        case rel => exact ⟨6, _, by omega, rfl, rfl, by unfold Hid; rw [H.out]; rfl⟩
        case measure => simp [intOf]
    · cases b6
      all_goals
        go_wp2_with fail
        go_round
        case rel => exact ⟨7, _, by omega, rfl, rfl, by unfold Hid; rw [H.out]; rfl⟩
        case measure => simp [intOf]
    · go_wp2_with fail
      go_ret
      exact ⟨ret_int (by rw [H.out, H7.out]), ((Below.refl _ _).alloc (Nat.le_refl _) _).alloc (by simp) _⟩

/-- The rules from the k-th on. -/
def ruleFrom (hv : Int) (e : Ent) (k : Nat) : Int :=
  if k ≤ 0 ∧ (bits .and .i64 hv 1 != 0) = true ∧ (!codeL e.course.data.toList) = true then 12
  else if k ≤ 1 ∧ (bits .and .i64 hv 2 != 0) = true ∧ beyondB e.credits 1 60 = true then 3
  else if k ≤ 2 ∧ (bits .and .i64 hv 4 != 0) = true ∧ beyondB e.grade (-1000) 1000 = true then 3
  else if k ≤ 3 ∧ (bits .and .i64 hv 32 != 0) = true ∧ decide (e.programme < 1) = true then 3
  else if k ≤ 4 ∧ (bits .and .i64 hv 64 != 0) = true ∧ decide (e.version < 1) = true then 3
  else if k ≤ 5 ∧ (bits .and .i64 hv 16 != 0) = true ∧ (beyondB e.fro 1 8 || e.fro == e.school) = true then 3
  else if k ≤ 6 ∧ (bits .and .i64 hv 8 != 0) = true ∧ (beyondB e.ref 1 899999 || e.ref == e.id) = true then 21
  else 0

def chkV (e : Ent) : Int :=
  if (beyondB e.id 1 899999 || beyondB e.school 1 8 || beyondB e.student 1 999999) = true then 1
  else if (beyondB e.kind 1 9 || bits .andNot .i64 (filledV e) (hasv e.kind) != 0) = true then 20
  else if (beyondB e.day 0 100000 || beyondB e.on 0 e.day) = true then 23
  else ruleFrom (hasv e.kind) e 0

end Go.Proofs.YtnkbelbalaeieaaDoor
