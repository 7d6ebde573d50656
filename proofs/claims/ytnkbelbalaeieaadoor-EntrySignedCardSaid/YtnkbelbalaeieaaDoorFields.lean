/- quadriviumref10.fields: a theorem a way. -/
import Derived.Test.YtnkbelbalaeieaaDoorCheck
import Derived.Deep.DeepCutAuto
import Derived.Deep.CutBlock
namespace Go.Proofs.YtnkbelbalaeieaaDoor
open Go Go.RowKit Go.Sort Go.Lib
attribute [local go_sem] Ent.cells

theorem beyond_not (n lo hi : Int) : beyondB n lo hi = !betweenB n lo hi := by
  unfold beyondB betweenB
  by_cases h1 : lo ≤ n <;> by_cases h2 : n ≤ hi <;> simp [h1, h2] <;> omega
set_option maxHeartbeats 4000000 in
set_option maxRecDepth 100000 in
theorem fields_1_0 (e : Ent) (w : World) (hc : e.course.size ≤ 1000000) (hk : e.kind = 1) (h0 : decide (e.programme < 1) = true) :
    Calls Tryd.prog 54 #[e.val] w fun x w' => x = .returned (.int .i64 (ruleFrom (hasv e.kind) e 0)) ∧ RowKit.Below w.heap.size w w' := by
  have H : Hid (ruleFrom (hasv e.kind) e 0 = 3) := Lib.hid (by
    rw [hk, show hasv 1 = 32 from rfl]
    unfold ruleFrom
    simp only [show (bits .and .i64 32 1 != 0) = false from by decide, show (bits .and .i64 32 2 != 0) = false from by decide, show (bits .and .i64 32 4 != 0) = false from by decide, show (bits .and .i64 32 8 != 0) = false from by decide, show (bits .and .i64 32 16 != 0) = false from by decide, show (bits .and .i64 32 32 != 0) = true from by decide, show (bits .and .i64 32 64 != 0) = false from by decide, beyond_not, h0]
    simp)
  have HK := Lib.hid hk; clear hk
  go_enter Tryd.func54, Tryd.ntmps54
  go_upto_region 0 with fail
  go_upto_region 1 with fail
  have hx := EntBox.new w e
  have ck : (w.alloc (.cells e.cells 26)).cell? ⟨w.heap.size, 3, none⟩ = some (.int .i64 1) := by rw [hx.cell 3]; simp [Ent.cells, HK.out]
  have c0 : (w.alloc (.cells e.cells 26)).cell? ⟨w.heap.size, 0, none⟩ = some (.int .i64 e.id) := hx.cell 0
  have c1 : (w.alloc (.cells e.cells 26)).cell? ⟨w.heap.size, 1, none⟩ = some (.int .i64 e.school) := hx.cell 1
  have c6 : (w.alloc (.cells e.cells 26)).cell? ⟨w.heap.size, 6, none⟩ = some (.string e.course) := hx.cell 6
  have c7 : (w.alloc (.cells e.cells 26)).cell? ⟨w.heap.size, 7, none⟩ = some (.int .i64 e.credits) := hx.cell 7
  have c8 : (w.alloc (.cells e.cells 26)).cell? ⟨w.heap.size, 8, none⟩ = some (.int .i64 e.grade) := hx.cell 8
  have c9 : (w.alloc (.cells e.cells 26)).cell? ⟨w.heap.size, 9, none⟩ = some (.int .i64 e.ref) := hx.cell 9
  have c10 : (w.alloc (.cells e.cells 26)).cell? ⟨w.heap.size, 10, none⟩ = some (.int .i64 e.fro) := hx.cell 10
  have c11 : (w.alloc (.cells e.cells 26)).cell? ⟨w.heap.size, 11, none⟩ = some (.int .i64 e.programme) := hx.cell 11
  have c12 : (w.alloc (.cells e.cells 26)).cell? ⟨w.heap.size, 12, none⟩ = some (.int .i64 e.version) := hx.cell 12
  have hb := below_alloc1 w (.cells e.cells 26)
  unfold Ent.cells at ck c0 c1 c6 c7 c8 c9 c10 c11 c12 hb
  generalize w.alloc _ = W at ck c0 c1 c6 c7 c8 c9 c10 c11 c12 hb ⊢
  clear hx
  go_wp2_with (first | (go_at_call 83; refine (refCode_any e.course _ hc).mono ?_; rintro r w1 ⟨rfl, rfl⟩) | (go_at_call 52; refine (between_any _ _ _ _).mono ?_; rintro r w1 ⟨rfl, rfl⟩))
  go_ret
  exact ⟨ret_int H.out.symm, hb⟩

set_option maxHeartbeats 4000000 in
set_option maxRecDepth 100000 in
theorem fields_1_1 (e : Ent) (w : World) (hc : e.course.size ≤ 1000000) (hk : e.kind = 1) (h0 : decide (e.programme < 1) = false) :
    Calls Tryd.prog 54 #[e.val] w fun x w' => x = .returned (.int .i64 (ruleFrom (hasv e.kind) e 0)) ∧ RowKit.Below w.heap.size w w' := by
  have H : Hid (ruleFrom (hasv e.kind) e 0 = 0) := Lib.hid (by
    rw [hk, show hasv 1 = 32 from rfl]
    unfold ruleFrom
    simp only [show (bits .and .i64 32 1 != 0) = false from by decide, show (bits .and .i64 32 2 != 0) = false from by decide, show (bits .and .i64 32 4 != 0) = false from by decide, show (bits .and .i64 32 8 != 0) = false from by decide, show (bits .and .i64 32 16 != 0) = false from by decide, show (bits .and .i64 32 32 != 0) = true from by decide, show (bits .and .i64 32 64 != 0) = false from by decide, beyond_not, h0]
    simp)
  have HK := Lib.hid hk; clear hk
  go_enter Tryd.func54, Tryd.ntmps54
  go_upto_region 0 with fail
  go_upto_region 1 with fail
  have hx := EntBox.new w e
  have ck : (w.alloc (.cells e.cells 26)).cell? ⟨w.heap.size, 3, none⟩ = some (.int .i64 1) := by rw [hx.cell 3]; simp [Ent.cells, HK.out]
  have c0 : (w.alloc (.cells e.cells 26)).cell? ⟨w.heap.size, 0, none⟩ = some (.int .i64 e.id) := hx.cell 0
  have c1 : (w.alloc (.cells e.cells 26)).cell? ⟨w.heap.size, 1, none⟩ = some (.int .i64 e.school) := hx.cell 1
  have c6 : (w.alloc (.cells e.cells 26)).cell? ⟨w.heap.size, 6, none⟩ = some (.string e.course) := hx.cell 6
  have c7 : (w.alloc (.cells e.cells 26)).cell? ⟨w.heap.size, 7, none⟩ = some (.int .i64 e.credits) := hx.cell 7
  have c8 : (w.alloc (.cells e.cells 26)).cell? ⟨w.heap.size, 8, none⟩ = some (.int .i64 e.grade) := hx.cell 8
  have c9 : (w.alloc (.cells e.cells 26)).cell? ⟨w.heap.size, 9, none⟩ = some (.int .i64 e.ref) := hx.cell 9
  have c10 : (w.alloc (.cells e.cells 26)).cell? ⟨w.heap.size, 10, none⟩ = some (.int .i64 e.fro) := hx.cell 10
  have c11 : (w.alloc (.cells e.cells 26)).cell? ⟨w.heap.size, 11, none⟩ = some (.int .i64 e.programme) := hx.cell 11
  have c12 : (w.alloc (.cells e.cells 26)).cell? ⟨w.heap.size, 12, none⟩ = some (.int .i64 e.version) := hx.cell 12
  have hb := below_alloc1 w (.cells e.cells 26)
  unfold Ent.cells at ck c0 c1 c6 c7 c8 c9 c10 c11 c12 hb
  generalize w.alloc _ = W at ck c0 c1 c6 c7 c8 c9 c10 c11 c12 hb ⊢
  clear hx
  go_wp2_with (first | (go_at_call 83; refine (refCode_any e.course _ hc).mono ?_; rintro r w1 ⟨rfl, rfl⟩) | (go_at_call 52; refine (between_any _ _ _ _).mono ?_; rintro r w1 ⟨rfl, rfl⟩))
  go_ret
  exact ⟨ret_int H.out.symm, hb⟩

set_option maxHeartbeats 4000000 in
set_option maxRecDepth 100000 in
theorem fields_2_0 (e : Ent) (w : World) (hc : e.course.size ≤ 1000000) (hk : e.kind = 2) (h0 : decide (e.programme < 1) = true) :
    Calls Tryd.prog 54 #[e.val] w fun x w' => x = .returned (.int .i64 (ruleFrom (hasv e.kind) e 0)) ∧ RowKit.Below w.heap.size w w' := by
  have H : Hid (ruleFrom (hasv e.kind) e 0 = 3) := Lib.hid (by
    rw [hk, show hasv 2 = 96 from rfl]
    unfold ruleFrom
    simp only [show (bits .and .i64 96 1 != 0) = false from by decide, show (bits .and .i64 96 2 != 0) = false from by decide, show (bits .and .i64 96 4 != 0) = false from by decide, show (bits .and .i64 96 8 != 0) = false from by decide, show (bits .and .i64 96 16 != 0) = false from by decide, show (bits .and .i64 96 32 != 0) = true from by decide, show (bits .and .i64 96 64 != 0) = true from by decide, beyond_not, h0]
    simp)
  have HK := Lib.hid hk; clear hk
  go_enter Tryd.func54, Tryd.ntmps54
  go_upto_region 0 with fail
  go_upto_region 1 with fail
  have hx := EntBox.new w e
  have ck : (w.alloc (.cells e.cells 26)).cell? ⟨w.heap.size, 3, none⟩ = some (.int .i64 2) := by rw [hx.cell 3]; simp [Ent.cells, HK.out]
  have c0 : (w.alloc (.cells e.cells 26)).cell? ⟨w.heap.size, 0, none⟩ = some (.int .i64 e.id) := hx.cell 0
  have c1 : (w.alloc (.cells e.cells 26)).cell? ⟨w.heap.size, 1, none⟩ = some (.int .i64 e.school) := hx.cell 1
  have c6 : (w.alloc (.cells e.cells 26)).cell? ⟨w.heap.size, 6, none⟩ = some (.string e.course) := hx.cell 6
  have c7 : (w.alloc (.cells e.cells 26)).cell? ⟨w.heap.size, 7, none⟩ = some (.int .i64 e.credits) := hx.cell 7
  have c8 : (w.alloc (.cells e.cells 26)).cell? ⟨w.heap.size, 8, none⟩ = some (.int .i64 e.grade) := hx.cell 8
  have c9 : (w.alloc (.cells e.cells 26)).cell? ⟨w.heap.size, 9, none⟩ = some (.int .i64 e.ref) := hx.cell 9
  have c10 : (w.alloc (.cells e.cells 26)).cell? ⟨w.heap.size, 10, none⟩ = some (.int .i64 e.fro) := hx.cell 10
  have c11 : (w.alloc (.cells e.cells 26)).cell? ⟨w.heap.size, 11, none⟩ = some (.int .i64 e.programme) := hx.cell 11
  have c12 : (w.alloc (.cells e.cells 26)).cell? ⟨w.heap.size, 12, none⟩ = some (.int .i64 e.version) := hx.cell 12
  have hb := below_alloc1 w (.cells e.cells 26)
  unfold Ent.cells at ck c0 c1 c6 c7 c8 c9 c10 c11 c12 hb
  generalize w.alloc _ = W at ck c0 c1 c6 c7 c8 c9 c10 c11 c12 hb ⊢
  clear hx
  go_wp2_with (first | (go_at_call 83; refine (refCode_any e.course _ hc).mono ?_; rintro r w1 ⟨rfl, rfl⟩) | (go_at_call 52; refine (between_any _ _ _ _).mono ?_; rintro r w1 ⟨rfl, rfl⟩))
  go_ret
  exact ⟨ret_int H.out.symm, hb⟩

set_option maxHeartbeats 4000000 in
set_option maxRecDepth 100000 in
theorem fields_2_1 (e : Ent) (w : World) (hc : e.course.size ≤ 1000000) (hk : e.kind = 2) (h0 : decide (e.programme < 1) = false) (h1 : decide (e.version < 1) = true) :
    Calls Tryd.prog 54 #[e.val] w fun x w' => x = .returned (.int .i64 (ruleFrom (hasv e.kind) e 0)) ∧ RowKit.Below w.heap.size w w' := by
  have H : Hid (ruleFrom (hasv e.kind) e 0 = 3) := Lib.hid (by
    rw [hk, show hasv 2 = 96 from rfl]
    unfold ruleFrom
    simp only [show (bits .and .i64 96 1 != 0) = false from by decide, show (bits .and .i64 96 2 != 0) = false from by decide, show (bits .and .i64 96 4 != 0) = false from by decide, show (bits .and .i64 96 8 != 0) = false from by decide, show (bits .and .i64 96 16 != 0) = false from by decide, show (bits .and .i64 96 32 != 0) = true from by decide, show (bits .and .i64 96 64 != 0) = true from by decide, beyond_not, h0, h1]
    simp)
  have HK := Lib.hid hk; clear hk
  go_enter Tryd.func54, Tryd.ntmps54
  go_upto_region 0 with fail
  go_upto_region 1 with fail
  have hx := EntBox.new w e
  have ck : (w.alloc (.cells e.cells 26)).cell? ⟨w.heap.size, 3, none⟩ = some (.int .i64 2) := by rw [hx.cell 3]; simp [Ent.cells, HK.out]
  have c0 : (w.alloc (.cells e.cells 26)).cell? ⟨w.heap.size, 0, none⟩ = some (.int .i64 e.id) := hx.cell 0
  have c1 : (w.alloc (.cells e.cells 26)).cell? ⟨w.heap.size, 1, none⟩ = some (.int .i64 e.school) := hx.cell 1
  have c6 : (w.alloc (.cells e.cells 26)).cell? ⟨w.heap.size, 6, none⟩ = some (.string e.course) := hx.cell 6
  have c7 : (w.alloc (.cells e.cells 26)).cell? ⟨w.heap.size, 7, none⟩ = some (.int .i64 e.credits) := hx.cell 7
  have c8 : (w.alloc (.cells e.cells 26)).cell? ⟨w.heap.size, 8, none⟩ = some (.int .i64 e.grade) := hx.cell 8
  have c9 : (w.alloc (.cells e.cells 26)).cell? ⟨w.heap.size, 9, none⟩ = some (.int .i64 e.ref) := hx.cell 9
  have c10 : (w.alloc (.cells e.cells 26)).cell? ⟨w.heap.size, 10, none⟩ = some (.int .i64 e.fro) := hx.cell 10
  have c11 : (w.alloc (.cells e.cells 26)).cell? ⟨w.heap.size, 11, none⟩ = some (.int .i64 e.programme) := hx.cell 11
  have c12 : (w.alloc (.cells e.cells 26)).cell? ⟨w.heap.size, 12, none⟩ = some (.int .i64 e.version) := hx.cell 12
  have hb := below_alloc1 w (.cells e.cells 26)
  unfold Ent.cells at ck c0 c1 c6 c7 c8 c9 c10 c11 c12 hb
  generalize w.alloc _ = W at ck c0 c1 c6 c7 c8 c9 c10 c11 c12 hb ⊢
  clear hx
  go_wp2_with (first | (go_at_call 83; refine (refCode_any e.course _ hc).mono ?_; rintro r w1 ⟨rfl, rfl⟩) | (go_at_call 52; refine (between_any _ _ _ _).mono ?_; rintro r w1 ⟨rfl, rfl⟩))
  go_ret
  exact ⟨ret_int H.out.symm, hb⟩

set_option maxHeartbeats 4000000 in
set_option maxRecDepth 100000 in
theorem fields_2_2 (e : Ent) (w : World) (hc : e.course.size ≤ 1000000) (hk : e.kind = 2) (h0 : decide (e.programme < 1) = false) (h1 : decide (e.version < 1) = false) :
    Calls Tryd.prog 54 #[e.val] w fun x w' => x = .returned (.int .i64 (ruleFrom (hasv e.kind) e 0)) ∧ RowKit.Below w.heap.size w w' := by
  have H : Hid (ruleFrom (hasv e.kind) e 0 = 0) := Lib.hid (by
    rw [hk, show hasv 2 = 96 from rfl]
    unfold ruleFrom
    simp only [show (bits .and .i64 96 1 != 0) = false from by decide, show (bits .and .i64 96 2 != 0) = false from by decide, show (bits .and .i64 96 4 != 0) = false from by decide, show (bits .and .i64 96 8 != 0) = false from by decide, show (bits .and .i64 96 16 != 0) = false from by decide, show (bits .and .i64 96 32 != 0) = true from by decide, show (bits .and .i64 96 64 != 0) = true from by decide, beyond_not, h0, h1]
    simp)
  have HK := Lib.hid hk; clear hk
  go_enter Tryd.func54, Tryd.ntmps54
  go_upto_region 0 with fail
  go_upto_region 1 with fail
  have hx := EntBox.new w e
  have ck : (w.alloc (.cells e.cells 26)).cell? ⟨w.heap.size, 3, none⟩ = some (.int .i64 2) := by rw [hx.cell 3]; simp [Ent.cells, HK.out]
  have c0 : (w.alloc (.cells e.cells 26)).cell? ⟨w.heap.size, 0, none⟩ = some (.int .i64 e.id) := hx.cell 0
  have c1 : (w.alloc (.cells e.cells 26)).cell? ⟨w.heap.size, 1, none⟩ = some (.int .i64 e.school) := hx.cell 1
  have c6 : (w.alloc (.cells e.cells 26)).cell? ⟨w.heap.size, 6, none⟩ = some (.string e.course) := hx.cell 6
  have c7 : (w.alloc (.cells e.cells 26)).cell? ⟨w.heap.size, 7, none⟩ = some (.int .i64 e.credits) := hx.cell 7
  have c8 : (w.alloc (.cells e.cells 26)).cell? ⟨w.heap.size, 8, none⟩ = some (.int .i64 e.grade) := hx.cell 8
  have c9 : (w.alloc (.cells e.cells 26)).cell? ⟨w.heap.size, 9, none⟩ = some (.int .i64 e.ref) := hx.cell 9
  have c10 : (w.alloc (.cells e.cells 26)).cell? ⟨w.heap.size, 10, none⟩ = some (.int .i64 e.fro) := hx.cell 10
  have c11 : (w.alloc (.cells e.cells 26)).cell? ⟨w.heap.size, 11, none⟩ = some (.int .i64 e.programme) := hx.cell 11
  have c12 : (w.alloc (.cells e.cells 26)).cell? ⟨w.heap.size, 12, none⟩ = some (.int .i64 e.version) := hx.cell 12
  have hb := below_alloc1 w (.cells e.cells 26)
  unfold Ent.cells at ck c0 c1 c6 c7 c8 c9 c10 c11 c12 hb
  generalize w.alloc _ = W at ck c0 c1 c6 c7 c8 c9 c10 c11 c12 hb ⊢
  clear hx
  go_wp2_with (first | (go_at_call 83; refine (refCode_any e.course _ hc).mono ?_; rintro r w1 ⟨rfl, rfl⟩) | (go_at_call 52; refine (between_any _ _ _ _).mono ?_; rintro r w1 ⟨rfl, rfl⟩))
  go_ret
  exact ⟨ret_int H.out.symm, hb⟩

set_option maxHeartbeats 4000000 in
set_option maxRecDepth 100000 in
theorem fields_3_0 (e : Ent) (w : World) (hc : e.course.size ≤ 1000000) (hk : e.kind = 3) (h0 : codeL e.course.data.toList = false) :
    Calls Tryd.prog 54 #[e.val] w fun x w' => x = .returned (.int .i64 (ruleFrom (hasv e.kind) e 0)) ∧ RowKit.Below w.heap.size w w' := by
  have H : Hid (ruleFrom (hasv e.kind) e 0 = 12) := Lib.hid (by
    rw [hk, show hasv 3 = 7 from rfl]
    unfold ruleFrom
    simp only [show (bits .and .i64 7 1 != 0) = true from by decide, show (bits .and .i64 7 2 != 0) = true from by decide, show (bits .and .i64 7 4 != 0) = true from by decide, show (bits .and .i64 7 8 != 0) = false from by decide, show (bits .and .i64 7 16 != 0) = false from by decide, show (bits .and .i64 7 32 != 0) = false from by decide, show (bits .and .i64 7 64 != 0) = false from by decide, beyond_not, h0]
    simp)
  have HK := Lib.hid hk; clear hk
  go_enter Tryd.func54, Tryd.ntmps54
  go_upto_region 0 with fail
  go_upto_region 1 with fail
  have hx := EntBox.new w e
  have ck : (w.alloc (.cells e.cells 26)).cell? ⟨w.heap.size, 3, none⟩ = some (.int .i64 3) := by rw [hx.cell 3]; simp [Ent.cells, HK.out]
  have c0 : (w.alloc (.cells e.cells 26)).cell? ⟨w.heap.size, 0, none⟩ = some (.int .i64 e.id) := hx.cell 0
  have c1 : (w.alloc (.cells e.cells 26)).cell? ⟨w.heap.size, 1, none⟩ = some (.int .i64 e.school) := hx.cell 1
  have c6 : (w.alloc (.cells e.cells 26)).cell? ⟨w.heap.size, 6, none⟩ = some (.string e.course) := hx.cell 6
  have c7 : (w.alloc (.cells e.cells 26)).cell? ⟨w.heap.size, 7, none⟩ = some (.int .i64 e.credits) := hx.cell 7
  have c8 : (w.alloc (.cells e.cells 26)).cell? ⟨w.heap.size, 8, none⟩ = some (.int .i64 e.grade) := hx.cell 8
  have c9 : (w.alloc (.cells e.cells 26)).cell? ⟨w.heap.size, 9, none⟩ = some (.int .i64 e.ref) := hx.cell 9
  have c10 : (w.alloc (.cells e.cells 26)).cell? ⟨w.heap.size, 10, none⟩ = some (.int .i64 e.fro) := hx.cell 10
  have c11 : (w.alloc (.cells e.cells 26)).cell? ⟨w.heap.size, 11, none⟩ = some (.int .i64 e.programme) := hx.cell 11
  have c12 : (w.alloc (.cells e.cells 26)).cell? ⟨w.heap.size, 12, none⟩ = some (.int .i64 e.version) := hx.cell 12
  have hb := below_alloc1 w (.cells e.cells 26)
  unfold Ent.cells at ck c0 c1 c6 c7 c8 c9 c10 c11 c12 hb
  generalize w.alloc _ = W at ck c0 c1 c6 c7 c8 c9 c10 c11 c12 hb ⊢
  clear hx
  go_wp2_with (first | (go_at_call 83; refine (refCode_any e.course _ hc).mono ?_; rintro r w1 ⟨rfl, rfl⟩) | (go_at_call 52; refine (between_any _ _ _ _).mono ?_; rintro r w1 ⟨rfl, rfl⟩))
  go_ret
  exact ⟨ret_int H.out.symm, hb⟩

set_option maxHeartbeats 4000000 in
set_option maxRecDepth 100000 in
theorem fields_3_1 (e : Ent) (w : World) (hc : e.course.size ≤ 1000000) (hk : e.kind = 3) (h0 : codeL e.course.data.toList = true) (h1 : betweenB e.credits 1 60 = false) :
    Calls Tryd.prog 54 #[e.val] w fun x w' => x = .returned (.int .i64 (ruleFrom (hasv e.kind) e 0)) ∧ RowKit.Below w.heap.size w w' := by
  have H : Hid (ruleFrom (hasv e.kind) e 0 = 3) := Lib.hid (by
    rw [hk, show hasv 3 = 7 from rfl]
    unfold ruleFrom
    simp only [show (bits .and .i64 7 1 != 0) = true from by decide, show (bits .and .i64 7 2 != 0) = true from by decide, show (bits .and .i64 7 4 != 0) = true from by decide, show (bits .and .i64 7 8 != 0) = false from by decide, show (bits .and .i64 7 16 != 0) = false from by decide, show (bits .and .i64 7 32 != 0) = false from by decide, show (bits .and .i64 7 64 != 0) = false from by decide, beyond_not, h0, h1]
    simp)
  have HK := Lib.hid hk; clear hk
  go_enter Tryd.func54, Tryd.ntmps54
  go_upto_region 0 with fail
  go_upto_region 1 with fail
  have hx := EntBox.new w e
  have ck : (w.alloc (.cells e.cells 26)).cell? ⟨w.heap.size, 3, none⟩ = some (.int .i64 3) := by rw [hx.cell 3]; simp [Ent.cells, HK.out]
  have c0 : (w.alloc (.cells e.cells 26)).cell? ⟨w.heap.size, 0, none⟩ = some (.int .i64 e.id) := hx.cell 0
  have c1 : (w.alloc (.cells e.cells 26)).cell? ⟨w.heap.size, 1, none⟩ = some (.int .i64 e.school) := hx.cell 1
  have c6 : (w.alloc (.cells e.cells 26)).cell? ⟨w.heap.size, 6, none⟩ = some (.string e.course) := hx.cell 6
  have c7 : (w.alloc (.cells e.cells 26)).cell? ⟨w.heap.size, 7, none⟩ = some (.int .i64 e.credits) := hx.cell 7
  have c8 : (w.alloc (.cells e.cells 26)).cell? ⟨w.heap.size, 8, none⟩ = some (.int .i64 e.grade) := hx.cell 8
  have c9 : (w.alloc (.cells e.cells 26)).cell? ⟨w.heap.size, 9, none⟩ = some (.int .i64 e.ref) := hx.cell 9
  have c10 : (w.alloc (.cells e.cells 26)).cell? ⟨w.heap.size, 10, none⟩ = some (.int .i64 e.fro) := hx.cell 10
  have c11 : (w.alloc (.cells e.cells 26)).cell? ⟨w.heap.size, 11, none⟩ = some (.int .i64 e.programme) := hx.cell 11
  have c12 : (w.alloc (.cells e.cells 26)).cell? ⟨w.heap.size, 12, none⟩ = some (.int .i64 e.version) := hx.cell 12
  have hb := below_alloc1 w (.cells e.cells 26)
  unfold Ent.cells at ck c0 c1 c6 c7 c8 c9 c10 c11 c12 hb
  generalize w.alloc _ = W at ck c0 c1 c6 c7 c8 c9 c10 c11 c12 hb ⊢
  clear hx
  go_wp2_with (first | (go_at_call 83; refine (refCode_any e.course _ hc).mono ?_; rintro r w1 ⟨rfl, rfl⟩) | (go_at_call 52; refine (between_any _ _ _ _).mono ?_; rintro r w1 ⟨rfl, rfl⟩))
  go_ret
  exact ⟨ret_int H.out.symm, hb⟩

set_option maxHeartbeats 4000000 in
set_option maxRecDepth 100000 in
theorem fields_3_2 (e : Ent) (w : World) (hc : e.course.size ≤ 1000000) (hk : e.kind = 3) (h0 : codeL e.course.data.toList = true) (h1 : betweenB e.credits 1 60 = true) (h2 : betweenB e.grade (-1000) 1000 = false) :
    Calls Tryd.prog 54 #[e.val] w fun x w' => x = .returned (.int .i64 (ruleFrom (hasv e.kind) e 0)) ∧ RowKit.Below w.heap.size w w' := by
  have H : Hid (ruleFrom (hasv e.kind) e 0 = 3) := Lib.hid (by
    rw [hk, show hasv 3 = 7 from rfl]
    unfold ruleFrom
    simp only [show (bits .and .i64 7 1 != 0) = true from by decide, show (bits .and .i64 7 2 != 0) = true from by decide, show (bits .and .i64 7 4 != 0) = true from by decide, show (bits .and .i64 7 8 != 0) = false from by decide, show (bits .and .i64 7 16 != 0) = false from by decide, show (bits .and .i64 7 32 != 0) = false from by decide, show (bits .and .i64 7 64 != 0) = false from by decide, beyond_not, h0, h1, h2]
    simp)
  have HK := Lib.hid hk; clear hk
  go_enter Tryd.func54, Tryd.ntmps54
  go_upto_region 0 with fail
  go_upto_region 1 with fail
  have hx := EntBox.new w e
  have ck : (w.alloc (.cells e.cells 26)).cell? ⟨w.heap.size, 3, none⟩ = some (.int .i64 3) := by rw [hx.cell 3]; simp [Ent.cells, HK.out]
  have c0 : (w.alloc (.cells e.cells 26)).cell? ⟨w.heap.size, 0, none⟩ = some (.int .i64 e.id) := hx.cell 0
  have c1 : (w.alloc (.cells e.cells 26)).cell? ⟨w.heap.size, 1, none⟩ = some (.int .i64 e.school) := hx.cell 1
  have c6 : (w.alloc (.cells e.cells 26)).cell? ⟨w.heap.size, 6, none⟩ = some (.string e.course) := hx.cell 6
  have c7 : (w.alloc (.cells e.cells 26)).cell? ⟨w.heap.size, 7, none⟩ = some (.int .i64 e.credits) := hx.cell 7
  have c8 : (w.alloc (.cells e.cells 26)).cell? ⟨w.heap.size, 8, none⟩ = some (.int .i64 e.grade) := hx.cell 8
  have c9 : (w.alloc (.cells e.cells 26)).cell? ⟨w.heap.size, 9, none⟩ = some (.int .i64 e.ref) := hx.cell 9
  have c10 : (w.alloc (.cells e.cells 26)).cell? ⟨w.heap.size, 10, none⟩ = some (.int .i64 e.fro) := hx.cell 10
  have c11 : (w.alloc (.cells e.cells 26)).cell? ⟨w.heap.size, 11, none⟩ = some (.int .i64 e.programme) := hx.cell 11
  have c12 : (w.alloc (.cells e.cells 26)).cell? ⟨w.heap.size, 12, none⟩ = some (.int .i64 e.version) := hx.cell 12
  have hb := below_alloc1 w (.cells e.cells 26)
  unfold Ent.cells at ck c0 c1 c6 c7 c8 c9 c10 c11 c12 hb
  generalize w.alloc _ = W at ck c0 c1 c6 c7 c8 c9 c10 c11 c12 hb ⊢
  clear hx
  go_wp2_with (first | (go_at_call 83; refine (refCode_any e.course _ hc).mono ?_; rintro r w1 ⟨rfl, rfl⟩) | (go_at_call 52; refine (between_any _ _ _ _).mono ?_; rintro r w1 ⟨rfl, rfl⟩))
  go_ret
  exact ⟨ret_int H.out.symm, hb⟩

set_option maxHeartbeats 4000000 in
set_option maxRecDepth 100000 in
theorem fields_3_3 (e : Ent) (w : World) (hc : e.course.size ≤ 1000000) (hk : e.kind = 3) (h0 : codeL e.course.data.toList = true) (h1 : betweenB e.credits 1 60 = true) (h2 : betweenB e.grade (-1000) 1000 = true) :
    Calls Tryd.prog 54 #[e.val] w fun x w' => x = .returned (.int .i64 (ruleFrom (hasv e.kind) e 0)) ∧ RowKit.Below w.heap.size w w' := by
  have H : Hid (ruleFrom (hasv e.kind) e 0 = 0) := Lib.hid (by
    rw [hk, show hasv 3 = 7 from rfl]
    unfold ruleFrom
    simp only [show (bits .and .i64 7 1 != 0) = true from by decide, show (bits .and .i64 7 2 != 0) = true from by decide, show (bits .and .i64 7 4 != 0) = true from by decide, show (bits .and .i64 7 8 != 0) = false from by decide, show (bits .and .i64 7 16 != 0) = false from by decide, show (bits .and .i64 7 32 != 0) = false from by decide, show (bits .and .i64 7 64 != 0) = false from by decide, beyond_not, h0, h1, h2]
    simp)
  have HK := Lib.hid hk; clear hk
  go_enter Tryd.func54, Tryd.ntmps54
  go_upto_region 0 with fail
  go_upto_region 1 with fail
  have hx := EntBox.new w e
  have ck : (w.alloc (.cells e.cells 26)).cell? ⟨w.heap.size, 3, none⟩ = some (.int .i64 3) := by rw [hx.cell 3]; simp [Ent.cells, HK.out]
  have c0 : (w.alloc (.cells e.cells 26)).cell? ⟨w.heap.size, 0, none⟩ = some (.int .i64 e.id) := hx.cell 0
  have c1 : (w.alloc (.cells e.cells 26)).cell? ⟨w.heap.size, 1, none⟩ = some (.int .i64 e.school) := hx.cell 1
  have c6 : (w.alloc (.cells e.cells 26)).cell? ⟨w.heap.size, 6, none⟩ = some (.string e.course) := hx.cell 6
  have c7 : (w.alloc (.cells e.cells 26)).cell? ⟨w.heap.size, 7, none⟩ = some (.int .i64 e.credits) := hx.cell 7
  have c8 : (w.alloc (.cells e.cells 26)).cell? ⟨w.heap.size, 8, none⟩ = some (.int .i64 e.grade) := hx.cell 8
  have c9 : (w.alloc (.cells e.cells 26)).cell? ⟨w.heap.size, 9, none⟩ = some (.int .i64 e.ref) := hx.cell 9
  have c10 : (w.alloc (.cells e.cells 26)).cell? ⟨w.heap.size, 10, none⟩ = some (.int .i64 e.fro) := hx.cell 10
  have c11 : (w.alloc (.cells e.cells 26)).cell? ⟨w.heap.size, 11, none⟩ = some (.int .i64 e.programme) := hx.cell 11
  have c12 : (w.alloc (.cells e.cells 26)).cell? ⟨w.heap.size, 12, none⟩ = some (.int .i64 e.version) := hx.cell 12
  have hb := below_alloc1 w (.cells e.cells 26)
  unfold Ent.cells at ck c0 c1 c6 c7 c8 c9 c10 c11 c12 hb
  generalize w.alloc _ = W at ck c0 c1 c6 c7 c8 c9 c10 c11 c12 hb ⊢
  clear hx
  go_wp2_with (first | (go_at_call 83; refine (refCode_any e.course _ hc).mono ?_; rintro r w1 ⟨rfl, rfl⟩) | (go_at_call 52; refine (between_any _ _ _ _).mono ?_; rintro r w1 ⟨rfl, rfl⟩))
  go_ret
  exact ⟨ret_int H.out.symm, hb⟩

set_option maxHeartbeats 4000000 in
set_option maxRecDepth 100000 in
theorem fields_4_0 (e : Ent) (w : World) (hc : e.course.size ≤ 1000000) (hk : e.kind = 4) (h0 : betweenB e.grade (-1000) 1000 = false) :
    Calls Tryd.prog 54 #[e.val] w fun x w' => x = .returned (.int .i64 (ruleFrom (hasv e.kind) e 0)) ∧ RowKit.Below w.heap.size w w' := by
  have H : Hid (ruleFrom (hasv e.kind) e 0 = 3) := Lib.hid (by
    rw [hk, show hasv 4 = 12 from rfl]
    unfold ruleFrom
    simp only [show (bits .and .i64 12 1 != 0) = false from by decide, show (bits .and .i64 12 2 != 0) = false from by decide, show (bits .and .i64 12 4 != 0) = true from by decide, show (bits .and .i64 12 8 != 0) = true from by decide, show (bits .and .i64 12 16 != 0) = false from by decide, show (bits .and .i64 12 32 != 0) = false from by decide, show (bits .and .i64 12 64 != 0) = false from by decide, beyond_not, h0]
    simp)
  have HK := Lib.hid hk; clear hk
  go_enter Tryd.func54, Tryd.ntmps54
  go_upto_region 0 with fail
  go_upto_region 1 with fail
  have hx := EntBox.new w e
  have ck : (w.alloc (.cells e.cells 26)).cell? ⟨w.heap.size, 3, none⟩ = some (.int .i64 4) := by rw [hx.cell 3]; simp [Ent.cells, HK.out]
  have c0 : (w.alloc (.cells e.cells 26)).cell? ⟨w.heap.size, 0, none⟩ = some (.int .i64 e.id) := hx.cell 0
  have c1 : (w.alloc (.cells e.cells 26)).cell? ⟨w.heap.size, 1, none⟩ = some (.int .i64 e.school) := hx.cell 1
  have c6 : (w.alloc (.cells e.cells 26)).cell? ⟨w.heap.size, 6, none⟩ = some (.string e.course) := hx.cell 6
  have c7 : (w.alloc (.cells e.cells 26)).cell? ⟨w.heap.size, 7, none⟩ = some (.int .i64 e.credits) := hx.cell 7
  have c8 : (w.alloc (.cells e.cells 26)).cell? ⟨w.heap.size, 8, none⟩ = some (.int .i64 e.grade) := hx.cell 8
  have c9 : (w.alloc (.cells e.cells 26)).cell? ⟨w.heap.size, 9, none⟩ = some (.int .i64 e.ref) := hx.cell 9
  have c10 : (w.alloc (.cells e.cells 26)).cell? ⟨w.heap.size, 10, none⟩ = some (.int .i64 e.fro) := hx.cell 10
  have c11 : (w.alloc (.cells e.cells 26)).cell? ⟨w.heap.size, 11, none⟩ = some (.int .i64 e.programme) := hx.cell 11
  have c12 : (w.alloc (.cells e.cells 26)).cell? ⟨w.heap.size, 12, none⟩ = some (.int .i64 e.version) := hx.cell 12
  have hb := below_alloc1 w (.cells e.cells 26)
  unfold Ent.cells at ck c0 c1 c6 c7 c8 c9 c10 c11 c12 hb
  generalize w.alloc _ = W at ck c0 c1 c6 c7 c8 c9 c10 c11 c12 hb ⊢
  clear hx
  go_wp2_with (first | (go_at_call 83; refine (refCode_any e.course _ hc).mono ?_; rintro r w1 ⟨rfl, rfl⟩) | (go_at_call 52; refine (between_any _ _ _ _).mono ?_; rintro r w1 ⟨rfl, rfl⟩))
  go_ret
  exact ⟨ret_int H.out.symm, hb⟩

set_option maxHeartbeats 4000000 in
set_option maxRecDepth 100000 in
theorem fields_4_1 (e : Ent) (w : World) (hc : e.course.size ≤ 1000000) (hk : e.kind = 4) (h0 : betweenB e.grade (-1000) 1000 = true) (h1 : betweenB e.ref 1 899999 = false) :
    Calls Tryd.prog 54 #[e.val] w fun x w' => x = .returned (.int .i64 (ruleFrom (hasv e.kind) e 0)) ∧ RowKit.Below w.heap.size w w' := by
  have H : Hid (ruleFrom (hasv e.kind) e 0 = 21) := Lib.hid (by
    rw [hk, show hasv 4 = 12 from rfl]
    unfold ruleFrom
    simp only [show (bits .and .i64 12 1 != 0) = false from by decide, show (bits .and .i64 12 2 != 0) = false from by decide, show (bits .and .i64 12 4 != 0) = true from by decide, show (bits .and .i64 12 8 != 0) = true from by decide, show (bits .and .i64 12 16 != 0) = false from by decide, show (bits .and .i64 12 32 != 0) = false from by decide, show (bits .and .i64 12 64 != 0) = false from by decide, beyond_not, h0, h1]
    simp)
  have HK := Lib.hid hk; clear hk
  go_enter Tryd.func54, Tryd.ntmps54
  go_upto_region 0 with fail
  go_upto_region 1 with fail
  have hx := EntBox.new w e
  have ck : (w.alloc (.cells e.cells 26)).cell? ⟨w.heap.size, 3, none⟩ = some (.int .i64 4) := by rw [hx.cell 3]; simp [Ent.cells, HK.out]
  have c0 : (w.alloc (.cells e.cells 26)).cell? ⟨w.heap.size, 0, none⟩ = some (.int .i64 e.id) := hx.cell 0
  have c1 : (w.alloc (.cells e.cells 26)).cell? ⟨w.heap.size, 1, none⟩ = some (.int .i64 e.school) := hx.cell 1
  have c6 : (w.alloc (.cells e.cells 26)).cell? ⟨w.heap.size, 6, none⟩ = some (.string e.course) := hx.cell 6
  have c7 : (w.alloc (.cells e.cells 26)).cell? ⟨w.heap.size, 7, none⟩ = some (.int .i64 e.credits) := hx.cell 7
  have c8 : (w.alloc (.cells e.cells 26)).cell? ⟨w.heap.size, 8, none⟩ = some (.int .i64 e.grade) := hx.cell 8
  have c9 : (w.alloc (.cells e.cells 26)).cell? ⟨w.heap.size, 9, none⟩ = some (.int .i64 e.ref) := hx.cell 9
  have c10 : (w.alloc (.cells e.cells 26)).cell? ⟨w.heap.size, 10, none⟩ = some (.int .i64 e.fro) := hx.cell 10
  have c11 : (w.alloc (.cells e.cells 26)).cell? ⟨w.heap.size, 11, none⟩ = some (.int .i64 e.programme) := hx.cell 11
  have c12 : (w.alloc (.cells e.cells 26)).cell? ⟨w.heap.size, 12, none⟩ = some (.int .i64 e.version) := hx.cell 12
  have hb := below_alloc1 w (.cells e.cells 26)
  unfold Ent.cells at ck c0 c1 c6 c7 c8 c9 c10 c11 c12 hb
  generalize w.alloc _ = W at ck c0 c1 c6 c7 c8 c9 c10 c11 c12 hb ⊢
  clear hx
  go_wp2_with (first | (go_at_call 83; refine (refCode_any e.course _ hc).mono ?_; rintro r w1 ⟨rfl, rfl⟩) | (go_at_call 52; refine (between_any _ _ _ _).mono ?_; rintro r w1 ⟨rfl, rfl⟩))
  go_ret
  exact ⟨ret_int H.out.symm, hb⟩

set_option maxHeartbeats 4000000 in
set_option maxRecDepth 100000 in
theorem fields_4_2 (e : Ent) (w : World) (hc : e.course.size ≤ 1000000) (hk : e.kind = 4) (h0 : betweenB e.grade (-1000) 1000 = true) (h1 : betweenB e.ref 1 899999 = true) (h2 : (e.ref == e.id) = true) :
    Calls Tryd.prog 54 #[e.val] w fun x w' => x = .returned (.int .i64 (ruleFrom (hasv e.kind) e 0)) ∧ RowKit.Below w.heap.size w w' := by
  have H : Hid (ruleFrom (hasv e.kind) e 0 = 21) := Lib.hid (by
    rw [hk, show hasv 4 = 12 from rfl]
    unfold ruleFrom
    simp only [show (bits .and .i64 12 1 != 0) = false from by decide, show (bits .and .i64 12 2 != 0) = false from by decide, show (bits .and .i64 12 4 != 0) = true from by decide, show (bits .and .i64 12 8 != 0) = true from by decide, show (bits .and .i64 12 16 != 0) = false from by decide, show (bits .and .i64 12 32 != 0) = false from by decide, show (bits .and .i64 12 64 != 0) = false from by decide, beyond_not, h0, h1, h2]
    simp)
  have HK := Lib.hid hk; clear hk
  go_enter Tryd.func54, Tryd.ntmps54
  go_upto_region 0 with fail
  go_upto_region 1 with fail
  have hx := EntBox.new w e
  have ck : (w.alloc (.cells e.cells 26)).cell? ⟨w.heap.size, 3, none⟩ = some (.int .i64 4) := by rw [hx.cell 3]; simp [Ent.cells, HK.out]
  have c0 : (w.alloc (.cells e.cells 26)).cell? ⟨w.heap.size, 0, none⟩ = some (.int .i64 e.id) := hx.cell 0
  have c1 : (w.alloc (.cells e.cells 26)).cell? ⟨w.heap.size, 1, none⟩ = some (.int .i64 e.school) := hx.cell 1
  have c6 : (w.alloc (.cells e.cells 26)).cell? ⟨w.heap.size, 6, none⟩ = some (.string e.course) := hx.cell 6
  have c7 : (w.alloc (.cells e.cells 26)).cell? ⟨w.heap.size, 7, none⟩ = some (.int .i64 e.credits) := hx.cell 7
  have c8 : (w.alloc (.cells e.cells 26)).cell? ⟨w.heap.size, 8, none⟩ = some (.int .i64 e.grade) := hx.cell 8
  have c9 : (w.alloc (.cells e.cells 26)).cell? ⟨w.heap.size, 9, none⟩ = some (.int .i64 e.ref) := hx.cell 9
  have c10 : (w.alloc (.cells e.cells 26)).cell? ⟨w.heap.size, 10, none⟩ = some (.int .i64 e.fro) := hx.cell 10
  have c11 : (w.alloc (.cells e.cells 26)).cell? ⟨w.heap.size, 11, none⟩ = some (.int .i64 e.programme) := hx.cell 11
  have c12 : (w.alloc (.cells e.cells 26)).cell? ⟨w.heap.size, 12, none⟩ = some (.int .i64 e.version) := hx.cell 12
  have hb := below_alloc1 w (.cells e.cells 26)
  unfold Ent.cells at ck c0 c1 c6 c7 c8 c9 c10 c11 c12 hb
  generalize w.alloc _ = W at ck c0 c1 c6 c7 c8 c9 c10 c11 c12 hb ⊢
  clear hx
  go_wp2_with (first | (go_at_call 83; refine (refCode_any e.course _ hc).mono ?_; rintro r w1 ⟨rfl, rfl⟩) | (go_at_call 52; refine (between_any _ _ _ _).mono ?_; rintro r w1 ⟨rfl, rfl⟩))
  go_ret
  exact ⟨ret_int H.out.symm, hb⟩

set_option maxHeartbeats 4000000 in
set_option maxRecDepth 100000 in
theorem fields_4_3 (e : Ent) (w : World) (hc : e.course.size ≤ 1000000) (hk : e.kind = 4) (h0 : betweenB e.grade (-1000) 1000 = true) (h1 : betweenB e.ref 1 899999 = true) (h2 : (e.ref == e.id) = false) :
    Calls Tryd.prog 54 #[e.val] w fun x w' => x = .returned (.int .i64 (ruleFrom (hasv e.kind) e 0)) ∧ RowKit.Below w.heap.size w w' := by
  have H : Hid (ruleFrom (hasv e.kind) e 0 = 0) := Lib.hid (by
    rw [hk, show hasv 4 = 12 from rfl]
    unfold ruleFrom
    simp only [show (bits .and .i64 12 1 != 0) = false from by decide, show (bits .and .i64 12 2 != 0) = false from by decide, show (bits .and .i64 12 4 != 0) = true from by decide, show (bits .and .i64 12 8 != 0) = true from by decide, show (bits .and .i64 12 16 != 0) = false from by decide, show (bits .and .i64 12 32 != 0) = false from by decide, show (bits .and .i64 12 64 != 0) = false from by decide, beyond_not, h0, h1, h2]
    simp)
  have HK := Lib.hid hk; clear hk
  go_enter Tryd.func54, Tryd.ntmps54
  go_upto_region 0 with fail
  go_upto_region 1 with fail
  have hx := EntBox.new w e
  have ck : (w.alloc (.cells e.cells 26)).cell? ⟨w.heap.size, 3, none⟩ = some (.int .i64 4) := by rw [hx.cell 3]; simp [Ent.cells, HK.out]
  have c0 : (w.alloc (.cells e.cells 26)).cell? ⟨w.heap.size, 0, none⟩ = some (.int .i64 e.id) := hx.cell 0
  have c1 : (w.alloc (.cells e.cells 26)).cell? ⟨w.heap.size, 1, none⟩ = some (.int .i64 e.school) := hx.cell 1
  have c6 : (w.alloc (.cells e.cells 26)).cell? ⟨w.heap.size, 6, none⟩ = some (.string e.course) := hx.cell 6
  have c7 : (w.alloc (.cells e.cells 26)).cell? ⟨w.heap.size, 7, none⟩ = some (.int .i64 e.credits) := hx.cell 7
  have c8 : (w.alloc (.cells e.cells 26)).cell? ⟨w.heap.size, 8, none⟩ = some (.int .i64 e.grade) := hx.cell 8
  have c9 : (w.alloc (.cells e.cells 26)).cell? ⟨w.heap.size, 9, none⟩ = some (.int .i64 e.ref) := hx.cell 9
  have c10 : (w.alloc (.cells e.cells 26)).cell? ⟨w.heap.size, 10, none⟩ = some (.int .i64 e.fro) := hx.cell 10
  have c11 : (w.alloc (.cells e.cells 26)).cell? ⟨w.heap.size, 11, none⟩ = some (.int .i64 e.programme) := hx.cell 11
  have c12 : (w.alloc (.cells e.cells 26)).cell? ⟨w.heap.size, 12, none⟩ = some (.int .i64 e.version) := hx.cell 12
  have hb := below_alloc1 w (.cells e.cells 26)
  unfold Ent.cells at ck c0 c1 c6 c7 c8 c9 c10 c11 c12 hb
  generalize w.alloc _ = W at ck c0 c1 c6 c7 c8 c9 c10 c11 c12 hb ⊢
  clear hx
  go_wp2_with (first | (go_at_call 83; refine (refCode_any e.course _ hc).mono ?_; rintro r w1 ⟨rfl, rfl⟩) | (go_at_call 52; refine (between_any _ _ _ _).mono ?_; rintro r w1 ⟨rfl, rfl⟩))
  go_ret
  exact ⟨ret_int H.out.symm, hb⟩

set_option maxHeartbeats 4000000 in
set_option maxRecDepth 100000 in
theorem fields_5_0 (e : Ent) (w : World) (hc : e.course.size ≤ 1000000) (hk : e.kind = 5) (h0 : betweenB e.ref 1 899999 = false) :
    Calls Tryd.prog 54 #[e.val] w fun x w' => x = .returned (.int .i64 (ruleFrom (hasv e.kind) e 0)) ∧ RowKit.Below w.heap.size w w' := by
  have H : Hid (ruleFrom (hasv e.kind) e 0 = 21) := Lib.hid (by
    rw [hk, show hasv 5 = 8 from rfl]
    unfold ruleFrom
    simp only [show (bits .and .i64 8 1 != 0) = false from by decide, show (bits .and .i64 8 2 != 0) = false from by decide, show (bits .and .i64 8 4 != 0) = false from by decide, show (bits .and .i64 8 8 != 0) = true from by decide, show (bits .and .i64 8 16 != 0) = false from by decide, show (bits .and .i64 8 32 != 0) = false from by decide, show (bits .and .i64 8 64 != 0) = false from by decide, beyond_not, h0]
    simp)
  have HK := Lib.hid hk; clear hk
  go_enter Tryd.func54, Tryd.ntmps54
  go_upto_region 0 with fail
  go_upto_region 1 with fail
  have hx := EntBox.new w e
  have ck : (w.alloc (.cells e.cells 26)).cell? ⟨w.heap.size, 3, none⟩ = some (.int .i64 5) := by rw [hx.cell 3]; simp [Ent.cells, HK.out]
  have c0 : (w.alloc (.cells e.cells 26)).cell? ⟨w.heap.size, 0, none⟩ = some (.int .i64 e.id) := hx.cell 0
  have c1 : (w.alloc (.cells e.cells 26)).cell? ⟨w.heap.size, 1, none⟩ = some (.int .i64 e.school) := hx.cell 1
  have c6 : (w.alloc (.cells e.cells 26)).cell? ⟨w.heap.size, 6, none⟩ = some (.string e.course) := hx.cell 6
  have c7 : (w.alloc (.cells e.cells 26)).cell? ⟨w.heap.size, 7, none⟩ = some (.int .i64 e.credits) := hx.cell 7
  have c8 : (w.alloc (.cells e.cells 26)).cell? ⟨w.heap.size, 8, none⟩ = some (.int .i64 e.grade) := hx.cell 8
  have c9 : (w.alloc (.cells e.cells 26)).cell? ⟨w.heap.size, 9, none⟩ = some (.int .i64 e.ref) := hx.cell 9
  have c10 : (w.alloc (.cells e.cells 26)).cell? ⟨w.heap.size, 10, none⟩ = some (.int .i64 e.fro) := hx.cell 10
  have c11 : (w.alloc (.cells e.cells 26)).cell? ⟨w.heap.size, 11, none⟩ = some (.int .i64 e.programme) := hx.cell 11
  have c12 : (w.alloc (.cells e.cells 26)).cell? ⟨w.heap.size, 12, none⟩ = some (.int .i64 e.version) := hx.cell 12
  have hb := below_alloc1 w (.cells e.cells 26)
  unfold Ent.cells at ck c0 c1 c6 c7 c8 c9 c10 c11 c12 hb
  generalize w.alloc _ = W at ck c0 c1 c6 c7 c8 c9 c10 c11 c12 hb ⊢
  clear hx
  go_wp2_with (first | (go_at_call 83; refine (refCode_any e.course _ hc).mono ?_; rintro r w1 ⟨rfl, rfl⟩) | (go_at_call 52; refine (between_any _ _ _ _).mono ?_; rintro r w1 ⟨rfl, rfl⟩))
  go_ret
  exact ⟨ret_int H.out.symm, hb⟩

set_option maxHeartbeats 4000000 in
set_option maxRecDepth 100000 in
theorem fields_5_1 (e : Ent) (w : World) (hc : e.course.size ≤ 1000000) (hk : e.kind = 5) (h0 : betweenB e.ref 1 899999 = true) (h1 : (e.ref == e.id) = true) :
    Calls Tryd.prog 54 #[e.val] w fun x w' => x = .returned (.int .i64 (ruleFrom (hasv e.kind) e 0)) ∧ RowKit.Below w.heap.size w w' := by
  have H : Hid (ruleFrom (hasv e.kind) e 0 = 21) := Lib.hid (by
    rw [hk, show hasv 5 = 8 from rfl]
    unfold ruleFrom
    simp only [show (bits .and .i64 8 1 != 0) = false from by decide, show (bits .and .i64 8 2 != 0) = false from by decide, show (bits .and .i64 8 4 != 0) = false from by decide, show (bits .and .i64 8 8 != 0) = true from by decide, show (bits .and .i64 8 16 != 0) = false from by decide, show (bits .and .i64 8 32 != 0) = false from by decide, show (bits .and .i64 8 64 != 0) = false from by decide, beyond_not, h0, h1]
    simp)
  have HK := Lib.hid hk; clear hk
  go_enter Tryd.func54, Tryd.ntmps54
  go_upto_region 0 with fail
  go_upto_region 1 with fail
  have hx := EntBox.new w e
  have ck : (w.alloc (.cells e.cells 26)).cell? ⟨w.heap.size, 3, none⟩ = some (.int .i64 5) := by rw [hx.cell 3]; simp [Ent.cells, HK.out]
  have c0 : (w.alloc (.cells e.cells 26)).cell? ⟨w.heap.size, 0, none⟩ = some (.int .i64 e.id) := hx.cell 0
  have c1 : (w.alloc (.cells e.cells 26)).cell? ⟨w.heap.size, 1, none⟩ = some (.int .i64 e.school) := hx.cell 1
  have c6 : (w.alloc (.cells e.cells 26)).cell? ⟨w.heap.size, 6, none⟩ = some (.string e.course) := hx.cell 6
  have c7 : (w.alloc (.cells e.cells 26)).cell? ⟨w.heap.size, 7, none⟩ = some (.int .i64 e.credits) := hx.cell 7
  have c8 : (w.alloc (.cells e.cells 26)).cell? ⟨w.heap.size, 8, none⟩ = some (.int .i64 e.grade) := hx.cell 8
  have c9 : (w.alloc (.cells e.cells 26)).cell? ⟨w.heap.size, 9, none⟩ = some (.int .i64 e.ref) := hx.cell 9
  have c10 : (w.alloc (.cells e.cells 26)).cell? ⟨w.heap.size, 10, none⟩ = some (.int .i64 e.fro) := hx.cell 10
  have c11 : (w.alloc (.cells e.cells 26)).cell? ⟨w.heap.size, 11, none⟩ = some (.int .i64 e.programme) := hx.cell 11
  have c12 : (w.alloc (.cells e.cells 26)).cell? ⟨w.heap.size, 12, none⟩ = some (.int .i64 e.version) := hx.cell 12
  have hb := below_alloc1 w (.cells e.cells 26)
  unfold Ent.cells at ck c0 c1 c6 c7 c8 c9 c10 c11 c12 hb
  generalize w.alloc _ = W at ck c0 c1 c6 c7 c8 c9 c10 c11 c12 hb ⊢
  clear hx
  go_wp2_with (first | (go_at_call 83; refine (refCode_any e.course _ hc).mono ?_; rintro r w1 ⟨rfl, rfl⟩) | (go_at_call 52; refine (between_any _ _ _ _).mono ?_; rintro r w1 ⟨rfl, rfl⟩))
  go_ret
  exact ⟨ret_int H.out.symm, hb⟩

set_option maxHeartbeats 4000000 in
set_option maxRecDepth 100000 in
theorem fields_5_2 (e : Ent) (w : World) (hc : e.course.size ≤ 1000000) (hk : e.kind = 5) (h0 : betweenB e.ref 1 899999 = true) (h1 : (e.ref == e.id) = false) :
    Calls Tryd.prog 54 #[e.val] w fun x w' => x = .returned (.int .i64 (ruleFrom (hasv e.kind) e 0)) ∧ RowKit.Below w.heap.size w w' := by
  have H : Hid (ruleFrom (hasv e.kind) e 0 = 0) := Lib.hid (by
    rw [hk, show hasv 5 = 8 from rfl]
    unfold ruleFrom
    simp only [show (bits .and .i64 8 1 != 0) = false from by decide, show (bits .and .i64 8 2 != 0) = false from by decide, show (bits .and .i64 8 4 != 0) = false from by decide, show (bits .and .i64 8 8 != 0) = true from by decide, show (bits .and .i64 8 16 != 0) = false from by decide, show (bits .and .i64 8 32 != 0) = false from by decide, show (bits .and .i64 8 64 != 0) = false from by decide, beyond_not, h0, h1]
    simp)
  have HK := Lib.hid hk; clear hk
  go_enter Tryd.func54, Tryd.ntmps54
  go_upto_region 0 with fail
  go_upto_region 1 with fail
  have hx := EntBox.new w e
  have ck : (w.alloc (.cells e.cells 26)).cell? ⟨w.heap.size, 3, none⟩ = some (.int .i64 5) := by rw [hx.cell 3]; simp [Ent.cells, HK.out]
  have c0 : (w.alloc (.cells e.cells 26)).cell? ⟨w.heap.size, 0, none⟩ = some (.int .i64 e.id) := hx.cell 0
  have c1 : (w.alloc (.cells e.cells 26)).cell? ⟨w.heap.size, 1, none⟩ = some (.int .i64 e.school) := hx.cell 1
  have c6 : (w.alloc (.cells e.cells 26)).cell? ⟨w.heap.size, 6, none⟩ = some (.string e.course) := hx.cell 6
  have c7 : (w.alloc (.cells e.cells 26)).cell? ⟨w.heap.size, 7, none⟩ = some (.int .i64 e.credits) := hx.cell 7
  have c8 : (w.alloc (.cells e.cells 26)).cell? ⟨w.heap.size, 8, none⟩ = some (.int .i64 e.grade) := hx.cell 8
  have c9 : (w.alloc (.cells e.cells 26)).cell? ⟨w.heap.size, 9, none⟩ = some (.int .i64 e.ref) := hx.cell 9
  have c10 : (w.alloc (.cells e.cells 26)).cell? ⟨w.heap.size, 10, none⟩ = some (.int .i64 e.fro) := hx.cell 10
  have c11 : (w.alloc (.cells e.cells 26)).cell? ⟨w.heap.size, 11, none⟩ = some (.int .i64 e.programme) := hx.cell 11
  have c12 : (w.alloc (.cells e.cells 26)).cell? ⟨w.heap.size, 12, none⟩ = some (.int .i64 e.version) := hx.cell 12
  have hb := below_alloc1 w (.cells e.cells 26)
  unfold Ent.cells at ck c0 c1 c6 c7 c8 c9 c10 c11 c12 hb
  generalize w.alloc _ = W at ck c0 c1 c6 c7 c8 c9 c10 c11 c12 hb ⊢
  clear hx
  go_wp2_with (first | (go_at_call 83; refine (refCode_any e.course _ hc).mono ?_; rintro r w1 ⟨rfl, rfl⟩) | (go_at_call 52; refine (between_any _ _ _ _).mono ?_; rintro r w1 ⟨rfl, rfl⟩))
  go_ret
  exact ⟨ret_int H.out.symm, hb⟩

set_option maxHeartbeats 4000000 in
set_option maxRecDepth 100000 in
theorem fields_6_0 (e : Ent) (w : World) (hc : e.course.size ≤ 1000000) (hk : e.kind = 6) (h0 : betweenB e.ref 1 899999 = false) :
    Calls Tryd.prog 54 #[e.val] w fun x w' => x = .returned (.int .i64 (ruleFrom (hasv e.kind) e 0)) ∧ RowKit.Below w.heap.size w w' := by
  have H : Hid (ruleFrom (hasv e.kind) e 0 = 21) := Lib.hid (by
    rw [hk, show hasv 6 = 8 from rfl]
    unfold ruleFrom
    simp only [show (bits .and .i64 8 1 != 0) = false from by decide, show (bits .and .i64 8 2 != 0) = false from by decide, show (bits .and .i64 8 4 != 0) = false from by decide, show (bits .and .i64 8 8 != 0) = true from by decide, show (bits .and .i64 8 16 != 0) = false from by decide, show (bits .and .i64 8 32 != 0) = false from by decide, show (bits .and .i64 8 64 != 0) = false from by decide, beyond_not, h0]
    simp)
  have HK := Lib.hid hk; clear hk
  go_enter Tryd.func54, Tryd.ntmps54
  go_upto_region 0 with fail
  go_upto_region 1 with fail
  have hx := EntBox.new w e
  have ck : (w.alloc (.cells e.cells 26)).cell? ⟨w.heap.size, 3, none⟩ = some (.int .i64 6) := by rw [hx.cell 3]; simp [Ent.cells, HK.out]
  have c0 : (w.alloc (.cells e.cells 26)).cell? ⟨w.heap.size, 0, none⟩ = some (.int .i64 e.id) := hx.cell 0
  have c1 : (w.alloc (.cells e.cells 26)).cell? ⟨w.heap.size, 1, none⟩ = some (.int .i64 e.school) := hx.cell 1
  have c6 : (w.alloc (.cells e.cells 26)).cell? ⟨w.heap.size, 6, none⟩ = some (.string e.course) := hx.cell 6
  have c7 : (w.alloc (.cells e.cells 26)).cell? ⟨w.heap.size, 7, none⟩ = some (.int .i64 e.credits) := hx.cell 7
  have c8 : (w.alloc (.cells e.cells 26)).cell? ⟨w.heap.size, 8, none⟩ = some (.int .i64 e.grade) := hx.cell 8
  have c9 : (w.alloc (.cells e.cells 26)).cell? ⟨w.heap.size, 9, none⟩ = some (.int .i64 e.ref) := hx.cell 9
  have c10 : (w.alloc (.cells e.cells 26)).cell? ⟨w.heap.size, 10, none⟩ = some (.int .i64 e.fro) := hx.cell 10
  have c11 : (w.alloc (.cells e.cells 26)).cell? ⟨w.heap.size, 11, none⟩ = some (.int .i64 e.programme) := hx.cell 11
  have c12 : (w.alloc (.cells e.cells 26)).cell? ⟨w.heap.size, 12, none⟩ = some (.int .i64 e.version) := hx.cell 12
  have hb := below_alloc1 w (.cells e.cells 26)
  unfold Ent.cells at ck c0 c1 c6 c7 c8 c9 c10 c11 c12 hb
  generalize w.alloc _ = W at ck c0 c1 c6 c7 c8 c9 c10 c11 c12 hb ⊢
  clear hx
  go_wp2_with (first | (go_at_call 83; refine (refCode_any e.course _ hc).mono ?_; rintro r w1 ⟨rfl, rfl⟩) | (go_at_call 52; refine (between_any _ _ _ _).mono ?_; rintro r w1 ⟨rfl, rfl⟩))
  go_ret
  exact ⟨ret_int H.out.symm, hb⟩

set_option maxHeartbeats 4000000 in
set_option maxRecDepth 100000 in
theorem fields_6_1 (e : Ent) (w : World) (hc : e.course.size ≤ 1000000) (hk : e.kind = 6) (h0 : betweenB e.ref 1 899999 = true) (h1 : (e.ref == e.id) = true) :
    Calls Tryd.prog 54 #[e.val] w fun x w' => x = .returned (.int .i64 (ruleFrom (hasv e.kind) e 0)) ∧ RowKit.Below w.heap.size w w' := by
  have H : Hid (ruleFrom (hasv e.kind) e 0 = 21) := Lib.hid (by
    rw [hk, show hasv 6 = 8 from rfl]
    unfold ruleFrom
    simp only [show (bits .and .i64 8 1 != 0) = false from by decide, show (bits .and .i64 8 2 != 0) = false from by decide, show (bits .and .i64 8 4 != 0) = false from by decide, show (bits .and .i64 8 8 != 0) = true from by decide, show (bits .and .i64 8 16 != 0) = false from by decide, show (bits .and .i64 8 32 != 0) = false from by decide, show (bits .and .i64 8 64 != 0) = false from by decide, beyond_not, h0, h1]
    simp)
  have HK := Lib.hid hk; clear hk
  go_enter Tryd.func54, Tryd.ntmps54
  go_upto_region 0 with fail
  go_upto_region 1 with fail
  have hx := EntBox.new w e
  have ck : (w.alloc (.cells e.cells 26)).cell? ⟨w.heap.size, 3, none⟩ = some (.int .i64 6) := by rw [hx.cell 3]; simp [Ent.cells, HK.out]
  have c0 : (w.alloc (.cells e.cells 26)).cell? ⟨w.heap.size, 0, none⟩ = some (.int .i64 e.id) := hx.cell 0
  have c1 : (w.alloc (.cells e.cells 26)).cell? ⟨w.heap.size, 1, none⟩ = some (.int .i64 e.school) := hx.cell 1
  have c6 : (w.alloc (.cells e.cells 26)).cell? ⟨w.heap.size, 6, none⟩ = some (.string e.course) := hx.cell 6
  have c7 : (w.alloc (.cells e.cells 26)).cell? ⟨w.heap.size, 7, none⟩ = some (.int .i64 e.credits) := hx.cell 7
  have c8 : (w.alloc (.cells e.cells 26)).cell? ⟨w.heap.size, 8, none⟩ = some (.int .i64 e.grade) := hx.cell 8
  have c9 : (w.alloc (.cells e.cells 26)).cell? ⟨w.heap.size, 9, none⟩ = some (.int .i64 e.ref) := hx.cell 9
  have c10 : (w.alloc (.cells e.cells 26)).cell? ⟨w.heap.size, 10, none⟩ = some (.int .i64 e.fro) := hx.cell 10
  have c11 : (w.alloc (.cells e.cells 26)).cell? ⟨w.heap.size, 11, none⟩ = some (.int .i64 e.programme) := hx.cell 11
  have c12 : (w.alloc (.cells e.cells 26)).cell? ⟨w.heap.size, 12, none⟩ = some (.int .i64 e.version) := hx.cell 12
  have hb := below_alloc1 w (.cells e.cells 26)
  unfold Ent.cells at ck c0 c1 c6 c7 c8 c9 c10 c11 c12 hb
  generalize w.alloc _ = W at ck c0 c1 c6 c7 c8 c9 c10 c11 c12 hb ⊢
  clear hx
  go_wp2_with (first | (go_at_call 83; refine (refCode_any e.course _ hc).mono ?_; rintro r w1 ⟨rfl, rfl⟩) | (go_at_call 52; refine (between_any _ _ _ _).mono ?_; rintro r w1 ⟨rfl, rfl⟩))
  go_ret
  exact ⟨ret_int H.out.symm, hb⟩

set_option maxHeartbeats 4000000 in
set_option maxRecDepth 100000 in
theorem fields_6_2 (e : Ent) (w : World) (hc : e.course.size ≤ 1000000) (hk : e.kind = 6) (h0 : betweenB e.ref 1 899999 = true) (h1 : (e.ref == e.id) = false) :
    Calls Tryd.prog 54 #[e.val] w fun x w' => x = .returned (.int .i64 (ruleFrom (hasv e.kind) e 0)) ∧ RowKit.Below w.heap.size w w' := by
  have H : Hid (ruleFrom (hasv e.kind) e 0 = 0) := Lib.hid (by
    rw [hk, show hasv 6 = 8 from rfl]
    unfold ruleFrom
    simp only [show (bits .and .i64 8 1 != 0) = false from by decide, show (bits .and .i64 8 2 != 0) = false from by decide, show (bits .and .i64 8 4 != 0) = false from by decide, show (bits .and .i64 8 8 != 0) = true from by decide, show (bits .and .i64 8 16 != 0) = false from by decide, show (bits .and .i64 8 32 != 0) = false from by decide, show (bits .and .i64 8 64 != 0) = false from by decide, beyond_not, h0, h1]
    simp)
  have HK := Lib.hid hk; clear hk
  go_enter Tryd.func54, Tryd.ntmps54
  go_upto_region 0 with fail
  go_upto_region 1 with fail
  have hx := EntBox.new w e
  have ck : (w.alloc (.cells e.cells 26)).cell? ⟨w.heap.size, 3, none⟩ = some (.int .i64 6) := by rw [hx.cell 3]; simp [Ent.cells, HK.out]
  have c0 : (w.alloc (.cells e.cells 26)).cell? ⟨w.heap.size, 0, none⟩ = some (.int .i64 e.id) := hx.cell 0
  have c1 : (w.alloc (.cells e.cells 26)).cell? ⟨w.heap.size, 1, none⟩ = some (.int .i64 e.school) := hx.cell 1
  have c6 : (w.alloc (.cells e.cells 26)).cell? ⟨w.heap.size, 6, none⟩ = some (.string e.course) := hx.cell 6
  have c7 : (w.alloc (.cells e.cells 26)).cell? ⟨w.heap.size, 7, none⟩ = some (.int .i64 e.credits) := hx.cell 7
  have c8 : (w.alloc (.cells e.cells 26)).cell? ⟨w.heap.size, 8, none⟩ = some (.int .i64 e.grade) := hx.cell 8
  have c9 : (w.alloc (.cells e.cells 26)).cell? ⟨w.heap.size, 9, none⟩ = some (.int .i64 e.ref) := hx.cell 9
  have c10 : (w.alloc (.cells e.cells 26)).cell? ⟨w.heap.size, 10, none⟩ = some (.int .i64 e.fro) := hx.cell 10
  have c11 : (w.alloc (.cells e.cells 26)).cell? ⟨w.heap.size, 11, none⟩ = some (.int .i64 e.programme) := hx.cell 11
  have c12 : (w.alloc (.cells e.cells 26)).cell? ⟨w.heap.size, 12, none⟩ = some (.int .i64 e.version) := hx.cell 12
  have hb := below_alloc1 w (.cells e.cells 26)
  unfold Ent.cells at ck c0 c1 c6 c7 c8 c9 c10 c11 c12 hb
  generalize w.alloc _ = W at ck c0 c1 c6 c7 c8 c9 c10 c11 c12 hb ⊢
  clear hx
  go_wp2_with (first | (go_at_call 83; refine (refCode_any e.course _ hc).mono ?_; rintro r w1 ⟨rfl, rfl⟩) | (go_at_call 52; refine (between_any _ _ _ _).mono ?_; rintro r w1 ⟨rfl, rfl⟩))
  go_ret
  exact ⟨ret_int H.out.symm, hb⟩

set_option maxHeartbeats 4000000 in
set_option maxRecDepth 100000 in
theorem fields_7_0 (e : Ent) (w : World) (hc : e.course.size ≤ 1000000) (hk : e.kind = 7) (h0 : betweenB e.fro 1 8 = false) :
    Calls Tryd.prog 54 #[e.val] w fun x w' => x = .returned (.int .i64 (ruleFrom (hasv e.kind) e 0)) ∧ RowKit.Below w.heap.size w w' := by
  have H : Hid (ruleFrom (hasv e.kind) e 0 = 3) := Lib.hid (by
    rw [hk, show hasv 7 = 16 from rfl]
    unfold ruleFrom
    simp only [show (bits .and .i64 16 1 != 0) = false from by decide, show (bits .and .i64 16 2 != 0) = false from by decide, show (bits .and .i64 16 4 != 0) = false from by decide, show (bits .and .i64 16 8 != 0) = false from by decide, show (bits .and .i64 16 16 != 0) = true from by decide, show (bits .and .i64 16 32 != 0) = false from by decide, show (bits .and .i64 16 64 != 0) = false from by decide, beyond_not, h0]
    simp)
  have HK := Lib.hid hk; clear hk
  go_enter Tryd.func54, Tryd.ntmps54
  go_upto_region 0 with fail
  go_upto_region 1 with fail
  have hx := EntBox.new w e
  have ck : (w.alloc (.cells e.cells 26)).cell? ⟨w.heap.size, 3, none⟩ = some (.int .i64 7) := by rw [hx.cell 3]; simp [Ent.cells, HK.out]
  have c0 : (w.alloc (.cells e.cells 26)).cell? ⟨w.heap.size, 0, none⟩ = some (.int .i64 e.id) := hx.cell 0
  have c1 : (w.alloc (.cells e.cells 26)).cell? ⟨w.heap.size, 1, none⟩ = some (.int .i64 e.school) := hx.cell 1
  have c6 : (w.alloc (.cells e.cells 26)).cell? ⟨w.heap.size, 6, none⟩ = some (.string e.course) := hx.cell 6
  have c7 : (w.alloc (.cells e.cells 26)).cell? ⟨w.heap.size, 7, none⟩ = some (.int .i64 e.credits) := hx.cell 7
  have c8 : (w.alloc (.cells e.cells 26)).cell? ⟨w.heap.size, 8, none⟩ = some (.int .i64 e.grade) := hx.cell 8
  have c9 : (w.alloc (.cells e.cells 26)).cell? ⟨w.heap.size, 9, none⟩ = some (.int .i64 e.ref) := hx.cell 9
  have c10 : (w.alloc (.cells e.cells 26)).cell? ⟨w.heap.size, 10, none⟩ = some (.int .i64 e.fro) := hx.cell 10
  have c11 : (w.alloc (.cells e.cells 26)).cell? ⟨w.heap.size, 11, none⟩ = some (.int .i64 e.programme) := hx.cell 11
  have c12 : (w.alloc (.cells e.cells 26)).cell? ⟨w.heap.size, 12, none⟩ = some (.int .i64 e.version) := hx.cell 12
  have hb := below_alloc1 w (.cells e.cells 26)
  unfold Ent.cells at ck c0 c1 c6 c7 c8 c9 c10 c11 c12 hb
  generalize w.alloc _ = W at ck c0 c1 c6 c7 c8 c9 c10 c11 c12 hb ⊢
  clear hx
  go_wp2_with (first | (go_at_call 83; refine (refCode_any e.course _ hc).mono ?_; rintro r w1 ⟨rfl, rfl⟩) | (go_at_call 52; refine (between_any _ _ _ _).mono ?_; rintro r w1 ⟨rfl, rfl⟩))
  go_ret
  exact ⟨ret_int H.out.symm, hb⟩

set_option maxHeartbeats 4000000 in
set_option maxRecDepth 100000 in
theorem fields_7_1 (e : Ent) (w : World) (hc : e.course.size ≤ 1000000) (hk : e.kind = 7) (h0 : betweenB e.fro 1 8 = true) (h1 : (e.fro == e.school) = true) :
    Calls Tryd.prog 54 #[e.val] w fun x w' => x = .returned (.int .i64 (ruleFrom (hasv e.kind) e 0)) ∧ RowKit.Below w.heap.size w w' := by
  have H : Hid (ruleFrom (hasv e.kind) e 0 = 3) := Lib.hid (by
    rw [hk, show hasv 7 = 16 from rfl]
    unfold ruleFrom
    simp only [show (bits .and .i64 16 1 != 0) = false from by decide, show (bits .and .i64 16 2 != 0) = false from by decide, show (bits .and .i64 16 4 != 0) = false from by decide, show (bits .and .i64 16 8 != 0) = false from by decide, show (bits .and .i64 16 16 != 0) = true from by decide, show (bits .and .i64 16 32 != 0) = false from by decide, show (bits .and .i64 16 64 != 0) = false from by decide, beyond_not, h0, h1]
    simp)
  have HK := Lib.hid hk; clear hk
  go_enter Tryd.func54, Tryd.ntmps54
  go_upto_region 0 with fail
  go_upto_region 1 with fail
  have hx := EntBox.new w e
  have ck : (w.alloc (.cells e.cells 26)).cell? ⟨w.heap.size, 3, none⟩ = some (.int .i64 7) := by rw [hx.cell 3]; simp [Ent.cells, HK.out]
  have c0 : (w.alloc (.cells e.cells 26)).cell? ⟨w.heap.size, 0, none⟩ = some (.int .i64 e.id) := hx.cell 0
  have c1 : (w.alloc (.cells e.cells 26)).cell? ⟨w.heap.size, 1, none⟩ = some (.int .i64 e.school) := hx.cell 1
  have c6 : (w.alloc (.cells e.cells 26)).cell? ⟨w.heap.size, 6, none⟩ = some (.string e.course) := hx.cell 6
  have c7 : (w.alloc (.cells e.cells 26)).cell? ⟨w.heap.size, 7, none⟩ = some (.int .i64 e.credits) := hx.cell 7
  have c8 : (w.alloc (.cells e.cells 26)).cell? ⟨w.heap.size, 8, none⟩ = some (.int .i64 e.grade) := hx.cell 8
  have c9 : (w.alloc (.cells e.cells 26)).cell? ⟨w.heap.size, 9, none⟩ = some (.int .i64 e.ref) := hx.cell 9
  have c10 : (w.alloc (.cells e.cells 26)).cell? ⟨w.heap.size, 10, none⟩ = some (.int .i64 e.fro) := hx.cell 10
  have c11 : (w.alloc (.cells e.cells 26)).cell? ⟨w.heap.size, 11, none⟩ = some (.int .i64 e.programme) := hx.cell 11
  have c12 : (w.alloc (.cells e.cells 26)).cell? ⟨w.heap.size, 12, none⟩ = some (.int .i64 e.version) := hx.cell 12
  have hb := below_alloc1 w (.cells e.cells 26)
  unfold Ent.cells at ck c0 c1 c6 c7 c8 c9 c10 c11 c12 hb
  generalize w.alloc _ = W at ck c0 c1 c6 c7 c8 c9 c10 c11 c12 hb ⊢
  clear hx
  go_wp2_with (first | (go_at_call 83; refine (refCode_any e.course _ hc).mono ?_; rintro r w1 ⟨rfl, rfl⟩) | (go_at_call 52; refine (between_any _ _ _ _).mono ?_; rintro r w1 ⟨rfl, rfl⟩))
  go_ret
  exact ⟨ret_int H.out.symm, hb⟩

set_option maxHeartbeats 4000000 in
set_option maxRecDepth 100000 in
theorem fields_7_2 (e : Ent) (w : World) (hc : e.course.size ≤ 1000000) (hk : e.kind = 7) (h0 : betweenB e.fro 1 8 = true) (h1 : (e.fro == e.school) = false) :
    Calls Tryd.prog 54 #[e.val] w fun x w' => x = .returned (.int .i64 (ruleFrom (hasv e.kind) e 0)) ∧ RowKit.Below w.heap.size w w' := by
  have H : Hid (ruleFrom (hasv e.kind) e 0 = 0) := Lib.hid (by
    rw [hk, show hasv 7 = 16 from rfl]
    unfold ruleFrom
    simp only [show (bits .and .i64 16 1 != 0) = false from by decide, show (bits .and .i64 16 2 != 0) = false from by decide, show (bits .and .i64 16 4 != 0) = false from by decide, show (bits .and .i64 16 8 != 0) = false from by decide, show (bits .and .i64 16 16 != 0) = true from by decide, show (bits .and .i64 16 32 != 0) = false from by decide, show (bits .and .i64 16 64 != 0) = false from by decide, beyond_not, h0, h1]
    simp)
  have HK := Lib.hid hk; clear hk
  go_enter Tryd.func54, Tryd.ntmps54
  go_upto_region 0 with fail
  go_upto_region 1 with fail
  have hx := EntBox.new w e
  have ck : (w.alloc (.cells e.cells 26)).cell? ⟨w.heap.size, 3, none⟩ = some (.int .i64 7) := by rw [hx.cell 3]; simp [Ent.cells, HK.out]
  have c0 : (w.alloc (.cells e.cells 26)).cell? ⟨w.heap.size, 0, none⟩ = some (.int .i64 e.id) := hx.cell 0
  have c1 : (w.alloc (.cells e.cells 26)).cell? ⟨w.heap.size, 1, none⟩ = some (.int .i64 e.school) := hx.cell 1
  have c6 : (w.alloc (.cells e.cells 26)).cell? ⟨w.heap.size, 6, none⟩ = some (.string e.course) := hx.cell 6
  have c7 : (w.alloc (.cells e.cells 26)).cell? ⟨w.heap.size, 7, none⟩ = some (.int .i64 e.credits) := hx.cell 7
  have c8 : (w.alloc (.cells e.cells 26)).cell? ⟨w.heap.size, 8, none⟩ = some (.int .i64 e.grade) := hx.cell 8
  have c9 : (w.alloc (.cells e.cells 26)).cell? ⟨w.heap.size, 9, none⟩ = some (.int .i64 e.ref) := hx.cell 9
  have c10 : (w.alloc (.cells e.cells 26)).cell? ⟨w.heap.size, 10, none⟩ = some (.int .i64 e.fro) := hx.cell 10
  have c11 : (w.alloc (.cells e.cells 26)).cell? ⟨w.heap.size, 11, none⟩ = some (.int .i64 e.programme) := hx.cell 11
  have c12 : (w.alloc (.cells e.cells 26)).cell? ⟨w.heap.size, 12, none⟩ = some (.int .i64 e.version) := hx.cell 12
  have hb := below_alloc1 w (.cells e.cells 26)
  unfold Ent.cells at ck c0 c1 c6 c7 c8 c9 c10 c11 c12 hb
  generalize w.alloc _ = W at ck c0 c1 c6 c7 c8 c9 c10 c11 c12 hb ⊢
  clear hx
  go_wp2_with (first | (go_at_call 83; refine (refCode_any e.course _ hc).mono ?_; rintro r w1 ⟨rfl, rfl⟩) | (go_at_call 52; refine (between_any _ _ _ _).mono ?_; rintro r w1 ⟨rfl, rfl⟩))
  go_ret
  exact ⟨ret_int H.out.symm, hb⟩

set_option maxHeartbeats 4000000 in
set_option maxRecDepth 100000 in
theorem fields_8_0 (e : Ent) (w : World) (hc : e.course.size ≤ 1000000) (hk : e.kind = 8) (h0 : decide (e.programme < 1) = true) :
    Calls Tryd.prog 54 #[e.val] w fun x w' => x = .returned (.int .i64 (ruleFrom (hasv e.kind) e 0)) ∧ RowKit.Below w.heap.size w w' := by
  have H : Hid (ruleFrom (hasv e.kind) e 0 = 3) := Lib.hid (by
    rw [hk, show hasv 8 = 32 from rfl]
    unfold ruleFrom
    simp only [show (bits .and .i64 32 1 != 0) = false from by decide, show (bits .and .i64 32 2 != 0) = false from by decide, show (bits .and .i64 32 4 != 0) = false from by decide, show (bits .and .i64 32 8 != 0) = false from by decide, show (bits .and .i64 32 16 != 0) = false from by decide, show (bits .and .i64 32 32 != 0) = true from by decide, show (bits .and .i64 32 64 != 0) = false from by decide, beyond_not, h0]
    simp)
  have HK := Lib.hid hk; clear hk
  go_enter Tryd.func54, Tryd.ntmps54
  go_upto_region 0 with fail
  go_upto_region 1 with fail
  have hx := EntBox.new w e
  have ck : (w.alloc (.cells e.cells 26)).cell? ⟨w.heap.size, 3, none⟩ = some (.int .i64 8) := by rw [hx.cell 3]; simp [Ent.cells, HK.out]
  have c0 : (w.alloc (.cells e.cells 26)).cell? ⟨w.heap.size, 0, none⟩ = some (.int .i64 e.id) := hx.cell 0
  have c1 : (w.alloc (.cells e.cells 26)).cell? ⟨w.heap.size, 1, none⟩ = some (.int .i64 e.school) := hx.cell 1
  have c6 : (w.alloc (.cells e.cells 26)).cell? ⟨w.heap.size, 6, none⟩ = some (.string e.course) := hx.cell 6
  have c7 : (w.alloc (.cells e.cells 26)).cell? ⟨w.heap.size, 7, none⟩ = some (.int .i64 e.credits) := hx.cell 7
  have c8 : (w.alloc (.cells e.cells 26)).cell? ⟨w.heap.size, 8, none⟩ = some (.int .i64 e.grade) := hx.cell 8
  have c9 : (w.alloc (.cells e.cells 26)).cell? ⟨w.heap.size, 9, none⟩ = some (.int .i64 e.ref) := hx.cell 9
  have c10 : (w.alloc (.cells e.cells 26)).cell? ⟨w.heap.size, 10, none⟩ = some (.int .i64 e.fro) := hx.cell 10
  have c11 : (w.alloc (.cells e.cells 26)).cell? ⟨w.heap.size, 11, none⟩ = some (.int .i64 e.programme) := hx.cell 11
  have c12 : (w.alloc (.cells e.cells 26)).cell? ⟨w.heap.size, 12, none⟩ = some (.int .i64 e.version) := hx.cell 12
  have hb := below_alloc1 w (.cells e.cells 26)
  unfold Ent.cells at ck c0 c1 c6 c7 c8 c9 c10 c11 c12 hb
  generalize w.alloc _ = W at ck c0 c1 c6 c7 c8 c9 c10 c11 c12 hb ⊢
  clear hx
  go_wp2_with (first | (go_at_call 83; refine (refCode_any e.course _ hc).mono ?_; rintro r w1 ⟨rfl, rfl⟩) | (go_at_call 52; refine (between_any _ _ _ _).mono ?_; rintro r w1 ⟨rfl, rfl⟩))
  go_ret
  exact ⟨ret_int H.out.symm, hb⟩

set_option maxHeartbeats 4000000 in
set_option maxRecDepth 100000 in
theorem fields_8_1 (e : Ent) (w : World) (hc : e.course.size ≤ 1000000) (hk : e.kind = 8) (h0 : decide (e.programme < 1) = false) :
    Calls Tryd.prog 54 #[e.val] w fun x w' => x = .returned (.int .i64 (ruleFrom (hasv e.kind) e 0)) ∧ RowKit.Below w.heap.size w w' := by
  have H : Hid (ruleFrom (hasv e.kind) e 0 = 0) := Lib.hid (by
    rw [hk, show hasv 8 = 32 from rfl]
    unfold ruleFrom
    simp only [show (bits .and .i64 32 1 != 0) = false from by decide, show (bits .and .i64 32 2 != 0) = false from by decide, show (bits .and .i64 32 4 != 0) = false from by decide, show (bits .and .i64 32 8 != 0) = false from by decide, show (bits .and .i64 32 16 != 0) = false from by decide, show (bits .and .i64 32 32 != 0) = true from by decide, show (bits .and .i64 32 64 != 0) = false from by decide, beyond_not, h0]
    simp)
  have HK := Lib.hid hk; clear hk
  go_enter Tryd.func54, Tryd.ntmps54
  go_upto_region 0 with fail
  go_upto_region 1 with fail
  have hx := EntBox.new w e
  have ck : (w.alloc (.cells e.cells 26)).cell? ⟨w.heap.size, 3, none⟩ = some (.int .i64 8) := by rw [hx.cell 3]; simp [Ent.cells, HK.out]
  have c0 : (w.alloc (.cells e.cells 26)).cell? ⟨w.heap.size, 0, none⟩ = some (.int .i64 e.id) := hx.cell 0
  have c1 : (w.alloc (.cells e.cells 26)).cell? ⟨w.heap.size, 1, none⟩ = some (.int .i64 e.school) := hx.cell 1
  have c6 : (w.alloc (.cells e.cells 26)).cell? ⟨w.heap.size, 6, none⟩ = some (.string e.course) := hx.cell 6
  have c7 : (w.alloc (.cells e.cells 26)).cell? ⟨w.heap.size, 7, none⟩ = some (.int .i64 e.credits) := hx.cell 7
  have c8 : (w.alloc (.cells e.cells 26)).cell? ⟨w.heap.size, 8, none⟩ = some (.int .i64 e.grade) := hx.cell 8
  have c9 : (w.alloc (.cells e.cells 26)).cell? ⟨w.heap.size, 9, none⟩ = some (.int .i64 e.ref) := hx.cell 9
  have c10 : (w.alloc (.cells e.cells 26)).cell? ⟨w.heap.size, 10, none⟩ = some (.int .i64 e.fro) := hx.cell 10
  have c11 : (w.alloc (.cells e.cells 26)).cell? ⟨w.heap.size, 11, none⟩ = some (.int .i64 e.programme) := hx.cell 11
  have c12 : (w.alloc (.cells e.cells 26)).cell? ⟨w.heap.size, 12, none⟩ = some (.int .i64 e.version) := hx.cell 12
  have hb := below_alloc1 w (.cells e.cells 26)
  unfold Ent.cells at ck c0 c1 c6 c7 c8 c9 c10 c11 c12 hb
  generalize w.alloc _ = W at ck c0 c1 c6 c7 c8 c9 c10 c11 c12 hb ⊢
  clear hx
  go_wp2_with (first | (go_at_call 83; refine (refCode_any e.course _ hc).mono ?_; rintro r w1 ⟨rfl, rfl⟩) | (go_at_call 52; refine (between_any _ _ _ _).mono ?_; rintro r w1 ⟨rfl, rfl⟩))
  go_ret
  exact ⟨ret_int H.out.symm, hb⟩

set_option maxHeartbeats 4000000 in
set_option maxRecDepth 100000 in
theorem fields_9_0 (e : Ent) (w : World) (hc : e.course.size ≤ 1000000) (hk : e.kind = 9) (h0 : betweenB e.ref 1 899999 = false) :
    Calls Tryd.prog 54 #[e.val] w fun x w' => x = .returned (.int .i64 (ruleFrom (hasv e.kind) e 0)) ∧ RowKit.Below w.heap.size w w' := by
  have H : Hid (ruleFrom (hasv e.kind) e 0 = 21) := Lib.hid (by
    rw [hk, show hasv 9 = 8 from rfl]
    unfold ruleFrom
    simp only [show (bits .and .i64 8 1 != 0) = false from by decide, show (bits .and .i64 8 2 != 0) = false from by decide, show (bits .and .i64 8 4 != 0) = false from by decide, show (bits .and .i64 8 8 != 0) = true from by decide, show (bits .and .i64 8 16 != 0) = false from by decide, show (bits .and .i64 8 32 != 0) = false from by decide, show (bits .and .i64 8 64 != 0) = false from by decide, beyond_not, h0]
    simp)
  have HK := Lib.hid hk; clear hk
  go_enter Tryd.func54, Tryd.ntmps54
  go_upto_region 0 with fail
  go_upto_region 1 with fail
  have hx := EntBox.new w e
  have ck : (w.alloc (.cells e.cells 26)).cell? ⟨w.heap.size, 3, none⟩ = some (.int .i64 9) := by rw [hx.cell 3]; simp [Ent.cells, HK.out]
  have c0 : (w.alloc (.cells e.cells 26)).cell? ⟨w.heap.size, 0, none⟩ = some (.int .i64 e.id) := hx.cell 0
  have c1 : (w.alloc (.cells e.cells 26)).cell? ⟨w.heap.size, 1, none⟩ = some (.int .i64 e.school) := hx.cell 1
  have c6 : (w.alloc (.cells e.cells 26)).cell? ⟨w.heap.size, 6, none⟩ = some (.string e.course) := hx.cell 6
  have c7 : (w.alloc (.cells e.cells 26)).cell? ⟨w.heap.size, 7, none⟩ = some (.int .i64 e.credits) := hx.cell 7
  have c8 : (w.alloc (.cells e.cells 26)).cell? ⟨w.heap.size, 8, none⟩ = some (.int .i64 e.grade) := hx.cell 8
  have c9 : (w.alloc (.cells e.cells 26)).cell? ⟨w.heap.size, 9, none⟩ = some (.int .i64 e.ref) := hx.cell 9
  have c10 : (w.alloc (.cells e.cells 26)).cell? ⟨w.heap.size, 10, none⟩ = some (.int .i64 e.fro) := hx.cell 10
  have c11 : (w.alloc (.cells e.cells 26)).cell? ⟨w.heap.size, 11, none⟩ = some (.int .i64 e.programme) := hx.cell 11
  have c12 : (w.alloc (.cells e.cells 26)).cell? ⟨w.heap.size, 12, none⟩ = some (.int .i64 e.version) := hx.cell 12
  have hb := below_alloc1 w (.cells e.cells 26)
  unfold Ent.cells at ck c0 c1 c6 c7 c8 c9 c10 c11 c12 hb
  generalize w.alloc _ = W at ck c0 c1 c6 c7 c8 c9 c10 c11 c12 hb ⊢
  clear hx
  go_wp2_with (first | (go_at_call 83; refine (refCode_any e.course _ hc).mono ?_; rintro r w1 ⟨rfl, rfl⟩) | (go_at_call 52; refine (between_any _ _ _ _).mono ?_; rintro r w1 ⟨rfl, rfl⟩))
  go_ret
  exact ⟨ret_int H.out.symm, hb⟩

set_option maxHeartbeats 4000000 in
set_option maxRecDepth 100000 in
theorem fields_9_1 (e : Ent) (w : World) (hc : e.course.size ≤ 1000000) (hk : e.kind = 9) (h0 : betweenB e.ref 1 899999 = true) (h1 : (e.ref == e.id) = true) :
    Calls Tryd.prog 54 #[e.val] w fun x w' => x = .returned (.int .i64 (ruleFrom (hasv e.kind) e 0)) ∧ RowKit.Below w.heap.size w w' := by
  have H : Hid (ruleFrom (hasv e.kind) e 0 = 21) := Lib.hid (by
    rw [hk, show hasv 9 = 8 from rfl]
    unfold ruleFrom
    simp only [show (bits .and .i64 8 1 != 0) = false from by decide, show (bits .and .i64 8 2 != 0) = false from by decide, show (bits .and .i64 8 4 != 0) = false from by decide, show (bits .and .i64 8 8 != 0) = true from by decide, show (bits .and .i64 8 16 != 0) = false from by decide, show (bits .and .i64 8 32 != 0) = false from by decide, show (bits .and .i64 8 64 != 0) = false from by decide, beyond_not, h0, h1]
    simp)
  have HK := Lib.hid hk; clear hk
  go_enter Tryd.func54, Tryd.ntmps54
  go_upto_region 0 with fail
  go_upto_region 1 with fail
  have hx := EntBox.new w e
  have ck : (w.alloc (.cells e.cells 26)).cell? ⟨w.heap.size, 3, none⟩ = some (.int .i64 9) := by rw [hx.cell 3]; simp [Ent.cells, HK.out]
  have c0 : (w.alloc (.cells e.cells 26)).cell? ⟨w.heap.size, 0, none⟩ = some (.int .i64 e.id) := hx.cell 0
  have c1 : (w.alloc (.cells e.cells 26)).cell? ⟨w.heap.size, 1, none⟩ = some (.int .i64 e.school) := hx.cell 1
  have c6 : (w.alloc (.cells e.cells 26)).cell? ⟨w.heap.size, 6, none⟩ = some (.string e.course) := hx.cell 6
  have c7 : (w.alloc (.cells e.cells 26)).cell? ⟨w.heap.size, 7, none⟩ = some (.int .i64 e.credits) := hx.cell 7
  have c8 : (w.alloc (.cells e.cells 26)).cell? ⟨w.heap.size, 8, none⟩ = some (.int .i64 e.grade) := hx.cell 8
  have c9 : (w.alloc (.cells e.cells 26)).cell? ⟨w.heap.size, 9, none⟩ = some (.int .i64 e.ref) := hx.cell 9
  have c10 : (w.alloc (.cells e.cells 26)).cell? ⟨w.heap.size, 10, none⟩ = some (.int .i64 e.fro) := hx.cell 10
  have c11 : (w.alloc (.cells e.cells 26)).cell? ⟨w.heap.size, 11, none⟩ = some (.int .i64 e.programme) := hx.cell 11
  have c12 : (w.alloc (.cells e.cells 26)).cell? ⟨w.heap.size, 12, none⟩ = some (.int .i64 e.version) := hx.cell 12
  have hb := below_alloc1 w (.cells e.cells 26)
  unfold Ent.cells at ck c0 c1 c6 c7 c8 c9 c10 c11 c12 hb
  generalize w.alloc _ = W at ck c0 c1 c6 c7 c8 c9 c10 c11 c12 hb ⊢
  clear hx
  go_wp2_with (first | (go_at_call 83; refine (refCode_any e.course _ hc).mono ?_; rintro r w1 ⟨rfl, rfl⟩) | (go_at_call 52; refine (between_any _ _ _ _).mono ?_; rintro r w1 ⟨rfl, rfl⟩))
  go_ret
  exact ⟨ret_int H.out.symm, hb⟩

set_option maxHeartbeats 4000000 in
set_option maxRecDepth 100000 in
theorem fields_9_2 (e : Ent) (w : World) (hc : e.course.size ≤ 1000000) (hk : e.kind = 9) (h0 : betweenB e.ref 1 899999 = true) (h1 : (e.ref == e.id) = false) :
    Calls Tryd.prog 54 #[e.val] w fun x w' => x = .returned (.int .i64 (ruleFrom (hasv e.kind) e 0)) ∧ RowKit.Below w.heap.size w w' := by
  have H : Hid (ruleFrom (hasv e.kind) e 0 = 0) := Lib.hid (by
    rw [hk, show hasv 9 = 8 from rfl]
    unfold ruleFrom
    simp only [show (bits .and .i64 8 1 != 0) = false from by decide, show (bits .and .i64 8 2 != 0) = false from by decide, show (bits .and .i64 8 4 != 0) = false from by decide, show (bits .and .i64 8 8 != 0) = true from by decide, show (bits .and .i64 8 16 != 0) = false from by decide, show (bits .and .i64 8 32 != 0) = false from by decide, show (bits .and .i64 8 64 != 0) = false from by decide, beyond_not, h0, h1]
    simp)
  have HK := Lib.hid hk; clear hk
  go_enter Tryd.func54, Tryd.ntmps54
  go_upto_region 0 with fail
  go_upto_region 1 with fail
  have hx := EntBox.new w e
  have ck : (w.alloc (.cells e.cells 26)).cell? ⟨w.heap.size, 3, none⟩ = some (.int .i64 9) := by rw [hx.cell 3]; simp [Ent.cells, HK.out]
  have c0 : (w.alloc (.cells e.cells 26)).cell? ⟨w.heap.size, 0, none⟩ = some (.int .i64 e.id) := hx.cell 0
  have c1 : (w.alloc (.cells e.cells 26)).cell? ⟨w.heap.size, 1, none⟩ = some (.int .i64 e.school) := hx.cell 1
  have c6 : (w.alloc (.cells e.cells 26)).cell? ⟨w.heap.size, 6, none⟩ = some (.string e.course) := hx.cell 6
  have c7 : (w.alloc (.cells e.cells 26)).cell? ⟨w.heap.size, 7, none⟩ = some (.int .i64 e.credits) := hx.cell 7
  have c8 : (w.alloc (.cells e.cells 26)).cell? ⟨w.heap.size, 8, none⟩ = some (.int .i64 e.grade) := hx.cell 8
  have c9 : (w.alloc (.cells e.cells 26)).cell? ⟨w.heap.size, 9, none⟩ = some (.int .i64 e.ref) := hx.cell 9
  have c10 : (w.alloc (.cells e.cells 26)).cell? ⟨w.heap.size, 10, none⟩ = some (.int .i64 e.fro) := hx.cell 10
  have c11 : (w.alloc (.cells e.cells 26)).cell? ⟨w.heap.size, 11, none⟩ = some (.int .i64 e.programme) := hx.cell 11
  have c12 : (w.alloc (.cells e.cells 26)).cell? ⟨w.heap.size, 12, none⟩ = some (.int .i64 e.version) := hx.cell 12
  have hb := below_alloc1 w (.cells e.cells 26)
  unfold Ent.cells at ck c0 c1 c6 c7 c8 c9 c10 c11 c12 hb
  generalize w.alloc _ = W at ck c0 c1 c6 c7 c8 c9 c10 c11 c12 hb ⊢
  clear hx
  go_wp2_with (first | (go_at_call 83; refine (refCode_any e.course _ hc).mono ?_; rintro r w1 ⟨rfl, rfl⟩) | (go_at_call 52; refine (between_any _ _ _ _).mono ?_; rintro r w1 ⟨rfl, rfl⟩))
  go_ret
  exact ⟨ret_int H.out.symm, hb⟩
theorem fields_any (e : Ent) (w : World) (hc : e.course.size ≤ 1000000) (hk : 1 ≤ e.kind ∧ e.kind ≤ 9) :
    Calls Tryd.prog 54 #[e.val] w fun x w' => x = .returned (.int .i64 (ruleFrom (hasv e.kind) e 0)) ∧ RowKit.Below w.heap.size w w' := by
  have h : e.kind = 1 ∨ e.kind = 2 ∨ e.kind = 3 ∨ e.kind = 4 ∨ e.kind = 5 ∨ e.kind = 6 ∨ e.kind = 7 ∨ e.kind = 8 ∨ e.kind = 9 := by omega
  rcases h with h | h | h | h | h | h | h | h | h
  · skip
    cases g0 : decide (e.programme < 1)
    · skip
      exact fields_1_1 e w hc h g0
    · skip
      exact fields_1_0 e w hc h g0
  · skip
    cases g0 : decide (e.programme < 1)
    · skip
      cases g1 : decide (e.version < 1)
      · skip
        exact fields_2_2 e w hc h g0 g1
      · skip
        exact fields_2_1 e w hc h g0 g1
    · skip
      exact fields_2_0 e w hc h g0
  · skip
    cases g0 : codeL e.course.data.toList
    · skip
      exact fields_3_0 e w hc h g0
    · skip
      cases g1 : betweenB e.credits 1 60
      · skip
        exact fields_3_1 e w hc h g0 g1
      · skip
        cases g2 : betweenB e.grade (-1000) 1000
        · skip
          exact fields_3_2 e w hc h g0 g1 g2
        · skip
          exact fields_3_3 e w hc h g0 g1 g2
  · skip
    cases g0 : betweenB e.grade (-1000) 1000
    · skip
      exact fields_4_0 e w hc h g0
    · skip
      cases g1 : betweenB e.ref 1 899999
      · skip
        exact fields_4_1 e w hc h g0 g1
      · skip
        cases g2 : (e.ref == e.id)
        · skip
          exact fields_4_3 e w hc h g0 g1 g2
        · skip
          exact fields_4_2 e w hc h g0 g1 g2
  · skip
    cases g0 : betweenB e.ref 1 899999
    · skip
      exact fields_5_0 e w hc h g0
    · skip
      cases g1 : (e.ref == e.id)
      · skip
        exact fields_5_2 e w hc h g0 g1
      · skip
        exact fields_5_1 e w hc h g0 g1
  · skip
    cases g0 : betweenB e.ref 1 899999
    · skip
      exact fields_6_0 e w hc h g0
    · skip
      cases g1 : (e.ref == e.id)
      · skip
        exact fields_6_2 e w hc h g0 g1
      · skip
        exact fields_6_1 e w hc h g0 g1
  · skip
    cases g0 : betweenB e.fro 1 8
    · skip
      exact fields_7_0 e w hc h g0
    · skip
      cases g1 : (e.fro == e.school)
      · skip
        exact fields_7_2 e w hc h g0 g1
      · skip
        exact fields_7_1 e w hc h g0 g1
  · skip
    cases g0 : decide (e.programme < 1)
    · skip
      exact fields_8_1 e w hc h g0
    · skip
      exact fields_8_0 e w hc h g0
  · skip
    cases g0 : betweenB e.ref 1 899999
    · skip
      exact fields_9_0 e w hc h g0
    · skip
      cases g1 : (e.ref == e.id)
      · skip
        exact fields_9_2 e w hc h g0 g1
      · skip
        exact fields_9_1 e w hc h g0 g1
end Go.Proofs.YtnkbelbalaeieaaDoor
