/- The reference's Check of a request, walked once. -/
import Derived.Test.YtanmmooflhomoaaDoorRqChk
namespace Go.Proofs.YtanmmooflhomoaaDoor
open Go Go.RowKit Go.Sort Go.Lib
attribute [local go_sem] Req.cells
attribute [local go_sem ↓] req_eql_cells req_neq_cells
set_option maxHeartbeats 4000000 in
set_option maxRecDepth 100000 in
theorem rfCheck_any (r : Req) (hgs : r.code.size ≤ 1000000) (hks : r.give.size ≤ 1000000) (w : World) :
    Calls Tryd.prog 15 #[r.val] w fun x w' => x = .returned (.int .i64 (chkR r)) ∧ RowKit.Below w.heap.size w w' := by
  obtain ⟨a, b, cc, d, f, g, k, p, q⟩ := r
  have HC := Lib.hid (chkR_eq a b cc d f g k p q)
  generalize chkR ⟨a, b, cc, d, f, g, k, p, q⟩ = R at HC ⊢
  simp only at hgs hks
  have hb0 := below_new w (.cells #[.int .i64 a, .int .i64 b, .bool cc, .int .i64 d, .int .i64 f, .string g, .string k, .int .i64 p, .int .i64 q] 34)
  have hb1 := hb0
  by_cases h0 : a < 1
  · replace HC := Lib.hid (HC.out.trans (if_pos h0))
    go_enter Tryd.func15, Tryd.ntmps15
    go_wp2_with fail
    go_ret
    exact ⟨ret_int HC.out.symm, hb1⟩
  replace HC := Lib.hid (HC.out.trans (if_neg h0))
  by_cases h1 : 8 < a
  · replace HC := Lib.hid (HC.out.trans (if_pos h1))
    go_enter Tryd.func15, Tryd.ntmps15
    go_wp2_with fail
    go_ret
    exact ⟨ret_int HC.out.symm, hb1⟩
  replace HC := Lib.hid (HC.out.trans (if_neg h1))
  by_cases h2 : b < 1
  · replace HC := Lib.hid (HC.out.trans (if_pos h2))
    go_enter Tryd.func15, Tryd.ntmps15
    go_wp2_with fail
    go_ret
    exact ⟨ret_int HC.out.symm, hb1⟩
  replace HC := Lib.hid (HC.out.trans (if_neg h2))
  by_cases h3 : eqReq ⟨a, b, cc, d, f, g, k, p, q⟩ ⟨a, b, true, 0, 0, ⟨#[]⟩, ⟨#[]⟩, 0, 0⟩ = true
  · replace HC := Lib.hid (HC.out.trans (if_pos h3))
    obtain rfl : cc = true := by have := (eqReq_iff _ _).1 h3; simpa using (congrArg Req.cancel this)
    go_enter Tryd.func15, Tryd.ntmps15
    go_wp2_with fail
    go_ret
    exact ⟨ret_int HC.out.symm, hb1⟩
  replace HC := Lib.hid (HC.out.trans (if_neg h3))
  simp only [Bool.not_eq_true] at h3
  by_cases h4 : cc = true
  · replace HC := Lib.hid (HC.out.trans (if_pos h4))
    subst h4
    go_enter Tryd.func15, Tryd.ntmps15
    go_wp2_with fail
    go_ret
    exact ⟨ret_int HC.out.symm, hb1⟩
  replace HC := Lib.hid (HC.out.trans (if_neg h4))
  simp only [Bool.not_eq_true] at h4
  subst h4
  by_cases h5 : d < 1
  · replace HC := Lib.hid (HC.out.trans (if_pos h5))
    go_enter Tryd.func15, Tryd.ntmps15
    go_wp2_with fail
    go_ret
    exact ⟨ret_int HC.out.symm, hb1⟩
  replace HC := Lib.hid (HC.out.trans (if_neg h5))
  by_cases h6 : 999999 < d
  · replace HC := Lib.hid (HC.out.trans (if_pos h6))
    go_enter Tryd.func15, Tryd.ntmps15
    go_wp2_with fail
    go_ret
    exact ⟨ret_int HC.out.symm, hb1⟩
  replace HC := Lib.hid (HC.out.trans (if_neg h6))
  by_cases h7 : f < 0
  · replace HC := Lib.hid (HC.out.trans (if_pos h7))
    go_enter Tryd.func15, Tryd.ntmps15
    go_wp2_with fail
    go_ret
    exact ⟨ret_int HC.out.symm, hb1⟩
  replace HC := Lib.hid (HC.out.trans (if_neg h7))
  by_cases h8 : 1000 < f
  · replace HC := Lib.hid (HC.out.trans (if_pos h8))
    go_enter Tryd.func15, Tryd.ntmps15
    go_wp2_with fail
    go_ret
    exact ⟨ret_int HC.out.symm, hb1⟩
  replace HC := Lib.hid (HC.out.trans (if_neg h8))
  by_cases h9 : p < 0
  · replace HC := Lib.hid (HC.out.trans (if_pos h9))
    go_enter Tryd.func15, Tryd.ntmps15
    go_wp2_with fail
    go_ret
    exact ⟨ret_int HC.out.symm, hb1⟩
  replace HC := Lib.hid (HC.out.trans (if_neg h9))
  by_cases h10 : 100 < p
  · replace HC := Lib.hid (HC.out.trans (if_pos h10))
    go_enter Tryd.func15, Tryd.ntmps15
    go_wp2_with fail
    go_ret
    exact ⟨ret_int HC.out.symm, hb1⟩
  replace HC := Lib.hid (HC.out.trans (if_neg h10))
  have c1 := fun w => refCode_any g w hgs
  have c2 := fun w => refCode_any k w hks
  have c3 := fun w => refRight_any q w
  have hbx : ReqBox (w.alloc (.cells #[.int .i64 a, .int .i64 b, .bool false, .int .i64 d, .int .i64 f, .string g, .string k, .int .i64 p, .int .i64 q] 34)) w.heap.size ⟨a, b, false, d, f, g, k, p, q⟩ := ReqBox.new w ⟨a, b, false, d, f, g, k, p, q⟩
  by_cases h11 : codeL g.data.toList = false
  · replace HC := Lib.hid (HC.out.trans (if_pos h11))
    simp only [h11] at c1
    have hkk : ∀ z : Bool, True := fun _ => trivial
    generalize hz : codeL k.data.toList = z at c2
    go_enter Tryd.func15, Tryd.ntmps15
    go_wp2_with fail
    refine (c1 _).mono ?_
    rintro x w11 ⟨rfl, rfl⟩
    go_wp2_with fail
    refine (c2 _).mono ?_
    rintro x w12 ⟨rfl, rfl⟩
    go_wp2_with fail
    go_ret
    exact ⟨ret_int HC.out.symm, hb1⟩
  replace HC := Lib.hid (HC.out.trans (if_neg h11))
  simp only [Bool.not_eq_false] at h11
  simp only [h11] at c1
  by_cases h12 : k.toList ≠ [] ∧ codeL k.data.toList = false
  · replace HC := Lib.hid (HC.out.trans (if_pos h12))
    obtain ⟨hk1, hk2⟩ := h12
    simp only [hk2] at c2
    have hk3 : (!k.toList.isEmpty) = true := by simpa using hk1
    go_enter Tryd.func15, Tryd.ntmps15
    go_wp2_with fail
    refine (c1 _).mono ?_
    rintro x w11 ⟨rfl, rfl⟩
    go_wp2_with fail
    refine (c2 _).mono ?_
    rintro x w12 ⟨rfl, rfl⟩
    go_wp2_with fail
    go_ret
    exact ⟨ret_int HC.out.symm, hb1⟩
  replace HC := Lib.hid (HC.out.trans (if_neg h12))
  by_cases hk1 : k.toList = []
  · have hk3 : (!k.toList.isEmpty) = false := by simp [hk1]
    generalize hz : codeL k.data.toList = z at c2
    clear h12
    have hge : g.toList.isEmpty = false := code_full h11
    have h13 : ¬ (k.toList == g.toList) = true := by rw [hk1]; intro h; rw [← beq_iff_eq.1 h] at hge; simp at hge
    replace HC := Lib.hid (HC.out.trans (if_neg h13))
    simp only [Bool.not_eq_true] at h13
    by_cases h14 : rightB q = false
    · replace HC := Lib.hid (HC.out.trans (if_pos h14))
      simp only [h14] at c3
      go_enter Tryd.func15, Tryd.ntmps15
      go_wp2_with fail
      refine (c1 _).mono ?_
      rintro x w11 ⟨rfl, rfl⟩
      go_wp2_with fail
      refine (c2 _).mono ?_
      rintro x w12 ⟨rfl, rfl⟩
      go_wp2_with fail
      refine (c3 _).mono ?_
      rintro x w13 ⟨rfl, rfl⟩
      go_wp2_with fail
      go_ret
      exact ⟨ret_int HC.out.symm, hb1⟩
    replace HC := Lib.hid (HC.out.trans (if_neg h14))
    simp only [Bool.not_eq_false] at h14
    simp only [h14] at c3
    go_enter Tryd.func15, Tryd.ntmps15
    go_wp2_with fail
    refine (c1 _).mono ?_
    rintro x w11 ⟨rfl, rfl⟩
    go_wp2_with fail
    refine (c2 _).mono ?_
    rintro x w12 ⟨rfl, rfl⟩
    go_wp2_with fail
    refine (c3 _).mono ?_
    rintro x w13 ⟨rfl, rfl⟩
    go_wp2_with fail
    go_ret
    exact ⟨ret_int HC.out.symm, hb1⟩
  · have hk2 : codeL k.data.toList = true := by simpa [hk1] using h12
    simp only [hk2] at c2
    have hk3 : (!k.toList.isEmpty) = true := by simpa using hk1
    clear h12
    by_cases h13 : (k.toList == g.toList) = true
    · replace HC := Lib.hid (HC.out.trans (if_pos h13))
      go_enter Tryd.func15, Tryd.ntmps15
      go_wp2_with fail
      refine (c1 _).mono ?_
      rintro x w11 ⟨rfl, rfl⟩
      go_wp2_with fail
      refine (c2 _).mono ?_
      rintro x w12 ⟨rfl, rfl⟩
      go_wp2_with fail
      go_ret
      exact ⟨ret_int HC.out.symm, hb1⟩
    replace HC := Lib.hid (HC.out.trans (if_neg h13))
    simp only [Bool.not_eq_true] at h13
    by_cases h14 : rightB q = false
    · replace HC := Lib.hid (HC.out.trans (if_pos h14))
      simp only [h14] at c3
      go_enter Tryd.func15, Tryd.ntmps15
      go_wp2_with fail
      refine (c1 _).mono ?_
      rintro x w11 ⟨rfl, rfl⟩
      go_wp2_with fail
      refine (c2 _).mono ?_
      rintro x w12 ⟨rfl, rfl⟩
      go_wp2_with fail
      refine (c3 _).mono ?_
      rintro x w13 ⟨rfl, rfl⟩
      go_wp2_with fail
      go_ret
      exact ⟨ret_int HC.out.symm, hb1⟩
    replace HC := Lib.hid (HC.out.trans (if_neg h14))
    simp only [Bool.not_eq_false] at h14
    simp only [h14] at c3
    go_enter Tryd.func15, Tryd.ntmps15
    go_wp2_with fail
    refine (c1 _).mono ?_
    rintro x w11 ⟨rfl, rfl⟩
    go_wp2_with fail
    refine (c2 _).mono ?_
    rintro x w12 ⟨rfl, rfl⟩
    go_wp2_with fail
    refine (c3 _).mono ?_
    rintro x w13 ⟨rfl, rfl⟩
    go_wp2_with fail
    go_ret
    exact ⟨ret_int HC.out.symm, hb1⟩
end Go.Proofs.YtanmmooflhomoaaDoor
