/- The reference's order of requests: the same; walked once. -/
import Derived.Test.YtbihaoadgcckhaaGreatRqCmp
namespace Go.Proofs.YtbihaoadgcckhaaGreat
open Go Go.RowKit Go.Sort Go.Lib
attribute [local go_sem] Req.cells

theorem ci_zero (x y : Int) : Lib.compareInt x y = 0 ↔ x = y := by unfold Lib.compareInt; split <;> (try split) <;> omega
theorem ci_lt (x y : Int) : decide (Lib.compareInt x y < 0) = decide (x < y) := by unfold Lib.compareInt; split <;> (try split) <;> simp <;> omega
theorem cb_zero : ∀ (x y : List UInt8), Lib.compareBytes x y = 0 ↔ x = y
  | [], [] => by simp [Lib.compareBytes]
  | [], _ :: _ => by simp [Lib.compareBytes]
  | _ :: _, [] => by simp [Lib.compareBytes]
  | a :: x, b :: y => by
    unfold Lib.compareBytes
    by_cases h : a < b
    · rw [if_pos h]; simp; intro e; subst e; exact absurd h (by simp)
    · rw [if_neg h]
      by_cases h2 : b < a
      · rw [if_pos h2]; simp; intro e; subst e; exact absurd h2 (by simp)
      · rw [if_neg h2, cb_zero x y]
        have : a = b := by
          have h3 : ¬ a.toNat < b.toNat := h
          have h4 : ¬ b.toNat < a.toNat := h2
          exact UInt8.toNat_inj.1 (by omega)
        simp [this]
theorem cb_lt : ∀ (x y : List UInt8), decide (Lib.compareBytes x y < 0) = Op.bytesLess x y
  | [], [] => by simp [Lib.compareBytes, Op.bytesLess]
  | [], _ :: _ => by simp [Lib.compareBytes, Op.bytesLess]
  | _ :: _, [] => by simp [Lib.compareBytes, Op.bytesLess]
  | a :: x, b :: y => by
    have ih := cb_lt x y
    unfold Lib.compareBytes Op.bytesLess
    by_cases h : a < b
    · rw [if_pos h]; simp [h]
    · rw [if_neg h]
      by_cases h2 : b < a
      · have h3 : a ≠ b := by intro e; subst e; exact absurd h2 (by simp)
        rw [if_pos h2]; simp [h, h3]
      · have h3 : a = b := by
          have h3 : ¬ a.toNat < b.toNat := h
          have h4 : ¬ b.toNat < a.toNat := h2
          exact UInt8.toNat_inj.1 (by omega)
        rw [if_neg h2, ih]; simp [h3]
theorem or_neg (x : Int) (l : List Int) : decide (orL (x :: l) < 0) = if x = 0 then decide (orL l < 0) else decide (x < 0) := by
  conv => lhs; unfold orL
  split <;> rfl
theorem tr_eq (a b : Bool) : truthN a = truthN b ↔ a = b := by cases a <;> cases b <;> simp [truthN]
theorem tr_lt (a b : Bool) (h : a ≠ b) : decide (truthN a < truthN b) = b := by cases a <;> cases b <;> simp [truthN] at h ⊢
theorem list_ba {a b : ByteArray} : a.data.toList = b.data.toList ↔ a.toList = b.toList := by rw [ByteArray.toList_eq, ByteArray.toList_eq]
theorem lessR_chain (a b : Req) : lessR a b = (if a.server = b.server then (if a.seq = b.seq then (if a.cancel = b.cancel then (if a.student = b.student then (if a.term = b.term then (if a.code.toList = b.code.toList then (if a.give.toList = b.give.toList then (if a.priority = b.priority then (decide (a.day < b.day)) else decide (a.priority < b.priority)) else Op.bytesLess a.give.toList b.give.toList) else Op.bytesLess a.code.toList b.code.toList) else decide (a.term < b.term)) else decide (a.student < b.student)) else b.cancel) else decide (a.seq < b.seq)) else decide (a.server < b.server)) := by
  unfold lessR cmpR keysR tailR
  simp only [List.cons_append, List.nil_append, or_neg, ci_zero, ci_lt, cb_zero, cb_lt, tr_eq, ← ByteArray.toList_eq]
  have h0 : decide (orL [] < 0) = false := rfl
  by_cases hc : a.cancel = b.cancel
  · simp only [hc, if_true, h0]
    repeat' split
    all_goals first | rfl | (simp_all)
  · simp only [hc, if_false, tr_lt _ _ hc]
theorem lessR_lit (a0 a1 : Int) (a2 : Bool) (a3 a4 : Int) (a5 a6 : ByteArray) (a7 a8 : Int) (b0 b1 : Int) (b2 : Bool) (b3 b4 : Int) (b5 b6 : ByteArray) (b7 b8 : Int) : lessR ⟨a0, a1, a2, a3, a4, a5, a6, a7, a8⟩ ⟨b0, b1, b2, b3, b4, b5, b6, b7, b8⟩ = (if a0 = b0 then (if a1 = b1 then (if a2 = b2 then (if a3 = b3 then (if a4 = b4 then (if a5.toList = b5.toList then (if a6.toList = b6.toList then (if a7 = b7 then (decide (a8 < b8)) else decide (a7 < b7)) else Op.bytesLess a6.toList b6.toList) else Op.bytesLess a5.toList b5.toList) else decide (a4 < b4)) else decide (a3 < b3)) else b2) else decide (a1 < b1)) else decide (a0 < b0)) := lessR_chain _ _
set_option maxHeartbeats 4000000 in
set_option maxRecDepth 100000 in
theorem rfLess_any (a b : Req) (w : World) : Calls Tryz.prog 99 #[a.val, b.val] w fun x w' => x = .returned (.bool (lessR a b)) ∧ RowKit.Below w.heap.size w w' := by
  obtain ⟨a0, a1, a2, a3, a4, a5, a6, a7, a8⟩ := a
  obtain ⟨b0, b1, b2, b3, b4, b5, b6, b7, b8⟩ := b
  have HC := Lib.hid (lessR_lit a0 a1 a2 a3 a4 a5 a6 a7 a8 b0 b1 b2 b3 b4 b5 b6 b7 b8)
  generalize lessR ⟨a0, a1, a2, a3, a4, a5, a6, a7, a8⟩ ⟨b0, b1, b2, b3, b4, b5, b6, b7, b8⟩ = R at HC ⊢
  have hb2 : RowKit.Below w.heap.size w ((w.alloc (.cells #[.int .i64 a0, .int .i64 a1, .bool a2, .int .i64 a3, .int .i64 a4, .string a5, .string a6, .int .i64 a7, .int .i64 a8] 39)).alloc (.cells #[.int .i64 b0, .int .i64 b1, .bool b2, .int .i64 b3, .int .i64 b4, .string b5, .string b6, .int .i64 b7, .int .i64 b8] 39)) := ((Below.refl _ _).alloc (Nat.le_refl _) _).alloc (by simp) _
  by_cases h0 : a0 = b0
  rotate_left 1
  · replace HC := Lib.hid (HC.out.trans (if_neg h0))
    have t0 : (a0 == b0) = false := by simpa using h0
    have n0 : (a0 != b0) = true := by simpa using h0
    clear h0
    go_enter Tryz.func99, Tryz.ntmps99
    go_wp2_with fail
    go_ret
    exact ⟨ret_bool HC.out.symm, hb2⟩
  replace HC := Lib.hid (HC.out.trans (if_pos h0))
  have t0 : (a0 == b0) = true := by simpa using h0
  have n0 : (a0 != b0) = false := by simpa using h0
  clear h0
  by_cases h1 : a1 = b1
  rotate_left 1
  · replace HC := Lib.hid (HC.out.trans (if_neg h1))
    have t1 : (a1 == b1) = false := by simpa using h1
    have n1 : (a1 != b1) = true := by simpa using h1
    clear h1
    go_enter Tryz.func99, Tryz.ntmps99
    go_wp2_with fail
    go_ret
    exact ⟨ret_bool HC.out.symm, hb2⟩
  replace HC := Lib.hid (HC.out.trans (if_pos h1))
  have t1 : (a1 == b1) = true := by simpa using h1
  have n1 : (a1 != b1) = false := by simpa using h1
  clear h1
  by_cases h2 : a2 = b2
  rotate_left 1
  · replace HC := Lib.hid (HC.out.trans (if_neg h2))
    have t2 : (a2 == b2) = false := by simpa using h2
    have n2 : (a2 != b2) = true := by simpa using h2
    clear h2
    go_enter Tryz.func99, Tryz.ntmps99
    go_wp2_with fail
    go_ret
    exact ⟨ret_bool HC.out.symm, hb2⟩
  replace HC := Lib.hid (HC.out.trans (if_pos h2))
  have t2 : (a2 == b2) = true := by simpa using h2
  have n2 : (a2 != b2) = false := by simpa using h2
  clear h2
  by_cases h3 : a3 = b3
  rotate_left 1
  · replace HC := Lib.hid (HC.out.trans (if_neg h3))
    have t3 : (a3 == b3) = false := by simpa using h3
    have n3 : (a3 != b3) = true := by simpa using h3
    clear h3
    go_enter Tryz.func99, Tryz.ntmps99
    go_wp2_with fail
    go_ret
    exact ⟨ret_bool HC.out.symm, hb2⟩
  replace HC := Lib.hid (HC.out.trans (if_pos h3))
  have t3 : (a3 == b3) = true := by simpa using h3
  have n3 : (a3 != b3) = false := by simpa using h3
  clear h3
  by_cases h4 : a4 = b4
  rotate_left 1
  · replace HC := Lib.hid (HC.out.trans (if_neg h4))
    have t4 : (a4 == b4) = false := by simpa using h4
    have n4 : (a4 != b4) = true := by simpa using h4
    clear h4
    go_enter Tryz.func99, Tryz.ntmps99
    go_wp2_with fail
    go_ret
    exact ⟨ret_bool HC.out.symm, hb2⟩
  replace HC := Lib.hid (HC.out.trans (if_pos h4))
  have t4 : (a4 == b4) = true := by simpa using h4
  have n4 : (a4 != b4) = false := by simpa using h4
  clear h4
  by_cases h5 : a5.toList = b5.toList
  rotate_left 1
  · replace HC := Lib.hid (HC.out.trans (if_neg h5))
    have t5 : (a5.toList == b5.toList) = false := by simpa using h5
    have n5 : (a5.toList != b5.toList) = true := by simpa using h5
    clear h5
    go_enter Tryz.func99, Tryz.ntmps99
    go_wp2_with fail
    go_ret
    exact ⟨ret_bool HC.out.symm, hb2⟩
  replace HC := Lib.hid (HC.out.trans (if_pos h5))
  have t5 : (a5.toList == b5.toList) = true := by simpa using h5
  have n5 : (a5.toList != b5.toList) = false := by simpa using h5
  clear h5
  by_cases h6 : a6.toList = b6.toList
  rotate_left 1
  · replace HC := Lib.hid (HC.out.trans (if_neg h6))
    have t6 : (a6.toList == b6.toList) = false := by simpa using h6
    have n6 : (a6.toList != b6.toList) = true := by simpa using h6
    clear h6
    go_enter Tryz.func99, Tryz.ntmps99
    go_wp2_with fail
    go_ret
    exact ⟨ret_bool HC.out.symm, hb2⟩
  replace HC := Lib.hid (HC.out.trans (if_pos h6))
  have t6 : (a6.toList == b6.toList) = true := by simpa using h6
  have n6 : (a6.toList != b6.toList) = false := by simpa using h6
  clear h6
  by_cases h7 : a7 = b7
  rotate_left 1
  · replace HC := Lib.hid (HC.out.trans (if_neg h7))
    have t7 : (a7 == b7) = false := by simpa using h7
    have n7 : (a7 != b7) = true := by simpa using h7
    clear h7
    go_enter Tryz.func99, Tryz.ntmps99
    go_wp2_with fail
    go_ret
    exact ⟨ret_bool HC.out.symm, hb2⟩
  replace HC := Lib.hid (HC.out.trans (if_pos h7))
  have t7 : (a7 == b7) = true := by simpa using h7
  have n7 : (a7 != b7) = false := by simpa using h7
  clear h7
  go_enter Tryz.func99, Tryz.ntmps99
  go_wp2_with fail
  go_ret
  exact ⟨ret_bool HC.out.symm, hb2⟩
end Go.Proofs.YtbihaoadgcckhaaGreat
