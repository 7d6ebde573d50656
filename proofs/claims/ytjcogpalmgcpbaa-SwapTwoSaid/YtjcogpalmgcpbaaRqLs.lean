/- The reference's order of requests: the same; walked once. -/
import Derived.Test.YtjcogpalmgcpbaaRqCmp
namespace Go.Proofs.Ytjcogpalmgcpbaa
open Go Go.RowKit Go.Sort Go.Lib
attribute [local go_sem] Req.cells

theorem ci_zero (x y : Int) : Lib.compareInt x y = 0 ↔ x = y := by unfold Lib.compareInt; split <;> (try split) <;> omega
theorem ci_lt (x y : Int) : decide (Lib.compareInt x y < 0) = decide (x < y) := by unfold Lib.compareInt; split <;> (try split) <;> simp <;> omega
theorem cb_zero : ∀ (x y : List UInt8), Lib.compareBytes x y = 0 ↔ x = y
  | [], [] => by simp [Lib.compareBytes]
  | [], _ :: _ => by simp [Lib.compareBytes]
  | _ :: _, [] => by simp [Lib.compareBytes]
  | a :: x, b :: y => by
    unfold Lib.compareBytes
    by_cases h : a < b
    · rw [if_pos h]; simp; intro e; subst e; exact absurd h (by simp)
    · rw [if_neg h]
      by_cases h2 : b < a
      · rw [if_pos h2]; simp; intro e; subst e; exact absurd h2 (by simp)
      · rw [if_neg h2, cb_zero x y]
        have : a = b := by
          have h3 : ¬ a.toNat < b.toNat := h
          have h4 : ¬ b.toNat < a.toNat := h2
          exact UInt8.toNat_inj.1 (by omega)
        simp [this]
theorem cb_lt : ∀ (x y : List UInt8), decide (Lib.compareBytes x y < 0) = Op.bytesLess x y
  | [], [] => by simp [Lib.compareBytes, Op.bytesLess]
  | [], _ :: _ => by simp [Lib.compareBytes, Op.bytesLess]
  | _ :: _, [] => by simp [Lib.compareBytes, Op.bytesLess]
  | a :: x, b :: y => by
    have ih := cb_lt x y
    unfold Lib.compareBytes Op.bytesLess
    by_cases h : a < b
    · rw [if_pos h]; simp [h]
    · rw [if_neg h]
      by_cases h2 : b < a
      · have h3 : a ≠ b := by intro e; subst e; exact absurd h2 (by simp)
        rw [if_pos h2]; simp [h, h3]
      · have h3 : a = b := by
          have h3 : ¬ a.toNat < b.toNat := h
          have h4 : ¬ b.toNat < a.toNat := h2
          exact UInt8.toNat_inj.1 (by omega)
        rw [if_neg h2, ih]; simp [h3]
theorem or_neg (x : Int) (l : List Int) : decide (orL (x :: l) < 0) = if x = 0 then decide (orL l < 0) else decide (x < 0) := by
  conv => lhs; unfold orL
  split <;> rfl
theorem tr_eq (a b : Bool) : truthN a = truthN b ↔ a = b := by cases a <;> cases b <;> simp [truthN]
theorem tr_lt (a b : Bool) (h : a ≠ b) : decide (truthN a < truthN b) = b := by cases a <;> cases b <;> simp [truthN] at h ⊢
theorem list_ba {a b : ByteArray} : a.data.toList = b.data.toList ↔ a.toList = b.toList := by rw [ByteArray.toList_eq, ByteArray.toList_eq]
theorem lessR_chain (a b : Req) : lessR a b = (if a.server = b.server then (if a.seq = b.seq then (if a.cancel = b.cancel then (if a.student = b.student then (if a.term = b.term then (if a.code.toList = b.code.toList then (if a.give.toList = b.give.toList then (if a.priority = b.priority then (decide (a.day < b.day)) else decide (a.priority < b.priority)) else Op.bytesLess a.give.toList b.give.toList) else Op.bytesLess a.code.toList b.code.toList) else decide (a.term < b.term)) else decide (a.student < b.student)) else b.cancel) else decide (a.seq < b.seq)) else decide (a.server < b.server)) := by
  unfold lessR cmpR keysR tailR
  simp only [List.cons_append, List.nil_append, or_neg, ci_zero, ci_lt, cb_zero, cb_lt, tr_eq, ← ByteArray.toList_eq]
  have h0 : decide (orL [] < 0) = false := rfl
  by_cases hc : a.cancel = b.cancel
  · simp only [hc, if_true, h0]
    repeat' split
    all_goals first | rfl | (simp_all)
  · simp only [hc, if_false, tr_lt _ _ hc]
theorem lessR_lit (a0 a1 : Int) (a2 : Bool) (a3 a4 : Int) (a5 a6 : ByteArray) (a7 a8 : Int) (b0 b1 : Int) (b2 : Bool) (b3 b4 : Int) (b5 b6 : ByteArray) (b7 b8 : Int) : lessR ⟨a0, a1, a2, a3, a4, a5, a6, a7, a8⟩ ⟨b0, b1, b2, b3, b4, b5, b6, b7, b8⟩ = (if a0 = b0 then (if a1 = b1 then (if a2 = b2 then (if a3 = b3 then (if a4 = b4 then (if a5.toList = b5.toList then (if a6.toList = b6.toList then (if a7 = b7 then (decide (a8 < b8)) else decide (a7 < b7)) else Op.bytesLess a6.toList b6.toList) else Op.bytesLess a5.toList b5.toList) else decide (a4 < b4)) else decide (a3 < b3)) else b2) else decide (a1 < b1)) else decide (a0 < b0)) := lessR_chain _ _




























































































































end Go.Proofs.Ytjcogpalmgcpbaa
