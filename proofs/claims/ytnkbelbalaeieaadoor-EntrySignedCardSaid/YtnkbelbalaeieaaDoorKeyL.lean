/- Plain law: keys of right entries are ordered as the entries are. No program in sight. -/
import Derived.Test.YtnkbelbalaeieaaDoorKey
import Derived.Test.YtnkbelbalaeieaaDoorLess
namespace Go.Proofs.YtnkbelbalaeieaaDoor
open Go Go.Lib

theorem sixL_inj {m n : Nat} (hm : m ≤ 999999) (hn : n ≤ 999999) (h : sixL m = sixL n) : m = n := by
  simp only [sixL, List.map_cons, List.map_nil, List.cons.injEq, and_true] at h
  obtain ⟨h1, h2, h3, h4, h5, h6⟩ := h
  have f : ∀ x y : Nat, UInt8.ofNat (48 + x % 10) = UInt8.ofNat (48 + y % 10) → x % 10 = y % 10 := fun x y h => by
    have := congrArg UInt8.toNat h
    rw [UInt8.toNat_ofNat', UInt8.toNat_ofNat'] at this; omega
  have := f _ _ h1; have := f _ _ h2; have := f _ _ h3; have := f _ _ h4; have := f _ _ h5; have := f _ _ h6
  omega
theorem keyL_len (e : Ent) : (keyL e).length = 22 := rfl
/-- The same student, day and Id. -/
def sameB (a b : Ent) : Bool := a.student == b.student && (a.on == b.on && a.id == b.id)
theorem cmp_three (x y : Int) : (x < y ∧ Lib.compareInt x y = -1) ∨ (x = y ∧ Lib.compareInt x y = 0) ∨ (y < x ∧ Lib.compareInt x y = 1) := by
  unfold Lib.compareInt
  rcases Int.lt_trichotomy x y with h | h | h
  · left; exact ⟨h, by rw [if_pos h]⟩
  · right; left; exact ⟨h, by rw [if_neg (by omega), if_neg (by omega)]⟩
  · right; right; exact ⟨h, by rw [if_neg (by omega), if_pos (by omega)]⟩
theorem or3_lt (x y z x' y' z' : Int) : (or3 (Lib.compareInt x x') (Lib.compareInt y y') (Lib.compareInt z z') < 0) ↔ (x < x' ∨ x = x' ∧ (y < y' ∨ y = y' ∧ z < z')) := by
  unfold or3
  rcases cmp_three x x' with ⟨h1, e1⟩ | ⟨h1, e1⟩ | ⟨h1, e1⟩ <;> rcases cmp_three y y' with ⟨h2, e2⟩ | ⟨h2, e2⟩ | ⟨h2, e2⟩ <;> rcases cmp_three z z' with ⟨h3, e3⟩ | ⟨h3, e3⟩ | ⟨h3, e3⟩ <;> rw [e1, e2, e3] <;> simp <;> omega
theorem lessB_iff (a b : Ent) : lessB a b = true ↔ (a.student < b.student ∨ a.student = b.student ∧ (a.on < b.on ∨ a.on = b.on ∧ a.id < b.id)) := by
  unfold lessB; rw [decide_eq_true_eq]; exact or3_lt _ _ _ _ _ _
theorem sameB_iff (a b : Ent) : sameB a b = true ↔ a.student = b.student ∧ a.on = b.on ∧ a.id = b.id := by
  simp [sameB]
/-- Less is an order, total but for the same student, day and Id. -/
theorem less_three (a b : Ent) : (lessB a b = true ∧ lessB b a = false ∧ sameB a b = false) ∨ (lessB a b = false ∧ lessB b a = true ∧ sameB a b = false) ∨ (lessB a b = false ∧ lessB b a = false ∧ sameB a b = true) := by
  have h1 := lessB_iff a b
  have h2 := lessB_iff b a
  have h3 := sameB_iff a b
  cases e1 : lessB a b <;> cases e2 : lessB b a <;> cases e3 : sameB a b <;> simp only [e1, e2, e3, true_iff, false_iff, Bool.false_eq_true] at h1 h2 h3 <;> first | (simp; done) | (exfalso; omega)
theorem bl_app : ∀ {x y s t : List UInt8}, x.length = y.length → Op.bytesLess (x ++ s) (y ++ t) = (Op.bytesLess x y || (x == y && Op.bytesLess s t))
  | [], [], s, t, _ => by simp [Op.bytesLess]
  | [], _ :: _, _, _, h => by simp at h
  | _ :: _, [], _, _, h => by simp at h
  | a :: x, b :: y, s, t, h => by
    have ih := bl_app (x := x) (y := y) (s := s) (t := t) (by simpa using h)
    simp only [List.cons_append, Op.bytesLess, ih]
    by_cases hab : a = b
    · subst hab; simp
    · have e : (a == b) = false := by simpa using hab
      simp [e]
theorem dig_lt {x y : Nat} : (UInt8.ofNat (48 + x % 10) < UInt8.ofNat (48 + y % 10)) ↔ x % 10 < y % 10 := by
  rw [UInt8.lt_iff_toNat_lt, UInt8.toNat_ofNat', UInt8.toNat_ofNat']; omega
theorem dig_eq {x y : Nat} : (UInt8.ofNat (48 + x % 10) = UInt8.ofNat (48 + y % 10)) ↔ x % 10 = y % 10 := by
  rw [← UInt8.toNat_inj, UInt8.toNat_ofNat', UInt8.toNat_ofNat']; omega
theorem bl_six {m n : Nat} (hm : m ≤ 999999) (hn : n ≤ 999999) : Op.bytesLess (sixL m) (sixL n) = decide (m < n) := by
  rw [Bool.eq_iff_iff, decide_eq_true_eq]
  simp only [sixL, List.map_cons, List.map_nil, Op.bytesLess, Bool.or_eq_true, Bool.and_eq_true, decide_eq_true_eq, beq_iff_eq, dig_lt, dig_eq, Bool.false_eq_true, and_false, or_false]
  omega
theorem six_eq {m n : Nat} (hm : m ≤ 999999) (hn : n ≤ 999999) : (sixL m == sixL n) = decide (m = n) := by
  rw [Bool.eq_iff_iff, decide_eq_true_eq, beq_iff_eq]
  exact ⟨fun h => sixL_inj hm hn h, fun h => by rw [h]⟩

/-- A right entry's numbers, as naturals. -/
theorem right_nat {e : Ent} (h : chkV e = 0) : ∃ s o i k : Nat, e.student = s ∧ e.on = o ∧ e.id = i ∧ e.kind = k ∧ s ≤ 999999 ∧ o ≤ 999999 ∧ i ≤ 999999 ∧ 1 ≤ k ∧ k ≤ 9 := by
  obtain ⟨r1, r2, r3, r4, r5, r6⟩ := chk_right h
  exact ⟨e.student.toNat, e.on.toNat, e.id.toNat, e.kind.toNat, by omega, by omega, by omega, by omega, by omega, by omega, by omega, by omega, by omega⟩
theorem key_eq {a b : Ent} (ha : chkV a = 0) (hb : chkV b = 0) : (keyL a == keyL b) = (sameB a b && a.kind == b.kind) := by
  obtain ⟨s, o, i, k, h1, h2, h3, h4, b1, b2, b3, b4, b5⟩ := right_nat ha
  obtain ⟨s', o', i', k', g1, g2, g3, g4, c1, c2, c3, c4, c5⟩ := right_nat hb
  rw [Bool.eq_iff_iff, beq_iff_eq, Bool.and_eq_true, sameB_iff, beq_iff_eq]
  unfold keyL
  rw [h1, h2, h3, h4, g1, g2, g3, g4]
  simp only [Int.toNat_natCast]
  constructor
  · intro h
    obtain ⟨e1, h⟩ := List.append_inj h rfl
    obtain ⟨e2, h⟩ := List.append_inj (List.cons.inj h).2 rfl
    obtain ⟨e3, h⟩ := List.append_inj (List.cons.inj h).2 rfl
    have e4 := (List.cons.inj (List.cons.inj h).2).1
    have := sixL_inj b1 c1 e1
    have := sixL_inj b2 c2 e2
    have := sixL_inj b3 c3 e3
    have e5 := congrArg UInt8.toNat e4
    rw [UInt8.toNat_ofNat', UInt8.toNat_ofNat'] at e5
    omega
  · rintro ⟨⟨e1, e2, e3⟩, e4⟩
    obtain rfl : s = s' := by omega
    obtain rfl : o = o' := by omega
    obtain rfl : i = i' := by omega
    obtain rfl : k = k' := by omega
    rfl
theorem bl_cons (c : UInt8) (s t : List UInt8) : Op.bytesLess (c :: s) (c :: t) = Op.bytesLess s t := by simp [Op.bytesLess]
theorem key_less {a b : Ent} (ha : chkV a = 0) (hb : chkV b = 0) (hs : sameB a b = false) : Op.bytesLess (keyL a) (keyL b) = lessB a b := by
  obtain ⟨s, o, i, k, h1, h2, h3, h4, b1, b2, b3, b4, b5⟩ := right_nat ha
  obtain ⟨s', o', i', k', g1, g2, g3, g4, c1, c2, c3, c4, c5⟩ := right_nat hb
  have hn : ¬ (a.student = b.student ∧ a.on = b.on ∧ a.id = b.id) := fun h => by rw [(sameB_iff a b).2 h] at hs; cases hs
  rw [Bool.eq_iff_iff, lessB_iff]
  unfold keyL
  rw [h1, h2, h3, h4, g1, g2, g3, g4] at *
  simp only [Int.toNat_natCast]
  rw [bl_app (x := sixL s) (y := sixL s') rfl, bl_cons, bl_app (x := sixL o) (y := sixL o') rfl, bl_cons, bl_app (x := sixL i) (y := sixL i') rfl, bl_six b1 c1, bl_six b2 c2, bl_six b3 c3, six_eq b1 c1, six_eq b2 c2, six_eq b3 c3]
  simp only [Bool.or_eq_true, Bool.and_eq_true, decide_eq_true_eq]
  omega
end Go.Proofs.YtnkbelbalaeieaaDoor
