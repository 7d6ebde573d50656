/- quadriviumref10.Check returns what entry.Check does; Less too. -/
import Derived.Test.YtnkbelbalaeieaaDoorRefC
import Derived.Test.YtnkbelbalaeieaaDoorFields
import Derived.Test.YtnkbelbalaeieaaDoorKeyL
namespace Go.Proofs.YtnkbelbalaeieaaDoor
open Go Go.RowKit Go.Sort Go.Lib
attribute [local go_sem] Ent.cells

theorem filled_tab (k : Fin 10) (b0 b1 b2 b3 b4 b5 b6 : Bool) : (bits .andNot .i64 (accF [b0, b1, b2, b3, b4, b5, b6] 7) (hasv k.1) != 0) =
    ((b0 && !(k.1 == 3)) || (b1 && !(k.1 == 3)) || (b2 && !(k.1 == 3 || k.1 == 4)) || (b3 && !(k.1 == 4 || k.1 == 5 || k.1 == 6 || k.1 == 9)) || (b4 && !(k.1 == 7)) || (b5 && !(k.1 == 1 || k.1 == 8 || k.1 == 2)) || (b6 && !(k.1 == 2))) := by
  revert k b0 b1 b2 b3 b4 b5 b6; decide +kernel
theorem plain_eq (e : Ent) : plainE e = e ↔ (e.kind = 3 ∨ e.course = ⟨#[]⟩) ∧ (e.kind = 3 ∨ e.credits = 0) ∧ ((e.kind = 3 ∨ e.kind = 4) ∨ e.grade = 0) ∧ ((e.kind = 4 ∨ e.kind = 5 ∨ e.kind = 6 ∨ e.kind = 9) ∨ e.ref = 0) ∧ (e.kind = 7 ∨ e.fro = 0) ∧ ((e.kind = 1 ∨ e.kind = 8 ∨ e.kind = 2) ∨ e.programme = 0) ∧ (e.kind = 2 ∨ e.version = 0) := by
  have f : ∀ {α : Type} (p : Prop) [Decidable p] (x z : α), (if p then x else z) = x ↔ (p ∨ x = z) := fun p _ x z => by by_cases h : p <;> simp [h, eq_comm]
  obtain ⟨x0, x1, x2, x3, x4, x5, x6, x7, x8, x9, x10, x11, x12, x13, x14⟩ := e
  simp only [plainE, Ent.mk.injEq, true_and, and_true, f]
theorem empty_iff (s : ByteArray) : s.toList.isEmpty = true ↔ s = ⟨#[]⟩ := by
  rw [List.isEmpty_iff, ← ba_toList]
  simp [ByteArray.toList_eq]
theorem plain_ok (e : Ent) (hk : 1 ≤ e.kind ∧ e.kind ≤ 9) : (!eqE (plainE e) e) = (bits .andNot .i64 (filledV e) (hasv e.kind) != 0) := by
  have hp := (eqE_iff (plainE e) e).trans (plain_eq e)
  have hA := empty_iff e.course
  unfold filledV Ent.some7
  have h : e.kind = 1 ∨ e.kind = 2 ∨ e.kind = 3 ∨ e.kind = 4 ∨ e.kind = 5 ∨ e.kind = 6 ∨ e.kind = 7 ∨ e.kind = 8 ∨ e.kind = 9 := by omega
  generalize eqE (plainE e) e = B at hp
  rcases h with h | h | h | h | h | h | h | h | h
  · rw [h] at hp ⊢
    refine Eq.trans ?_ (filled_tab ⟨1, by decide⟩ _ _ _ _ _ _ _).symm
    rw [Bool.eq_iff_iff]
    simp at hp ⊢
    grind
  · rw [h] at hp ⊢
    refine Eq.trans ?_ (filled_tab ⟨2, by decide⟩ _ _ _ _ _ _ _).symm
    rw [Bool.eq_iff_iff]
    simp at hp ⊢
    grind
  · rw [h] at hp ⊢
    refine Eq.trans ?_ (filled_tab ⟨3, by decide⟩ _ _ _ _ _ _ _).symm
    rw [Bool.eq_iff_iff]
    simp at hp ⊢
    grind
  · rw [h] at hp ⊢
    refine Eq.trans ?_ (filled_tab ⟨4, by decide⟩ _ _ _ _ _ _ _).symm
    rw [Bool.eq_iff_iff]
    simp at hp ⊢
    grind
  · rw [h] at hp ⊢
    refine Eq.trans ?_ (filled_tab ⟨5, by decide⟩ _ _ _ _ _ _ _).symm
    rw [Bool.eq_iff_iff]
    simp at hp ⊢
    grind
  · rw [h] at hp ⊢
    refine Eq.trans ?_ (filled_tab ⟨6, by decide⟩ _ _ _ _ _ _ _).symm
    rw [Bool.eq_iff_iff]
    simp at hp ⊢
    grind
  · rw [h] at hp ⊢
    refine Eq.trans ?_ (filled_tab ⟨7, by decide⟩ _ _ _ _ _ _ _).symm
    rw [Bool.eq_iff_iff]
    simp at hp ⊢
    grind
  · rw [h] at hp ⊢
    refine Eq.trans ?_ (filled_tab ⟨8, by decide⟩ _ _ _ _ _ _ _).symm
    rw [Bool.eq_iff_iff]
    simp at hp ⊢
    grind
  · rw [h] at hp ⊢
    refine Eq.trans ?_ (filled_tab ⟨9, by decide⟩ _ _ _ _ _ _ _).symm
    rw [Bool.eq_iff_iff]
    simp at hp ⊢
    grind
theorem day_eq (e : Ent) : (!betweenB e.day 0 100000 || !betweenB e.on 0 100000 || decide (e.day < e.on)) = (beyondB e.day 0 100000 || beyondB e.on 0 e.day) := by
  rw [beyond_not, beyond_not, Bool.eq_iff_iff]
  simp only [betweenB, Bool.or_eq_true, Bool.not_eq_true', Bool.and_eq_false_iff, decide_eq_true_eq, decide_eq_false_iff_not]
  omega

set_option maxHeartbeats 4000000 in
set_option maxRecDepth 100000 in
theorem refCheck_any (e : Ent) (h : e.Ok) (w : World) :
    Calls Tryd.prog 17 #[e.val] w fun x w' => x = .returned (.int .i64 (chkV e)) ∧ RowKit.Below w.heap.size w w' := by
  have hcs := h.course
  go_enter Tryd.func17, Tryd.ntmps17
  go_upto_region 1 with fail
  have hx := EntBox.new w e
  have hb := below_alloc1 w (.cells e.cells 26)
  unfold Ent.cells at hb
  have hx' : EntBox (w.alloc (.cells #[.int .i64 e.id, .int .i64 e.school, .int .i64 e.student, .int .i64 e.kind, .int .i64 e.day, .int .i64 e.on, .string e.course, .int .i64 e.credits, .int .i64 e.grade, .int .i64 e.ref, .int .i64 e.fro, .int .i64 e.programme, .int .i64 e.version, .int .i64 e.key, .string e.mark] 26)) w.heap.size e := hx
  generalize w.alloc _ = W at hb hx' ⊢
  clear hx
  refine refc_r1 w.heap.size e _ _ hx' ?_
  rintro u4 u5 u6 u7 u8 u9 u10 u11 u12 u13 u14 u15 u16 u17 u18 u19 wx rfl
  obtain ⟨B1, hB1⟩ : ∃ B, (!betweenB e.id 1 899999 || !betweenB e.school 1 8 || !betweenB e.student 1 999999) = B := ⟨_, rfl⟩
  rw [hB1]
  have H1 : Hid ((beyondB e.id 1 899999 || beyondB e.school 1 8 || beyondB e.student 1 999999) = B1) := Lib.hid (by rw [beyond_not, beyond_not, beyond_not]; exact hB1)
  clear hB1
  cases B1
  rotate_left
  · have H := Lib.hid (show chkV e = 1 by unfold chkV; rw [if_pos H1.out])
    clear H1
    go_wp2_with fail
    go_ret
    exact ⟨ret_int H.out.symm, hb⟩
  · have N1 : Hid (¬ (beyondB e.id 1 899999 || beyondB e.school 1 8 || beyondB e.student 1 999999) = true) := Lib.hid (by rw [H1.out]; simp)
    clear H1
    go_upto_region 3 with fail
    cases hk : betweenB e.kind 1 9
    · have H := Lib.hid (show chkV e = 20 by unfold chkV; rw [if_neg N1.out, if_pos (by rw [beyond_not, hk]; rfl)])
      refine refc_r3_bad w.heap.size e _ _ hx' hk ?_
      intro u21 u22 u23 u24 u25 u26 u27 u28 u29 u30 wx hb3
      clear hk
      go_wp2_with fail
      go_ret
      exact ⟨ret_int H.out.symm, hb.trans (hb3.mono hb.size)⟩
    · have hk9 : 1 ≤ e.kind ∧ e.kind ≤ 9 := by simpa [betweenB] using hk
      refine refc_r3_ok w.heap.size e _ _ hx' hk hk9 ?_
      intro u21 u22 u23 u24 u25 u26 u27 u28 u29 u30 wx hb3
      have hbx := hb.trans (hb3.mono hb.size)
      replace hx' := hx'.below hb3
      have H2 : Hid ((beyondB e.kind 1 9 || bits .andNot .i64 (filledV e) (hasv e.kind) != 0) = !eqE (plainE e) e) := Lib.hid (by rw [beyond_not, hk, plain_ok e hk9]; rfl)
      clear hk hb3
      generalize (!eqE (plainE e) e) = B2 at H2
      cases B2
      rotate_left
      · have H := Lib.hid (show chkV e = 20 by unfold chkV; rw [if_neg N1.out, if_pos H2.out])
        clear H2
        go_wp2_with fail
        go_ret
        exact ⟨ret_int H.out.symm, hbx⟩
      · have N2 : Hid (¬ (beyondB e.kind 1 9 || bits .andNot .i64 (filledV e) (hasv e.kind) != 0) = true) := Lib.hid (by rw [H2.out]; simp)
        clear H2
        go_upto_region 5 with fail
        refine refc_r5 w.heap.size e _ _ hx' ?_
        rintro u32 u33 u34 u35 u36 u37 u38 u39 u40 u41 u42 u43 u44 u45 u46 u47 u48 wy rfl
        have H3 : Hid ((beyondB e.day 0 100000 || beyondB e.on 0 e.day) = (!betweenB e.day 0 100000 || !betweenB e.on 0 100000 || decide (e.day < e.on))) := Lib.hid (day_eq e).symm
        generalize (!betweenB e.day 0 100000 || !betweenB e.on 0 100000 || decide (e.day < e.on)) = B3 at H3
        cases B3
        rotate_left
        · have H := Lib.hid (show chkV e = 23 by unfold chkV; rw [if_neg N1.out, if_neg N2.out, if_pos H3.out])
          clear H3
          go_wp2_with fail
          go_ret
          exact ⟨ret_int H.out.symm, hbx⟩
        · have H := Lib.hid (show chkV e = ruleFrom (hasv e.kind) e 0 by unfold chkV; rw [if_neg N1.out, if_neg N2.out, if_neg (by rw [H3.out]; simp)])
          clear H3
          have hcell := hx'.cell
          go_wp2_with fail
          refine (fields_any e _ (by omega) hk9).mono ?_
          rintro r w5 ⟨rfl, hb5⟩
          go_wp2_with fail
          go_ret
          exact ⟨ret_int H.out.symm, hbx.trans (hb5.mono hbx.size)⟩

set_option maxHeartbeats 4000000 in
set_option maxRecDepth 100000 in
theorem refLess_any (a b : Ent) (w : World) :
    Calls Tryd.prog 21 #[a.val, b.val] w fun x w' => x = .returned (.bool (lessB a b)) ∧ RowKit.Below w.heap.size w w' := by
  have hl := lessB_iff a b
  by_cases h1 : a.student = b.student
  · by_cases h2 : a.on = b.on
    · have H := Lib.hid (show lessB a b = decide (a.id < b.id) by rw [Bool.eq_iff_iff, hl, decide_eq_true_eq]; omega)
      have e1 : (a.student != b.student) = false := by simpa using h1
      have e2 : (a.on != b.on) = false := by simpa using h2
      clear h1 h2 hl
      go_enter Tryd.func21, Tryd.ntmps21
      go_wp2_with fail
      go_ret
      exact ⟨ret_bool H.out.symm, below2 _ _ _⟩
    · have H := Lib.hid (show lessB a b = decide (a.on < b.on) by rw [Bool.eq_iff_iff, hl, decide_eq_true_eq]; omega)
      have e1 : (a.student != b.student) = false := by simpa using h1
      have e2 : (a.on != b.on) = true := by simpa using h2
      clear h1 h2 hl
      go_enter Tryd.func21, Tryd.ntmps21
      go_wp2_with fail
      go_ret
      exact ⟨ret_bool H.out.symm, below2 _ _ _⟩
  · have H := Lib.hid (show lessB a b = decide (a.student < b.student) by rw [Bool.eq_iff_iff, hl, decide_eq_true_eq]; omega)
    have e1 : (a.student != b.student) = true := by simpa using h1
    clear h1 hl
    go_enter Tryd.func21, Tryd.ntmps21
    go_wp2_with fail
    go_ret
    exact ⟨ret_bool H.out.symm, below2 _ _ _⟩
end Go.Proofs.YtnkbelbalaeieaaDoor
