/- entry.Check, walked once. -/
import Derived.Test.YtnkbelbalaeieaaDoorCheck
import Derived.Laws.EntriesVeiled
namespace Go.Proofs.YtnkbelbalaeieaaDoor
open Go Go.RowKit Go.Sort Go.Lib
attribute [local go_sem] Ent.cells

/-- The rules' row: which field, which closure, which error. -/
def rulesA (b : Nat) : Array Value := #[.int .i64 1, .func (.func 42) #[] #[.pointer (some ⟨b, 0, none⟩)], .int .i64 12,
  .int .i64 2, .func (.func 44) #[] #[.pointer (some ⟨b, 0, none⟩)], .int .i64 3,
  .int .i64 4, .func (.func 45) #[] #[.pointer (some ⟨b, 0, none⟩)], .int .i64 3,
  .int .i64 32, .func (.func 46) #[] #[.pointer (some ⟨b, 0, none⟩)], .int .i64 3,
  .int .i64 64, .func (.func 47) #[] #[.pointer (some ⟨b, 0, none⟩)], .int .i64 3,
  .int .i64 16, .func (.func 48) #[] #[.pointer (some ⟨b, 0, none⟩)], .int .i64 3,
  .int .i64 8, .func (.func 49) #[] #[.pointer (some ⟨b, 0, none⟩)], .int .i64 21]
def RulesAt (w : World) (g b : Nat) : Prop := w.heap[g]? = some (.cells (rulesA b) 72 (0, 0))
theorem RulesAt.cell {w : World} {g b : Nat} (h : RulesAt w g b) (k : Nat) : w.cell? ⟨g, k, none⟩ = (rulesA b)[k]? := Lib.cell_of_heap h k
theorem RulesAt.below {w w' : World} {g b : Nat} (h : RulesAt w g b) (hk : Below w.heap.size w w') : RulesAt w' g b := by
  unfold RulesAt at *
  rw [hk.block g (lt_of_heap h)]; exact h

theorem RulesAt.drewN {w : World} {g b : Nat} (h : RulesAt w g b) (n : Nat) : RulesAt (w.drewN n) g b := h

/-- What holds while the first rule is asked. -/
structure Rule1 (w : World) (e : Ent) (q g : Nat) (w' : World) : Prop where
  below : Below w.heap.size w w'
  box : EntBox w' w.heap.size e
  rules : RulesAt w' g w.heap.size
  c0 : w'.cell? ⟨q, 0, none⟩ = some (.int .i64 1)
  c1 : w'.cell? ⟨q, 1, none⟩ = some (.func (.func 42) #[] #[.pointer (some ⟨w.heap.size, 0, none⟩)])
  c2 : w'.cell? ⟨q, 2, none⟩ = some (.int .i64 12)
theorem Rule1.step {w w' w'' : World} {e : Ent} {q g : Nat} (h : Rule1 w e q g w') (hb : Below w'.heap.size w' w'') : Rule1 w e q g w'' :=
  ⟨h.below.trans (hb.mono h.below.size), h.box.below hb, h.rules.below hb,
    (hb.cell (p := ⟨q, 0, none⟩) (World.block_lt_of_cell? w' _ h.c0)).trans h.c0, (hb.cell (p := ⟨q, 1, none⟩) (World.block_lt_of_cell? w' _ h.c1)).trans h.c1, (hb.cell (p := ⟨q, 2, none⟩) (World.block_lt_of_cell? w' _ h.c2)).trans h.c2⟩
theorem Rule1.held {w w' : World} {e : Ent} {q g : Nat} (h : Rule1 w e q g w') : Rule1 w e q g w' ∧ w'.cell? ⟨w.heap.size, 3, none⟩ = some (.int .i64 e.kind) ∧ w'.cell? ⟨q, 0, none⟩ = some (.int .i64 1) ∧ w'.cell? ⟨q, 1, none⟩ = some (.func (.func 42) #[] #[.pointer (some ⟨w.heap.size, 0, none⟩)]) :=
  ⟨h, h.box.cell 3, h.c0, h.c1⟩

theorem blw_drewN {B : Nat} {a w : World} (h : Below B a w) (n : Nat) : Below B a (w.drewN n) := h.trans ⟨rfl, rfl, rfl, Nat.le_refl _, fun _ _ => rfl⟩
theorem EntBox.drewN {w : World} {b : Nat} {e : Ent} (h : EntBox w b e) (n : Nat) : EntBox (w.drewN n) b e := h
theorem quiet_l {P : Program} {f : FuncId} {args : Array Value} {w : World} {n : Nat} {v : Value} (h : Calls P f args (w.drewN n) fun e w' => e = .returned v ∧ w.drewN n = w') :
    Calls P f args (w.drewN n) fun e w'' => e = .returned v ∧ ∃ m, w'' = w.drewN m := h.mono fun _ _ ⟨he, hm⟩ => ⟨he, n, hm.symm⟩

set_option maxHeartbeats 8000000 in
set_option maxRecDepth 100000 in
theorem check_any (e : Ent) (h : e.Ok) (w : World) :
    Calls Tryd.prog 15 #[e.val] w fun x w' => x = .returned (.int .i64 (chkV e)) ∧ Below w.heap.size w w' := by
  have hb1 := below_alloc1 w (.cells e.cells 26)
  have hcs := h.course
  go_enter Tryd.func15, Tryd.ntmps15
  go_wp2_with fail
  refine (beyond_any _ _ _ _).mono ?_
  rintro x w1 ⟨rfl, rfl⟩
  cases h0 : beyondB e.id 1 899999
  case true =>
    have h0 := Lib.hid h0
    go_wp2_with fail
    go_ret
    exact ⟨ret_int (by unfold chkV; simp [h0.out]), hb1⟩
  have H0 := Lib.hid h0
  clear h0
  go_wp2_with fail
  refine (beyond_any _ _ _ _).mono ?_
  rintro x w1 ⟨rfl, rfl⟩
  cases h1 : beyondB e.school 1 8
  case true =>
    have h1 := Lib.hid h1
    go_wp2_with fail
    go_ret
    exact ⟨ret_int (by unfold chkV; simp [H0.out, h1.out]), hb1⟩
  have H1 := Lib.hid h1
  clear h1
  go_wp2_with fail
  refine (beyond_any _ _ _ _).mono ?_
  rintro x w1 ⟨rfl, rfl⟩
  cases h2 : beyondB e.student 1 999999
  case true =>
    have h2 := Lib.hid h2
    go_wp2_with fail
    go_ret
    exact ⟨ret_int (by unfold chkV; simp [H0.out, H1.out, h2.out]), hb1⟩
  have H2 := Lib.hid h2
  clear h2
  go_wp2_with fail
  refine (beyond_any _ _ _ _).mono ?_
  rintro x w1 ⟨rfl, rfl⟩
  cases h3 : beyondB e.kind 1 9
  case true =>
    have h3 := Lib.hid h3
    go_wp2_with fail
    go_ret
    exact ⟨ret_int (by unfold chkV; simp [H0.out, H1.out, H2.out, h3.out]), hb1⟩
  have H3 := Lib.hid h3
  clear h3
  go_wp2_with fail
  have hbx := fun j => (EntBox.new w e).cell j
  go_region_held3 (fun w' => Below w.heap.size w w' ∧ ∀ j, w'.cell? ⟨w.heap.size, j, none⟩ = e.cells[j]?) (first | exact ⟨hb1.drew, hbx⟩ | assumption)
    (first
      | (go_at_call 40; refine (filled_any e _).mono ?_; rintro x w1 ⟨rfl, hf1⟩; have hS1 := EntBox.of_cells (e := e) (by assumption) hf1; have hbw1 := EntBox.below (w := (w.alloc (.cells e.cells 26)).drew) (EntBox.new w e) hf1)
      | (go_at_call 41; refine (has_any _ _).mono ?_; rintro x w2 ⟨rfl, rfl⟩))
  rename_i hHeld
  clear hHeld hf1 hbx hb1
  obtain ⟨hb1, hbx⟩ := hS1
  have hlt : w.heap.size < w1.heap.size := World.block_lt_of_cell? w1 _ (show w1.cell? ⟨w.heap.size, 0, none⟩ = some (.int .i64 e.id) from hbx 0)
  generalize h4 : (bits .andNot .i64 (filledV e) (hasv e.kind) != 0) = b4
  cases b4
  case true =>
    have H4 := Lib.hid h4
    clear h4
    go_wp2_with fail
    go_ret
    exact ⟨ret_int (by unfold chkV; simp [H0.out, H1.out, H2.out, H3.out]; have := H4.out; simp at this; simp [this]), hb1⟩
  have H4 := Lib.hid h4
  clear h4
  go_wp2_with fail
  refine (beyond_any _ _ _ _).mono ?_
  rintro x w2 ⟨rfl, rfl⟩
  cases h5 : beyondB e.day 0 100000
  case true =>
    have h5 := Lib.hid h5
    go_wp2_with fail
    go_ret
    exact ⟨ret_int (by have h4 := H4.out; simp only [bne_eq_false_iff_eq] at h4; unfold chkV; simp [H0.out, H1.out, H2.out, H3.out, h5.out, h4]), hb1⟩
  have H5 := Lib.hid h5
  clear h5
  go_wp2_with fail
  refine (beyond_any _ _ _ _).mono ?_
  rintro x w2 ⟨rfl, rfl⟩
  cases h6 : beyondB e.on 0 e.day
  case true =>
    have h6 := Lib.hid h6
    go_wp2_with fail
    go_ret
    exact ⟨ret_int (by have h4 := H4.out; simp only [bne_eq_false_iff_eq] at h4; unfold chkV; simp [H0.out, H1.out, H2.out, H3.out, H5.out, h6.out, h4]), hb1⟩
  have H6 := Lib.hid h6
  clear h6
  go_wp2_with fail
  have hB0 : Below w.heap.size w (w1.alloc (.cells (rulesA w.heap.size) 72)) := hb1.trans ((below_alloc1 _ _).mono hb1.size)
  obtain ⟨hv, hhv⟩ : ∃ hv, hv = hasv e.kind := ⟨_, rfl⟩
  have qh : ∀ W, Calls Tryd.prog 41 #[.int .i64 e.kind] W fun x w' => x = .returned (.int .i64 hv) ∧ W = w' := fun W => by rw [hhv]; exact has_any e.kind W
  rw [← hhv]
  have hchk : chkV e = ruleFrom hv e 0 := by
    have h4 := H4.out
    rw [← hhv] at h4
    unfold chkV
    rw [H0.out, H1.out, H2.out, H3.out, H5.out, H6.out, ← hhv, h4]
    simp
  have HC := Lib.hid hchk
  clear hhv hchk
  go_loopw [53] (fun i wr => ∃ k : Nat, k ≤ 7 ∧ i = .int .i64 k ∧ Below w.heap.size w wr ∧ EntBox wr w.heap.size e ∧ RulesAt wr w1.heap.size w.heap.size ∧ Hid (ruleFrom hv e 0 = ruleFrom hv e k)) (fun i _ => 7 - (intOf i).toNat)
  case atStart => exact ⟨0, by omega, rfl, hB0, EntBox.below hbw1 (below_alloc1 _ _), heap_alloc_new _ _, rfl⟩
  case round =>
    obtain ⟨k, hk, rfl, hbe, hbox, hrl, H⟩ := hrel
    have hk8 : k = 0 ∨ k = 1 ∨ k = 2 ∨ k = 3 ∨ k = 4 ∨ k = 5 ∨ k = 6 ∨ k = 7 := by omega
    rcases hk8 with rfl | rfl | rfl | rfl | rfl | rfl | rfl | rfl
    · have hltr := lt_of_heap hbox
      have hltq := lt_of_heap hrl
      have hc3 : wr.cell? ⟨w.heap.size, 3, none⟩ = some (.int .i64 e.kind) := hbox.cell 3
      have hl0 : wr.cell? ⟨w1.heap.size, 0, none⟩ = some (.int .i64 1) := hrl.cell 0
      have hl1 : wr.cell? ⟨w1.heap.size, 1, none⟩ = some (.func (.func 42) #[] #[.pointer (some ⟨w.heap.size, 0, none⟩)]) := hrl.cell 1
      have hl2 : wr.cell? ⟨w1.heap.size, 2, none⟩ = some (.int .i64 12) := hrl.cell 2
      by_cases hg : (bits .and .i64 hv 1 != 0) = true
      · cases hq : (!codeL e.course.data.toList)
        all_goals
          have HQ := Lib.hid hq
          have q := fun W hW => chk1_any e (by omega) w.heap.size W hW
          rw [hq] at q
          clear hq
          go_wp2_with fail
          have hba := hbe.trans ((below_alloc1 wr (.cells #[.int .i64 1, .func (.func 42) #[] #[.pointer (some ⟨w.heap.size, 0, none⟩)], .int .i64 12] 72)).mono hbe.size)
          have hbb := hbox.below (below_alloc1 wr (.cells #[.int .i64 1, .func (.func 42) #[] #[.pointer (some ⟨w.heap.size, 0, none⟩)], .int .i64 12] 72))
          have hbr := hrl.below (below_alloc1 wr (.cells #[.int .i64 1, .func (.func 42) #[] #[.pointer (some ⟨w.heap.size, 0, none⟩)], .int .i64 12] 72))
          have hS0 : Rule1 w e wr.heap.size w1.heap.size (wr.alloc (.cells #[.int .i64 1, .func (.func 42) #[] #[.pointer (some ⟨w.heap.size, 0, none⟩)], .int .i64 12] 72)).drew := ⟨hba.drew, hbb, hbr, Lib.cell_of_heap (heap_alloc_new wr _) 0, Lib.cell_of_heap (heap_alloc_new wr _) 1, Lib.cell_of_heap (heap_alloc_new wr _) 2⟩
          clear hba hbb hbr
          go_region_held3 (fun w' => Rule1 w e wr.heap.size w1.heap.size w' ∧ w'.cell? ⟨w.heap.size, 3, none⟩ = some (.int .i64 e.kind) ∧ w'.cell? ⟨wr.heap.size, 0, none⟩ = some (.int .i64 1) ∧ w'.cell? ⟨wr.heap.size, 1, none⟩ = some (.func (.func 42) #[] #[.pointer (some ⟨w.heap.size, 0, none⟩)])) (first | exact Rule1.held hS0 | assumption)
            (first
              | (go_at_call 41; refine (qh _).mono ?_; rintro x w2 ⟨rfl, rfl⟩)
              | (go_at_call 42; refine (q _ (Rule1.box (And.left (by assumption)))).mono ?_; rintro x w3 ⟨rfl, hb3⟩; have hS3 := Rule1.step (And.left (by assumption)) hb3; have hS4 := Rule1.held hS3))
          rename_i hHeld
          clear hHeld hS4
          have hc2 := hS3.c2
          go_wp2_with fail
          first
            | (go_roundw
               case rel => exact ⟨1, by omega, rfl, hS3.below, hS3.box, hS3.rules, by unfold Hid; unfold ruleFrom; simp only [HQ.out]; simp⟩
               case measure => simp [intOf])
            | (go_ret
               exact ⟨ret_int (by rw [HC.out]; unfold ruleFrom; simp only [HQ.out]; simp [hg]), hS3.below⟩)
      · go_wp2_with fail
        go_quiet ((go_at_call 41; exact quiet_l (qh _)))
        go_wp2_with fail
        go_roundw
        case rel => exact ⟨1, by omega, rfl, blw_drewN (hbe.trans ((below_alloc1 wr _).mono hbe.size)) _, EntBox.drewN (hbox.below (below_alloc1 wr _)) _, RulesAt.drewN (hrl.below (below_alloc1 wr _)) _, by unfold Hid; unfold ruleFrom; simp [hg]⟩
        case measure => simp [intOf]
    · have hltr := lt_of_heap hbox
      have hltq := lt_of_heap hrl
      have hc3 : wr.cell? ⟨w.heap.size, 3, none⟩ = some (.int .i64 e.kind) := hbox.cell 3
      have hl0 : wr.cell? ⟨w1.heap.size, 3, none⟩ = some (.int .i64 2) := hrl.cell 3
      have hl1 : wr.cell? ⟨w1.heap.size, 4, none⟩ = some (.func (.func 44) #[] #[.pointer (some ⟨w.heap.size, 0, none⟩)]) := hrl.cell 4
      have hl2 : wr.cell? ⟨w1.heap.size, 5, none⟩ = some (.int .i64 3) := hrl.cell 5
      by_cases hg : (bits .and .i64 hv 2 != 0) = true
      · cases hq : beyondB e.credits 1 60
        all_goals
          have HQ := Lib.hid hq
          have q := fun W hW => chk2_any e w.heap.size W hW
          rw [hq] at q
          clear hq
          go_wp2_with fail
          go_quiet ((first | (go_at_call 41; exact quiet_l (qh _)) | (go_at_call 44; exact quiet_l (q _ (EntBox.drewN (hbox.below (below_alloc1 _ _)) _)))))
          go_wp2_with fail
          first
            | (go_roundw
               case rel => exact ⟨2, by omega, rfl, blw_drewN (hbe.trans ((below_alloc1 wr _).mono hbe.size)) _, EntBox.drewN (hbox.below (below_alloc1 wr _)) _, RulesAt.drewN (hrl.below (below_alloc1 wr _)) _, by unfold Hid; rw [H.out]; unfold ruleFrom; simp only [HQ.out]; simp⟩
               case measure => simp [intOf])
            | (go_ret
               exact ⟨ret_int (by rw [HC.out, H.out]; unfold ruleFrom; simp only [HQ.out]; simp [hg]), blw_drewN (hbe.trans ((below_alloc1 wr _).mono hbe.size)) _⟩)
      · go_wp2_with fail
        go_quiet ((go_at_call 41; exact quiet_l (qh _)))
        go_wp2_with fail
        go_roundw
        case rel => exact ⟨2, by omega, rfl, blw_drewN (hbe.trans ((below_alloc1 wr _).mono hbe.size)) _, EntBox.drewN (hbox.below (below_alloc1 wr _)) _, RulesAt.drewN (hrl.below (below_alloc1 wr _)) _, by unfold Hid; rw [H.out]; unfold ruleFrom; simp [hg]⟩
        case measure => simp [intOf]
    · have hltr := lt_of_heap hbox
      have hltq := lt_of_heap hrl
      have hc3 : wr.cell? ⟨w.heap.size, 3, none⟩ = some (.int .i64 e.kind) := hbox.cell 3
      have hl0 : wr.cell? ⟨w1.heap.size, 6, none⟩ = some (.int .i64 4) := hrl.cell 6
      have hl1 : wr.cell? ⟨w1.heap.size, 7, none⟩ = some (.func (.func 45) #[] #[.pointer (some ⟨w.heap.size, 0, none⟩)]) := hrl.cell 7
      have hl2 : wr.cell? ⟨w1.heap.size, 8, none⟩ = some (.int .i64 3) := hrl.cell 8
      by_cases hg : (bits .and .i64 hv 4 != 0) = true
      · cases hq : beyondB e.grade (-1000) 1000
        all_goals
          have HQ := Lib.hid hq
          have q := fun W hW => chk3_any e w.heap.size W hW
          rw [hq] at q
          clear hq
          go_wp2_with fail
          go_quiet ((first | (go_at_call 41; exact quiet_l (qh _)) | (go_at_call 45; exact quiet_l (q _ (EntBox.drewN (hbox.below (below_alloc1 _ _)) _)))))
          go_wp2_with fail
          first
            | (go_roundw
               case rel => exact ⟨3, by omega, rfl, blw_drewN (hbe.trans ((below_alloc1 wr _).mono hbe.size)) _, EntBox.drewN (hbox.below (below_alloc1 wr _)) _, RulesAt.drewN (hrl.below (below_alloc1 wr _)) _, by unfold Hid; rw [H.out]; unfold ruleFrom; simp only [HQ.out]; simp⟩
               case measure => simp [intOf])
            | (go_ret
               exact ⟨ret_int (by rw [HC.out, H.out]; unfold ruleFrom; simp only [HQ.out]; simp [hg]), blw_drewN (hbe.trans ((below_alloc1 wr _).mono hbe.size)) _⟩)
      · go_wp2_with fail
        go_quiet ((go_at_call 41; exact quiet_l (qh _)))
        go_wp2_with fail
        go_roundw
        case rel => exact ⟨3, by omega, rfl, blw_drewN (hbe.trans ((below_alloc1 wr _).mono hbe.size)) _, EntBox.drewN (hbox.below (below_alloc1 wr _)) _, RulesAt.drewN (hrl.below (below_alloc1 wr _)) _, by unfold Hid; rw [H.out]; unfold ruleFrom; simp [hg]⟩
        case measure => simp [intOf]
    · have hltr := lt_of_heap hbox
      have hltq := lt_of_heap hrl
      have hc3 : wr.cell? ⟨w.heap.size, 3, none⟩ = some (.int .i64 e.kind) := hbox.cell 3
      have hl0 : wr.cell? ⟨w1.heap.size, 9, none⟩ = some (.int .i64 32) := hrl.cell 9
      have hl1 : wr.cell? ⟨w1.heap.size, 10, none⟩ = some (.func (.func 46) #[] #[.pointer (some ⟨w.heap.size, 0, none⟩)]) := hrl.cell 10
      have hl2 : wr.cell? ⟨w1.heap.size, 11, none⟩ = some (.int .i64 3) := hrl.cell 11
      by_cases hg : (bits .and .i64 hv 32 != 0) = true
      · cases hq : decide (e.programme < 1)
        all_goals
          have HQ := Lib.hid hq
          have q := fun W hW => chk4_any e w.heap.size W hW
          rw [hq] at q
          clear hq
          go_wp2_with fail
          go_quiet ((first | (go_at_call 41; exact quiet_l (qh _)) | (go_at_call 46; exact quiet_l (q _ (EntBox.drewN (hbox.below (below_alloc1 _ _)) _)))))
          go_wp2_with fail
          first
            | (go_roundw
               case rel => exact ⟨4, by omega, rfl, blw_drewN (hbe.trans ((below_alloc1 wr _).mono hbe.size)) _, EntBox.drewN (hbox.below (below_alloc1 wr _)) _, RulesAt.drewN (hrl.below (below_alloc1 wr _)) _, by unfold Hid; rw [H.out]; unfold ruleFrom; simp only [HQ.out]; simp⟩
               case measure => simp [intOf])
            | (go_ret
               exact ⟨ret_int (by rw [HC.out, H.out]; unfold ruleFrom; simp only [HQ.out]; simp [hg]), blw_drewN (hbe.trans ((below_alloc1 wr _).mono hbe.size)) _⟩)
      · go_wp2_with fail
        go_quiet ((go_at_call 41; exact quiet_l (qh _)))
        go_wp2_with fail
        go_roundw
        case rel => exact ⟨4, by omega, rfl, blw_drewN (hbe.trans ((below_alloc1 wr _).mono hbe.size)) _, EntBox.drewN (hbox.below (below_alloc1 wr _)) _, RulesAt.drewN (hrl.below (below_alloc1 wr _)) _, by unfold Hid; rw [H.out]; unfold ruleFrom; simp [hg]⟩
        case measure => simp [intOf]
    · have hltr := lt_of_heap hbox
      have hltq := lt_of_heap hrl
      have hc3 : wr.cell? ⟨w.heap.size, 3, none⟩ = some (.int .i64 e.kind) := hbox.cell 3
      have hl0 : wr.cell? ⟨w1.heap.size, 12, none⟩ = some (.int .i64 64) := hrl.cell 12
      have hl1 : wr.cell? ⟨w1.heap.size, 13, none⟩ = some (.func (.func 47) #[] #[.pointer (some ⟨w.heap.size, 0, none⟩)]) := hrl.cell 13
      have hl2 : wr.cell? ⟨w1.heap.size, 14, none⟩ = some (.int .i64 3) := hrl.cell 14
      by_cases hg : (bits .and .i64 hv 64 != 0) = true
      · cases hq : decide (e.version < 1)
        all_goals
          have HQ := Lib.hid hq
          have q := fun W hW => chk5_any e w.heap.size W hW
          rw [hq] at q
          clear hq
          go_wp2_with fail
          go_quiet ((first | (go_at_call 41; exact quiet_l (qh _)) | (go_at_call 47; exact quiet_l (q _ (EntBox.drewN (hbox.below (below_alloc1 _ _)) _)))))
          go_wp2_with fail
          first
            | (go_roundw
               case rel => exact ⟨5, by omega, rfl, blw_drewN (hbe.trans ((below_alloc1 wr _).mono hbe.size)) _, EntBox.drewN (hbox.below (below_alloc1 wr _)) _, RulesAt.drewN (hrl.below (below_alloc1 wr _)) _, by unfold Hid; rw [H.out]; unfold ruleFrom; simp only [HQ.out]; simp⟩
               case measure => simp [intOf])
            | (go_ret
               exact ⟨ret_int (by rw [HC.out, H.out]; unfold ruleFrom; simp only [HQ.out]; simp [hg]), blw_drewN (hbe.trans ((below_alloc1 wr _).mono hbe.size)) _⟩)
      · go_wp2_with fail
        go_quiet ((go_at_call 41; exact quiet_l (qh _)))
        go_wp2_with fail
        go_roundw
        case rel => exact ⟨5, by omega, rfl, blw_drewN (hbe.trans ((below_alloc1 wr _).mono hbe.size)) _, EntBox.drewN (hbox.below (below_alloc1 wr _)) _, RulesAt.drewN (hrl.below (below_alloc1 wr _)) _, by unfold Hid; rw [H.out]; unfold ruleFrom; simp [hg]⟩
        case measure => simp [intOf]
    · have hltr := lt_of_heap hbox
      have hltq := lt_of_heap hrl
      have hc3 : wr.cell? ⟨w.heap.size, 3, none⟩ = some (.int .i64 e.kind) := hbox.cell 3
      have hl0 : wr.cell? ⟨w1.heap.size, 15, none⟩ = some (.int .i64 16) := hrl.cell 15
      have hl1 : wr.cell? ⟨w1.heap.size, 16, none⟩ = some (.func (.func 48) #[] #[.pointer (some ⟨w.heap.size, 0, none⟩)]) := hrl.cell 16
      have hl2 : wr.cell? ⟨w1.heap.size, 17, none⟩ = some (.int .i64 3) := hrl.cell 17
      by_cases hg : (bits .and .i64 hv 16 != 0) = true
      · cases hq : (beyondB e.fro 1 8 || e.fro == e.school)
        all_goals
          have HQ := Lib.hid hq
          have q := fun W hW => chk6_any e w.heap.size W hW
          rw [hq] at q
          clear hq
          go_wp2_with fail
          go_quiet ((first | (go_at_call 41; exact quiet_l (qh _)) | (go_at_call 48; exact quiet_l (q _ (EntBox.drewN (hbox.below (below_alloc1 _ _)) _)))))
          go_wp2_with fail
          first
            | (go_roundw
               case rel => exact ⟨6, by omega, rfl, blw_drewN (hbe.trans ((below_alloc1 wr _).mono hbe.size)) _, EntBox.drewN (hbox.below (below_alloc1 wr _)) _, RulesAt.drewN (hrl.below (below_alloc1 wr _)) _, by unfold Hid; rw [H.out]; unfold ruleFrom; simp only [HQ.out]; simp⟩
               case measure => simp [intOf])
            | (go_ret
               exact ⟨ret_int (by rw [HC.out, H.out]; unfold ruleFrom; simp only [HQ.out]; simp [hg]), blw_drewN (hbe.trans ((below_alloc1 wr _).mono hbe.size)) _⟩)
      · go_wp2_with fail
        go_quiet ((go_at_call 41; exact quiet_l (qh _)))
        go_wp2_with fail
        go_roundw
        case rel => exact ⟨6, by omega, rfl, blw_drewN (hbe.trans ((below_alloc1 wr _).mono hbe.size)) _, EntBox.drewN (hbox.below (below_alloc1 wr _)) _, RulesAt.drewN (hrl.below (below_alloc1 wr _)) _, by unfold Hid; rw [H.out]; unfold ruleFrom; simp [hg]⟩
        case measure => simp [intOf]
    · have hltr := lt_of_heap hbox
      have hltq := lt_of_heap hrl
      have hc3 : wr.cell? ⟨w.heap.size, 3, none⟩ = some (.int .i64 e.kind) := hbox.cell 3
      have hl0 : wr.cell? ⟨w1.heap.size, 18, none⟩ = some (.int .i64 8) := hrl.cell 18
      have hl1 : wr.cell? ⟨w1.heap.size, 19, none⟩ = some (.func (.func 49) #[] #[.pointer (some ⟨w.heap.size, 0, none⟩)]) := hrl.cell 19
      have hl2 : wr.cell? ⟨w1.heap.size, 20, none⟩ = some (.int .i64 21) := hrl.cell 20
      by_cases hg : (bits .and .i64 hv 8 != 0) = true
      · cases hq : (beyondB e.ref 1 899999 || e.ref == e.id)
        all_goals
          have HQ := Lib.hid hq
          have q := fun W hW => chk7_any e w.heap.size W hW
          rw [hq] at q
          clear hq
          go_wp2_with fail
          go_quiet ((first | (go_at_call 41; exact quiet_l (qh _)) | (go_at_call 49; exact quiet_l (q _ (EntBox.drewN (hbox.below (below_alloc1 _ _)) _)))))
          go_wp2_with fail
          first
            | (go_roundw
               case rel => exact ⟨7, by omega, rfl, blw_drewN (hbe.trans ((below_alloc1 wr _).mono hbe.size)) _, EntBox.drewN (hbox.below (below_alloc1 wr _)) _, RulesAt.drewN (hrl.below (below_alloc1 wr _)) _, by unfold Hid; rw [H.out]; unfold ruleFrom; simp only [HQ.out]; simp⟩
               case measure => simp [intOf])
            | (go_ret
               exact ⟨ret_int (by rw [HC.out, H.out]; unfold ruleFrom; simp only [HQ.out]; simp [hg]), blw_drewN (hbe.trans ((below_alloc1 wr _).mono hbe.size)) _⟩)
      · go_wp2_with fail
        go_quiet ((go_at_call 41; exact quiet_l (qh _)))
        go_wp2_with fail
        go_roundw
        case rel => exact ⟨7, by omega, rfl, blw_drewN (hbe.trans ((below_alloc1 wr _).mono hbe.size)) _, EntBox.drewN (hbox.below (below_alloc1 wr _)) _, RulesAt.drewN (hrl.below (below_alloc1 wr _)) _, by unfold Hid; rw [H.out]; unfold ruleFrom; simp [hg]⟩
        case measure => simp [intOf]
    · go_wp2_with fail
      go_ret
      exact ⟨ret_int (by rw [HC.out, H.out]; unfold ruleFrom; simp), hbe⟩
end Go.Proofs.YtnkbelbalaeieaaDoor
