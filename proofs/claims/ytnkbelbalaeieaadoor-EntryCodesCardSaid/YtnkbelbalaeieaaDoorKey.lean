/- entry.Key, walked once. -/
import Derived.Test.YtnkbelbalaeieaaDoorCheck2
import Derived.Test.YtnkbelbalaeieaaDoorSix
namespace Go.Proofs.YtnkbelbalaeieaaDoor
open Go Go.RowKit Go.Sort Go.Lib
attribute [local go_sem] Ent.cells

/-- The bytes of a right entry's key. -/
def keyL (e : Ent) : List UInt8 := sixL e.student.toNat ++ 32 :: (sixL e.on.toNat ++ 32 :: (sixL e.id.toNat ++ 32 :: [UInt8.ofNat (48 + e.kind.toNat)]))
def keyV (e : Ent) : List UInt8 := if chkV e = 0 then keyL e else []

theorem beyond_no {n lo hi : Int} (h : beyondB n lo hi = false) : lo ≤ n ∧ n ≤ hi := by
  simp only [beyondB, Bool.or_eq_false_iff, decide_eq_false_iff_not] at h; omega

/-- What a right entry's numbers are. -/
theorem chk_right {e : Ent} (h : chkV e = 0) : (1 ≤ e.id ∧ e.id ≤ 899999) ∧ (1 ≤ e.school ∧ e.school ≤ 8) ∧ (1 ≤ e.student ∧ e.student ≤ 999999) ∧ (1 ≤ e.kind ∧ e.kind ≤ 9) ∧ (0 ≤ e.day ∧ e.day ≤ 100000) ∧ (0 ≤ e.on ∧ e.on ≤ e.day) := by
  unfold chkV at h
  split at h
  · cases h
  rename_i h1
  split at h
  · cases h
  rename_i h2
  split at h
  · cases h
  rename_i h3
  simp only [Bool.or_eq_true, not_or, Bool.not_eq_true] at h1 h2 h3
  exact ⟨beyond_no h1.1.1, beyond_no h1.1.2, beyond_no h1.2, beyond_no h2.1, beyond_no h3.1, beyond_no h3.2⟩

theorem enc_kind (k : Int) (h : 1 ≤ k ∧ k ≤ 9) : Utf8.encode (48 + k) = ⟨#[UInt8.ofNat (48 + k.toNat)]⟩ := by
  have : k = 1 ∨ k = 2 ∨ k = 3 ∨ k = 4 ∨ k = 5 ∨ k = 6 ∨ k = 7 ∨ k = 8 ∨ k = 9 := by omega
  rcases this with rfl | rfl | rfl | rfl | rfl | rfl | rfl | rfl | rfl
  all_goals rfl

/-- strings.Join of four texts that were just laid, with a blank between. -/
theorem join4 (l0 l1 l2 l3 : List UInt8) (W : World) (t : TypeId) (h0 : l0.length ≤ 1000) (h1 : l1.length ≤ 1000) (h2 : l2.length ≤ 1000) (h3 : l3.length ≤ 1000) :
    Calls Tryd.prog 37 #[.slice (some ⟨W.heap.size, 0, none⟩) 4 4, .string ⟨#[32]⟩] (W.alloc (.cells #[.string ⟨l0.toArray⟩, .string ⟨l1.toArray⟩, .string ⟨l2.toArray⟩, .string ⟨l3.toArray⟩] t))
      fun e w' => e = .returned (.string ⟨(l0 ++ 32 :: (l1 ++ 32 :: (l2 ++ 32 :: l3))).toArray⟩) ∧ Below (W.alloc (.cells #[.string ⟨l0.toArray⟩, .string ⟨l1.toArray⟩, .string ⟨l2.toArray⟩, .string ⟨l3.toArray⟩] t)).heap.size (W.alloc (.cells #[.string ⟨l0.toArray⟩, .string ⟨l1.toArray⟩, .string ⟨l2.toArray⟩, .string ⟨l3.toArray⟩] t)) w' := by
  have hj : Lib.join ([⟨l0.toArray⟩, ⟨l1.toArray⟩, ⟨l2.toArray⟩, ⟨l3.toArray⟩].map (fun x : ByteArray => x.data.toList)) (⟨#[32]⟩ : ByteArray).data.toList = l0 ++ 32 :: (l1 ++ 32 :: (l2 ++ 32 :: l3)) := by
    simp [Lib.join, List.intercalate]
  have := Tryd.strings_Join W.heap.size 0 4 [⟨l0.toArray⟩, ⟨l1.toArray⟩, ⟨l2.toArray⟩, ⟨l3.toArray⟩] ⟨#[32]⟩ (W.alloc (.cells #[.string ⟨l0.toArray⟩, .string ⟨l1.toArray⟩, .string ⟨l2.toArray⟩, .string ⟨l3.toArray⟩] t))
    (fun j x hx => by
      rw [Nat.zero_add, Lib.cell_of_heap (heap_alloc_new W _)]
      match j, hx with
      | 0, hx => simp at hx; subst hx; rfl
      | 1, hx => simp at hx; subst hx; rfl
      | 2, hx => simp at hx; subst hx; rfl
      | 3, hx => simp at hx; subst hx; rfl) (by simp) (by simp) (by simp) (by rw [hj]; simp only [List.length_append, List.length_cons]; omega)
  rw [hj] at this
  exact this

theorem sixL_len (n : Nat) : (sixL n).length = 6 := rfl

set_option maxHeartbeats 2000000 in
set_option maxRecDepth 100000 in
theorem key_any (e : Ent) (h : e.Ok) (w : World) :
    Calls Tryd.prog 14 #[e.val] w fun x w' => x = .returned (.string ⟨(keyV e).toArray⟩) ∧ Below w.heap.size w w' := by
  have hc := fun W => check_any e h W
  by_cases h0 : chkV e = 0
  · have hr : keyV e = keyL e := by unfold keyV; rw [if_pos h0]
    obtain ⟨r1, r2, r3, r4, r5, r6⟩ := chk_right h0
    rw [h0] at hc
    have H := Lib.hid hr
    clear hr h0
    obtain ⟨a, ha⟩ := Int.eq_ofNat_of_zero_le (show 0 ≤ e.student by omega)
    obtain ⟨b, hb⟩ := Int.eq_ofNat_of_zero_le (show 0 ≤ e.on by omega)
    obtain ⟨c, hcc⟩ := Int.eq_ofNat_of_zero_le (show 0 ≤ e.id by omega)
    have s1 := fun W => six_any a W (by omega)
    have s2 := fun W => six_any b W (by omega)
    have s3 := fun W => six_any c W (by omega)
    rw [← ha] at s1
    rw [← hb] at s2
    rw [← hcc] at s3
    have HA := Lib.hid ha
    have HB := Lib.hid hb
    have HC := Lib.hid hcc
    clear ha hb hcc
    have hcv := enc_kind e.kind r4
    have hw1 : IntKind.i64.wrap (48 + e.kind) = 48 + e.kind := IntWalk.i64_in _ (by omega)
    have hw2 : IntKind.i32.wrap (48 + e.kind) = 48 + e.kind := IntWalk.i32_in _ (by omega)
    have hb0 := below_alloc1 w (.cells e.cells 26)
    have hbx := fun j => (EntBox.new w e).cell j
    go_enter Tryd.func14, Tryd.ntmps14
    go_wp2_with fail
    refine (hc _).mono ?_
    rintro x w1 ⟨rfl, hb1⟩
    have hbw := EntBox.below (EntBox.new w e) hb1
    have hbe := hb0.trans (hb1.mono (by simp))
    clear hb0 hbx hb1
    have hbx := fun j => hbw.cell j
    go_wp2_with fail
    go_region_held3 (fun w' => Below w.heap.size w w' ∧ ∀ j, w'.cell? ⟨w.heap.size, j, none⟩ = e.cells[j]?) (first | exact ⟨hbe.drew, hbx⟩ | assumption | exact EntBox.of_cells (e := e) (by assumption) (below_alloc1 _ _))
      (first
        | (go_at_call 38; (first | (with_reducible refine (s1 _).mono ?_) | (with_reducible refine (s2 _).mono ?_) | (with_reducible refine (s3 _).mono ?_)); rintro x w2 ⟨rfl, hb2⟩; have hS2 := EntBox.of_cells (e := e) (by assumption) hb2)
        | (go_at_call 37; refine (join4 (sixL a) (sixL b) (sixL c) [48 + UInt8.ofNat e.kind.toNat] w2 _ (by rw [sixL_len]; omega) (by rw [sixL_len]; omega) (by rw [sixL_len]; omega) (by simp)).mono ?_; rintro x w3 ⟨rfl, hb3⟩; have hS3 := EntBox.of_cells (e := e) (by assumption) hb3))
    rename_i hHeld
    clear hHeld
    go_wp2_with fail
    go_ret
    exact ⟨ret_str (by rw [H.out]; simp [keyL, HA.out, HB.out, HC.out, UInt8.ofNat_add]), hS3.1⟩
  · have hr : keyV e = [] := by unfold keyV; rw [if_neg h0]
    have hne : (chkV e != 0) = true := by simpa using h0
    have H := Lib.hid hr
    clear hr h0
    go_enter Tryd.func14, Tryd.ntmps14
    go_wp2_with fail
    refine (hc _).mono ?_
    rintro x w1 ⟨rfl, hb1⟩
    go_wp2_with fail
    go_ret
    exact ⟨ret_str (by rw [H.out]), (below_alloc1 w _).trans (hb1.mono (by simp))⟩
end Go.Proofs.YtnkbelbalaeieaaDoor
