/- The reference's decimal, Int, Text: each walked once. -/
import Derived.Test.YtnkbelbalaeieaaDoorWire
import Derived.Test.YtnkbelbalaeieaaDoorEnt
namespace Go.Proofs.YtnkbelbalaeieaaDoor
open Go Go.RowKit Go.Sort
attribute [local go_sem] conv_bytes1

theorem itoa_pos {n : Int} (h : 0 ≤ n) : Lib.itoa n = Lib.decDigits n.toNat := by unfold Lib.itoa; rw [if_neg (by omega)]
theorem itoa_neg {n : Int} (h : n < 0) : Lib.itoa n = 45 :: Lib.decDigits (-n).toNat := by unfold Lib.itoa; rw [if_pos h]; congr 2; omega
theorem dec_small {n : Int} (h : 0 ≤ n) (h2 : n < 10) : Lib.itoa n = [UInt8.ofNat (48 + n).toNat] := by
  rw [itoa_pos h, Lib.decDigits, dif_pos (by omega)]
  have : (48 + n).toNat = 48 + n.toNat := by omega
  rw [this]
theorem dec_step {n : Int} (h : 10 ≤ n) : Lib.itoa n = Lib.itoa (n / 10) ++ Lib.itoa (n % 10) := by
  rw [itoa_pos (by omega), itoa_pos (by omega), dec_small (by omega) (by omega), Lib.decDigits, dif_neg (by omega)]
  have h1 : n.toNat / 10 = (n / 10).toNat := by omega
  have h2 : 48 + n.toNat % 10 = (48 + n % 10).toNat := by omega
  rw [h1, h2]
theorem dec_neg1 {m : Int} (h : 0 < m) (h2 : m < 10) : Lib.itoa (-m) = 45 :: Lib.itoa m := by
  rw [itoa_neg (by omega), itoa_pos (by omega), Int.neg_neg]
theorem dec_negs {m : Int} (h : 10 ≤ m) : Lib.itoa (-m) = Lib.itoa (-(m / 10)) ++ Lib.itoa (m % 10) := by
  rw [itoa_neg (by omega), itoa_neg (by omega), Int.neg_neg, Int.neg_neg, ← itoa_pos (by omega), dec_step h, itoa_pos (by omega)]
  rfl

set_option maxRecDepth 100000 in
theorem decimal_pos (k : Nat) : ∀ (n : Int) (w : World), 0 ≤ n → n < k → n ≤ 9223372036854775807 →
    Calls Tryd.prog 84 #[.int .i64 n] w fun e w' => e = .returned (.string ⟨(Lib.itoa n).toArray⟩) ∧ Below w.heap.size w w' := by
  induction k with
  | zero => intro n w h0 h1 _; omega
  | succ k ih =>
    intro n w h0 h1 h2
    by_cases hs : n < 10
    · have hw : IntKind.i64.wrap (48 + n) = 48 + n := IntWalk.i64_in _ (by omega)
      have H := Lib.hid (dec_small h0 hs)
      go_enter Tryd.func84, Tryd.ntmps84
      go_wp2_with fail
      go_ret
      exact ⟨ret_str (by rw [H.out]), below_alloc1 _ _⟩
    · have hl1 := Lib.itoa_length_le (n / 10) (by omega) (by omega)
      have hl2 := Lib.itoa_length_le (n % 10) (by omega) (by omega)
      have H := Lib.hid (dec_step (n := n) (by omega))
      have c1 := fun w => ih (n / 10) w (by omega) (by omega) (by omega)
      have c2 := fun w => ih (n % 10) w (by omega) (by omega) (by omega)
      clear ih
      go_enter Tryd.func84, Tryd.ntmps84
      go_wp2_with fail
      refine (c1 _).mono ?_
      rintro x w1 ⟨rfl, hb1⟩
      go_wp2_with fail
      refine (c2 _).mono ?_
      rintro x w2 ⟨rfl, hb2⟩
      go_wp2_with fail
      go_ret
      exact ⟨ret_str (ba_ext (by simp [H.out])), hb1.trans (hb2.mono hb1.size)⟩

set_option maxRecDepth 100000 in
theorem decimal_neg (k : Nat) : ∀ (m : Int) (w : World), 0 < m → m < k → m ≤ 9223372036854775808 →
    Calls Tryd.prog 84 #[.int .i64 (-m)] w fun e w' => e = .returned (.string ⟨(Lib.itoa (-m)).toArray⟩) ∧ Below w.heap.size w w' := by
  induction k with
  | zero => intro m w h0 h1 _; omega
  | succ k ih =>
    intro m w h0 h1 h2
    have e1 : (-m).tmod 10 = -(m % 10) := by rw [Int.neg_tmod, Int.tmod_eq_emod_of_nonneg (by omega)]
    have e2 : (-m).tdiv 10 = -(m / 10) := by rw [Int.neg_tdiv, Int.tdiv_eq_ediv_of_nonneg (by omega)]
    have c2 := fun w => decimal_pos 10 (m % 10) w (by omega) (by omega) (by omega)
    have hl2 := Lib.itoa_length_le (m % 10) (by omega) (by omega)
    by_cases hs : m < 10
    · have H := Lib.hid (dec_neg1 h0 hs)
      have e3 : m % 10 = m := by omega
      have e4 : m / 10 = 0 := by omega
      rw [e3] at e1 c2 hl2
      rw [e4] at e2
      clear e3 e4 ih
      go_enter Tryd.func84, Tryd.ntmps84
      go_wp2_with fail
      refine (c2 _).mono ?_
      rintro x w1 ⟨rfl, hb1⟩
      go_wp2_with fail
      go_ret
      exact ⟨ret_str (ba_ext (by simp [H.out])), hb1⟩
    · have hl1 := Lib.itoa_length_le (-(m / 10)) (by omega) (by omega)
      have H := Lib.hid (dec_negs (m := m) (by omega))
      have c1 := fun w => ih (m / 10) w (by omega) (by omega) (by omega)
      clear ih
      go_enter Tryd.func84, Tryd.ntmps84
      go_wp2_with fail
      refine (c1 _).mono ?_
      rintro x w1 ⟨rfl, hb1⟩
      go_wp2_with fail
      refine (c2 _).mono ?_
      rintro x w2 ⟨rfl, hb2⟩
      go_wp2_with fail
      go_ret
      exact ⟨ret_str (ba_ext (by simp [H.out])), hb1.trans (hb2.mono hb1.size)⟩

theorem decimal_any (n : Int) (w : World) (h : I64 n) :
    Calls Tryd.prog 84 #[.int .i64 n] w fun e w' => e = .returned (.string ⟨(Lib.itoa n).toArray⟩) ∧ Below w.heap.size w w' := by
  unfold I64 at h
  by_cases hn : 0 ≤ n
  · exact decimal_pos (n.toNat + 1) n w hn (by omega) (by omega)
  · have := decimal_neg ((-n).toNat + 1) (-n) w (by omega) (by omega) (by omega)
    rwa [Int.neg_neg] at this

theorem refInt_any (n : Int) (w : World) (h : I64 n) :
    Calls Tryd.prog 55 #[.int .i64 n] w fun e w' => e = .returned (.string ⟨(wInt n).toArray⟩) ∧ Below w.heap.size w w' := by
  have hl := Lib.itoa_length_le n h.1 h.2
  go_enter Tryd.func55, Tryd.ntmps55
  go_wp2_with fail
  refine (decimal_any n _ h).mono ?_
  rintro x w1 ⟨rfl, hb⟩
  go_wp2_with fail
  go_ret
  exact ⟨ret_str (ba_ext (by simp [wInt])), hb⟩

theorem refText_any (s : ByteArray) (w : World) (hs : s.size ≤ 1000000) :
    Calls Tryd.prog 56 #[.string s] w fun e w' => e = .returned (.string ⟨(wText s).toArray⟩) ∧ Below w.heap.size w w' := by
  have hl := Lib.itoa_length_le s.size (by omega) (by omega)
  have hi : I64 (s.size : Int) := by unfold I64; omega
  go_enter Tryd.func56, Tryd.ntmps56
  go_wp2_with fail
  refine (decimal_any _ _ hi).mono ?_
  rintro x w1 ⟨rfl, hb⟩
  go_wp2_with fail
  go_ret
  exact ⟨ret_str (ba_ext (by simp [wText])), hb⟩
end Go.Proofs.YtnkbelbalaeieaaDoor
