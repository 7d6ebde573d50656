/- The reference's decimal of keys: walked once. -/
import Derived.Test.YtnkbelbalaeieaaDoorRefW
import Derived.Test.YtnkbelbalaeieaaDoorDgr
namespace Go.Proofs.YtnkbelbalaeieaaDoor
open Go Go.RowKit Go.Sort
attribute [local go_sem] conv_bytes1

set_option maxRecDepth 100000 in
theorem keyDec_pos (k : Nat) : ∀ (n : Int) (w : World), 0 ≤ n → n < k → n ≤ 9223372036854775807 →
    Calls Tryd.prog 103 #[.int .i64 n] w fun e w' => e = .returned (.string ⟨(Lib.itoa n).toArray⟩) ∧ Below w.heap.size w w' := by
  induction k with
  | zero => intro n w h0 h1 _; omega
  | succ k ih =>
    intro n w h0 h1 h2
    by_cases hs : n < 10
    · have hw : IntKind.i64.wrap (48 + n) = 48 + n := IntWalk.i64_in _ (by omega)
      have H := Lib.hid (dec_small h0 hs)
      go_enter Tryd.func103, Tryd.ntmps103
      go_wp2_with fail
      go_ret
      exact ⟨ret_str (by rw [H.out]), below_alloc1 _ _⟩
    · have hl1 := Lib.itoa_length_le (n / 10) (by omega) (by omega)
      have hl2 := Lib.itoa_length_le (n % 10) (by omega) (by omega)
      have H := Lib.hid (dec_step (n := n) (by omega))
      have c1 := fun w => ih (n / 10) w (by omega) (by omega) (by omega)
      have c2 := fun w => ih (n % 10) w (by omega) (by omega) (by omega)
      clear ih
      go_enter Tryd.func103, Tryd.ntmps103
      go_wp2_with fail
      refine (c1 _).mono ?_
      rintro x w1 ⟨rfl, hb1⟩
      go_wp2_with fail
      refine (c2 _).mono ?_
      rintro x w2 ⟨rfl, hb2⟩
      go_wp2_with fail
      go_ret
      exact ⟨ret_str (ba_ext (by simp [H.out])), hb1.trans (hb2.mono hb1.size)⟩

set_option maxRecDepth 100000 in
theorem keyDec_neg (k : Nat) : ∀ (m : Int) (w : World), 0 < m → m < k → m ≤ 9223372036854775808 →
    Calls Tryd.prog 103 #[.int .i64 (-m)] w fun e w' => e = .returned (.string ⟨(Lib.itoa (-m)).toArray⟩) ∧ Below w.heap.size w w' := by
  induction k with
  | zero => intro m w h0 h1 _; omega
  | succ k ih =>
    intro m w h0 h1 h2
    have e1 : (-m).tmod 10 = -(m % 10) := by rw [Int.neg_tmod, Int.tmod_eq_emod_of_nonneg (by omega)]
    have e2 : (-m).tdiv 10 = -(m / 10) := by rw [Int.neg_tdiv, Int.tdiv_eq_ediv_of_nonneg (by omega)]
    have c2 := fun w => keyDec_pos 10 (m % 10) w (by omega) (by omega) (by omega)
    have hl2 := Lib.itoa_length_le (m % 10) (by omega) (by omega)
    by_cases hs : m < 10
    · have H := Lib.hid (dec_neg1 h0 hs)
      have e3 : m % 10 = m := by omega
      have e4 : m / 10 = 0 := by omega
      rw [e3] at e1 c2 hl2
      rw [e4] at e2
      clear e3 e4 ih
      go_enter Tryd.func103, Tryd.ntmps103
      go_wp2_with fail
      refine (c2 _).mono ?_
      rintro x w1 ⟨rfl, hb1⟩
      go_wp2_with fail
      go_ret
      exact ⟨ret_str (ba_ext (by simp [H.out])), hb1⟩
    · have hl1 := Lib.itoa_length_le (-(m / 10)) (by omega) (by omega)
      have H := Lib.hid (dec_negs (m := m) (by omega))
      have c1 := fun w => ih (m / 10) w (by omega) (by omega) (by omega)
      clear ih
      go_enter Tryd.func103, Tryd.ntmps103
      go_wp2_with fail
      refine (c1 _).mono ?_
      rintro x w1 ⟨rfl, hb1⟩
      go_wp2_with fail
      refine (c2 _).mono ?_
      rintro x w2 ⟨rfl, hb2⟩
      go_wp2_with fail
      go_ret
      exact ⟨ret_str (ba_ext (by simp [H.out])), hb1.trans (hb2.mono hb1.size)⟩

theorem keyDec_any (n : Int) (w : World) (h : I64 n) :
    Calls Tryd.prog 103 #[.int .i64 n] w fun e w' => e = .returned (.string ⟨(Lib.itoa n).toArray⟩) ∧ Below w.heap.size w w' := by
  unfold I64 at h
  by_cases hn : 0 ≤ n
  · exact keyDec_pos (n.toNat + 1) n w hn (by omega) (by omega)
  · have := keyDec_neg ((-n).toNat + 1) (-n) w (by omega) (by omega) (by omega)
    rwa [Int.neg_neg] at this
end Go.Proofs.YtnkbelbalaeieaaDoor
