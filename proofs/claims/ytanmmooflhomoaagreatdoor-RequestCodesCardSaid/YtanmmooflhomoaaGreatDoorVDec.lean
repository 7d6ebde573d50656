/- The reference's decimal, Int and Text: each walked once. -/
import Derived.Test.YtanmmooflhomoaaGreatDoorVNum
namespace Go.Proofs.YtanmmooflhomoaaGreatDoor.Wr
open Go Go.RowKit Go.Sort Go.Lib
attribute [local go_sem] conv_bytes1

theorem dec_small {n : Int} (h : 0 ≤ n) (h2 : n < 10) : itoa n = [UInt8.ofNat (48 + n).toNat] := by
  rcases itoa_cases n with ⟨_, e⟩ | ⟨h0, _⟩
  · rw [e, decDigits, dif_pos (by omega)]
    have : (48 + n).toNat = 48 + n.toNat := by omega
    rw [this]
  · omega
theorem dec_step {n : Int} (h : 10 ≤ n) : itoa n = itoa (n / 10) ++ itoa (n % 10) := by
  rcases itoa_cases n with ⟨_, e⟩ | ⟨h0, _⟩
  · rw [e, decDigits_step (by omega), dec_small (n := n % 10) (by omega) (by omega)]
    rcases itoa_cases (n / 10) with ⟨_, e2⟩ | ⟨h0, _⟩
    · rw [e2]
      have h1 : n.toNat / 10 = (n / 10).toNat := by omega
      have h2 : 48 + n.toNat % 10 = (48 + n % 10).toNat := by omega
      rw [h1, h2]
    · omega
  · omega
theorem dec_neg {n : Int} (h : n < 0) : itoa n = 45 :: itoa (-n) := by
  rcases itoa_cases n with ⟨_, _⟩ | ⟨_, e⟩
  · omega
  · rcases itoa_cases (-n) with ⟨_, e2⟩ | ⟨_, _⟩
    · rw [e, e2]
    · omega
theorem tdiv_neg10 {n : Int} (h : n < 0) : n.tdiv 10 = -((-n) / 10) := by
  have : n.tdiv 10 = -((-n).tdiv 10) := by rw [Int.neg_tdiv, Int.neg_neg]
  rw [this, Int.tdiv_eq_ediv_of_nonneg (by omega)]
theorem tmod_neg10 {n : Int} (h : n < 0) : n.tmod 10 = -((-n) % 10) := by
  have : n.tmod 10 = -((-n).tmod 10) := by rw [Int.neg_tmod, Int.neg_neg]
  rw [this, Int.tmod_eq_emod_of_nonneg (by omega)]
theorem dec_stepN {n : Int} (h : n ≤ -10) : itoa n = itoa (n.tdiv 10) ++ itoa (-(n.tmod 10)) := by
  rw [tdiv_neg10 (by omega), tmod_neg10 (by omega), dec_neg (n := n) (by omega), dec_step (n := -n) (by omega), dec_neg (n := -(-n / 10)) (by omega)]
  simp
theorem refDec_small (n : Int) (w : World) (hn : 0 ≤ n) (hs : n < 10) :
    Calls Tryz.prog 65 #[.int .i64 n] w fun e w' => e = .returned (.string ⟨(itoa n).toArray⟩) ∧ RowKit.Below w.heap.size w w' := by
  have hw : IntKind.i64.wrap (48 + n) = 48 + n := IntWalk.i64_in _ (by omega)
  have H := Lib.hid (dec_small hn hs)
  go_enter Tryz.func65, Tryz.ntmps65
  go_wp2_with fail
  go_ret
  exact ⟨ret_str (by rw [H.out]), below_alloc1 _ _⟩
set_option maxRecDepth 100000 in
theorem refDec_all (k : Nat) : ∀ (n : Int) (w : World), n.natAbs < k → -9223372036854775808 ≤ n → n ≤ 9223372036854775807 →
    Calls Tryz.prog 65 #[.int .i64 n] w fun e w' => e = .returned (.string ⟨(itoa n).toArray⟩) ∧ RowKit.Below w.heap.size w w' := by
  induction k with
  | zero => intro n w h0; omega
  | succ k ih =>
    intro n w h1 h2 h3
    by_cases hn : 0 ≤ n
    · by_cases hs : n < 10
      · exact refDec_small n w hn hs
      · have hl1 := Lib.itoa_length_le (n / 10) (by omega) (by omega)
        have hl2 := Lib.itoa_length_le (n % 10) (by omega) (by omega)
        have H := Lib.hid (dec_step (n := n) (by omega))
        have e1 : n.tdiv 10 = n / 10 := Int.tdiv_eq_ediv_of_nonneg hn
        have e2 : n.tmod 10 = n % 10 := Int.tmod_eq_emod_of_nonneg hn
        have c1 := fun w => ih (n / 10) w (by omega) (by omega) (by omega)
        have c2 := fun w => ih (n % 10) w (by omega) (by omega) (by omega)
        clear ih
        go_enter Tryz.func65, Tryz.ntmps65
        go_wp2_with fail
        refine (c1 _).mono ?_
        rintro x w1 ⟨rfl, hb1⟩
        go_wp2_with fail
        refine (c2 _).mono ?_
        rintro x w2 ⟨rfl, hb2⟩
        go_wp2_with fail
        go_ret
        exact ⟨ret_str (ba_ext (by simp [H.out])), below_next hb1 hb2⟩
    · have hn' : n < 0 := by omega
      have t1 := tdiv_neg10 hn'
      have t2 := tmod_neg10 hn'
      by_cases hs : -10 < n
      · have z : n.tdiv 10 = 0 := by omega
        have e : n.tmod 10 = n := by omega
        have hw : IntKind.i64.wrap (-n) = -n := IntWalk.i64_in _ (by omega)
        have H := Lib.hid (dec_neg hn')
        have hl := Lib.itoa_length_le (-n) (by omega) (by omega)
        have c := fun w => refDec_small (-n) w (by omega) (by omega)
        clear t1 t2 ih
        go_enter Tryz.func65, Tryz.ntmps65
        go_wp2_with fail
        refine (c _).mono ?_
        rintro x w1 ⟨rfl, hb1⟩
        go_wp2_with fail
        go_ret
        exact ⟨ret_str (ba_ext (by simp [H.out])), hb1⟩
      · have hl1 := Lib.itoa_length_le (n.tdiv 10) (by omega) (by omega)
        have hl2 := Lib.itoa_length_le (-(n.tmod 10)) (by omega) (by omega)
        have H := Lib.hid (dec_stepN (n := n) (by omega))
        have z : ¬ n.tdiv 10 = 0 := by omega
        have hw : IntKind.i64.wrap (-(n.tmod 10)) = -(n.tmod 10) := IntWalk.i64_in _ (by omega)
        have c1 := fun w => ih (n.tdiv 10) w (by omega) (by omega) (by omega)
        have c2 := fun w => refDec_small (-(n.tmod 10)) w (by omega) (by omega)
        clear ih t1 t2
        go_enter Tryz.func65, Tryz.ntmps65
        go_wp2_with fail
        refine (c1 _).mono ?_
        rintro x w1 ⟨rfl, hb1⟩
        go_wp2_with fail
        refine (c2 _).mono ?_
        rintro x w2 ⟨rfl, hb2⟩
        go_wp2_with fail
        go_ret
        exact ⟨ret_str (ba_ext (by simp [H.out])), below_next hb1 hb2⟩
theorem refDec_any (n : Int) (h0 : -9223372036854775808 ≤ n) (h1 : n ≤ 9223372036854775807) (w : World) :
    Calls Tryz.prog 65 #[.int .i64 n] w fun e w' => e = .returned (.string ⟨(itoa n).toArray⟩) ∧ RowKit.Below w.heap.size w w' :=
  refDec_all (n.natAbs + 1) n w (by omega) h0 h1
theorem refInt_any (n : Int) (h0 : -9223372036854775808 ≤ n) (h1 : n ≤ 9223372036854775807) (w : World) :
    Calls Tryz.prog 41 #[.int .i64 n] w fun e w' => e = .returned (.string ⟨(wInt n).toArray⟩) ∧ RowKit.Below w.heap.size w w' := by
  have hl := Lib.itoa_length_le n h0 h1
  have c := fun w => refDec_any n h0 h1 w
  go_enter Tryz.func41, Tryz.ntmps41
  go_wp2_with fail
  refine (c _).mono ?_
  rintro x w1 ⟨rfl, hb1⟩
  go_wp2_with fail
  go_ret
  exact ⟨ret_str (ba_ext (by simp [wInt])), hb1⟩
theorem refText_any (s : ByteArray) (hs : s.size ≤ 1000000) (w : World) :
    Calls Tryz.prog 42 #[.string s] w fun e w' => e = .returned (.string ⟨(wText s).toArray⟩) ∧ RowKit.Below w.heap.size w w' := by
  have hl := Lib.itoa_length_le s.size (by omega) (by omega)
  have c := fun w => refDec_any s.size (by omega) (by omega) w
  go_enter Tryz.func42, Tryz.ntmps42
  go_wp2_with fail
  refine (c _).mono ?_
  rintro x w1 ⟨rfl, hb1⟩
  go_wp2_with fail
  go_ret
  exact ⟨ret_str (ba_ext (by simp [wText])), hb1⟩
end Go.Proofs.YtanmmooflhomoaaGreatDoor.Wr
