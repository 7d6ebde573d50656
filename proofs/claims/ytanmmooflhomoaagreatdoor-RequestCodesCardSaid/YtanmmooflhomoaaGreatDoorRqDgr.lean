/- The reference's digest. -/
import Derived.Test.YtanmmooflhomoaaGreatDoorRqDof
import Derived.Test.YtanmmooflhomoaaGreatDoorPiece
import Derived.Deep.RegionHeld3
namespace Go.Proofs.YtanmmooflhomoaaGreatDoor
open Go Go.RowKit Go.Sort Go.Lib

set_option maxHeartbeats 2000000 in
set_option maxRecDepth 100000 in
theorem eight_any (n : Nat) (hn : n < 9223372036854775808) (w : World) :
    Calls Tryz.prog 60 #[.int .i64 n] w fun e w' => e = .returned (.string ⟨(be8 n).toArray⟩) ∧ Below w.heap.size w w' := by
  go_enter Tryz.func60, Tryz.ntmps60
  go_wp2_with fail
  refine wp_loop_rounds 9 ?_
  rw [rounds_succ]; go_wp2_with fail
  rw [rounds_succ]; go_wp2_with fail
  rw [rounds_succ]; go_wp2_with fail
  rw [rounds_succ]; go_wp2_with fail
  rw [rounds_succ]; go_wp2_with fail
  rw [rounds_succ]; go_wp2_with fail
  rw [rounds_succ]; go_wp2_with fail
  rw [rounds_succ]; go_wp2_with fail
  have hcv := fun x0 x1 x2 x3 x4 x5 x6 x7 => conv_bytes8 w w.heap.size x0 x1 x2 x3 x4 x5 x6 x7 118 rfl
  rw [rounds_succ]; go_wp2_with fail
  go_ret
  refine ⟨ret_str (ba_ext ?_), below_alloc1 _ _⟩
  show _ = be8 n
  simp [be8, ofNat_mod, Nat.div_div_eq_div_mul]
theorem dgX_in (l : List UInt8) : ∀ a, 0 ≤ a ∧ a ≤ 2147483647 → 0 ≤ dgX l a ∧ dgX l a ≤ 2147483647 := by
  induction l with
  | nil => exact fun a h => h
  | cons c l ih => exact fun a h => ih ((69621 * a + c.toNat + 1) % 2147483647) (by omega)
theorem dgY_in (l : List UInt8) : ∀ a, 0 ≤ a ∧ a ≤ 2147483647 → 0 ≤ dgY l a ∧ dgY l a ≤ 2147483647 := by
  induction l with
  | nil => exact fun a h => h
  | cons c l ih => exact fun a h => ih ((45991 * a + c.toNat + 1) % 2147483629) (by omega)
/-- The last four bytes of both numbers are the eight bytes of the joined one. -/
theorem be8_join (X Y : Nat) (_hX : X < 4294967296) (hY : Y < 4294967296) : (be8 X).drop 4 ++ (be8 Y).drop 4 = be8 (X * 4294967296 + Y) := by
  have h : ∀ a b : Nat, a % 256 = b % 256 → UInt8.ofNat a = UInt8.ofNat b := fun a b e => by rw [← ofNat_mod a, ← ofNat_mod b, e]
  unfold be8
  simp only [List.drop_succ_cons, List.drop_zero, List.cons_append, List.nil_append, List.cons.injEq, and_true]
  refine ⟨h _ _ ?_, h _ _ ?_, h _ _ ?_, h _ _ ?_, h _ _ ?_, h _ _ ?_, h _ _ ?_, h _ _ ?_⟩ <;> omega
set_option maxHeartbeats 2000000 in
set_option maxRecDepth 100000 in
theorem refOf_any (p : ByteArray) (hp : p.size ≤ 1000000000) (w : World) :
    Calls Tryz.prog 29 #[.string p] w fun e w' => e = .returned (.string ⟨(dg p.data.toList).toArray⟩) ∧ Below w.heap.size w w' := by
  have HPS := Lib.hid (ba_size p)
  go_enter Tryz.func29, Tryz.ntmps29
  go_wp2_with fail
  go_loopw [3, 4, 5] (fun x y i w2 => ∃ (j : Nat) (X2 Y2 : Int), j ≤ p.size ∧ i = .int .i64 j ∧ x = .int .i64 X2 ∧ y = .int .i64 Y2 ∧ (0 ≤ X2 ∧ X2 ≤ 2147483647) ∧ (0 ≤ Y2 ∧ Y2 ≤ 2147483647) ∧ Hid (X2 = dgX (p.data.toList.take j) 11 ∧ Y2 = dgY (p.data.toList.take j) 17) ∧ w2 = w) (fun _ _ i _ => p.size - (RowKit.intOf i).toNat)
  case atStart => exact ⟨0, 11, 17, Nat.zero_le _, rfl, rfl, rfl, by omega, by omega, Lib.hid (by simp [dgX, dgY]), rfl⟩
  case round =>
    obtain ⟨j, X2, Y2, hj, rfl, rfl, rfl, hX2, hY2, HD2, rfl⟩ := hrel
    by_cases hjl : j < p.size
    · have hjl2 : j < p.data.toList.length := by rw [← HPS.out]; exact hjl
      have hji : (j : Int) < p.size := by omega
      obtain ⟨d, hd⟩ : ∃ d, p.data.toList[j] = d := ⟨_, rfl⟩
      have hg : ∀ h : j < p.size, p[j]'h = d := fun h => hd
      have hd8 := UInt8.toNat_lt d
      have HT : Hid (p.data.toList.take (j + 1) = p.data.toList.take j ++ [d]) := Lib.hid (by rw [List.take_add_one, List.getElem?_eq_getElem hjl2, hd]; rfl)
      have a1 : IntKind.i64.wrap (69621 * X2) = 69621 * X2 := IntWalk.i64_in _ (by omega)
      have a2 : IntKind.i64.wrap (69621 * X2 + d.toNat) = 69621 * X2 + d.toNat := IntWalk.i64_in _ (by omega)
      have a3 : IntKind.i64.wrap (69621 * X2 + d.toNat + 1) = 69621 * X2 + d.toNat + 1 := IntWalk.i64_in _ (by omega)
      have a4 : (69621 * X2 + d.toNat + 1).tmod 2147483647 = (69621 * X2 + d.toNat + 1) % 2147483647 := Int.tmod_eq_emod_of_nonneg (by omega)
      have b1 : IntKind.i64.wrap (45991 * Y2) = 45991 * Y2 := IntWalk.i64_in _ (by omega)
      have b2 : IntKind.i64.wrap (45991 * Y2 + d.toNat) = 45991 * Y2 + d.toNat := IntWalk.i64_in _ (by omega)
      have b3 : IntKind.i64.wrap (45991 * Y2 + d.toNat + 1) = 45991 * Y2 + d.toNat + 1 := IntWalk.i64_in _ (by omega)
      have b4 : (45991 * Y2 + d.toNat + 1).tmod 2147483629 = (45991 * Y2 + d.toNat + 1) % 2147483629 := Int.tmod_eq_emod_of_nonneg (by omega)
      have HN : Hid ((69621 * X2 + d.toNat + 1) % 2147483647 = dgX (p.data.toList.take (j + 1)) 11 ∧ (45991 * Y2 + d.toNat + 1) % 2147483629 = dgY (p.data.toList.take (j + 1)) 17) := Lib.hid (by
        rw [HT.out, dgX_app, dgY_app, ← HD2.out.1, ← HD2.out.2]; exact ⟨rfl, rfl⟩)
      have c1 := Int.emod_nonneg (69621 * X2 + d.toNat + 1) (show (2147483647 : Int) ≠ 0 by decide)
      have c2 := Int.emod_lt_of_pos (69621 * X2 + d.toNat + 1) (show (0 : Int) < 2147483647 by decide)
      have c3 := Int.emod_nonneg (45991 * Y2 + d.toNat + 1) (show (2147483629 : Int) ≠ 0 by decide)
      have c4 := Int.emod_lt_of_pos (45991 * Y2 + d.toNat + 1) (show (0 : Int) < 2147483629 by decide)
      clear hd hjl2
      go_wp2_with fail
      go_roundw
      case rel => exact ⟨j + 1, _, _, by omega, by go_num, rfl, rfl, by omega, by omega, HN, by first | rfl | trivial⟩
      case measure => simp [RowKit.intOf]; omega
    · obtain rfl : j = p.size := by omega
      obtain ⟨X', rfl⟩ : ∃ n : Nat, X2 = n := ⟨X2.toNat, by omega⟩
      obtain ⟨Y', rfl⟩ : ∃ n : Nat, Y2 = n := ⟨Y2.toNat, by omega⟩
      have HE : Hid ((be8 X').drop 4 ++ (be8 Y').drop 4 = dg p.data.toList) := Lib.hid (by
        have h := HD2.out
        rw [HPS.out, List.take_length] at h
        unfold dg
        rw [← h.1, ← h.2, be8_join X' Y' (by omega) (by omega)]
        congr 1)
      have e1 := fun w => eight_any X' (by omega) w
      have e2 := fun w => eight_any Y' (by omega) w
      have hz1 : (⟨(be8 X').toArray⟩ : ByteArray).size = 8 := rfl
      have hz2 : (⟨(be8 Y').toArray⟩ : ByteArray).size = 8 := rfl
      have hx1 : (⟨(be8 X').toArray⟩ : ByteArray).extract 4 8 = ⟨((be8 X').drop 4).toArray⟩ := ba_ext rfl
      have hx2 : (⟨(be8 Y').toArray⟩ : ByteArray).extract 4 8 = ⟨((be8 Y').drop 4).toArray⟩ := ba_ext rfl
      have hl1 : ((be8 X').drop 4).length = 4 := rfl
      have hl2 : ((be8 Y').drop 4).length = 4 := rfl
      generalize be8 X' = P at HE e1 hz1 hx1 hl1
      generalize be8 Y' = R at HE e2 hz2 hx2 hl2
      generalize P.drop 4 = P4 at HE hx1 hl1
      generalize R.drop 4 = R4 at HE hx2 hl2
      have hcat : ¬ 9223372036854775807 < P4.length + R4.length := by omega
      have hd0 : Below wr.heap.size wr wr.drew := (Below.refl _ _).drew
      clear HD2 hX2 hY2
      go_wp2_with fail
      refine of_onlyN ?_ (fun _ _ h => h)
      conv => arg 2; whnf
      go_region_held3 (fun w' => Below wr.heap.size wr w') (first | exact hd0 | assumption)
        (first
          | ((with_reducible refine (e1 _).mono ?_); rintro _ w3 ⟨rfl, hb3⟩; have hS1 : Below wr.heap.size wr w3 := hd0.trans (hb3.mono hd0.size))
          | ((with_reducible refine (e2 _).mono ?_); rintro _ w4 ⟨rfl, hb4⟩; have hS2 : Below wr.heap.size wr w4 := hS1.trans (hb4.mono hS1.size)))
      simp only [OnlyN]
      go_wp2_with fail
      go_ret
      exact ⟨ret_str (by rw [← HE.out]; exact ba_ext (by simp)), hS2⟩
end Go.Proofs.YtanmmooflhomoaaGreatDoor
