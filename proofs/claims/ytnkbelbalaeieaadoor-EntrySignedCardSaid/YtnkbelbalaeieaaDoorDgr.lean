/- The reference's Of and both Marks: each walked once. -/
import Derived.Test.YtnkbelbalaeieaaDoorDgo
import Derived.Test.YtnkbelbalaeieaaDoorPiece
import Derived.Deep.RegionHeld3
namespace Go.Proofs.YtnkbelbalaeieaaDoor
open Go Go.RowKit Go.Sort Go.Lib

/-- A digest. -/
def dg (l : List UInt8) : List UInt8 := be8 (dgX l 11 * 4294967296 + dgY l 17).toNat
theorem dgX_in (l : List UInt8) : ∀ a, 0 ≤ a ∧ a ≤ 2147483647 → 0 ≤ dgX l a ∧ dgX l a ≤ 2147483647 := by
  induction l with
  | nil => exact fun a h => h
  | cons c l ih => exact fun a h => ih ((69621 * a + c.toNat + 1) % 2147483647) (by omega)
theorem dgY_in (l : List UInt8) : ∀ a, 0 ≤ a ∧ a ≤ 2147483647 → 0 ≤ dgY l a ∧ dgY l a ≤ 2147483647 := by
  induction l with
  | nil => exact fun a h => h
  | cons c l ih => exact fun a h => ih ((45991 * a + c.toNat + 1) % 2147483629) (by omega)
/-- The last four bytes of both numbers are the eight bytes of the joined one. -/
theorem be8_join (X Y : Nat) (_hX : X < 4294967296) (hY : Y < 4294967296) : (be8 X).drop 4 ++ (be8 Y).drop 4 = be8 (X * 4294967296 + Y) := by
  have h : ∀ a b : Nat, a % 256 = b % 256 → UInt8.ofNat a = UInt8.ofNat b := fun a b e => by rw [← ofNat_mod a, ← ofNat_mod b, e]
  unfold be8
  simp only [List.drop_succ_cons, List.drop_zero, List.cons_append, List.nil_append, List.cons.injEq, and_true]
  refine ⟨h _ _ ?_, h _ _ ?_, h _ _ ?_, h _ _ ?_, h _ _ ?_, h _ _ ?_, h _ _ ?_, h _ _ ?_⟩ <;> omega
set_option maxHeartbeats 2000000 in
set_option maxRecDepth 100000 in
theorem refOf_any (p : ByteArray) (hp : p.size ≤ 1000000000) (w : World) :
    Calls Tryd.prog 101 #[.string p] w fun e w' => e = .returned (.string ⟨(dg p.data.toList).toArray⟩) ∧ Below w.heap.size w w' := by
  have HPS := Lib.hid (ba_size p)
  go_enter Tryd.func101, Tryd.ntmps101
  go_wp2_with fail
  go_loopw [3, 4, 5] (fun x y i w2 => ∃ (j : Nat) (X2 Y2 : Int), j ≤ p.size ∧ i = .int .i64 j ∧ x = .int .i64 X2 ∧ y = .int .i64 Y2 ∧ (0 ≤ X2 ∧ X2 ≤ 2147483647) ∧ (0 ≤ Y2 ∧ Y2 ≤ 2147483647) ∧ Hid (X2 = dgX (p.data.toList.take j) 11 ∧ Y2 = dgY (p.data.toList.take j) 17) ∧ w2 = w) (fun _ _ i _ => p.size - (RowKit.intOf i).toNat)
  case atStart => exact ⟨0, 11, 17, Nat.zero_le _, rfl, rfl, rfl, by omega, by omega, Lib.hid (by simp [dgX, dgY]), rfl⟩
  case round =>
    obtain ⟨j, X2, Y2, hj, rfl, rfl, rfl, hX2, hY2, HD2, rfl⟩ := hrel
    by_cases hjl : j < p.size
    · have hjl2 : j < p.data.toList.length := by rw [← HPS.out]; exact hjl
      have hji : (j : Int) < p.size := by omega
      obtain ⟨d, hd⟩ : ∃ d, p.data.toList[j] = d := ⟨_, rfl⟩
      have hg : ∀ h : j < p.size, p[j]'h = d := fun h => hd
      have hd8 := UInt8.toNat_lt d
      have HT : Hid (p.data.toList.take (j + 1) = p.data.toList.take j ++ [d]) := Lib.hid (by rw [List.take_add_one, List.getElem?_eq_getElem hjl2, hd]; rfl)
      have a1 : IntKind.i64.wrap (69621 * X2) = 69621 * X2 := IntWalk.i64_in _ (by omega)
      have a2 : IntKind.i64.wrap (69621 * X2 + d.toNat) = 69621 * X2 + d.toNat := IntWalk.i64_in _ (by omega)
      have a3 : IntKind.i64.wrap (69621 * X2 + d.toNat + 1) = 69621 * X2 + d.toNat + 1 := IntWalk.i64_in _ (by omega)
      have a4 : (69621 * X2 + d.toNat + 1).tmod 2147483647 = (69621 * X2 + d.toNat + 1) % 2147483647 := Int.tmod_eq_emod_of_nonneg (by omega)
      have b1 : IntKind.i64.wrap (45991 * Y2) = 45991 * Y2 := IntWalk.i64_in _ (by omega)
      have b2 : IntKind.i64.wrap (45991 * Y2 + d.toNat) = 45991 * Y2 + d.toNat := IntWalk.i64_in _ (by omega)
      have b3 : IntKind.i64.wrap (45991 * Y2 + d.toNat + 1) = 45991 * Y2 + d.toNat + 1 := IntWalk.i64_in _ (by omega)
      have b4 : (45991 * Y2 + d.toNat + 1).tmod 2147483629 = (45991 * Y2 + d.toNat + 1) % 2147483629 := Int.tmod_eq_emod_of_nonneg (by omega)
      have HN : Hid ((69621 * X2 + d.toNat + 1) % 2147483647 = dgX (p.data.toList.take (j + 1)) 11 ∧ (45991 * Y2 + d.toNat + 1) % 2147483629 = dgY (p.data.toList.take (j + 1)) 17) := Lib.hid (by
        rw [HT.out, dgX_app, dgY_app, ← HD2.out.1, ← HD2.out.2]; exact ⟨rfl, rfl⟩)
      have c1 := Int.emod_nonneg (69621 * X2 + d.toNat + 1) (show (2147483647 : Int) ≠ 0 by decide)
      have c2 := Int.emod_lt_of_pos (69621 * X2 + d.toNat + 1) (show (0 : Int) < 2147483647 by decide)
      have c3 := Int.emod_nonneg (45991 * Y2 + d.toNat + 1) (show (2147483629 : Int) ≠ 0 by decide)
      have c4 := Int.emod_lt_of_pos (45991 * Y2 + d.toNat + 1) (show (0 : Int) < 2147483629 by decide)
      clear hd hjl2
      go_wp2_with fail
      go_roundw
      case rel => exact ⟨j + 1, _, _, by omega, by go_num, rfl, rfl, by omega, by omega, HN, by first | rfl | trivial⟩
      case measure => simp [RowKit.intOf]; omega
    · obtain rfl : j = p.size := by omega
      obtain ⟨X', rfl⟩ : ∃ n : Nat, X2 = n := ⟨X2.toNat, by omega⟩
      obtain ⟨Y', rfl⟩ : ∃ n : Nat, Y2 = n := ⟨Y2.toNat, by omega⟩
      have HE : Hid ((be8 X').drop 4 ++ (be8 Y').drop 4 = dg p.data.toList) := Lib.hid (by
        have h := HD2.out
        rw [HPS.out, List.take_length] at h
        unfold dg
        rw [← h.1, ← h.2, be8_join X' Y' (by omega) (by omega)]
        congr 1)
      have e1 := fun w => eight_any X' (by omega) w
      have e2 := fun w => eight_any Y' (by omega) w
      have hz1 : (⟨(be8 X').toArray⟩ : ByteArray).size = 8 := rfl
      have hz2 : (⟨(be8 Y').toArray⟩ : ByteArray).size = 8 := rfl
      have hx1 : (⟨(be8 X').toArray⟩ : ByteArray).extract 4 8 = ⟨((be8 X').drop 4).toArray⟩ := ba_ext rfl
      have hx2 : (⟨(be8 Y').toArray⟩ : ByteArray).extract 4 8 = ⟨((be8 Y').drop 4).toArray⟩ := ba_ext rfl
      have hl1 : ((be8 X').drop 4).length = 4 := rfl
      have hl2 : ((be8 Y').drop 4).length = 4 := rfl
      generalize be8 X' = P at HE e1 hz1 hx1 hl1
      generalize be8 Y' = R at HE e2 hz2 hx2 hl2
      generalize P.drop 4 = P4 at HE hx1 hl1
      generalize R.drop 4 = R4 at HE hx2 hl2
      have hcat : ¬ 9223372036854775807 < P4.length + R4.length := by omega
      have hd0 : Below wr.heap.size wr wr.drew := (Below.refl _ _).drew
      clear HD2 hX2 hY2
      go_wp2_with fail
      refine of_onlyN ?_ (fun _ _ h => h)
      conv => arg 2; whnf
      go_region_held3 (fun w' => Below wr.heap.size wr w') (first | exact hd0 | assumption)
        (first
          | ((with_reducible refine (e1 _).mono ?_); rintro _ w3 ⟨rfl, hb3⟩; have hS1 : Below wr.heap.size wr w3 := hd0.trans (hb3.mono hd0.size))
          | ((with_reducible refine (e2 _).mono ?_); rintro _ w4 ⟨rfl, hb4⟩; have hS2 : Below wr.heap.size wr w4 := hS1.trans (hb4.mono hS1.size)))
      simp only [OnlyN]
      go_wp2_with fail
      go_ret
      exact ⟨ret_str (by rw [← HE.out]; exact ba_ext (by simp)), hS2⟩
/-- What a mark is made of. -/
def markOf (key msg : ByteArray) : List UInt8 := 2 :: (be8 key.size ++ key.data.toList ++ msg.data.toList ++ key.data.toList)
theorem mark_any (key msg : ByteArray) (hk : key.size ≤ 100000000) (hm : msg.size ≤ 100000000) (w : World) :
    Calls Tryd.prog 85 #[.string key, .string msg] w fun e w' => e = .returned (.string ⟨(dg (markOf key msg)).toArray⟩) ∧ Below w.heap.size w w' := by
  have cn := number_any key.size (by omega) w
  have HJ : Hid (joined [⟨#[2]⟩, ⟨(be8 key.size).toArray⟩, key, msg, key] = markOf key msg) := Lib.hid (by simp [joined, markOf])
  go_enter Tryd.func85, Tryd.ntmps85
  go_wp2_with fail
  refine cn.mono ?_
  rintro _ w2 ⟨rfl, hb⟩
  clear cn
  have hP : PartsAt (w2.alloc (.cells #[.string ⟨#[2]⟩, .string ⟨(be8 key.size).toArray⟩, .string key, .string msg, .string key] 9)) w2.heap.size 0 [⟨#[2]⟩, ⟨(be8 key.size).toArray⟩, key, msg, key] := by
    intro k hk'
    match k, hk' with
    | 0, _ => exact ⟨Lib.cell_of_heap (heap_alloc_new w2 _) 0, by show 1 ≤ 100000000; omega⟩
    | 1, _ => exact ⟨Lib.cell_of_heap (heap_alloc_new w2 _) 1, by show 8 ≤ 100000000; omega⟩
    | 2, _ => exact ⟨Lib.cell_of_heap (heap_alloc_new w2 _) 2, hk⟩
    | 3, _ => exact ⟨Lib.cell_of_heap (heap_alloc_new w2 _) 3, hm⟩
    | 4, _ => exact ⟨Lib.cell_of_heap (heap_alloc_new w2 _) 4, hk⟩
  have co := of_any w2.heap.size 0 5 [⟨#[2]⟩, ⟨(be8 key.size).toArray⟩, key, msg, key] (by simp) _ hP
  rw [HJ.out] at co
  have hba := below_alloc1 w2 (.cells #[.string ⟨#[2]⟩, .string ⟨(be8 key.size).toArray⟩, .string key, .string msg, .string key] 9)
  clear hP
  go_wp2_with fail
  refine co.mono ?_
  rintro _ w3 ⟨rfl, hb3⟩
  go_wp2_with fail
  go_ret
  exact ⟨rfl, hb.trans ((hba.trans (hb3.mono hba.size)).mono hb.size)⟩
theorem refMark_any (key msg : ByteArray) (hk : key.size ≤ 100000000) (hm : msg.size ≤ 100000000) (w : World) :
    Calls Tryd.prog 87 #[.string key, .string msg] w fun e w' => e = .returned (.string ⟨(dg (markOf key msg)).toArray⟩) ∧ Below w.heap.size w w' := by
  have cn := eight_any key.size (by omega) w
  have HM : Hid (2 :: (be8 key.size ++ key.data.toList ++ msg.data.toList ++ key.data.toList) = markOf key msg) := Lib.hid rfl
  have hl8 : (be8 key.size).length = 8 := rfl
  generalize be8 key.size = B at cn HM hl8
  have l1 : ¬ 9223372036854775807 < 1 + B.length := by omega
  have l2 : ¬ 9223372036854775807 < 1 + B.length + key.size := by omega
  have l3 : ¬ 9223372036854775807 < 1 + B.length + key.size + msg.size := by omega
  have l4 : ¬ 9223372036854775807 < 1 + B.length + key.size + msg.size + key.size := by omega
  go_enter Tryd.func87, Tryd.ntmps87
  go_wp2_with fail
  refine cn.mono ?_
  rintro _ w2 ⟨rfl, hb⟩
  go_wp2_with fail
  have hD : ((⟨#[2]⟩ : ByteArray) ++ ⟨B.toArray⟩ ++ key ++ msg ++ key).data.toList = markOf key msg := by rw [← HM.out]; simp
  have hS : ((⟨#[2]⟩ : ByteArray) ++ ⟨B.toArray⟩ ++ key ++ msg ++ key).size ≤ 1000000000 := by
    have h1 := ba_size key
    have h2 := ba_size msg
    have h3 := ba_size ((⟨#[2]⟩ : ByteArray) ++ ⟨B.toArray⟩ ++ key ++ msg ++ key)
    rw [hD, ← HM.out] at h3
    simp only [List.length_cons, List.length_append] at h3
    omega
  have co := refOf_any _ hS w2
  rw [hD] at co
  clear hD hS
  refine co.mono ?_
  rintro _ w3 ⟨rfl, hb3⟩
  go_wp2_with fail
  go_ret
  exact ⟨rfl, hb.trans (hb3.mono hb.size)⟩
end Go.Proofs.YtnkbelbalaeieaaDoor
