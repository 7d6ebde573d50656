/- digest.of: walked once. -/
import Derived.Test.YtnkbelbalaeieaaDoorDg
import Derived.Lib.ConvBytes
import Derived.Lib.AtoiErrMem
namespace Go.Proofs.YtnkbelbalaeieaaDoor
open Go Go.RowKit Go.Sort Go.Lib

def dgX (l : List UInt8) (a : Int) : Int := l.foldl (fun x c => (69621 * x + c.toNat + 1) % 2147483647) a
def dgY (l : List UInt8) (a : Int) : Int := l.foldl (fun x c => (45991 * x + c.toNat + 1) % 2147483629) a
theorem dgX_app (l m : List UInt8) (a : Int) : dgX (l ++ m) a = dgX m (dgX l a) := by unfold dgX; rw [List.foldl_append]
theorem dgY_app (l m : List UInt8) (a : Int) : dgY (l ++ m) a = dgY m (dgY l a) := by unfold dgY; rw [List.foldl_append]
theorem or_join (X Y : Nat) (hX : X < 2147483648) (hY : Y < 4294967296) : bits BinOp.or IntKind.i64 ((X : Int) * 4294967296) (Y : Int) = ((X * 4294967296 + Y : Nat) : Int) := by
  have e1 : (BitVec.ofInt 64 ((X : Int) * 4294967296)).toNat = X * 4294967296 := by rw [BitVec.toNat_ofInt]; omega
  have e2 : (BitVec.ofInt 64 (Y : Int)).toNat = Y := by rw [BitVec.toNat_ofInt]; omega
  have e3 : X * 4294967296 ||| Y = X * 4294967296 + Y := by
    have := Nat.two_pow_add_eq_or_of_lt (i := 32) (b := Y) (by omega) X
    rw [show (2 : Nat) ^ 32 = 4294967296 from rfl, Nat.mul_comm] at this
    exact this.symm
  change IntKind.i64.wrap (((BitVec.ofInt 64 ((X : Int) * 4294967296) ||| BitVec.ofInt 64 (Y : Int)).toNat : Nat) : Int) = _
  rw [BitVec.toNat_or, e1, e2, e3]
  exact IntWalk.i64_in _ (by omega)
/-- Texts lie in a row. -/
def PartsAt (w : World) (b o : Nat) (l : List ByteArray) : Prop := ∀ k (h : k < l.length), w.cell? ⟨b, o + k, none⟩ = some (.string l[k]) ∧ l[k].size ≤ 100000000
def joined (l : List ByteArray) : List UInt8 := l.flatMap fun s => s.data.toList
set_option maxHeartbeats 2000000 in
set_option maxRecDepth 100000 in
theorem of_any (b o c : Nat) (l : List ByteArray) (hl : l.length ≤ 1000) (w : World) (hP : PartsAt w b o l) :
    Calls Tryd.prog 99 #[.slice (some ⟨b, o, none⟩) l.length c] w fun e w' => e = .returned (.string ⟨(be8 (dgX (joined l) 11 * 4294967296 + dgY (joined l) 17).toNat).toArray⟩) ∧ Below w.heap.size w w' := by
  go_enter Tryd.func99, Tryd.ntmps99
  go_wp2_with fail
  go_loopw [3, 4, 11] (fun x y i wr => ∃ (k : Nat) (X Y : Int), k ≤ l.length ∧ i = .int .i64 k ∧ x = .int .i64 X ∧ y = .int .i64 Y ∧ (0 ≤ X ∧ X ≤ 2147483647) ∧ (0 ≤ Y ∧ Y ≤ 2147483647) ∧ Hid (X = dgX (joined (l.take k)) 11 ∧ Y = dgY (joined (l.take k)) 17) ∧ Below w.heap.size w wr) (fun _ _ i _ => l.length - (RowKit.intOf i).toNat)
  case atStart => exact ⟨0, 11, 17, Nat.zero_le _, rfl, rfl, rfl, by omega, by omega, Lib.hid (by simp [joined, dgX, dgY]), Below.refl _ _⟩
  case round =>
    obtain ⟨k, X, Y, hk, rfl, rfl, rfl, hX, hY, HD, hB⟩ := hrel
    by_cases hlt : k < l.length
    · obtain ⟨hc, hz⟩ := hP k hlt
      replace hc := ((bcell hB).1 _ _ (World.block_lt_of_cell? w _ hc)).trans hc
      have hx0 : l[k]? = some l[k] := List.getElem?_eq_getElem hlt
      generalize l[k] = p at hc hz hx0
      have HX0 := Lib.hid hx0
      clear hx0
      have hcv : (convert 9 58 (.string p)).run Tryd.prog wr = .ok (.slice (some ⟨wr.heap.size, 0, none⟩) p.size (grownCap wr p.size 0 5)) (bytesWorld wr 5 p) := Lib.run_convert_string_bytes wr _ _ _ p Tryd.underlying9 Tryd.underlying58 Tryd.underlying5
      have hcl : ∀ j, j < p.size → (bytesWorld wr 5 p).cell? ⟨wr.heap.size, j, none⟩ = some (.int .u8 (p.data.toList.getD j 0).toNat) := fun j hj => bytesWorld_cell wr _ p j hj
      have hbw := bytesWorld_below wr 5 p
      have HP := Lib.hid hP
      have HPS := Lib.hid (ba_size p)
      clear hP
      go_wp2_with fail
      generalize bytesWorld wr 5 p = W1 at hcl hbw ⊢
      have hB1 : Below w.heap.size w W1 := hB.trans (hbw.mono hB.size)
      have HCL := Lib.hid hcl
      clear hcl hcv hc
      go_loopw [3, 4, 18] (fun x y i w2 => ∃ (j : Nat) (X2 Y2 : Int), j ≤ p.size ∧ i = .int .i64 j ∧ x = .int .i64 X2 ∧ y = .int .i64 Y2 ∧ (0 ≤ X2 ∧ X2 ≤ 2147483647) ∧ (0 ≤ Y2 ∧ Y2 ≤ 2147483647) ∧ Hid (X2 = dgX (p.data.toList.take j) X ∧ Y2 = dgY (p.data.toList.take j) Y) ∧ w2 = W1) (fun _ _ i _ => p.size - (RowKit.intOf i).toNat)
      case atStart => exact ⟨0, X, Y, Nat.zero_le _, rfl, rfl, rfl, hX, hY, Lib.hid (by simp [dgX, dgY]), rfl⟩
      case round =>
        obtain ⟨j, X2, Y2, hj, rfl, rfl, rfl, hX2, hY2, HD2, rfl⟩ := hrel
        by_cases hjl : j < p.size
        · have hcj := HCL.out j hjl
          have hjl2 : j < p.data.toList.length := by rw [← HPS.out]; exact hjl
          obtain ⟨d, hd⟩ : ∃ d, p.data.toList.getD j 0 = d := ⟨_, rfl⟩
          rw [hd] at hcj
          have hd8 := UInt8.toNat_lt d
          have HT : Hid (p.data.toList.take (j + 1) = p.data.toList.take j ++ [d]) := Lib.hid (by rw [List.take_add_one, List.getElem?_eq_getElem hjl2, ← hd, List.getD_eq_getElem?_getD, List.getElem?_eq_getElem hjl2]; rfl)
          have a1 : IntKind.i64.wrap (69621 * X2) = 69621 * X2 := IntWalk.i64_in _ (by omega)
          have a2 : IntKind.i64.wrap (69621 * X2 + d.toNat) = 69621 * X2 + d.toNat := IntWalk.i64_in _ (by omega)
          have a3 : IntKind.i64.wrap (69621 * X2 + d.toNat + 1) = 69621 * X2 + d.toNat + 1 := IntWalk.i64_in _ (by omega)
          have a4 : (69621 * X2 + d.toNat + 1).tmod 2147483647 = (69621 * X2 + d.toNat + 1) % 2147483647 := Int.tmod_eq_emod_of_nonneg (by omega)
          have b1 : IntKind.i64.wrap (45991 * Y2) = 45991 * Y2 := IntWalk.i64_in _ (by omega)
          have b2 : IntKind.i64.wrap (45991 * Y2 + d.toNat) = 45991 * Y2 + d.toNat := IntWalk.i64_in _ (by omega)
          have b3 : IntKind.i64.wrap (45991 * Y2 + d.toNat + 1) = 45991 * Y2 + d.toNat + 1 := IntWalk.i64_in _ (by omega)
          have b4 : (45991 * Y2 + d.toNat + 1).tmod 2147483629 = (45991 * Y2 + d.toNat + 1) % 2147483629 := Int.tmod_eq_emod_of_nonneg (by omega)
          have HN : Hid ((69621 * X2 + d.toNat + 1) % 2147483647 = dgX (p.data.toList.take (j + 1)) X ∧ (45991 * Y2 + d.toNat + 1) % 2147483629 = dgY (p.data.toList.take (j + 1)) Y) := Lib.hid (by
            rw [HT.out, dgX_app, dgY_app, ← HD2.out.1, ← HD2.out.2]; exact ⟨rfl, rfl⟩)
          have c1 := Int.emod_nonneg (69621 * X2 + d.toNat + 1) (show (2147483647 : Int) ≠ 0 by decide)
          have c2 := Int.emod_lt_of_pos (69621 * X2 + d.toNat + 1) (show (0 : Int) < 2147483647 by decide)
          have c3 := Int.emod_nonneg (45991 * Y2 + d.toNat + 1) (show (2147483629 : Int) ≠ 0 by decide)
          have c4 := Int.emod_lt_of_pos (45991 * Y2 + d.toNat + 1) (show (0 : Int) < 2147483629 by decide)
          clear hd hjl2
          go_wp2_with fail
          go_roundw
          case rel => exact ⟨j + 1, _, _, by omega, by go_num, rfl, rfl, by omega, by omega, HN, by first | rfl | trivial⟩
          case measure => simp [RowKit.intOf]; omega
        · obtain rfl : j = p.size := by omega
          have HN : Hid (X2 = dgX (joined (l.take (k + 1))) 11 ∧ Y2 = dgY (joined (l.take (k + 1))) 17) := Lib.hid (by
            have e : joined (l.take (k + 1)) = joined (l.take k) ++ p.data.toList := by unfold joined; rw [List.take_add_one, HX0.out, List.flatMap_append]; simp
            rw [e, dgX_app, dgY_app, ← HD.out.1, ← HD.out.2, HD2.out.1, HD2.out.2, HPS.out, List.take_length]
            exact ⟨rfl, rfl⟩)
          go_wp2_with fail
          go_roundw
          case rel => exact ⟨k + 1, X2, Y2, by omega, by go_num, rfl, rfl, hX2, hY2, HN, hB1⟩
          case measure => simp [RowKit.intOf]; omega
    · obtain rfl : k = l.length := by omega
      obtain ⟨X', rfl⟩ : ∃ n : Nat, X = n := ⟨X.toNat, by omega⟩
      obtain ⟨Y', rfl⟩ : ∃ n : Nat, Y = n := ⟨Y.toNat, by omega⟩
      have hor := or_join X' Y' (by omega) (by omega)
      have hsh : IntKind.i64.wrap ((X' : Int) * 4294967296) = (X' : Int) * 4294967296 := IntWalk.i64_in _ (by omega)
      have cn := number_any (X' * 4294967296 + Y') (by omega) wr
      have HE : Hid ((dgX (joined l) 11 * 4294967296 + dgY (joined l) 17).toNat = X' * 4294967296 + Y') := Lib.hid (by
        have h := HD.out
        rw [List.take_length] at h
        rw [← h.1, ← h.2]; omega)
      rw [show ((X' * 4294967296 + Y' : Nat) : Int) = (X' : Int) * 4294967296 + Y' by omega] at cn
      go_wp2_with fail
      refine cn.mono ?_
      rintro _ w5 ⟨rfl, hb5⟩
      go_wp2_with fail
      go_ret
      exact ⟨ret_str (by rw [HE.out]), hB.trans (hb5.mono hB.size)⟩
end Go.Proofs.YtnkbelbalaeieaaDoor
