/- digest.Of. -/
import Derived.Test.YtanmmooflhomoaaGreatDoorBase
import Derived.OwnWalk
import Derived.Laws.MakeOwn
import Derived.Lib.ConvBytes
import Derived.Lib.AtoiErrMem
/- digest.number: walked once (a seat without the reference). -/
namespace Go.Proofs.YtanmmooflhomoaaGreatDoor
open Go Go.RowKit Go.Sort

theorem below_alloc1 (w : World) (o : Obj) : Below w.heap.size w (w.alloc o) := (Below.refl _ _).alloc (Nat.le_refl _) _
/-- A number as eight bytes, the greatest ahead. -/
def be8 (n : Nat) : List UInt8 := [UInt8.ofNat (n / 72057594037927936), UInt8.ofNat (n / 281474976710656), UInt8.ofNat (n / 1099511627776), UInt8.ofNat (n / 4294967296), UInt8.ofNat (n / 16777216), UInt8.ofNat (n / 65536), UInt8.ofNat (n / 256), UInt8.ofNat n]
theorem ofNat_mod (m : Nat) : UInt8.ofNat (m % 256) = UInt8.ofNat m := UInt8.toNat_inj.1 (by rw [UInt8.toNat_ofNat', UInt8.toNat_ofNat']; omega)
theorem conv_bytes8 (W : World) (b : Nat) (x0 x1 x2 x3 x4 x5 x6 x7 : Int) (t : TypeId) (h : W.heap.size = b) : (convert 59 9 (.slice (some ⟨b, 0, none⟩) 8 8)).run Tryz.prog (W.alloc (.cells #[.int .u8 x0, .int .u8 x1, .int .u8 x2, .int .u8 x3, .int .u8 x4, .int .u8 x5, .int .u8 x6, .int .u8 x7] t)) = .ok (.string ⟨#[UInt8.ofNat x0.toNat, UInt8.ofNat x1.toNat, UInt8.ofNat x2.toNat, UInt8.ofNat x3.toNat, UInt8.ofNat x4.toNat, UInt8.ofNat x5.toNat, UInt8.ofNat x6.toNat, UInt8.ofNat x7.toNat]⟩) (W.alloc (.cells #[.int .u8 x0, .int .u8 x1, .int .u8 x2, .int .u8 x3, .int .u8 x4, .int .u8 x5, .int .u8 x6, .int .u8 x7] t)) := by
  subst h; exact conv_bytes W [x0, x1, x2, x3, x4, x5, x6, x7] t
set_option maxHeartbeats 2000000 in
set_option maxRecDepth 100000 in
theorem number_any (n : Nat) (hn : n < 9223372036854775808) (w : World) :
    Calls Tryz.prog 83 #[.int .i64 n] w fun e w' => e = .returned (.string ⟨(be8 n).toArray⟩) ∧ Below w.heap.size w w' := by
  have hmk : ∀ u : World, (Instr.makeSlice 59 (.int .i64 8) (.int .i64 8)).run Tryz.prog u = .ok (.slice (some ⟨u.heap.size, 0, none⟩) 8 8) (u.alloc (.cells #[.int .u8 0, .int .u8 0, .int .u8 0, .int .u8 0, .int .u8 0, .int .u8 0, .int .u8 0, .int .u8 0] 5)) := fun u => by
    obtain ⟨i0, hi, hz0, hz1, hz2⟩ := info_parts (show (Tryz.prog.info? 5).map (fun i => (i.zero, i.size, i.bytes)) = some (some (.int .u8 0), 1, 1) by kernel_rfl)
    have := run_makeSlice (P := Tryz.prog) u 59 5 i0 (.int .u8 0) Tryz.underlying59 hi hz0 .i64 .i64 8 8 (by omega) (Int.le_refl _) (by rw [hz1]; decide) (by rw [hz2]; decide) (by omega)
    rw [this, hz1, show (Int.toNat 8 * 1) = 8 from rfl, show madeCells (Value.int .u8 0).cells 8 = #[.int .u8 0, .int .u8 0, .int .u8 0, .int .u8 0, .int .u8 0, .int .u8 0, .int .u8 0, .int .u8 0] by kernel_rfl]
    rfl
  go_enter Tryz.func83, Tryz.ntmps83
  go_wp2_with fail
  refine wp_loop_rounds 9 ?_
  rw [rounds_succ]; go_wp2_with fail
  rw [rounds_succ]; go_wp2_with fail
  rw [rounds_succ]; go_wp2_with fail
  rw [rounds_succ]; go_wp2_with fail
  rw [rounds_succ]; go_wp2_with fail
  rw [rounds_succ]; go_wp2_with fail
  rw [rounds_succ]; go_wp2_with fail
  rw [rounds_succ]; go_wp2_with fail
  have hcv := conv_bytes8 w _ (n / 72057594037927936 : Int) (n / 281474976710656 % 256 : Int) (n / 1099511627776 % 256 : Int) (n / 4294967296 % 256 : Int) (n / 16777216 % 256 : Int) (n / 65536 % 256 : Int) (n / 256 % 256 : Int) (n % 256 : Int) 5 rfl
  rw [rounds_succ]; go_wp2_with fail
  go_ret
  refine ⟨ret_str (ba_ext ?_), below_alloc1 _ _⟩
  show _ = be8 n
  simp only [be8, ofNat_mod]
end Go.Proofs.YtanmmooflhomoaaGreatDoor
/- digest.of: walked once. -/
namespace Go.Proofs.YtanmmooflhomoaaGreatDoor
open Go Go.RowKit Go.Sort Go.Lib

def dgX (l : List UInt8) (a : Int) : Int := l.foldl (fun x c => (69621 * x + c.toNat + 1) % 2147483647) a
def dgY (l : List UInt8) (a : Int) : Int := l.foldl (fun x c => (45991 * x + c.toNat + 1) % 2147483629) a
theorem dgX_app (l m : List UInt8) (a : Int) : dgX (l ++ m) a = dgX m (dgX l a) := by unfold dgX; rw [List.foldl_append]
theorem dgY_app (l m : List UInt8) (a : Int) : dgY (l ++ m) a = dgY m (dgY l a) := by unfold dgY; rw [List.foldl_append]
theorem or_join (X Y : Nat) (hX : X < 2147483648) (hY : Y < 4294967296) : bits BinOp.or IntKind.i64 ((X : Int) * 4294967296) (Y : Int) = ((X * 4294967296 + Y : Nat) : Int) := by
  have e1 : (BitVec.ofInt 64 ((X : Int) * 4294967296)).toNat = X * 4294967296 := by rw [BitVec.toNat_ofInt]; omega
  have e2 : (BitVec.ofInt 64 (Y : Int)).toNat = Y := by rw [BitVec.toNat_ofInt]; omega
  have e3 : X * 4294967296 ||| Y = X * 4294967296 + Y := by
    have := Nat.two_pow_add_eq_or_of_lt (i := 32) (b := Y) (by omega) X
    rw [show (2 : Nat) ^ 32 = 4294967296 from rfl, Nat.mul_comm] at this
    exact this.symm
  change IntKind.i64.wrap (((BitVec.ofInt 64 ((X : Int) * 4294967296) ||| BitVec.ofInt 64 (Y : Int)).toNat : Nat) : Int) = _
  rw [BitVec.toNat_or, e1, e2, e3]
  exact IntWalk.i64_in _ (by omega)
/-- Texts lie in a row. -/
def PartsAt (w : World) (b o : Nat) (l : List ByteArray) : Prop := ∀ k (h : k < l.length), w.cell? ⟨b, o + k, none⟩ = some (.string l[k]) ∧ l[k].size ≤ 100000000
def joined (l : List ByteArray) : List UInt8 := l.flatMap fun s => s.data.toList
set_option maxHeartbeats 2000000 in
set_option maxRecDepth 100000 in
theorem of_any (b o c : Nat) (l : List ByteArray) (hl : l.length ≤ 1000) (w : World) (hP : PartsAt w b o l) :
    Calls Tryz.prog 59 #[.slice (some ⟨b, o, none⟩) l.length c] w fun e w' => e = .returned (.string ⟨(be8 (dgX (joined l) 11 * 4294967296 + dgY (joined l) 17).toNat).toArray⟩) ∧ Below w.heap.size w w' := by
  go_enter Tryz.func59, Tryz.ntmps59
  go_wp2_with fail
  go_loopw [3, 4, 11] (fun x y i wr => ∃ (k : Nat) (X Y : Int), k ≤ l.length ∧ i = .int .i64 k ∧ x = .int .i64 X ∧ y = .int .i64 Y ∧ (0 ≤ X ∧ X ≤ 2147483647) ∧ (0 ≤ Y ∧ Y ≤ 2147483647) ∧ Hid (X = dgX (joined (l.take k)) 11 ∧ Y = dgY (joined (l.take k)) 17) ∧ Below w.heap.size w wr) (fun _ _ i _ => l.length - (RowKit.intOf i).toNat)
  case atStart => exact ⟨0, 11, 17, Nat.zero_le _, rfl, rfl, rfl, by omega, by omega, Lib.hid (by simp [joined, dgX, dgY]), Below.refl _ _⟩
  case round =>
    obtain ⟨k, X, Y, hk, rfl, rfl, rfl, hX, hY, HD, hB⟩ := hrel
    by_cases hlt : k < l.length
    · obtain ⟨hc, hz⟩ := hP k hlt
      replace hc := ((bcell hB).1 _ _ (World.block_lt_of_cell? w _ hc)).trans hc
      have hx0 : l[k]? = some l[k] := List.getElem?_eq_getElem hlt
      generalize l[k] = p at hc hz hx0
      have HX0 := Lib.hid hx0
      clear hx0
      have hcv : (convert 9 59 (.string p)).run Tryz.prog wr = .ok (.slice (some ⟨wr.heap.size, 0, none⟩) p.size (grownCap wr p.size 0 5)) (bytesWorld wr 5 p) := Lib.run_convert_string_bytes wr _ _ _ p Tryz.underlying9 Tryz.underlying59 Tryz.underlying5
      have hcl : ∀ j, j < p.size → (bytesWorld wr 5 p).cell? ⟨wr.heap.size, j, none⟩ = some (.int .u8 (p.data.toList.getD j 0).toNat) := fun j hj => bytesWorld_cell wr _ p j hj
      have hbw := bytesWorld_below wr 5 p
      have HP := Lib.hid hP
      have HPS := Lib.hid (ba_size p)
      clear hP
      go_wp2_with fail
      generalize bytesWorld wr 5 p = W1 at hcl hbw ⊢
      have hB1 : Below w.heap.size w W1 := hB.trans (hbw.mono hB.size)
      have HCL := Lib.hid hcl
      clear hcl hcv hc
      go_loopw [3, 4, 18] (fun x y i w2 => ∃ (j : Nat) (X2 Y2 : Int), j ≤ p.size ∧ i = .int .i64 j ∧ x = .int .i64 X2 ∧ y = .int .i64 Y2 ∧ (0 ≤ X2 ∧ X2 ≤ 2147483647) ∧ (0 ≤ Y2 ∧ Y2 ≤ 2147483647) ∧ Hid (X2 = dgX (p.data.toList.take j) X ∧ Y2 = dgY (p.data.toList.take j) Y) ∧ w2 = W1) (fun _ _ i _ => p.size - (RowKit.intOf i).toNat)
      case atStart => exact ⟨0, X, Y, Nat.zero_le _, rfl, rfl, rfl, hX, hY, Lib.hid (by simp [dgX, dgY]), rfl⟩
      case round =>
        obtain ⟨j, X2, Y2, hj, rfl, rfl, rfl, hX2, hY2, HD2, rfl⟩ := hrel
        by_cases hjl : j < p.size
        · have hcj := HCL.out j hjl
          have hjl2 : j < p.data.toList.length := by rw [← HPS.out]; exact hjl
          obtain ⟨d, hd⟩ : ∃ d, p.data.toList.getD j 0 = d := ⟨_, rfl⟩
          rw [hd] at hcj
          have hd8 := UInt8.toNat_lt d
          have HT : Hid (p.data.toList.take (j + 1) = p.data.toList.take j ++ [d]) := Lib.hid (by rw [List.take_add_one, List.getElem?_eq_getElem hjl2, ← hd, List.getD_eq_getElem?_getD, List.getElem?_eq_getElem hjl2]; rfl)
          have a1 : IntKind.i64.wrap (69621 * X2) = 69621 * X2 := IntWalk.i64_in _ (by omega)
          have a2 : IntKind.i64.wrap (69621 * X2 + d.toNat) = 69621 * X2 + d.toNat := IntWalk.i64_in _ (by omega)
          have a3 : IntKind.i64.wrap (69621 * X2 + d.toNat + 1) = 69621 * X2 + d.toNat + 1 := IntWalk.i64_in _ (by omega)
          have a4 : (69621 * X2 + d.toNat + 1).tmod 2147483647 = (69621 * X2 + d.toNat + 1) % 2147483647 := Int.tmod_eq_emod_of_nonneg (by omega)
          have b1 : IntKind.i64.wrap (45991 * Y2) = 45991 * Y2 := IntWalk.i64_in _ (by omega)
          have b2 : IntKind.i64.wrap (45991 * Y2 + d.toNat) = 45991 * Y2 + d.toNat := IntWalk.i64_in _ (by omega)
          have b3 : IntKind.i64.wrap (45991 * Y2 + d.toNat + 1) = 45991 * Y2 + d.toNat + 1 := IntWalk.i64_in _ (by omega)
          have b4 : (45991 * Y2 + d.toNat + 1).tmod 2147483629 = (45991 * Y2 + d.toNat + 1) % 2147483629 := Int.tmod_eq_emod_of_nonneg (by omega)
          have HN : Hid ((69621 * X2 + d.toNat + 1) % 2147483647 = dgX (p.data.toList.take (j + 1)) X ∧ (45991 * Y2 + d.toNat + 1) % 2147483629 = dgY (p.data.toList.take (j + 1)) Y) := Lib.hid (by
            rw [HT.out, dgX_app, dgY_app, ← HD2.out.1, ← HD2.out.2]; exact ⟨rfl, rfl⟩)
          have c1 := Int.emod_nonneg (69621 * X2 + d.toNat + 1) (show (2147483647 : Int) ≠ 0 by decide)
          have c2 := Int.emod_lt_of_pos (69621 * X2 + d.toNat + 1) (show (0 : Int) < 2147483647 by decide)
          have c3 := Int.emod_nonneg (45991 * Y2 + d.toNat + 1) (show (2147483629 : Int) ≠ 0 by decide)
          have c4 := Int.emod_lt_of_pos (45991 * Y2 + d.toNat + 1) (show (0 : Int) < 2147483629 by decide)
          clear hd hjl2
          go_wp2_with fail
          go_roundw
          case rel => exact ⟨j + 1, _, _, by omega, by go_num, rfl, rfl, by omega, by omega, HN, by first | rfl | trivial⟩
          case measure => simp [RowKit.intOf]; omega
        · obtain rfl : j = p.size := by omega
          have HN : Hid (X2 = dgX (joined (l.take (k + 1))) 11 ∧ Y2 = dgY (joined (l.take (k + 1))) 17) := Lib.hid (by
            have e : joined (l.take (k + 1)) = joined (l.take k) ++ p.data.toList := by unfold joined; rw [List.take_add_one, HX0.out, List.flatMap_append]; simp
            rw [e, dgX_app, dgY_app, ← HD.out.1, ← HD.out.2, HD2.out.1, HD2.out.2, HPS.out, List.take_length]
            exact ⟨rfl, rfl⟩)
          go_wp2_with fail
          go_roundw
          case rel => exact ⟨k + 1, X2, Y2, by omega, by go_num, rfl, rfl, hX2, hY2, HN, hB1⟩
          case measure => simp [RowKit.intOf]; omega
    · obtain rfl : k = l.length := by omega
      obtain ⟨X', rfl⟩ : ∃ n : Nat, X = n := ⟨X.toNat, by omega⟩
      obtain ⟨Y', rfl⟩ : ∃ n : Nat, Y = n := ⟨Y.toNat, by omega⟩
      have hor := or_join X' Y' (by omega) (by omega)
      have hsh : IntKind.i64.wrap ((X' : Int) * 4294967296) = (X' : Int) * 4294967296 := IntWalk.i64_in _ (by omega)
      have cn := number_any (X' * 4294967296 + Y') (by omega) wr
      have HE : Hid ((dgX (joined l) 11 * 4294967296 + dgY (joined l) 17).toNat = X' * 4294967296 + Y') := Lib.hid (by
        have h := HD.out
        rw [List.take_length] at h
        rw [← h.1, ← h.2]; omega)
      rw [show ((X' * 4294967296 + Y' : Nat) : Int) = (X' : Int) * 4294967296 + Y' by omega] at cn
      go_wp2_with fail
      refine cn.mono ?_
      rintro _ w5 ⟨rfl, hb5⟩
      go_wp2_with fail
      go_ret
      exact ⟨ret_str (by rw [HE.out]), hB.trans (hb5.mono hB.size)⟩
end Go.Proofs.YtanmmooflhomoaaGreatDoor
namespace Go.Proofs.YtanmmooflhomoaaGreatDoor
open Go Go.RowKit Go.Sort Go.Lib

/-- A digest. -/
def dg (l : List UInt8) : List UInt8 := be8 (dgX l 11 * 4294967296 + dgY l 17).toNat
theorem dg_len (l : List UInt8) : (dg l).length = 8 := rfl
set_option maxHeartbeats 1000000 in
set_option maxRecDepth 100000 in
theorem digestOf_any (s : ByteArray) (hs : s.size ≤ 100000000) (w : World) :
    Calls Tryz.prog 28 #[.string s] w fun e w' => e = .returned (.string ⟨(dg s.data.toList).toArray⟩) ∧ RowKit.Below w.heap.size w w' := by
  have hb1 : RowKit.Below w.heap.size w (w.alloc (.cells #[.string s] 9)) := (Below.refl _ w).alloc (Nat.le_refl _) _
  have hP : PartsAt (w.alloc (.cells #[.string s] 9)) w.heap.size 0 [s] := fun k hk => by
    obtain rfl : k = 0 := by simpa using hk
    exact ⟨Lib.cell_of_heap (heap_alloc_new w _) 0, hs⟩
  have co := of_any w.heap.size 0 1 [s] (by simp) _ hP
  simp only [joined, List.flatMap_cons, List.flatMap_nil, List.append_nil, List.length_cons, List.length_nil, Nat.zero_add] at co
  have hdg : be8 (dgX s.data.toList 11 * 4294967296 + dgY s.data.toList 17).toNat = dg s.data.toList := rfl
  rw [hdg] at co
  clear hdg
  generalize dg s.data.toList = R at co ⊢
  go_enter Tryz.func28, Tryz.ntmps28
  go_wp2_with fail
  refine co.mono ?_
  rintro _ w1 ⟨rfl, hb2⟩
  go_wp2_with fail
  go_ret
  exact ⟨rfl, hb1.trans (hb2.mono hb1.size)⟩
end Go.Proofs.YtanmmooflhomoaaGreatDoor
