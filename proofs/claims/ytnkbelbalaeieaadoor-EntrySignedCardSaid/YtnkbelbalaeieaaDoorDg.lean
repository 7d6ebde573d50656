/- digest.number and the reference's eight: each walked once. -/
import Derived.Test.YtnkbelbalaeieaaDoorBase
import Derived.OwnWalk
import Derived.Laws.MakeOwn
namespace Go.Proofs.YtnkbelbalaeieaaDoor
open Go Go.RowKit Go.Sort

theorem below_alloc1 (w : World) (o : Obj) : Below w.heap.size w (w.alloc o) := (Below.refl _ _).alloc (Nat.le_refl _) _
/-- A number as eight bytes, the greatest ahead. -/
def be8 (n : Nat) : List UInt8 := [UInt8.ofNat (n / 72057594037927936), UInt8.ofNat (n / 281474976710656), UInt8.ofNat (n / 1099511627776), UInt8.ofNat (n / 4294967296), UInt8.ofNat (n / 16777216), UInt8.ofNat (n / 65536), UInt8.ofNat (n / 256), UInt8.ofNat n]
theorem ofNat_mod (m : Nat) : UInt8.ofNat (m % 256) = UInt8.ofNat m := UInt8.toNat_inj.1 (by rw [UInt8.toNat_ofNat', UInt8.toNat_ofNat']; omega)
theorem conv_bytes8 (W : World) (b : Nat) (x0 x1 x2 x3 x4 x5 x6 x7 : Int) (t : TypeId) (h : W.heap.size = b) : (convert 58 9 (.slice (some ⟨b, 0, none⟩) 8 8)).run Tryd.prog (W.alloc (.cells #[.int .u8 x0, .int .u8 x1, .int .u8 x2, .int .u8 x3, .int .u8 x4, .int .u8 x5, .int .u8 x6, .int .u8 x7] t)) = .ok (.string ⟨#[UInt8.ofNat x0.toNat, UInt8.ofNat x1.toNat, UInt8.ofNat x2.toNat, UInt8.ofNat x3.toNat, UInt8.ofNat x4.toNat, UInt8.ofNat x5.toNat, UInt8.ofNat x6.toNat, UInt8.ofNat x7.toNat]⟩) (W.alloc (.cells #[.int .u8 x0, .int .u8 x1, .int .u8 x2, .int .u8 x3, .int .u8 x4, .int .u8 x5, .int .u8 x6, .int .u8 x7] t)) := by
  subst h; exact conv_bytes W [x0, x1, x2, x3, x4, x5, x6, x7] t
set_option maxHeartbeats 2000000 in
set_option maxRecDepth 100000 in
theorem number_any (n : Nat) (hn : n < 9223372036854775808) (w : World) :
    Calls Tryd.prog 100 #[.int .i64 n] w fun e w' => e = .returned (.string ⟨(be8 n).toArray⟩) ∧ Below w.heap.size w w' := by
  have hmk : ∀ u : World, (Instr.makeSlice 58 (.int .i64 8) (.int .i64 8)).run Tryd.prog u = .ok (.slice (some ⟨u.heap.size, 0, none⟩) 8 8) (u.alloc (.cells #[.int .u8 0, .int .u8 0, .int .u8 0, .int .u8 0, .int .u8 0, .int .u8 0, .int .u8 0, .int .u8 0] 5)) := fun u => by
    obtain ⟨i0, hi, hz0, hz1, hz2⟩ := info_parts (show (Tryd.prog.info? 5).map (fun i => (i.zero, i.size, i.bytes)) = some (some (.int .u8 0), 1, 1) by kernel_rfl)
    have := run_makeSlice (P := Tryd.prog) u 58 5 i0 (.int .u8 0) Tryd.underlying58 hi hz0 .i64 .i64 8 8 (by omega) (Int.le_refl _) (by rw [hz1]; decide) (by rw [hz2]; decide) (by omega)
    rw [this, hz1, show (Int.toNat 8 * 1) = 8 from rfl, show madeCells (Value.int .u8 0).cells 8 = #[.int .u8 0, .int .u8 0, .int .u8 0, .int .u8 0, .int .u8 0, .int .u8 0, .int .u8 0, .int .u8 0] by kernel_rfl]
    rfl
  go_enter Tryd.func100, Tryd.ntmps100
  go_wp2_with fail
  refine wp_loop_rounds 9 ?_
  rw [rounds_succ]; go_wp2_with fail
  rw [rounds_succ]; go_wp2_with fail
  rw [rounds_succ]; go_wp2_with fail
  rw [rounds_succ]; go_wp2_with fail
  rw [rounds_succ]; go_wp2_with fail
  rw [rounds_succ]; go_wp2_with fail
  rw [rounds_succ]; go_wp2_with fail
  rw [rounds_succ]; go_wp2_with fail
  have hcv := conv_bytes8 w _ (n / 72057594037927936 : Int) (n / 281474976710656 % 256 : Int) (n / 1099511627776 % 256 : Int) (n / 4294967296 % 256 : Int) (n / 16777216 % 256 : Int) (n / 65536 % 256 : Int) (n / 256 % 256 : Int) (n % 256 : Int) 5 rfl
  rw [rounds_succ]; go_wp2_with fail
  go_ret
  refine ⟨ret_str (ba_ext ?_), below_alloc1 _ _⟩
  show _ = be8 n
  simp only [be8, ofNat_mod]
set_option maxHeartbeats 2000000 in
set_option maxRecDepth 100000 in
theorem eight_any (n : Nat) (hn : n < 9223372036854775808) (w : World) :
    Calls Tryd.prog 102 #[.int .i64 n] w fun e w' => e = .returned (.string ⟨(be8 n).toArray⟩) ∧ Below w.heap.size w w' := by
  go_enter Tryd.func102, Tryd.ntmps102
  go_wp2_with fail
  refine wp_loop_rounds 9 ?_
  rw [rounds_succ]; go_wp2_with fail
  rw [rounds_succ]; go_wp2_with fail
  rw [rounds_succ]; go_wp2_with fail
  rw [rounds_succ]; go_wp2_with fail
  rw [rounds_succ]; go_wp2_with fail
  rw [rounds_succ]; go_wp2_with fail
  rw [rounds_succ]; go_wp2_with fail
  rw [rounds_succ]; go_wp2_with fail
  have hcv := fun x0 x1 x2 x3 x4 x5 x6 x7 => conv_bytes8 w w.heap.size x0 x1 x2 x3 x4 x5 x6 x7 127 rfl
  rw [rounds_succ]; go_wp2_with fail
  go_ret
  refine ⟨ret_str (ba_ext ?_), below_alloc1 _ _⟩
  show _ = be8 n
  simp [be8, ofNat_mod, Nat.div_div_eq_div_mul]
end Go.Proofs.YtnkbelbalaeieaaDoor
