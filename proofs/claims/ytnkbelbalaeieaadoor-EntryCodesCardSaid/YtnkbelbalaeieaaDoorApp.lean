/- quadriviumlaw10.Change.apply, walked once. -/
import Derived.Test.YtnkbelbalaeieaaDoorCut
import Derived.Test.YtnkbelbalaeieaaDoorMm
import Derived.BigRegion
import Derived.Test.YtnkbelbalaeieaaDoorFlow
namespace Go.Proofs.YtnkbelbalaeieaaDoor
open Go Go.RowKit Go.Sort Go.Lib

theorem extract_size (s : ByteArray) (a b : Nat) : (s.extract a b).size ≤ s.size := by
  rw [ByteArray.size_extract]; omega
theorem append_size (s t : ByteArray) : (s ++ t).size = s.size + t.size := ByteArray.size_append

set_option maxHeartbeats 2000000 in
set_option maxRecDepth 100000 in
theorem apply_any (at_ ct : Int) (inn s : ByteArray) (w : World) (ha : 0 ≤ at_ ∧ at_ < 65536) (hc : 0 ≤ ct ∧ ct < 256) (hi : inn.size ≤ 9223372036854775807) (hs : s.size ≤ 1000000) :
    Calls Tryd.prog 29 #[.agg #[.int .u16 at_, .int .u8 ct, .string inn], .string s] w fun x w' => ∃ t : ByteArray, x = .returned (.string t) ∧ t.size ≤ s.size + 20 ∧ RowKit.Below w.heap.size w w' := by
  have hw1 : IntKind.i64.wrap ((s.size : Int) + 1) = (s.size : Int) + 1 := IntWalk.i64_in _ (by omega)
  have hm1 : Int.tmod at_ ((s.size : Int) + 1) = at_ % ((s.size : Int) + 1) := Int.tmod_eq_emod_of_nonneg ha.1
  have hb1 := Int.emod_nonneg at_ (show ((s.size : Int) + 1) ≠ 0 by omega)
  have hb2 := Int.emod_lt_of_pos at_ (show (0 : Int) < (s.size : Int) + 1 by omega)
  have hm2 : Int.tmod ct 5 = ct % 5 := Int.tmod_eq_emod_of_nonneg hc.1
  have hb3 : 0 ≤ ct % 5 ∧ ct % 5 < 5 := by omega
  have hne : ((s.size : Int) + 1 == 0) = false := by simp; omega
  generalize hA : at_ % ((s.size : Int) + 1) = A at *
  generalize hB : ct % 5 = B at *
  have hw2 : IntKind.i64.wrap (A + B) = A + B := IntWalk.i64_in _ (by omega)
  clear hA hB
  go_enter Tryd.func29, Tryd.ntmps29
  go_wp2_with fail
  have hB0 := below_alloc1 w (.cells #[.int .u16 at_, .int .u8 ct, .string inn] 49)
  have hbx := heap_alloc_new w (.cells #[.int .u16 at_, .int .u8 ct, .string inn] 49)
  obtain ⟨m, hm⟩ : ∃ m, min inn.size 20 = m := ⟨_, rfl⟩
  have hmn1 : min (inn.size : Int) 20 = (m : Int) := by omega
  have hle : A ≤ (s.size : Int) := by omega
  have hmle : m ≤ inn.size := by omega
  have hm20 : m ≤ 20 := by omega
  obtain ⟨k, hk⟩ : ∃ k : Nat, min (s.size : Int) (A + B) = k := ⟨(min (s.size : Int) (A + B)).toNat, by omega⟩
  have hkle : k ≤ s.size := by omega
  have hAk : A.toNat ≤ k := by omega
  have hcat1 : ¬ 9223372036854775807 < A.toNat + m := by omega
  have hcat2 : ¬ 9223372036854775807 < A.toNat + m + (s.size - k) := by omega
  have hwc : IntKind.i64.wrap ct = ct := IntWalk.i64_in _ (by omega)
  clear hm
  have hS0 : RowKit.Below w.heap.size w (w.alloc (.cells #[.int .u16 at_, .int .u8 ct, .string inn] 49)).drew ∧ (w.alloc (.cells #[.int .u16 at_, .int .u8 ct, .string inn] 49)).drew.cell? ⟨w.heap.size, 1, none⟩ = some (.int .u8 ct) ∧ (w.alloc (.cells #[.int .u16 at_, .int .u8 ct, .string inn] 49)).drew.cell? ⟨w.heap.size, 2, none⟩ = some (.string inn) := ⟨hB0.drew, Lib.cell_of_heap hbx 1, Lib.cell_of_heap hbx 2⟩
  clear hbx
  generalize w.alloc (.cells #[.int .u16 at_, .int .u8 ct, .string inn] 49) = W at hS0 hB0 ⊢
  refine of_onlyN ?_ (fun _ _ h => h)
  refine wp_region_flow (S := fun w' => RowKit.Below w.heap.size w w' ∧ w'.cell? ⟨w.heap.size, 1, none⟩ = some (.int .u8 ct) ∧ w'.cell? ⟨w.heap.size, 2, none⟩ = some (.string inn)) [(0, true), (1, true), (2, true), (3, true), (4, true), (5, true), (6, true), (7, true), (8, true), (9, true), (10, true), (11, true), (12, true), (13, true), (14, true), (15, true), (16, true), (17, true), (18, true), (19, true), (20, true), (21, true), (22, true), (23, true)] (by kernel_rfl) (by kernel_rfl) (by kernel_rfl) (by decide) (hS0) ?_
  have hS := hS0
  refine flow_take ⟨some 13, _, _, _, _, _⟩ ?_ rfl (by rfl) ?_ ?_
  rotate_left 1
  · intro w hSw; (try dsimp only at hSw); go_simp; (try with_reducible rfl)
  simp only [Act.put, List.setIfInBounds_toArray, List.set_cons_zero, List.set_cons_succ]
  refine flow_take ⟨some 14, _, _, _, _, _⟩ ?_ rfl (by rfl) ?_ ?_
  rotate_left 1
  · intro w hSw; (try dsimp only at hSw); go_simp; (try with_reducible rfl)
  simp only [Act.put, List.setIfInBounds_toArray, List.set_cons_zero, List.set_cons_succ]
  refine flow_take ⟨some 15, _, _, _, _, _⟩ ?_ rfl (by rfl) ?_ ?_
  rotate_left 1
  · intro w hSw; (try dsimp only at hSw); go_simp; (try with_reducible rfl)
  simp only [Act.put, List.setIfInBounds_toArray, List.set_cons_zero, List.set_cons_succ]
  refine flow_take ⟨some 16, _, _, _, _, _⟩ ?_ rfl (by rfl) ?_ ?_
  rotate_left 1
  · intro w hSw; (try dsimp only at hSw); go_simp; (try with_reducible rfl)
  simp only [Act.put, List.setIfInBounds_toArray, List.set_cons_zero, List.set_cons_succ]
  refine flow_take ⟨some 17, _, _, _, _, _⟩ ?_ rfl (by rfl) ?_ ?_
  rotate_left 1
  · intro w hSw; (try dsimp only at hSw); go_simp; (try with_reducible rfl)
  simp only [Act.put, List.setIfInBounds_toArray, List.set_cons_zero, List.set_cons_succ]
  refine flow_take ⟨some 18, _, _, _, _, _⟩ ?_ rfl (by rfl) ?_ ?_
  rotate_left 1
  · intro w hSw; (try dsimp only at hSw); go_simp; (try with_reducible rfl)
  simp only [Act.put, List.setIfInBounds_toArray, List.set_cons_zero, List.set_cons_succ]
  refine flow_take ⟨some 19, _, _, _, _, _⟩ ?_ rfl (by rfl) ?_ ?_
  rotate_left 1
  · intro w hSw; (try dsimp only at hSw); go_simp; (try with_reducible rfl)
  simp only [Act.put, List.setIfInBounds_toArray, List.set_cons_zero, List.set_cons_succ]
  refine flow_take ⟨some 20, _, _, _, _, _⟩ ?_ rfl (by rfl) ?_ ?_
  rotate_left 1
  · intro w hSw; (try dsimp only at hSw); go_simp; (try with_reducible rfl)
  simp only [Act.put, List.setIfInBounds_toArray, List.set_cons_zero, List.set_cons_succ]
  refine flow_take ⟨some 21, _, _, _, _, _⟩ ?_ rfl (by rfl) ?_ ?_
  rotate_left 1
  · intro w hSw; (try dsimp only at hSw); go_simp; (try with_reducible rfl)
  simp only [Act.put, List.setIfInBounds_toArray, List.set_cons_zero, List.set_cons_succ]
  refine flow_take ⟨some 22, _, _, _, _, _⟩ ?_ rfl (by rfl) ?_ ?_
  rotate_left 1
  · intro w hSw; (try dsimp only at hSw); go_simp; (try with_reducible rfl)
  simp only [Act.put, List.setIfInBounds_toArray, List.set_cons_zero, List.set_cons_succ]
  refine flow_take ⟨some 23, _, _, _, _, _⟩ ?_ rfl (by rfl) ?_ ?_
  rotate_left 1
  · intro w hSw; (try dsimp only at hSw); go_simp; (try with_reducible rfl)
  simp only [Act.put, List.setIfInBounds_toArray, List.set_cons_zero, List.set_cons_succ]
  refine flow_take ⟨some 24, _, _, _, _, _⟩ ?_ rfl (by rfl) ?_ ?_
  rotate_left 1
  · intro w hSw; (try dsimp only at hSw); go_simp; (try with_reducible rfl)
  simp only [Act.put, List.setIfInBounds_toArray, List.set_cons_zero, List.set_cons_succ]
  refine flow_take ⟨some 25, _, _, _, _, _⟩ ?_ rfl (by rfl) ?_ ?_
  rotate_left 1
  · intro w hSw; (try dsimp only at hSw); go_simp; (try with_reducible rfl)
  simp only [Act.put, List.setIfInBounds_toArray, List.set_cons_zero, List.set_cons_succ]
  refine flow_take ⟨some 26, _, _, _, _, _⟩ ?_ rfl (by rfl) ?_ ?_
  rotate_left 1
  · intro w hSw; (try dsimp only at hSw); go_simp; (try with_reducible rfl)
  simp only [Act.put, List.setIfInBounds_toArray, List.set_cons_zero, List.set_cons_succ]
  refine flow_take ⟨some 27, _, _, _, _, _⟩ ?_ rfl (by rfl) ?_ ?_
  rotate_left 1
  · intro w hSw; (try dsimp only at hSw); go_simp; (try with_reducible rfl)
  simp only [Act.put, List.setIfInBounds_toArray, List.set_cons_zero, List.set_cons_succ]
  refine flow_take ⟨some 28, _, _, _, _, _⟩ ?_ rfl (by rfl) ?_ ?_
  rotate_left 1
  · intro w hSw; (try dsimp only at hSw); go_simp; (try with_reducible rfl)
  simp only [Act.put, List.setIfInBounds_toArray, List.set_cons_zero, List.set_cons_succ]
  refine flow_take ⟨some 29, _, _, _, _, _⟩ ?_ rfl (by rfl) ?_ ?_
  rotate_left 1
  · intro w hSw; (try dsimp only at hSw); go_simp; (try with_reducible rfl)
  simp only [Act.put, List.setIfInBounds_toArray, List.set_cons_zero, List.set_cons_succ]
  refine flow_take ⟨some 30, _, _, _, _, _⟩ ?_ rfl (by rfl) ?_ ?_
  rotate_left 1
  · intro w hSw; (try dsimp only at hSw); go_simp; (try with_reducible rfl)
  simp only [Act.put, List.setIfInBounds_toArray, List.set_cons_zero, List.set_cons_succ]
  refine flow_take ⟨some 31, _, _, _, _, _⟩ ?_ rfl (by rfl) ?_ ?_
  rotate_left 1
  · intro w hSw; (try dsimp only at hSw); go_simp; (try with_reducible rfl)
  simp only [Act.put, List.setIfInBounds_toArray, List.set_cons_zero, List.set_cons_succ]
  refine flow_take ⟨some 32, _, _, _, _, _⟩ ?_ rfl (by rfl) ?_ ?_
  rotate_left 1
  · intro w hSw; (try dsimp only at hSw); go_simp; (try with_reducible rfl)
  simp only [Act.put, List.setIfInBounds_toArray, List.set_cons_zero, List.set_cons_succ]
  refine flow_take ⟨some 33, _, _, _, _, _⟩ ?_ rfl (by rfl) ?_ ?_
  rotate_left 1
  · intro w hSw; (try dsimp only at hSw); go_simp; (try with_reducible rfl)
  simp only [Act.put, List.setIfInBounds_toArray, List.set_cons_zero, List.set_cons_succ]
  refine flow_take ⟨some 34, _, _, _, _, _⟩ ?_ rfl (by rfl) ?_ ?_
  rotate_left 1
  · intro w hSw; (try dsimp only at hSw); go_simp; (try with_reducible rfl)
  simp only [Act.put, List.setIfInBounds_toArray, List.set_cons_zero, List.set_cons_succ]
  refine flow_take ⟨some 35, _, _, _, _, _⟩ ?_ rfl (by rfl) ?_ ?_
  rotate_left 1
  · intro w hSw; (try dsimp only at hSw); go_simp; (try with_reducible rfl)
  simp only [Act.put, List.setIfInBounds_toArray, List.set_cons_zero, List.set_cons_succ]
  refine flow_take ⟨some 4, _, _, _, _, _⟩ ?_ rfl (by rfl) ?_ ?_
  rotate_left 1
  · intro w hSw; (try dsimp only at hSw); go_simp; (try with_reducible rfl)
  simp only [Act.put, List.setIfInBounds_toArray, List.set_cons_zero, List.set_cons_succ]
  simp only [wpFlow, OnlyN]
  go_wp2_with fail
  go_ret
  exact ⟨_, rfl, by rw [append_size, append_size]; simp only [ByteArray.size_extract]; omega, hS.1⟩
end Go.Proofs.YtnkbelbalaeieaaDoor
