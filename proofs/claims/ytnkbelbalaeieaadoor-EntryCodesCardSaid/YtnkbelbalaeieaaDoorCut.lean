/- quadriviumlaw10.cut, walked once. -/
import Derived.Test.YtnkbelbalaeieaaDoorSanity
import Derived.Laws.Cover1
import Derived.BigRegion
namespace Go.Proofs.YtnkbelbalaeieaaDoor
open Go Go.RowKit Go.Sort Go.Lib

theorem below2 (w : World) (o o' : Obj) : RowKit.Below w.heap.size w ((w.alloc o).alloc o') := ((Below.refl _ _).alloc (Nat.le_refl _) o).alloc (by simp) o'

theorem two_new (w : World) (o o' : Obj) : ((w.alloc o).alloc o').drew.heap[w.heap.size + 1]? = some o' := by
  have := heap_alloc_new (w.alloc o) o'
  rw [size_alloc] at this; exact this

/-- The first 30 bytes. -/
def cut30 (s : ByteArray) : ByteArray := ⟨(s.data.toList.take 30).toArray⟩
theorem cut30_size (s : ByteArray) : (cut30 s).size ≤ 30 := by
  rw [ba_size]; simp [cut30]; omega
theorem cut30_min (s : ByteArray) : s.extract 0 (min (s.size : Int) 30).toNat = cut30 s := by
  refine ba_ext ?_
  have : (min (s.size : Int) 30).toNat = min s.size 30 := by omega
  rw [this, ByteArray.data_extract]
  simp [cut30]
  rw [Nat.min_comm]
def Ent.cut (e : Ent) : Ent := { e with course := cut30 e.course, mark := cut30 e.mark }

set_option maxHeartbeats 2000000 in
set_option maxRecDepth 100000 in
theorem cut_any (e : Ent) (w : World) (hc : e.course.size ≤ 9223372036854775807) (hm : e.mark.size ≤ 9223372036854775807) :
    Calls Tryd.prog 11 #[e.val] w fun x w' => x = .returned e.cut.val ∧ RowKit.Below w.heap.size w w' := by
  go_enter Tryd.func11, Tryd.ntmps11
  go_wp2_with fail
  go_region
  all_goals go_wp2_with fail
  simp only [cut30_min]
  refine bodyPost_ret (v := e.cut.val) (results_cell_row (P := Tryd.prog) Tryd.results11 _ _ (w.heap.size + 1) 26 (Ent.cells e.cut) (0, 0) _ rfl ?hg Tryd.underlying26 rfl (by kernel_rfl)) rfl ⟨rfl, ?_⟩
  · exact two_new _ _ _
  · exact (below2 _ _ _).drew
end Go.Proofs.YtnkbelbalaeieaaDoor
