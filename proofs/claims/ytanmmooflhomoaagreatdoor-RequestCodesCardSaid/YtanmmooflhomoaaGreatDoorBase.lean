/- Words and small lemmas that all walks of this seat use: worlds below a block, tables, builders, strings. -/
import Derived.Test.YtanmmooflhomoaaGreatDoorRows
import Derived.Test.YtanmmooflhomoaaGreatDoorShelf
import Derived.WalkKit
import Derived.WalkSmall
import Derived.Lib.Hide
import Derived.Lib.LaidTab
import Derived.Lib.ItoaLen
import Derived.Lib.ItoaMem
import Derived.Deep.QuietTactic
import Derived.Deep.Draws
import Derived.BigQuiet
import Derived.Laws.BytesArg
namespace Go.Proofs.YtanmmooflhomoaaGreatDoor
open Go Go.RowKit Go.Sort

theorem ret_int {k : IntKind} {a b : Int} (h : a = b) : Ending.returned (.int k a) = .returned (.int k b) := by rw [h]
theorem ret_bool {a b : Bool} (h : a = b) : Ending.returned (.bool a) = .returned (.bool b) := by rw [h]
theorem ret_str {a b : ByteArray} (h : a = b) : Ending.returned (.string a) = .returned (.string b) := by rw [h]

/-- In what block a variable lies is known. -/
theorem gTab : Tryz.prog.globalNamed "internal/strconv.uint64pow10" = some 1 := by kernel_rfl

/-- The table that strconv.Itoa reads lies as it was laid. -/
def Tabs (w : World) : Prop := Lib.TabIs Tryz.prog w "internal/strconv.uint64pow10" .u64 Lib.pow10Tab

theorem Tabs.lt {w : World} (h : Tabs w) : 1 < w.heap.size := by
  unfold Tabs Lib.TabIs World.var? at h
  rw [gTab] at h
  simp only [Option.bind_some] at h
  rcases Nat.lt_or_ge 1 w.heap.size with h' | h'
  · exact h'
  · rw [Array.getElem?_eq_none h'] at h; cases h
theorem Tabs.below {w w' : World} (h : Tabs w) (hb : Below w.heap.size w w') : Tabs w' := var?_below hb gTab h.lt h
theorem Tabs.drewN {w : World} (h : Tabs w) (n : Nat) : Tabs (w.drewN n) := h
theorem Tabs.drew {w : World} (h : Tabs w) : Tabs w.drew := h
theorem Tabs.alloc {w : World} (h : Tabs w) (o : Obj) : Tabs (w.alloc o) := h.below ((Below.refl _ _).alloc (Nat.le_refl _) _)

theorem bcell {W w1 : World} (hb : Below W.heap.size W w1) : (∀ b o, b < W.heap.size → w1.cell? ⟨b, o, none⟩ = W.cell? ⟨b, o, none⟩) ∧ (∀ b o, b < W.heap.size → w1.frozen? ⟨b, o, none⟩ = W.frozen? ⟨b, o, none⟩) :=
  ⟨fun b o h => hb.cell (p := ⟨b, o, none⟩) h, fun b o h => hb.frozen (p := ⟨b, o, none⟩) h⟩

theorem below_grow (w : World) (k : Nat) (os : Array Obj) : Below w.heap.size w (grow (w.drewN k) os) := by
  refine ⟨rfl, rfl, rfl, by simp [grow], fun i hi => ?_⟩
  show (w.heap ++ os)[i]? = w.heap[i]?
  rw [Array.getElem?_append_left hi]

theorem Below.le {B : Nat} {w w' : World} (h : Below B w w') : w.heap.size ≤ w'.heap.size := h.size

theorem ba_data (l : List UInt8) : (⟨l.toArray⟩ : ByteArray).data.toList = l := rfl
theorem ba_ext {a b : ByteArray} (h : a.data.toList = b.data.toList) : a = b := by
  cases a; cases b; simp at h; rw [h]
theorem ba_app (a b : ByteArray) : (a ++ b).data.toList = a.data.toList ++ b.data.toList := by
  rw [ByteArray.data_append]; simp
theorem ba_size (a : ByteArray) : a.size = a.data.toList.length := by cases a; rfl

/-- string([]byte{..}) of a row that was just laid. -/
theorem conv_bytes (W : World) (l : List Int) (t : TypeId) : (convert 59 9 (.slice (some ⟨W.heap.size, 0, none⟩) l.length l.length)).run Tryz.prog (W.alloc (.cells (l.map (Value.int .u8)).toArray t)) = .ok (.string ⟨(l.map fun n => UInt8.ofNat n.toNat).toArray⟩) (W.alloc (.cells (l.map (Value.int .u8)).toArray t)) :=
  run_convert_bytes_arg _ 59 5 Tryz.underlying59 Tryz.underlying5 W.heap.size 0 l.length l.length l rfl (fun i hi => by
    rw [Nat.zero_add, Lib.cell_of_heap (heap_alloc_new W _)]; simp [List.getElem?_eq_getElem hi]) 9 Tryz.underlying9
theorem conv_bytes1 (W : World) (b : Nat) (x0 : Int) (t : TypeId) (h : W.heap.size = b) : (convert 59 9 (.slice (some ⟨b, 0, none⟩) 1 1)).run Tryz.prog (W.alloc (.cells #[.int .u8 x0] t)) = .ok (.string ⟨#[UInt8.ofNat x0.toNat]⟩) (W.alloc (.cells #[.int .u8 x0] t)) := by
  subst h; exact conv_bytes W [x0] t
theorem conv_bytes6 (W : World) (b : Nat) (x0 x1 x2 x3 x4 x5 : Int) (t : TypeId) (h : W.heap.size = b) : (convert 59 9 (.slice (some ⟨b, 0, none⟩) 6 6)).run Tryz.prog (W.alloc (.cells #[.int .u8 x0, .int .u8 x1, .int .u8 x2, .int .u8 x3, .int .u8 x4, .int .u8 x5] t)) = .ok (.string ⟨#[UInt8.ofNat x0.toNat, UInt8.ofNat x1.toNat, UInt8.ofNat x2.toNat, UInt8.ofNat x3.toNat, UInt8.ofNat x4.toNat, UInt8.ofNat x5.toNat]⟩) (W.alloc (.cells #[.int .u8 x0, .int .u8 x1, .int .u8 x2, .int .u8 x3, .int .u8 x4, .int .u8 x5] t)) := by
  subst h; exact conv_bytes W [x0, x1, x2, x3, x4, x5] t

/-- strconv.Itoa, with what it leaves of the world. -/
theorem itoa_any (n : Int) (w : World) (h0 : -9223372036854775808 ≤ n) (h1 : n ≤ 9223372036854775807) (ht : Tabs w) :
    Calls Tryz.prog 62 #[.int .i64 n] w fun e w' => e = .returned (.string ⟨(Lib.itoa n).toArray⟩) ∧ Below w.heap.size w w' :=
  (Tryz.strconv_Itoa n h0 h1 w ht).mono fun _ _ ⟨he, k, os, hw⟩ => ⟨he, hw ▸ below_grow w k os⟩
end Go.Proofs.YtanmmooflhomoaaGreatDoor
