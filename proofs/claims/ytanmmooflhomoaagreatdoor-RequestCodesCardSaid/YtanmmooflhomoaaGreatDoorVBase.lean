/- Small lemmas on worlds that all walks of the Wire seat use. -/
import Derived.Test.YtanmmooflhomoaaGreatDoorBuild
import Derived.Test.YtanmmooflhomoaaGreatDoorWire
namespace Go.Proofs.YtanmmooflhomoaaGreatDoor.Wr
open Go Go.RowKit Go.Sort Go.Lib

theorem below_alloc1 (w : World) (o : Obj) : RowKit.Below w.heap.size w (w.alloc o) := (Below.refl _ _).alloc (Nat.le_refl _) _
theorem below_next {W w w' : World} (h : RowKit.Below W.heap.size W w) (hb : RowKit.Below w.heap.size w w') : RowKit.Below W.heap.size W w' := h.trans (hb.mono h.size)
theorem mv0 {W W' : World} {b o : Nat} {v : Value} (hb : RowKit.Below W.heap.size W W') (h : W.cell? ⟨b, o, none⟩ = some v) : W'.cell? ⟨b, o, none⟩ = some v :=
  ((bcell hb).1 _ _ (World.block_lt_of_cell? W _ h)).trans h
theorem mv1 {W W' : World} {x : Obj} {b o : Nat} {v : Value} (hb : RowKit.Below (W.alloc x).heap.size (W.alloc x) W') (h : W.cell? ⟨b, o, none⟩ = some v) : W'.cell? ⟨b, o, none⟩ = some v :=
  mv0 hb (mv0 (below_alloc1 W x) h)
theorem mv2 {W W' : World} {x y : Obj} {b o : Nat} {v : Value} (hb : RowKit.Below ((W.alloc x).alloc y).heap.size ((W.alloc x).alloc y) W') (h : W.cell? ⟨b, o, none⟩ = some v) : W'.cell? ⟨b, o, none⟩ = some v :=
  mv1 hb (mv0 (below_alloc1 W x) h)
theorem mz0 {W W' : World} {B b : Nat} (hb : RowKit.Below B W W') (h : b < W.heap.size) : b < W'.heap.size := Nat.lt_of_lt_of_le h hb.size
theorem mz1 {W W' : World} {x : Obj} {B b : Nat} (hb : RowKit.Below B (W.alloc x) W') (h : b < W.heap.size) : b < W'.heap.size := mz0 hb (mz0 (below_alloc1 W x) h)
theorem mz2 {W W' : World} {x y : Obj} {B b : Nat} (hb : RowKit.Below B ((W.alloc x).alloc y) W') (h : b < W.heap.size) : b < W'.heap.size := mz1 hb (mz0 (below_alloc1 W x) h)
theorem mb0 {w W W' : World} (h : RowKit.Below w.heap.size w W) (hb : RowKit.Below W.heap.size W W') : RowKit.Below w.heap.size w W' := below_next h hb
theorem mb1 {w W W' : World} {x : Obj} (h : RowKit.Below w.heap.size w W) (hb : RowKit.Below (W.alloc x).heap.size (W.alloc x) W') : RowKit.Below w.heap.size w W' := below_next (below_next h (below_alloc1 _ _)) hb
theorem mb2 {w W W' : World} {x y : Obj} (h : RowKit.Below w.heap.size w W) (hb : RowKit.Below ((W.alloc x).alloc y).heap.size ((W.alloc x).alloc y) W') : RowKit.Below w.heap.size w W' := below_next (below_next (below_next h (below_alloc1 _ _)) (below_alloc1 _ _)) hb
/-- What wire.Ints writes. -/
def wInts (l : List Int) : List UInt8 := 91 :: (l.flatMap wInt ++ [93])
/-- What wire.Texts writes. -/
def wTexts (l : List ByteArray) : List UInt8 := 91 :: (l.flatMap wText ++ [93])
/-- A row of whole numbers lies from a place on. -/
def IntsAt (w : World) (b o : Nat) (l : List Int) : Prop := ∀ k, k < l.length → w.cell? ⟨b, o + k, none⟩ = some (.int .i64 (l.getD k 0)) ∧ -9223372036854775808 ≤ l.getD k 0 ∧ l.getD k 0 ≤ 9223372036854775807
/-- A row of texts lies from a place on. -/
def TxtsAt (w : World) (b o : Nat) (l : List ByteArray) : Prop := ∀ k, k < l.length → w.cell? ⟨b, o + k, none⟩ = some (.string (l.getD k ⟨#[]⟩)) ∧ (l.getD k ⟨#[]⟩).size ≤ 1000000
theorem IntsAt.below {w w' : World} {b o : Nat} {l : List Int} (h : IntsAt w b o l) (hb : RowKit.Below w.heap.size w w') : IntsAt w' b o l := fun k hk => ⟨mv0 hb (h k hk).1, (h k hk).2⟩
theorem TxtsAt.below {w w' : World} {b o : Nat} {l : List ByteArray} (h : TxtsAt w b o l) (hb : RowKit.Below w.heap.size w w') : TxtsAt w' b o l := fun k hk => ⟨mv0 hb (h k hk).1, (h k hk).2⟩
theorem flat_len {α : Type} (f : α → List UInt8) (n : Nat) : ∀ (l : List α), (∀ x ∈ l, (f x).length ≤ n) → (l.flatMap f).length ≤ l.length * n
  | [], _ => by simp
  | x :: l, h => by
    have h1 := h x (by simp)
    have h2 := flat_len f n l (fun y hy => h y (by simp [hy]))
    rw [List.flatMap_cons, List.length_append, List.length_cons, Nat.add_mul]
    omega
theorem flat_snoc {α : Type} (f : α → List UInt8) (d : α) (l : List α) (k : Nat) (h : k < l.length) : (l.take (k + 1)).flatMap f = (l.take k).flatMap f ++ f (l.getD k d) := by
  rw [List.take_succ_eq_append_getElem h, List.flatMap_append]; simp [List.getElem?_eq_getElem h]
end Go.Proofs.YtanmmooflhomoaaGreatDoor.Wr
