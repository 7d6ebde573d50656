/- quadriviumlaw28.deals: an example of the chapter. -/
import Derived.Test.YtjcogpalmgcpbaaMkMt
namespace Go.Proofs.Ytjcogpalmgcpbaa
open Go Go.Proofs Go.RowKit Go.Maps Go.Sort Go.Lib
attribute [local go_sem] Seat.cells Req.cells

structure Asked where
  student : Int
  code : ByteArray
  give : ByteArray
  priority : Int
def Asked.cells (a : Asked) : List Value := [.int .i64 a.student, .string a.code, .string a.give, .int .i64 a.priority]
attribute [local go_sem] Asked.cells
def askR (k : Nat) (a : Asked) : Req := ⟨1, (k : Int) + 1, false, a.student, 4, a.code, a.give, a.priority, 400⟩
def asksR (l : List Asked) : List Req := l.mapIdx askR
theorem asksR_snoc (l : List Asked) (a : Asked) : asksR (l ++ [a]) = asksR l ++ [askR l.length a] := by
  unfold asksR; rw [List.mapIdx_append]; simp
/-- The catalog of the examples; x and y: where the lists of times lie. -/
def cat0 (x y : Nat) : List Off := [⟨⟨#[65, 49]⟩, 5, 1, some ⟨x, 0, none⟩, 1, none, 0, [1], []⟩, ⟨⟨#[66, 49]⟩, 6, 2, some ⟨y, 0, none⟩, 1, none, 0, [1], []⟩, ⟨⟨#[67, 49]⟩, 10, 9, none, 0, none, 0, [], []⟩]




theorem cat0_in (w : World) (h : Nat) (hh : w.heap.size = h) (w3 : World) (h3 : w3 = ((w.alloc (.cells #[.int .i64 1] 3)).alloc (.cells #[.int .i64 1] 3)).alloc (.cells #[.string ⟨#[65, 49]⟩, .int .i64 5, .int .i64 1, .slice (some ⟨h, 0, none⟩) 1 1, .slice none 0 0, .string ⟨#[66, 49]⟩, .int .i64 6, .int .i64 2, .slice (some ⟨h + 1, 0, none⟩) 1 1, .slice none 0 0, .string ⟨#[67, 49]⟩, .int .i64 10, .int .i64 9, .slice none 0 0, .slice none 0 0] 29)) :
    RowIn Off.cells w3 (.slice (some ⟨h + 1 + 1, 0, none⟩) 3 3) (cat0 h (h + 1)) ∧ (∀ o ∈ cat0 h (h + 1), OffOk w3 o ∧ o.few) ∧ RowKit.Below w.heap.size w w3 := by
  have r1 := rowIn_lit (enc := encI) (e := 3) w [1] #[.int .i64 1] h hh rfl 1 rfl
  have r2 := rowIn_lit (enc := encI) (e := 3) (w.alloc (.cells #[.int .i64 1] 3)) [1] #[.int .i64 1] (h + 1) (by simp [hh]) rfl 1 rfl
  have b1 := below_alloc1 (w.alloc (.cells #[.int .i64 1] 3)) (.cells #[.int .i64 1] 3)
  have b2 := below_alloc1 ((w.alloc (.cells #[.int .i64 1] 3)).alloc (.cells #[.int .i64 1] 3)) (.cells #[.string ⟨#[65, 49]⟩, .int .i64 5, .int .i64 1, .slice (some ⟨h, 0, none⟩) 1 1, .slice none 0 0, .string ⟨#[66, 49]⟩, .int .i64 6, .int .i64 2, .slice (some ⟨h + 1, 0, none⟩) 1 1, .slice none 0 0, .string ⟨#[67, 49]⟩, .int .i64 10, .int .i64 9, .slice none 0 0, .slice none 0 0] 29)
  have r3 := rowIn_lit (enc := Off.cells) (e := 29) ((w.alloc (.cells #[.int .i64 1] 3)).alloc (.cells #[.int .i64 1] 3)) (cat0 h (h + 1)) #[.string ⟨#[65, 49]⟩, .int .i64 5, .int .i64 1, .slice (some ⟨h, 0, none⟩) 1 1, .slice none 0 0, .string ⟨#[66, 49]⟩, .int .i64 6, .int .i64 2, .slice (some ⟨h + 1, 0, none⟩) 1 1, .slice none 0 0, .string ⟨#[67, 49]⟩, .int .i64 10, .int .i64 9, .slice none 0 0, .slice none 0 0] (h + 1 + 1) (by simp [hh]) rfl 3 rfl
  subst h3
  refine ⟨r3, fun o ho => ?_, ((below_alloc1 w _).alloc (by simp) _).alloc (by simp <;> omega) _⟩
  simp only [cat0, List.mem_cons, List.not_mem_nil, or_false] at ho
  rcases ho with rfl | rfl | rfl
  · exact ⟨⟨(r1.below b1).below b2, RowIn.nil _ _⟩, by show 1 ≤ 1000000000000; omega⟩
  · exact ⟨⟨r2.below b2, RowIn.nil _ _⟩, by show 1 ≤ 1000000000000; omega⟩
  · exact ⟨⟨RowIn.nil _ _, RowIn.nil _ _⟩, by show 0 ≤ 1000000000000; omega⟩
theorem actR_len_le {M R : List Req} (h : IsSet M R) : (actR M).length ≤ R.length := Nat.le_trans (keepR_len _ _) (isSet_len h)































































































end Go.Proofs.Ytjcogpalmgcpbaa
