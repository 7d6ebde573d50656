/- wire.Int, wire.Text and the reference's Int, Text, decimal: each walked once. -/
import Derived.Test.YtanmmooflhomoaaGreatDoorBase
namespace Go.Proofs.YtanmmooflhomoaaGreatDoor
open Go Go.RowKit Go.Sort

/-- The bytes of wire.Int. -/
def wInt (n : Int) : List UInt8 := Lib.itoa n ++ [59]
/-- The bytes of wire.Text. -/
def wText (s : ByteArray) : List UInt8 := Lib.itoa s.size ++ 58 :: s.data.toList

theorem wInt_len (n : Int) (h0 : -9223372036854775808 ≤ n) (h1 : n ≤ 9223372036854775807) : (wInt n).length ≤ 22 := by
  have := Lib.itoa_length_le n h0 h1; simp [wInt]; omega
theorem wText_len (s : ByteArray) (hs : s.size ≤ 1000000) : (wText s).length ≤ s.size + 22 := by
  have := Lib.itoa_length_le s.size (by omega) (by omega)
  have h2 := ba_size s
  simp [wText] at *; omega

theorem wireInt_any (n : Int) (w : World) (h0 : -9223372036854775808 ≤ n) (h1 : n ≤ 9223372036854775807) (ht : Tabs w) :
    Calls Tryz.prog 32 #[.int .i64 n] w fun e w' => e = .returned (.string ⟨(wInt n).toArray⟩) ∧ Below w.heap.size w w' := by
  have hl := Lib.itoa_length_le n h0 h1
  go_enter Tryz.func32, Tryz.ntmps32
  go_wp2_with (go_at_call 62; refine (itoa_any _ _ h0 h1 ht).mono ?_; rintro e w' ⟨rfl, hb⟩)
  go_ret
  exact ⟨ret_str (ba_ext (by simp [wInt])), hb⟩

theorem wireText_any (s : ByteArray) (w : World) (hs : s.size ≤ 1000000) (ht : Tabs w) :
    Calls Tryz.prog 34 #[.string s] w fun e w' => e = .returned (.string ⟨(wText s).toArray⟩) ∧ Below w.heap.size w w' := by
  have hl := Lib.itoa_length_le s.size (by omega) (by omega)
  go_enter Tryz.func34, Tryz.ntmps34
  go_wp2_with (go_at_call 62; refine (itoa_any _ _ (by omega) (by omega) ht).mono ?_; rintro e w' ⟨rfl, hb⟩)
  go_ret
  exact ⟨ret_str (ba_ext (by simp [wText])), hb⟩
end Go.Proofs.YtanmmooflhomoaaGreatDoor
