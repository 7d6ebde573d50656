/- The tables that the rows list, and that the door's own run lays them. -/
import Derived.Test.YtanmmooflhomoaaGreatDoorRqPost
import Derived.Lib.Itoa
namespace Go.Proofs.YtanmmooflhomoaaGreatDoor
open Go Go.ChangeShapes Go.WideShapes Go.ChangeAt Go.WideElems Go.RowKit Go.Lib

def laidRow : List (String × DataW Unit) := [("math/bits.deBruijn32tab", Rows.laid_math_bits_deBruijn32tab), ("math/bits.deBruijn64tab", Rows.laid_math_bits_deBruijn64tab), ("internal/strconv.uint64pow10", Rows.laid_internal_strconv_uint64pow10)]

theorem tabs_of_laid {W : World} (h : laidMetH Tryz.prog laidRow W) : Tabs W := by
  have h1 := h.filter (fun x => x.1 == "internal/strconv.uint64pow10")
  rw [MakeChecks.laidMetH_plain _ _ _ (by kernel_rfl)] at h1
  exact Lib.tabIs_of_head (rest := []) gTab (by kernel_rfl : (Tryz.prog.globals[1]?).map (·.type) = some 156) Tryz.underlying156 Tryz.underlying139 (by kernel_rfl) (by kernel_rfl) h1

theorem door_met (os : Os) (args : Array Value) : laidMetH Tryz.prog laidRow ((World.doorLaid Tryz.prog 4000 os).forCall (fun _ _ => 0) ⟨#[], args, []⟩).memory :=
  laidMetH_of_parts3 (fuel := 8) (laidMet_of_run' 8 (by kernel_rfl) (by kernel_rfl)) (by kernel_rfl) (by kernel_rfl)
end Go.Proofs.YtanmmooflhomoaaGreatDoor
