/- Arguments of the laws of requests, opened: a byte; a slice of requests. -/
import Derived.Test.YtanmmooflhomoaaDoorRqPost
import Derived.ChangeMaps
namespace Go.Proofs.YtanmmooflhomoaaDoor
open Go Go.ChangeShapes Go.WideShapes Go.ChangeAt Go.WideElems Go.RowKit Go.Lib

theorem wf_u8 {n : Int} (h : Lit.wf (.int .u8 n)) : 0 ≤ n ∧ n ≤ 255 := by
  simp [Lit.wf, IntKind.min, IntKind.max, IntKind.signed, IntKind.bits] at h
  omega
end Go.Proofs.YtanmmooflhomoaaDoor
