/- The two errors of the library that the row lists: off 'laid'. -/
import Derived.Test.YtmbjoenegcnoiaaDoorQLaid
import Derived.Test.YtmbjoenegcnoiaaDoorQTxA
import Derived.Stop.LaidErr
namespace Go.Proofs.YtmbjoenegcnoiaaDoor
open Go Go.ChangeShapes Go.WideShapes Go.ChangeAt Go.WideElems Go.RowKit Go.Lib
open Go.Extern.Stop Go.Stop Go.Extern

theorem row_err (u : TypeId) (h : Tryd.prog.typeName? 3 u = some "*errors.errorString") : u = 113 :=
  typeName_ptr_named (nm := "errors.errorString") (by rw [show "*" ++ "errors.errorString" = "*errors.errorString" by decide]; kernel_rfl) (by kernel_rfl) (by decide) u (by rw [show "*" ++ "errors.errorString" = "*errors.errorString" by decide]; exact h)
theorem errs_of_laid {W : World} (h : laidMetH Tryd.prog laidRow W) : ErrVars W := by
  have h1 := h.filter (fun x => x.1 == "strconv.ErrRange" || x.1 == "strconv.ErrSyntax")
  rw [MakeChecks.laidMetH_plain _ _ _ (by kernel_rfl)] at h1
  have e : laidRow.filter (fun x => x.1 == "strconv.ErrRange" || x.1 == "strconv.ErrSyntax") = [("strconv.ErrRange", Rows.laid_strconv_ErrRange), ("strconv.ErrSyntax", Rows.laid_strconv_ErrSyntax)] := by kernel_rfl
  rw [e] at h1
  obtain ⟨a1, t1, hv1, -⟩ := laid_sentinel (g := 2) h1 (by kernel_rfl) (by kernel_rfl) Tryd.underlying71 row_err Tryd.underlying113 Tryd.underlying115 rfl rfl Tryd.underlying9 (by kernel_rfl) (by kernel_rfl)
  obtain ⟨a0, t0, hv0, -⟩ := laid_sentinel (g := 1) h1.tail (by kernel_rfl) (by kernel_rfl) Tryd.underlying71 row_err Tryd.underlying113 Tryd.underlying115 rfl rfl Tryd.underlying9 (by kernel_rfl) (by kernel_rfl)
  exact ⟨⟨_, _, hv0⟩, _, _, hv1⟩
end Go.Proofs.YtmbjoenegcnoiaaDoor
