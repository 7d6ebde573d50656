/- The two errors of the library that the row lists: off 'laid'. -/
import Derived.Test.YtfnlihadibnnoaaDoorWLaid
import Derived.Stop.LaidErr
namespace Go.Proofs.YtfnlihadibnnoaaDoor
open Go Go.ChangeShapes Go.WideShapes Go.ChangeAt Go.WideElems Go.RowKit Go.Lib
open Go.Extern.Stop Go.Stop Go.Extern

theorem row_err (u : TypeId) (h : Tryd.prog.typeName? 3 u = some "*errors.errorString") : u = 111 :=
  typeName_ptr_named (nm := "errors.errorString") (by rw [show "*" ++ "errors.errorString" = "*errors.errorString" by decide]; kernel_rfl) (by kernel_rfl) (by decide) u (by rw [show "*" ++ "errors.errorString" = "*errors.errorString" by decide]; exact h)
theorem errs_of_laid {W : World} (h : laidMetH Tryd.prog laidRow W) : ErrVars W := by
  have h1 := h.filter (fun x => x.1 == "strconv.ErrRange" || x.1 == "strconv.ErrSyntax")
  rw [MakeChecks.laidMetH_plain _ _ _ (by kernel_rfl)] at h1
  have e : laidRow.filter (fun x => x.1 == "strconv.ErrRange" || x.1 == "strconv.ErrSyntax") = [("strconv.ErrRange", Rows.laid_strconv_ErrRange), ("strconv.ErrSyntax", Rows.laid_strconv_ErrSyntax)] := by kernel_rfl
  rw [e] at h1
  obtain ⟨a1, t1, hv1, -⟩ := laid_sentinel (g := 3) h1 (by kernel_rfl) (by kernel_rfl) Tryd.underlying69 row_err Tryd.underlying111 Tryd.underlying113 rfl rfl Tryd.underlying9 (by kernel_rfl) (by kernel_rfl)
  obtain ⟨a0, t0, hv0, -⟩ := laid_sentinel (g := 2) h1.tail (by kernel_rfl) (by kernel_rfl) Tryd.underlying69 row_err Tryd.underlying111 Tryd.underlying113 rfl rfl Tryd.underlying9 (by kernel_rfl) (by kernel_rfl)
  exact ⟨⟨_, _, hv0⟩, _, _, hv1⟩
theorem wf_u8 {n : Int} (h : Lit.wf (.int .u8 n)) : 0 ≤ n ∧ n ≤ 255 := by
  simp [Lit.wf, IntKind.min, IntKind.max, IntKind.signed, IntKind.bits] at h
  omega
theorem wf_u16 {n : Int} (h : Lit.wf (.int .u16 n)) : 0 ≤ n ∧ n ≤ 65535 := by
  simp [Lit.wf, IntKind.min, IntKind.max, IntKind.signed, IntKind.bits] at h
  omega
theorem ready_of {W : World} (h : laidMetH Tryd.prog laidRow W) (hs : W.ShapedOpen Tryd.prog) : Ready W := ⟨sane_of h hs, errs_of_laid h⟩
end Go.Proofs.YtfnlihadibnnoaaDoor
