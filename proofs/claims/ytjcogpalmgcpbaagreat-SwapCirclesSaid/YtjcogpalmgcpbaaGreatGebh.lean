/- The law SwapCircles: for every input it returns true, and each argument reads as it read before. -/
import Derived.Test.YtjcogpalmgcpbaaGreatRows
import Derived.Test.YtjcogpalmgcpbaaGreatGebg
import Derived.Test.YtjcogpalmgcpbaaGreatGeav
namespace Go.Proofs.YtjcogpalmgcpbaaGreat
open Go Go.ChangeShapes Go.WideShapes Go.ChangeAt Go.WideElems Go.RowKit Go.Lib

set_option maxRecDepth 100000 in
theorem swapCircles_lifted (os : Os) (started : os.Started) (H : Type) (enc : TypeId × Value → H) :
    ReturnsInHanded {} Tryz.checked os 5 .any (Rows.swapCirclesSpec.pre6 enc Tryz.prog Tryz.f5 Rows.swapCirclesRow.domain false) (Rows.swapCirclesSpec.post enc Tryz.prog Tryz.f5 false true false false) := by
  refine returnsInHanded_of_change (C := Tryz.checked) own started (by kernel_rfl) Tryz.func5
    (ChangeSpec.witness6 (enc := enc) (C := Tryz.checked) false ⟨#[], #[.agg #[.slice none 0 0, .slice none 0 0, .slice none 0 0, .int .u8 0]], []⟩ 8 (by kernel_rfl) (by kernel_rfl) (by kernel_rfl) (by kernel_rfl)) ?_
  intro W base args ds gs before hval0 hW _ _
  have hval : ∀ (j : Nat) t v, Tryz.f5.params[j]? = some t → args[j]? = some v → Value.okWide Tryz.prog W .any base t v := hval0
  have hW' := hW
  obtain ⟨p, q, hA0, hV, rfl, hfz, hnd⟩ := hW
  have hA : DataW.TrodAll enc Tryz.prog W 0 (fun _ => true) true Tryz.f5.params.toList args.toList ds p := hA0
  have hA2 := hA
  obtain ⟨rfl, rfl⟩ := trodVars_none hV
  simp only [List.append_nil] at hW'
  rw [Tryz.params5] at hA2 hval
  obtain ⟨v0, d0, rfl, rfl, h0⟩ := trodAll_one hA2
  obtain ⟨A0, A1, A2, n0, n1, n2, c0, c1, c2, m, rfl, g0, g1, g2, gc, m0, m1⟩ := open_case29 h0 (hval 0 25 v0 rfl rfl)
  refine (circles_law A0 A1 A2 n0 n1 n2 c0 c1 c2 m W g0 g1 g2 gc m0 m1).mono fun e W' ⟨he, hbe⟩ => ?_
  subst he
  exact ⟨_, rfl, law_post A_laidOut (by rw [Tryz.params5]; decide +kernel) rfl (by kernel_rfl) Tryz.underlying4 rfl hW' hA hbe⟩

theorem swapCircles_holds : Rows.SwapCirclesSaid :=
  OpenClaim.holds_of_wide 5 Tryz.f5 rfl rfl rfl rfl rfl rfl rfl ⟨rfl, rfl, rfl, rfl, rfl⟩ rfl rfl rfl rfl rfl (by kernel_rfl) Tryz.func5 (by kernel_rfl)
    (of_decide_eq_true (by kernel_rfl)) (by unfold Func.isWrapper; first | (rw [if_pos (by decide +kernel)]; kernel_rfl) | (rw [if_neg (by decide +kernel)]; exact ⟨rfl, rfl⟩))
    (fun os started H enc _ => swapCircles_lifted os started H enc)
end Go.Proofs.YtjcogpalmgcpbaaGreat
