/- The law MarketOrder: for every input it returns true, and each argument reads as it read before. -/
import Derived.Test.YtbihaoadgcckhaaRows
import Derived.Test.YtbihaoadgcckhaaMkOr
import Derived.Test.YtbihaoadgcckhaaMkPost
namespace Go.Proofs.Ytbihaoadgcckhaa
open Go Go.ChangeShapes Go.WideShapes Go.ChangeAt Go.WideElems Go.RowKit Go.Lib

set_option maxRecDepth 100000 in
theorem marketOrder_lifted (os : Os) (started : os.Started) (H : Type) (enc : TypeId × Value → H) :
    ReturnsInHanded {} Try.checked os 4 .any (Rows.marketOrderSpec.pre6 enc Try.prog Try.f4 Rows.marketOrderRow.domain false) (Rows.marketOrderSpec.post enc Try.prog Try.f4 false true false false) := by
  refine returnsInHanded_of_change (C := Try.checked) own started (by kernel_rfl) Try.func4
    (ChangeSpec.witness6 (enc := enc) (C := Try.checked) false ⟨#[], #[.agg #[.slice none 0 0, .slice none 0 0, .int .u32 0, .int .u8 0], .int .u8 0], []⟩ 8 (by kernel_rfl) (by kernel_rfl) (by kernel_rfl) (by kernel_rfl)) ?_
  intro W base args ds gs before hval0 hW _ _
  have hval : ∀ (j : Nat) t v, Try.f4.params[j]? = some t → args[j]? = some v → Value.okWide Try.prog W .any base t v := hval0
  have hW' := hW
  obtain ⟨p, q, hA0, hV, rfl, hfz, hnd⟩ := hW
  have hA : DataW.TrodAll enc Try.prog W 0 (fun _ => true) true Try.f4.params.toList args.toList ds p := hA0
  have hA2 := hA
  obtain ⟨rfl, rfl⟩ := trodVars_none hV
  simp only [List.append_nil] at hW'
  rw [Try.params4] at hA2 hval
  obtain ⟨v0, v1, d0, d1, p0, p1, rfl, rfl, rfl, h0, h1⟩ := trodAll_two hA2
  obtain ⟨A0, A1, n0, n1, c0, c1, q, m, rfl, g0, g1, q0, q1, m0, m1⟩ := open_case h0 (hval 0 26 v0 rfl rfl)
  obtain ⟨tn, rfl, rfl, rfl, wtn⟩ := open_int Try.underlying5 (hval 1 5 v1 rfl rfl) h1
  refine (order_law A0 A1 n0 n1 c0 c1 q m tn W g0 g1 q0 q1 m0 m1 (wf_u8 wtn)).mono fun e W' ⟨he, hbe⟩ => ?_
  subst he
  exact ⟨_, rfl, law_post A_laidOut (by rw [Try.params4]; decide +kernel) rfl (by kernel_rfl) Try.underlying4 rfl hW' hA hbe⟩

theorem marketOrder_holds : Rows.MarketOrderSaid :=
  OpenClaim.holds_of_wide 4 Try.f4 rfl rfl rfl rfl rfl rfl rfl ⟨rfl, rfl, rfl, rfl, rfl⟩ rfl rfl rfl rfl rfl (by kernel_rfl) Try.func4 (by kernel_rfl)
    (of_decide_eq_true (by kernel_rfl)) (by unfold Func.isWrapper; first | (rw [if_pos (by decide +kernel)]; kernel_rfl) | (rw [if_neg (by decide +kernel)]; exact ⟨rfl, rfl⟩))
    (fun os started H enc _ => marketOrder_lifted os started H enc)
end Go.Proofs.Ytbihaoadgcckhaa
