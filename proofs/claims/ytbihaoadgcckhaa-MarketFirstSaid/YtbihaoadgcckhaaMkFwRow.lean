/- The law MarketFirst: for every input it returns true, and each argument reads as it read before. -/
import Derived.Test.YtbihaoadgcckhaaRows
import Derived.Test.YtbihaoadgcckhaaMkFw
import Derived.Test.YtbihaoadgcckhaaMkPost
namespace Go.Proofs.Ytbihaoadgcckhaa
open Go Go.ChangeShapes Go.WideShapes Go.ChangeAt Go.WideElems Go.RowKit Go.Lib

set_option maxRecDepth 100000 in
theorem marketFirst_lifted (os : Os) (started : os.Started) (H : Type) (enc : TypeId × Value → H) :
    ReturnsInHanded {} Try.checked os 3 .any (Rows.marketFirstSpec.pre6 enc Try.prog Try.f3 Rows.marketFirstRow.domain false) (Rows.marketFirstSpec.post enc Try.prog Try.f3 false true false false) := by
  refine returnsInHanded_of_change (C := Try.checked) own started (by kernel_rfl) Try.func3
    (ChangeSpec.witness6 (enc := enc) (C := Try.checked) false ⟨#[], #[.agg #[.slice none 0 0, .slice none 0 0, .int .u32 0, .int .u8 0], .slice none 0 0], []⟩ 8 (by kernel_rfl) (by kernel_rfl) (by kernel_rfl) (by kernel_rfl)) ?_
  intro W base args ds gs before hval0 hW _ _
  have hval : ∀ (j : Nat) t v, Try.f3.params[j]? = some t → args[j]? = some v → Value.okWide Try.prog W .any base t v := hval0
  have hW' := hW
  obtain ⟨p, q, hA0, hV, rfl, hfz, hnd⟩ := hW
  have hA : DataW.TrodAll enc Try.prog W 0 (fun _ => true) true Try.f3.params.toList args.toList ds p := hA0
  have hA2 := hA
  obtain ⟨rfl, rfl⟩ := trodVars_none hV
  simp only [List.append_nil] at hW'
  rw [Try.params3] at hA2 hval
  obtain ⟨v0, v1, d0, d1, p0, p1, rfl, rfl, rfl, h0, h1⟩ := trodAll_two hA2
  obtain ⟨A0, A1, n0, n1, c0, c1, q, m, rfl, g0, g1, q0, q1, m0, m1⟩ := open_case h0 (hval 0 26 v0 rfl rfl)
  obtain ⟨A2, n2, c2, rfl⟩ := okWide_slice Try.underlying22 (hval 1 22 v1 rfl rfl)
  obtain ⟨fuel, hf⟩ := h1
  obtain ⟨A3, n3, c3, e3, g2⟩ := ints_in (c := .slice A2 n2 c2) hf
  injection e3 with e3 e4 e5
  subst e3 e4 e5
  refine (first_law A0 A1 A2 n0 n1 n2 c0 c1 c2 q m W g0 g1 g2 q0 q1 m0 m1).mono fun e W' ⟨he, hbe⟩ => ?_
  subst he
  exact ⟨_, rfl, law_post A_laidOut (by rw [Try.params3]; decide +kernel) rfl (by kernel_rfl) Try.underlying4 rfl hW' hA hbe⟩

theorem marketFirst_holds : Rows.MarketFirstSaid :=
  OpenClaim.holds_of_wide 3 Try.f3 rfl rfl rfl rfl rfl rfl rfl ⟨rfl, rfl, rfl, rfl, rfl⟩ rfl rfl rfl rfl rfl (by kernel_rfl) Try.func3 (by kernel_rfl)
    (of_decide_eq_true (by kernel_rfl)) (by unfold Func.isWrapper; first | (rw [if_pos (by decide +kernel)]; kernel_rfl) | (rw [if_neg (by decide +kernel)]; exact ⟨rfl, rfl⟩))
    (fun os started H enc _ => marketFirst_lifted os started H enc)
end Go.Proofs.Ytbihaoadgcckhaa
