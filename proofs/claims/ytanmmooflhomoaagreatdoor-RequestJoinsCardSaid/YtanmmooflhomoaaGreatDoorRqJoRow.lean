/- The law RequestJoins: for every input it returns true, and each argument reads as it read before. The listed tables of the library (deBruijn32tab, deBruijn64tab, uint64pow10) hold what the program's text lays. -/
import Derived.Test.YtanmmooflhomoaaGreatDoorRows
import Derived.Test.YtanmmooflhomoaaGreatDoorRqJo
import Derived.Test.YtanmmooflhomoaaGreatDoorRqLaid
import Derived.Test.YtanmmooflhomoaaGreatDoorRqOpn
namespace Go.Proofs.YtanmmooflhomoaaGreatDoor
open Go Go.ChangeShapes Go.WideShapes Go.ChangeAt Go.WideElems Go.RowKit Go.Lib

def zeroRqJo : Array Value := #[.agg #[.slice none 0 0, .slice none 0 0, .slice none 0 0, .int .i64 0, .int .i64 0, .int .i64 0], .slice none 0 0]

set_option maxRecDepth 100000 in
theorem requestJoins_lifted (os : Os) (started : os.Started) (H : Type) (enc : TypeId × Value → H) :
    ReturnsInHanded {} Tryz.checked os 3 .any (fun w args => (Rows.requestJoinsSpec.pre enc Tryz.prog Tryz.f3 [] false w args ∧ laidMetH Tryz.prog laidRow w) ∧ sizedMet enc Tryz.prog Tryz.f3 (OpenSpec.ofChange Rows.requestJoinsSpec) false w args)
      (Rows.requestJoinsSpec.post enc Tryz.prog Tryz.f3 false true false false) := by
  refine returnsInHanded_of_change_and (C := Tryz.checked) (X := fun w _ => laidMetH Tryz.prog laidRow w) (fun _ _ _ hh h => h.of_heap hh) own started (by kernel_rfl) Tryz.func3
    (ChangeSpec.witness_shaped (enc := enc) (C := Tryz.checked) (os := os) (X := fun w _ => laidMetH Tryz.prog laidRow w) false (World.doorLaid Tryz.prog 4000 os) zeroRqJo 8 rfl (World.shaped_of_RefB (by kernel_rfl) (by kernel_rfl)) (by kernel_rfl) (by kernel_rfl) (by kernel_rfl) (door_met os _)) ?_
  intro W base args ds gs before hval0 hW _ _ hL _
  have hval : ∀ (j : Nat) t v, Tryz.f3.params[j]? = some t → args[j]? = some v → Value.okWide Tryz.prog W .any base t v := hval0
  have hW' := hW
  obtain ⟨p, q, hA0, hV, rfl, hfz, hnd⟩ := hW
  have hA : DataW.TrodAll enc Tryz.prog W 0 (fun _ => true) true Tryz.f3.params.toList args.toList ds p := hA0
  have hA2 := hA
  obtain ⟨rfl, rfl⟩ := trodVars_none hV
  simp only [List.append_nil] at hW'
  rw [Tryz.params3] at hA2 hval
  obtain ⟨v0, v1, d0, d1, p0, p1, rfl, rfl, rfl, h0, h1⟩ := trodAll_two hA2
  obtain ⟨A0, A1, A2, n0, n1, n2, c0, c1, c2, q0, q1, q2, rfl, g0, g1, g2, i0, i1, i2⟩ := open_case h0 (hval 0 25 v0 rfl rfl)
  obtain ⟨Lr, hLr, hLs⟩ := open_reqs h1 (okWide_slice Tryz.underlying26 (hval 1 26 v1 rfl rfl))
  refine (joins_law A0 A1 A2 n0 n1 n2 c0 c1 c2 q0 q1 q2 v1 Lr W g0 g1 g2 i0 i1 i2 hLr hLs (tabs_of_laid hL)).mono fun e W' ⟨he, hbe⟩ => ?_
  subst he
  exact ⟨_, rfl, law_post A_laidOut (by rw [Tryz.params3]; decide +kernel) rfl (by kernel_rfl) Tryz.underlying4 rfl hW' hA hbe⟩

theorem requestJoins_holds : Rows.RequestJoinsSaid :=
  OpenClaim.holds_of_wide 3 Tryz.f3 rfl rfl rfl rfl rfl rfl rfl ⟨rfl, rfl, rfl, rfl, rfl⟩ rfl rfl rfl rfl rfl (by kernel_rfl) Tryz.func3 (by kernel_rfl)
    (of_decide_eq_true (by kernel_rfl)) (by unfold Func.isWrapper; first | (rw [if_pos (by decide +kernel)]; kernel_rfl) | (rw [if_neg (by decide +kernel)]; exact ⟨rfl, rfl⟩))
    (fun os started H enc _ => requestJoins_lifted os started H enc)
end Go.Proofs.YtanmmooflhomoaaGreatDoor
