/- The law RequestChecks: for every input it returns true, and each argument reads as it read before. The listed tables of the library (deBruijn32tab, deBruijn64tab, uint64pow10) hold what the program's text lays. -/
import Derived.Test.YtanmmooflhomoaaDoorRows
import Derived.Test.YtanmmooflhomoaaDoorRqChl
import Derived.Test.YtanmmooflhomoaaDoorRqLaid
import Derived.Test.YtanmmooflhomoaaDoorRqOpn
namespace Go.Proofs.YtanmmooflhomoaaDoor
open Go Go.ChangeShapes Go.WideShapes Go.ChangeAt Go.WideElems Go.RowKit Go.Lib

def zeroRqChl : Array Value := #[.agg #[.slice none 0 0, .slice none 0 0, .slice none 0 0, .int .i64 0, .int .i64 0, .int .i64 0], .slice none 0 0]

set_option maxRecDepth 100000 in
theorem requestChecks_lifted (os : Os) (started : os.Started) (H : Type) (enc : TypeId × Value → H) :
    ReturnsInHanded {} Tryd.checked os 5 .any (fun w args => (Rows.requestChecksSpec.pre enc Tryd.prog Tryd.f5 [] false w args ∧ laidMetH Tryd.prog laidRow w) ∧ sizedMet enc Tryd.prog Tryd.f5 (OpenSpec.ofChange Rows.requestChecksSpec) false w args)
      (Rows.requestChecksSpec.post enc Tryd.prog Tryd.f5 false true false false) := by
  refine returnsInHanded_of_change_and (C := Tryd.checked) (X := fun w _ => laidMetH Tryd.prog laidRow w) (fun _ _ _ hh h => h.of_heap hh) own started (by kernel_rfl) Tryd.func5
    (ChangeSpec.witness_shaped (enc := enc) (C := Tryd.checked) (os := os) (X := fun w _ => laidMetH Tryd.prog laidRow w) false (World.doorLaid Tryd.prog 4000 os) zeroRqChl 8 rfl (World.shaped_of_RefB (by kernel_rfl) (by kernel_rfl)) (by kernel_rfl) (by kernel_rfl) (by kernel_rfl) (door_met os _)) ?_
  intro W base args ds gs before hval0 hW _ _ hL _
  have hval : ∀ (j : Nat) t v, Tryd.f5.params[j]? = some t → args[j]? = some v → Value.okWide Tryd.prog W .any base t v := hval0
  have hW' := hW
  obtain ⟨p, q, hA0, hV, rfl, hfz, hnd⟩ := hW
  have hA : DataW.TrodAll enc Tryd.prog W 0 (fun _ => true) true Tryd.f5.params.toList args.toList ds p := hA0
  have hA2 := hA
  obtain ⟨rfl, rfl⟩ := trodVars_none hV
  simp only [List.append_nil] at hW'
  rw [Tryd.params5] at hA2 hval
  obtain ⟨v0, v1, d0, d1, p0, p1, rfl, rfl, rfl, h0, h1⟩ := trodAll_two hA2
  obtain ⟨A0, A1, A2, n0, n1, n2, c0, c1, c2, q0, q1, q2, rfl, g0, g1, g2, i0, i1, i2⟩ := open_case h0 (hval 0 25 v0 rfl rfl)
  obtain ⟨Lr, hLr, hLs⟩ := open_reqs h1 (okWide_slice Tryd.underlying27 (hval 1 27 v1 rfl rfl))
  refine (checks_law A0 A1 A2 n0 n1 n2 c0 c1 c2 q0 q1 q2 v1 Lr W g0 g1 g2 i0 i1 i2 hLr hLs (tabs_of_laid hL)).mono fun e W' ⟨he, hbe⟩ => ?_
  subst he
  exact ⟨_, rfl, law_post A_laidOut (by rw [Tryd.params5]; decide +kernel) rfl (by kernel_rfl) Tryd.underlying4 rfl hW' hA hbe⟩

theorem requestChecks_holds : Rows.RequestChecksSaid :=
  OpenClaim.holds_of_wide 5 Tryd.f5 rfl rfl rfl rfl rfl rfl rfl ⟨rfl, rfl, rfl, rfl, rfl⟩ rfl rfl rfl rfl rfl (by kernel_rfl) Tryd.func5 (by kernel_rfl)
    (of_decide_eq_true (by kernel_rfl)) (by unfold Func.isWrapper; first | (rw [if_pos (by decide +kernel)]; kernel_rfl) | (rw [if_neg (by decide +kernel)]; exact ⟨rfl, rfl⟩))
    (fun os started H enc _ => requestChecks_lifted os started H enc)
end Go.Proofs.YtanmmooflhomoaaDoor
