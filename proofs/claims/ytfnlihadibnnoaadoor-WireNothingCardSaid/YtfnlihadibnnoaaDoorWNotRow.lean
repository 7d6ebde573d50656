/- The law WireNothing: for every input it returns true, and each argument reads as it read before. The listed variables of the library (deBruijn32tab, deBruijn64tab, uint64pow10, ErrRange, ErrSyntax) hold what the program's text lays. -/
import Derived.Test.YtfnlihadibnnoaaDoorRows
import Derived.Test.YtfnlihadibnnoaaDoorWNot
import Derived.Test.YtfnlihadibnnoaaDoorWErr
namespace Go.Proofs.YtfnlihadibnnoaaDoor
open Go Go.ChangeShapes Go.WideShapes Go.ChangeAt Go.WideElems Go.RowKit Go.Lib
open Go.ChangeMaps (open_string)

def zeroNot : Array Value := #[.int .u8 0]

set_option maxRecDepth 100000 in
theorem wireNothing_lifted (os : Os) (started : os.Started) (H : Type) (enc : TypeId × Value → H) :
    ReturnsInHanded {} Tryd.checked os 9 .any (fun w args => (Rows.wireNothingSpec.pre enc Tryd.prog Tryd.f9 [] false w args ∧ laidMetH Tryd.prog laidRow w) ∧ sizedMet enc Tryd.prog Tryd.f9 (OpenSpec.ofChange Rows.wireNothingSpec) false w args)
      (Rows.wireNothingSpec.post enc Tryd.prog Tryd.f9 false true false false) := by
  refine returnsInHanded_shaped_and (C := Tryd.checked) (X := fun w _ => laidMetH Tryd.prog laidRow w) (fun _ _ _ hh h => h.of_heap hh) own started (by kernel_rfl) Tryd.func9
    (ChangeSpec.witness_shaped (enc := enc) (C := Tryd.checked) (os := os) (X := fun w _ => laidMetH Tryd.prog laidRow w) false (World.doorLaid Tryd.prog 4000 os) zeroNot 8 rfl (World.shaped_of_RefB (by kernel_rfl) (by kernel_rfl)) (by kernel_rfl) (by kernel_rfl) (by kernel_rfl) (door_met os _)) ?_
  intro W base args ds gs before hval0 hW _ _ hL hsh _
  have hval : ∀ (j : Nat) t v, Tryd.f9.params[j]? = some t → args[j]? = some v → Value.okWide Tryd.prog W .any base t v := hval0
  have hW' := hW
  obtain ⟨p, q, hA0, hV, rfl, hfz, hnd⟩ := hW
  have hA : DataW.TrodAll enc Tryd.prog W 0 (fun _ => true) true Tryd.f9.params.toList args.toList ds p := hA0
  have hA2 := hA
  obtain ⟨rfl, rfl⟩ := trodVars_none hV
  simp only [List.append_nil] at hW'
  rw [Tryd.params9] at hA2 hval
  obtain ⟨v0, d0, rfl, rfl, h0⟩ := trodAll_one hA2
  obtain ⟨x0, rfl, rfl, rfl, wx0⟩ := open_int Tryd.underlying5 (hval 0 5 v0 rfl rfl) h0
  refine (nothing_any x0 (wf_u8 wx0).1 (wf_u8 wx0).2 W (ready_of hL hsh)).mono fun e W' ⟨he, hbe⟩ => ?_
  subst he
  exact ⟨_, rfl, law_post A_laidOut (by rw [Tryd.params9]; decide +kernel) rfl (by kernel_rfl) Tryd.underlying4 rfl hW' hA hbe⟩

theorem wireNothing_holds : Rows.WireNothingSaid :=
  OpenClaim.holds_of_wide 9 Tryd.f9 rfl rfl rfl rfl rfl rfl rfl ⟨rfl, rfl, rfl, rfl, rfl⟩ rfl rfl rfl rfl rfl (by kernel_rfl) Tryd.func9 (by kernel_rfl)
    (of_decide_eq_true (by kernel_rfl)) (by unfold Func.isWrapper; first | (rw [if_pos (by decide +kernel)]; kernel_rfl) | (rw [if_neg (by decide +kernel)]; exact ⟨rfl, rfl⟩))
    (fun os started H enc _ => wireNothing_lifted os started H enc)
end Go.Proofs.YtfnlihadibnnoaaDoor
