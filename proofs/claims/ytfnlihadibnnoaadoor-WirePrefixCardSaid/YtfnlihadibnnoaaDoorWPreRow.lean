/- The law WirePrefix: for every input it returns true, and each argument reads as it read before. The listed variables of the library (deBruijn32tab, deBruijn64tab, uint64pow10, ErrRange, ErrSyntax) hold what the program's text lays. -/
import Derived.Test.YtfnlihadibnnoaaDoorRows
import Derived.Test.YtfnlihadibnnoaaDoorWPre
import Derived.Test.YtfnlihadibnnoaaDoorWErr
import Derived.Test.YtfnlihadibnnoaaDoorWArg
namespace Go.Proofs.YtfnlihadibnnoaaDoor
open Go Go.ChangeShapes Go.WideShapes Go.ChangeAt Go.WideElems Go.RowKit Go.Lib
open Go.ChangeMaps (open_string)

def zeroPre : Array Value := #[.agg #[.int .u8 0, .int .i64 0, .string ⟨#[]⟩, .slice none 0 0, .slice none 0 0], .agg #[.int .u8 0, .int .i64 0, .string ⟨#[]⟩, .slice none 0 0, .slice none 0 0]]

set_option maxRecDepth 100000 in
theorem wirePrefix_lifted (os : Os) (started : os.Started) (H : Type) (enc : TypeId × Value → H) :
    ReturnsInHanded {} Tryd.checked os 8 .any (fun w args => (Rows.wirePrefixSpec.pre enc Tryd.prog Tryd.f8 [] false w args ∧ laidMetH Tryd.prog laidRow w) ∧ sizedMet enc Tryd.prog Tryd.f8 (OpenSpec.ofChange Rows.wirePrefixSpec) false w args)
      (Rows.wirePrefixSpec.post enc Tryd.prog Tryd.f8 false true false false) := by
  refine returnsInHanded_shaped_and (C := Tryd.checked) (X := fun w _ => laidMetH Tryd.prog laidRow w) (fun _ _ _ hh h => h.of_heap hh) own started (by kernel_rfl) Tryd.func8
    (ChangeSpec.witness_shaped (enc := enc) (C := Tryd.checked) (os := os) (X := fun w _ => laidMetH Tryd.prog laidRow w) false (World.doorLaid Tryd.prog 4000 os) zeroPre 8 rfl (World.shaped_of_RefB (by kernel_rfl) (by kernel_rfl)) (by kernel_rfl) (by kernel_rfl) (by kernel_rfl) (door_met os _)) ?_
  intro W base args ds gs before hval0 hW _ _ hL hsh _
  have hval : ∀ (j : Nat) t v, Tryd.f8.params[j]? = some t → args[j]? = some v → Value.okWide Tryd.prog W .any base t v := hval0
  have hW' := hW
  obtain ⟨p, q, hA0, hV, rfl, hfz, hnd⟩ := hW
  have hA : DataW.TrodAll enc Tryd.prog W 0 (fun _ => true) true Tryd.f8.params.toList args.toList ds p := hA0
  have hA2 := hA
  obtain ⟨rfl, rfl⟩ := trodVars_none hV
  simp only [List.append_nil] at hW'
  rw [Tryd.params8] at hA2 hval
  obtain ⟨v0, v1, d0, d1, p0, p1, rfl, rfl, rfl, h0, h1⟩ := trodAll_two hA2
  obtain ⟨x0, a0, b0, rfl, hV0⟩ := open_valV h0 (hval 0 45 v0 rfl rfl)
  obtain ⟨x1, a1, b1, rfl, hV1⟩ := open_valV h1 (hval 1 45 v1 rfl rfl)
  refine (prefix_any x0 a0 b0 hV0 x1 a1 b1 hV1 (ready_of hL hsh)).mono fun e W' ⟨he, hbe⟩ => ?_
  subst he
  exact ⟨_, rfl, law_post A_laidOut (by rw [Tryd.params8]; decide +kernel) rfl (by kernel_rfl) Tryd.underlying4 rfl hW' hA hbe⟩

theorem wirePrefix_holds : Rows.WirePrefixSaid :=
  OpenClaim.holds_of_wide 8 Tryd.f8 rfl rfl rfl rfl rfl rfl rfl ⟨rfl, rfl, rfl, rfl, rfl⟩ rfl rfl rfl rfl rfl (by kernel_rfl) Tryd.func8 (by kernel_rfl)
    (of_decide_eq_true (by kernel_rfl)) (by unfold Func.isWrapper; first | (rw [if_pos (by decide +kernel)]; kernel_rfl) | (rw [if_neg (by decide +kernel)]; exact ⟨rfl, rfl⟩))
    (fun os started H enc _ => wirePrefix_lifted os started H enc)
end Go.Proofs.YtfnlihadibnnoaaDoor
