/- The law RatioOrder: for every input it returns true, and each argument reads as it read before. The listed variables of the library (deBruijn32tab, deBruijn64tab, uint64pow10, ErrRange, ErrSyntax) hold what the program's text lays. -/
import Derived.Test.YtmbjoenegcnoiaaDoorRows
import Derived.Test.YtmbjoenegcnoiaaDoorQOrd
import Derived.Test.YtmbjoenegcnoiaaDoorQLaid
namespace Go.Proofs.YtmbjoenegcnoiaaDoor
open Go Go.ChangeShapes Go.WideShapes Go.ChangeAt Go.WideElems Go.RowKit Go.Lib
open Go.ChangeMaps (open_string)

def zeroOrd : Array Value := #[.agg #[.int .i64 0, .int .i64 0, .int .i64 0, .int .i64 0, .int .i64 0, .int .i64 0]]

set_option maxRecDepth 100000 in
theorem ratioOrder_lifted (os : Os) (started : os.Started) (H : Type) (enc : TypeId × Value → H) :
    ReturnsInHanded {} Tryd.checked os 7 .any (fun w args => (Rows.ratioOrderSpec.pre enc Tryd.prog Tryd.f7 [] false w args ∧ laidMetH Tryd.prog laidRow w) ∧ sizedMet enc Tryd.prog Tryd.f7 (OpenSpec.ofChange Rows.ratioOrderSpec) false w args)
      (Rows.ratioOrderSpec.post enc Tryd.prog Tryd.f7 false true false false) := by
  refine returnsInHanded_shaped_and (C := Tryd.checked) (X := fun w _ => laidMetH Tryd.prog laidRow w) (fun _ _ _ hh h => h.of_heap hh) own started (by kernel_rfl) Tryd.func7
    (ChangeSpec.witness_shaped (enc := enc) (C := Tryd.checked) (os := os) (X := fun w _ => laidMetH Tryd.prog laidRow w) false (World.doorLaid Tryd.prog 4000 os) zeroOrd 8 rfl (World.shaped_of_RefB (by kernel_rfl) (by kernel_rfl)) (by kernel_rfl) (by kernel_rfl) (by kernel_rfl) (door_met os _)) ?_
  intro W base args ds gs before hval0 hW _ _ hL hsh _
  have hval : ∀ (j : Nat) t v, Tryd.f7.params[j]? = some t → args[j]? = some v → Value.okWide Tryd.prog W .any base t v := hval0
  have hW' := hW
  obtain ⟨p, q, hA0, hV, rfl, hfz, hnd⟩ := hW
  have hA : DataW.TrodAll enc Tryd.prog W 0 (fun _ => true) true Tryd.f7.params.toList args.toList ds p := hA0
  have hA2 := hA
  obtain ⟨rfl, rfl⟩ := trodVars_none hV
  simp only [List.append_nil] at hW'
  rw [Tryd.params7] at hA2 hval
  obtain ⟨v0, d0, rfl, rfl, h0⟩ := trodAll_one hA2
  obtain ⟨x00, x01, x02, x03, x04, x05, rfl, y00, y01, y02, y03, y04, y05⟩ := open_three (hval 0 50 v0 rfl rfl)
  refine (order_any x00 x01 x02 x03 x04 x05 y00 y01 y02 y03 y04 y05 W (sane_of hL hsh)).mono fun e W' ⟨he, hbe⟩ => ?_
  subst he
  exact ⟨_, rfl, law_post A_laidOut (by rw [Tryd.params7]; decide +kernel) rfl (by kernel_rfl) Tryd.underlying4 rfl hW' hA hbe⟩

theorem ratioOrder_holds : Rows.RatioOrderSaid :=
  OpenClaim.holds_of_wide 7 Tryd.f7 rfl rfl rfl rfl rfl rfl rfl ⟨rfl, rfl, rfl, rfl, rfl⟩ rfl rfl rfl rfl rfl (by kernel_rfl) Tryd.func7 (by kernel_rfl)
    (of_decide_eq_true (by kernel_rfl)) (by unfold Func.isWrapper; first | (rw [if_pos (by decide +kernel)]; kernel_rfl) | (rw [if_neg (by decide +kernel)]; exact ⟨rfl, rfl⟩))
    (fun os started H enc _ => ratioOrder_lifted os started H enc)
end Go.Proofs.YtmbjoenegcnoiaaDoor
