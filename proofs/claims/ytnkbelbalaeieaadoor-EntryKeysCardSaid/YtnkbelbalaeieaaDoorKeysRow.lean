/- The law EntryKeys: for every input it returns true, and each argument reads as it read before. The listed tables of the library (deBruijn32tab, deBruijn64tab, uint64pow10) hold what the program's text lays. -/
import Derived.Test.YtnkbelbalaeieaaDoorRows
import Derived.Test.YtnkbelbalaeieaaDoorKeys
import Derived.Test.YtnkbelbalaeieaaDoorLaid
namespace Go.Proofs.YtnkbelbalaeieaaDoor
open Go Go.ChangeShapes Go.WideShapes Go.ChangeAt Go.WideElems Go.RowKit Go.Lib

def zero2 : Array Value := #[.slice none 0 0, .agg #[.int .i64 0, .int .i64 0, .int .i64 0, .int .i64 0]]

set_option maxRecDepth 100000 in
theorem keys_lifted (os : Os) (started : os.Started) (H : Type) (enc : TypeId × Value → H) :
    ReturnsInHanded {} Tryd.checked os 4 .any (fun w args => (Rows.entryKeysSpec.pre enc Tryd.prog Tryd.f4 [] false w args ∧ laidMetH Tryd.prog laidRow w) ∧ sizedMet enc Tryd.prog Tryd.f4 (OpenSpec.ofChange Rows.entryKeysSpec) false w args)
      (Rows.entryKeysSpec.post enc Tryd.prog Tryd.f4 false true false false) := by
  refine returnsInHanded_of_change_and (C := Tryd.checked) (X := fun w _ => laidMetH Tryd.prog laidRow w) (fun _ _ _ hh h => h.of_heap hh) own started (by kernel_rfl) Tryd.func4
    (ChangeSpec.witness_shaped (enc := enc) (C := Tryd.checked) (os := os) (X := fun w _ => laidMetH Tryd.prog laidRow w) false (World.doorLaid Tryd.prog 4000 os) zero2 8 rfl (World.shaped_of_RefB (by kernel_rfl) (by kernel_rfl)) (by kernel_rfl) (by kernel_rfl) (by kernel_rfl) (door_met os _)) ?_
  intro W base args ds gs before hval0 hW _ hsz0 hL _
  have hval : ∀ (j : Nat) t v, Tryd.f4.params[j]? = some t → args[j]? = some v → Value.okWide Tryd.prog W .any base t v := hval0
  have hW' := hW
  obtain ⟨p, q, hA0, hV, rfl, hfz, hnd⟩ := hW
  have hA : DataW.TrodAll enc Tryd.prog W 0 (fun _ => true) true Tryd.f4.params.toList args.toList ds p := hA0
  have hA2 := hA
  obtain ⟨rfl, rfl⟩ := trodVars_none hV
  simp only [List.append_nil] at hW' hsz0
  rw [Tryd.params4] at hA2 hval
  obtain ⟨v0, v1, d0, d1, p0, p1, rfl, rfl, rfl, h0, h1⟩ := trodAll_two hA2
  obtain ⟨A, n, c, rfl, hI⟩ := open_intsIn h0 (okWide_slice Tryd.underlying22 (hval 0 22 v0 rfl rfl)) (fun x hx => hW'.lt x (by simp [hx])) (fun elems spare hd => by
    have := sized_slice hsz0 (j := 0) (t := 22) (e := 3) (elems := elems) (spare := spare) (by rw [Tryd.params4]; rfl) (by rw [hd]; rfl) Tryd.underlying22
    have hby : Tryd.checked.prog.bytesOf 3 = 8 := by kernel_rfl
    rw [hby] at this; exact this)
  obtain ⟨a, b, c', d, rfl, ha, hb, hc, hd⟩ := open_pairs (hval 1 24 v1 rfl rfl)
  refine (keys_any A n c a b c' d W ha hb hc hd hI (tabs_of_laid hL)).mono fun e W' ⟨he, hbe⟩ => ?_
  subst he
  exact ⟨_, rfl, law_post A_laidOut (by rw [Tryd.params4]; decide +kernel) rfl (by kernel_rfl) Tryd.underlying4 rfl hW' hA hbe⟩

theorem entryKeys_holds : Rows.EntryKeysSaid :=
  OpenClaim.holds_of_wide 4 Tryd.f4 rfl rfl rfl rfl rfl rfl rfl ⟨rfl, rfl, rfl, rfl, rfl⟩ rfl rfl rfl rfl rfl (by kernel_rfl) Tryd.func4 (by kernel_rfl)
    (of_decide_eq_true (by kernel_rfl)) (by unfold Func.isWrapper; first | (rw [if_pos (by decide +kernel)]; kernel_rfl) | (rw [if_neg (by decide +kernel)]; exact ⟨rfl, rfl⟩))
    (fun os started H enc _ => keys_lifted os started H enc)
end Go.Proofs.YtnkbelbalaeieaaDoor
