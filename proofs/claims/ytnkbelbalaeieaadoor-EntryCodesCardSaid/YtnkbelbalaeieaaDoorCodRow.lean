/- The law EntryCodes: for every input it returns true, and each argument reads as it read before. The listed variables of the library (deBruijn32tab, deBruijn64tab, uint64pow10, ErrRange, ErrSyntax) hold what the program's text lays. -/
import Derived.Test.YtnkbelbalaeieaaDoorRows
import Derived.Test.YtnkbelbalaeieaaDoorCod
import Derived.Test.YtnkbelbalaeieaaDoorCodLaid
namespace Go.Proofs.YtnkbelbalaeieaaDoor
open Go Go.ChangeShapes Go.WideShapes Go.ChangeAt Go.WideElems Go.RowKit Go.Lib

def zeroC : Array Value := #[.slice none 0 0, .agg #[.int .i64 0, .int .i64 0, .int .i64 0, .int .i64 0, .int .i64 0, .int .i64 0, .string ⟨#[]⟩, .int .i64 0, .int .i64 0, .int .i64 0, .int .i64 0, .int .i64 0, .int .i64 0, .int .i64 0, .string ⟨#[]⟩], .agg #[.int .u16 0, .int .u8 0, .string ⟨#[]⟩]]

set_option maxRecDepth 100000 in
theorem codes_lifted (os : Os) (started : os.Started) (H : Type) (enc : TypeId × Value → H) :
    ReturnsInHanded {} Tryd.checked os 8 .any (fun w args => (Rows.entryCodesSpec.pre enc Tryd.prog Tryd.f8 [] false w args ∧ laidMetH Tryd.prog laidRow w) ∧ sizedMet enc Tryd.prog Tryd.f8 (OpenSpec.ofChange Rows.entryCodesSpec) false w args)
      (Rows.entryCodesSpec.post enc Tryd.prog Tryd.f8 false true false false) := by
  refine returnsInHanded_shaped_and (C := Tryd.checked) (X := fun w _ => laidMetH Tryd.prog laidRow w) (fun _ _ _ hh h => h.of_heap hh) own started (by kernel_rfl) Tryd.func8
    (ChangeSpec.witness_shaped (enc := enc) (C := Tryd.checked) (os := os) (X := fun w _ => laidMetH Tryd.prog laidRow w) false (World.doorLaid Tryd.prog 4000 os) zeroC 8 rfl (World.shaped_of_RefB (by kernel_rfl) (by kernel_rfl)) (by kernel_rfl) (by kernel_rfl) (by kernel_rfl) (door_met os _)) ?_
  intro W base args ds gs before hval0 hW _ hsz0 hL hsh _
  have hval : ∀ (j : Nat) t v, Tryd.f8.params[j]? = some t → args[j]? = some v → Value.okWide Tryd.prog W .any base t v := hval0
  have hW' := hW
  obtain ⟨p, q, hA0, hV, rfl, hfz, hnd⟩ := hW
  have hA : DataW.TrodAll enc Tryd.prog W 0 (fun _ => true) true Tryd.f8.params.toList args.toList ds p := hA0
  have hA2 := hA
  obtain ⟨rfl, rfl⟩ := trodVars_none hV
  simp only [List.append_nil] at hW' hsz0
  rw [Tryd.params8] at hA2 hval
  obtain ⟨v0, v1, v2, d0, d1, d2, p0, p1, p2, rfl, rfl, rfl, h0, h1, h2⟩ := trodAll_three hA2
  obtain ⟨A, n, c, rfl, hI⟩ := open_intsIn h0 (okWide_slice Tryd.underlying22 (hval 0 22 v0 rfl rfl)) (fun x hx => hW'.lt x (by simp [hx])) (fun elems spare hd => by
    have := sized_slice hsz0 (j := 0) (t := 22) (e := 3) (elems := elems) (spare := spare) (by rw [Tryd.params8]; rfl) (by rw [hd]; rfl) Tryd.underlying22
    have hby : Tryd.checked.prog.bytesOf 3 = 8 := by kernel_rfl
    rw [hby] at this; exact this)
  obtain ⟨raw, rfl, hr, hrc, hrm⟩ := open_entry (hval 1 26 v1 rfl rfl)
  obtain ⟨xa, xc, inn, rfl, ha, hc, hin⟩ := open_change (hval 2 49 v2 rfl rfl)
  refine (entryCodes_any A n c raw xa xc inn W ha hc hin hr hrc hrm hI (ready_of hL hsh)).mono fun e W' ⟨he, hbe⟩ => ?_
  subst he
  exact ⟨_, rfl, law_post A_laidOut (by rw [Tryd.params8]; decide +kernel) rfl (by kernel_rfl) Tryd.underlying4 rfl hW' hA hbe⟩

theorem entryCodes_holds : Rows.EntryCodesSaid :=
  OpenClaim.holds_of_wide 8 Tryd.f8 rfl rfl rfl rfl rfl rfl rfl ⟨rfl, rfl, rfl, rfl, rfl⟩ rfl rfl rfl rfl rfl (by kernel_rfl) Tryd.func8 (by kernel_rfl)
    (of_decide_eq_true (by kernel_rfl)) (by unfold Func.isWrapper; first | (rw [if_pos (by decide +kernel)]; kernel_rfl) | (rw [if_neg (by decide +kernel)]; exact ⟨rfl, rfl⟩))
    (fun os started H enc _ => codes_lifted os started H enc)
end Go.Proofs.YtnkbelbalaeieaaDoor
