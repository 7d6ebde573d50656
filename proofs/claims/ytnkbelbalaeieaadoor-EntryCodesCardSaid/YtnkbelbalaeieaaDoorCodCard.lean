/- The law EntryCodes, as a tied card: for every input it returns true, and each argument reads as it read before; the variables of the library that it lists hold what the program's text lays (tied). -/
import Derived.Test.YtnkbelbalaeieaaDoorCodRow
import Derived.Test.YtnkbelbalaeieaaDoorCards
import Derived.Test.YtnkbelbalaeieaaDoorTie
namespace Go.Proofs.YtnkbelbalaeieaaDoor
open Go

theorem entryCodes_card : Rows.EntryCodesCardSaid :=
  Claim7.holds_tied_plain_at .later [] [.data, .data, .data, .sentinel, .sentinel] true Rows.entryCodesCard.stood.harness true
    entryCodes_holds (fun _ h => by cases h) (by kernel_rfl) (fun _ h => by cases h) entryCodes_row_tie rfl ⟨rfl, rfl⟩ (by kernel_rfl) rfl
    (fun f fn hf hfn => by
      obtain rfl : f = 8 := Option.some.inj ((show Tryd.prog.funcNamed "quadrivium/quadriviumlaw10.EntryCodes" = some 8 by kernel_rfl).symm.trans hf) |>.symm
      obtain rfl : fn = Tryd.f8 := (Option.some.inj (Tryd.func8.symm.trans hfn)).symm
      exact ⟨by kernel_rfl, fun j t ht => by
        rw [Tryd.params8] at ht
        have hm : t ∈ [22, 26, 49] := by simpa using Array.mem_of_getElem? ht
        have hall : ([22, 26, 49].all fun u => !Tryd.prog.wantsStandIn u) = true := by kernel_rfl
        exact (show Tryd.prog.wantsStandIn t = false by simpa using List.all_eq_true.1 hall t hm)⟩)
    (by kernel_rfl)
#print axioms entryCodes_card
end Go.Proofs.YtnkbelbalaeieaaDoor
