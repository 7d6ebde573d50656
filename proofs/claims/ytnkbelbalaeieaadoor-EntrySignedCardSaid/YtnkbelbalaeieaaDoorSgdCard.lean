/- The law EntrySigned, as a tied card: for every input it returns true, and each argument reads as it read before; the three tables of the library that it lists hold what the program's text lays (tied). -/
import Derived.Test.YtnkbelbalaeieaaDoorSgdRow
import Derived.Test.YtnkbelbalaeieaaDoorCards
import Derived.Test.YtnkbelbalaeieaaDoorTie
namespace Go.Proofs.YtnkbelbalaeieaaDoor
open Go

theorem entrySigned_card : Rows.EntrySignedCardSaid :=
  Claim7.holds_tied_plain_at .later [] [.data, .data, .data] true Rows.entrySignedCard.stood.harness true
    entrySigned_holds (fun _ h => by cases h) (by kernel_rfl) (fun _ h => by cases h) entrySigned_row_tie rfl ⟨rfl, rfl⟩ (by kernel_rfl) rfl
    (fun f fn hf hfn => by
      obtain rfl : f = 7 := Option.some.inj ((show Tryd.prog.funcNamed "quadrivium/quadriviumlaw10.EntrySigned" = some 7 by kernel_rfl).symm.trans hf) |>.symm
      obtain rfl : fn = Tryd.f7 := (Option.some.inj (Tryd.func7.symm.trans hfn)).symm
      exact ⟨by kernel_rfl, fun j t ht => by
        rw [Tryd.params7] at ht
        have hm : t ∈ [22, 5, 43] := by simpa using Array.mem_of_getElem? ht
        have hall : ([22, 5, 43].all fun u => !Tryd.prog.wantsStandIn u) = true := by kernel_rfl
        exact (show Tryd.prog.wantsStandIn t = false by simpa using List.all_eq_true.1 hall t hm)⟩)
    (by kernel_rfl)
#print axioms entrySigned_card
end Go.Proofs.YtnkbelbalaeieaaDoor
