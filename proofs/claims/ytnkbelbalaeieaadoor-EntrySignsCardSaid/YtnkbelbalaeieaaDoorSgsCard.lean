/- The law EntrySigns, as a tied card: for every input it returns true, and each argument reads as it read before; the three tables of the library that it lists hold what the program's text lays (tied). -/
import Derived.Test.YtnkbelbalaeieaaDoorSgsRow
import Derived.Test.YtnkbelbalaeieaaDoorCards
import Derived.Test.YtnkbelbalaeieaaDoorTie
namespace Go.Proofs.YtnkbelbalaeieaaDoor
open Go

theorem entrySigns_card : Rows.EntrySignsCardSaid :=
  Claim7.holds_tied_plain_at .later [] [.data, .data, .data] true Rows.entrySignsCard.stood.harness true
    entrySigns_holds (fun _ h => by cases h) (by kernel_rfl) (fun _ h => by cases h) entrySigns_row_tie rfl ⟨rfl, rfl⟩ (by kernel_rfl) rfl
    (fun f fn hf hfn => by
      obtain rfl : f = 6 := Option.some.inj ((show Tryd.prog.funcNamed "quadrivium/quadriviumlaw10.EntrySigns" = some 6 by kernel_rfl).symm.trans hf) |>.symm
      obtain rfl : fn = Tryd.f6 := (Option.some.inj (Tryd.func6.symm.trans hfn)).symm
      exact ⟨by kernel_rfl, fun j t ht => by
        rw [Tryd.params6] at ht
        have hm : t ∈ [22, 24, 26] := by simpa using Array.mem_of_getElem? ht
        have hall : ([22, 24, 26].all fun u => !Tryd.prog.wantsStandIn u) = true := by kernel_rfl
        exact (show Tryd.prog.wantsStandIn t = false by simpa using List.all_eq_true.1 hall t hm)⟩)
    (by kernel_rfl)
#print axioms entrySigns_card
end Go.Proofs.YtnkbelbalaeieaaDoor
