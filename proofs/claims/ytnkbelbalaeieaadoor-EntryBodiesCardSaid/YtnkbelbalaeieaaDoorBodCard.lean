/- The law EntryBodies, as a tied card: for every input it returns true, and each argument reads as it read before; the three tables of the library that it lists hold what the program's text lays (tied). -/
import Derived.Test.YtnkbelbalaeieaaDoorBodRow
import Derived.Test.YtnkbelbalaeieaaDoorCards
import Derived.Test.YtnkbelbalaeieaaDoorTie
namespace Go.Proofs.YtnkbelbalaeieaaDoor
open Go

theorem entryBodies_card : Rows.EntryBodiesCardSaid :=
  Claim7.holds_tied_plain_at .later [] [.data, .data, .data] true Rows.entryBodiesCard.stood.harness true
    entryBodies_holds (fun _ h => by cases h) (by kernel_rfl) (fun _ h => by cases h) entryBodies_row_tie rfl ⟨rfl, rfl⟩ (by kernel_rfl) rfl
    (fun f fn hf hfn => by
      obtain rfl : f = 3 := Option.some.inj ((show Tryd.prog.funcNamed "quadrivium/quadriviumlaw10.EntryBodies" = some 3 by kernel_rfl).symm.trans hf) |>.symm
      obtain rfl : fn = Tryd.f3 := (Option.some.inj (Tryd.func3.symm.trans hfn)).symm
      exact ⟨by kernel_rfl, fun j t ht => by
        rw [Tryd.params3] at ht
        have hm : t ∈ [22, 24, 26] := by simpa using Array.mem_of_getElem? ht
        have hall : ([22, 24, 26].all fun u => !Tryd.prog.wantsStandIn u) = true := by kernel_rfl
        exact (show Tryd.prog.wantsStandIn t = false by simpa using List.all_eq_true.1 hall t hm)⟩)
    (by kernel_rfl)
#print axioms entryBodies_card
end Go.Proofs.YtnkbelbalaeieaaDoor
