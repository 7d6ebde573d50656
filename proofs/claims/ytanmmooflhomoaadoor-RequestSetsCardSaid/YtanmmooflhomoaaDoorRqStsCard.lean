/- The law RequestSets, as a tied card: for every input it returns true, and each argument reads as it read before; the three tables of the library that it lists hold what the program's text lays (tied). -/
import Derived.Test.YtanmmooflhomoaaDoorRqStsRow
import Derived.Test.YtanmmooflhomoaaDoorCards
import Derived.Test.YtanmmooflhomoaaDoorTie
namespace Go.Proofs.YtanmmooflhomoaaDoor
open Go

theorem requestSets_card : Rows.RequestSetsCardSaid :=
  Claim7.holds_tied_plain_at .later [] [.data, .data, .data] true Rows.requestSetsCard.stood.harness false
    requestSets_holds (fun _ h => by cases h) (by kernel_rfl) (fun _ h => by cases h) requestSets_row_tie rfl ⟨rfl, rfl⟩ (by kernel_rfl) rfl
    (fun f fn hf hfn => by
      obtain rfl : f = 6 := Option.some.inj ((show Tryd.prog.funcNamed "quadrivium/quadriviumlaw27.RequestSets" = some 6 by kernel_rfl).symm.trans hf) |>.symm
      obtain rfl : fn = Tryd.f6 := (Option.some.inj (Tryd.func6.symm.trans hfn)).symm
      exact ⟨by kernel_rfl, fun j t ht => by
        rw [Tryd.params6] at ht
        have hm : t ∈ [25, 5] := by simpa using Array.mem_of_getElem? ht
        have hall : ([25, 5].all fun u => !Tryd.prog.wantsStandIn u) = true := by kernel_rfl
        exact (show Tryd.prog.wantsStandIn t = false by simpa using List.all_eq_true.1 hall t hm)⟩)
    (by kernel_rfl)
#print axioms requestSets_card
end Go.Proofs.YtanmmooflhomoaaDoor
