/- The law RequestChecks, as a tied card: for every input it returns true, and each argument reads as it read before; the three tables of the library that it lists hold what the program's text lays (tied). -/
import Derived.Test.YtanmmooflhomoaaDoorRqChlRow
import Derived.Test.YtanmmooflhomoaaDoorCards
import Derived.Test.YtanmmooflhomoaaDoorTie
namespace Go.Proofs.YtanmmooflhomoaaDoor
open Go

theorem requestChecks_card : Rows.RequestChecksCardSaid :=
  Claim7.holds_tied_plain_at .later [] [.data, .data, .data] true Rows.requestChecksCard.stood.harness false
    requestChecks_holds (fun _ h => by cases h) (by kernel_rfl) (fun _ h => by cases h) requestChecks_row_tie rfl ⟨rfl, rfl⟩ (by kernel_rfl) rfl
    (fun f fn hf hfn => by
      obtain rfl : f = 5 := Option.some.inj ((show Tryd.prog.funcNamed "quadrivium/quadriviumlaw27.RequestChecks" = some 5 by kernel_rfl).symm.trans hf) |>.symm
      obtain rfl : fn = Tryd.f5 := (Option.some.inj (Tryd.func5.symm.trans hfn)).symm
      exact ⟨by kernel_rfl, fun j t ht => by
        rw [Tryd.params5] at ht
        have hm : t ∈ [25, 27] := by simpa using Array.mem_of_getElem? ht
        have hall : ([25, 27].all fun u => !Tryd.prog.wantsStandIn u) = true := by kernel_rfl
        exact (show Tryd.prog.wantsStandIn t = false by simpa using List.all_eq_true.1 hall t hm)⟩)
    (by kernel_rfl)
#print axioms requestChecks_card
end Go.Proofs.YtanmmooflhomoaaDoor
