/- The law RequestCodes, as a tied card: for every input it returns true, and each argument reads as it read before; the variables of the library that it lists hold what the program's text lays (tied). -/
import Derived.Test.YtanmmooflhomoaaGreatDoorRqCoRow
import Derived.Test.YtanmmooflhomoaaGreatDoorCards
import Derived.Test.YtanmmooflhomoaaGreatDoorTie
namespace Go.Proofs.YtanmmooflhomoaaGreatDoor
open Go

theorem requestCodes_card : Rows.RequestCodesCardSaid :=
  Claim7.holds_tied_plain_at .later [] [.data, .data, .data, .sentinel, .sentinel] true Rows.requestCodesCard.stood.harness true
    requestCodes_holds (fun _ h => by cases h) (by kernel_rfl) (fun _ h => by cases h) requestCodes_row_tie rfl ⟨rfl, rfl⟩ (by kernel_rfl) rfl
    (fun f fn hf hfn => by
      obtain rfl : f = 4 := Option.some.inj ((show Tryz.prog.funcNamed "quadrivium/quadriviumlaw27.RequestCodes" = some 4 by kernel_rfl).symm.trans hf) |>.symm
      obtain rfl : fn = Tryz.f4 := (Option.some.inj (Tryz.func4.symm.trans hfn)).symm
      exact ⟨by kernel_rfl, fun j t ht => by
        rw [Tryz.params4] at ht
        have hm : t ∈ [25, 26, 39, 9] := by simpa using Array.mem_of_getElem? ht
        have hall : ([25, 26, 39, 9].all fun u => !Tryz.prog.wantsStandIn u) = true := by kernel_rfl
        exact (show Tryz.prog.wantsStandIn t = false by simpa using List.all_eq_true.1 hall t hm)⟩)
    (by kernel_rfl)
#print axioms requestCodes_card
end Go.Proofs.YtanmmooflhomoaaGreatDoor
