/- The law RequestActive, as a tied card: for every input it returns true, and each argument reads as it read before; the three tables of the library that it lists hold what the program's text lays (tied). -/
import Derived.Test.YtanmmooflhomoaaDoorRqAclRow
import Derived.Test.YtanmmooflhomoaaDoorCards
import Derived.Test.YtanmmooflhomoaaDoorTie
namespace Go.Proofs.YtanmmooflhomoaaDoor
open Go

theorem requestActive_card : Rows.RequestActiveCardSaid :=
  Claim7.holds_tied_plain_at .later [] [.data, .data, .data] true Rows.requestActiveCard.stood.harness false
    requestActive_holds (fun _ h => by cases h) (by kernel_rfl) (fun _ h => by cases h) requestActive_row_tie rfl ⟨rfl, rfl⟩ (by kernel_rfl) rfl
    (fun f fn hf hfn => by
      obtain rfl : f = 3 := Option.some.inj ((show Tryd.prog.funcNamed "quadrivium/quadriviumlaw27.RequestActive" = some 3 by kernel_rfl).symm.trans hf) |>.symm
      obtain rfl : fn = Tryd.f3 := (Option.some.inj (Tryd.func3.symm.trans hfn)).symm
      exact ⟨by kernel_rfl, fun j t ht => by
        rw [Tryd.params3] at ht
        have hm : t ∈ [25] := by simpa using Array.mem_of_getElem? ht
        have hall : ([25].all fun u => !Tryd.prog.wantsStandIn u) = true := by kernel_rfl
        exact (show Tryd.prog.wantsStandIn t = false by simpa using List.all_eq_true.1 hall t hm)⟩)
    (by kernel_rfl)
#print axioms requestActive_card
end Go.Proofs.YtanmmooflhomoaaDoor
