/- The law RatioRounds, as a tied card: for every input it returns true, and each argument reads as it read before; the variables of the library that it lists hold what the program's text lays (tied). -/
import Derived.Test.YtmbjoenegcnoiaaDoorQRdsRow
import Derived.Test.YtmbjoenegcnoiaaDoorCards
import Derived.Test.YtmbjoenegcnoiaaDoorTie
namespace Go.Proofs.YtmbjoenegcnoiaaDoor
open Go

theorem ratioRounds_card : Rows.RatioRoundsCardSaid :=
  Claim7.holds_tied_plain_at .later [] [.data, .data, .data, .sentinel, .sentinel] true Rows.ratioRoundsCard.stood.harness true
    ratioRounds_holds (fun _ h => by cases h) (by kernel_rfl) (fun _ h => by cases h) ratioRounds_row_tie rfl ⟨rfl, rfl⟩ (by kernel_rfl) rfl
    (fun f fn hf hfn => by
      obtain rfl : f = 3 := Option.some.inj ((show Tryd.prog.funcNamed "quadrivium/quadriviumlaw04.RatioRounds" = some 3 by kernel_rfl).symm.trans hf) |>.symm
      obtain rfl : fn = Tryd.f3 := (Option.some.inj (Tryd.func3.symm.trans hfn)).symm
      exact ⟨by kernel_rfl, fun j t ht => by
        rw [Tryd.params3] at ht
        have hm : t ∈ [26, 3] := by simpa using Array.mem_of_getElem? ht
        have hall : ([26, 3].all fun u => !Tryd.prog.wantsStandIn u) = true := by kernel_rfl
        exact (show Tryd.prog.wantsStandIn t = false by simpa using List.all_eq_true.1 hall t hm)⟩)
    (by kernel_rfl)
#print axioms ratioRounds_card
end Go.Proofs.YtmbjoenegcnoiaaDoor
