/- The law WireNothing, as a tied card: for every input it returns true, and each argument reads as it read before; the variables of the library that it lists hold what the program's text lays (tied). -/
import Derived.Test.YtfnlihadibnnoaaDoorWNotRow
import Derived.Test.YtfnlihadibnnoaaDoorCards
import Derived.Test.YtfnlihadibnnoaaDoorTie
namespace Go.Proofs.YtfnlihadibnnoaaDoor
open Go

theorem wireNothing_card : Rows.WireNothingCardSaid :=
  Claim7.holds_tied_plain_at .later [] [.data, .data, .data, .sentinel, .sentinel] true Rows.wireNothingCard.stood.harness true
    wireNothing_holds (fun _ h => by cases h) (by kernel_rfl) (fun _ h => by cases h) wireNothing_row_tie rfl ⟨rfl, rfl⟩ (by kernel_rfl) rfl
    (fun f fn hf hfn => by
      obtain rfl : f = 9 := Option.some.inj ((show Tryd.prog.funcNamed "quadrivium/quadriviumlaw01.WireNothing" = some 9 by kernel_rfl).symm.trans hf) |>.symm
      obtain rfl : fn = Tryd.f9 := (Option.some.inj (Tryd.func9.symm.trans hfn)).symm
      exact ⟨by kernel_rfl, fun j t ht => by
        rw [Tryd.params9] at ht
        have hm : t ∈ [5] := by simpa using Array.mem_of_getElem? ht
        have hall : ([5].all fun u => !Tryd.prog.wantsStandIn u) = true := by kernel_rfl
        exact (show Tryd.prog.wantsStandIn t = false by simpa using List.all_eq_true.1 hall t hm)⟩)
    (by kernel_rfl)
#print axioms wireNothing_card
end Go.Proofs.YtfnlihadibnnoaaDoor
