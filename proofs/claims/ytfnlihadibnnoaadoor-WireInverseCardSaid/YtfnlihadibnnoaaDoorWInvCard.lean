/- The law WireInverse, as a tied card: for every input it returns true, and each argument reads as it read before; the variables of the library that it lists hold what the program's text lays (tied). -/
import Derived.Test.YtfnlihadibnnoaaDoorWInvRow
import Derived.Test.YtfnlihadibnnoaaDoorCards
import Derived.Test.YtfnlihadibnnoaaDoorTie
namespace Go.Proofs.YtfnlihadibnnoaaDoor
open Go

theorem wireInverse_card : Rows.WireInverseCardSaid :=
  Claim7.holds_tied_plain_at .later [] [.data, .data, .data, .sentinel, .sentinel] true Rows.wireInverseCard.stood.harness true
    wireInverse_holds (fun _ h => by cases h) (by kernel_rfl) (fun _ h => by cases h) wireInverse_row_tie rfl ⟨rfl, rfl⟩ (by kernel_rfl) rfl
    (fun f fn hf hfn => by
      obtain rfl : f = 5 := Option.some.inj ((show Tryd.prog.funcNamed "quadrivium/quadriviumlaw01.WireInverse" = some 5 by kernel_rfl).symm.trans hf) |>.symm
      obtain rfl : fn = Tryd.f5 := (Option.some.inj (Tryd.func5.symm.trans hfn)).symm
      exact ⟨by kernel_rfl, fun j t ht => by
        rw [Tryd.params5] at ht
        have hm : t ∈ [43] := by simpa using Array.mem_of_getElem? ht
        have hall : ([43].all fun u => !Tryd.prog.wantsStandIn u) = true := by kernel_rfl
        exact (show Tryd.prog.wantsStandIn t = false by simpa using List.all_eq_true.1 hall t hm)⟩)
    (by kernel_rfl)
#print axioms wireInverse_card
end Go.Proofs.YtfnlihadibnnoaaDoor
