/- The law WireWrites, as a tied card: for every input it returns true, and each argument reads as it read before; the variables of the library that it lists hold what the program's text lays (tied). -/
import Derived.Test.YtfnlihadibnnoaaDoorWWriRow
import Derived.Test.YtfnlihadibnnoaaDoorCards
import Derived.Test.YtfnlihadibnnoaaDoorTie
namespace Go.Proofs.YtfnlihadibnnoaaDoor
open Go

theorem wireWrites_card : Rows.WireWritesCardSaid :=
  Claim7.holds_tied_plain_at .later [] [.data, .data, .data, .sentinel, .sentinel] true Rows.wireWritesCard.stood.harness true
    wireWrites_holds (fun _ h => by cases h) (by kernel_rfl) (fun _ h => by cases h) wireWrites_row_tie rfl ⟨rfl, rfl⟩ (by kernel_rfl) rfl
    (fun f fn hf hfn => by
      obtain rfl : f = 3 := Option.some.inj ((show Tryd.prog.funcNamed "quadrivium/quadriviumlaw01.WireWrites" = some 3 by kernel_rfl).symm.trans hf) |>.symm
      obtain rfl : fn = Tryd.f3 := (Option.some.inj (Tryd.func3.symm.trans hfn)).symm
      exact ⟨by kernel_rfl, fun j t ht => by
        rw [Tryd.params3] at ht
        have hm : t ∈ [22, 23] := by simpa using Array.mem_of_getElem? ht
        have hall : ([22, 23].all fun u => !Tryd.prog.wantsStandIn u) = true := by kernel_rfl
        exact (show Tryd.prog.wantsStandIn t = false by simpa using List.all_eq_true.1 hall t hm)⟩)
    (by kernel_rfl)
#print axioms wireWrites_card
end Go.Proofs.YtfnlihadibnnoaaDoor
