/- The law WirePrefix, as a tied card: for every input it returns true, and each argument reads as it read before; the variables of the library that it lists hold what the program's text lays (tied). -/
import Derived.Test.YtfnlihadibnnoaaDoorWPreRow
import Derived.Test.YtfnlihadibnnoaaDoorCards
import Derived.Test.YtfnlihadibnnoaaDoorTie
namespace Go.Proofs.YtfnlihadibnnoaaDoor
open Go

theorem wirePrefix_card : Rows.WirePrefixCardSaid :=
  Claim7.holds_tied_plain_at .later [] [.data, .data, .data, .sentinel, .sentinel] true Rows.wirePrefixCard.stood.harness true
    wirePrefix_holds (fun _ h => by cases h) (by kernel_rfl) (fun _ h => by cases h) wirePrefix_row_tie rfl ⟨rfl, rfl⟩ (by kernel_rfl) rfl
    (fun f fn hf hfn => by
      obtain rfl : f = 8 := Option.some.inj ((show Tryd.prog.funcNamed "quadrivium/quadriviumlaw01.WirePrefix" = some 8 by kernel_rfl).symm.trans hf) |>.symm
      obtain rfl : fn = Tryd.f8 := (Option.some.inj (Tryd.func8.symm.trans hfn)).symm
      exact ⟨by kernel_rfl, fun j t ht => by
        rw [Tryd.params8] at ht
        have hm : t ∈ [45, 45] := by simpa using Array.mem_of_getElem? ht
        have hall : ([45, 45].all fun u => !Tryd.prog.wantsStandIn u) = true := by kernel_rfl
        exact (show Tryd.prog.wantsStandIn t = false by simpa using List.all_eq_true.1 hall t hm)⟩)
    (by kernel_rfl)
#print axioms wirePrefix_card
end Go.Proofs.YtfnlihadibnnoaaDoor
