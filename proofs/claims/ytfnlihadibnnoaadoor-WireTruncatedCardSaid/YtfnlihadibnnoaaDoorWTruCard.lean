/- The law WireTruncated, as a tied card: for every input it returns true, and each argument reads as it read before; the variables of the library that it lists hold what the program's text lays (tied). -/
import Derived.Test.YtfnlihadibnnoaaDoorWTruRow
import Derived.Test.YtfnlihadibnnoaaDoorCards
import Derived.Test.YtfnlihadibnnoaaDoorTie
namespace Go.Proofs.YtfnlihadibnnoaaDoor
open Go

theorem wireTruncated_card : Rows.WireTruncatedCardSaid :=
  Claim7.holds_tied_plain_at .later [] [.data, .data, .data, .sentinel, .sentinel] true Rows.wireTruncatedCard.stood.harness true
    wireTruncated_holds (fun _ h => by cases h) (by kernel_rfl) (fun _ h => by cases h) wireTruncated_row_tie rfl ⟨rfl, rfl⟩ (by kernel_rfl) rfl
    (fun f fn hf hfn => by
      obtain rfl : f = 7 := Option.some.inj ((show Tryd.prog.funcNamed "quadrivium/quadriviumlaw01.WireTruncated" = some 7 by kernel_rfl).symm.trans hf) |>.symm
      obtain rfl : fn = Tryd.f7 := (Option.some.inj (Tryd.func7.symm.trans hfn)).symm
      exact ⟨by kernel_rfl, fun j t ht => by
        rw [Tryd.params7] at ht
        have hm : t ∈ [45, 48] := by simpa using Array.mem_of_getElem? ht
        have hall : ([45, 48].all fun u => !Tryd.prog.wantsStandIn u) = true := by kernel_rfl
        exact (show Tryd.prog.wantsStandIn t = false by simpa using List.all_eq_true.1 hall t hm)⟩)
    (by kernel_rfl)
#print axioms wireTruncated_card
end Go.Proofs.YtfnlihadibnnoaaDoor
