/- Lemmas. -/
import Derived.Test.YtnlhbdmeodbblaaGreatDoorMtae
import Derived.Test.YtnlhbdmeodbblaaGreatDoorMtak
set_option maxRecDepth 100000
set_option maxHeartbeats 16000000
set_option linter.all false
namespace Go.Proofs.YtnlhbdmeodbblaaGreatDoor
section
open Go Go.Proofs Go.RowKit Go.Sort Go.Lib
theorem ij.below{fb:Nat}{bv dv:Value}{L xs:List Blk}{w w1 w2:World}(h:ij fb bv dv L xs w w1)(hb:RowKit.Below w1.heap.size w1 w2):ij fb bv dv L xs w w2:=by obtain⟨⟨bv',dv',h1,h2,h3⟩,h4⟩:=h;exact⟨⟨bv',dv',h1.below hb,h2,h3⟩,h4.trans (aF.of hb)⟩
