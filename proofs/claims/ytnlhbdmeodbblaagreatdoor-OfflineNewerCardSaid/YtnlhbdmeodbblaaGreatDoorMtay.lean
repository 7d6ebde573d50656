/- Lemmas. -/
import Derived.Test.YtnlhbdmeodbblaaGreatDoorMtar
import Derived.Test.YtnlhbdmeodbblaaGreatDoorMtau
set_option maxRecDepth 100000
set_option maxHeartbeats 16000000
set_option linter.all false
namespace Go.Proofs.YtnlhbdmeodbblaaGreatDoor
section
namespace Wr
open Go Go.RowKit Go.Sort Go.Lib
theorem Ready.alloc{w:World}(h:Ready w)(o:Obj):Ready (w.alloc o):=h.below (aq w o)
end Wr
open Go Go.RowKit Go.Sort Go.Lib
attribute [local go_sem] Ent.cells
