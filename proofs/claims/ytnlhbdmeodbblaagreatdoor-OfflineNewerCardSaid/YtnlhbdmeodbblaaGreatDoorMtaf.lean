/- Lemmas. -/
import Derived.Test.YtnlhbdmeodbblaaGreatDoorMtac
set_option maxRecDepth 100000
set_option maxHeartbeats 16000000
set_option linter.all false
namespace Go.Proofs.YtnlhbdmeodbblaaGreatDoor
section
open Go.Sort
section
variable {α:Type} (ky:α->Int)
variable {ky}
end
section
variable {α:Type} [Inhabited α] {ky:α->Int}
end
section
variable {α β:Type} (ky:α->Int)
variable {ky}
theorem BrS.len{L a:List α}(h:BrS ky L a):a.length=L.length:=by obtain⟨T,h3,h4,_⟩:=h;rw[<-h3,List.length_map,h4.length_eq,List.length_zipIdx]
end
