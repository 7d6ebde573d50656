/- Lemmas. -/
import Derived.Test.YtnlhbdmeodbblaaGreatDoorMibd
import Derived.Test.YtnlhbdmeodbblaaGreatDoorMibc
set_option maxRecDepth 100000
set_option maxHeartbeats 16000000
set_option linter.all false
open Option renaming none→JW
namespace Go.Proofs.YtnlhbdmeodbblaaGreatDoor
section
open Go Go.Proofs Go.RowKit Go.Maps Go.Sort Go.Lib
structure CaseRows (w:World) (A B D:Option Addr) (n m q cD:Nat):Prop where
 hA:LW w.heap.size A n w
 hB:LW w.heap.size B m w
 hD:LW w.heap.size D q w
 cap:q≤cD
 nil:D=JW→cD=0
theorem CaseRows.up {w w':World} {A B D:Option Addr} {n m q cD:Nat} (h:CaseRows w A B D n m q cD) (hb:RowKit.Below w.heap.size w w'):CaseRows w' A B D n m q cD:=
 ⟨h.hA.up hb hb.size,h.hB.up hb hb.size,h.hD.up hb hb.size,h.cap,h.nil⟩
