/- Lemmas. -/
import Derived.Test.YtnlhbdmeodbblaaGreatDoorMtaa
set_option maxRecDepth 100000
set_option maxHeartbeats 16000000
set_option linter.all false
namespace Go.Proofs.YtnlhbdmeodbblaaGreatDoor
section
open Go
def mO(n:Nat):Code->Option Code
 | .block id c=>if id=n then some (.block id c) else mO n c
 | .seq a b=>match mO n a with
  | some c=>some c
  | none=>mO n b
 | .cond _ a b=>match mO n a with
  | some c=>some c
  | none=>mO n b
 | .loop c=>mO n c
 | .scope c=>mO n c
 | _=>none
noncomputable def Lk(f:Func)(n:Nat):Code:=(f.body.bind (mO n)).getD .skip
def my(n:Nat):Code->Option Code
 | .cond (.tmp t) a b=>if t=n then some (.cond (.tmp t) a b) else match my n a with
  | some c=>some c
  | none=>my n b
 | .cond _ a b=>match my n a with
  | some c=>some c
  | none=>my n b
 | .seq a b=>match my n a with
  | some c=>some c
  | none=>my n b
 | .block _ c=>my n c
 | .loop c=>my n c
 | .scope c=>my n c
 | _=>none
noncomputable def Cm(f:Func)(n:Nat):Code:=(f.body.bind (my n)).getD .skip
