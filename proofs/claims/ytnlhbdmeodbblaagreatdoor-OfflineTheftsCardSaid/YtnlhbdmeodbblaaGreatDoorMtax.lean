/- Lemmas. -/
import Derived.Test.YtnlhbdmeodbblaaGreatDoorMtai
import Derived.Test.YtnlhbdmeodbblaaGreatDoorMtat
import Derived.Test.YtnlhbdmeodbblaaGreatDoorMtad
set_option maxRecDepth 100000
set_option maxHeartbeats 16000000
set_option linter.all false
open Go.Proofs.Tryz
open Go.IntKind renaming i64->Oa
open Go.Value renaming int->N9,slice->Oc
open Option renaming some->Og,none->Oh
namespace Go.Proofs.YtnlhbdmeodbblaaGreatDoor
section
open Go Go.Proofs Go.RowKit Go.Sort Go.Lib
theorem I8{ops:Array Oper}{Q:Exit->Act->World->Prop}{S:World->Prop}{i:Nat}{tr:FlowT}{a:Act}{w:World}(oi:Oper)(hi:ops[i]? = Og oi)(hw:Region.wanted oi (yielded ops a.tmps)=true)(t te:TypeId)(x y:Operand)(ho:oi.op=.slice t x Oh (Og y) Oh)(hu:prog.underlying t=Og (.slice te))(hz:∀w,(sizeOf te).run prog w=.ok (prog.cellsOf te) w)
  (p:Option Addr) (n c m:Nat) (hx:a.eval x=Oc p n c) (hy:a.eval y=N9 Oa m) (hm:m<=n) (hc:n<=c) (hp:p=Oh->c=0)
  (h:dB prog ops Q S tr (a.put oi.dst (Oc p m c)) w):dB prog ops Q S (.take i tr) a w:=
 Bs oi (Oc p m c) hi hw (fun w _=>by
  unfold execOp
  simp only[ho,hx,hy,Option.map_some,Option.map_none,Sem.run_bind,Sem.run_pure,oz t te hu hz p n c m hm hc hp w,Result.andThen_ok]) h
