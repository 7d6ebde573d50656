/- Lemmas. -/
import Derived.Test.YtnlhbdmeodbblaaGreatDoorMtae
import Derived.Test.YtnlhbdmeodbblaaGreatDoorMtab
set_option maxRecDepth 100000
set_option maxHeartbeats 16000000
set_option linter.all false
open Go.RowKit renaming Below->ac
open Go.IntKind renaming i64->Oa
open Go.Value renaming int->N9,string->Ob
open Option renaming some->Og,none->Oh
namespace Go.Proofs.YtnlhbdmeodbblaaGreatDoor
section
open Go Go.RowKit Go.Sort
theorem EntAt.drew{w:World}{b o:Nat}{e:Ent}(h:EntAt w b o e):EntAt w.drew b o e:=h
attribute [local go_sem] Ent.cells
end
section
open Go Go.RowKit Go.Sort Go.Lib
theorem Only.setCell(w:World)(d i:Nat)(u:Value)(n:Nat):Only d w ((w.setCell ⟨d,i,Oh⟩ u).drewN n):=
 ⟨rfl,rfl,rfl,by simp[World.setCell],fun k _ hk=>Below.heap_setCell w _ _ _ (by simpa using hk)⟩
end
section
namespace Wr
open Go Go.RowKit Go.Sort Go.Lib
def IntsAt(w:World)(b o:Nat)(l:List Int):Prop:=∀k,k<l.length->w.cell? ⟨b,o+k,Oh⟩=Og (N9 Oa (l.getD k 0))/\-9223372036854775808<=l.getD k 0/\l.getD k 0<=9223372036854775807
def TxtsAt(w:World)(b o:Nat)(l:List ByteArray):Prop:=∀k,k<l.length->w.cell? ⟨b,o+k,Oh⟩=Og (Ob (l.getD k ⟨#[]⟩))/\(l.getD k ⟨#[]⟩).size<=1000000
theorem IntsAt.below{w w':World}{b o:Nat}{l:List Int}(h:IntsAt w b o l)(hb:ac w.heap.size w w'):IntsAt w' b o l:=fun k hk=>⟨mv0 hb (h k hk).1,(h k hk).2⟩
theorem TxtsAt.below{w w':World}{b o:Nat}{l:List ByteArray}(h:TxtsAt w b o l)(hb:ac w.heap.size w w'):TxtsAt w' b o l:=fun k hk=>⟨mv0 hb (h k hk).1,(h k hk).2⟩
end Wr
