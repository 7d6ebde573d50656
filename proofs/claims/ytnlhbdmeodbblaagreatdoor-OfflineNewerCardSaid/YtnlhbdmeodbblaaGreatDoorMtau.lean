/- Lemmas. -/
import Derived.Test.YtnlhbdmeodbblaaGreatDoorMtaj
import Derived.Test.YtnlhbdmeodbblaaGreatDoorMtal
import Derived.Test.YtnlhbdmeodbblaaGreatDoorMtaq
import Derived.Test.YtnlhbdmeodbblaaGreatDoorMtap
set_option maxRecDepth 100000
set_option maxHeartbeats 16000000
set_option linter.all false
open Go.Lib renaming cell_of_heap->ae
open Go.IntKind renaming i64->Oa
open Go.Obj renaming cells->Of
open Go.Value renaming int->N9,string->Ob,slice->Oc
open Option renaming some->Og,none->Oh
namespace Go.Proofs.YtnlhbdmeodbblaaGreatDoor
section
open Go Go.RowKit Go.Sort Go.Lib
def EntRow(w:World)(b:Nat)(l:List Ent):Prop:=w.heap[b]? = Og (Of (iN l).toArray 67 (0,0))
theorem EntRow.below{w w':World}{b:Nat}{l:List Ent}(h:EntRow w b l)(hk:Below w.heap.size w w'):EntRow w' b l:=by unfold EntRow at *;rw[hk.block b (av h)];exact h
theorem EntRow.at_{w:World}{b:Nat}{l:List Ent}(h:EntRow w b l){k:Nat}{e:Ent}(hk:l[k]? = Og e):EntAt w b (k*15) e:=fun j v hv=>by
 unfold EntRow at h;rw[ae h]
 simpa using xz l k e hk j v hv
def ErrRow(w:World)(b:Nat)(l:List Int):Prop:=w.heap[b]? = Og (Of (l.map (Value.int Oa)).toArray 52 (0,0))
theorem ErrRow.below{w w':World}{b:Nat}{l:List Int}(h:ErrRow w b l)(hk:Below w.heap.size w w'):ErrRow w' b l:=by unfold ErrRow at *;rw[hk.block b (av h)];exact h
theorem ErrRow.cell{w:World}{b:Nat}{l:List Int}(h:ErrRow w b l){k:Nat}{n:Int}(hk:l[k]? = Og n):w.cell? ⟨b,k,Oh⟩=Og (N9 Oa n):=by unfold ErrRow at h;rw[ae h];simp[hk]
end
section
open Go Go.RowKit Go.Sort Go.Lib
attribute [local go_sem] Ent.cells
theorem eT.set{w:World}{b b' j:Nat}{u:Value}{l:List Int}(h:eT w b l)(hb:b≠b'):eT (w.setCell ⟨b',j,Oh⟩ u) b l:=by unfold eT at *;rw[Below.heap_setCell _ _ _ _ hb];exact h
end
section
open Go Go.RowKit Go.Sort Go.Lib
theorem Ents.cap{base:Nat}{w:World}{es:List Ent}{a:Addr}{n cap:Nat}(h:Ents base w (Oc (Og a) n cap) es):n<=cap:=by
 rcases h.2 with ⟨hv,_⟩|⟨g,cap',cur,hv,hb,hg,hn,hc,hs,htake⟩
 .cases hv
 .injection hv with h1 h2 h3;subst h2;subst h3;omega
end
section
namespace Wr
open Go Go.Lib
end Wr
namespace Wr
open Go Go.Lib
end Wr
namespace Wr
open Go Go.Lib
end Wr
namespace Wr
open Go Go.RowKit Go.Sort Go.Lib
def RfAt(w:World)(p:Nat)(s:ByteArray)(k:Nat)(b:Bool):Prop:=(w.cell? ⟨p,0,Oh⟩=Og (Ob s)/\w.cell? ⟨p,1,Oh⟩=Og (N9 Oa k)/\w.cell? ⟨p,2,Oh⟩=Og (.bool b))/\w.frozen? ⟨p,0,Oh⟩=false/\w.frozen? ⟨p,1,Oh⟩=false/\w.frozen? ⟨p,2,Oh⟩=false
theorem RfAt.lt{w:World}{p:Nat}{s:ByteArray}{k:Nat}{b:Bool}(h:RfAt w p s k b):p<w.heap.size:=World.block_lt_of_cell? w _ h.1.1
theorem RfAt.below{w w':World}{p:Nat}{s:ByteArray}{k:Nat}{b:Bool}(h:RfAt w p s k b)(hb:RowKit.Below w.heap.size w w'):RfAt w' p s k b:=
 ⟨⟨mv0 hb h.1.1,mv0 hb h.1.2.1,mv0 hb h.1.2.2⟩,((ql hb).2 _ _ h.lt).trans h.2.1,((ql hb).2 _ _ h.lt).trans h.2.2.1,((ql hb).2 _ _ h.lt).trans h.2.2.2⟩
end Wr
namespace Wr
open Go Go.RowKit Go.Sort Go.Lib
end Wr
namespace Wr
open Go Go.RowKit Go.Sort Go.Lib
end Wr
end
section
open Go Go.Proofs Go.RowKit Go.Sort Go.Lib
theorem OwnR.row{w0 w:World}{v:Value}{n:Nat}{M:List Blk}(h:OwnR w0 w v n M):ar iS w v M:=
 fo (k:=3) (fun _=>rfl) mDe h.2.2.1
