/- Lemmas. -/
import Derived.Test.YtnlhbdmeodbblaaGreatDoorMiaw
set_option maxRecDepth 100000
set_option maxHeartbeats 16000000
set_option linter.all false
open Go.Proofs.Tryz
open Go.Lib renaming hid→aa
open Go.RowKit renaming Below→ac,intOf→aw
open Go.Ending renaming returned→JT
open Go.IntKind renaming i64→JP
open Go.Obj renaming cells→JU
open Go.Value renaming int→JO,string→JQ,slice→JR
open Option renaming none→JW
namespace Go.Proofs.YtnlhbdmeodbblaaGreatDoor
section
open Go Go.Proofs Go.RowKit Go.Sort Go.Lib
attribute [local go_sem ↓] xe
theorem wk (a b:Ent):eqE a b=true↔a=b:=by
 obtain ⟨a0,a1,a2,a3,a4,a5,a6,a7,a8,a9,a10,a11,a12,a13,a14⟩:=a;obtain ⟨b0,b1,b2,b3,b4,b5,b6,b7,b8,b9,b10,b11,b12,b13,b14⟩:=b
 have k:∀ x y:ByteArray,x.toList=y.toList↔x=y:=fun x y=>by
  rw [ByteArray.toList_eq,ByteArray.toList_eq];constructor
  ·intro h;exact ByteArray.ext (Array.toList_inj.1 h)
  ·intro h;rw [h]
 simp [eqE,k]
theorem yQ {oi:Oper} (a:Act) (x y:Operand) (k:TypeId) (ho:oi.op=.binOp .eql 67 x y k) (w:World) (u v:Ent) (hx:a.eval x=u.val) (hy:a.eval y=v.val):(execOp a.eval oi).run prog w=.ok (.value (.bool (eqE u v))) w:=by
 obtain ⟨u0,u1,u2,u3,u4,u5,u6,u7,u8,u9,u10,u11,u12,u13,u14⟩:=u;obtain ⟨v0,v1,v2,v3,v4,v5,v6,v7,v8,v9,v10,v11,v12,v13,v14⟩:=v;unfold execOp;simp only [ho,hx,hy]
 go_simp
theorem Ds (p:Option Addr) (c:Nat) (l:List Ent) (e:Ent) (w:World) (h:LK bK w (JR p l.length c) l) (hl:l.length≤100000) :
  Calls prog 24 #[JR p l.length c,e.val] w (ic (e∈l) w):=by
 have HL:=aa h;have HP:=aa (fun (t:Bool) (w':World) (h:(t=true↔e∈l)∧ac w.heap.size w w')=>(show ic (e∈l) w (JT (.bool t)) w' from ⟨t,rfl,h⟩));clear h;have hx:=heap_alloc_new w (JU e.cells 67);have hba:=al w (JU e.cells 67);obtain ⟨W,hW⟩:∃ u,u=w.alloc (JU e.cells 67):=⟨_,rfl⟩;rw [← hW] at hx hba;have HX:=LP.mk hx;have HBA:=aa hba;clear hx hba;go_enter func24,ntmps24
 go_upto_region 1 with fail
 rw [show w.alloc (JU #[JO JP e.id,JO JP e.school,JO JP e.student,JO JP e.kind,JO JP e.day,JO JP e.on,JQ e.course,JO JP e.credits,JO JP e.grade,JO JP e.ref,JO JP e.fro,JO JP e.programme,JO JP e.version,JO JP e.key,JQ e.mark] 67)=W from hW.symm];clear hW;go_wp2_with fail
 go_loopw [5] (fun i wr=>∃ j:Nat,j≤l.length∧i=JO JP j∧ac W.heap.size W wr∧Hid (∀ y∈l.take j,y ≠ e)) (fun i _=>l.length - (aw i).toNat)
 case atStart=>exact ⟨0,Nat.zero_le _,rfl,Below.refl _ _,aa (fun y hy=>by cases hy)⟩
 case round =>
  obtain ⟨j,hj,rfl,hb,HN⟩:=hrel;by_cases hlt:j < l.length
  ·obtain ⟨g,o,hp,hg,hrow⟩:=dc (kk:=15) HL.out (fun _=>rfl) rfl mOm;have hge:=List.getElem?_eq_getElem hlt;have hrx:=hrow j _ hge;have HT:Hid (l.take (j+1)=l.take j++[l[j]]):=aa (by rw [List.take_add_one,hge];rfl);have HM:Hid (l[j]∈l):=aa (List.getElem_mem hlt);generalize l[j]=x at *;have i1:(j:Int) < (l.length:Int):=mOm;have i2:(0:Int)≤(j:Int):=mOm;have hbw:=ah HBA.out hb;have hS0:wr.drew.rangeAt g (o+j*15) x.cells.toList∧wr.drew.rangeAt w.heap.size 0 e.cells.toList:=by
    refine ⟨fun k v hv=>?_,fun k v hv=>?_⟩
    ·exact (hbw.cell (p:=⟨g,o+j*15+k,JW⟩) hg).trans (hrx k v hv)
    ·rw [Nat.zero_add];exact (Lib.cell_of_heap ((hb.heap_of HX.is)) k).trans (by rw [← Array.getElem?_toList];exact hv)
   have HB:=aa hb
   subst hp;clear hrow hrx hge hb hbw;go_wp2_with fail;refine Jy (S:=fun u=>u.rangeAt g (o+j*15) x.cells.toList∧u.rangeAt w.heap.size 0 e.cells.toList) [(0,true),(1,true),(2,true),(3,true),(4,true),(5,true)] hS0 ?_;have hS:=hS0
   iterate 3 refine aj ?_
   refine dC ⟨_,_,_,_,_,_⟩ rfl mRf 67 (.tmp 14) mRf g (o+j*15) mRf x.cells.toList _ (fun w hSw=>hSw.1) underlying67 rfl mKr ?_;refine ar ?_;refine dC ⟨_,_,_,_,_,_⟩ rfl mRf 67 (.tmp 3) mRf w.heap.size 0 mRf e.cells.toList _ (fun w hSw=>hSw.2) underlying67 rfl mKr ?_;refine ar ?_;refine fU ⟨_,_,_,_,_,_⟩ (.bool (eqE x e)) rfl mRf (fun u _=>yQ _ (.tmp 15) (.tmp 16) _ mRf u x e mRf mRf) ?_;refine ar ?_;simp only [aO,bj];obtain ⟨bt,hbt⟩:∃ b,eqE x e=b:=⟨_,rfl⟩;rw [hbt];have HBT:=aa hbt;have HB2:=aa (ah HB.out (Below.refl _ wr).drew);clear hS hS0 hbt
   cases bt
   ·have HN2:Hid (∀ y∈l.take (j+1),y ≠ e):=aa (by
     rw [HT.out];intro y hy;rcases List.mem_append.1 hy with hy | hy
     ·exact HN.out y hy
     ·rw [List.mem_singleton.1 hy];intro e2;have:=(wk x e).2 e2;rw [HBT.out] at this
      cases this)
    go_wp2_with fail
    go_roundw
    case rel=>exact ⟨j+1,mOm,by go_num,HB2.out,HN2⟩
    case measure=>simp [aw];omega
   ·have he:=(wk x e).1 HBT.out;have HF:=HP.out true wr.drew ⟨⟨fun _=>by rw [← he];exact HM.out,fun _=>rfl⟩,ah HBA.out HB2.out⟩;have HF:=aa HF;clear he;go_wp2_with fail;go_ret;exact HF.out
  ·obtain rfl:j=l.length:=mOm;have i1:¬ (l.length:Int) < (l.length:Int):=mOm;have HF:=aa (HP.out false wr ⟨⟨fun h=>(nomatch h),fun h=>absurd rfl (HN.out e (by rw [List.take_length];exact h))⟩,ah HBA.out hb⟩);clear hb;go_wp2_with fail;go_ret;exact HF.out
