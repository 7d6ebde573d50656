/- Lemmas. -/
import Derived.Test.YtnlhbdmeodbblaaGreatDoorMtaz
import Derived.Test.YtnlhbdmeodbblaaGreatDoorMtaw
set_option maxRecDepth 100000
set_option maxHeartbeats 16000000
set_option linter.all false
open Go.Proofs.Tryz
open Bool renaming not_false->jO
open Go.Lib renaming byteCells->jA,cell_of_heap->ae,hid->aa
open List renaming drop_length->gZ,eq_nil_of_length_eq_zero->bn,getD_eq_getElem?_getD->bi,getElem?_eq_getElem->ai,getElem?_eq_some_iff->aA,getElem?_map->en,getElem_mem->bA,length_append->ap,length_cons->bB,length_nil->cJ,length_take->aI,mem_of_mem_take->cu,take_add_one->aR,take_length->aT
open Nat renaming add_zero->ew,le_refl->az,lt_of_lt_of_le->ax,zero_le->aP
open Option renaming toList_some->df
open Go.RowKit renaming Below->ac,intOf->aw
open Go.World renaming block_lt_of_cell?->al
open Go.Ending renaming returned->Oe
open Go.IntKind renaming i64->Oa
open Go.Obj renaming cells->Of
open Go.Value renaming int->N9,string->Ob,slice->Oc,pointer->Od
open Option renaming some->Og,none->Oh
namespace Go.Proofs.YtnlhbdmeodbblaaGreatDoor
open Go Go.RowKit Go.Sort Go.Lib
section
def Ae(c:UInt8):List Value:=[N9 .u8 c.toNat]
theorem uG:∀x:UInt8,(Ae x).length=1:=fun _=>rfl
theorem u8T:RowT prog Ae 1 5 94 where
 len _:=rfl
 one x u hu:=by simp[Ae] at hu;subst hu;rfl
 pos:=mDe
 und:=underlying94
 info:=by
  obtain⟨i0,hi,h1,h2,h3⟩:=info_parts (show(prog.info? 5).map (fun i=>(i.zero,i.size,i.bytes))=Og (Og (N9 .u8 0),1,1) by kernel_rfl);exact⟨i0,_,hi,h1,h2,rfl,mOm⟩
theorem td(t:TypeId)(d:UInt8):binOp .shr t (N9 .u8 (d.toNat:Int)) (N9 .u64 4)=pure (N9 .u8 ((d.toNat / 16:Nat):Int)):=by
 show Op.shift .shr .u8 _ .u64 4=_
 unfold Op.shift
 rw[if_neg mDe]
 show pure (Value.int .u8 ((d.toNat:Int).fdiv (2^(min (4:Int).toNat 8))))=_
 rw[show((2:Int)^(min (4:Int).toNat 8))=16 by decide,Int.fdiv_eq_ediv_of_nonneg _ mDe]
 rfl
theorem tc(t:TypeId)(d:UInt8):binOp .and t (N9 .u8 (d.toNat:Int)) (N9 .u8 15)=pure (N9 .u8 ((d.toNat%16:Nat):Int)):=by
 have:∀n:Fin 256,IntKind.u8.wrap ((BitVec.ofInt 8 (n.val:Int) &&& BitVec.ofInt 8 15).toNat:Nat)=((n.val%16:Nat):Int):=mDe;have h:=this ⟨d.toNat,d.toNat_lt⟩
 show pure (Value.int .u8 (IntKind.u8.wrap ((BitVec.ofInt 8 (d.toNat:Int) &&& BitVec.ofInt 8 15).toNat:Nat)))=_
 rw[h]
attribute [local go_sem 2000] td tc
theorem JY:∀n,n<16->([48,49,50,51,52,53,54,55,56,57,97,98,99,100,101,102]:List UInt8)[n]? = Og (jy n):=mDe
theorem uJ(l:List UInt8)(d:UInt8):fK (l++[d])=fK l++[jy (d.toNat / 16),jy (d.toNat%16)]:=by unfold fK;rw[List.flatMap_append];simp
theorem Co{w:World}{v:Value}{L:List UInt8}{p:Option Addr}{n c:Nat}(h:ar Ae w v L)(hv:v=Oc p n c)(hl:0<L.length):(convert 94 9 v).run prog w=.ok (Ob ⟨L.toArray⟩) w:=by
 obtain⟨g,o,rfl,hg,hr⟩:=dh (kk:=1) h uG hv hl;have hn:n=L.length:=by obtain⟨p',c',e,_⟩:=h;rw[hv] at e;injection e
 subst hv hn
 have hcv:=run_convert_bytes_arg w 94 5 underlying94 underlying5 g o L.length c (L.map fun x=>(x.toNat:Int)) mSi (fun i hi=>by
  have h1:=hr i _ (ai hi) 0 _ rfl;rw[Nat.mul_one,ew] at h1;rw[bi,en,ai hi]
  exact h1) 9 underlying9
 have e:strOfNums (L.map fun x=>(x.toNat:Int))=⟨L.toArray⟩:=by
  unfold strOfNums;rw[List.map_map]
  congr 2
  refine(List.map_congr_left (fun x _=>?_)).trans (List.map_id L)
  show UInt8.ofNat (x.toNat:Int).toNat=x
  rw[Int.toNat_natCast]
  exact UInt8.toNat_inj.1 (by rw[UInt8.toNat_ofNat'];have:=x.toNat_lt;omega)
 rw[hcv,e]
theorem Ay(s:ByteArray)(hs0:0<s.size)(hs:s.size<=1000)(w:World) :
  Calls prog 213 #[Ob s] w fun e w'=>e=Oe (Ob ⟨(fK s.data.toList).toArray⟩)/\ac w.heap.size w w':=by
 obtain⟨LB,hLB⟩:∃x,x=Obj.cells #[N9 .u8 48,N9 .u8 49,N9 .u8 50,N9 .u8 51,N9 .u8 52,N9 .u8 53,N9 .u8 54,N9 .u8 55,N9 .u8 56,N9 .u8 57,N9 .u8 97,N9 .u8 98,N9 .u8 99,N9 .u8 100,N9 .u8 101,N9 .u8 102] 261:=⟨_,rfl⟩;have hcv:(convert 9 94 (Ob s)).run prog (w.alloc LB)=.ok (Oc (Og ⟨(w.alloc LB).heap.size,0,Oh⟩) s.size (grownCap (w.alloc LB) s.size 0 5)) (bytesWorld (w.alloc LB) 5 s):=Lib.run_convert_string_bytes (w.alloc LB) _ _ _ s underlying9 underlying94 underlying5;have hcl:∀j,j<s.size->(bytesWorld (w.alloc LB) 5 s).cell? ⟨(w.alloc LB).heap.size,j,Oh⟩=Og (N9 .u8 (s.data.toList.getD j 0).toNat):=fun j hj=>bytesWorld_cell (w.alloc LB) _ s j hj
 have hbw:=bytesWorld_below (w.alloc LB) 5 s;have hb0:=aj w LB;have hl0:(w.alloc LB).heap[w.heap.size]? = Og LB:=heap_alloc_new w LB;have hsz1:(w.alloc LB).heap.size=w.heap.size+1:=size_alloc w LB
 have HLET:Hid (∀n,n<16->(bytesWorld (w.alloc LB) 5 s).cell? ⟨w.heap.size,n,Oh⟩=Og (N9 .u8 ((jy n).toNat:Int))):=aa (fun n hn=>by
  rw[hbw.cell (p:=⟨w.heap.size,n,Oh⟩) (by show w.heap.size<_;omega),ae (hl0.trans (by rw[hLB])) n]
  rw[show(#[N9 .u8 48,N9 .u8 49,N9 .u8 50,N9 .u8 51,N9 .u8 52,N9 .u8 53,N9 .u8 54,N9 .u8 55,N9 .u8 56,N9 .u8 57,N9 .u8 97,N9 .u8 98,N9 .u8 99,N9 .u8 100,N9 .u8 101,N9 .u8 102]:Array Value)=(([48,49,50,51,52,53,54,55,56,57,97,98,99,100,101,102]:List UInt8).map fun c=>Value.int .u8 (c.toNat:Int)).toArray from rfl,List.getElem?_toArray,en,JY n hn];rfl)
 have HPS:=aa (bF s)
 go_enter func213,ntmps213;rw[hLB] at hcv;go_wp2_with fail;rw[<-hLB];rw[hsz1] at hcl;generalize grownCap (w.alloc LB) s.size 0 5=cap at *;generalize bytesWorld (w.alloc LB) 5 s=W1 at *;have hbW:ac w.heap.size w W1:=hb0.trans (hbw.mono hb0.size);have hlt1:w.heap.size<W1.heap.size:=by have:=hbw.size;omega
 have hlt2:0<s.size->w.heap.size+1<W1.heap.size:=fun h=>al W1 _ (hcl 0 h)
 replace hlt2:=hlt2 hs0;have HCL:=aa hcl;clear hcl hcv hbw hb0 hl0 hLB
 go_loopw [4,11] (fun v i wr=>∃k:Nat,k<=s.size/\i=N9 Oa k/\bz Ae 1 5 W1 wr v (fK (s.data.toList.take k))) (fun _ i _=>s.size-(aw i).toNat)
 case atStart=>exact⟨0,aP _,rfl,bz.nil _ _ _ _⟩
 case round =>
  obtain⟨k,hk,rfl,hO⟩:=hrel;obtain⟨pv,cv,hv⟩:=hO.form;subst hv;have hdl:(fK (s.data.toList.take k)).length=2*k:=by rw[tH,aI,<-HPS.out];omega
  by_cases hlt:k<s.size
  .have i1:(k:Int)<(s.size:Int):=mOm;have htl:k<s.data.toList.length:=by rw[<-HPS.out];exact hlt
   have q0:=(hO.low.cell (p:=⟨w.heap.size+1,k,Oh⟩) hlt2).trans (HCL.out k hlt);obtain⟨d,hd⟩:∃d,s.data.toList.getD k 0=d:=⟨_,rfl⟩;rw[hd] at q0
   have HT:Hid (fK (s.data.toList.take (k+1))=fK (s.data.toList.take k)++[jy (d.toNat / 16),jy (d.toNat%16)]):=aa (by
    rw[<-uJ,aR,ai htl,<-hd,bi,ai htl];rfl)
   have hd8:=UInt8.toNat_lt d
   obtain⟨q,hq⟩:∃q,q=d.toNat / 16:=⟨_,rfl⟩;obtain⟨r,hr⟩:∃r,r=d.toNat%16:=⟨_,rfl⟩;have l1:=(hO.low.cell (p:=⟨w.heap.size,q,Oh⟩) hlt1).trans (HLET.out q mOm);have l2:=(hO.low.cell (p:=⟨w.heap.size,r,Oh⟩) hlt1).trans (HLET.out r mOm);have e1:binOp .shr 5 (N9 .u8 (d.toNat:Int)) (N9 .u64 4)=pure (N9 .u8 (q:Int)):=by rw[td,hq]
   have e2:binOp .and 5 (N9 .u8 (d.toNat:Int)) (N9 .u8 15)=pure (N9 .u8 (r:Int)):=by rw[tc,hr]
   rw[<-hq,<-hr] at HT;have q1:(q:Int)<16:=mOm;have r1:(r:Int)<16:=mOm;generalize jy q=x at *;generalize jy r=y at *;generalize fK (s.data.toList.take k)=F at *;have HDL:=aa hdl;clear htl hd hq hr hdl;have hS0:ac W1.heap.size W1 wr.drew/\wr.drew.cell? ⟨w.heap.size,q,Oh⟩=Og (N9 .u8 (x.toNat:Int))/\wr.drew.cell? ⟨w.heap.size,r,Oh⟩=Og (N9 .u8 (y.toNat:Int)):=⟨hO.low.drew,l1,l2⟩;have HO:=aa hO;clear l1 l2 hO;go_wp2_with fail;refine aD (S:=fun u=>ac W1.heap.size W1 u/\u.cell? ⟨w.heap.size,q,Oh⟩=Og (N9 .u8 (x.toNat:Int))/\u.cell? ⟨w.heap.size,r,Oh⟩=Og (N9 .u8 (y.toNat:Int))) [(0,true),(1,true),(2,true),(3,true),(4,true),(5,true),(6,true),(7,true),(8,true),(9,false),(10,false),(11,true)] hS0 ?_;have hS:=hS0
   iterate 9 refine ak ?_
   refine lQ ⟨_,_,_,_,_,_⟩ (Oc (Og ⟨wr.drew.heap.size,0,Oh⟩) 2 2) (wr.drew.alloc (Of #[N9 .u8 (x.toNat:Int),N9 .u8 (y.toNat:Int)] 5)) rfl mRf (by go_simp) (Dy hS (aj _ _)) ?_;have hOm:=HO.out.next (ah (Below.refl _ wr).drew (aj wr.drew (Of #[N9 .u8 (x.toNat:Int),N9 .u8 (y.toNat:Int)] 5)));refine ay ?_;refine fT u8T ⟨_,_,_,_,_,_⟩ rfl mRf (.tmp 15) (.tmp 24) mRf W1.heap.size _ _ F [x,y] mRf mRf hOm.own (cN (heap_alloc_new wr.drew _) _ rfl rfl) (by rw[HDL.out];simp only[bB,cJ];omega) hOm.low.size ?_;intro v9 w9 hA9;have hO9:=hOm.app hA9;rw[<-HT.out] at hO9;have HO9:=aa hO9;replace hS:ac W1.heap.size W1 w9/\w9.cell? ⟨w.heap.size,q,Oh⟩=Og (N9 .u8 (x.toNat:Int))/\w9.cell? ⟨w.heap.size,r,Oh⟩=Og (N9 .u8 (y.toNat:Int)):=⟨hO9.low,(hO9.low.cell (p:=⟨w.heap.size,q,Oh⟩) hlt1).trans ((HO.out.low.cell (p:=⟨w.heap.size,q,Oh⟩) hlt1).symm.trans hS0.2.1),(hO9.low.cell (p:=⟨w.heap.size,r,Oh⟩) hlt1).trans ((HO.out.low.cell (p:=⟨w.heap.size,r,Oh⟩) hlt1).symm.trans hS0.2.2)⟩;refine⟨hS,?_⟩;refine ay ?_;refine ak ?_;simp only[aQ,aZ];clear hS hS0 hO9 hA9 hOm;go_wp2_with fail
   go_roundw
   case rel=>exact⟨k+1,mOm,by go_num,HO9.out⟩
   case measure=>simp[aw];omega
  .obtain rfl:k=s.size:=mOm;have eD:fK (s.data.toList.take s.size)=fK s.data.toList:=by rw[HPS.out,aT]
   rw[eD] at hO hdl |-;have hcr:=Co (hO.row uG mDe) rfl (by rw[hdl];omega);have hbF:=hbW.trans (hO.low.mono hbW.size);obtain⟨F,hF⟩:∃F,F=fK s.data.toList:=⟨_,rfl⟩;rw[<-hF] at hcr |-;have HF:=aa hF;clear hO hdl hF eD;go_wp2_with fail;go_ret;exact⟨cU (by rw[<-HF.out]),hbF⟩
end
section
theorem pQ(s:ByteArray)(hs:s.size<=100000000)(w:World) :
  Calls prog 148 #[Ob s] w fun e w'=>e=Oe (Ob ⟨(dg s.data.toList).toArray⟩)/\ac w.heap.size w w':=by
 have hb1:ac w.heap.size w (w.alloc (Of #[Ob s] 9)):=(Below.refl _ w).alloc (az _) _
 have hP:sW (w.alloc (Of #[Ob s] 9)) w.heap.size 0 [s]:=fun k hk=>by
  obtain rfl:k=0:=by simpa using hk
  exact⟨ae (heap_alloc_new w _) 0,hs⟩
 have co:=C3 w.heap.size 0 1 [s] mSi _ hP
 simp only[dR,List.flatMap_cons,List.flatMap_nil,List.append_nil,bB,cJ,Nat.zero_add] at co;have hdg:be8 (dgX s.data.toList 11*4294967296+dgY s.data.toList 17).toNat=dg s.data.toList:=rfl;rw[hdg] at co;clear hdg;generalize dg s.data.toList=R at co |-;go_enter func148,ntmps148;go_wp2_with fail;refine co.mono ?_;rintro _ w1⟨rfl,hb2⟩;go_wp2_with fail;go_ret;exact⟨rfl,hb1.trans (hb2.mono hb1.size)⟩
theorem Ct(s:ByteArray):0<(⟨(dg s.data.toList).toArray⟩:ByteArray).size/\(⟨(dg s.data.toList).toArray⟩:ByteArray).size<=1000:=by have:(⟨(dg s.data.toList).toArray⟩:ByteArray).size=8:=rfl;omega
theorem sE{p:Prop} (h:p:=by
 go_wp2_with fail;refine co.mono ?_;rintro _ w1⟨rfl,hb⟩;go_wp2_with fail;refine(cd _).mono ?_;rintro _ w2⟨rfl,hb2⟩;go_wp2_with fail;go_ret
 exact⟨cU HH.out,ah hb hb2⟩):p:=h
theorem Dx(s:ByteArray)(hs:s.size<=100000000)(w:World) :
  Calls prog 158 #[Ob s] w fun e w'=>e=Oe (Ob (jG s))/\ac w.heap.size w w':=by
 have co:=pQ s hs w;have hz:=Ct s;have HH:Hid ((⟨(fK (⟨(dg s.data.toList).toArray⟩:ByteArray).data.toList).toArray⟩:ByteArray)=jG s):=aa rfl;generalize (⟨(dg s.data.toList).toArray⟩:ByteArray)=D at *;have cd:=fun w=>Ay D hz.1 hz.2 w
 generalize (⟨(fK D.data.toList).toArray⟩:ByteArray)=R at *;go_enter func158,ntmps158;exact sE
theorem wk(n:Nat)(h:n<16)(w:World):(Instr.index 9 (Ob ⟨#[48,49,50,51,52,53,54,55,56,57,97,98,99,100,101,102]⟩) (N9 .u8 (n:Int))).run prog w=.ok (N9 .u8 ((jy n).toNat:Int)) w:=by
 rw[run_index_string w 9 _ _ _ underlying9];have hs:((⟨#[48,49,50,51,52,53,54,55,56,57,97,98,99,100,101,102]⟩:ByteArray).size:Int)=16:=rfl;rw[dif_pos ⟨mOm,by rw[hs];omega⟩];have:∀n,n<16->∀h,(((⟨#[48,49,50,51,52,53,54,55,56,57,97,98,99,100,101,102]⟩:ByteArray)[((n:Nat):Int).toNat]'h).toNat)=(jy n).toNat:=by
  intro n hn;have h16:n=0\/n=1\/n=2\/n=3\/n=4\/n=5\/n=6\/n=7\/n=8\/n=9\/n=10\/n=11\/n=12\/n=13\/n=14\/n=15:=mOm;rcases h16 with rfl|rfl|rfl|rfl|rfl|rfl|rfl|rfl|rfl|rfl|rfl|rfl|rfl|rfl|rfl|rfl <;> intro _ <;> rfl
 rw[this n h]
theorem As(s:ByteArray)(hs0:0<s.size)(hs:s.size<=1000)(w:World) :
  Calls prog 193 #[Ob s] w fun e w'=>e=Oe (Ob ⟨(fK s.data.toList).toArray⟩)/\ac w.heap.size w w':=by
 have HPS:=aa (bF s);go_enter func193,ntmps193;go_wp2_with fail
 go_loopw [3,4] (fun v i wr=>∃k:Nat,k<=s.size/\i=N9 Oa k/\bz Ae 1 5 w wr v (fK (s.data.toList.take k))) (fun _ i _=>s.size-(aw i).toNat)
 case atStart=>exact⟨0,aP _,rfl,bz.nil _ _ _ _⟩
 case round =>
  obtain⟨k,hk,rfl,hO⟩:=hrel;obtain⟨pv,cv,hv⟩:=hO.form;subst hv;have hdl:(fK (s.data.toList.take k)).length=2*k:=by rw[tH,aI,<-HPS.out];omega
  by_cases hlt:k<s.size
  .have i1:(k:Int)<(s.size:Int):=mOm;have i2:(0:Int)<=(k:Int):=mOm;have htl:k<s.data.toList.length:=by rw[<-HPS.out];exact hlt
   obtain⟨d,hd⟩:∃d,s.data.toList[k]=d:=⟨_,rfl⟩;have hg:∀h:k<s.size,s[k]'h=d:=fun h=>(Wr.get_ba s k h).trans hd
   have HT:Hid (fK (s.data.toList.take (k+1))=fK (s.data.toList.take k)++[jy (d.toNat / 16),jy (d.toNat%16)]):=aa (by
    rw[<-uJ,aR,ai htl,hd];rfl)
   have hd8:=UInt8.toNat_lt d
   obtain⟨q,hq⟩:∃q,q=d.toNat / 16:=⟨_,rfl⟩;obtain⟨r,hr⟩:∃r,r=d.toNat%16:=⟨_,rfl⟩;have e1:binOp .shr 5 (N9 .u8 (d.toNat:Int)) (N9 .u64 4)=pure (N9 .u8 (q:Int)):=by rw[td,hq]
   have e2:binOp .and 5 (N9 .u8 (d.toNat:Int)) (N9 .u8 15)=pure (N9 .u8 (r:Int)):=by rw[tc,hr]
   have e3:=fun w=>wk q mOm w
   have e4:=fun w=>wk r mOm w
   rw[<-hq,<-hr] at HT;generalize jy q=x at *;generalize jy r=y at *;generalize fK (s.data.toList.take k)=F at *;have HDL:=aa hdl;have hS0:ac w.heap.size w wr.drew:=hO.low.drew;have HO:=aa hO;clear htl hd hq hr hdl hO;go_wp2_with fail;refine aD (S:=fun u=>ac w.heap.size w u) [(0,true),(1,true),(2,true),(3,true),(4,true),(5,true),(6,true),(7,true),(8,true),(9,true),(10,true),(11,false),(12,false),(13,true)] hS0 ?_;have hS:=hS0
   iterate 11 refine ak ?_
   refine lQ ⟨_,_,_,_,_,_⟩ (Oc (Og ⟨wr.drew.heap.size,0,Oh⟩) 2 2) (wr.drew.alloc (Of #[N9 .u8 (x.toNat:Int),N9 .u8 (y.toNat:Int)] 5)) rfl mRf (by go_simp) (ah hS (aj _ _)) ?_;have hOm:=HO.out.next (ah (Below.refl _ wr).drew (aj wr.drew (Of #[N9 .u8 (x.toNat:Int),N9 .u8 (y.toNat:Int)] 5)));refine ay ?_;refine fT u8T ⟨_,_,_,_,_,_⟩ rfl mRf (.tmp 11) (.tmp 22) mRf w.heap.size _ _ F [x,y] mRf mRf hOm.own (cN (heap_alloc_new wr.drew _) _ rfl rfl) (by rw[HDL.out];simp only[bB,cJ];omega) hOm.low.size ?_;intro v9 w9 hA9;have hO9:=hOm.app hA9;rw[<-HT.out] at hO9;have HO9:=aa hO9;replace hS:ac w.heap.size w w9:=hO9.low;refine⟨hS,?_⟩;refine ay ?_;refine ak ?_;simp only[aQ,aZ];clear hS hS0 hO9 hA9 hOm;go_wp2_with fail
   go_roundw
   case rel=>exact⟨k+1,mOm,by go_num,HO9.out⟩
   case measure=>simp[aw];omega
  .obtain rfl:k=s.size:=mOm;have eD:fK (s.data.toList.take s.size)=fK s.data.toList:=by rw[HPS.out,aT]
   rw[eD] at hO hdl |-;have hcr:=Co (hO.row uG mDe) rfl (by rw[hdl];omega);have hbF:=hO.low;obtain⟨F,hF⟩:∃F,F=fK s.data.toList:=⟨_,rfl⟩;rw[<-hF] at hcr |-;have HF:=aa hF;clear hO hdl hF eD;go_wp2_with fail;go_ret;exact⟨cU (by rw[<-HF.out]),hbF⟩
theorem xH(s:ByteArray)(hs:s.size<=100000000)(w:World) :
  Calls prog 140 #[Ob s] w fun e w'=>e=Oe (Ob (jG s))/\ac w.heap.size w w':=by
 have co:=rm s mOm w;have hz:=Ct s;have HH:Hid ((⟨(fK (⟨(dg s.data.toList).toArray⟩:ByteArray).data.toList).toArray⟩:ByteArray)=jG s):=aa rfl;generalize (⟨(dg s.data.toList).toArray⟩:ByteArray)=D at *;have cd:=fun w=>As D hz.1 hz.2 w
 generalize (⟨(fK D.data.toList).toArray⟩:ByteArray)=R at *;go_enter func140,ntmps140;exact sE
end
section
def PrevAt(u:World)(g o:Nat)(p:aC):Prop:=∀j v,(cY p)[j]? = Og v->u.cell? ⟨g,o+j,Oh⟩=Og v
theorem PrevAt.below{B g o:Nat}{p:aC}{u v:World}(h:PrevAt u g o p)(hb:ac B u v)(hg:g<B):PrevAt v g o p:=fun j x hx=>(hb.cell (p:=⟨g,o+j,Oh⟩) hg).trans (h j x hx)
def jZ(u:World)(b:Nat):Option aC->Prop
 | none=>u.cell? ⟨b,0,none⟩=some (.pointer none)
 | some p=>∃g o,u.cell? ⟨b,0,none⟩=some (.pointer (some ⟨g,o,none⟩))/\PrevAt u g o p
theorem Kd(b:Nat)(p:Option aC)(size day:Int)(w:World)(hp:jZ w b p) :
  Calls prog 205 #[Od (Og ⟨b,0,Oh⟩),N9 Oa size,N9 Oa day] w fun e w'=>e=Oe (.bool (decide (jI p size day)))/\w=w':=by
 cases p with
 | none =>
  have h0:w.cell? ⟨b,0,none⟩=some (.pointer none):=hp;have HV:Hid (decide (jI none size day)=false):=aa (decide_eq_false (fun h=>h));generalize decide (jI none size day)=V at *;go_enter func205,ntmps205;go_wp2_with fail;go_ret;exact⟨cF (by rw[HV.out]),by first|rfl|trivial⟩
 | some x =>
  obtain⟨g,o,h0,hx⟩:=hp;obtain⟨sc,sz,dy,tr,bf,ky,mk⟩:=x;have q1:w.cell? ⟨g,o+1,Oh⟩=Og (N9 Oa sz):=hx 1 _ rfl;have q2:w.cell? ⟨g,o+2,Oh⟩=Og (N9 Oa dy):=hx 2 _ rfl;clear hx
  have HV:Hid (∀t,(t=true↔(size<sz\/day<=dy))->decide (jI (Og ⟨sc,sz,dy,tr,bf,ky,mk⟩) size day)=t):=aa (fun t h=>by
   rw[Bool.eq_iff_iff,decide_eq_true_eq];exact h.symm)
  generalize decide (jI (Og ⟨sc,sz,dy,tr,bf,ky,mk⟩) size day)=V at *
  go_enter func205,ntmps205;by_cases h1:size<sz
  .have HV2:Hid (V=true):=aa (HV.out true ⟨fun _=>.inl h1,fun _=>rfl⟩);clear HV;go_wp2_with fail;go_ret;exact⟨cF (by rw[HV2.out]),by first|rfl|trivial⟩
  by_cases h2:day<=dy
  .have HV2:Hid (V=true):=aa (HV.out true ⟨fun _=>.inr h2,fun _=>rfl⟩);clear HV;go_wp2_with fail;go_ret;exact⟨cF (by rw[HV2.out]),by first|rfl|trivial⟩
  .have HV2:Hid (V=false):=aa (HV.out false ⟨fun h=>(by cases h),fun h=>by rcases h with h|h;exact absurd h h1;exact absurd h h2⟩);clear HV;go_wp2_with fail;go_ret;exact⟨cF (by rw[HV2.out]),by first|rfl|trivial⟩
theorem Is(b:Nat)(w:World)(hp:jZ w b Oh) :
  Calls prog 206 #[Od (Og ⟨b,0,Oh⟩)] w fun e w'=>e=Oe (Ob (gP Oh))/\ac w.heap.size w w':=by
 have h0:w.cell? ⟨b,0,Oh⟩=Og (.pointer Oh):=hp;go_enter func206,ntmps206;go_wp2_with fail;go_ret;exact⟨rfl,Below.refl _ _⟩
theorem It(b:Nat)(x:aC)(hx:x.Ok)(w:World)(hp:jZ w b (Og x))(ht:Tabs w) :
  Calls prog 206 #[Od (Og ⟨b,0,Oh⟩)] w fun e w'=>e=Oe (Ob (gP (Og x)))/\ac w.heap.size w w':=by
 obtain⟨g,o,h0,hc⟩:=hp;have hbl:=al w _ h0;have hgl:g<w.heap.size:=al w ⟨g,o+0,Oh⟩ (hc 0 _ rfl);have kb:=fun w ht=>vQ x hx w ht
 have hzb:(bJ x).size<=300000:=by
  have z1:=gg x.school hx.school.1 hx.school.2;have z2:=gg x.size hx.size.1 hx.size.2;have z3:=gg x.day hx.day.1 hx.day.2;have z4:=ia x.tree (by have:=hx.tree;omega);have z5:=ia x.before (by have:=hx.before;omega);have z6:=gg x.key hx.key.1 hx.key.2;have y4:=hx.tree;have y5:=hx.before;rw[bF]
  show(lX x).length<=_
  unfold lX
  simp only[ap];omega
 have hzm:=hx.mark
 have ko:=fun w=>pQ (bJ x++x.mark) (by rw[ByteArray.size_append];omega) w
 have HL:Hid ((⟨(dg (bJ x++x.mark).data.toList).toArray⟩:ByteArray)=gP (Og x)):=aa (by unfold gP;rw[iv];rfl);generalize gP (Og x)=L at *;generalize (⟨(dg (bJ x++x.mark).data.toList).toArray⟩:ByteArray)=D at *;generalize bJ x=R at *;obtain⟨sc,sz,dy,tr,bf,ky,mk⟩:=x;simp only at *;have i1:¬9223372036854775807<R.size+mk.size:=mOm;have hS0:ac w.heap.size w w.drew/\(b<w.drew.heap.size/\g<w.drew.heap.size)/\w.drew.cell? ⟨b,0,Oh⟩=Og (Od (Og ⟨g,o,Oh⟩))/\w.drew.cell? ⟨g,o,Oh⟩=Og (N9 Oa sc)/\w.drew.cell? ⟨g,o+1,Oh⟩=Og (N9 Oa sz)/\w.drew.cell? ⟨g,o+2,Oh⟩=Og (N9 Oa dy)/\w.drew.cell? ⟨g,o+3,Oh⟩=Og (Ob tr)/\w.drew.cell? ⟨g,o+4,Oh⟩=Og (Ob bf)/\w.drew.cell? ⟨g,o+5,Oh⟩=Og (N9 Oa ky)/\w.drew.cell? ⟨g,o+6,Oh⟩=Og (Ob mk):=
  ⟨(Below.refl _ w).drew,⟨hbl,hgl⟩,h0,hc 0 _ rfl,hc 1 _ rfl,hc 2 _ rfl,hc 3 _ rfl,hc 4 _ rfl,hc 5 _ rfl,hc 6 _ rfl⟩
 have keepS:∀{u v:World},(ac w.heap.size w u/\(b<u.heap.size/\g<u.heap.size)/\u.cell? ⟨b,0,Oh⟩=Og (Od (Og ⟨g,o,Oh⟩))/\u.cell? ⟨g,o,Oh⟩=Og (N9 Oa sc)/\u.cell? ⟨g,o+1,Oh⟩=Og (N9 Oa sz)/\u.cell? ⟨g,o+2,Oh⟩=Og (N9 Oa dy)/\u.cell? ⟨g,o+3,Oh⟩=Og (Ob tr)/\u.cell? ⟨g,o+4,Oh⟩=Og (Ob bf)/\u.cell? ⟨g,o+5,Oh⟩=Og (N9 Oa ky)/\u.cell? ⟨g,o+6,Oh⟩=Og (Ob mk))->ac u.heap.size u v->(ac w.heap.size w v/\(b<v.heap.size/\g<v.heap.size)/\v.cell? ⟨b,0,Oh⟩=Og (Od (Og ⟨g,o,Oh⟩))/\v.cell? ⟨g,o,Oh⟩=Og (N9 Oa sc)/\v.cell? ⟨g,o+1,Oh⟩=Og (N9 Oa sz)/\v.cell? ⟨g,o+2,Oh⟩=Og (N9 Oa dy)/\v.cell? ⟨g,o+3,Oh⟩=Og (Ob tr)/\v.cell? ⟨g,o+4,Oh⟩=Og (Ob bf)/\v.cell? ⟨g,o+5,Oh⟩=Og (N9 Oa ky)/\v.cell? ⟨g,o+6,Oh⟩=Og (Ob mk)):=fun h hb=>by
  obtain⟨a1,⟨a2,a3⟩,a4,a5,a6,a7,a8,a9,a10,a11⟩:=h;have e:=fun (j:Nat)=>hb.cell (p:=⟨g,j,Oh⟩) a3
  exact⟨ah a1 hb,⟨ax a2 hb.size,ax a3 hb.size⟩,(hb.cell (p:=⟨b,0,Oh⟩) a2).trans a4,(e _).trans a5,(e _).trans a6,(e _).trans a7,(e _).trans a8,(e _).trans a9,(e _).trans a10,(e _).trans a11⟩
 clear hc hx
 go_enter func206,ntmps206;go_wp2_with fail;refine aD (S:=fun u=>ac w.heap.size w u/\(b<u.heap.size/\g<u.heap.size)/\u.cell? ⟨b,0,Oh⟩=Og (Od (Og ⟨g,o,Oh⟩))/\u.cell? ⟨g,o,Oh⟩=Og (N9 Oa sc)/\u.cell? ⟨g,o+1,Oh⟩=Og (N9 Oa sz)/\u.cell? ⟨g,o+2,Oh⟩=Og (N9 Oa dy)/\u.cell? ⟨g,o+3,Oh⟩=Og (Ob tr)/\u.cell? ⟨g,o+4,Oh⟩=Og (Ob bf)/\u.cell? ⟨g,o+5,Oh⟩=Og (N9 Oa ky)/\u.cell? ⟨g,o+6,Oh⟩=Og (Ob mk)) [(0,true),(1,true),(2,true),(3,true),(4,true),(5,true),(7,true),(8,true),(9,true),(10,true),(11,true),(12,true),(13,true),(6,false),(14,true),(15,false),(16,true)] hS0 ?_;have hS:=hS0
 iterate 13 refine ak ?_
 refine aJ 207 call207 (kb _ (ht.below hS.1)) ?_;rintro x wn⟨rfl,hb⟩;replace hS:=keepS hS hb;refine⟨_,rfl,hS,?_⟩;(try clear hb);refine ay ?_;refine ak ?_;refine aJ 148 call148 (ko _) ?_;rintro x wn⟨rfl,hb⟩;replace hS:=keepS hS hb;refine⟨_,rfl,hS,?_⟩;(try clear hb);refine ay ?_;refine ak ?_;simp only[aQ,aZ];go_wp2_with fail;go_ret;exact⟨cU HL.out,hS.1⟩
end
section
theorem jZ.below{u v:World}{b:Nat}{p:Option aC}(h:jZ u b p)(hb:ac u.heap.size u v):jZ v b p:=by
 cases p with
 | none=>exact(hb.cell (al u _ h)).trans h
 | some x =>
  obtain⟨g,o,h0,hx⟩:=h;exact⟨g,o,(hb.cell (al u _ h0)).trans h0,hx.below hb (al u ⟨g,o+0,Oh⟩ (hx 0 _ rfl))⟩
theorem Kf(b:Nat)(p:Option aC)(w:World)(hp:jZ w b p)(hok:∀y,p=Og y->y.Ok)(ht:Tabs w) :
  Calls prog 206 #[Od (Og ⟨b,0,Oh⟩)] w fun e w'=>e=Oe (Ob (gP p))/\ac w.heap.size w w':=by
 cases p with
 | none=>exact Is b w hp
 | some x=>exact It b x (hok x rfl) w hp ht
abbrev zU(w:World)(b:Nat)(cs:Array Value)(b2:Nat)(cs2:Array Value)(u:World):Prop:=ac w.heap.size w u/\(b<u.heap.size/\b2<u.heap.size)/\(∀j,u.cell? ⟨b,j,Oh⟩=cs[j]?)/\(∀j,u.cell? ⟨b2,j,Oh⟩=cs2[j]?)
theorem cm{w u v:World}{b b2:Nat}{cs cs2:Array Value}(h:zU w b cs b2 cs2 u)(hb:ac u.heap.size u v):zU w b cs b2 cs2 v:=
 ⟨ah h.1 hb,⟨ax h.2.1.1 hb.size,ax h.2.1.2 hb.size⟩,fun j=>(hb.cell (p:=⟨b,j,Oh⟩) h.2.1.1).trans (h.2.2.1 j),fun j=>(hb.cell (p:=⟨b2,j,Oh⟩) h.2.1.2).trans (h.2.2.2 j)⟩
theorem mF(x:aC)(hx:x.Ok):(bJ x).size<=300000:=by
 have z1:=gg x.school hx.school.1 hx.school.2;have z2:=gg x.size hx.size.1 hx.size.2;have z3:=gg x.day hx.day.1 hx.day.2;have z4:=ia x.tree (by have:=hx.tree;omega);have z5:=ia x.before (by have:=hx.before;omega);have z6:=gg x.key hx.key.1 hx.key.2;have y4:=hx.tree;have y5:=hx.before;rw[bF]
 show(lX x).length<=_
 unfold lX
 simp only[ap];omega
theorem Aq(b g c:Nat)(r:bH)(p:Option aC)(x:aC)(hx:x.Ok)(hok:∀y,p=Og y->y.Ok)(w:World)(hp:jZ w b p)(hk:cR w g r.keys)(hg:g<w.heap.size)(hl:r.keys.length<=1000)(hsz:∀k∈r.keys,k.secret.size<=100000)(hs:I64 r.school)(ht:Tabs w) :
  Calls prog 153 #[Od (Og ⟨b,0,Oh⟩),.agg #[N9 Oa r.school,Oc (Og ⟨g,0,Oh⟩) r.keys.length c],x.val] w fun e w'=>e=Oe (N9 Oa (eF r p x))/\ac w.heap.size w w':=by
 have kv:=fun u (hb:ac w.heap.size w u)=>Bu g c r x.key (bJ x) x.mark x.day x.day u hl (hk.below hb hg) hsz (ax hg hb.size) hs hx.key (by have:=mF x hx;omega) (ht.below hb)
 have kb:=fun u (hb:ac w.heap.size w u)=>vQ x hx u (ht.below hb)
 have kl:=fun u (hb:ac w.heap.size w u)=>Kf b p u (hp.below hb) hok (ht.below hb)
 have ka:=fun u (hb:ac w.heap.size w u)=>Kd b p x.size x.day u (hp.below hb)
 have HV:=aa (show eF r p x=if x.school≠r.school then 22 else if au x.size 0 2000=false then 3 else if au x.day 0 100000=false then 23 else if jI p x.size x.day then 7 else if x.before≠gP p\/x.tree.size≠8 then 40 else eu r x.key (bJ x) x.mark x.day x.day from rfl);generalize eF r p x=V at *;generalize eu r x.key (bJ x) x.mark x.day x.day=VV at *;generalize bJ x=R at *;generalize gP p=L at *;obtain⟨rs,l⟩:=r;obtain⟨sc,sz,dy,tr,bf,ky,mk⟩:=x;simp only at *;have HA:Hid (∀t,decide (jI p sz dy)=t->(t=true↔jI p sz dy)):=aa (fun t h=>by rw[<-h,decide_eq_true_eq]);generalize decide (jI p sz dy)=BL at *;have hb0:=ah (aj w (Of #[N9 Oa rs,Oc (Og ⟨g,0,Oh⟩) l.length c] 33)) (aj _ (Of #[N9 Oa sc,N9 Oa sz,N9 Oa dy,Ob tr,Ob bf,N9 Oa ky,Ob mk] 65));have hS0:zU w w.heap.size #[N9 Oa rs,Oc (Og ⟨g,0,Oh⟩) l.length c] (w.heap.size+1) #[N9 Oa sc,N9 Oa sz,N9 Oa dy,Ob tr,Ob bf,N9 Oa ky,Ob mk] ((w.alloc (Of #[N9 Oa rs,Oc (Og ⟨g,0,Oh⟩) l.length c] 33)).alloc (Of #[N9 Oa sc,N9 Oa sz,N9 Oa dy,Ob tr,Ob bf,N9 Oa ky,Ob mk] 65)):=by have e2:=heap_alloc_new (w.alloc (Of #[N9 Oa rs,Oc (Og ⟨g,0,Oh⟩) l.length c] 33)) (Of #[N9 Oa sc,N9 Oa sz,N9 Oa dy,Ob tr,Ob bf,N9 Oa ky,Ob mk] 65);have e1:=eR (heap_alloc_new w (Of #[N9 Oa rs,Oc (Og ⟨g,0,Oh⟩) l.length c] 33)) (Of #[N9 Oa sc,N9 Oa sz,N9 Oa dy,Ob tr,Ob bf,N9 Oa ky,Ob mk] 65);rw[size_alloc] at e2;exact⟨hb0,⟨av e1,av e2⟩,ae e1,ae e2⟩
 have KV:=aa kv
 have KB:=aa kb;have KL:=aa kl;have KA:=aa ka;clear kv kb kl ka hx hk hsz hok hp;go_enter func153,ntmps153;by_cases h1:sc=rs
 rotate_left 1
 .have t1:(sc != rs)=true:=by rw[bne_iff_ne];exact h1
  have HV2:Hid (V=22):=aa (by rw[HV.out,if_pos h1]);clear HV h1;go_wp2_with fail;go_ret;exact⟨aL HV2.out.symm,hb0⟩
 have t1:(sc != rs)=false:=by rw[bne_eq_false_iff_eq];exact h1
 have HV2:=aa (HV.out.trans (if_neg (fun h=>h h1)));clear HV h1;by_cases h2:sz<0
 .have HV3:Hid (V=3):=aa (by rw[HV2.out,if_pos (by unfold au;rw[decide_eq_false mOm];rfl)]);clear HV2;go_wp2_with fail;go_ret;exact⟨aL HV3.out.symm,hb0⟩
 by_cases h3:2000<sz
 .have HV3:Hid (V=3):=aa (by rw[HV2.out,if_pos (by unfold au;rw[decide_eq_true (show 0<=sz by omega),decide_eq_false mOm];rfl)]);clear HV2;go_wp2_with fail;go_ret;exact⟨aL HV3.out.symm,hb0⟩
 have HV3:=aa (HV2.out.trans (if_neg (by unfold au;rw[decide_eq_true (show 0<=sz by omega),decide_eq_true mOm];simp)))
 clear HV2;obtain⟨bd,hbd⟩:∃x,au dy 0 100000=x:=⟨_,rfl⟩;go_wp2_with fail;refine(iu _ _).mono ?_;rintro _ _⟨rfl,rfl⟩;rw[hbd] at HV3 |-
 cases bd
 .have HV4:Hid (V=23):=aa (HV3.out.trans (if_pos rfl));clear HV3;go_wp2_with fail;go_ret;exact⟨aL HV4.out.symm,hb0⟩
 have HV4:=aa (HV3.out.trans (if_neg mSi))
 clear HV3;go_wp2_with fail;refine(KA.out _ hb0).mono ?_;rintro _ _⟨rfl,rfl⟩;have HB:=HA.out BL rfl;clear HA
 cases BL
 rotate_left 1
 .have HV5:Hid (V=7):=aa (HV4.out.trans (if_pos (HB.1 rfl)));clear HV4 HB;go_wp2_with fail;go_ret;exact⟨aL HV5.out.symm,hb0⟩
 have HV5:=aa (HV4.out.trans (if_neg (fun h=>by have:=HB.2 h;cases this)))
 clear HV4 HB;go_wp2_with fail;have hS1:=cm hS0 (Below.refl _ _).drew;refine aD (S:=fun u=>ac w.heap.size w u/\(w.heap.size<u.heap.size/\w.heap.size+1<u.heap.size)/\(∀j,u.cell? ⟨w.heap.size,j,Oh⟩=(#[N9 Oa rs,Oc (Og ⟨g,0,Oh⟩) l.length c]:Array Value)[j]?)/\(∀j,u.cell? ⟨w.heap.size+1,j,Oh⟩=(#[N9 Oa sc,N9 Oa sz,N9 Oa dy,Ob tr,Ob bf,N9 Oa ky,Ob mk]:Array Value)[j]?)) [(0,true),(1,true),(2,true),(3,false),(4,true),(5,true)] hS1 ?_;have hS:=hS1
 iterate 3 refine ak ?_
 refine aJ 206 call206 (KL.out _ hS.1) ?_;rintro x wn⟨rfl,hb⟩;replace hS:=cm hS hb;refine⟨_,rfl,hS,?_⟩;(try clear hb);refine ay ?_
 iterate 2 refine ak ?_
 simp only[aQ,aZ];have hW:=hS.1;have hS2:=cm hS (Below.refl _ _).drew;obtain⟨-,⟨s1,s2⟩,s3,s4⟩:=hS;have q3:wn.cell? ⟨w.heap.size+1,3,Oh⟩=Og (Ob tr):=s4 3;by_cases h5:bf=L
 rotate_left 1
 .have te:=lq h5;have HV6:Hid (V=40):=aa (HV5.out.trans (if_pos (.inl h5)));clear HV5 h5 s3 s4 hS1 hS0 hS2;simp only[te,jO];go_wp2_with fail;go_ret;exact⟨aL HV6.out.symm,hW⟩
 subst h5
 have tq:(bf.toList==bf.toList)=true:=beq_self_eq_true _;simp only[tq,Bool.not_true];clear tq;by_cases h6:tr.size=8
 rotate_left 1
 .have te:((tr.size:Int) != 8)=true:=by rw[bne_iff_ne];omega
  have HV6:Hid (V=40):=aa (HV5.out.trans (if_pos (.inr h6)));clear HV5 h6 s3 s4 hS1 hS0 hS2;go_wp2_with fail;go_ret;exact⟨aL HV6.out.symm,hW⟩
 have te:((tr.size:Int) != 8)=false:=by rw[bne_eq_false_iff_eq];omega
 have HV6:Hid (V=VV):=aa (HV5.out.trans (if_neg (fun h=>by rcases h with h|h;exact h rfl;exact h h6)));clear HV5 h6 s3 s4 hS1 hS0;go_wp2_with fail;refine aD (S:=fun u=>ac w.heap.size w u/\(w.heap.size<u.heap.size/\w.heap.size+1<u.heap.size)/\(∀j,u.cell? ⟨w.heap.size,j,none⟩=(#[.int .i64 rs,.slice (some ⟨g,0,none⟩) l.length c]:Array Value)[j]?)/\(∀j,u.cell? ⟨w.heap.size+1,j,none⟩=(#[.int .i64 sc,.int .i64 sz,.int .i64 dy,.string tr,.string bf,.int .i64 ky,.string mk]:Array Value)[j]?)) [(0,true),(1,true),(2,true),(3,true),(5,true),(6,true),(7,true),(8,true),(9,true),(10,true),(4,false),(11,false),(12,true)] hS2 ?_;have hS:=hS2
 iterate 10 refine ak ?_
 refine aJ 207 call207 (KB.out _ hS.1) ?_;rintro x wn⟨rfl,hb⟩;replace hS:=cm hS hb;refine⟨_,rfl,hS,?_⟩;(try clear hb);refine ay ?_;refine aJ 22 call22 (KV.out _ hS.1) ?_;rintro x wn⟨rfl,hb⟩;replace hS:=cm hS hb;refine⟨_,rfl,hS,?_⟩;(try clear hb);refine ay ?_;refine ak ?_;simp only[aQ,aZ];go_wp2_with fail;go_ret;exact⟨aL HV6.out.symm,hS.1⟩
end
section
theorem dp:∀x:aC,(cY x).length=7:=fun _=>rfl
theorem rp{α:Type}{l:List α}{k:Nat}{x:α}(h:l[k]? = Og x):(l.take (k+1)).getLast? = Og x:=by rw[aR,h,df,List.getLast?_append];rfl
theorem xL{r:bH}{l:List aC}{k:Nat}{x:aC}(h:l[k]? = Og x)(p:Option aC):dE r p (l.drop k)=if eF r p x≠0 then eF r p x else dE r (Og x) (l.drop (k+1)):=by obtain⟨hlt,rfl⟩:=aA.1 h;rw[List.drop_eq_getElem_cons hlt];rfl
theorem BV(g c:Nat)(r:bH)(pl:Option Addr)(cl:Nat)(l:List aC)(w:World)(hr:ar cY w (Oc pl l.length cl) l)(hok:∀x∈l,x.Ok)(hll:l.length<=1000000)(hk:cR w g r.keys)(hg:g<w.heap.size)(hl:r.keys.length<=1000)(hsz:∀k∈r.keys,k.secret.size<=100000)(hs:I64 r.school)(ht:Tabs w) :
  Calls prog 90 #[.agg #[N9 Oa r.school,Oc (Og ⟨g,0,Oh⟩) r.keys.length c],Oc pl l.length cl] w fun e w'=>e=Oe (N9 Oa (cK r l))/\ac w.heap.size w w':=by
 have kc:=fun u (hb:ac w.heap.size w u)=>CR g c r u (hk.below hb hg) (ax hg hb.size) hl
 have kp:=fun b (p:Option aC) (x:aC) (hx:x.Ok) (hp:∀y,p=Og y->y.Ok) u (hb:ac w.heap.size w u) (hpl:jZ u b p)=>Aq b g c r p x hx hp u hpl (hk.below hb hg) (ax hg hb.size) hl hsz hs (ht.below hb)
 have HV:=aa (show cK r l=if et r≠0 then et r else if 200<l.length then 2 else dE r Oh l from rfl);have HEX:=aa (fun (k:Nat) (x:aC) (h:l[k]? = Og x) (p:Option aC)=>xL (r:=r) h p);have HNIL:=aa (fun p=>(show dE r p []=0 by cases p <;> rfl));generalize cK r l=V at *;generalize hCK:et r=CK at *;generalize hRE:dE r=RE at *;generalize hR1:eF r=R1 at *;clear hCK hRE hR1;obtain⟨rs,kl⟩:=r;simp only at *;have hb0:=aj w (Of #[N9 Oa rs,Oc (Og ⟨g,0,Oh⟩) kl.length c] 33);have hh:=heap_alloc_new w (Of #[N9 Oa rs,Oc (Og ⟨g,0,Oh⟩) kl.length c] 33);have kc0:=kc _ hb0;have KP:=aa kp;have HR:=aa hr;have HOK:=aa hok;clear kc kp hk hsz hr hok;go_enter func90,ntmps90;go_wp2_with fail;refine kc0.mono ?_;rintro _ w1⟨rfl,hb1⟩;have hbw:=ah hb0 hb1;have e1:=(hb1.block _ (av hh)).trans hh;have r0:w1.cell? ⟨w.heap.size,0,Oh⟩=Og (N9 Oa rs):=ae e1 0;have r1:w1.cell? ⟨w.heap.size,1,Oh⟩=Og (Oc (Og ⟨g,0,Oh⟩) kl.length c):=ae e1 1;have hrl:=av e1;clear kc0 hb1 hh e1;by_cases h0:CK=0
 rotate_left 1
 .have t1:(CK != 0)=true:=by rw[bne_iff_ne];exact h0
  have HV2:Hid (V=CK):=aa (by rw[HV.out,if_pos h0]);clear HV h0;go_wp2_with fail;go_ret;exact⟨aL HV2.out.symm,hbw⟩
 subst h0
 have HV2:=aa (HV.out.trans (if_neg (fun h=>h rfl)));clear HV;by_cases h2:200<l.length
 .have i1:(200:Int)<(l.length:Int):=mOm;have HV3:Hid (V=2):=aa (HV2.out.trans (if_pos h2));clear HV2 h2;go_wp2_with fail;go_ret;exact⟨aL HV3.out.symm,hbw⟩
 have i1:¬(200:Int)<(l.length:Int):=mOm
 have HV3:=aa (HV2.out.trans (if_neg h2));clear HV2 h2;go_wp2_with fail;have hn:=heap_alloc_new w1 (Of #[.pointer Oh] 200);have hb2:=ah hbw (aj w1 (Of #[.pointer Oh] 200));have hbx:=aj w1 (Of #[.pointer Oh] 200)
 go_loopw [22] (fun i wr=>∃k:Nat,k<=l.length/\i=N9 Oa k/\∃a,Hid (wr.heap[w1.heap.size]? = Og (Of #[.pointer a] 200 (0,0)))/\Hid (jZ wr w1.heap.size (l.take k).getLast?)/\Hid (RE (l.take k).getLast? (l.drop k)=RE Oh l)/\ac w1.heap.size w1 wr) (fun i _=>l.length-(aw i).toNat)
 case atStart=>exact⟨0,aP _,rfl,Oh,aa hn,aa (ae hn 0),aa rfl,hbx⟩
 case round =>
  obtain⟨k,hk,rfl,a,HA,HP,HI,hb⟩:=hrel;by_cases hlt:k<l.length
  .obtain⟨lg,lo,rfl,hlg,hrow⟩:=dh (kk:=7) HR.out dp rfl mOm;have hge:=ai hlt;have hat:=hrow k _ hge;have HE:=aa (HEX.out k _ hge (l.take k).getLast?);have HT:=aa (rp hge);have hxo:=HOK.out _ (bA hlt);have hpo:∀y,(l.take k).getLast? = Og y->y.Ok:=fun y hy=>HOK.out y (cu (List.mem_of_getLast? hy))
   have hbk:=ah hbw hb;have HAT:Hid (PrevAt w lg (lo+k*7) l[k]):=aa (fun j v hv=>hat j v hv);have hbl:=fun u=>KP.out w1.heap.size _ _ hxo hpo u
   have j1:(k:Int)<(l.length:Int):=mOm;have j2:(0:Int)<=(k:Int):=mOm;generalize l[k]=x at *;obtain⟨sc,sz,dy,tr,bf,ky,mk⟩:=x;have q:=fun j=>hbk.cell (p:=⟨lg,j,Oh⟩) hlg
   have q0:wr.cell? ⟨lg,lo+k*7,Oh⟩=Og (N9 Oa sc):=(q _).trans (hat 0 _ rfl);have q1:wr.cell? ⟨lg,lo+k*7+1,Oh⟩=Og (N9 Oa sz):=(q _).trans (hat 1 _ rfl);have q2:wr.cell? ⟨lg,lo+k*7+2,Oh⟩=Og (N9 Oa dy):=(q _).trans (hat 2 _ rfl);have q3:wr.cell? ⟨lg,lo+k*7+3,Oh⟩=Og (Ob tr):=(q _).trans (hat 3 _ rfl);have q4:wr.cell? ⟨lg,lo+k*7+4,Oh⟩=Og (Ob bf):=(q _).trans (hat 4 _ rfl);have q5:wr.cell? ⟨lg,lo+k*7+5,Oh⟩=Og (N9 Oa ky):=(q _).trans (hat 5 _ rfl);have q6:wr.cell? ⟨lg,lo+k*7+6,Oh⟩=Og (Ob mk):=(q _).trans (hat 6 _ rfl);have s0:=(hb.cell (p:=⟨w.heap.size,0,Oh⟩) hrl).trans r0;have s1:=(hb.cell (p:=⟨w.heap.size,1,Oh⟩) hrl).trans r1;have hrl2:w.heap.size<wr.heap.size:=ax hrl hb.size;have hba:=aj wr (Of #[N9 Oa sc,N9 Oa sz,N9 Oa dy,Ob tr,Ob bf,N9 Oa ky,Ob mk] 65);have kq:=hbl _ (ah hbk hba) (HP.out.below hba);have HA2:=aa ((hba.block _ (av HA.out)).trans HA.out);generalize R1 (l.take k).getLast? ⟨sc,sz,dy,tr,bf,ky,mk⟩=E at *;clear hat hge hxo hpo hbl q hrow;go_wp2_with fail;refine kq.mono ?_;rintro _ w4⟨rfl,hb4⟩;have hbb:=ah hb (ah hba hb4);have e4:=(hb4.block _ (av HA2.out)).trans HA2.out;have p0:w4.cell? ⟨w1.heap.size,0,Oh⟩=Og (.pointer a):=ae e4 0;have pf:=Lib.frozen_of_heap e4 0;have E4:=aa e4;clear kq hb4 hba e4 q0 q1 q2 q3 q4 q5 q6 s0 s1;by_cases h0:E=0
   rotate_left 1
   .have t1:(E != 0)=true:=by rw[bne_iff_ne];exact h0
    have HN:Hid (V=E):=aa (by rw[HV3.out,<-HI.out,HE.out,if_pos h0]);clear h0 HE HI;go_wp2_with fail;go_ret;exact⟨aL HN.out.symm,ah hbw hbb⟩
   subst h0
   have HN:Hid (RE (l.take (k+1)).getLast? (l.drop (k+1))=RE Oh l):=aa (by rw[<-HI.out,HE.out,if_neg mSi,HT.out]);clear HE HI;go_wp2_with fail;have hbs:=hbb.setCell (p:=⟨w1.heap.size,0,Oh⟩) (az _) (Od (Og ⟨lg,lo+k*7,Oh⟩));have hsh:=bj E4.out 0 (Od (Og ⟨lg,lo+k*7,Oh⟩))
   have HPL:Hid (jZ (w4.setCell ⟨w1.heap.size,0,Oh⟩ (Od (Og ⟨lg,lo+k*7,Oh⟩))) w1.heap.size (l.take (k+1)).getLast?):=aa (by
    rw[HT.out]
    exact⟨lg,lo+k*7,ae hsh 0,HAT.out.below (ah hbw hbs) hlg⟩)
   first
    | exact⟨⟨k+1,mOm,by first|rfl|go_num,_,aa hsh,HPL,HN,hbs⟩,by simp[aw];omega⟩
    |go_roundw
     case rel=>exact⟨k+1,mOm,by go_num,_,aa hsh,HPL,HN,hbs⟩
     case measure=>simp[aw];omega
  .obtain rfl:k=l.length:=mOm;have HV4:Hid (V=0):=aa (by rw[HV3.out,<-HI.out,gZ,HNIL.out]);go_wp2_with fail;go_ret;exact⟨aL HV4.out.symm,ah hbw hb⟩
end
section
theorem xI(pl:Option Addr)(cl:Nat)(l:List aC)(w:World)(hr:ar cY w (Oc pl l.length cl) l)(hok:∀x∈l,x.Ok)(hll:l.length<=1000000) :
  Calls prog 128 #[Oc pl l.length cl] w fun e w'=>e=Oe (Ob (gP l.getLast?))/\ac w.heap.size w w':=by
 by_cases h0:l.length=0
 .obtain rfl:=bn h0;have t1:((([]:List aC).length:Int)==0)=true:=rfl;clear h0 hr;go_enter func128,ntmps128;go_wp2_with fail;go_ret;exact⟨rfl,Below.refl _ _⟩
 have t1:((l.length:Int)==0)=false:=by rw[beq_eq_false_iff_ne];omega
 obtain⟨k,hk⟩:∃k,k=l.length-1:=⟨_,rfl⟩;have hlt:k<l.length:=mOm;obtain⟨lg,lo,rfl,hlg,hrow⟩:=dh (kk:=7) hr dp rfl mOm;have hge:=ai hlt;have hat:=hrow k _ hge;have hx:=hok _ (bA hlt);have HT:Hid (l.getLast? = Og l[k]):=aa (by rw[List.getLast?_eq_getElem?,<-hk,hge]);have kb:=fun w=>nO l[k] hx w
 have hzb:=mF l[k] hx;have hzm:=hx.mark;have ko:=fun w=>rm (bJ l[k]++l[k].mark) (by rw[ByteArray.size_append];omega) w
 have HL:Hid ((⟨(dg (bJ l[k]++l[k].mark).data.toList).toArray⟩:ByteArray)=gP l.getLast?):=aa (by rw[HT.out];unfold gP;rw[iv];rfl);have j1:(k:Int)<(l.length:Int):=mOm;have j2:(0:Int)<=(k:Int):=mOm;have a1:IntKind.i64.wrap ((l.length:Int)-1)=(k:Int):=by rw[show(l.length:Int)-1=(k:Int) by omega];exact fY _ _ rfl mOm
 generalize gP l.getLast? = L at *;generalize (⟨(dg (bJ l[k]++l[k].mark).data.toList).toArray⟩:ByteArray)=D at *;generalize bJ l[k]=R at *;generalize l[k]=x at *;obtain⟨sc,sz,dy,tr,bf,ky,mk⟩:=x;simp only at *;have i1:¬9223372036854775807<R.size+mk.size:=mOm;have q0:w.cell? ⟨lg,lo+k*7,Oh⟩=Og (N9 Oa sc):=hat 0 _ rfl;have q1:w.cell? ⟨lg,lo+k*7+1,Oh⟩=Og (N9 Oa sz):=hat 1 _ rfl;have q2:w.cell? ⟨lg,lo+k*7+2,Oh⟩=Og (N9 Oa dy):=hat 2 _ rfl;have q3:w.cell? ⟨lg,lo+k*7+3,Oh⟩=Og (Ob tr):=hat 3 _ rfl;have q4:w.cell? ⟨lg,lo+k*7+4,Oh⟩=Og (Ob bf):=hat 4 _ rfl;have q5:w.cell? ⟨lg,lo+k*7+5,Oh⟩=Og (N9 Oa ky):=hat 5 _ rfl;have q6:w.cell? ⟨lg,lo+k*7+6,Oh⟩=Og (Ob mk):=hat 6 _ rfl;have hb0:=aj w (Of #[N9 Oa sc,N9 Oa sz,N9 Oa dy,Ob tr,Ob bf,N9 Oa ky,Ob mk] 65);have hS0:zV w w.heap.size #[N9 Oa sc,N9 Oa sz,N9 Oa dy,Ob tr,Ob bf,N9 Oa ky,Ob mk] (w.alloc (Of #[N9 Oa sc,N9 Oa sz,N9 Oa dy,Ob tr,Ob bf,N9 Oa ky,Ob mk] 65)).drew:=⟨hb0.drew,by show w.heap.size<(w.alloc _).heap.size;rw[size_alloc];omega,fun j=>ae (heap_alloc_new w _) j⟩;clear hat hge hx hrow hr hok hk HT h0;go_enter func128,ntmps128;go_wp2_with fail;refine aD (S:=fun u=>ac w.heap.size w u/\w.heap.size<u.heap.size/\∀j,u.cell? ⟨w.heap.size,j,Oh⟩=(#[N9 Oa sc,N9 Oa sz,N9 Oa dy,Ob tr,Ob bf,N9 Oa ky,Ob mk]:Array Value)[j]?) [(0,true),(2,true),(3,true),(1,false),(4,true),(5,false),(6,true)] hS0 ?_;have hS:=hS0
 iterate 3 refine ak ?_
 refine aJ 130 call130 (kb _) ?_;rintro x wn⟨rfl,hb⟩;replace hS:=bX hS hb;refine⟨_,rfl,hS,?_⟩;(try clear hb);refine ay ?_;refine ak ?_;refine aJ 186 call186 (ko _) ?_;rintro x wn⟨rfl,hb⟩;replace hS:=bX hS hb;refine⟨_,rfl,hS,?_⟩;(try clear hb);refine ay ?_;refine ak ?_;simp only[aQ,aZ];go_wp2_with fail;go_ret;exact⟨cU HL.out,hS.1⟩
theorem vM(g c:Nat)(r:bH)(id:Int)(t mark:ByteArray)(day seen:Int)(w:World)(hl:r.keys.length<=1000)(hk:cR w g r.keys)(hsz:∀k∈r.keys,k.secret.size<=100000)(hg:g<w.heap.size)(hs:I64 r.school)(hi:I64 id)(ht:t.size<=1000000) :
  Calls prog 45 #[.agg #[N9 Oa r.school,Oc (Og ⟨g,0,Oh⟩) r.keys.length c],N9 Oa id,Ob t,Ob mark,N9 Oa day,N9 Oa seen] w
   fun x w'=>x=Oe (N9 Oa (eu r id t mark day seen))/\ac w.heap.size w w':=by
 have hVn:r.keys[cw r.keys id]? = Oh->eu r id t mark day seen=5:=fun h=>by unfold eu;rw[h]
 have hVs:=fun e=>xQ (r:=r) (id:=id) (t:=t) (mark:=mark) (day:=day) (seen:=seen) (e:=e)
 generalize eu r id t mark day seen=V at *;obtain⟨sc,l⟩:=r;simp only at *;have hb0:=aj w (Of #[N9 Oa sc,Oc (Og ⟨g,0,Oh⟩) l.length c] 33);have hh:=heap_alloc_new w (Of #[N9 Oa sc,Oc (Og ⟨g,0,Oh⟩) l.length c] 33);have hF:=sN g c sc l id _ hl (hk.below hb0 hg) (ax hg hb0.size)
 cases hE:l[cw l id]? with
 | none =>
  have hno:¬cw l id<l.length:=fun h=>by rw[ai h] at hE;cases hE
  have HV:=aa (hVn hE);rw[if_neg hno] at hF;clear hVn hVs hE hk hno hsz hh;go_enter func45,ntmps45;go_wp2_with fail;refine hF.mono ?_;rintro x w1⟨rfl,hb1⟩;have hbw:=ah hb0 hb1;clear hb1 hF hb0;go_wp2_with fail;go_ret;exact⟨aL HV.out.symm,hbw⟩
 | some e =>
  have h:cw l id<l.length:=(aA.1 hE).1;have HV:=aa (hVs e hE);have hsk:=hsz e (List.mem_of_getElem? hE);have hat:=hk _ _ hE;rw[if_pos h] at hF;have hms:=yi sc id t hs hi;have hDC:=BQ e.secret ⟨(jJ sc id t).toArray⟩ mark mOm mOm;have kw:=fun w=>Bw sc id (Oc (Og ⟨g,0,Oh⟩) l.length c) t hs hi ht w
  unfold G4 at HV;generalize iy e.secret ⟨(jJ sc id t).toArray⟩ mark=bm at hDC HV;generalize (⟨(jJ sc id t).toArray⟩:ByteArray)=M at *;clear hE hms hVn hVs hsz hk;generalize cw l id=I at *;obtain⟨kid,ksec,kfro,kst⟩:=e;simp only at *;have q0:w.cell? ⟨g,I*4,Oh⟩=Og (N9 Oa kid):=hat.cell 0 rfl;have q1:w.cell? ⟨g,I*4+1,Oh⟩=Og (Ob ksec):=hat.cell 1 rfl;have q2:w.cell? ⟨g,I*4+2,Oh⟩=Og (N9 Oa kfro):=hat.cell 2 rfl;have q3:w.cell? ⟨g,I*4+3,Oh⟩=Og (N9 Oa kst):=hat.cell 3 rfl;have j1:(I:Int)<(l.length:Int):=mOm;have j2:(0:Int)<=(I:Int):=mOm;have j3:¬(I:Int)<0:=mOm;clear hat;go_enter func45,ntmps45;go_wp2_with fail;refine hF.mono ?_;rintro x w1⟨rfl,hb1⟩;have hbw:=ah hb0 hb1;have e1:=(hb1.block _ (av hh)).trans hh;have r0:w1.cell? ⟨w.heap.size,0,Oh⟩=Og (N9 Oa sc):=ae e1 0;have r1:w1.cell? ⟨w.heap.size,1,Oh⟩=Og (Oc (Og ⟨g,0,Oh⟩) l.length c):=ae e1 1;have hrl:=av e1;have p0:=(hbw.cell (p:=⟨g,I*4,Oh⟩) hg).trans q0;have p1:=(hbw.cell (p:=⟨g,I*4+1,Oh⟩) hg).trans q1;have p2:=(hbw.cell (p:=⟨g,I*4+2,Oh⟩) hg).trans q2;have p3:=(hbw.cell (p:=⟨g,I*4+3,Oh⟩) hg).trans q3;have hS0:zU w w.heap.size #[N9 Oa sc,Oc (Og ⟨g,0,Oh⟩) l.length c] w1.heap.size #[N9 Oa kid,Ob ksec,N9 Oa kfro,N9 Oa kst] (w1.alloc (Of #[N9 Oa kid,Ob ksec,N9 Oa kfro,N9 Oa kst] 78)):=
   ⟨ah hbw (aj _ _),⟨av (eR e1 _),av (heap_alloc_new w1 _)⟩,ae (eR e1 _),ae (heap_alloc_new w1 _)⟩
  clear hb1 hF hb0 hh e1 q0 q1 q2 q3
  by_cases hday:day<kfro
  .have HV2:Hid (V=23):=aa (by rw[HV.out,if_pos hday]);clear HV;go_wp2_with fail;go_ret;exact⟨aL HV2.out.symm,hS0.1⟩
  have HV2:Hid (V=if bm=false then 11 else if kst≠0/\kst<=seen then 11 else 0):=aa (by rw[HV.out,if_neg hday])
  clear HV;go_wp2_with fail;have hS1:=cm hS0 (Below.refl _ _).drew;refine aD (S:=fun u=>ac w.heap.size w u/\(w.heap.size<u.heap.size/\w1.heap.size<u.heap.size)/\(∀j,u.cell? ⟨w.heap.size,j,Oh⟩=(#[N9 Oa sc,Oc (Og ⟨g,0,Oh⟩) l.length c]:Array Value)[j]?)/\(∀j,u.cell? ⟨w1.heap.size,j,Oh⟩=(#[N9 Oa kid,Ob ksec,N9 Oa kfro,N9 Oa kst]:Array Value)[j]?)) [(0,true),(1,true),(2,true),(3,true),(4,true),(6,true),(5,false),(7,false),(8,true)] hS1 ?_;have hS:=hS1
  iterate 6 refine ak ?_
  refine aJ 110 call110 (kw _) ?_;rintro x wn⟨rfl,hb⟩;replace hS:=cm hS hb;refine⟨_,rfl,hS,?_⟩;(try clear hb);refine ay ?_;refine aJ 109 call109 (hDC _) ?_;rintro x wn⟨rfl,hb⟩;replace hS:=cm hS hb;refine⟨_,rfl,hS,?_⟩;(try clear hb);refine ay ?_;refine ak ?_;simp only[aQ,aZ];have hbF:=hS.1;have k3:wn.cell? ⟨w1.heap.size,3,Oh⟩=Og (N9 Oa kst):=hS.2.2.2 3;clear hS hS0 hS1 p0 p1 p2 p3 r0 r1
  cases bm
  .have HV3:Hid (V=11):=aa (by rw[HV2.out,if_pos rfl]);clear HV2;go_wp2_with fail;go_ret;exact⟨aL HV3.out.symm,hbF⟩
  have HV3:Hid (V=if kst≠0/\kst<=seen then 11 else 0):=aa (by rw[HV2.out,if_neg mSi])
  clear HV2;by_cases h0:kst=0
  .subst h0;have HV4:Hid (V=0):=aa (by rw[HV3.out,if_neg (fun h=>h.1 rfl)]);clear HV3;go_wp2_with fail;go_ret;exact⟨aL HV4.out.symm,hbF⟩
  have tne:(kst != 0)=true:=by rw[bne_iff_ne];exact h0
  by_cases h1:kst<=seen
  .have HV4:Hid (V=11):=aa (by rw[HV3.out,if_pos ⟨h0,h1⟩]);clear HV3;go_wp2_with fail;go_ret;exact⟨aL HV4.out.symm,hbF⟩
  .have HV4:Hid (V=0):=aa (by rw[HV3.out,if_neg (fun h=>h1 h.2)]);clear HV3;go_wp2_with fail;go_ret;exact⟨aL HV4.out.symm,hbF⟩
end
section
theorem qA{p q:Prop}(h:q) (f:Wq q->p:=by
 intro hq;refine aD (S:=fun u=>ac w.heap.size w u/\(w.heap.size<u.heap.size/\w.heap.size+1<u.heap.size)/\(∀j,u.cell? ⟨w.heap.size,j,Oh⟩=(#[N9 Oa rs,Oc (Og ⟨g,0,Oh⟩) kl2.length c]:Array Value)[j]?)/\(∀j,u.cell? ⟨w.heap.size+1,j,Oh⟩=(#[N9 Oa sc,N9 Oa sz,N9 Oa dy,Ob tr,Ob bf,N9 Oa ky,Ob mk]:Array Value)[j]?)) [(0,true),(1,true),(2,true),(3,false),(4,true),(5,true),(6,true),(7,true),(8,true),(9,true),(10,true)] hS1 ?_;have hS:=hS1
 iterate 3 refine ak ?_
 revert hS
 exact hq.1):p:=f ⟨h⟩
theorem su{p:Prop} (h:p:=by
 by_cases h7:bf=L
 rotate_left 1
 .have te:=lq h7;have HV6:Hid (V=40):=aa (HV5.out.trans (if_pos (.inl h7)));have tn:(bf.toList != L.toList)=true:=by unfold bne;rw[te];rfl
  clear HV5 h7;refine qA ?_;intro hS;refine aJ 128 call128 (KL.out _ hS.1) ?_;rintro x wn⟨rfl,hb⟩;replace hS:=cm hS hb;refine⟨_,rfl,hS,?_⟩;(try clear hb);refine ay ?_
  iterate 7 (first|refine ak ?_|refine dw ?_)
  simp only[aQ,aZ];have hW:=hS.1;clear hS hS0 hS1
  (try simp only[te,jO,bne])
  go_wp2_with fail;go_ret;exact⟨aL HV6.out.symm,hW⟩
 subst h7
 have tq:(bf.toList==bf.toList)=true:=beq_self_eq_true _;have te2:=fun (h:tr.size=8)=>(show((tr.size:Int) != 8)=false by rw[bne_eq_false_iff_eq];omega)
 have te3:=fun (h:¬tr.size=8)=>(show((tr.size:Int) != 8)=true by rw[bne_iff_ne];omega)
 refine qA ?_;intro hS;refine aJ 128 call128 (KL.out _ hS.1) ?_;rintro x wn⟨rfl,hb⟩;replace hS:=cm hS hb;refine⟨_,rfl,hS,?_⟩;(try clear hb);refine ay ?_
 iterate 7 refine ak ?_
 simp only[aQ,aZ];have hW:=hS.1;have hS3:=cm hS (Below.refl _ _).drew;clear hS hS0 hS1;by_cases h8:tr.size=8
 rotate_left 1
 .have HV6:Hid (V=40):=aa (HV5.out.trans (if_pos (.inr h8)));have te:=te3 h8;clear HV5 h8 te2 te3
  (try simp only[te])
  go_wp2_with fail;go_ret;exact⟨aL HV6.out.symm,hW⟩
 have te:=te2 h8
 have HV6:Hid (V=VV):=aa (HV5.out.trans (if_neg (fun h=>by rcases h with h|h;exact h rfl;exact h h8)));clear HV5 h8 te2 te3
 (try simp only[te])
 go_wp2_with fail;refine aD (S:=fun u=>ac w.heap.size w u/\(w.heap.size<u.heap.size/\w.heap.size+1<u.heap.size)/\(∀j,u.cell? ⟨w.heap.size,j,Oh⟩=(#[N9 Oa rs,Oc (Og ⟨g,0,Oh⟩) kl2.length c]:Array Value)[j]?)/\(∀j,u.cell? ⟨w.heap.size+1,j,Oh⟩=(#[N9 Oa sc,N9 Oa sz,N9 Oa dy,Ob tr,Ob bf,N9 Oa ky,Ob mk]:Array Value)[j]?)) [(0,true),(1,true),(2,true),(3,true),(5,true),(6,true),(7,true),(8,true),(9,true),(10,true),(4,false),(11,false),(12,true)] hS3 ?_;have hS:=hS3
 iterate 10 refine ak ?_
 refine aJ 130 call130 (KB.out _) ?_;rintro x wn⟨rfl,hb⟩;replace hS:=cm hS hb;refine⟨_,rfl,hS,?_⟩;(try clear hb);refine ay ?_;refine aJ 45 call45 (KV.out _ hS.1) ?_;rintro x wn⟨rfl,hb⟩;replace hS:=cm hS hb;refine⟨_,rfl,hS,?_⟩;(try clear hb);refine ay ?_;refine ak ?_;simp only[aQ,aZ];go_wp2_with fail;go_ret
 exact⟨aL HV6.out.symm,hS.1⟩):p:=h
theorem Ar(g c:Nat)(r:bH)(x:aC)(hx:x.Ok)(pl:Option Addr)(cl:Nat)(l:List aC)(w:World)(hr:ar cY w (Oc pl l.length cl) l)(hok:∀x∈l,x.Ok)(hll:l.length<=1000000)(hk:cR w g r.keys)(hg:g<w.heap.size)(hl:r.keys.length<=1000)(hsz:∀k∈r.keys,k.secret.size<=100000)(hs:I64 r.school) :
  Calls prog 170 #[.agg #[N9 Oa r.school,Oc (Og ⟨g,0,Oh⟩) r.keys.length c],x.val,Oc pl l.length cl] w fun e w'=>e=Oe (N9 Oa (eF r l.getLast? x))/\ac w.heap.size w w':=by
 have kv:=fun u (hb:ac w.heap.size w u)=>vM g c r x.key (bJ x) x.mark x.day x.day u hl (hk.below hb hg) hsz (ax hg hb.size) hs hx.key (by have:=mF x hx;omega)
 have kb:=fun u=>nO x hx u
 have kl:=fun u (hb:ac w.heap.size w u)=>xI pl cl l u (hr.below hb) hok hll
 have HV:=aa (show eF r l.getLast? x=if x.school≠r.school then 22 else if au x.size 0 2000=false then 3 else if au x.day 0 100000=false then 23 else if jI l.getLast? x.size x.day then 7 else if x.before≠gP l.getLast?\/x.tree.size≠8 then 40 else eu r x.key (bJ x) x.mark x.day x.day from rfl)
 have HLT:Hid ((l.length=0->¬jI l.getLast? x.size x.day)/\∀k y,k+1=l.length->l[k]? = Og y->(jI l.getLast? x.size x.day↔(x.size<y.size\/x.day<=y.day))):=aa ⟨fun h e=>by
   rw[bn h] at e;exact e,fun k y hk hy=>by
   rw[List.getLast?_eq_getElem?,<-hk,Nat.add_sub_cancel,hy];exact Iff.rfl⟩
 generalize eF r l.getLast? x=V at *
 generalize eu r x.key (bJ x) x.mark x.day x.day=VV at *;generalize bJ x=R at *;generalize gP l.getLast? = L at *;obtain⟨rs,kl2⟩:=r;obtain⟨sc,sz,dy,tr,bf,ky,mk⟩:=x;simp only at *;have hb0:=ah (aj w (Of #[N9 Oa rs,Oc (Og ⟨g,0,Oh⟩) kl2.length c] 33)) (aj _ (Of #[N9 Oa sc,N9 Oa sz,N9 Oa dy,Ob tr,Ob bf,N9 Oa ky,Ob mk] 65));have hS0:zU w w.heap.size #[N9 Oa rs,Oc (Og ⟨g,0,Oh⟩) kl2.length c] (w.heap.size+1) #[N9 Oa sc,N9 Oa sz,N9 Oa dy,Ob tr,Ob bf,N9 Oa ky,Ob mk] ((w.alloc (Of #[N9 Oa rs,Oc (Og ⟨g,0,Oh⟩) kl2.length c] 33)).alloc (Of #[N9 Oa sc,N9 Oa sz,N9 Oa dy,Ob tr,Ob bf,N9 Oa ky,Ob mk] 65)):=by have e2:=heap_alloc_new (w.alloc (Of #[N9 Oa rs,Oc (Og ⟨g,0,Oh⟩) kl2.length c] 33)) (Of #[N9 Oa sc,N9 Oa sz,N9 Oa dy,Ob tr,Ob bf,N9 Oa ky,Ob mk] 65);have e1:=eR (heap_alloc_new w (Of #[N9 Oa rs,Oc (Og ⟨g,0,Oh⟩) kl2.length c] 33)) (Of #[N9 Oa sc,N9 Oa sz,N9 Oa dy,Ob tr,Ob bf,N9 Oa ky,Ob mk] 65);rw[size_alloc] at e2;exact⟨hb0,⟨av e1,av e2⟩,ae e1,ae e2⟩
 have KV:=aa kv
 have KB:=aa kb;have KL:=aa kl;have HR:=aa hr;clear kv kb kl hx hk hsz hok hr;go_enter func170,ntmps170;by_cases h1:sc=rs
 rotate_left 1
 .have t1:(sc != rs)=true:=by rw[bne_iff_ne];exact h1
  have HV2:Hid (V=22):=aa (by rw[HV.out,if_pos h1]);clear HV h1;go_wp2_with fail;go_ret;exact⟨aL HV2.out.symm,hb0⟩
 have t1:(sc != rs)=false:=by rw[bne_eq_false_iff_eq];exact h1
 have HV2:=aa (HV.out.trans (if_neg (fun h=>h h1)));clear HV h1;by_cases h2:sz<0
 .have HV3:Hid (V=3):=aa (by rw[HV2.out,if_pos (by unfold au;rw[decide_eq_false mOm];rfl)]);clear HV2;go_wp2_with fail;go_ret;exact⟨aL HV3.out.symm,hb0⟩
 by_cases h3:2000<sz
 .have HV3:Hid (V=3):=aa (by rw[HV2.out,if_pos (by unfold au;rw[decide_eq_true (show 0<=sz by omega),decide_eq_false mOm];rfl)]);clear HV2;go_wp2_with fail;go_ret;exact⟨aL HV3.out.symm,hb0⟩
 have HV3:=aa (HV2.out.trans (if_neg (by unfold au;rw[decide_eq_true (show 0<=sz by omega),decide_eq_true mOm];simp)))
 clear HV2;obtain⟨bd,hbd⟩:∃x,au dy 0 100000=x:=⟨_,rfl⟩;go_wp2_with fail;refine(iP _ _).mono ?_;rintro _ _⟨rfl,rfl⟩;rw[hbd] at HV3 |-
 cases bd
 .have HV4:Hid (V=23):=aa (HV3.out.trans (if_pos rfl));clear HV3;go_wp2_with fail;go_ret;exact⟨aL HV4.out.symm,hb0⟩
 have HV4:=aa (HV3.out.trans (if_neg mSi))
 clear HV3;by_cases h0:l.length=0
 .have i1:¬(0:Int)<(l.length:Int):=mOm;have HV5:=aa (HV4.out.trans (if_neg (HLT.out.1 h0)));clear HV4 h0 HLT;go_wp2_with fail;have hS1:=cm hS0 (Below.refl _ _).drew;exact su
 .have i1:(0:Int)<(l.length:Int):=mOm;obtain⟨k,hk⟩:∃k,k+1=l.length:=⟨l.length-1,mOm⟩;have hlt:k<l.length:=mOm;obtain⟨lg,lo,rfl,hlg,hrow⟩:=dh (kk:=7) HR.out dp rfl mOm;have hge:=ai hlt;have hat:=hrow k _ hge;have HLA:=aa (HLT.out.2 k _ hk hge);have j1:(k:Int)<(l.length:Int):=mOm;have j2:(0:Int)<=(k:Int):=mOm;have a1:IntKind.i64.wrap ((l.length:Int)-1)=(k:Int):=by rw[show(l.length:Int)-1=(k:Int) by omega];exact fY _ _ rfl mOm
  generalize l[k]=y at *;obtain⟨ysc,ysz,ydy,ytr,ybf,yky,ymk⟩:=y;simp only at HLA;have q:=fun j=>hb0.cell (p:=⟨lg,j,Oh⟩) hlg
  have q0:=(q _).trans (hat 0 _ rfl);have q1:=(q _).trans (hat 1 _ rfl);have q2:=(q _).trans (hat 2 _ rfl);have q3:=(q _).trans (hat 3 _ rfl);have q4:=(q _).trans (hat 4 _ rfl);have q5:=(q _).trans (hat 5 _ rfl);have q6:=(q _).trans (hat 6 _ rfl);rw[ew] at q0;have hba:=aj ((w.alloc (Of #[N9 Oa rs,Oc (Og ⟨g,0,Oh⟩) kl2.length c] 33)).alloc (Of #[N9 Oa sc,N9 Oa sz,N9 Oa dy,Ob tr,Ob bf,N9 Oa ky,Ob mk] 65)) (Of #[N9 Oa ysc,N9 Oa ysz,N9 Oa ydy,Ob ytr,Ob ybf,N9 Oa yky,Ob ymk] 65);have hS2:=cm hS0 hba;clear hat hge hrow hk h0 HLT q hba;by_cases h5:sz<ysz
  .have HV5:Hid (V=7):=aa (HV4.out.trans (if_pos (HLA.out.2 (.inl h5))));clear HV4 HLA;go_wp2_with fail;go_ret;exact⟨aL HV5.out.symm,hS2.1⟩
  by_cases h6:dy<=ydy
  .have HV5:Hid (V=7):=aa (HV4.out.trans (if_pos (HLA.out.2 (.inr h6))));clear HV4 HLA;go_wp2_with fail;go_ret;exact⟨aL HV5.out.symm,hS2.1⟩
  have HV5:=aa (HV4.out.trans (if_neg (fun h=>by rcases HLA.out.1 h with h|h;exact h5 h;exact h6 h)))
  clear HV4 HLA;go_wp2_with fail;have hS1:=cm hS2 (Below.refl _ _).drew;exact su
end
section
theorem Io{W w w':World}{p1 p2 p3:Addr}{v1 v2 v3:Value}(h:ac W.heap.size W w/\w.cell? p1=Og v1/\w.cell? p2=Og v2/\w.cell? p3=Og v3)(hb:ac w.heap.size w w'):ac W.heap.size W w'/\w'.cell? p1=Og v1/\w'.cell? p2=Og v2/\w'.cell? p3=Og v3:=
 ⟨ah h.1 hb,(hb.cell (al w _ h.2.1)).trans h.2.1,(hb.cell (al w _ h.2.2.1)).trans h.2.2.1,(hb.cell (al w _ h.2.2.2)).trans h.2.2.2⟩
theorem uT{W w w':World}{p1 p2 p3 p4 p5 p6:Addr}{v1 v2 v3 v4 v5 v6:Value}(h:ac W.heap.size W w/\w.cell? p1=Og v1/\w.cell? p2=Og v2/\w.cell? p3=Og v3/\w.cell? p4=Og v4/\w.cell? p5=Og v5/\w.cell? p6=Og v6)(hb:ac w.heap.size w w'):ac W.heap.size W w'/\w'.cell? p1=Og v1/\w'.cell? p2=Og v2/\w'.cell? p3=Og v3/\w'.cell? p4=Og v4/\w'.cell? p5=Og v5/\w'.cell? p6=Og v6:=
 ⟨ah h.1 hb,(hb.cell (al w _ h.2.1)).trans h.2.1,(hb.cell (al w _ h.2.2.1)).trans h.2.2.1,(hb.cell (al w _ h.2.2.2.1)).trans h.2.2.2.1,(hb.cell (al w _ h.2.2.2.2.1)).trans h.2.2.2.2.1,(hb.cell (al w _ h.2.2.2.2.2.1)).trans h.2.2.2.2.2.1,(hb.cell (al w _ h.2.2.2.2.2.2)).trans h.2.2.2.2.2.2⟩
theorem MH{W w w':World}{p1 p2 p3 p4 p5 p6 p7 p8 p9:Addr}{v1 v2 v3 v4 v5 v6 v7 v8 v9:Value}(h:ac W.heap.size W w/\w.cell? p1=Og v1/\w.cell? p2=Og v2/\w.cell? p3=Og v3/\w.cell? p4=Og v4/\w.cell? p5=Og v5/\w.cell? p6=Og v6/\w.cell? p7=Og v7/\w.cell? p8=Og v8/\w.cell? p9=Og v9)(hb:ac w.heap.size w w'):ac W.heap.size W w'/\w'.cell? p1=Og v1/\w'.cell? p2=Og v2/\w'.cell? p3=Og v3/\w'.cell? p4=Og v4/\w'.cell? p5=Og v5/\w'.cell? p6=Og v6/\w'.cell? p7=Og v7/\w'.cell? p8=Og v8/\w'.cell? p9=Og v9:=
 ⟨ah h.1 hb,(hb.cell (al w _ h.2.1)).trans h.2.1,(hb.cell (al w _ h.2.2.1)).trans h.2.2.1,(hb.cell (al w _ h.2.2.2.1)).trans h.2.2.2.1,(hb.cell (al w _ h.2.2.2.2.1)).trans h.2.2.2.2.1,(hb.cell (al w _ h.2.2.2.2.2.1)).trans h.2.2.2.2.2.1,(hb.cell (al w _ h.2.2.2.2.2.2.1)).trans h.2.2.2.2.2.2.1,(hb.cell (al w _ h.2.2.2.2.2.2.2.1)).trans h.2.2.2.2.2.2.2.1,(hb.cell (al w _ h.2.2.2.2.2.2.2.2.1)).trans h.2.2.2.2.2.2.2.2.1,(hb.cell (al w _ h.2.2.2.2.2.2.2.2.2)).trans h.2.2.2.2.2.2.2.2.2⟩
theorem yz(g c:Nat)(r:bH)(pl:Option Addr)(cl:Nat)(l:List aC)(w:World)(hr:ar cY w (Oc pl l.length cl) l)(hok:∀x∈l,x.Ok)(hll:l.length<=1000000)(hk:cR w g r.keys)(hg:g<w.heap.size)(hl:r.keys.length<=1000)(hsz:∀k∈r.keys,k.secret.size<=100000)(hs:I64 r.school) :
  Calls prog 102 #[.agg #[N9 Oa r.school,Oc (Og ⟨g,0,Oh⟩) r.keys.length c],Oc pl l.length cl] w fun e w'=>e=Oe (N9 Oa (cK r l))/\ac w.heap.size w w':=by
 have kc:=fun u (hb:ac w.heap.size w u)=>qg g c r u (hk.below hb hg) (ax hg hb.size) hl
 have kp:=fun (k:Nat) (x:aC) (hx:x.Ok) (hkl:k<=l.length) (hlen:(l.take k).length=k) u (hb:ac w.heap.size w u)=>Ar g c r x hx pl cl (l.take k) u (by rw[hlen];exact(hr.below hb).take rfl hkl) (fun y hy=>hok y (cu hy)) mOm (hk.below hb hg) (ax hg hb.size) hl hsz hs
 have HV:=aa (show cK r l=if et r≠0 then et r else if 200<l.length then 2 else dE r Oh l from rfl);have HEX:=aa (fun (k:Nat) (x:aC) (h:l[k]? = Og x) (p:Option aC)=>xL (r:=r) h p);have HNIL:=aa (fun p=>(show dE r p []=0 by cases p <;> rfl));have hcl:l.length<=cl:=by obtain⟨_,_,e,h,_⟩:=hr;injection e with _ _ e;omega
 generalize cK r l=V at *
 generalize hCK:et r=CK at *;generalize hRE:dE r=RE at *;generalize hR1:eF r=R1 at *;clear hCK hRE hR1;obtain⟨rs,kl⟩:=r;simp only at *;have hb0:=aj w (Of #[N9 Oa rs,Oc (Og ⟨g,0,Oh⟩) kl.length c] 33);have hh:=heap_alloc_new w (Of #[N9 Oa rs,Oc (Og ⟨g,0,Oh⟩) kl.length c] 33);have kc0:=kc _ hb0;have KP:=aa kp;have HR:=aa hr;have HOK:=aa hok;clear kc kp hk hsz hr hok;go_enter func102,ntmps102;go_wp2_with fail;refine kc0.mono ?_;rintro _ w1⟨rfl,hb1⟩;have hbw:=ah hb0 hb1;have e1:=(hb1.block _ (av hh)).trans hh;have r0:w1.cell? ⟨w.heap.size,0,Oh⟩=Og (N9 Oa rs):=ae e1 0;have r1:w1.cell? ⟨w.heap.size,1,Oh⟩=Og (Oc (Og ⟨g,0,Oh⟩) kl.length c):=ae e1 1;have hrl:=av e1;clear kc0 hb1 hh e1;by_cases h0:CK=0
 rotate_left 1
 .have t1:(CK != 0)=true:=by rw[bne_iff_ne];exact h0
  have HV2:Hid (V=CK):=aa (by rw[HV.out,if_pos h0]);clear HV h0;go_wp2_with fail;go_ret;exact⟨aL HV2.out.symm,hbw⟩
 subst h0
 have HV2:=aa (HV.out.trans (if_neg (fun h=>h rfl)));clear HV;by_cases h2:200<l.length
 .have i1:(200:Int)<(l.length:Int):=mOm;have HV3:Hid (V=2):=aa (HV2.out.trans (if_pos h2));clear HV2 h2;go_wp2_with fail;go_ret;exact⟨aL HV3.out.symm,hbw⟩
 have i1:¬(200:Int)<(l.length:Int):=mOm
 have HV3:=aa (HV2.out.trans (if_neg h2));clear HV2 h2;go_wp2_with fail
 go_loopw [5,6] (fun e5 i wr=>∃k:Nat,k<=l.length/\i=N9 Oa k/\Hid (RE (l.take k).getLast? (l.drop k)=RE Oh l)/\ac w1.heap.size w1 wr) (fun _ i _=>l.length-(aw i).toNat)
 case atStart=>exact⟨0,aP _,rfl,aa rfl,Below.refl _ _⟩
 case round =>
  obtain⟨k,hk,rfl,HI,hb⟩:=hrel;by_cases hlt:k<l.length
  .obtain⟨lg,lo,rfl,hlg,hrow⟩:=dh (kk:=7) HR.out dp rfl mOm;have hge:=ai hlt;have hat:=hrow k _ hge;have HE:=aa (HEX.out k _ hge (l.take k).getLast?);have HT:=aa (rp hge);have hxo:=HOK.out _ (bA hlt);have hbk:=ah hbw hb;have hlen:(l.take k).length=k:=by rw[aI];omega
   have hkq:=fun u=>KP.out k _ hxo hk hlen u
   rw[hlen] at hkq;have HKQ:=aa hkq;have j1:(k:Int)<(l.length:Int):=mOm;have j2:(0:Int)<=(k:Int):=mOm;have j3:(k:Int)<=(cl:Int):=mOm;generalize l[k]=x at *;obtain⟨sc,sz,dy,tr,bf,ky,mk⟩:=x;have q:=fun j=>hbk.cell (p:=⟨lg,j,Oh⟩) hlg
   have s0:=(hb.cell (p:=⟨w.heap.size,0,Oh⟩) hrl).trans r0;have s1:=(hb.cell (p:=⟨w.heap.size,1,Oh⟩) hrl).trans r1;have q0:=(q _).trans (hat 0 _ rfl);rw[ew] at q0;have hS0:ac w.heap.size w wr.drew/\wr.drew.cell? ⟨w.heap.size,0,Oh⟩=Og (N9 Oa rs)/\wr.drew.cell? ⟨w.heap.size,1,Oh⟩=Og (Oc (Og ⟨g,0,Oh⟩) kl.length c)/\wr.drew.cell? ⟨lg,lo+k*7,Oh⟩=Og (N9 Oa sc)/\wr.drew.cell? ⟨lg,lo+k*7+1,Oh⟩=Og (N9 Oa sz)/\wr.drew.cell? ⟨lg,lo+k*7+2,Oh⟩=Og (N9 Oa dy)/\wr.drew.cell? ⟨lg,lo+k*7+3,Oh⟩=Og (Ob tr)/\wr.drew.cell? ⟨lg,lo+k*7+4,Oh⟩=Og (Ob bf)/\wr.drew.cell? ⟨lg,lo+k*7+5,Oh⟩=Og (N9 Oa ky)/\wr.drew.cell? ⟨lg,lo+k*7+6,Oh⟩=Og (Ob mk):=
    ⟨hbk.drew,s0,s1,q0,(q _).trans (hat 1 _ rfl),(q _).trans (hat 2 _ rfl),(q _).trans (hat 3 _ rfl),(q _).trans (hat 4 _ rfl),(q _).trans (hat 5 _ rfl),(q _).trans (hat 6 _ rfl)⟩
   generalize R1 (l.take k).getLast? ⟨sc,sz,dy,tr,bf,ky,mk⟩=E at *
   clear hat hge hxo q hrow hlen s0 s1 q0 hkq;go_wp2_with fail;refine aD (S:=fun u=>ac w.heap.size w u/\u.cell? ⟨w.heap.size,0,Oh⟩=Og (N9 Oa rs)/\u.cell? ⟨w.heap.size,1,Oh⟩=Og (Oc (Og ⟨g,0,Oh⟩) kl.length c)/\u.cell? ⟨lg,lo+k*7,Oh⟩=Og (N9 Oa sc)/\u.cell? ⟨lg,lo+k*7+1,Oh⟩=Og (N9 Oa sz)/\u.cell? ⟨lg,lo+k*7+2,Oh⟩=Og (N9 Oa dy)/\u.cell? ⟨lg,lo+k*7+3,Oh⟩=Og (Ob tr)/\u.cell? ⟨lg,lo+k*7+4,Oh⟩=Og (Ob bf)/\u.cell? ⟨lg,lo+k*7+5,Oh⟩=Og (N9 Oa ky)/\u.cell? ⟨lg,lo+k*7+6,Oh⟩=Og (Ob mk)) [(0,true),(1,true),(2,true),(3,true),(4,true),(5,true),(6,true),(7,true),(8,false),(9,true)] hS0 ?_;have hS:=hS0
   iterate 8 refine ak ?_
   refine aJ 170 call170 (HKQ.out _ hS.1) ?_;rintro x wn⟨rfl,hb⟩;replace hS:=MH hS hb;have hbd:=ah (Below.refl _ wr).drew hb;refine⟨_,rfl,hS,?_⟩;(try clear hb);refine ay ?_;refine ak ?_;simp only[aQ,aZ];have hbb:=ah hb hbd;clear hS hS0;by_cases h0:E=0
   rotate_left 1
   .have t1:(E != 0)=true:=by rw[bne_iff_ne];exact h0
    have HN:Hid (V=E):=aa (by rw[HV3.out,<-HI.out,HE.out,if_pos h0]);clear h0 HE HI;go_wp2_with fail;go_ret;exact⟨aL HN.out.symm,ah hbw hbb⟩
   subst h0
   have HN:Hid (RE (l.take (k+1)).getLast? (l.drop (k+1))=RE Oh l):=aa (by rw[<-HI.out,HE.out,if_neg mSi,HT.out]);clear HE HI;go_wp2_with fail
   first
    | exact⟨⟨k+1,mOm,by first|rfl|go_num,HN,hbb⟩,by simp[aw];omega⟩
    |go_roundw
     case rel=>exact⟨k+1,mOm,by go_num,HN,hbb⟩
     case measure=>simp[aw];omega
  .obtain rfl:k=l.length:=mOm;have HV4:Hid (V=0):=aa (by rw[HV3.out,<-HI.out,gZ,HNIL.out]);go_wp2_with fail;go_ret;exact⟨aL HV4.out.symm,ah hbw hb⟩
end
section
attribute [local go_sem 2000] td tc
theorem Dk{P:Program}(w:World)(t:TypeId)(s:ByteArray)(ht:P.underlying t=Og .string)(kl kh:IntKind)(l h:Int)(h0:0<=l)(h1:l<=h)(h2:h<=s.size) :
  (Instr.slice t (Ob s) (Og (.int kl l)) (Og (.int kh h)) Oh).run P w=.ok (Ob (s.extract l.toNat h.toNat)) w:=by
 have h3:0<=h:=mOm;have h4:l.toNat<=h.toNat:=mOm;simp[Instr.slice,Instr.sliceBounds,Instr.sliceBound,asIntOf,run_underlying ht,h0,h2,h3];intro hc;exfalso;omega
theorem yN(l:List UInt8)(c:UInt8):jA l++[N9 .u8 c.toNat]=jA (l++[c]):=by simp[jA]
theorem AO(B b:Nat)(l:List UInt8)(c:UInt8)(w:World)(h:Bld B b l w)(hlen:l.length+1<=140000000000000) :
  Calls prog 201 #[Od (Og ⟨b,0,Oh⟩),N9 .u8 c.toNat] w fun e w'=>e=Oe .nilIface/\Bld B b (l++[c]) w'/\ac B w w':=
 (Tryz.Builder_WriteByte_k B b (jA l) c.toNat w h.1 (by rw[Lib.byteCells_length];omega) h.2).mono fun _ _ ⟨he,hb,hl,_⟩=>⟨he,⟨.inr (by rw[<-yN];exact hb),Nat.le_trans h.2 hl.size⟩,hl⟩
theorem Ew(s:ByteArray)(hs:s.size<=1000)(w:World) :
  Calls prog 147 #[Ob s] w fun e w'=>e=Oe (Ob ⟨(fK s.data.toList).toArray⟩)/\ac w.heap.size w w':=by
 have HPS:=aa (bF s);have hb0:=aj w (Of #[.pointer Oh,Oc Oh 0 0] 158);have hB0:=Bld.new w;go_enter func147,ntmps147;go_wp2_with fail
 go_loopw [7] (fun i wr=>∃k:Nat,k<=s.size/\i=N9 Oa k/\Bld w.heap.size w.heap.size (fK (s.data.toList.take k)) wr/\ac w.heap.size w wr) (fun i _=>s.size-(aw i).toNat)
 case atStart=>exact⟨0,aP _,rfl,hB0,hb0⟩
 case round =>
  obtain⟨k,hk,rfl,hB,hbr⟩:=hrel;by_cases hlt:k<s.size
  .have i1:(k:Int)<(s.size:Int):=mOm;have htl:k<s.data.toList.length:=by rw[<-HPS.out];exact hlt
   obtain⟨d,hd⟩:∃d,s.data.toList[k]=d:=⟨_,rfl⟩;have hg:∀h:k<s.size,s[k]'h=d:=fun h=>(Wr.get_ba s k h).trans hd
   have HT:Hid (fK (s.data.toList.take (k+1))=fK (s.data.toList.take k)++[jy (d.toNat / 16)]++[jy (d.toNat%16)]):=aa (by
    rw[aR,ai htl,hd,df,uJ,List.append_assoc];rfl)
   have hdl:(fK (s.data.toList.take k)).length<=2000:=by rw[tH,aI];omega
   have hd8:=d.toNat_lt;obtain⟨q,hq⟩:∃q,q=d.toNat / 16:=⟨_,rfl⟩;obtain⟨r,hr⟩:∃r,r=d.toNat%16:=⟨_,rfl⟩;have e1:∀t,binOp .shr t (N9 .u8 (d.toNat:Int)) (N9 .u64 4)=pure (N9 .u8 (q:Int)):=fun t=>by rw[td,hq]
   have e2:∀t,binOp .and t (N9 .u8 (d.toNat:Int)) (N9 .u8 15)=pure (N9 .u8 (r:Int)):=fun t=>by rw[tc,hr]
   have e3:=fun w=>wk q mOm w
   have e4:=fun w=>wk r mOm w
   rw[<-hq,<-hr] at HT;generalize jy q=x at *;generalize jy r=y at *;generalize fK (s.data.toList.take k)=F at *;have HDL:=aa hdl;have HB:=aa hB;clear htl hd hq hr hdl hB;go_wp2_with fail;refine(AO _ _ _ _ _ HB.out (by have:=HDL.out;omega)).mono ?_;rintro _ w2⟨rfl,hB2,hb2⟩;have hbw:=hbr.trans hb2;have HB2:=aa hB2;clear hB2 hb2 HB;go_wp2_with fail;refine(AO _ _ _ _ _ HB2.out (by have:=HDL.out;rw[ap,List.length_singleton];omega)).mono ?_;rintro _ w3⟨rfl,hB3,hb3⟩;have hbw3:=hbw.trans hb3;clear hb3 HB2;go_wp2_with fail
   go_roundw
   case rel=>exact⟨k+1,mOm,by go_num,by rw[HT.out];exact hB3,hbw3⟩
   case measure=>simp[aw];omega
  .obtain rfl:k=s.size:=mOm;have i1:¬(s.size:Int)<(s.size:Int):=mOm;have e:s.data.toList.take s.size=s.data.toList:=by rw[HPS.out,aT]
   rw[e] at hB;clear e hlt;go_wp2_with fail;refine(yJ _ _ _ _ hB).mono ?_;rintro _ w2⟨rfl,-,hb2,-⟩;have hbw:=hbr.trans hb2;go_wp2_with fail;go_ret;exact⟨rfl,hbw⟩
