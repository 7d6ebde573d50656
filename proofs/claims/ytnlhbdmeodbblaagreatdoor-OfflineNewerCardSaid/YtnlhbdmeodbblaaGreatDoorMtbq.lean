/- Lemmas. -/
import Derived.Test.YtnlhbdmeodbblaaGreatDoorMtbp
set_option maxRecDepth 100000
set_option maxHeartbeats 16000000
set_option linter.all false
open Go.Proofs.Tryz
open Go.Lib renaming cell_of_heap->ae,frozen_of_heap->aE,hid->aa
open List renaming any_eq_true->iK,append_assoc->bZ,append_nil->dq,getElem?_eq_getElem->ai,getElem_mem->bA,length_append->ap,length_singleton->aB,map_append->dH,mem_append->bI,mem_singleton->bE
open Nat renaming le_refl->az,zero_le->aP
open Go.RowKit renaming Below->ac,intOf->aw
open Go.Ending renaming returned->Oe
open Go.IntKind renaming i64->Oa
open Go.Obj renaming cells->Of
open Go.Value renaming int->N9,slice->Oc
open Option renaming some->Og,none->Oh
namespace Go.Proofs.YtnlhbdmeodbblaaGreatDoor
section
open Go Go.Proofs Go.RowKit Go.Sort Go.Lib
theorem Ja(w:World)(o o':Obj):ac w.heap.size w ((w.alloc o).alloc o'):=ah (aj w o) (aj _ o')
theorem Nh(w:World)(o o':Obj):((w.alloc o).alloc o').heap[w.heap.size]? = Og o/\((w.alloc o).alloc o').heap[w.heap.size+1]? = Og o':=by
 refine⟨eR (heap_alloc_new w o) o',?_⟩;have:=heap_alloc_new (w.alloc o) o'
 rwa [size_alloc] at this
theorem yU{B:Nat}{a w:World}(h:ac B a w)(n:Nat):ac B a (w.drewN n):=h.trans ⟨rfl,rfl,rfl,az _,fun _ _=>rfl⟩
theorem oR{w:World}{b:Nat}{cs:Array Value}{t:TypeId}(h:w.heap[b]? = Og (Of cs t (0,0))):w.rangeAt b 0 cs.toList:=fun q v hv=>by rw[Nat.zero_add,ae h];simpa using hv
theorem IN{b x:BrtE}{l:List BrtE}{p:Bool}(h:fh x b=true):il b (x::l) p=il b l p:=by rw[il,if_pos h]
theorem Kx{b x:BrtE}{l:List BrtE}(h:fh x b=false)(hg:dz x b=true):il b (x::l) false=b::x::il b l true:=by rw[il,if_neg (by rw[h];decide),if_pos ⟨rfl,hg⟩]
theorem Mc{b x:BrtE}{l:List BrtE}{p:Bool}(h:fh x b=false)(hg:(!p&&dz x b)=false):il b (x::l) p=x::il b l p:=by
 rw[il,if_neg (by rw[h];decide),if_neg (fun e=>by rw[e.1,e.2] at hg;cases hg)]
theorem tF(f s r:Int)(w:World) :
  Calls prog 72 #[.agg #[N9 Oa f,N9 Oa s,N9 Oa r,Oc Oh 0 0]] w fun e w'=>∃(p:Option Addr) (c:Nat),e=Oe (.agg #[N9 Oa f,N9 Oa s,N9 Oa r,Oc p 0 c])/\(p=Oh->c=0)/\ac w.heap.size w w':=by
 have hbb:=Ja w (Of #[N9 Oa f,N9 Oa s,N9 Oa r,Oc Oh 0 0] 56) (Of #[N9 Oa 0,N9 Oa 0,N9 Oa 0,Oc Oh 0 0] 56);obtain⟨hx0,hx1⟩:=Nh w (Of #[N9 Oa f,N9 Oa s,N9 Oa r,Oc Oh 0 0] 56) (Of #[N9 Oa 0,N9 Oa 0,N9 Oa 0,Oc Oh 0 0] 56);go_enter func72,ntmps72
 go_upto_region 1 with fail
 generalize World.alloc _ _=W at hbb hx0 hx1 |-;have lt1:=av hx1;have hb3:=aj W (Of #[] 67);have hown:(W.alloc (Of #[] 67)).ownsRow W.heap.size 67 15 (Oc (Og ⟨W.heap.size,0,Oh⟩) ([]:List Ent).length 0) ([]:List Ent).length (aN bL []):=World.ownsRow_lit W #[] 0 (az _) (aP _) rfl;have hx03:=(hb3.block _ mOm).trans hx0;have hc3:(W.alloc (Of #[] 67)).cell? ⟨w.heap.size,3,Oh⟩=Og (Oc Oh 0 0):=ae hx03 3
 go_upto_region 2 with (at_builtin;refine bl enT rfl (.tmp 3) (.tmp 5) rfl W.heap.size _ _ [] [] rfl rfl hown (ar.nil _ _) mSi mSi ?_;intro v3 w3 hA3;have hw3:=hA3.own;simp only[dq,List.length_nil] at hw3;obtain⟨p3,c3,hv3⟩:=fZ hw3;subst hv3;have hgr3:(W.alloc (Of #[] 67)).grownBy w3 (Og W.heap.size):=hA3.grown;have hx04:=(hgr3.block w.heap.size (av hx03) (by simp;omega)).trans hx03;have hc4:w3.cell? ⟨w.heap.size,3,Oh⟩=Og (Oc Oh 0 0):=ae hx04 3;have hfz:w3.frozen? ⟨w.heap.size,3,Oh⟩=false:=aE hx04 3)
 have hp3:Hid (p3=Oh->c3=0):=aa (by
  rintro rfl;rcases hw3.2 with ⟨e,_⟩|⟨_,_,_,e,_⟩
  .injection e
  .cases e)
 have hgW:ac W.heap.size W w3:=hb3.grown hgr3 hb3.size (fun q hq=>by obtain rfl:=Option.some.inj hq;exact az _)
 have hx05:(w3.setCell ⟨w.heap.size,3,Oh⟩ (Oc p3 0 c3)).heap[w.heap.size]? = Og (Of #[N9 Oa f,N9 Oa s,N9 Oa r,Oc p3 0 c3] 56 (0,0)):=bj hx04 3 (Oc p3 0 c3);have hx15:=(Below.heap_setCell w3 ⟨w.heap.size,3,Oh⟩ (Oc p3 0 c3) (w.heap.size+1) (show w.heap.size+1≠w.heap.size by omega)).trans ((hgW.block _ lt1).trans hx1);have hbb5:=(ah hbb hgW).setCell (p:=⟨w.heap.size,3,Oh⟩) (az _) (Oc p3 0 c3);clear hA3 hfz hc4 hc3 hx03 hx04 hown hgr3 hb3 hx0 hx1 hbb lt1 hgW hw3;generalize World.setCell _ _ _=W8 at hx05 hx15 hbb5 |-;have hc0:∀j,W8.cell? ⟨w.heap.size,j,Oh⟩=(#[N9 Oa f,N9 Oa s,N9 Oa r,Oc p3 0 c3]:Array Value)[j]?:=fun j=>ae hx05 j
 have hc1:∀j,W8.cell? ⟨w.heap.size+1,j,Oh⟩=(#[N9 Oa 0,N9 Oa 0,N9 Oa 0,Oc Oh 0 0]:Array Value)[j]?:=fun j=>ae hx15 j
 have hf1:∀j,W8.frozen? ⟨w.heap.size+1,j,Oh⟩=false:=fun j=>aE hx15 j
 have HX:=aa hx15;have HB:=aa hbb5;clear hx05 hx15 hbb5;go_wp2_with fail;have h0:=bj HX.out 0 (N9 Oa f);have h1:=bj h0 1 (N9 Oa s);have h2:=bj h1 2 (N9 Oa r);have h3:=bj h2 3 (Oc p3 0 c3);refine bodyPost_ret (v:=.agg #[N9 Oa f,N9 Oa s,N9 Oa r,Oc p3 0 c3]) (results_cell_row (P:=prog) results72 _ _ (w.heap.size+1) 56 #[N9 Oa f,N9 Oa s,N9 Oa r,Oc p3 0 c3] (0,0) _ rfl h3 underlying56 rfl mKr) rfl ?_;have hle:w.heap.size<=w.heap.size+1:=Nat.le_succ _;exact⟨p3,c3,rfl,hp3.out,(((HB.out.setCell hle _).setCell hle _).setCell hle _).setCell hle _⟩
theorem Gu(L:List BrtV)(b:BrtE)(k:Nat)(h:k<L.length)(HI:∀y∈L.take k,ic y.b b=false)(hx:ic L[k].b b=false):∀y∈L.take (k+1),ic y.b b=false:=fun y hy=>by
 rw[ja (ai h)] at hy;rcases bI.1 hy with hy|hy
 .exact HI y hy
 .rw[bE.1 hy];exact hx
def kU(x:BrtV):Prop:=x.b.ents=[]/\(x.p=Oh->x.c=0)
theorem oa{p:Prop} (h:p:=by
 go_wp2_with fail
 go_quiet (fail)
 go_wp2_with fail
 go_roundw
 case rel=>exact⟨k+1,mOm,HN,by go_num,yU hb _⟩
 case measure=>simp[aw];omega):p:=h
theorem Da(f s r:Int)(p:Option Addr)(c:Nat)(L:List BrtV)(w:World)(h:ar aS w (Oc p L.length c) L)(hz:∀x∈L,ZeroB x)(hl:L.length<=900) :
  Calls prog 27 #[Oc p L.length c,.agg #[N9 Oa f,N9 Oa s,N9 Oa r,Oc Oh 0 0]] w fun e w'=>∃v,e=Oe (.tuple #[v,N9 Oa (eI (L.map BrtV.b) (⟨f,s,r,[]⟩:BrtE))])/\(eI (L.map BrtV.b) (⟨f,s,r,[]⟩:BrtE)=0->∃RL:List BrtV,bz aS 4 56 w w' v RL/\RL.map BrtV.b=kC (L.map BrtV.b) (⟨f,s,r,[]⟩:BrtE)/\∀x∈RL,kU x)/\(eI (L.map BrtV.b) (⟨f,s,r,[]⟩:BrtE)≠0->v=Oc Oh 0 0)/\ac w.heap.size w w':=by
 have hb0:=aj w (Of #[N9 Oa f,N9 Oa s,N9 Oa r,Oc Oh 0 0] 56);have HB0:=aa hb0;have e0:=heap_alloc_new w (Of #[N9 Oa f,N9 Oa s,N9 Oa r,Oc Oh 0 0] 56);have z0:(w.alloc (Of #[N9 Oa f,N9 Oa s,N9 Oa r,Oc Oh 0 0] 56)).cell? ⟨w.heap.size,0,Oh⟩=Og (N9 Oa f):=ae e0 0;have z1:(w.alloc (Of #[N9 Oa f,N9 Oa s,N9 Oa r,Oc Oh 0 0] 56)).cell? ⟨w.heap.size,1,Oh⟩=Og (N9 Oa s):=ae e0 1;have z2:(w.alloc (Of #[N9 Oa f,N9 Oa s,N9 Oa r,Oc Oh 0 0] 56)).cell? ⟨w.heap.size,2,Oh⟩=Og (N9 Oa r):=ae e0 2;have HR:=aa (h.below hb0);have HZ:=aa hz;have HX0:=aO.mk e0;clear h hz e0 hb0;by_cases hbad:f<1\/8<f\/s<1\/999999<s\/r<0
 .rw[EO hbad];obtain⟨q1,e1⟩:∃q,decide (f<1)=q:=⟨_,rfl⟩;obtain⟨q2,e2⟩:∃q,decide (8<f)=q:=⟨_,rfl⟩;obtain⟨q3,e3⟩:∃q,decide (s<1)=q:=⟨_,rfl⟩;obtain⟨q4,e4⟩:∃q,decide (999999<s)=q:=⟨_,rfl⟩;obtain⟨q5,e5⟩:∃q,decide (r<0)=q:=⟨_,rfl⟩;have hq:q1=true\/q2=true\/q3=true\/q4=true\/q5=true:=by
   subst e1 e2 e3 e4 e5
   simpa using hbad
  clear hbad HX0
  go_enter func27,ntmps27
  cases q1
  .cases q2
   .cases q3
    .cases q4
     .cases q5
      .simp at hq
      .clear hq;go_wp2_with fail
       go_ret2
       exact⟨_,rfl,(fun h=>by cases h),(fun _=>rfl),HB0.out⟩
     .clear hq;go_wp2_with fail
      go_ret2
      exact⟨_,rfl,(fun h=>by cases h),(fun _=>rfl),HB0.out⟩
    .clear hq;go_wp2_with fail
     go_ret2
     exact⟨_,rfl,(fun h=>by cases h),(fun _=>rfl),HB0.out⟩
   .clear hq;go_wp2_with fail
    go_ret2
    exact⟨_,rfl,(fun h=>by cases h),(fun _=>rfl),HB0.out⟩
  .clear hq;go_wp2_with fail
   go_ret2
   exact⟨_,rfl,(fun h=>by cases h),(fun _=>rfl),HB0.out⟩
 .rw[Cx hbad];have k1:decide (f<1)=false:=decide_eq_false mOm;have k2:decide (8<f)=false:=decide_eq_false mOm;have k3:decide (s<1)=false:=decide_eq_false mOm;have k4:decide (999999<s)=false:=decide_eq_false mOm;have k5:decide (r<0)=false:=decide_eq_false mOm;obtain⟨E,hE⟩:∃E:Int,(if ((L.map BrtV.b).any fun x=>ic x (⟨f,s,r,[]⟩:BrtE))=true then 7 else 0)=E:=⟨_,rfl⟩;rw[hE];have HE:=aa hE;clear hbad hE;obtain⟨W,hW⟩:∃u,u=(w.alloc (Of #[N9 Oa f,N9 Oa s,N9 Oa r,Oc Oh 0 0] 56)):=⟨_,rfl⟩;have HB:Hid (ac w.heap.size w W):=aa (by rw[hW];exact HB0.out);rw[<-hW] at HX0 HR;have hWs:w.heap.size<W.heap.size:=aG HX0.is;go_enter func27,ntmps27
  go_upto_region 3 with fail
  rw[<-hW];clear hW z0 z1 z2 k1 k2 k3 k4 k5 HB0;go_wp2_with fail
  go_loopw [6] (fun i wr=>∃k:Nat,k<=L.length/\Hid (∀y∈L.take k,ic y.b (⟨f,s,r,[]⟩:BrtE)=false)/\i=N9 Oa k/\ac W.heap.size W wr) (fun i _=>L.length-(aw i).toNat)
  case atStart=>exact⟨0,aP _,aa mSi,rfl,Below.refl _ _⟩
  case round =>
   obtain⟨k,hk,HI,rfl,hb⟩:=hrel;have z0:wr.cell? ⟨w.heap.size,0,Oh⟩=Og (N9 Oa f):=(hb.cell (p:=⟨w.heap.size,0,Oh⟩) hWs).trans (ae HX0.is 0);have z1:wr.cell? ⟨w.heap.size,1,Oh⟩=Og (N9 Oa s):=(hb.cell (p:=⟨w.heap.size,1,Oh⟩) hWs).trans (ae HX0.is 1);have z2:wr.cell? ⟨w.heap.size,2,Oh⟩=Og (N9 Oa r):=(hb.cell (p:=⟨w.heap.size,2,Oh⟩) hWs).trans (ae HX0.is 2);by_cases hlt:k<L.length
   .obtain⟨g,o,rfl,hg,hrow⟩:=dh (kk:=4) HR.out dt rfl mOm;have hge:=ai hlt;have hat:=hrow k _ hge;have HN:=aa (fun hx=>Gu L (⟨f,s,r,[]⟩:BrtE) k hlt HI.out hx);have HY:=aa (fun hx:ic L[k].b (⟨f,s,r,[]⟩:BrtE)=true=>(show((L.map BrtV.b).any fun x=>ic x (⟨f,s,r,[]⟩:BrtE))=true by rw[List.any_map];exact iK.2 ⟨L[k],bA hlt,hx⟩));have q0:wr.cell? ⟨g,o+k*4,Oh⟩=Og (N9 Oa L[k].b.fro):=(hb.cell (p:=⟨g,o+k*4,Oh⟩) hg).trans (hat 0 _ rfl);have q1:wr.cell? ⟨g,o+k*4+1,Oh⟩=Og (N9 Oa L[k].b.student):=(hb.cell (p:=⟨g,o+k*4+1,Oh⟩) hg).trans (hat 1 _ rfl);have q2:wr.cell? ⟨g,o+k*4+2,Oh⟩=Og (N9 Oa L[k].b.root):=(hb.cell (p:=⟨g,o+k*4+2,Oh⟩) hg).trans (hat 2 _ rfl);have i1:(k:Int)<(L.length:Int):=mOm;have i2:(0:Int)<=(k:Int):=mOm;clear hge hat hrow HI;have HLK:Hid (ic L[k].b (⟨f,s,r,[]⟩:BrtE)=(L[k].b.fro==f&&L[k].b.student==s&&decide (r<L[k].b.root))):=aa rfl;generalize L[k]=x at *;obtain⟨b1,e1⟩:∃t,(x.b.fro==f)=t:=⟨_,rfl⟩;obtain⟨b2,e2⟩:∃t,(x.b.student==s)=t:=⟨_,rfl⟩;obtain⟨b3,e3⟩:∃t,decide (r<x.b.root)=t:=⟨_,rfl⟩;rw[e1,e2,e3] at HLK;have hno:(b1&&b2&&b3)=false->Hid (∀y∈L.take (k+1),ic y.b (⟨f,s,r,[]⟩:BrtE)=false):=fun hh=>aa (HN.out (HLK.out.trans hh))
    have HNO:=aa hno;clear hno HN
    cases b1
    .have HN:=HNO.out rfl;exact oa
    .cases b2
     .have HN:=HNO.out rfl;exact oa
     .cases b3
      .have HN:=HNO.out rfl;exact oa
      .have h7:Hid ((7:Int)=E):=aa (by have h1:=HE.out;rw[if_pos (HY.out HLK.out)] at h1;exact h1);go_wp2_with fail
       go_quiet (fail)
       go_wp2_with fail
       go_ret2
       obtain rfl:=h7.out;exact⟨_,rfl,(fun h=>by cases h),(fun _=>rfl),ah HB.out (yU hb _)⟩
   .obtain rfl:k=L.length:=mOm
    have h0:Hid ((0:Int)=E):=aa (by
     have h1:=HE.out;have h2:=HI.out;rw[List.take_length] at h2;rw[if_neg (by rw[List.any_map];intro h3;obtain⟨y,hy,h4⟩:=iK.1 h3;have:=h2 y hy;simp only[Function.comp] at h4;rw[this] at h4;cases h4)] at h1
     exact h1)
    clear HI HE z0 z1 z2
    have hO0:bz aS 4 56 W wr (Oc Oh 0 0) []:=(bz.nil _ _ _ _).next hb;obtain⟨TOT,hTOT⟩:∃T,T=il (⟨f,s,r,[]⟩:BrtE) (L.map BrtV.b) false:=⟨_,rfl⟩;have HTOT:=aa hTOT;have HS0:Hid ((∀x∈([]:List BrtV),kU x)/\([]:List BrtV).length<=0+false.toNat/\([]:List BrtV).map BrtV.b++il (⟨f,s,r,[]⟩:BrtE) ((L.drop 0).map BrtV.b) false=TOT):=aa ⟨fun x hx=>(by cases hx),az _,(by rw[List.drop_zero,hTOT];rfl)⟩;clear hTOT hb;go_wp2_with fail
    go_loopw [7,8,9] (fun v q i wr=>∃(k:Nat) (B:Bool) (RL:List BrtV),k<=L.length/\q=.bool B/\i=N9 Oa k/\bz aS 4 56 W wr v RL/\Hid ((∀x∈RL,kU x)/\RL.length<=k+B.toNat/\RL.map BrtV.b++il (⟨f,s,r,[]⟩:BrtE) ((L.drop k).map BrtV.b) B=TOT)) (fun _ _ i _=>L.length-(aw i).toNat)
    case atStart=>exact⟨0,false,[],aP _,rfl,rfl,hO0,HS0⟩
    case round =>
     obtain⟨k,B,RL,hk,rfl,rfl,hO,HI⟩:=hrel;obtain⟨pv,cv,hv⟩:=hO.form;subst hv;have HO:=aa hO;clear HS0 hO0;have hxb:=hO.low.heap_of HX0.is;by_cases hlt:k<L.length
     .obtain⟨g,o,hpe,hg,hrow⟩:=dh (kk:=4) HR.out dt rfl mOm;subst hpe;have hge:=ai hlt;have hat:=hrow k _ hge;have hzx:=HZ.out _ (bA hlt);have hdr:L.drop k=L[k]::L.drop (k+1):=List.drop_eq_getElem_cons hlt;generalize L[k]=x at hge hat hzx hdr;obtain⟨⟨xf,xs,xr,xe⟩,xp,xc⟩:=x;obtain⟨h1,h2,h3⟩:=hzx;simp only at h1 h2 h3;subst h1 h2 h3;have hat2:wr.rangeAt g (o+k*4) (#[N9 Oa xf,N9 Oa xs,N9 Oa xr,Oc Oh 0 0]:Array Value).toList:=fun j v hv=>(hO.low.cell (p:=⟨g,o+k*4+j,Oh⟩) hg).trans (hat j v hv)
      have HT0:Hid (RL.map BrtV.b++il (⟨f,s,r,[]⟩:BrtE) ((⟨xf,xs,xr,[]⟩:BrtE)::(L.drop (k+1)).map BrtV.b) B=TOT):=aa (by have:=HI.out.2.2;rw[hdr] at this;exact this);have HI2:=aa (And.intro HI.out.1 HI.out.2.1);have i1:(k:Int)<(L.length:Int):=mOm;have i2:(0:Int)<=(k:Int):=mOm;have hbA:=aj wr (Of #[N9 Oa xf,N9 Oa xs,N9 Oa xr,Oc Oh 0 0] 56);have hO3:=hO.next hbA;have hx3:=heap_alloc_new wr (Of #[N9 Oa xf,N9 Oa xs,N9 Oa xr,Oc Oh 0 0] 56);have hxb3:=hbA.heap_of hxb;obtain⟨W3,hW3⟩:∃u,u=wr.alloc (Of #[N9 Oa xf,N9 Oa xs,N9 Oa xr,Oc Oh 0 0] 56):=⟨_,rfl⟩;obtain⟨xb,hxb0⟩:∃q,q=wr.heap.size:=⟨_,rfl⟩;have hlt2:w.heap.size<wr.heap.size:=aG hxb;have HNE:Hid (∀q,(Value.slice pv RL.length cv).ownBlock=Og q->q≠xb):=aa (fun q hq=>by have:=(hO.own.lt q hq).2;omega);rw[<-hW3] at hO3 hx3 hxb3;rw[<-hxb0] at hx3;clear hge hat hrow hdr HI hO hbA hxb
      go_upto_region 14 with ((with_reducible refine wpList_load_mid (op:=⟨_,_,_,_,_,_⟩) ?_ 56 (.tmp 76) ?_ g (o+k*4) ?_ (#[N9 Oa xf,N9 Oa xs,N9 Oa xr,Oc Oh 0 0]:Array Value).toList _ ?_ underlying56 ?_ ?_ ?_);rfl;rfl;rfl;exact hat2;rfl;kernel_rfl)
      rw[<-hW3,<-hxb0];have z0:W3.cell? ⟨w.heap.size,0,Oh⟩=Og (N9 Oa f):=ae hxb3 0;have z1:W3.cell? ⟨w.heap.size,1,Oh⟩=Og (N9 Oa s):=ae hxb3 1;have y0:W3.cell? ⟨xb,0,Oh⟩=Og (N9 Oa xf):=ae hx3 0;have y1:W3.cell? ⟨xb,1,Oh⟩=Og (N9 Oa xs):=ae hx3 1;have HX3:=aO.mk hx3;have HXB:=aO.mk hxb3;have HO3:=aa hO3;clear hW3 hat2 hlt2 hxb0 hx3 hxb3 HO hO3;obtain⟨b1,e1⟩:∃t,(xf==f)=t:=⟨_,rfl⟩;obtain⟨b2,e2⟩:∃t,(xs==s)=t:=⟨_,rfl⟩;obtain⟨b4,e4⟩:∃t,decide (f<xf)=t:=⟨_,rfl⟩;obtain⟨b5,e5⟩:∃t,decide (s<xs)=t:=⟨_,rfl⟩;have HK:Hid (fh (⟨xf,xs,xr,[]⟩:BrtE) (⟨f,s,r,[]⟩:BrtE)=(b1&&b2)):=aa (by rw[<-e1,<-e2];rfl);have HG:Hid (dz (⟨xf,xs,xr,[]⟩:BrtE) (⟨f,s,r,[]⟩:BrtE)=(b4||(b1&&b5))):=aa (by rw[<-e1,<-e4,<-e5];rfl);obtain⟨sk,hsk⟩:∃t,(b1&&b2)=t:=⟨_,rfl⟩;have HSK:=aa hsk;clear hsk
      go_cut [89] (fun v wx=>v=.bool sk/\wx=W3)
      case first =>
       cases b1
       .have hs0:false=sk:=HSK.out;subst hs0;go_wp2_with fail
        go_meet
        case rel=>exact⟨rfl,rfl⟩
       .cases b2
        .have hs0:false=sk:=HSK.out;subst hs0;go_wp2_with fail
         go_meet
         case rel=>exact⟨rfl,rfl⟩
        .have hs0:true=sk:=HSK.out;subst hs0;go_wp2_with fail
         go_meet
         case rel=>exact⟨rfl,rfl⟩
      case rest =>
       obtain⟨rfl,rfl⟩:=hcut;have HW:Hid (ac W.heap.size W wc):=aa HO3.out.low
       cases sk
       .have HKF:Hid (fh (⟨xf,xs,xr,[]⟩:BrtE) (⟨f,s,r,[]⟩:BrtE)=false):=aa (HK.out.trans HSK.out);obtain⟨t,ht⟩:∃t,(!B&&(b4||(b1&&b5)))=t:=⟨_,rfl⟩;have HT:=aa ht;clear ht
        go_upto_region 15 with fail
        go_cut [112] (fun v wx=>v=.bool t/\wx=wc)
        case first =>
         cases B
         .cases b4
          .cases b1
           .have hs0:false=t:=HT.out;subst hs0;go_wp2_with fail
            go_meet
            case rel=>exact⟨rfl,rfl⟩
           .have hs0:b5=t:=HT.out;subst hs0;go_wp2_with fail
            go_meet
            case rel=>exact⟨rfl,rfl⟩
          .have hs0:true=t:=HT.out;subst hs0;go_wp2_with fail
           go_meet
           case rel=>exact⟨rfl,rfl⟩
         .have hs0:false=t:=HT.out;subst hs0;go_wp2_with fail
          go_meet
          case rel=>exact⟨rfl,rfl⟩
        case rest =>
         obtain⟨rfl,rfl⟩:=hcut;clear z0 z1 y0 y1 e1 e2 e4 e5;have hkl:RL.length<=901:=by have h1:=HI2.out.2;have h2:B.toNat<=1:=Bool.toNat_le B;omega
         go_upto_if 112 with fail
         go_cut [7,8] (fun v q wx=>∃(RL2:List BrtV) (B2:Bool) (p2:Option Addr) (c2:Nat),v=Oc p2 RL2.length c2/\q=.bool B2/\Hid (bz aS 4 56 W wx (Oc p2 RL2.length c2) RL2)/\Hid (wx.heap[xb]? = Og (Of #[N9 Oa xf,N9 Oa xs,N9 Oa xr,Oc Oh 0 0] 56 (0,0)))/\Hid ((∀x∈RL2,kU x)/\RL2.length<=k+B2.toNat/\RL2.map BrtV.b++(⟨xf,xs,xr,[]⟩:BrtE)::il (⟨f,s,r,[]⟩:BrtE) ((L.drop (k+1)).map BrtV.b) B2=TOT))
         case first =>
          cases t
          .have hF:Hid ((∀x∈RL,kU x)/\RL.length<=k+B.toNat/\RL.map BrtV.b++(⟨xf,xs,xr,[]⟩:BrtE)::il (⟨f,s,r,[]⟩:BrtE) ((L.drop (k+1)).map BrtV.b) B=TOT):=aa ⟨HI2.out.1,HI2.out.2,(by have:=HT0.out;rwa [Mc HKF.out (by rw[HG.out];exact HT.out)] at this)⟩;have hX:Hid (wc.heap[xb]? = Og (Of #[N9 Oa xf,N9 Oa xs,N9 Oa xr,Oc Oh 0 0] 56 (0,0))):=aa HX3.is;go_wp2_with fail
           go_meet
           case rel=>exact⟨RL,B,pv,cv,rfl,rfl,HO3,hX,hF⟩
          .cases B
           .have hgt:Hid (dz (⟨xf,xs,xr,[]⟩:BrtE) (⟨f,s,r,[]⟩:BrtE)=true):=aa (HG.out.trans HT.out);have hxl:=aG HX3.is;have HXL:=aa HX3.is;clear HX3;have hrg:=oR HXB.is;go_wp2_with ((with_reducible refine wpList_load_mid (op:=⟨_,_,_,_,_,_⟩) ?_ 56 (.tmp 3) ?_ w.heap.size 0 ?_ (#[N9 Oa f,N9 Oa s,N9 Oa r,Oc Oh 0 0]:Array Value).toList _ ?_ underlying56 ?_ ?_ ?_);rfl;rfl;rfl;exact hrg;rfl;kernel_rfl);refine(tF f s r _).mono ?_;rintro _ w4⟨p4,c4,rfl,hp4,hb4⟩;have hX5:=(aj w4 (Of #[N9 Oa f,N9 Oa s,N9 Oa r,Oc p4 0 c4] 56)).heap_of (hb4.heap_of HXL.out);have hO5:=(HO3.out.next hb4).next (aj w4 (Of #[N9 Oa f,N9 Oa s,N9 Oa r,Oc p4 0 c4] 56));have HP4:=aa hp4;clear hp4 hrg hb4;go_wp2_with (at_builtin;refine bl brT rfl (.tmp 113) (.tmp 116) rfl W.heap.size _ _ RL [(⟨(⟨f,s,r,[]⟩:BrtE),p4,c4⟩:BrtV)] rfl rfl hO5.own (yM (heap_alloc_new _ _)) (by simp only[aB];omega) hO5.low.size ?_;intro v9 w9 hA9;have hO9:=hO5.app hA9;have HX9:=aa ((hA9.grown.block _ (aG hX5) (fun e=>HNE.out _ e.symm rfl)).trans hX5);obtain⟨p9,c9,hv9⟩:=hO9.form;subst hv9;have HO9:=aa hO9;clear hA9 hO9 hX5)
            have hF:Hid ((∀x∈RL++[(⟨(⟨f,s,r,[]⟩:BrtE),p4,c4⟩:BrtV)],kU x)/\(RL++[(⟨(⟨f,s,r,[]⟩:BrtE),p4,c4⟩:BrtV)]).length<=k+true.toNat/\(RL++[(⟨(⟨f,s,r,[]⟩:BrtE),p4,c4⟩:BrtV)]).map BrtV.b++(⟨xf,xs,xr,[]⟩:BrtE)::il (⟨f,s,r,[]⟩:BrtE) ((L.drop (k+1)).map BrtV.b) true=TOT):=aa (by
             refine⟨fun x hx=>?_,?_,?_⟩
             .rcases bI.1 hx with hx|hx
              .exact HI2.out.1 x hx
              .rw[bE.1 hx];exact⟨rfl,HP4.out⟩
             .have:=HI2.out.2;simp only[ap,aB,Bool.toNat_true,Bool.toNat_false] at this |-;omega
             .have:=HT0.out;rw[Kx HKF.out hgt.out] at this;rw[dH,bZ]
              exact this)
            go_meet
            case rel=>exact⟨RL++[(⟨(⟨f,s,r,[]⟩:BrtE),p4,c4⟩:BrtV)],true,p9,c9,mSi,rfl,HO9,HX9,hF⟩
           .have:=HT.out;cases this
         case rest =>
          obtain⟨RL2,B2,p2,c2,rfl,rfl,HO2,HX2,HI4⟩:=hcut;have hkl2:RL2.length<=902:=by have h1:=HI4.out.2.1;have h2:B2.toNat<=1:=Bool.toNat_le B2;omega
          have hxl:=aG HX2.out;clear HX3 HXB HO3 HI2 HT0 HNE;have hrg:=oR HX2.out;go_wp2_with ((with_reducible refine wpList_load_mid (op:=⟨_,_,_,_,_,_⟩) ?_ 56 (.tmp 10) ?_ xb 0 ?_ (#[N9 Oa xf,N9 Oa xs,N9 Oa xr,Oc Oh 0 0]:Array Value).toList _ ?_ underlying56 ?_ ?_ ?_);rfl;rfl;rfl;exact hrg;rfl;kernel_rfl);refine(tF xf xs xr _).mono ?_;rintro _ w4⟨p4,c4,rfl,hp4,hb4⟩;have hO5:=(HO2.out.next hb4).next (aj w4 (Of #[N9 Oa xf,N9 Oa xs,N9 Oa xr,Oc p4 0 c4] 56));have HP4:=aa hp4;clear hp4 hrg hb4;go_wp2_with (at_builtin;refine bl brT rfl (.tmp 118) (.tmp 121) rfl W.heap.size _ _ RL2 [(⟨(⟨xf,xs,xr,[]⟩:BrtE),p4,c4⟩:BrtV)] rfl rfl hO5.own (yM (heap_alloc_new _ _)) (by simp only[aB];omega) hO5.low.size ?_;intro v9 w9 hA9;have hO9:=hO5.app hA9;obtain⟨p9,c9,hv9⟩:=hO9.form;subst hv9;have HO9:=aa hO9;clear hA9 hO9)
          have HN:Hid ((∀x∈RL2++[(⟨(⟨xf,xs,xr,[]⟩:BrtE),p4,c4⟩:BrtV)],kU x)/\(RL2++[(⟨(⟨xf,xs,xr,[]⟩:BrtE),p4,c4⟩:BrtV)]).length<=k+1+B2.toNat/\(RL2++[(⟨(⟨xf,xs,xr,[]⟩:BrtE),p4,c4⟩:BrtV)]).map BrtV.b++il (⟨f,s,r,[]⟩:BrtE) ((L.drop (k+1)).map BrtV.b) B2=TOT):=aa (by
           refine⟨fun x hx=>?_,?_,?_⟩
           .rcases bI.1 hx with hx|hx
            .exact HI4.out.1 x hx
            .rw[bE.1 hx];exact⟨rfl,HP4.out⟩
           .have:=HI4.out.2.1;rw[ap,aB];omega
           .rw[dH,bZ]
            exact HI4.out.2.2)
          go_roundw
          case rel=>exact⟨k+1,B2,RL2++[(⟨(⟨xf,xs,xr,[]⟩:BrtE),p4,c4⟩:BrtV)],mOm,rfl,by go_num,(by have:=HO9.out;rwa [ap,aB] at this),HN⟩
          case measure=>simp[aw];omega
       .have HN:Hid ((∀x∈RL,kU x)/\RL.length<=k+1+B.toNat/\RL.map BrtV.b++il (⟨f,s,r,[]⟩:BrtE) ((L.drop (k+1)).map BrtV.b) B=TOT):=aa ⟨HI2.out.1,(by have:=HI2.out.2;omega),(by have:=HT0.out;rwa [IN (HK.out.trans HSK.out)] at this)⟩;go_wp2_with fail
        go_roundw
        case rel=>exact⟨k+1,B,RL,mOm,rfl,by go_num,HO3.out,HN⟩
        case measure=>simp[aw];omega
     .obtain rfl:k=L.length:=mOm;have hkl2:RL.length<=902:=by have h1:=HI.out.2.1;have h2:B.toNat<=1:=Bool.toNat_le B;omega
      have hput:∀(RL':List BrtV),RL'.map BrtV.b=TOT->RL'.map BrtV.b=kC (L.map BrtV.b) (⟨f,s,r,[]⟩:BrtE):=fun RL' h'=>by rw[h',HTOT.out,tY]
      have HPUT:=aa hput;have HE2:=h0.out;subst HE2;have HI5:Hid ((∀x∈RL,kU x)/\RL.map BrtV.b++il (⟨f,s,r,[]⟩:BrtE) [] B=TOT):=aa ⟨HI.out.1,(by have:=HI.out.2.2;rwa [List.drop_length] at this)⟩;clear hput HI
      cases B
      .have hxl:=aG hxb;have HXB:=aO.mk hxb;clear hxb;have hrg:=oR HXB.is;go_wp2_with ((with_reducible refine wpList_load_mid (op:=⟨_,_,_,_,_,_⟩) ?_ 56 (.tmp 3) ?_ w.heap.size 0 ?_ (#[N9 Oa f,N9 Oa s,N9 Oa r,Oc Oh 0 0]:Array Value).toList _ ?_ underlying56 ?_ ?_ ?_);rfl;rfl;rfl;exact hrg;rfl;kernel_rfl);refine(tF f s r _).mono ?_;rintro _ w4⟨p4,c4,rfl,hp4,hb4⟩;have hO5:=(HO.out.next hb4).next (aj w4 (Of #[N9 Oa f,N9 Oa s,N9 Oa r,Oc p4 0 c4] 56));have HP4:=aa hp4;clear hp4 hrg hb4;go_wp2_with (at_builtin;refine bl brT rfl (.tmp 125) (.tmp 128) rfl W.heap.size _ _ RL [(⟨(⟨f,s,r,[]⟩:BrtE),p4,c4⟩:BrtV)] rfl rfl hO5.own (yM (heap_alloc_new _ _)) (by simp only[aB];omega) hO5.low.size ?_;intro v9 w9 hA9;have hO9:=hO5.app hA9;obtain⟨p9,c9,hv9⟩:=hO9.form;subst hv9;have HO9:=aa hO9;clear hA9 hO9)
       go_ret2
       refine⟨_,rfl,⟨RL++[(⟨(⟨f,s,r,[]⟩:BrtE),p4,c4⟩:BrtV)],(by have:=HO9.out;rw[ap,aB] at this;exact this.from_ HB.out),HPUT.out _ (by rw[dH];exact HI5.out.2),fun x hx=>?_⟩,ah HB.out HO9.out.low⟩;rcases bI.1 hx with hx|hx
       .exact HI5.out.1 x hx
       .rw[bE.1 hx];exact⟨rfl,HP4.out⟩
      .go_wp2_with fail
       go_ret2
       exact⟨_,rfl,⟨RL,HO.out.from_ HB.out,HPUT.out _ (by have:=HI5.out.2;rwa [show il (⟨f,s,r,[]⟩:BrtE) [] true=[] from rfl,dq] at this),HI5.out.1⟩,ah HB.out HO.out.low⟩
