/- The law OfflineNewer, as a tied card: for every input it returns true, and each argument reads as it read before; the variables of the library that it lists hold what the program's text lays (tied). -/
import Derived.Test.YtnlhbdmeodbblaaGreatDoorMtbs
import Derived.Test.YtnlhbdmeodbblaaGreatDoorMtbq
import Derived.ChangeMaps
import Derived.Deep.Fields
import Derived.Test.YtnlhbdmeodbblaaGreatDoorMtao
import Derived.Test.YtnlhbdmeodbblaaGreatDoorCards
import Derived.Test.YtnlhbdmeodbblaaGreatDoorTie
set_option maxRecDepth 100000
set_option maxHeartbeats 16000000
set_option linter.all false
open Go.Proofs.Tryz
open Go.IntWalk renaming i64_in->aH
open Go.Lib renaming hid->aa
open List renaming append_nil->dq,getElem?_append_left->bR,getElem?_append_right->bS,getElem?_eq_getElem->ai,getElem?_eq_some_iff->aA,getElem?_map->en,getElem_mem->bA,length_map->aU,length_take->aI,map_append->dH,mem_append->bI,mem_of_mem_take->cu,mem_reverse->iL,take_add_one->aR,take_length->aT
open Nat renaming add_assoc->kL,le_refl->az,le_trans->aV,zero_le->aP
open Option renaming toList_some->df
open Go.RowKit renaming Below->ac,intOf->aw
open Go.World renaming block_lt_of_cell?->al
open Go.Ending renaming returned->Oe
open Go.IntKind renaming i64->Oa
open Go.Obj renaming cells->Of
open Go.Value renaming int->N9,slice->Oc
open Option renaming some->Og,none->Oh
namespace Go.Proofs.YtnlhbdmeodbblaaGreatDoor
section
open Go Go.Proofs Go.RowKit Go.Sort Go.Lib
def mk3(x:Int×Int×Int):BrtE:=⟨1+x.1%3,1+x.2.1%3,x.2.2%4,[]⟩
def zB(b:BrtE):BrtV:=⟨b,Oh,0⟩
structure OkB (x:BrtE):Prop where
 ok:¬(au x.fro 1 8=false\/au x.student 1 999999=false\/x.root<0)
 ents:x.ents=[]
theorem MM(x:Int×Int×Int):OkB (mk3 x):=⟨by
 unfold mk3 au;simp only[Bool.and_eq_false_iff,decide_eq_false_iff_not]
 omega,rfl⟩
def jv(l:List BrtE)(a:List BrtE):List BrtE:=l.foldl nT a
theorem uU:∀(l a P:List BrtE),(∀x∈l,OkB x)->(∀x∈P,OkB x)->KeptB a P->KeptB (jv l a) (l.reverse++P)
 | [],_,_,_,_,h=>h
 | x::l,a,P,hl,hP,h=>by
  have hx:=hl x (List.mem_cons_self ..)
  have hxP:∀y∈x::P,OkB y:=fun y hy=>by
   rcases List.mem_cons.1 hy with rfl|hy
   .exact hx
   .exact hP y hy
  have h2:=h.step hx.ok (fun y hy z hz h3 h4=>by
   have e:=same_iff.1 h3;have ey:=(hxP y hy).ents;have ez:=(hxP z hz).ents;obtain⟨yf,ys,yr,ye⟩:=y;obtain⟨zf,zs,zr,ze⟩:=z;simp only at e h4 ey ez
   rw[e.1,e.2,h4,ey,ez])
  have h3:=uU l (nT a x) (x::P) (fun y hy=>hl y (List.mem_cons_of_mem _ hy)) hxP h2
  rw[List.reverse_cons,List.append_assoc];exact h3
theorem Ic(l:List BrtE)(t:Nat)(h:∀x∈l,OkB x):jv l []=jv (l.drop t++l.take t) []:=by
 have h2:∀x∈l.drop t++l.take t,OkB x:=fun x hx=>by
  rcases bI.1 hx with hx|hx
  .exact h x (List.mem_of_mem_drop hx)
  .exact h x (cu hx)
 refine(uU l [] [] h (fun _ hx=>by cases hx) KeptB.nil).same (uU _ [] [] h2 (fun _ hx=>by cases hx) KeptB.nil) (fun x=>?_)
 rw[dq,dq,iL,iL,bI,Or.comm,<-bI,List.take_append_drop]
theorem AS(l:List BrtE)(k:Nat)(h:k<l.length)(a:List BrtE):jv (l.take (k+1)) a=nT (jv (l.take k) a) l[k]:=by unfold jv;rw[aR,ai h,df,List.foldl_append];rfl
theorem I5{a:List BrtE}{b:BrtE}(h:eI a b≠0):nT a b=a:=by unfold nT;rw[if_neg h]
theorem KW{a:List BrtE}{b:BrtE}(h:eI a b=0):nT a b=kC a b:=by unfold nT;rw[if_pos h]
theorem Gz{L:List BrtV}{b:BrtE}(hz:∀x∈L,ZeroB x)(hb:b.ents=[]):∀x∈kZ L (zB b),ZeroB x:=fun x hx=>by
 rcases zv hx with rfl|hx
 .exact⟨hb,rfl,rfl⟩
 .exact hz x hx
theorem pF{w:World}{v:Value}{L:List BrtV}(h:ar aS w v L)(hz:∀x∈L,kU x):BrtIn w v L:=⟨h,fun x hx=>by
 obtain⟨h1,h2⟩:=hz x hx;rw[h1]
 exact⟨_,_,rfl,aP _,h2,fun h=>by cases h⟩,fun x hx=>by rw[(hz x hx).1];exact aP _⟩
theorem pw{L:List BrtV}(hz:∀x∈L,ZeroB x):∀x∈L,kU x:=fun x hx=>⟨(hz x hx).ents,fun _=>(hz x hx).c⟩
theorem Ks{W w:World}{p:Option Addr}{n c m:Nat}{L:List BrtV}(h:bz aS 4 56 W w (Oc p n c) L)(hn:L.length=n)(hm:m<=n) :
  ∃p':Option Addr,(∀u:World,(Instr.sliceAt 61 (Oc p n c) (Og (N9 Oa m)) Oh Oh).run prog u=.ok (Oc p' (n-m) (c-m)) u)/\ar aS w (Oc p' (n-m) (c-m)) (L.drop m):=by
 subst hn;have hr:=h.row dt mDe;rcases h.own.2 with ⟨hv,hn0⟩|⟨gv,cap,cur,hv,hbg,_,hnc,hcm,_⟩
 .have e1:p=Oh/\L.length=0/\c=0:=by injection hv with a b c;exact⟨a,b,c⟩
  obtain⟨rfl,e2,rfl⟩:=e1;obtain rfl:=List.eq_nil_of_length_eq_zero e2;obtain rfl:m=0:=by simpa using hm
  exact⟨Oh,fun u=>by go_simp,ar.nil _ _⟩
 .have e1:p=Og ⟨gv,0,Oh⟩/\c=cap:=by injection hv with a b c;exact⟨a,c⟩
  obtain⟨rfl,rfl⟩:=e1;have i1:(m:Int)<=(L.length:Int):=mOm;by_cases hc:c=m
  .obtain rfl:L.length=m:=mOm;subst hc;refine⟨Og ⟨gv,0,Oh⟩,fun u=>by go_simp,?_⟩;rw[List.drop_length];exact⟨Og ⟨gv,0,Oh⟩,0,mSi,az 0,(fun e=>by cases e),fun e=>by cases e⟩
  .refine⟨Og ⟨gv,m*4,Oh⟩,fun u=>by go_simp,?_⟩;have:=hr.drop dt hm
   rwa [Nat.zero_add] at this
theorem Ib{ops:Array Oper}{Q:Exit->Act->World->Prop}{S:World->Prop}{i:Nat}{σ:List (Nat×Bool)}{a:Act}{w:World}(oi:Oper)(hi:ops[i]? = Og oi)(hw:Region.wanted oi (yielded ops a.tmps)=true)(t:TypeId)(x y:Operand)(ho:oi.op=.slice t x (Og y) Oh Oh)(p p':Option Addr)(n c m:Nat)(hx:a.eval x=Oc p n c)(hy:a.eval y=N9 Oa m)
  (hr:∀u:World,(Instr.sliceAt t (Oc p n c) (Og (N9 Oa m)) Oh Oh).run prog u=.ok (Oc p' (n-m) (c-m)) u) (h:aQ prog ops Q S σ (a.put oi.dst (Oc p' (n-m) (c-m))) w):aQ prog ops Q S ((i,true)::σ) a w:=
 mR oi _ hi hw (fun w _=>by
  unfold execOp
  simp only[ho,hx,hy,Option.map_some,Option.map_none,Sem.run_bind,Sem.run_pure,hr,Result.andThen_ok]) h
noncomputable def vN(l:List BrtE)(b:BrtE):List BrtE:=if eI l b=0 then kC l b else []
theorem uY(f s r:Int)(p:Option Addr)(c:Nat)(L:List BrtV)(w:World)(h:ar aS w (Oc p L.length c) L)(hz:∀x∈L,ZeroB x)(hl:L.length<=900) :
  Calls prog 26 #[Oc p L.length c,.agg #[N9 Oa f,N9 Oa s,N9 Oa r,Oc Oh 0 0]] w fun e w'=>∃(px:Option Addr) (cx:Nat) (X:List BrtV),e=Oe (.tuple #[Oc px X.length cx,N9 Oa (eI (L.map BrtV.b) ⟨f,s,r,[]⟩)])/\ar aS w' (Oc px X.length cx) X/\(∀x∈X,ZeroB x)/\X.map BrtV.b=vN (L.map BrtV.b) ⟨f,s,r,[]⟩/\X.length<=L.length+1/\ac w.heap.size w w':=by
 refine(IC f s r p c L w h hz hl).mono ?_;rintro _ w'⟨v,rfl,h1,h2,hb⟩;by_cases he:eI (L.map BrtV.b) ⟨f,s,r,[]⟩=0
 .have hO:=h1 he;obtain⟨px,cx,rfl⟩:=hO.form;refine⟨px,cx,_,rfl,hO.row dt mDe,Gz (b:=⟨f,s,r,[]⟩) hz rfl,?_,zu _ _,hb⟩;unfold vN;rw[if_pos he];exact Gy L (zB ⟨f,s,r,[]⟩)
 .obtain rfl:=h2 he;refine⟨Oh,0,[],rfl,ar.nil _ _,(fun _ hx=>by cases hx),?_,aP _,hb⟩;unfold vN;rw[if_neg he];rfl
theorem vJ(f s r:Int)(p:Option Addr)(c:Nat)(L:List BrtV)(w:World)(h:ar aS w (Oc p L.length c) L)(hz:∀x∈L,ZeroB x)(hl:L.length<=900) :
  Calls prog 27 #[Oc p L.length c,.agg #[N9 Oa f,N9 Oa s,N9 Oa r,Oc Oh 0 0]] w fun e w'=>∃(px:Option Addr) (cx:Nat) (X:List BrtV),e=Oe (.tuple #[Oc px X.length cx,N9 Oa (eI (L.map BrtV.b) ⟨f,s,r,[]⟩)])/\ar aS w' (Oc px X.length cx) X/\(∀x∈X,kU x)/\X.map BrtV.b=vN (L.map BrtV.b) ⟨f,s,r,[]⟩/\ac w.heap.size w w':=by
 refine(Da f s r p c L w h hz hl).mono ?_;rintro _ w'⟨v,rfl,h1,h2,hb⟩;by_cases he:eI (L.map BrtV.b) ⟨f,s,r,[]⟩=0
 .obtain⟨RL,hO,hm,hE⟩:=h1 he;obtain⟨px,cx,rfl⟩:=hO.form;refine⟨px,cx,_,rfl,hO.row dt mDe,hE,?_,hb⟩;unfold vN;rw[if_pos he];exact hm
 .obtain rfl:=h2 he;refine⟨Oh,0,[],rfl,ar.nil _ _,(fun _ hx=>by cases hx),?_,hb⟩;unfold vN;rw[if_neg he];rfl
theorem Dd{l:List BrtE}{b:BrtE}:(eI l b=0->nT l b=vN l b)/\(eI l b≠0->nT l b=l):=⟨fun h=>by unfold vN;rw[if_pos h];exact KW h,fun h=>I5 h⟩
end
section
open Go Go.Proofs Go.RowKit Go.Sort Go.Lib
structure ArgB (w:World) (p:Option Addr) (n:Nat) (A:List (Int×Int×Int)):Prop where
 len:A.length=n
 at_:∀i x,A[i]? = Og x->∃g o,p=Og ⟨g,o,Oh⟩/\g<w.heap.size/\w.cell? ⟨g,o+i*4,Oh⟩=Og (N9 Oa x.1)/\w.cell? ⟨g,o+i*4+1,Oh⟩=Og (N9 Oa x.2.1)/\w.cell? ⟨g,o+i*4+2,Oh⟩=Og (N9 Oa x.2.2)
theorem ArgB.below{w w':World}{p:Option Addr}{n:Nat}{A:List (Int×Int×Int)}(h:ArgB w p n A)(hb:ac w.heap.size w w'):ArgB w' p n A:=⟨h.len,fun i x hi=>by
 obtain⟨g,o,h1,h2,h3,h4,h5⟩:=h.at_ i x hi
 exact⟨g,o,h1,Nat.lt_of_lt_of_le h2 hb.size,(hb.cell (p:=⟨g,o+i*4,Oh⟩) h2).trans h3,(hb.cell (p:=⟨g,o+i*4+1,Oh⟩) h2).trans h4,(hb.cell (p:=⟨g,o+i*4+2,Oh⟩) h2).trans h5⟩⟩
def oF(A:List (Int×Int×Int))(k:Nat):List BrtV:=((A.take k).map mk3).map zB
theorem Iv{A:List (Int×Int×Int)}{k:Nat}(h:k<=A.length):(oF A k).length=k:=by unfold oF;rw[aU,aU,aI];omega
theorem Gx{A:List (Int×Int×Int)}{k:Nat}(h:k<A.length):oF A (k+1)=oF A k++[zB (mk3 A[k])]:=by unfold oF;rw[aR,ai h,df,dH,dH];rfl
theorem ID(p:Option Addr)(n c:Nat)(A:List (Int×Int×Int))(f s r:Int)(pe:Option Addr)(ne ce:Nat)(tn:Int)(w:World)(ha:ArgB w p n A)(hf:0<=tn/\tn<256)(hr:Wr.Ready w) :
  Calls prog 6 #[Oc p n c,.agg #[N9 Oa f,N9 Oa s,N9 Oa r,Oc pe ne ce],N9 .u8 tn] w fun e w'=>e=Oe (.bool true)/\ac w.heap.size w w':=by
 have hx:=heap_alloc_new w (Of #[N9 Oa f,N9 Oa s,N9 Oa r,Oc pe ne ce] 56);have hba:=aj w (Of #[N9 Oa f,N9 Oa s,N9 Oa r,Oc pe ne ce] 56);obtain⟨W,hW⟩:∃u,u=w.alloc (Of #[N9 Oa f,N9 Oa s,N9 Oa r,Oc pe ne ce] 56):=⟨_,rfl⟩;rw[<-hW] at hx hba;have ks:=vT W (bC hr hba);have HA:=aa ha;have HX:=aO.mk hx;have HB0:=aa hba;have hxl:=aG hx;clear ha hr hx hba;go_enter func6,ntmps6
 go_upto_region 1 with fail
 rw[<-hW];clear hW;go_wp2_with fail;refine ks.mono ?_;clear ks;rintro _ w1⟨rfl,hb1⟩;have hx1:=hb1.heap_of HX.is;have c3:w1.cell? ⟨w.heap.size,3,Oh⟩=Og (Oc pe ne ce):=Lib.cell_of_heap hx1 3;have f3:w1.frozen? ⟨w.heap.size,3,Oh⟩=false:=Lib.frozen_of_heap hx1 3;have hx2:(w1.setCell ⟨w.heap.size,3,Oh⟩ (Oc Oh 0 0)).heap[w.heap.size]? = Og (Of #[N9 Oa f,N9 Oa s,N9 Oa r,Oc Oh 0 0] 56 (0,0)):=bj hx1 3 (Oc Oh 0 0);have hb2:=(ah HB0.out hb1).setCell (p:=⟨w.heap.size,3,Oh⟩) (az _) (Oc Oh 0 0);have HA2:=aa (HA.out.below hb2)
 go_upto_region 3 with fail
 obtain⟨W2,hW2⟩:∃u,u=w1.setCell ⟨w.heap.size,3,Oh⟩ (Oc Oh 0 0):=⟨_,rfl⟩;rw[<-hW2] at hx2 hb2 HA2 |-;replace HX:=aO.mk hx2;have HB2:=aa hb2;clear hW2 c3 f3 hx1 hx2 hb1 hb2 HB0 HA hxl;clear W;obtain⟨W,rfl⟩:∃u,u=W2:=⟨_,rfl⟩;have hO0:bz aS 4 56 W W (Oc Oh 0 0) (oF A 0):=bz.nil _ _ _ _;have hAl:=HA2.out.len;subst hAl;obtain⟨n,hn⟩:∃n,A.length=n:=⟨_,rfl⟩;have HN:=aa hn;rw[hn] at HA2 |-;clear hn;go_wp2_with fail
 go_loopw [8,9] (fun v i wr=>∃k:Nat,k<=n/\k<=8/\i=N9 Oa k/\bz aS 4 56 W wr v (oF A k)) (fun _ i _=>8-(aw i).toNat)
 case atStart=>exact⟨0,aP _,aP _,rfl,hO0⟩
 case round =>
  obtain⟨k,hk,hk8,rfl,hO⟩:=hrel;obtain⟨pv,cv,hv⟩:=hO.form;have hml:(oF A k).length=k:=Iv (by have:=HN.out;omega);rw[hml] at hv;subst hv;obtain⟨t,ht⟩:∃t,(decide (k<n)&&decide (k<8))=t:=⟨_,rfl⟩;have HT:=aa ht;clear ht
  go_upto_region 5 with fail
  go_cut [34] (fun v wx=>v=.bool t/\wx=wr)
  case first =>
   by_cases h1:k<n
   .have i1:(k:Int)<(n:Int):=mOm;by_cases h2:k<8
    .have i2:(k:Int)<8:=mOm;have ht:true=t:=by rw[<-HT.out,decide_eq_true h1,decide_eq_true h2];rfl
     subst ht;go_wp2_with fail
     go_meet
     case rel=>exact⟨rfl,rfl⟩
    .have i2:¬(k:Int)<8:=mOm;have ht:false=t:=by rw[<-HT.out,decide_eq_true h1,decide_eq_false h2];rfl
     subst ht;go_wp2_with fail
     go_meet
     case rel=>exact⟨rfl,rfl⟩
   .have i1:¬(k:Int)<(n:Int):=mOm;have ht:false=t:=by rw[<-HT.out,decide_eq_false h1];rfl
    subst ht;go_wp2_with fail
    go_meet
    case rel=>exact⟨rfl,rfl⟩
  obtain⟨rfl,hwc⟩:=hcut
  subst hwc
  cases t
  .have hkA:k<=A.length:=by have:=HN.out;omega
   obtain⟨AL,hAL⟩:∃AL,AL=(A.take k).map mk3:=⟨_,rfl⟩;have hM:oF A k=AL.map zB:=by rw[hAL];rfl
   have hALl:AL.length=k:=by rw[hAL,aU,aI];omega
   have HOK:Hid (∀x∈AL,OkB x):=aa (fun x hx=>by rw[hAL] at hx;obtain⟨y,_,rfl⟩:=List.mem_map.1 hx;exact MM y);rw[hM] at hO hml;clear hAL hM HT HA2 HN;obtain⟨t,ht⟩:∃t:Nat,(tn%((k:Int)+1)).toNat=t:=⟨_,rfl⟩;have ht0:=Int.emod_nonneg tn (b:=(k:Int)+1) mOm;have ht1:=Int.emod_lt_of_pos tn (b:=(k:Int)+1) mOm;have htk:t<=k:=mOm;have e1:IntKind.i64.wrap tn=tn:=aH _ mOm;have e2:IntKind.i64.wrap ((k:Int)+1)=(k:Int)+1:=aH _ mOm;have e3:Int.tmod tn ((k:Int)+1)=(t:Int):=by rw[Int.tmod_eq_emod_of_nonneg hf.1];omega
   have e4:¬(k:Int)+1=0:=mOm;have e5:((k:Int)+1==0)=false:=by rw[beq_eq_false_iff_ne];omega
   have e6:IntKind.i64.wrap (t:Int)=(t:Int):=aH _ mOm;have hrow:=hO.row dt mDe;obtain⟨p',hrt,htail⟩:=Ks hO hml htk;have hhead:=hrow.take (m:=t) rfl mOm;obtain⟨hcv,hpv⟩:k<=cv/\(pv=Oh->cv=0):=by obtain⟨p9,c9,e9,h9,h10,_⟩:=id hrow;injection e9 with a1 a2 a3;subst a1 a3;exact⟨mOm,h10⟩
   have hml2:AL.length=k:=hALl
   have HRW:=aa hrow;have HTL:=aa htail;have HHD:=aa hhead;have HWC:=aa hO.low;clear ht ht0 ht1 hrow htail hhead hO hO0
   go_upto_region 9 with fail
   have keepS:∀{u v:World},ac wc.heap.size wc u->ac u.heap.size u v->ac wc.heap.size wc v:=fun h hb=>ah h hb
   have hS0:ac wc.heap.size wc wc.drew:=(Below.refl _ _).drew;have hl0:bz aS 4 56 wc (wc.drew.alloc (Of #[] 56)) (Oc (Og ⟨wc.heap.size,0,Oh⟩) 0 0) ([]:List BrtV):=(mj 56 wc.drew #[] [] 0 rfl mDe rfl rfl).from_ hS0;refine aD (S:=fun w'=>ac wc.heap.size wc w') [(1,true),(2,true),(3,true),(5,true),(6,true),(7,true),(0,false),(4,false),(8,false),(9,true)] hS0 ?_;have hS:=hS0
   iterate 2 refine ak ?_
   refine Ib ⟨_,_,_,_,_,_⟩ rfl mRf 61 (.tmp 68) (.tmp 69) mRf pv p' k cv t mRf mRf hrt ?_;refine ay ?_
   iterate 2 refine ak ?_
   refine oV ⟨_,_,_,_,_,_⟩ rfl mRf 61 56 (.tmp 72) (.tmp 73) mRf underlying61 sizeOf56 pv k cv t mRf mRf htk hcv hpv ?_;refine ay ?_;refine lQ ⟨_,_,_,_,_,_⟩ (Oc (Og ⟨wc.heap.size,0,Oh⟩) 0 0) (wc.drew.alloc (Of #[] 56)) rfl mRf (by go_simp) (keepS hS (aj _ _)) ?_;replace hS:=keepS hS (aj wc.drew (Of #[] 56));refine ay ?_;refine fT brT ⟨_,_,_,_,_,_⟩ rfl mRf (.tmp 67) (.tmp 70) mRf wc.heap.size _ _ [] ((AL.map zB).drop t) mRf mRf hl0.own (HTL.out.below hS) (by simp;omega) hS.size ?_;intro v4 w4 hA4;have hO4:=hl0.app hA4;replace hS:=hO4.low;refine⟨hS,?_⟩;refine ay ?_;refine fT brT ⟨_,_,_,_,_,_⟩ rfl mRf (.tmp 71) (.tmp 74) mRf wc.heap.size _ _ ([]++(AL.map zB).drop t) ((AL.map zB).take t) mRf mRf hO4.own (HHD.out.below hS) (by simp;omega) hS.size ?_;intro v5 w5 hA5;have hO5:=hO4.app hA5;replace hS:=hO5.low;refine⟨hS,?_⟩;refine ay ?_;refine ak ?_;simp only[aQ,aZ];obtain⟨TL,hTL⟩:∃TL,TL=AL.drop t++AL.take t:=⟨_,rfl⟩;have hT:[]++List.drop t (AL.map zB)++List.take t (AL.map zB)=TL.map zB:=by rw[hTL,List.nil_append,dH,List.map_drop,List.map_take]
   rw[hT] at hO5;have hTLl:TL.length=k:=by rw[hTL,List.length_append,List.length_drop,aI];omega
   have HTOK:Hid (∀x∈TL,OkB x):=aa (fun x hx=>by rw[hTL] at hx;rcases bI.1 hx with hx|hx;exact HOK.out x (List.mem_of_mem_drop hx);exact HOK.out x (cu hx));have HFT:Hid (jv AL []=jv TL []):=aa (by rw[hTL];exact Ic AL t HOK.out);obtain⟨p5,c5,hv5⟩:=hO5.form;rw[aU,hTLl] at hv5;subst hv5;have HRA:=aa (HRW.out.below hS);have HRT:=aa (hO5.row dt mDe);have HX5:=aO.mk (hS.heap_of ((HWC.out).heap_of HX.is));have HB5:=aa (ah HB2.out (ah HWC.out hS));have HS0:Hid (ar aS w5 (.slice none ([]:List BrtV).length 0) ([]:List BrtV)/\(∀x∈([]:List BrtV),ZeroB x)/\([]:List BrtV).map BrtV.b=jv (AL.take 0) []/\([]:List BrtV).length<=0):=aa ⟨ar.nil _ _,(fun _ hx=>by cases hx),rfl,az _⟩;have HS1:Hid (ar aS w5 (.slice none ([]:List BrtV).length 0) ([]:List BrtV)/\(∀x∈([]:List BrtV),ZeroB x)/\([]:List BrtV).map BrtV.b=jv (TL.take 0) []/\([]:List BrtV).length<=0):=aa ⟨ar.nil _ _,(fun _ hx=>by cases hx),rfl,az _⟩;clear hS hS0 keepS hO4 hA4 hO5 hA5 hl0 hT hTL HRW HTL HHD HX HB2 HWC hrt e1 e2 e3 e4 e5 e6 hml hcv hpv;go_wp2_with fail
   go_loopw [12,13,14] (fun va vb i wr=>∃(j:Nat) (La Lb:List BrtV) (pa pb:Option Addr) (ca cb:Nat),j<=k/\va=Oc pa La.length ca/\vb=Oc pb Lb.length cb/\i=N9 Oa j/\Hid (ar aS wr (Oc pa La.length ca) La/\(∀x∈La,ZeroB x)/\La.map BrtV.b=jv (AL.take j) []/\La.length<=j)/\Hid (ar aS wr (Oc pb Lb.length cb) Lb/\(∀x∈Lb,ZeroB x)/\Lb.map BrtV.b=jv (TL.take j) []/\Lb.length<=j)/\ac w5.heap.size w5 wr) (fun _ _ i _=>k-(aw i).toNat)
   case atStart=>exact⟨0,[],[],Oh,Oh,0,0,aP _,rfl,rfl,rfl,HS0,HS1,Below.refl _ _⟩
   case round =>
    obtain⟨j,La,Lb,pa,pb,ca,cb,hj,rfl,rfl,rfl,HIA,HIB,hb⟩:=hrel;clear HS0 HS1;by_cases hlt:j<k
    .obtain⟨g,o,rfl,hg,hrow⟩:=dh (kk:=4) HRA.out dt rfl (by rw[aU];omega);obtain⟨g2,o2,rfl,hg2,hrow2⟩:=dh (kk:=4) HRT.out dt rfl (by rw[aU];omega);have hjA:j<AL.length:=mOm;have hjT:j<TL.length:=mOm;have hgA:(AL.map zB)[j]? = Og (zB AL[j]):=by rw[en,ai hjA];rfl
     have hgT:(TL.map zB)[j]? = Og (zB TL[j]):=by rw[en,ai hjT];rfl
     have hat:=hrow j _ hgA;have hat2:=hrow2 j _ hgT;have HFA:=aa (AS AL j hjA []);have HFB:=aa (AS TL j hjT []);have hae:=(HOK.out _ (bA hjA)).ents;have hte:=(HTOK.out _ (bA hjT)).ents;generalize AL[j]=x at hat HFA hae;generalize TL[j]=y at hat2 HFB hte;obtain⟨bf,bs,br,be⟩:=x;obtain⟨tf,ts,tr,te⟩:=y;simp only at hae hte;subst hae hte;have HLA:Hid (∀u,ac w5.heap.size w5 u->u.rangeAt g (o+j*4) (#[N9 Oa bf,N9 Oa bs,N9 Oa br,Oc Oh 0 0]:Array Value).toList):=aa (fun u hu q v hv=>(hu.cell (p:=⟨g,o+j*4+q,Oh⟩) hg).trans (hat q v hv));have HLT:Hid (∀u,ac w5.heap.size w5 u->u.rangeAt g2 (o2+j*4) (#[N9 Oa tf,N9 Oa ts,N9 Oa tr,Oc Oh 0 0]:Array Value).toList):=aa (fun u hu q v hv=>(hu.cell (p:=⟨g2,o2+j*4+q,Oh⟩) hg2).trans (hat2 q v hv));have i1:(j:Int)<(k:Int):=mOm;have i2:(0:Int)<=(j:Int):=mOm;have kn:=uY bf bs br pa ca La wr HIA.out.1 HIA.out.2.1 (by have:=HIA.out.2.2.2;omega);have kr:=fun u (hu:ac wr.heap.size wr u)=>vJ bf bs br pa ca La u (HIA.out.1.below hu) HIA.out.2.1 (by have:=HIA.out.2.2.2;omega)
     have HST:=aa (Dd (l:=La.map BrtV.b) (b:=⟨bf,bs,br,[]⟩));obtain⟨E,hE⟩:∃E,eI (La.map BrtV.b) ⟨bf,bs,br,[]⟩=E:=⟨_,rfl⟩;rw[hE] at kn HST;simp only[hE] at kr;have KR:=aa kr;have hr1:=HLA.out wr hb;have HB:=aa hb;clear hat hat2 hgA hgT hrow hrow2 kr hb hE;go_wp2_with ((with_reducible refine wpList_load_mid (op:=⟨_,_,_,_,_,_⟩) ?_ 56 (.tmp 86) ?_ g (o+j*4) ?_ (#[N9 Oa bf,N9 Oa bs,N9 Oa br,Oc Oh 0 0]:Array Value).toList _ ?_ underlying56 ?_ ?_ ?_);rfl;rfl;rfl;exact hr1;rfl;kernel_rfl);refine kn.mono ?_;clear kn hr1;rintro _ w6⟨px,cx,X,rfl,hX,hXz,hXm,hXl,hb6⟩;have kr:=KR.out w6 hb6;have HX6:=aa (And.intro hX (And.intro hXz (And.intro hXm hXl)));have HB6:=aa hb6;have hr2:=HLA.out w6 (ah HB.out hb6);clear hX hXz hXm hXl hb6 KR;go_wp2_with ((with_reducible refine wpList_load_mid (op:=⟨_,_,_,_,_,_⟩) ?_ 56 (.tmp 95) ?_ g (o+j*4) ?_ (#[N9 Oa bf,N9 Oa bs,N9 Oa br,Oc Oh 0 0]:Array Value).toList _ ?_ underlying56 ?_ ?_ ?_);rfl;rfl;rfl;exact hr2;rfl;kernel_rfl);refine kr.mono ?_;clear kr hr2;rintro _ w7⟨py,cy,Y,rfl,hY,hYe,hYm,hb7⟩;have ks:=oJ X Y px py cx cy w7 (pF (HX6.out.1.below hb7) (pw HX6.out.2.1)) (pF hY hYe) (by have h1:=HX6.out.2.2.2;have h2:=HIA.out.2.2.2;omega);have HYM:=aa (HX6.out.2.2.1.trans hYm.symm);have HB7:=aa (ah HB6.out hb7);have HX7:=aa (HX6.out.1.below hb7);have hEE:(E != E)=false:=mSi;clear hY hYe hYm hb7;go_wp2_with fail;refine ks.mono ?_;clear ks;rintro _ w8⟨t8,rfl,ht8,hb8⟩;obtain rfl:t8=true:=ht8.2 HYM.out;have HB8:=aa (ah HB7.out hb8);have HX8:=aa (HX7.out.below hb8);clear ht8 hb8;obtain⟨z,hz⟩:∃z,(E==0)=z:=⟨_,rfl⟩;have HZ8:=aa hz
     go_upto_if 110 with fail
     go_cut [12] (fun v wx=>∃(La2:List BrtV) (p2:Option Addr) (c2:Nat),v=Oc p2 La2.length c2/\Hid (ar aS wx (Oc p2 La2.length c2) La2/\(∀x∈La2,ZeroB x)/\La2.map BrtV.b=jv (AL.take (j+1)) []/\La2.length<=(j+1))/\Hid (ac wr.heap.size wr wx))
     case first =>
      cases z
      .have hF:Hid (ar aS w8 (Oc pa La.length ca) La/\(∀x∈La,ZeroB x)/\La.map BrtV.b=jv (AL.take (j+1)) []/\La.length<=(j+1)):=aa ⟨HIA.out.1.below HB8.out,HIA.out.2.1,(by rw[HFA.out,<-HIA.out.2.2.1];exact(HST.out.2 (by have:=HZ8.out;simpa using this)).symm),Nat.le_succ_of_le HIA.out.2.2.2⟩;go_wp2_with fail
       go_meet
       case rel=>exact⟨La,pa,ca,rfl,hF,HB8⟩
      .have hF:Hid (ar aS w8 (Oc px X.length cx) X/\(∀x∈X,ZeroB x)/\X.map BrtV.b=jv (AL.take (j+1)) []/\X.length<=(j+1)):=aa ⟨HX8.out,HX6.out.2.1,(by rw[HFA.out,<-HIA.out.2.2.1,HX6.out.2.2.1];exact(HST.out.1 (by have:=HZ8.out;simpa using this)).symm),aV HX6.out.2.2.2 (Nat.succ_le_succ HIA.out.2.2.2)⟩;go_wp2_with fail
       go_meet
       case rel=>exact⟨X,px,cx,rfl,hF,HB8⟩
     case rest =>
      obtain⟨La2,p2,c2,rfl,HIA2,HBW⟩:=hcut;clear hz hEE HZ8 HST HX8 HX7 HX6 HB6 HB7 HB8 HYM HFA HLA HIA;have kn:=uY tf ts tr pb cb Lb wc (HIB.out.1.below HBW.out) HIB.out.2.1 (by have:=HIB.out.2.2.2;omega);have HST:=aa (Dd (l:=Lb.map BrtV.b) (b:=⟨tf,ts,tr,[]⟩));obtain⟨E2,hE⟩:∃E2,eI (Lb.map BrtV.b) ⟨tf,ts,tr,[]⟩=E2:=⟨_,rfl⟩;rw[hE] at kn HST;have hr1:=HLT.out wc (ah HB.out HBW.out);clear hE;go_wp2_with ((with_reducible refine wpList_load_mid (op:=⟨_,_,_,_,_,_⟩) ?_ 56 (.tmp 116) ?_ g2 (o2+j*4) ?_ (#[N9 Oa tf,N9 Oa ts,N9 Oa tr,Oc Oh 0 0]:Array Value).toList _ ?_ underlying56 ?_ ?_ ?_);rfl;rfl;rfl;exact hr1;rfl;kernel_rfl);refine kn.mono ?_;clear kn hr1;rintro _ w9⟨pz,cz,Z,rfl,hZ,hZz,hZm,hZl,hb9⟩;have HZ6:=aa (And.intro hZ (And.intro hZz (And.intro hZm hZl)));have HB9:=aa (ah HB.out (ah HBW.out hb9));have HA9:Hid (ar aS w9 (Oc p2 La2.length c2) La2/\(∀x∈La2,ZeroB x)/\La2.map BrtV.b=jv (AL.take (j+1)) []/\La2.length<=(j+1)):=aa ⟨HIA2.out.1.below hb9,HIA2.out.2⟩;have HB2':=aa (ah HBW.out hb9);clear hZ hZz hZm hZl hb9;obtain⟨z2,hz2⟩:∃z,(E2==0)=z:=⟨_,rfl⟩;have HZ9:=aa hz2
      cases z2
      .have hF:Hid (ar aS w9 (Oc pb Lb.length cb) Lb/\(∀x∈Lb,ZeroB x)/\Lb.map BrtV.b=jv (TL.take (j+1)) []/\Lb.length<=(j+1)):=aa ⟨HIB.out.1.below HB2'.out,HIB.out.2.1,(by rw[HFB.out,<-HIB.out.2.2.1];exact(HST.out.2 (by have:=HZ9.out;simpa using this)).symm),Nat.le_succ_of_le HIB.out.2.2.2⟩;go_wp2_with fail
       go_roundw
       case rel=>exact⟨j+1,La2,Lb,p2,pb,c2,cb,mOm,rfl,rfl,by go_num,HA9,hF,HB9.out⟩
       case measure=>simp[aw];omega
      .have hF:Hid (ar aS w9 (Oc pz Z.length cz) Z/\(∀x∈Z,ZeroB x)/\Z.map BrtV.b=jv (TL.take (j+1)) []/\Z.length<=(j+1)):=aa ⟨HZ6.out.1,HZ6.out.2.1,(by rw[HFB.out,<-HIB.out.2.2.1,HZ6.out.2.2.1];exact(HST.out.1 (by have:=HZ9.out;simpa using this)).symm),aV HZ6.out.2.2.2 (Nat.succ_le_succ HIB.out.2.2.2)⟩;go_wp2_with fail
       go_roundw
       case rel=>exact⟨j+1,La2,Z,p2,pz,c2,cz,mOm,rfl,rfl,by go_num,HA9,hF,HB9.out⟩
       case measure=>simp[aw];omega
    .obtain rfl:j=k:=mOm
     have HEQ:Hid (La.map BrtV.b=Lb.map BrtV.b):=aa (by
      have h1:=HIA.out.2.2.1;have h2:=HIB.out.2.2.1;rw[<-hALl,aT] at h1;rw[<-hTLl,aT] at h2
      rw[h1,h2,HFT.out])
     have hla:=HIA.out.2.2.2
     have hlb:=HIB.out.2.2.2;have kn:=uY f s r pa ca La wr HIA.out.1 HIA.out.2.1 mOm;have kr:=fun u (hu:ac wr.heap.size wr u)=>vJ f s r pa ca La u (HIA.out.1.below hu) HIA.out.2.1 mOm
     obtain⟨E,hE⟩:∃E,eI (La.map BrtV.b) ⟨f,s,r,[]⟩=E:=⟨_,rfl⟩;rw[hE] at kn;simp only[hE] at kr;have KR:=aa kr;have hx9:=hb.heap_of HX5.is;have HXR:=aO.mk hx9;have hr1:=oR hx9;have HB:=aa (ah HB5.out hb);have hxw:=aG hx9;clear kr hE hb hx9 HX5;go_wp2_with ((with_reducible refine wpList_load_mid (op:=⟨_,_,_,_,_,_⟩) ?_ 56 (.tmp 4) ?_ w.heap.size 0 ?_ (#[N9 Oa f,N9 Oa s,N9 Oa r,Oc Oh 0 0]:Array Value).toList _ ?_ underlying56 ?_ ?_ ?_);rfl;rfl;rfl;exact hr1;rfl;kernel_rfl);refine kn.mono ?_;clear kn hr1;rintro _ w6⟨px,cx,X,rfl,hX,hXz,hXm,hXl,hb6⟩;have kr:=KR.out w6 hb6;have HX6:=aa (And.intro hX (And.intro hXz (And.intro hXm hXl)));have HB6:=aa hb6;have hr2:=oR (hb6.heap_of HXR.is);clear hX hXz hXm hXl hb6 KR;go_wp2_with ((with_reducible refine wpList_load_mid (op:=⟨_,_,_,_,_,_⟩) ?_ 56 (.tmp 4) ?_ w.heap.size 0 ?_ (#[N9 Oa f,N9 Oa s,N9 Oa r,Oc Oh 0 0]:Array Value).toList _ ?_ underlying56 ?_ ?_ ?_);rfl;rfl;rfl;exact hr2;rfl;kernel_rfl);refine kr.mono ?_;clear kr hr2;rintro _ w7⟨py,cy,Y,rfl,hY,hYe,hYm,hb7⟩;have HB7:=aa (ah HB6.out hb7);have ka:=oJ La Lb pa pb ca cb w7 (pF (HIA.out.1.below HB7.out) (pw HIA.out.2.1)) (pF (HIB.out.1.below HB7.out) (pw HIB.out.2.1)) mOm;have KS:=aa (fun u (hu:ac w7.heap.size w7 u)=>oJ X Y px py cx cy u (pF ((HX6.out.1.below hb7).below hu) (pw HX6.out.2.1)) (pF (hY.below hu) hYe) (by have h1:=HX6.out.2.2.2;omega));have HYM:=aa (HX6.out.2.2.1.trans hYm.symm);have hEE:(E==E)=true:=mSi;clear hY hYe hYm hb7;go_wp2_with fail;refine ka.mono ?_;clear ka;rintro _ w8⟨t8,rfl,ht8,hb8⟩;obtain rfl:t8=true:=ht8.2 HEQ.out;have ks:=KS.out w8 hb8;have HB8:=aa (ah HB7.out hb8);clear ht8 hb8 KS;go_wp2_with fail;refine ks.mono ?_;clear ks;rintro _ w9⟨t9,rfl,ht9,hb9⟩;obtain rfl:t9=true:=ht9.2 HYM.out;have HB9:=aa (ah HB8.out hb9);clear ht9 hb9;go_wp2_with fail;go_ret;exact⟨rfl,ah HB.out HB9.out⟩
  .have hlt:k<n/\k<8:=by simpa using HT.out
   obtain⟨hlt,hl8⟩:=hlt;have hAk:k<A.length:=by have:=HN.out;omega
   obtain⟨g,o,rfl,hg,q0,q1,q2⟩:=HA2.out.at_ k _ (ai hAk);have HS:=aa (Gx hAk);generalize A[k]=x at q0 q1 q2 HS;have i1:(k:Int)<(n:Int):=mOm;have i2:(0:Int)<=(k:Int):=mOm;have i3:(k:Int)<8:=mOm;have w1:IntKind.i64.wrap (1+x.1%3)=1+x.1%3:=aH _ mOm;have w2:IntKind.i64.wrap (1+x.2.1%3)=1+x.2.1%3:=aH _ mOm;have keepS:∀{u v:World},(ac W.heap.size W u/\u.cell? ⟨g,o+k*4,Oh⟩=Og (N9 Oa x.1)/\u.cell? ⟨g,o+k*4+1,Oh⟩=Og (N9 Oa x.2.1)/\u.cell? ⟨g,o+k*4+2,Oh⟩=Og (N9 Oa x.2.2))->ac u.heap.size u v->(ac W.heap.size W v/\v.cell? ⟨g,o+k*4,Oh⟩=Og (N9 Oa x.1)/\v.cell? ⟨g,o+k*4+1,Oh⟩=Og (N9 Oa x.2.1)/\v.cell? ⟨g,o+k*4+2,Oh⟩=Og (N9 Oa x.2.2)):=fun h hb=>⟨ah h.1 hb,(hb.cell (p:=⟨g,o+k*4,Oh⟩) (al _ _ h.2.1)).trans h.2.1,(hb.cell (p:=⟨g,o+k*4+1,Oh⟩) (al _ _ h.2.2.1)).trans h.2.2.1,(hb.cell (p:=⟨g,o+k*4+2,Oh⟩) (al _ _ h.2.2.2)).trans h.2.2.2⟩
   have hS0:ac W.heap.size W wc.drew/\wc.drew.cell? ⟨g,o+k*4,Oh⟩=Og (N9 Oa x.1)/\wc.drew.cell? ⟨g,o+k*4+1,Oh⟩=Og (N9 Oa x.2.1)/\wc.drew.cell? ⟨g,o+k*4+2,Oh⟩=Og (N9 Oa x.2.2):=keepS (keepS ⟨Below.refl _ _,q0,q1,q2⟩ hO.low) (Below.refl _ wc).drew;have HO:=aa hO;have HQ:=aa (And.intro q0 (And.intro q1 q2));clear q0 q1 q2 hO;go_wp2_with fail;refine aD (S:=fun w'=>ac W.heap.size W w'/\w'.cell? ⟨g,o+k*4,Oh⟩=Og (N9 Oa x.1)/\w'.cell? ⟨g,o+k*4+1,Oh⟩=Og (N9 Oa x.2.1)/\w'.cell? ⟨g,o+k*4+2,Oh⟩=Og (N9 Oa x.2.2)) [(0,true),(1,true),(2,true),(3,true),(4,true),(5,true),(8,true),(9,true),(10,true),(11,true),(12,true),(15,true),(16,true),(17,true),(18,true),(19,true),(6,false),(7,true),(13,false),(14,true),(20,false),(21,true),(22,false),(23,false),(24,true)] hS0 ?_;have hS:=hS0
   iterate 16 refine ak ?_
   refine uP ⟨_,_,_,_,_,_⟩ rfl (by rfl) 12 _ _ (by rfl) _ (by rfl) call12 (lV _ _ _ (by decide) (by decide)) ?_;rintro x wn⟨rfl,rfl⟩;refine⟨_,rfl,hS,?_⟩;refine ay ?_;refine ak ?_;refine uP ⟨_,_,_,_,_,_⟩ rfl (by rfl) 12 _ _ (by rfl) _ (by rfl) call12 (lV _ _ _ (by decide) (by decide)) ?_;rintro x wn⟨rfl,rfl⟩;refine⟨_,rfl,hS,?_⟩;refine ay ?_;refine ak ?_;refine uP ⟨_,_,_,_,_,_⟩ rfl (by rfl) 12 _ _ (by rfl) _ (by rfl) call12 (lV _ _ _ (by decide) (by decide)) ?_;rintro x wn⟨rfl,rfl⟩;refine⟨_,rfl,hS,?_⟩;refine ay ?_;refine ak ?_;refine lQ ⟨_,_,_,_,_,_⟩ (Oc (Og ⟨wc.heap.size,0,Oh⟩) 1 1) (wc.drew.alloc (Of #[N9 Oa (1+x.1%3),N9 Oa (1+x.2.1%3),N9 Oa (x.2.2%4),Oc Oh 0 0] 56)) rfl mRf (by go_simp) (keepS hS (aj _ _)) ?_;replace hS:=keepS hS (aj wc.drew (Of #[N9 Oa (1+x.1%3),N9 Oa (1+x.2.1%3),N9 Oa (x.2.2%4),Oc Oh 0 0] 56));refine ay ?_;refine fT brT ⟨_,_,_,_,_,_⟩ rfl mRf (.tmp 37) (.tmp 59) mRf W.heap.size _ _ (oF A k) [zB (mk3 x)] mRf mRf (HO.out.own.drew.alloc _) (cN (heap_alloc_new wc.drew _) _ rfl rfl) (by rw[hml];simp only[List.length_singleton];omega) hS.1.size ?_;intro v9 w9 hA9;have hO9:=((HO.out.next (Below.refl _ wc).drew).next (aj wc.drew _)).app hA9;replace hS:=And.intro hO9.low (And.intro ((hO9.low.cell (p:=⟨g,o+k*4,Oh⟩) hg).trans HQ.out.1) (And.intro ((hO9.low.cell (p:=⟨g,o+k*4+1,Oh⟩) hg).trans HQ.out.2.1) ((hO9.low.cell (p:=⟨g,o+k*4+2,Oh⟩) hg).trans HQ.out.2.2)));refine⟨hS,?_⟩;refine ay ?_;refine ak ?_;simp only[aQ,aZ];rw[<-HS.out] at hO9;clear hS hS0 keepS hA9;go_wp2_with fail
   go_roundw
   case rel=>exact⟨k+1,mOm,mOm,by go_num,hO9⟩
   case measure=>simp[aw];omega
end
section
open Go Go.Deep Go.ChangeShapes Go.WideShapes Go.ChangeAt Go.WideElems Go.RowKit Go.Lib
section
variable {H:Type} {enc0:TypeId×Value->H} {w:World} {held:Bool} {fuel:Nat}
theorem DO{t:TypeId}{fs:Array Field}{tys:Array TypeId}{cs:List Value}{y:DataW H×List MemPlace}(hu:prog.underlying t=Og (.struct fs))(ht:fs.map (·.type)=tys)(ho:oneCellFields prog fs=true)(hcc:prog.cellsOf t=tys.size)
  (h:DataW.trod enc0 prog w 0 (fun _=>true) held fuel t cs=Og y):cs.length=tys.size/\∃n,∀i (hi:i<tys.size),∃z,DataW.trod enc0 prog w 0 (fun _=>true) held n tys[i] ((cs.drop i).take 1)=Og z:=by
 obtain⟨xs,n,_,rfl,hl,hlen,hf⟩:=DataW.trod_struct hu h;rw[hcc] at hl;have hsz:fs.size=tys.size:=by have:=congrArg Array.size ht;simpa using this
 refine⟨hl,n,fun i hi=>?_⟩;have hfi:fs[i]? = Og fs[i]:=Array.getElem?_eq_getElem mOm;have h1:=hf i _ hfi;obtain⟨h2,h3⟩:=hone_of ho i _ hfi;have h4:fs[i].type=tys[i]:=by
  have:=congrArg (fun a=>a[i]?) ht;simp only[Array.getElem?_map,hfi] at this;rw[Array.getElem?_eq_getElem hi] at this
  simpa using this
 rw[h2,h3,h4,ai mOm] at h1
 exact⟨_,h1⟩
variable {α:Type} {enc:α->List Value} {k:Nat}
theorem Lg(hk:∀x,(enc x).length=k)(b:Nat):∀(L:List α)(o:Nat),(∀i x,L[i]? = Og x->∀r u,(enc x)[r]? = Og u->w.cell? ⟨b,o+i*k+r,Oh⟩=Og u)->Ey enc w b o L
 | [],_,_=>fun j u h=>by simp[aN] at h
 | x::L,o,hr=>fun j u h=>by
  rw[show aN enc (x::L)=enc x++aN enc L from rfl] at h;by_cases hj:j<k
  .rw[bR (by rw[hk];exact hj)] at h;have:=hr 0 x rfl j u h
   rwa [Nat.zero_mul,Nat.add_zero] at this
  .rw[bS (by rw[hk];omega),hk] at h;have:=Lg hk b L (o+k) (fun i x' hi r u' hu=>by have:=hr (i+1) x' hi r u' hu;rwa [Nat.add_mul,Nat.one_mul,<-kL,Nat.add_right_comm o] at this) (j-k) u h
   rwa [show o+k+(j-k)=o+j by omega] at this
theorem Bm{a:Addr}{Good:α->Prop}:∀(n:Nat),(∀i,i<n->∃x:α,w.cells? 0 (a.add (i*k)) k=Og (enc x)/\Good x)->∃L:List α,L.length=n/\(∀x∈L,Good x)/\∀i x,L[i]? = Og x->w.cells? 0 (a.add (i*k)) k=Og (enc x)
 | 0,_=>⟨[],rfl,mSi,fun k r h=>by simp at h⟩
 | n+1,h=>by
  obtain⟨L,hl,hw,hr⟩:=Bm n (fun i hi=>h i mOm);obtain⟨x,hc,hx⟩:=h n mOm;refine⟨L++[x],by simp[hl],fun r hr=>?_,fun i r hi=>?_⟩
  .rcases bI.1 hr with h1|h1
   .exact hw r h1
   .obtain rfl:=List.mem_singleton.1 h1;exact hx
  .by_cases hkn:i<L.length
   .rw[bR hkn] at hi;exact hr i r hi
   .have hk2:=(aA.1 hi).1;obtain rfl:i=n:=by simp at hk2;omega
    rw[bS mOm] at hi;simp[hl] at hi;subst hi;exact hc
theorem GS{t te:TypeId}{Good:α->Prop}(hu:prog.underlying t=Og (.slice te))(hcc:prog.cellsOf te=k)(hk:∀x,(enc x).length=k)(hk0:0<k)
  (hop:∀(fuel:Nat)(cs:List Value)(y:DataW H×List MemPlace),DataW.trod enc0 prog w 0 (fun _=>true) held fuel te cs=Og y->∃x,cs=enc x/\Good x)
  {c:Value} {y:DataW H×List MemPlace} (h:DataW.trod enc0 prog w 0 (fun _=>true) held fuel t [c]=Og y):∃L:List α,ar enc w c L/\(∀x∈L,Good x)/\L.length<=maxLen:=by
 rcases DataW.trod_slice hu h with ⟨hc,hx⟩|⟨a,len,cap,elems,rest,m,_,hc,-,hb,hl,hm,hlen,hel,-,-⟩
 .simp at hc;subst hc;exact⟨[],.nil enc w,mSi,aP _⟩
 .simp at hc;subst hc;rw[hcc] at hel
  obtain⟨L,hln,hw,hr⟩:=Bm (w:=w) (a:=a) (enc:=enc) (Good:=Good) (k:=k) len (fun i hi=>by
   have h1:=hel i hi;rw[ai mOm,Option.bind_eq_some_iff] at h1;obtain⟨cs,h2,h3⟩:=h1;obtain⟨x,rfl,hx⟩:=hop _ _ _ h3
   exact⟨x,h2,hx⟩)
  refine⟨L,⟨Og a,cap,by rw[hln],mOm,(fun e=>by cases e),fun h0=>?_⟩,hw,mOm⟩
  have hx:=ai h0;have h1:=hr 0 _ hx;rw[Nat.zero_mul,tv] at h1;have hle:=hk L[0];obtain⟨u0,hu0⟩:∃u,(enc L[0])[0]? = Og u:=⟨_,ai (l:=enc L[0]) (i:=0) mOm⟩;have hd0:=(World.cells?_some h1).2.2 0 mOm;rw[tv,hu0] at hd0;obtain⟨b,o,rfl⟩:=Bf hd0;refine⟨b,o,rfl,al w _ hd0,Lg hk b L o fun i x hi r u hu=>?_⟩;have h2:=hr i x hi;rw[xV] at h2;have hrk:r<k:=by have:=(aA.1 hu).1;rwa [hk] at this
  have h3:=(World.cells?_some h2).2.2 r hrk;rw[xV,hu] at h3;exact h3
end
section
variable {H:Type} {enc0:TypeId×Value->H} {w:World} {held:Bool} {fuel:Nat}
theorem yc{cs:List Value}{y:DataW H×List MemPlace}(h:DataW.trod enc0 prog w 0 (fun _=>true) held fuel 3 cs=Og y):∃n:Int,cs=[N9 Oa n]/\(Lit.int Oa n).wf=true:=by obtain⟨n,e,-,hw⟩:=DataW.trod_int underlying3 h;exact⟨n,e,hw⟩
theorem Jr:∃fs,prog.underlying 56=Og (.struct fs)/\fs.map (·.type)=#[3,3,3,34]/\oneCellFields prog fs=true:=
 ⟨_,underlying56,mKr,mKr⟩
def Ld(x:(Int×Int×Int)×Value):List Value:=[N9 Oa x.1.1,N9 Oa x.1.2.1,N9 Oa x.1.2.2,x.2]
theorem Ch{cs:List Value}{y:DataW H×List MemPlace}(h:DataW.trod enc0 prog w 0 (fun _=>true) held fuel 56 cs=Og y):∃x,cs=Ld x/\∃p n c,x.2=Oc p n c:=by
 obtain⟨fs,hu,ht,ho⟩:=Jr;obtain⟨hl,n,hf⟩:=DO hu ht ho mKr h
 match cs,hl with
 | [c0,c1,c2,c3],_ =>
  obtain⟨_,g0⟩:=hf 0 mDe;obtain⟨_,g1⟩:=hf 1 mDe;obtain⟨_,g2⟩:=hf 2 mDe;obtain⟨_,g3⟩:=hf 3 mDe;obtain⟨n0,e0,w0⟩:=yc g0;obtain⟨n1,e1,w1⟩:=yc g1;obtain⟨n2,e2,w2⟩:=yc g2;simp at e0 e1 e2;subst e0 e1 e2;refine⟨((n0,n1,n2),c3),rfl,?_⟩;rcases DataW.trod_slice underlying34 g3 with ⟨hc,_⟩|⟨a,len,cap,_,_,_,_,hc,_⟩
  .simp at hc;exact⟨_,_,_,hc⟩
  .simp at hc;exact⟨_,_,_,hc⟩
theorem II{v:Value}{d:DataW H}{p:List MemPlace}(h:DataW.Trod enc0 prog w 0 (fun _=>true) held 61 v d p)(hv:∃a n c,v=Oc a n c):∃a n c A,v=Oc a n c/\ArgB w a n A:=by
 obtain⟨a,n,c,rfl⟩:=hv;obtain⟨fuel,hf⟩:=h;have hf2:DataW.trod enc0 prog w 0 (fun _=>true) held fuel 61 [Oc a n c]=Og (d,p):=hf;obtain⟨L,⟨p',c',e,h1,h2,h3⟩,_,_⟩:=GS (enc:=Ld) (k:=4) (Good:=fun _=>True) underlying61 mKr (fun _=>rfl) mDe (fun _ _ _ h=>(Ch h).imp fun _ h=>⟨h.1,trivial⟩) hf2;injection e with e1 e2 e3;subst e1 e2 e3;refine⟨_,_,_,L.map (·.1),rfl,⟨by rw[aU],fun i x hi=>?_⟩⟩;rw[en] at hi;obtain⟨y,hy,rfl⟩:=Option.map_eq_some_iff.1 hi;have hlt:=(aA.1 hy).1;obtain⟨b,o,rfl,hb,hc⟩:=h3 mOm;refine⟨b,o,rfl,hb,?_,?_,?_⟩
 .have:=hc _ _ (jp (k:=4) (fun _=>rfl) hy (j:=0) (u:=N9 Oa y.1.1) rfl);exact this
 .have:=hc _ _ (jp (k:=4) (fun _=>rfl) hy (j:=1) (u:=N9 Oa y.1.2.1) rfl)
  rwa [<-kL] at this
 .have:=hc _ _ (jp (k:=4) (fun _=>rfl) hy (j:=2) (u:=N9 Oa y.1.2.2) rfl)
  rwa [<-kL] at this
theorem IH{v:Value}{d:DataW H}{p:List MemPlace}{r:Go.Reach}{b0:Nat}(h:DataW.Trod enc0 prog w 0 (fun _=>true) held 56 v d p)(hv:Value.okWide prog w r b0 56 v):∃f s r' pe ne ce,v=.agg #[N9 Oa f,N9 Oa s,N9 Oa r',Oc pe ne ce]:=by unfold Value.okWide at hv;rw[underlying56] at hv;obtain⟨cs,rfl,hsz,_⟩:=hv;obtain⟨fuel,hf⟩:=h;obtain⟨x,hx,pe,ne,ce,he⟩:=Ch (cs:=cs.toList) hf;obtain⟨l⟩:=cs;simp only at hx;subst hx;refine⟨x.1.1,x.1.2.1,x.1.2.2,pe,ne,ce,?_⟩;rw[<-he];rfl
end
end
section
open Go Go.ChangeShapes Go.WideShapes Go.ChangeAt Go.WideElems Go.RowKit Go.Lib
def Ml:Array Value:=#[Oc Oh 0 0,.agg #[N9 Oa 0,N9 Oa 0,N9 Oa 0,Oc Oh 0 0],N9 .u8 0]
theorem uB(os:Os)(started:os.Started)(H:Type)(enc:TypeId×Value->H) :
  ReturnsInHanded {} Tryz.checked os 6 .any (fun w args=>(Rows.offlineNewerSpec.pre enc prog f6 [] false w args/\laidMetH prog laidRow w)/\sizedMet enc prog f6 (OpenSpec.ofChange Rows.offlineNewerSpec) false w args)
   (Rows.offlineNewerSpec.post enc prog f6 false true false false):=by
 refine ld (C:=Tryz.checked) (X:=fun w _=>laidMetH prog laidRow w) (fun _ _ _ hh h=>h.of_heap hh) own started mKr func6
  (ChangeSpec.witness_shaped (enc:=enc) (C:=Tryz.checked) (os:=os) (X:=fun w _=>laidMetH prog laidRow w) false (World.doorLaid prog 4000 os) Ml 8 rfl (World.shaped_of_RefB mKr mKr) mKr mKr mKr (Cu os _)) ?_
 intro W base args ds gs before hval0 hW _ hsz0 hL hsh _
 have hval:∀(j:Nat) t v,f6.params[j]? = Og t->args[j]? = Og v->Value.okWide prog W .any base t v:=hval0;have hW':=hW;obtain⟨p,q,hA0,hV,rfl,hfz,hnd⟩:=hW;have hA:DataW.TrodAll enc prog W 0 (fun _=>true) true f6.params.toList args.toList ds p:=hA0;have hA2:=hA;obtain⟨rfl,rfl⟩:=trodVars_none hV;simp only[dq] at hW' hsz0;rw[params6] at hA2 hval;obtain⟨v0,v1,v2,d0,d1,d2,p0,p1,p2,rfl,rfl,rfl,h0,h1,h2⟩:=trodAll_three hA2;obtain⟨pa,na,ca,AA,rfl,hAA⟩:=II h0 (okWide_slice underlying61 (hval 0 61 v0 rfl rfl));obtain⟨f0,s0,r0,pe,ne,ce,rfl⟩:=IH h1 (hval 1 56 v1 rfl rfl);obtain⟨dy,rfl,rfl,rfl,wdy⟩:=open_int underlying5 (hval 2 5 v2 rfl rfl) h2;refine(ID pa na ca AA f0 s0 r0 pe ne ce dy W hAA (E1 wdy) (C8 hL hsh)).mono fun e W' ⟨he,hbe⟩=>?_
 subst he;exact⟨_,rfl,CU AJ (by rw[params6];decide +kernel) rfl mKr underlying4 rfl hW' hA hbe⟩
theorem uZ:Rows.OfflineNewerSaid:=
 OpenClaim.holds_of_wide 6 f6 rfl rfl rfl rfl rfl rfl rfl ⟨rfl,rfl,rfl,rfl,rfl⟩ rfl rfl rfl rfl rfl mKr func6 uA
  (of_decide_eq_true mKr) (by unfold Func.isWrapper;first|(rw[if_pos (by decide +kernel)];kernel_rfl)|(rw[if_neg (by decide +kernel)];exact⟨rfl,rfl⟩))
  (fun os started H enc _=>uB os started H enc)
end
section
open Go
theorem offlineNewer_card:Rows.OfflineNewerCardSaid:=
 Claim7.holds_tied_plain_at .later [] [.data,.data,.data,.sentinel,.sentinel] true Rows.offlineNewerCard.stood.harness true
  uZ (fun _ h=>by cases h) mKr (fun _ h=>by cases h) offlineNewer_row_tie rfl ⟨rfl,rfl⟩ mKr rfl
  (fun f fn hf hfn=>by
   obtain rfl : f = 6 := Option.some.inj ((show prog.funcNamed "quadrivium/quadriviumlaw23.OfflineNewer" = Og 6 by kernel_rfl).symm.trans hf) |>.symm
   obtain rfl:fn=f6:=(Option.some.inj (func6.symm.trans hfn)).symm
   exact⟨mKr,fun j t ht=>by
    rw[params6] at ht;have hm:t∈[61,56,5]:=by simpa using Array.mem_of_getElem? ht
    have hall:([61,56,5].all fun u=>!Tryz.prog.wantsStandIn u)=true:=mKr
    exact(show prog.wantsStandIn t=false by simpa using List.all_eq_true.1 hall t hm)⟩)
  mKr
