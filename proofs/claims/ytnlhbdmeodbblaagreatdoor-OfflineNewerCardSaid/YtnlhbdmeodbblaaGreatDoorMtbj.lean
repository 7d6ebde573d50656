/- Lemmas. -/
import Derived.Test.YtnlhbdmeodbblaaGreatDoorMtbi
set_option maxRecDepth 100000
set_option maxHeartbeats 16000000
set_option linter.all false
open Go.Proofs.Tryz
open Bool renaming and_eq_true->aX
open Go.Lib renaming hid->aa,itoa->dC
open List renaming append_nil->dq,getElem?_eq_getElem->ai,getElem?_eq_none->eh,length_append->ap,length_cons->bB,length_filter_le->eK,length_map->aU,length_take->aI,take_add_one->aR,take_length->aT
open Nat renaming add_zero->ew,zero_le->aP
open Option renaming toList_some->df
open Go.RowKit renaming Below->ac,intOf->aw
open Go.Ending renaming returned->Oe
open Go.IntKind renaming i64->Oa
open Go.Obj renaming cells->Of
open Go.Value renaming int->N9,string->Ob,slice->Oc
open Option renaming some->Og,none->Oh
namespace Go.Proofs.YtnlhbdmeodbblaaGreatDoor
section
open Go Go.Proofs Go.RowKit Go.Sort Go.Lib
attribute [local go_sem 2000] Ir yZ
theorem lnT:RowT prog fX 3 69 36 where
 len _:=rfl
 one x u hu:=by
  simp only[fX,List.mem_cons,List.not_mem_nil,or_false] at hu;rcases hu with rfl|rfl|rfl <;> rfl
 pos:=mDe
 und:=underlying36
 info:=⟨_,_,rfl,rfl,rfl,mDe,mDe⟩
def xU(l:List Ent)(st fi la:Int)(w:World)(e:Ending)(w':World):Prop:=
 (¬(ep st fi la/\fD l)/\e=Oe (.tuple #[Oc Oh 0 0,Oc Oh 0 0,.bool false])/\ac w.heap.size w w')\/
 ((ep st fi la/\fD l)/\∃v1 v2,e=Oe (.tuple #[v1,v2,.bool true])/\bz fX 3 69 w w' v1 (fV l (bQ l) st fi la)/\bz bV 1 9 w w' v2 (jr l st fi la))
theorem I1{l:List Ent}{all:List ByteArray}{st fi la:Int}{k:Nat}{a:ByteArray}(h:all[k]? = Og a):fV l (all.take (k+1)) st fi la=fV l (all.take k) st fi la++(l.filter fun e=>decide (dD e=a)&&inQ st fi la e).map fL:=by unfold fV;rw[aR,h,df,List.flatMap_append];simp only[List.flatMap_cons,List.flatMap_nil,dq]
theorem JU{l:List Ent}{p:Ent->Bool}{j:Nat}{x:Ent}(h:l[j]? = Og x):((l.take (j+1)).filter p).map fL=((l.take j).filter p).map fL++(if p x=true then [fL x] else []):=by
 rw[aR,h,df,List.filter_append,List.map_append]
 congr 1
 by_cases hp:p x=true
 .rw[if_pos hp,List.filter_cons_of_pos hp];rfl
 .rw[if_neg hp,List.filter_cons_of_neg hp];rfl
theorem LK{st fi la:Int}{e:Ent}:inQ st fi la e=true↔e.student=st/\fi<=e.on/\e.on<=la:=by unfold inQ;rw[aX,aX,decide_eq_true_eq,decide_eq_true_eq,decide_eq_true_eq,and_assoc]
theorem Dh{l:List Ent}{all:List ByteArray}{st fi la:Int}(hn:all.length<=2000)(hl:l.length<=400):(fV l all st fi la).length<=800000:=by
 have:∀A:List ByteArray,(fV l A st fi la).length<=A.length*l.length:=by
  intro A
  induction A with
  | nil=>exact aP _
  | cons a A ih =>
   have e:fV l (a::A) st fi la=(l.filter fun e=>decide (dD e=a)&&inQ st fi la e).map fL++fV l A st fi la:=rfl;rw[e,ap,aU,bB,Nat.add_mul,Nat.one_mul];have:=eK (fun e=>decide (dD e=a)&&inQ st fi la e) l;omega
 have h1:=this all
 have h2:=Nat.mul_le_mul hn hl;omega
theorem EJ(l:List ByteArray)(i j:Nat):(fw l i j).length<=j-i:=by unfold fw gw;rw[aU,aU];exact jR j (j-i) i (Nat.le_refl _)
theorem IL(l:List ByteArray)(i j:Nat):(js l i j).length<=i+(l.length-j):=by unfold js;rw[ap];have h1:=EJ l 0 i;have h2:=EJ l j l.length;omega
theorem nu{p q:Prop}(h:q) (f:Wq q->p:=by
 intro hq;refine aD (S:=fun u=>ac wr.heap.size wr u/\wr.heap.size<u.heap.size/\(∀j,u.cell? ⟨wr.heap.size,j,Oh⟩=(#[N9 Oa e0,N9 Oa e1,N9 Oa e2,N9 Oa e3,N9 Oa e4,N9 Oa e5,Ob e6,N9 Oa e7,N9 Oa e8,N9 Oa e9,N9 Oa e10,N9 Oa e11,N9 Oa e12,N9 Oa e13,Ob e14]:Array Value)[j]?)/\u.cell? ⟨ag,ao+k,Oh⟩=Og (Ob a)) [(0,true),(2,true),(3,true),(4,true),(5,true),(1,false),(6,true),(7,true),(8,true),(9,true),(10,true),(11,true),(12,true),(13,true),(14,true),(15,true),(16,true),(17,true),(18,true),(19,true),(20,true),(21,true),(22,true),(23,true),(24,true)] hS0 ?_;have hS:=hS0;refine iO ⟨_,_,_,_,_,_⟩ rfl mRf 67 (.tmp 26) mRf wr.heap.size 0 mRf (#[N9 Oa e0,N9 Oa e1,N9 Oa e2,N9 Oa e3,N9 Oa e4,N9 Oa e5,Ob e6,N9 Oa e7,N9 Oa e8,N9 Oa e9,N9 Oa e10,N9 Oa e11,N9 Oa e12,N9 Oa e13,Ob e14]:Array Value).toList _ (fun w hSw j v hv=>by rw[Nat.zero_add,hSw.2.2.1 j];simpa using hv) underlying67 rfl mKr ?_;refine ay ?_
 iterate 4 refine ak ?_
 revert hS
 exact hq.1):p:=f ⟨h⟩
theorem oc{p:Prop} (h:p:=by
 refine nu ?_;intro hS;refine aJ 138 call138 (KL.out _) ?_;rintro x wn⟨rfl,hb⟩;replace hS:=keepE hS hb;refine⟨_,rfl,hS,?_⟩;(try clear hb);refine ay ?_
 iterate 19 (first|refine ak ?_|refine dw ?_)
 simp only[aQ,aZ];have HB9:=aa hS.1;clear hS hS0;go_wp2_with fail
 go_roundw
 case rel=>exact⟨j+1,mOm,by go_num,by rw[HNEG.out HNO.out,HY.out];exact HO.out.next HB9.out,(HO.out.next HB9.out).low⟩
 case measure=>simp[aw];omega):p:=h
theorem GP(l:List Ent)(hok:∀e∈l,e.Ok)(p:Option Addr)(c:Nat)(st fi la:Int)(w:World)(h:ar bL w (Oc p l.length c) l)(hl:l.length<=400) :
  Calls prog 75 #[Oc p l.length c,N9 Oa st,N9 Oa fi,N9 Oa la] w (xU l st fi la w):=by
 have HL:=aa h;have HOK:=aa hok;have kk:=fun u (hb:ac w.heap.size w u)=>DZ l hok p c u (h.below hb) mOm
 have kv:=fun u (hb:ac w.heap.size w u)=>xC l hok p c u (h.below hb) mOm
 have kr:=fun u (hb:ac w.heap.size w u)=>xK l hok p c u (h.below hb) mOm
 have hvl:(cH l).length=l.length:=aU ..;have ks:=fun (pv:Option Addr) (cv:Nat) u (hu:ar bV u (Oc pv (cH l).length cv) (cH l))=>sR (cH l) pv cv u hu mOm
 have hal:(bQ l).length=l.length:=by unfold bQ;rw[mW];exact hvl
 have hz:∀s∈bQ l,s.size<=100000000:=fun s hs=>by
  unfold bQ at hs;have:=(iZ _).subset hs;unfold cH at this;obtain⟨e,-,rfl⟩:=List.mem_map.1 this;have:=zo e;omega
 have ka:=fun (pv:Option Addr) (cv:Nat) u (hu:ar bV u (Oc pv (bQ l).length cv) (bQ l))=>BP (bQ l) (loB st fi) (hiB st la) pv cv u hz mOm hu
 have HRK0:Hid (fD l->fq (bQ l)):=aa (fun h=>(nK h).1);have HPF:=aa (show jr l st fi la=[gQ (cH l),gQ (bQ l),⟨(dC ((eE (bQ l) (loB st fi):Nat):Int)).toArray⟩,om (jS (bQ l) (loB st fi) (hiB st la)) (loB st fi),ol (jS (bQ l) (loB st fi) (hiB st la)) (hiB st la)]++js (bQ l) (eE (bQ l) (loB st fi)) (iB (bQ l) (loB st fi) (hiB st la)) from rfl);have HMD:=aa (show jS (bQ l) (loB st fi) (hiB st la)=((bQ l).drop (eE (bQ l) (loB st fi))).take (iB (bQ l) (loB st fi) (hiB st la)-eE (bQ l) (loB st fi)) from rfl);have hI5:eE (bQ l) (loB st fi)<=5000:=by have:=jE (bQ l) (loB st fi);unfold eE;omega
 have hpl:=IL (bQ l) (eE (bQ l) (loB st fi)) (iB (bQ l) (loB st fi) (hiB st la))
 have HMS:Hid ((jS (bQ l) (loB st fi) (hiB st la)).length<=5000):=aa (by rw[HMD.out,aI,List.length_drop];omega);have ks':∀(pv:Option Addr)(cv:Nat) u,ar bV u (Oc pv (cH l).length cv) (cH l)->Calls prog 135 #[Oc pv (cH l).length cv] u (fun e w'=>∃v,e=Oe v/\bz bV 1 9 u w' v (bQ l)):=ks
 have HSP:Hid (∀e w',((¬(ep st fi la/\fD l)/\e=Oe (.tuple #[Oc Oh 0 0,Oc Oh 0 0,.bool false])/\ac w.heap.size w w')\/
  ((ep st fi la/\fD l)/\∃v1 v2,e=Oe (.tuple #[v1,v2,.bool true])/\bz fX 3 69 w w' v1 (fV l (bQ l) st fi la)/\bz bV 1 9 w w' v2 (jr l st fi la)))->xU l st fi la w e w'):=aa (fun e w' h=>h)
 have HAL:=aa hal
 clear h hok hz ks hvl hal;obtain⟨LVS,hLV⟩:∃A,A=cH l:=⟨_,rfl⟩;rw[<-hLV] at kv kr ks' HPF;obtain⟨AB,hAB⟩:∃A,A=bQ l:=⟨_,rfl⟩;rw[<-hAB] at kr ks' HPF HMD hI5 hpl HMS HSP HAL HRK0 ka;clear hLV hAB;go_enter func75,ntmps75;go_wp2_with fail;refine(Dc st fi la w).mono ?_;rintro _ w1⟨hb1,⟨hro,rfl⟩|⟨hro,rfl⟩⟩
 rotate_left 1
 .have HN:Hid (¬(ep st fi la/\fD l)):=aa (fun h=>hro h.1);clear hro;go_wp2_with fail;refine bodyPost_ret (iQ rfl _ _ _) rfl ?_;exact HSP.out _ _ (.inl ⟨HN.out,rfl,hb1⟩)
 have HRO:=aa hro
 clear hro;go_wp2_with fail;refine(kk _ hb1).mono ?_;rintro _ w2⟨t,rfl,ht,hb2⟩;have hbw2:=ah hb1 hb2
 cases t
 .have HN:Hid (¬(ep st fi la/\fD l)):=aa (fun h=>by have:=ht.2 h.2;cases this);clear ht;go_wp2_with fail;refine bodyPost_ret (iQ rfl _ _ _) rfl ?_;exact HSP.out _ _ (.inl ⟨HN.out,rfl,hbw2⟩)
 have HKP:=aa (ht.1 rfl)
 have HRK:Hid (ep st fi la/\fD l):=aa ⟨HRO.out,HKP.out⟩;have HSA:=aa (HRK0.out HKP.out);clear ht kk HRK0;go_wp2_with fail;refine(kv _ hbw2).mono ?_;clear kv;rintro _ w3⟨v3,rfl,hO3⟩;obtain⟨p3,c3,hv3⟩:=hO3.form;subst hv3;have hr3:=hO3.row fH mDe;have hbw3:=ah hbw2 hO3.low;clear hO3;go_wp2_with fail;refine(ks' _ _ _ hr3).mono ?_;clear ks' hr3;rintro _ w4⟨v4,rfl,hO4⟩;obtain⟨p4,c4,hv4⟩:=hO4.form;subst hv4;have hr4:=hO4.row fH mDe;have hbw4:=ah hbw3 hO4.low;have HR4:=aa hr4;clear hO4;go_wp2_with fail;refine(ka _ _ _ hr4).mono ?_;clear ka hr4;rintro _ w5 (⟨hns,-,-⟩|⟨-,v5,v6,rfl,hO5,hO6⟩)
 .exact absurd HSA.out hns
 rw[<-HMD.out] at hO5
 clear HMD HSA;have hbw5:=ah hbw4 hO5.low;have HO5:=aa hO5;have HO6:=aa hO6;obtain⟨p5,c5,hv5⟩:=hO5.form;obtain⟨p6,c6,hv6⟩:=hO6.form;subst hv5;subst hv6;clear hO5 hO6;generalize loB st fi=LO at *;generalize hiB st la=HI at *;generalize jS AB LO HI=M at *;generalize eE AB LO=AI at *;generalize js AB AI (iB AB LO HI)=PV at *;go_wp2_with fail;refine(kr _ hbw5).mono ?_;clear kr;rintro _ w6⟨rfl,hb6⟩;have hbw6:=ah hbw5 hb6;have HR5:=aa ((HO5.out.next hb6).row fH mDe);have HB45:=aa (ah HO5.out.low hb6);have HB45x:=aa hb6;generalize gQ LVS=RA at *;generalize gQ AB=RB at *;obtain⟨BF,hBF⟩:∃x,om M LO=x:=⟨_,rfl⟩;obtain⟨AF,hAF⟩:∃x,ol M HI=x:=⟨_,rfl⟩;rw[hBF,hAF] at HPF;obtain⟨bb,hbb⟩:∃b,b=(match M[0]? with|some x=>decide (cC x LO<0)|none=>false):=⟨_,rfl⟩;obtain⟨ba,hba⟩:∃b,b=(match M[M.length-1]? with|some x=>!decide (cC x HI<0)|none=>false):=⟨_,rfl⟩;have HBF:=aa hBF;have HAF:=aa hAF;have HBB:=aa hbb;have HBA:=aa hba;clear hBF hAF hbb hba hb1 hb2 hb6 hbw2 hbw3 hbw4
 go_upto_region 8 with fail
 go_cut [69] (fun v wx=>v=.bool bb/\wx=w6)
 case first=>as_aux_lemma =>
  by_cases hM:M.length=0
  .have t0:decide ((0:Int)<(M.length:Int))=false:=decide_eq_false mOm;have t0n:decide (0<M.length)=false:=decide_eq_false mOm;have hb0:bb=false:=by rw[HBB.out,eh mOm]
   subst hb0;clear hM;go_wp2_with fail
   go_meet
   case rel=>exact⟨rfl,rfl⟩
  .have i1:(0:Int)<(M.length:Int):=mOm;obtain⟨mg,mo,hpm,hmg,hrm⟩:=gb HR5.out rfl mOm;have hge:=ai (show 0<M.length by omega);have q0:=hrm 0 _ hge;rw[ew] at q0;have hb0:bb=decide (cC M[0] LO<0):=by rw[HBB.out,hge]
   have tb:Op.bytesLess M[0].toList LO.toList=bb:=by rw[kV,hb0]
   subst hpm;clear hrm hge hb0;generalize M[0]=x at *;go_wp2_with fail
   go_meet
   case rel=>exact⟨rfl,rfl⟩
 case rest =>
  obtain⟨rfl,rfl⟩:=hcut
  go_upto_if 69 with fail
  go_cut [21] (fun v wx=>v=Ob BF/\wx=wc)
  case first=>as_aux_lemma =>
   cases bb
   .have e:BF=⟨#[]⟩:=by
     rw[<-HBF.out];unfold om;have:=HBB.out
     split
     .rename_i x hx
      rw[hx] at this
      rw[if_neg (of_decide_eq_false this.symm)]
     .rfl
    subst e
    go_wp2_with fail
    go_meet
    case rel=>exact⟨rfl,rfl⟩
   .have hM:0<M.length:=by
     refine Nat.pos_of_ne_zero fun h0=>?_
     have:=HBB.out;rw[eh mOm] at this
     cases this
    have i1:(0:Int)<(M.length:Int):=mOm
    obtain⟨mg,mo,hpm,hmg,hrm⟩:=gb HR5.out rfl mOm;have hge:=ai hM;have q0:=hrm 0 _ hge;rw[ew] at q0;have e:BF=M[0]:=by rw[<-HBF.out];unfold om;have:=HBB.out;rw[hge] at this |-;simp only;rw[if_pos (of_decide_eq_true this.symm)]
    rw[<-e] at q0
    subst hpm;clear hrm hge e;go_wp2_with fail
    go_meet
    case rel=>exact⟨rfl,rfl⟩
  case rest =>
   obtain⟨rfl,rfl⟩:=hcut
   go_upto_region 10 with fail
   go_cut [85] (fun v wx=>v=.bool ba/\wx=wc)
   case first=>as_aux_lemma =>
    by_cases hM:M.length=0
    .have t0:decide ((0:Int)<(M.length:Int))=false:=decide_eq_false mOm;have t0n:decide (0<M.length)=false:=decide_eq_false mOm;have hb0:ba=false:=by rw[HBA.out,eh mOm]
     subst hb0;clear hM;go_wp2_with fail
     go_meet
     case rel=>exact⟨rfl,rfl⟩
    .have i1:(0:Int)<(M.length:Int):=mOm;obtain⟨mg,mo,hpm,hmg,hrm⟩:=gb HR5.out rfl mOm;obtain⟨m,hm⟩:∃m,M.length-1=m:=⟨_,rfl⟩;have hge:=ai (show m<M.length by omega);have q0:=hrm m _ hge;have hb0:ba = !decide (cC M[m] HI<0):=by rw[HBA.out,hm,hge]
     have a1:IntKind.i64.wrap ((M.length:Int)-1)=(m:Int):=by rw[show(M.length:Int)-1=(m:Int) by omega];exact fY _ _ rfl (by have:=HMS.out;omega)
     have j1:(m:Int)<(M.length:Int):=mOm;have j2:(0:Int)<=(m:Int):=mOm;have tb:leB HI M[m]=ba:=by rw[EQ,hb0]
     subst hpm;clear hrm hge hb0;generalize M[m]=x at *;clear hm;go_wp2_with fail
     go_meet
     case rel=>exact⟨rfl,rfl⟩
   case rest =>
    obtain⟨rfl,rfl⟩:=hcut
    go_upto_if 85 with fail
    go_cut [22] (fun v wx=>v=Ob AF/\wx=wc)
    case first=>as_aux_lemma =>
     cases ba
     .have e:AF=⟨#[]⟩:=by
       rw[<-HAF.out];unfold ol;have:=HBA.out
       split
       .rename_i x hx
        rw[hx] at this
        rw[if_pos (of_decide_eq_true (by simpa using this.symm))]
       .rfl
      subst e
      go_wp2_with fail
      go_meet
      case rel=>exact⟨rfl,rfl⟩
     .have hM:0<M.length:=by
       refine Nat.pos_of_ne_zero fun h0=>?_
       have:=HBA.out;rw[eh mOm] at this
       cases this
      have i1:(0:Int)<(M.length:Int):=mOm
      obtain⟨mg,mo,hpm,hmg,hrm⟩:=gb HR5.out rfl mOm;obtain⟨m,hm⟩:∃m,M.length-1=m:=⟨_,rfl⟩;have hge:=ai (show m<M.length by omega);have q0:=hrm m _ hge;have e:AF=M[m]:=by rw[<-HAF.out];unfold ol;have:=HBA.out;rw[hm,hge] at this |-;simp only at this |-;rw[if_neg (of_decide_eq_false (by simpa using this.symm))]
      have a1:IntKind.i64.wrap ((M.length:Int)-1)=(m:Int):=by rw[show(M.length:Int)-1=(m:Int) by omega];exact fY _ _ rfl (by have:=HMS.out;omega)
      have j1:(m:Int)<(M.length:Int):=mOm;have j2:(0:Int)<=(m:Int):=mOm;rw[<-e] at q0;subst hpm;clear hrm hge;clear e;clear hm;go_wp2_with fail
      go_meet
      case rel=>exact⟨rfl,rfl⟩
    case rest =>
     obtain⟨rfl,rfl⟩:=hcut;have HR4:=aa (HR4.out.below HB45.out);have hb6x:=HB45x.out;clear HR5 HBF HAF HBB HBA HMS HB45 HB45x;go_wp2_with fail
     go_loopw [23,24] (fun v i wr=>∃k:Nat,k<=AB.length/\i=N9 Oa k/\bz fX 3 69 wc wr v (fV l (AB.take k) st fi la)) (fun _ i _=>AB.length-(aw i).toNat)
     case atStart=>exact⟨0,aP _,rfl,bz.nil _ _ _ _⟩
     case round=>as_aux_lemma =>
      obtain⟨k,hk,rfl,hO⟩:=hrel;have hk4:k<=400:=by have:=HAL.out;omega
      by_cases hlt:k<AB.length
      .have i1:(k:Int)<(AB.length:Int):=mOm;have i0:(0:Int)<=(k:Int):=mOm;obtain⟨ag,ao,hpa,hag,hra⟩:=gb HR4.out rfl mOm;have hge:=ai hlt;have qa:=hra k _ hge;have HST:=aa (I1 (l:=l) (st:=st) (fi:=fi) (la:=la) hge);have HLN:Hid ((fV l (AB.take k) st fi la).length<=800000):=aa (Dh (by rw[aI];have:=HAL.out;omega) hl);generalize AB[k]=a at *;generalize fV l (AB.take k) st fi la=X at *;subst hpa;clear hra hge;obtain⟨W7,hW7⟩:∃u,u=wr:=⟨_,rfl⟩;rw[<-hW7] at hO |-;clear hW7;obtain⟨pX,cX,hvX⟩:=hO.form;subst hvX;have hlow7:=hO.low;have HLOW:=aa hlow7;have HOX:=aa hO;clear hO hlow7;go_wp2_with fail
       go_loopw [23,25] (fun v i wr=>∃j:Nat,j<=l.length/\i=N9 Oa j/\bz fX 3 69 wc wr v (X++((l.take j).filter fun e=>decide (dD e=a)&&inQ st fi la e).map fL)/\ac wc.heap.size wc wr) (fun _ i _=>l.length-(aw i).toNat)
       case atStart=>exact⟨0,aP _,rfl,by show bz fX 3 69 wc W7 _ (X++[]);rw[dq];exact HOX.out,HLOW.out⟩
       case round=>as_aux_lemma =>
        obtain⟨j,hj,rfl,hO,hbr⟩:=hrel;obtain⟨pv,cv,hv⟩:=hO.form;subst hv
        have HFL:Hid ((X++((l.take j).filter fun e=>decide (dD e=a)&&inQ st fi la e).map fL).length<=900000):=aa (by
         rw[ap,aU];have h1:=eK (fun e=>decide (dD e=a)&&inQ st fi la e) (l.take j);rw[aI] at h1;have:=HLN.out
         omega)
        by_cases hlt2:j<l.length
        .obtain⟨eg,eo,hpe,heg,hrow⟩:=dh (kk:=15) HL.out eG rfl mOm;have hge:=ai hlt2;have hrx:=hrow j _ hge;have hx:=HOK.out _ (List.getElem_mem hlt2);have HFS:=aa (JU (p:=fun e=>decide (dD e=a)&&inQ st fi la e) hge);have j1:(j:Int)<(l.length:Int):=mOm;have j2:(0:Int)<=(j:Int):=mOm;generalize l[j]=x0 at *;generalize ((l.take j).filter fun e=>decide (dD e=a)&&inQ st fi la e).map fL=F at *;obtain⟨Y,hY⟩:∃Y,X++F=Y:=⟨_,rfl⟩;rw[hY] at hO HFL |-;have HY:=aa hY;clear hY
         have HNEG:Hid (¬(dD x0=a/\inQ st fi la x0=true)->((l.take (j+1)).filter fun e=>decide (dD e=a)&&inQ st fi la e).map fL=F):=aa (fun hn=>by
          rw[HFS.out,if_neg (by rw[aX,decide_eq_true_eq];exact hn),dq])
         have HPOS:Hid (dD x0=a/\inQ st fi la x0=true->((l.take (j+1)).filter fun e=>decide (dD e=a)&&inQ st fi la e).map fL=F++[⟨⟨(fW x0).toArray⟩,jG ⟨x0.code.toArray⟩,⟨x0.code.toArray⟩⟩]):=aa (fun hn=>by
          rw[HFS.out,if_pos (by rw[aX,decide_eq_true_eq];exact hn)];rfl)
         have kl:=fun u=>Bc x0 hx u
         have ky:=fun u=>ua x0 hx u
         have ke:=fun u=>uq x0 hx u
         have hcl:=Ck x0 hx;have kh:=fun u=>xH ⟨x0.code.toArray⟩ (by rw[bF];show x0.code.length<=_;omega) u
         have HIQ:=aa (LK (st:=st) (fi:=fi) (la:=la) (e:=x0));have hbw:=ah (ah hbw6 (Below.refl _ _)) hbr;have hrx':=fun i v hv=>(hbw.cell (p:=⟨eg,eo+j*15+i,Oh⟩) heg).trans (hrx i v hv)
         generalize (⟨(fW x0).toArray⟩:ByteArray)=KB at *;generalize jG ⟨x0.code.toArray⟩=HB at *;generalize (⟨x0.code.toArray⟩:ByteArray)=CD at *;generalize dD x0=LB at *;generalize inQ st fi la x0=IQ at *;clear HFS hcl hx hrx hrow hge;obtain⟨e0,e1,e2,e3,e4,e5,e6,e7,e8,e9,e10,e11,e12,e13,e14⟩:=x0;have x0:wr.cell? ⟨eg,eo+j*15,Oh⟩=Og (N9 Oa e0):=hrx' 0 _ rfl;have x1:wr.cell? ⟨eg,eo+j*15+1,Oh⟩=Og (N9 Oa e1):=hrx' 1 _ rfl;have x2:wr.cell? ⟨eg,eo+j*15+2,Oh⟩=Og (N9 Oa e2):=hrx' 2 _ rfl;have x3:wr.cell? ⟨eg,eo+j*15+3,Oh⟩=Og (N9 Oa e3):=hrx' 3 _ rfl;have x4:wr.cell? ⟨eg,eo+j*15+4,Oh⟩=Og (N9 Oa e4):=hrx' 4 _ rfl;have x5:wr.cell? ⟨eg,eo+j*15+5,Oh⟩=Og (N9 Oa e5):=hrx' 5 _ rfl;have x6:wr.cell? ⟨eg,eo+j*15+6,Oh⟩=Og (Ob e6):=hrx' 6 _ rfl;have x7:wr.cell? ⟨eg,eo+j*15+7,Oh⟩=Og (N9 Oa e7):=hrx' 7 _ rfl;have x8:wr.cell? ⟨eg,eo+j*15+8,Oh⟩=Og (N9 Oa e8):=hrx' 8 _ rfl;have x9:wr.cell? ⟨eg,eo+j*15+9,Oh⟩=Og (N9 Oa e9):=hrx' 9 _ rfl;have x10:wr.cell? ⟨eg,eo+j*15+10,Oh⟩=Og (N9 Oa e10):=hrx' 10 _ rfl;have x11:wr.cell? ⟨eg,eo+j*15+11,Oh⟩=Og (N9 Oa e11):=hrx' 11 _ rfl;have x12:wr.cell? ⟨eg,eo+j*15+12,Oh⟩=Og (N9 Oa e12):=hrx' 12 _ rfl;have x13:wr.cell? ⟨eg,eo+j*15+13,Oh⟩=Og (N9 Oa e13):=hrx' 13 _ rfl;have x14:wr.cell? ⟨eg,eo+j*15+14,Oh⟩=Og (Ob e14):=hrx' 14 _ rfl;have hbe:=aj wr (Of #[N9 Oa e0,N9 Oa e1,N9 Oa e2,N9 Oa e3,N9 Oa e4,N9 Oa e5,Ob e6,N9 Oa e7,N9 Oa e8,N9 Oa e9,N9 Oa e10,N9 Oa e11,N9 Oa e12,N9 Oa e13,Ob e14] 67);have hw1:=heap_alloc_new wr (Of #[N9 Oa e0,N9 Oa e1,N9 Oa e2,N9 Oa e3,N9 Oa e4,N9 Oa e5,Ob e6,N9 Oa e7,N9 Oa e8,N9 Oa e9,N9 Oa e10,N9 Oa e11,N9 Oa e12,N9 Oa e13,Ob e14] 67);obtain⟨w9,hE9⟩:∃u,u=wr.alloc (Of #[N9 Oa e0,N9 Oa e1,N9 Oa e2,N9 Oa e3,N9 Oa e4,N9 Oa e5,Ob e6,N9 Oa e7,N9 Oa e8,N9 Oa e9,N9 Oa e10,N9 Oa e11,N9 Oa e12,N9 Oa e13,Ob e14] 67):=⟨_,rfl⟩;rw[<-hE9] at hbe hw1;have qa9:w9.cell? ⟨ag,ao+k,Oh⟩=Og (Ob a):=(hbe.cell (p:=⟨ag,ao+k,Oh⟩) (by show ag<_;have:=hbr.size;omega)).trans ((hbr.cell (p:=⟨ag,ao+k,Oh⟩) hag).trans qa);have hS0:ac wr.heap.size wr w9.drew/\wr.heap.size<w9.drew.heap.size/\(∀j,w9.drew.cell? ⟨wr.heap.size,j,Oh⟩=(#[N9 Oa e0,N9 Oa e1,N9 Oa e2,N9 Oa e3,N9 Oa e4,N9 Oa e5,Ob e6,N9 Oa e7,N9 Oa e8,N9 Oa e9,N9 Oa e10,N9 Oa e11,N9 Oa e12,N9 Oa e13,Ob e14]:Array Value)[j]?)/\w9.drew.cell? ⟨ag,ao+k,Oh⟩=Og (Ob a):=⟨hbe.drew,av hw1,fun j=>Lib.cell_of_heap hw1 j,qa9⟩;have keepE:∀{u v:World},(ac wr.heap.size wr u/\wr.heap.size<u.heap.size/\(∀j,u.cell? ⟨wr.heap.size,j,Oh⟩=(#[N9 Oa e0,N9 Oa e1,N9 Oa e2,N9 Oa e3,N9 Oa e4,N9 Oa e5,Ob e6,N9 Oa e7,N9 Oa e8,N9 Oa e9,N9 Oa e10,N9 Oa e11,N9 Oa e12,N9 Oa e13,Ob e14]:Array Value)[j]?)/\u.cell? ⟨ag,ao+k,Oh⟩=Og (Ob a))->ac u.heap.size u v->(ac wr.heap.size wr v/\wr.heap.size<v.heap.size/\(∀j,v.cell? ⟨wr.heap.size,j,Oh⟩=(#[N9 Oa e0,N9 Oa e1,N9 Oa e2,N9 Oa e3,N9 Oa e4,N9 Oa e5,Ob e6,N9 Oa e7,N9 Oa e8,N9 Oa e9,N9 Oa e10,N9 Oa e11,N9 Oa e12,N9 Oa e13,Ob e14]:Array Value)[j]?)/\v.cell? ⟨ag,ao+k,Oh⟩=Og (Ob a)):=fun h hb=>⟨ah h.1 hb,Nat.lt_of_lt_of_le h.2.1 hb.size,fun j=>(hb.cell (p:=⟨wr.heap.size,j,Oh⟩) h.2.1).trans (h.2.2.1 j),(hb.cell (World.block_lt_of_cell? _ _ h.2.2.2)).trans h.2.2.2⟩
         have HO:=aa hO;have KL:=aa kl;have KY:=aa ky;have KE:=aa ke;have KH:=aa kh;subst hpe;clear hO kl ky ke kh hbe hw1 qa9 hrx' hbw
         go_upto_region 20 with fail
         rw[<-hE9];clear hE9 x0 x1 x2 x3 x4 x5 x6 x7 x8 x9 x10 x11 x12 x13 x14;by_cases hL:LB=a
         rotate_left 1
         .have tL:=lq hL;have HNO:Hid (¬(LB=a/\IQ=true)):=aa (fun h=>hL h.1);clear hL;exact oc
         have tL:(LB.toList==a.toList)=true:=by rw[beq_iff_eq,hL]
         by_cases h2:e2=st
         rotate_left 1
         .have t2:(e2==st)=false:=by rw[beq_eq_false_iff_ne];exact h2
          have HNO:Hid (¬(LB=a/\IQ=true)):=aa (fun h=>h2 (HIQ.out.1 h.2).1);clear hL h2;exact oc
         have t2:(e2==st)=true:=by rw[beq_iff_eq];exact h2
         by_cases h5:fi<=e5
         rotate_left 1
         .have t5:decide (fi<=e5)=false:=decide_eq_false h5;have HNO:Hid (¬(LB=a/\IQ=true)):=aa (fun h=>h5 (HIQ.out.1 h.2).2.1);clear hL h2 h5;exact oc
         have t5:decide (fi<=e5)=true:=decide_eq_true h5
         by_cases h6:e5<=la
         rotate_left 1
         .have t6:decide (e5<=la)=false:=decide_eq_false h6;have HNO:Hid (¬(LB=a/\IQ=true)):=aa (fun h=>h6 (HIQ.out.1 h.2).2.2);clear hL h2 h5 h6;refine nu ?_;intro hS;refine aJ 138 call138 (KL.out _) ?_;rintro x wn⟨rfl,hb⟩;replace hS:=keepE hS hb;refine⟨_,rfl,hS,?_⟩;(try clear hb);refine ay ?_
          iterate 19 refine ak ?_
          simp only[aQ,aZ];have HB9:=aa hS.1;clear hS hS0;go_wp2_with fail
          go_roundw
          case rel=>exact⟨j+1,mOm,by go_num,by rw[HNEG.out HNO.out,HY.out];exact HO.out.next HB9.out,(HO.out.next HB9.out).low⟩
          case measure=>simp[aw];omega
         have t6:decide (e5<=la)=true:=decide_eq_true h6
         have HYS:Hid (LB=a/\IQ=true):=aa ⟨hL,HIQ.out.2 ⟨h2,h5,h6⟩⟩;clear hL h2 h5 h6;refine nu ?_;intro hS;refine aJ 138 call138 (KL.out _) ?_;rintro x wn⟨rfl,hb⟩;replace hS:=keepE hS hb;refine⟨_,rfl,hS,?_⟩;(try clear hb);refine ay ?_
         iterate 19 refine ak ?_
         simp only[aQ,aZ]
         rename_i wn
         have HB9:=aa hS.1
         have HCL:=aa hS.2.2.1;have hln:=hS.2.1;clear hS hS0 keepE;have z0:wn.cell? ⟨wr.heap.size,0,Oh⟩=Og (N9 Oa e0):=HCL.out 0;have z1:wn.cell? ⟨wr.heap.size,1,Oh⟩=Og (N9 Oa e1):=HCL.out 1;have z2:wn.cell? ⟨wr.heap.size,2,Oh⟩=Og (N9 Oa e2):=HCL.out 2;have z3:wn.cell? ⟨wr.heap.size,3,Oh⟩=Og (N9 Oa e3):=HCL.out 3;have z4:wn.cell? ⟨wr.heap.size,4,Oh⟩=Og (N9 Oa e4):=HCL.out 4;have z5:wn.cell? ⟨wr.heap.size,5,Oh⟩=Og (N9 Oa e5):=HCL.out 5;have z6:wn.cell? ⟨wr.heap.size,6,Oh⟩=Og (Ob e6):=HCL.out 6;have z7:wn.cell? ⟨wr.heap.size,7,Oh⟩=Og (N9 Oa e7):=HCL.out 7;have z8:wn.cell? ⟨wr.heap.size,8,Oh⟩=Og (N9 Oa e8):=HCL.out 8;have z9:wn.cell? ⟨wr.heap.size,9,Oh⟩=Og (N9 Oa e9):=HCL.out 9;have z10:wn.cell? ⟨wr.heap.size,10,Oh⟩=Og (N9 Oa e10):=HCL.out 10;have z11:wn.cell? ⟨wr.heap.size,11,Oh⟩=Og (N9 Oa e11):=HCL.out 11;have z12:wn.cell? ⟨wr.heap.size,12,Oh⟩=Og (N9 Oa e12):=HCL.out 12;have z13:wn.cell? ⟨wr.heap.size,13,Oh⟩=Og (N9 Oa e13):=HCL.out 13;have z14:wn.cell? ⟨wr.heap.size,14,Oh⟩=Og (Ob e14):=HCL.out 14;go_wp2_with fail;refine(KE.out _).mono ?_;clear z0 z1 z2 z3 z4 z5 z6 z7 z8 z9 z10 z11 z12 z13 z14;rintro _ w11⟨rfl,hb11⟩;have hb12:=ah HB9.out hb11;have z0:w11.cell? ⟨wr.heap.size,0,Oh⟩=Og (N9 Oa e0):=(hb11.cell (p:=⟨wr.heap.size,0,Oh⟩) hln).trans (HCL.out 0);have z1:w11.cell? ⟨wr.heap.size,1,Oh⟩=Og (N9 Oa e1):=(hb11.cell (p:=⟨wr.heap.size,1,Oh⟩) hln).trans (HCL.out 1);have z2:w11.cell? ⟨wr.heap.size,2,Oh⟩=Og (N9 Oa e2):=(hb11.cell (p:=⟨wr.heap.size,2,Oh⟩) hln).trans (HCL.out 2);have z3:w11.cell? ⟨wr.heap.size,3,Oh⟩=Og (N9 Oa e3):=(hb11.cell (p:=⟨wr.heap.size,3,Oh⟩) hln).trans (HCL.out 3);have z4:w11.cell? ⟨wr.heap.size,4,Oh⟩=Og (N9 Oa e4):=(hb11.cell (p:=⟨wr.heap.size,4,Oh⟩) hln).trans (HCL.out 4);have z5:w11.cell? ⟨wr.heap.size,5,Oh⟩=Og (N9 Oa e5):=(hb11.cell (p:=⟨wr.heap.size,5,Oh⟩) hln).trans (HCL.out 5);have z6:w11.cell? ⟨wr.heap.size,6,Oh⟩=Og (Ob e6):=(hb11.cell (p:=⟨wr.heap.size,6,Oh⟩) hln).trans (HCL.out 6);have z7:w11.cell? ⟨wr.heap.size,7,Oh⟩=Og (N9 Oa e7):=(hb11.cell (p:=⟨wr.heap.size,7,Oh⟩) hln).trans (HCL.out 7);have z8:w11.cell? ⟨wr.heap.size,8,Oh⟩=Og (N9 Oa e8):=(hb11.cell (p:=⟨wr.heap.size,8,Oh⟩) hln).trans (HCL.out 8);have z9:w11.cell? ⟨wr.heap.size,9,Oh⟩=Og (N9 Oa e9):=(hb11.cell (p:=⟨wr.heap.size,9,Oh⟩) hln).trans (HCL.out 9);have z10:w11.cell? ⟨wr.heap.size,10,Oh⟩=Og (N9 Oa e10):=(hb11.cell (p:=⟨wr.heap.size,10,Oh⟩) hln).trans (HCL.out 10);have z11:w11.cell? ⟨wr.heap.size,11,Oh⟩=Og (N9 Oa e11):=(hb11.cell (p:=⟨wr.heap.size,11,Oh⟩) hln).trans (HCL.out 11);have z12:w11.cell? ⟨wr.heap.size,12,Oh⟩=Og (N9 Oa e12):=(hb11.cell (p:=⟨wr.heap.size,12,Oh⟩) hln).trans (HCL.out 12);have z13:w11.cell? ⟨wr.heap.size,13,Oh⟩=Og (N9 Oa e13):=(hb11.cell (p:=⟨wr.heap.size,13,Oh⟩) hln).trans (HCL.out 13);have z14:w11.cell? ⟨wr.heap.size,14,Oh⟩=Og (Ob e14):=(hb11.cell (p:=⟨wr.heap.size,14,Oh⟩) hln).trans (HCL.out 14);go_wp2_with fail;refine(KY.out _).mono ?_;clear z0 z1 z2 z3 z4 z5 z6 z7 z8 z9 z10 z11 z12 z13 z14;rintro _ w13⟨rfl,hb13⟩;go_wp2_with fail;refine(KH.out _).mono ?_;rintro _ w14⟨rfl,hb14⟩;have hP:=(HO.out.next (ah (ah hb12 hb13) hb14)).next (aj w14 (Of #[Ob KB,Ob HB,Ob CD] 69));have hlit:ar fX (w14.alloc (Of #[Ob KB,Ob HB,Ob CD] 69)) (Oc (Og ⟨w14.heap.size,0,Oh⟩) 1 1) [(⟨KB,HB,CD⟩:bT)]:=cN (heap_alloc_new w14 _) _ rfl rfl;have hown:=hP.own;have hsz:=hP.low.size;have HP:=aa hP;clear hP hb11 hb12 hb13 hb14 hln;go_wp2_with (at_builtin;refine bl lnT rfl (.tmp 135) (.tmp 142) rfl wc.heap.size _ _ Y [(⟨KB,HB,CD⟩:bT)] rfl rfl hown hlit (by have:=HFL.out;simp only[List.length_singleton];omega) hsz ?_;intro v9 w10 hA9;have H9:=aa (HP.out.app hA9);clear hA9 hown hsz hlit)
         go_roundw
         case rel=>exact⟨j+1,mOm,by go_num,by rw[HPOS.out HYS.out,<-List.append_assoc,HY.out];exact H9.out,H9.out.low⟩
         case measure=>simp[aw];omega
        .obtain rfl:j=l.length:=mOm;have k1:¬(l.length:Int)<(l.length:Int):=mOm;rw[aT] at hO |-;have HO:=aa hO;clear hO;go_wp2_with fail
         go_roundw
         case rel=>exact⟨k+1,mOm,by have:=HAL.out;go_num,by rw[HST.out];exact HO.out⟩
         case measure=>have:=HAL.out;simp[aw];omega
      .obtain rfl:k=AB.length:=mOm;have k1:¬(AB.length:Int)<(AB.length:Int):=mOm;rw[aT] at hO;have HLN:Hid ((fV l AB st fi la).length<=800000):=aa (Dh (by have:=HAL.out;omega) hl);obtain⟨pX,cX,hvX⟩:=hO.form;have HO:=aa hO;have HVX:=aa hvX;have kd:=fun u=>Eu (AI+1) (AI:Int) u mOm mOm mOm
       clear hO;subst hvX;go_wp2_with fail;refine(kd _).mono ?_;clear kd;rintro _ w9⟨rfl,hb9⟩;have hP:=HO.out.next (ah hb9 (aj w9 (Of #[Ob RA,Ob RB,Ob ⟨(dC (AI:Int)).toArray⟩,Ob BF,Ob AF] 9)));have hl5:=mj (enc:=bV) (k:=1) 9 w9 #[Ob RA,Ob RB,Ob ⟨(dC (AI:Int)).toArray⟩,Ob BF,Ob AF] [RA,RB,⟨(dC (AI:Int)).toArray⟩,BF,AF] 5 rfl mDe rfl rfl;have hq6:=((HO6.out.next (ah hb6x (ah HO.out.low hb9))).next (aj w9 (Of #[Ob RA,Ob RB,Ob ⟨(dC (AI:Int)).toArray⟩,Ob BF,Ob AF] 9))).row fH mDe;have HP:=aa hP;have HL5:=aa hl5;have hown:=hl5.own;have hsz:=hl5.low.size;have hbF:=ah (ah hbw6 HO.out.low) hb9;have HBF9:=aa hbF;have hlt9:∀q,(Value.slice pX (fV l AB st fi la).length cX).ownBlock=Og q->q<w9.heap.size:=fun q hq=>(HO.out.next hb9).own.lt q hq |>.2
       have HLT9:=aa hlt9;clear hP hl5 hb9 hbF hlt9;go_wp2_with (at_builtin;refine bl lY rfl (.tmp 151) (.tmp 152) rfl w9.heap.size _ _ [RA,RB,⟨(dC (AI:Int)).toArray⟩,BF,AF] PV rfl rfl hown hq6 (by simp only[bB,List.length_nil];have:=HAL.out;omega) hsz ?_;intro v9 w10 hA9;have HA9:=aa hA9;clear hA9 hown hsz hq6);refine bodyPost_ret (iQ rfl _ _ _) rfl ?_;refine HSP.out _ _ (.inr ⟨HRK.out,_,_,rfl,?_,?_⟩)
       .have hb:aF (fun q=>(Og ⟨w9.heap.size,0,Oh⟩:Option Addr).map (fun a=>a.block)=Og q) _ _:=aF.grown HA9.out.grown;exact⟨HP.out.form,jT (bK HP.out.own hb (fun q hq e=>by have:=HLT9.out q hq;have e:w9.heap.size=q:=Option.some.inj e;omega)) (by have:=hbw6.size;omega),(ah hbw6 HP.out.low).grown HA9.out.grown (by have:=(ah hbw6 HP.out.low).size;omega) (fun q e=>by have e:w9.heap.size=q:=Option.some.inj e;have:=HBF9.out.size;omega)⟩
       .rw[HPF.out];exact(HL5.out.app HA9.out).from_ HBF9.out
