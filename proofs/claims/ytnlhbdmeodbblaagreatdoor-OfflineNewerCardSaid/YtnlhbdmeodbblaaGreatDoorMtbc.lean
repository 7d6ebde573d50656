/- Lemmas. -/
import Derived.Test.YtnlhbdmeodbblaaGreatDoorMtba
import Derived.Test.YtnlhbdmeodbblaaGreatDoorMtbb
import Derived.Lib.OthersKept
import Derived.Scope
import Derived.Stop.BytesEq
set_option maxRecDepth 100000
set_option maxHeartbeats 16000000
set_option linter.all false
open Go.Proofs.Tryz
open Bool renaming and_eq_true->aX,true_and->mY
open Int renaming toNat_natCast->cI
open Go.IntWalk renaming i64_in->aH
open Go.Lib renaming atoiAll->mI,cell_of_heap->ae,hid->aa,idxFuncFrom->jm,itoa->dC
open List renaming all_eq_true->gh,drop_eq_nil_of_le->fm,drop_zero->mv,getD_eq_getElem?_getD->bi,getElem?_eq_getElem->ai,getElem?_eq_some_iff->aA,getElem_mem->bA,getElem_of_mem->ik,length_append->ap,length_cons->bB,length_map->aU,length_take->aI,map_cons->fP,map_map->mL,map_nil->oN,mem_cons->bM,mem_cons_of_mem->dj,mem_cons_self->cM,mem_map->ff,take_add_one->aR,take_length->aT,take_of_length_le->du
open Nat renaming le_refl->az,zero_le->aP
open Go.RowKit renaming Below->ac,intOf->aw
open Go.Ending renaming returned->Oe
open Go.IntKind renaming i64->Oa
open Go.Obj renaming cells->Of
open Go.Value renaming int->N9,string->Ob,slice->Oc,pointer->Od
open Option renaming some->Og,none->Oh
namespace Go.Proofs.YtnlhbdmeodbblaaGreatDoor
open Go Go.RowKit Go.Sort Go.Lib
section
theorem iQ{fn:Func}{t u v:Tmp}(h:fn.results=#[.tmp t,.tmp u,.tmp v])(tmps:Array Value)(P:Program)(w:World) :
  (results fn tmps).run P w=.ok (.tuple #[tmps.getD t undef,tmps.getD u undef,tmps.getD v undef]) w:=by
 simp[results,h]
theorem Ev(l:List ByteArray)(p:Option Addr)(c:Nat)(a b:ByteArray)(w:World)(hl:ar bV w (Oc p l.length c) l)(ha:l[0]? = Og a)(hb:l[1]? = Og b)(hza:a.size<=100000000)(hzb:b.size<=100000000) :
  Calls prog 155 #[Oc p l.length c] w fun e w'=>e=Oe (Ob (lM a b))/\ac w.heap.size w w':=by
 have hlen:=(aA.1 hb).1;obtain⟨g,o,rfl,hg,hcv⟩:=gb hl rfl mOm;have q0:=hcv 0 _ ha;have q1:=hcv 1 _ hb;rw[Nat.add_zero] at q0;have i1:(0:Int)<(l.length:Int):=mOm;have i2:(1:Int)<(l.length:Int):=mOm;have i3:0<l.length:=mOm;have co:=fun w=>Hf a b hza hzb w
 have hS0:ac w.heap.size w w.drew/\w.drew.cell? ⟨g,o,Oh⟩=Og (Ob a)/\w.drew.cell? ⟨g,o+1,Oh⟩=Og (Ob b):=⟨(Below.refl _ w).drew,q0,q1⟩;generalize lM a b=d at *;clear hl hcv ha hb q0 q1;go_enter func155,ntmps155;go_wp2_with fail;refine aD (S:=fun u=>ac w.heap.size w u/\u.cell? ⟨g,o,Oh⟩=Og (Ob a)/\u.cell? ⟨g,o+1,Oh⟩=Og (Ob b)) [(0,true),(1,true),(2,true),(3,true),(4,true),(5,true),(6,false),(7,true)] hS0 ?_;have hS:=hS0
 iterate 6 refine ak ?_
 refine aJ 209 call209 (co _) ?_;rintro x wn⟨rfl,hb⟩;replace hS:=Dy hS hb;refine⟨_,rfl,hS,?_⟩;(try clear hb);refine ay ?_;refine ak ?_;simp only[aQ,aZ];go_wp2_with fail;go_ret;exact⟨rfl,hS.1⟩
def qk(st fi la:Int)(w:World)(e:Ending)(w':World):Prop:=
 ac w.heap.size w w'/\((ep st fi la/\e=Oe (.tuple #[Ob (loB st fi),Ob (hiB st la),.bool true]))\/(¬ep st fi la/\e=Oe (.tuple #[Ob ⟨#[]⟩,Ob ⟨#[]⟩,.bool false])))
theorem rH{p:Prop} (h:p:=by
 by_cases t4:la<fi
 .clear hr;go_wp2_with fail
  (try simp only[Exit.inBlock,Exit.then]);refine bodyPost_ret (iQ rfl _ _ _) rfl ?_
  exact⟨Below.refl _ _,.inr ⟨HR.out,rfl⟩⟩
 .have t5:100000<la:=mOm;clear hr;go_wp2_with fail
  (try simp only[Exit.inBlock,Exit.then]);refine bodyPost_ret (iQ rfl _ _ _) rfl ?_
  exact⟨Below.refl _ _,.inr ⟨HR.out,rfl⟩⟩):p:=h
theorem rM{p:Prop} (h:p:=by
 go_wp2_with fail
 (try simp only[Exit.inBlock,Exit.then]);refine bodyPost_ret (iQ rfl _ _ _) rfl ?_
 exact⟨hw4,.inl ⟨HR.out,by rw[HE.out.1,HE.out.2];rfl⟩⟩):p:=h
theorem gV{p:Prop} (h:p:=by
 go_wp2_with fail
 (try simp only[Exit.inBlock,Exit.then]);refine bodyPost_ret (iQ rfl _ _ _) rfl ?_
 exact⟨Below.refl _ _,.inr ⟨HR.out,rfl⟩⟩):p:=h
theorem qI{p q:Prop}(h:q) (f:Wq q->p:=by
 intro hq;have a1:IntKind.i64.wrap ((l:Int)+1)=((l+1:Nat):Int):=fY _ _ mOm mOm;have t1:¬(s:Int)<1:=mOm;have t2:¬(999999:Int)<(s:Int):=mOm;have t3:¬(f:Int)<0:=mOm;have t4:¬(l:Int)<(f:Int):=mOm
 revert a1 t1 t2 t3 t4
 exact hq.1):p:=f ⟨h⟩
theorem Ce(st fi la:Int)(w:World)(ht:Tabs w) :
  Calls prog 154 #[N9 Oa st,N9 Oa fi,N9 Oa la] w (qk st fi la w):=by
 by_cases hr:ep st fi la
 rotate_left 1
 .have HR:=aa hr;go_enter func154,ntmps154;unfold ep at hr;by_cases t1:st<1
  .clear hr;exact gV
  by_cases t2:999999<st
  .clear hr;exact gV
  by_cases t3:fi<0
  .clear hr;exact gV
  exact rH
 .have HR:=aa hr;obtain⟨r1,r2,r3,r4,r5⟩:=hr
  have HE:Hid (loB st fi=⟨(dl st.toNat).toArray⟩++⟨#[32]⟩++⟨(dl fi.toNat).toArray⟩++⟨#[32]⟩/\hiB st la=⟨(dl st.toNat).toArray⟩++⟨#[32]⟩++⟨(dl (la.toNat+1)).toArray⟩++⟨#[32]⟩):=aa (by
   have e1:(la+1).toNat=la.toNat+1:=mOm;unfold hiB loB;rw[e1]
   exact⟨dL mSi,dL mSi⟩)
  unfold qk
  generalize loB st fi=lo at HE |-;generalize hiB st la=hi at HE |-;obtain⟨s,rfl⟩:∃s:Nat,st=s:=⟨st.toNat,mOm⟩;obtain⟨f,rfl⟩:∃s:Nat,fi=s:=⟨fi.toNat,mOm⟩;obtain⟨l,rfl⟩:∃s:Nat,la=s:=⟨la.toNat,mOm⟩;simp only[cI] at HE;have c1:=fun w h=>sU s w mOm h
  have c2:=fun w h=>sU f w mOm h
  have c3:=fun w h=>sU (l+1) w mOm h
  have z1:(⟨(dl s).toArray⟩:ByteArray).size=6:=rfl;have z2:(⟨(dl f).toArray⟩:ByteArray).size=6:=rfl;have z3:(⟨(dl (l+1)).toArray⟩:ByteArray).size=6:=rfl;generalize (⟨(dl s).toArray⟩:ByteArray)=S1 at *;generalize (⟨(dl f).toArray⟩:ByteArray)=S2 at *;generalize (⟨(dl (l+1)).toArray⟩:ByteArray)=S3 at *;refine qI ?_;intro a1 t1 t2 t3 t4;have t5:¬(100000:Int)<(l:Int):=mOm;clear r1 r2 r3 r4 r5;go_enter func154,ntmps154;go_wp2_with fail;refine(c1 _ ht).mono ?_;rintro _ w1⟨rfl,hb1⟩;have ht1:=ht.below hb1;go_wp2_with fail;refine(c2 _ ht1).mono ?_;rintro _ w2⟨rfl,hb2⟩;have ht2:=ht1.below hb2;have hw2:=ah hb1 hb2;clear hb1 hb2 ht1;go_wp2_with fail;refine(c1 _ ht2).mono ?_;rintro _ w3⟨rfl,hb3⟩;have ht3:=ht2.below hb3;have hw3:=ah hw2 hb3;clear hb3 hw2 ht2;go_wp2_with fail;refine(c3 _ ht3).mono ?_;rintro _ w4⟨rfl,hb4⟩;have hw4:=ah hw3 hb4;clear hb4 hw3 ht3;exact rM
theorem Dc(st fi la:Int)(w:World) :
  Calls prog 133 #[N9 Oa st,N9 Oa fi,N9 Oa la] w (qk st fi la w):=by
 by_cases hr:ep st fi la
 rotate_left 1
 .have HR:=aa hr;go_enter func133,ntmps133;unfold ep at hr;by_cases t1:st<1
  .clear hr;exact gV
  by_cases t2:999999<st
  .clear hr;exact gV
  by_cases t3:fi<0
  .clear hr;exact gV
  by_cases t6:100000<fi
  .clear hr;exact gV
  exact rH
 .have HR:=aa hr;obtain⟨r1,r2,r3,r4,r5⟩:=hr
  have HE:Hid (loB st fi=⟨(dl st.toNat).toArray⟩++⟨#[32]⟩++⟨(dl fi.toNat).toArray⟩++⟨#[32]⟩/\hiB st la=⟨(dl st.toNat).toArray⟩++⟨#[32]⟩++⟨(dl (la.toNat+1)).toArray⟩++⟨#[32]⟩):=aa (by
   have e1:(la+1).toNat=la.toNat+1:=mOm;unfold hiB loB;rw[e1]
   exact⟨dL mSi,dL mSi⟩)
  unfold qk
  generalize loB st fi=lo at HE |-;generalize hiB st la=hi at HE |-;obtain⟨s,rfl⟩:∃s:Nat,st=s:=⟨st.toNat,mOm⟩;obtain⟨f,rfl⟩:∃s:Nat,fi=s:=⟨fi.toNat,mOm⟩;obtain⟨l,rfl⟩:∃s:Nat,la=s:=⟨la.toNat,mOm⟩;simp only[cI] at HE;have c1:=fun w=>sO s w mOm
  have c2:=fun w=>sO f w mOm
  have c3:=fun w=>sO (l+1) w mOm
  have z1:(⟨(dl s).toArray⟩:ByteArray).size=6:=rfl;have z2:(⟨(dl f).toArray⟩:ByteArray).size=6:=rfl;have z3:(⟨(dl (l+1)).toArray⟩:ByteArray).size=6:=rfl;generalize (⟨(dl s).toArray⟩:ByteArray)=S1 at *;generalize (⟨(dl f).toArray⟩:ByteArray)=S2 at *;generalize (⟨(dl (l+1)).toArray⟩:ByteArray)=S3 at *;refine qI ?_;intro a1 t1 t2 t3 t4;have t6:¬(100000:Int)<(f:Int):=mOm;have t5:¬(100000:Int)<(l:Int):=mOm;clear r1 r2 r3 r4 r5;go_enter func133,ntmps133;go_wp2_with fail;refine(c1 _).mono ?_;rintro _ w1⟨rfl,hb1⟩;go_wp2_with fail;refine(c2 _).mono ?_;rintro _ w2⟨rfl,hb2⟩;have hw2:=ah hb1 hb2;clear hb1 hb2;go_wp2_with fail;refine(c1 _).mono ?_;rintro _ w3⟨rfl,hb3⟩;have hw3:=ah hw2 hb3;clear hb3 hw2;go_wp2_with fail;refine(c3 _).mono ?_;rintro _ w4⟨rfl,hb4⟩;have hw4:=ah hw3 hb4;clear hb4 hw3;exact rM
end
section
def Ez(s:ByteArray)(w:World)(e:Ending)(w':World):Prop:=
 ac w.heap.size w w'/\((∃n:Nat,lw s n/\e=Oe (.tuple #[N9 Oa n,.bool true]))\/((∀n,¬lw s n)/\∃m:Int,e=Oe (.tuple #[N9 Oa m,.bool false])))
theorem lw.atoi{s:ByteArray}{n:Nat}(h:lw s n):mI s.data.toList=.ok (n:Int):=by have:=h.1;rw[h.2,Wr.atoi_itoa _ mOm]
theorem ru{p:Prop} (h:p:=by
 go_enter func157,ntmps157;go_wp2_with fail;refine ca.mono ?_;rintro _ w1⟨rfl,hb⟩;clear ca;go_wp2_with fail
 go_ret2
 exact⟨hb,.inr ⟨HN.out,_,rfl⟩⟩):p:=h
theorem Az(s:ByteArray)(hs:s.size<=100000000)(w:World)(hr:Wr.Ready w) :
  Calls prog 157 #[Ob s] w (Ez s w):=by
 have hbad:(∀v,mI s.data.toList ≠ .ok v)->Calls prog 157 #[Ob s] w (Ez s w):=fun hx=>by
  have HN:Hid (∀n,¬lw s n):=aa (fun n h=>hx _ h.atoi);have cb:=Wr.atoi_bad s mOm hx w hr.errs;clear hx;go_enter func157,ntmps157;go_wp2_with fail;refine cb.mono ?_;rintro _ w1⟨n,t,a,rfl,hb⟩;clear cb;go_wp2_with fail
  go_ret2
  exact⟨hb,.inr ⟨HN.out,_,rfl⟩⟩
 rcases hx:mI s.data.toList with v|_|_
 .clear hbad;have ca:=Wr.atoi_ok s mOm v hx w;have HX:=aa hx;clear hx;by_cases h1:0<=v
  rotate_left 1
  .have HN:Hid (∀n,¬lw s n):=aa (fun n h=>by have:=h.atoi;rw[HX.out] at this;injection this with this;omega);exact ru
  by_cases h2:v<=999999
  rotate_left 1
  .have HN:Hid (∀n,¬lw s n):=aa (fun n h=>by have:=h.atoi;rw[HX.out] at this;injection this with this;have:=h.1;omega);exact ru
  obtain⟨n,rfl⟩:∃n:Nat,v=n:=⟨v.toNat,mOm⟩
  have ci:=fun w ht=>lT (n:Int) w mOm mOm ht
  have HE:Hid (lw s n↔(⟨(dC (n:Int)).toArray⟩:ByteArray)=s):=aa ⟨fun h=>dL h.2.symm,fun h=>⟨mOm,by rw[<-h]⟩⟩;have hT:=hr.sane.1;generalize (⟨(dC (n:Int)).toArray⟩:ByteArray)=D at ci HE;by_cases h3:D=s
  .subst h3;have HN:=aa (HE.out.2 rfl);clear HE HX;go_enter func157,ntmps157;go_wp2_with fail;refine ca.mono ?_;rintro _ w1⟨rfl,hb⟩;clear ca;have hT1:=hT.below hb;go_wp2_with fail;refine(ci _ hT1).mono ?_;rintro _ w2⟨rfl,hb2⟩;have hb3:=ah hb hb2;clear hb hb2;go_wp2_with fail
   go_ret2
   exact⟨hb3,.inl ⟨n,HN.out,rfl⟩⟩
  .have HN:Hid (∀n,¬lw s n):=aa (fun m h=>by
    have e:=h.atoi;rw[HX.out] at e;injection e with e;obtain rfl:n=m:=mOm
    exact h3 (HE.out.1 h))
   have te:=lq h3
   clear HE HX h3;go_enter func157,ntmps157;go_wp2_with fail;refine ca.mono ?_;rintro _ w1⟨rfl,hb⟩;clear ca;have hT1:=hT.below hb;go_wp2_with fail;refine(ci _ hT1).mono ?_;rintro _ w2⟨rfl,hb2⟩;have hb3:=ah hb hb2;clear hb hb2;go_wp2_with fail
   go_ret2
   exact⟨hb3,.inr ⟨HN.out,_,rfl⟩⟩
 .exact hbad (fun v e=>by rw[hx] at e;cases e)
 .exact hbad (fun v e=>by rw[hx] at e;cases e)
theorem isDig_iff{c:UInt8}:kP c=true↔48<=c.toNat/\c.toNat<=57:=by unfold kP;rw[aX,decide_eq_true_eq,decide_eq_true_eq]
theorem Lr:∀(n:Nat)(l:List UInt8),l.length=n->l.all kP=true->mu l<10^n:=by
 intro n
 induction n with
 | zero=>intro l hl _;rw[List.eq_nil_of_length_eq_zero hl];decide
 | succ n ih =>
  intro l hl h;have e:l=l.take n++[l[n]]:=by have e:=aR (l:=l) (i:=n);rw[ai mOm,du mOm] at e;exact e
  rw[e,List.all_append,aX] at h
  have h1:=ih (l.take n) (by rw[aI];omega) h.1;have h2:kP l[n]=true:=by simpa using h.2
  rw[isDig_iff] at h2;rw[e,uK,Nat.pow_succ];omega
end
section
theorem rY{p:Prop} (h:p:=by
 have dd:d.toNat<48\/57<d.toNat:=by
  refine Classical.byContradiction fun h=>?_
  have:kP d=true:=isDig_iff.2 mOm;rw[this] at d0;cases d0
 clear d0
 rcases dd with d1|d2
 .have j1:(d.toNat:Int)<48:=mOm;clear d1;go_wp2_with fail;go_ret;exact⟨aL HN.out.symm,rfl⟩
 .have j1:¬(d.toNat:Int)<48:=mOm;have j2:(57:Int)<(d.toNat:Int):=mOm;clear d2;go_wp2_with fail;go_ret
  exact⟨aL HN.out.symm,rfl⟩):p:=h
theorem sw{p:Prop} (h:p:=by
 have HN:Hid (((mu (s.data.toList.take (k+1)):Nat):Int)=10*(m:Int)+(q:Int)/\(s.data.toList.take (k+1)).all kP=true):=aa (by
  rw[HT.out,uK,<-HM.out,List.all_append,HD.out];refine⟨mOm,?_⟩
  simp[hdg])
 clear d0 hdg hd2 hq
 go_wp2_with fail
 go_roundw
 case rel=>exact⟨k+1,mOm,by go_num,by rw[HN.out.1],aa HN.out.2,by first|rfl|trivial⟩
 case measure=>simp[aw];omega):p:=h
theorem rI{p:Prop} (h:p:=by
 have i1:¬(s.size:Int)<(s.size:Int):=mOm
 have HN:Hid (fG s.data.toList=(m:Int)):=aa (by
  unfold fG;have e:s.data.toList.take s.size=s.data.toList:=by rw[HSZ.out,aT]
  have h1:=HD.out;rw[e] at h1
  rw[if_pos h1,HM.out,e])
 clear hgo
 go_wp2_with fail;go_ret
 exact⟨aL HN.out.symm,rfl⟩):p:=h
theorem qS{p q:Prop}(h:q) (f:Wq q->p:=by
 intro hq;obtain⟨d,hd⟩:∃d,s.data.toList[k]=d:=⟨_,rfl⟩;have hg:∀h:k<s.size,s[k]'h=d:=fun h=>(Wr.get_ba s k h).trans hd
 have HT:Hid (s.data.toList.take (k+1)=s.data.toList.take k++[d]):=aa (by rw[aR,ai htl,hd];rfl);have HMEM:Hid (d∈s.data.toList):=aa (hd ▸ bA htl);have hd8:=UInt8.toNat_lt d
 revert d hd hg HT HMEM hd8
 exact hq.1):p:=f ⟨h⟩
theorem qr{p q:Prop}(h:q) (f:Wq q->p:=by
 intro hq;have hlt7:=Lr k (s.data.toList.take k) (by rw[aI,<-HSZ.out];omega) HD.out;have hpw:10^k<=10^8:=Nat.pow_le_pow_right mOm mOm;obtain⟨m,hm⟩:∃m,m=mu (s.data.toList.take k):=⟨_,rfl⟩;rw[<-hm] at hlt7 |-;have hm7:m<100000000:=mOm;have HM:=aa hm
 revert hpw m hm hlt7 hm7 HM
 exact hq.1):p:=f ⟨h⟩
theorem qG{p q:Prop}(h:q) (f:Wq q->p:=by
 intro hq;have hdg:kP d=true:=by simpa using d0
 have hd2:=isDig_iff.1 hdg;have j1:¬(d.toNat:Int)<48:=mOm;have j2:¬(57:Int)<(d.toNat:Int):=mOm;obtain⟨q,hq⟩:∃q,q=d.toNat-48:=⟨_,rfl⟩;have a2:IntKind.i64.wrap (10*(m:Int))=10*(m:Int):=aH _ mOm
 revert hdg hd2 j1 j2 q hq a2
 exact hq.1):p:=f ⟨h⟩
theorem oM(s:ByteArray)(hs:s.size<=8)(w:World) :
  Calls prog 229 #[Ob s] w fun e w'=>e=Oe (N9 Oa (fG s.data.toList))/\w=w':=by
 have HSZ:=aa (bF s);go_enter func229,ntmps229;go_wp2_with fail
 go_loopw [3,7] (fun x i wr=>∃k:Nat,k<=s.size/\i=N9 Oa k/\x=N9 Oa (mu (s.data.toList.take k))/\Hid ((s.data.toList.take k).all kP=true)/\wr=w) (fun _ i _=>9-(aw i).toNat)
 case atStart=>exact⟨0,aP _,rfl,rfl,aa rfl,rfl⟩
 case round =>
  obtain⟨k,hk,rfl,rfl,HD,rfl⟩:=hrel;refine qr ?_;intro hpw m hm hlt7 hm7 HM;clear hm hlt7 hpw;by_cases hgo:k<s.size
  .have i1:(k:Int)<(s.size:Int):=mOm;have htl:k<s.data.toList.length:=by rw[<-HSZ.out];omega
   refine qS ?_;intro d hd hg HT HMEM hd8;clear hd htl;by_cases d0:kP d=false
   .have HN:Hid (fG s.data.toList = -1):=aa (by
     unfold fG
     rw[if_neg (fun h=>by have:=gh.1 h d HMEM.out;rw[d0] at this;cases this)])
    exact rY
   refine qG ?_;intro hdg hd2 j1 j2 q hq a2
   have a1:IntKind.u8.wrap ((d.toNat:Int)-48)=(q:Int):=by rw[show(d.toNat:Int)-48=(q:Int) by omega];simp[IntKind.wrap,IntKind.signed,IntKind.bits];omega
   have a3:IntKind.i64.wrap (10*(m:Int)+(q:Int))=10*(m:Int)+(q:Int):=aH _ mOm;have a4:IntKind.i64.wrap (q:Int)=(q:Int):=fY _ _ rfl mOm;exact sw
  .obtain rfl:k=s.size:=mOm;exact rI
theorem Ee(s:ByteArray)(hs:s.size<=8)(w:World) :
  Calls prog 142 #[Ob s] w fun e w'=>e=Oe (N9 Oa (fG s.data.toList))/\w=w':=by
 have HSZ:=aa (bF s);go_enter func142,ntmps142;go_wp2_with fail
 go_loopw [3,4] (fun x i wr=>∃k:Nat,k<=s.size/\i=N9 Oa k/\x=N9 Oa (mu (s.data.toList.take k))/\Hid ((s.data.toList.take k).all kP=true)/\wr=w) (fun _ i _=>9-(aw i).toNat)
 case atStart=>exact⟨0,aP _,rfl,rfl,aa rfl,rfl⟩
 case round =>
  obtain⟨k,hk,rfl,rfl,HD,rfl⟩:=hrel;refine qr ?_;intro hpw m hm hlt7 hm7 HM;clear hm hlt7 hpw;by_cases hgo:k<s.size
  .have i1:(k:Int)<(s.size:Int):=mOm;have htl:k<s.data.toList.length:=by rw[<-HSZ.out];omega
   refine qS ?_;intro d hd hg HT HMEM hd8;clear hd htl;by_cases d0:kP d=false
   .have HN:Hid (fG s.data.toList = -1):=aa (by
     unfold fG
     rw[if_neg (fun h=>by have:=gh.1 h d HMEM.out;rw[d0] at this;cases this)])
    exact rY
   refine qG ?_;intro hdg hd2 j1 j2 q hq a2
   have a3:IntKind.i64.wrap (10*(m:Int)+(d.toNat:Int))=10*(m:Int)+(d.toNat:Int):=aH _ mOm;have a4:IntKind.i64.wrap (10*(m:Int)+(d.toNat:Int)-48)=10*(m:Int)+(q:Int):=by rw[show 10*(m:Int)+(d.toNat:Int)-48=10*(m:Int)+(q:Int) by omega];exact aH _ mOm
   have a5:IntKind.i64.wrap (d.toNat:Int)=(d.toNat:Int):=fY _ _ rfl mOm;exact sw
  .obtain rfl:k=s.size:=mOm;exact rI
end
section
theorem Lq(n:Nat):(dl n).all kP=true:=by unfold dl;simp only[fP,oN,List.all_cons,List.all_nil,Bool.and_true,aX,isDig_iff,UInt8.toNat_ofNat'];omega
theorem JM{n:Nat}(h:n<=999999):mu (dl n)=n:=by unfold mu dl;simp only[fP,oN,List.foldl_cons,List.foldl_nil,UInt8.toNat_ofNat'];omega
theorem wo{n:Nat}(h:n<=999999):fG (dl n)=n:=by unfold fG;rw[if_pos (Lq n),JM h]
theorem LW{k:Nat}(h:k<=9):fG [UInt8.ofNat (48+k)]=k:=by
 have h1:(UInt8.ofNat (48+k)).toNat=48+k:=by rw[UInt8.toNat_ofNat'];omega
 have h2:([UInt8.ofNat (48+k)]:List UInt8).all kP=true:=by simp only[List.all_cons,List.all_nil,Bool.and_true,isDig_iff,h1];omega
 unfold fG mu
 rw[if_pos h2];simp only[List.foldl_cons,List.foldl_nil,h1];omega
theorem between_iff{n a b:Int}:au n a b=true↔a<=n/\n<=b:=by unfold au;rw[aX,decide_eq_true_eq,decide_eq_true_eq]
theorem GK{e:Ent}(h:dQ e=0){st fi la:Int}(hq:inQ st fi la e=true):jL st fi la (gR e)=true:=by
 obtain⟨r1,r2,r3,r4,r5,r6⟩:=qo h;unfold inQ at hq;rw[aX,aX,decide_eq_true_eq,decide_eq_true_eq,decide_eq_true_eq] at hq;have n1:fG ((gR e).take 6)=e.student:=by have:(gR e).take 6=dl e.student.toNat:=rfl;rw[this,wo mOm];omega
 have n2:fG (((gR e).drop 7).take 6)=e.on:=by have:((gR e).drop 7).take 6=dl e.on.toNat:=rfl;rw[this,wo mOm];omega
 have n3:fG (((gR e).drop 14).take 6)=e.id:=by have:((gR e).drop 14).take 6=dl e.id.toNat:=rfl;rw[this,wo mOm];omega
 have n4:fG ((gR e).drop 21)=e.kind:=by have:(gR e).drop 21=[UInt8.ofNat (48+e.kind.toNat)]:=rfl;rw[this,LW mOm];omega
 have n5:(gR e).length=22:=rfl
 have n6:((gR e).getD 6 0==32&&(gR e).getD 13 0==32&&(gR e).getD 20 0==32)=true:=rfl;unfold jL;rw[n1,n2,n3,n4,n6,n5,decide_eq_true rfl,decide_eq_true hq.1.1,between_iff.2 ⟨hq.1.2,hq.2⟩,between_iff.2 r1,between_iff.2 r4];rfl
theorem Ig{n:Nat}(h:n<16):zj (jy n)=true:=by
 have:∀n,n<16->zj (jy n)=true:=by decide +kernel
 exact this n h
theorem JL(l:List UInt8):(fK l).all zj=true:=by
 unfold fK;rw[gh];intro c hc;obtain⟨d,-,hd⟩:=List.mem_flatMap.1 hc;have hlt:d.toNat<256:=d.toNat_lt;rcases bM.1 hd with rfl|hd
 .exact Ig mOm
 .rcases bM.1 hd with rfl|hd
  .exact Ig mOm
  .cases hd
theorem CJ(b:List UInt8):mB (oE b)=true:=by unfold mB;rw[mT,decide_eq_true rfl,mY];exact JL _
def ju(l:List Ent)(all:List ByteArray)(st fi la:Int):List Ent:=all.flatMap fun a=>l.filter fun e=>decide (dD e=a)&&inQ st fi la e
theorem ud(l:List Ent)(all:List ByteArray)(st fi la:Int):fV l all st fi la=(ju l all st fi la).map fL:=by unfold fV ju;rw[List.map_flatMap]
theorem oU{l:List Ent}{all:List ByteArray}{st fi la:Int}{e:Ent}(h:e∈ju l all st fi la):e∈l/\inQ st fi la e=true:=by unfold ju at h;obtain⟨a,-,h⟩:=List.mem_flatMap.1 h;have:=List.mem_filter.1 h;rw[aX] at this;exact⟨this.1,this.2.2⟩
theorem zF(l:List Ent):dU (l.map fL)=l.map dD:=by
 unfold dU;rw[mL];refine List.map_congr_left fun e _=>?_
 refine dL ?_
 show((fL e).key++⟨#[32]⟩++(fL e).hash).data.toList=_
 rw[iv,iv]
 unfold fL eH dD;simp
theorem oD{l:List Ent}(h:fD l){st fi la:Int}(hr:ep st fi la):(ju l (bQ l) st fi la).map dD=(bQ l).filter (inB (loB st fi) (hiB st la)):=by rw[<-Ep h hr,ud,zF]
theorem xY{l:List Ent}(h:fD l){st fi la:Int}(hr:ep st fi la):(ju l (bQ l) st fi la).length<=l.length:=by
 have h1:=congrArg List.length (oD h hr);rw[aU] at h1;have h2:=List.length_filter_le (inB (loB st fi) (hiB st la)) (bQ l);have h3:(bQ l).length=l.length:=by unfold bQ cH;rw[mW,aU]
 omega
theorem Ec{l:List ByteArray}(hs:fq l):l.Pairwise fun a b=>cC a b<0:=by rw[List.pairwise_iff_getElem];intro i j hi hj hij;exact uf hs hij (ai hi) (ai hj)
theorem LM{a b:Ent}(ha:dQ a=0)(hb:dQ b=0)(h:cC (dD a) (dD b)<0)(hne:eH a≠eH b):cC (eH a) (eH b)<0:=by
 rw[lt_bl,ByteArray.toList_eq,ByteArray.toList_eq] at h |-;unfold dD at h;unfold eH at hne |-;unfold fW at h hne |-;rw[if_pos ha,if_pos hb] at h hne |-;have hl:(gR a).length=(gR b).length:=rfl;have hne2:gR a≠gR b:=fun e=>hne (by rw[e])
 simp only at h |-;rw[sY hl,beq_eq_false_iff_ne.2 hne2,Bool.false_and,Bool.or_false] at h;exact h
theorem Hu{l:List Ent}(h:fD l){st fi la:Int}(hr:ep st fi la):(ju l (bQ l) st fi la).Pairwise fun a b=>cC (eH a) (eH b)<0:=by
 have h1:=(Ec (nK h).1).filter (inB (loB st fi) (hiB st la));rw[<-oD h hr,List.pairwise_map] at h1;have hk:(l.map eH).Nodup:=(iZ _).nodup_iff.1 (ri h.2);refine List.Pairwise.imp_of_mem (fun {a b} ha hb hab=>?_) h1;have ma:=(oU ha).1;have mb:=(oU hb).1;refine LM (h.1 a ma) (h.1 b mb) hab (fun e=>?_);have hab2:a=b:=by obtain⟨i,hi,rfl⟩:=ik ma;obtain⟨j,hj,rfl⟩:=ik mb;have:=(List.getElem_inj (h₀:=by rw[aU];exact hi) (h₁:=by rw[aU];exact hj) hk).1 (by rw[List.getElem_map,List.getElem_map];exact e);subst this;rfl
 rw[hab2] at hab
 exact sL hab
def eM(ids:List Int)(e:Ent):bT:=if e.id∈ids then fL e else { fL e with body:=⟨#[]⟩ }
theorem ou(ids:List Int)(e:Ent):(eM ids e).key=eH e:=by unfold eM;split <;> rfl
theorem oW(ids:List Int)(e:Ent):(eM ids e).hash=⟨(oE e.code).toArray⟩:=by unfold eM;split <;> rfl
theorem zg(ids:List Int)(l:List Ent):dU (l.map (eM ids))=l.map dD:=by
 rw[<-zF];unfold dU;rw[mL,mL];refine List.map_congr_left fun e _=>?_
 show(eM ids e).key++⟨#[32]⟩++(eM ids e).hash=_
 rw[ou,oW];rfl
theorem A8{e:Ent}(h:dQ e=0):(eH e).data.toList=gR e:=by unfold eH fW;rw[if_pos h]
theorem Ii{ids:List Int}{e:Ent}{s:Int}(ho:e.Ok)(hl:e.code.length<=262144)(hs:e.school=s):pD s (eM ids e)=0:=by
 unfold pD;by_cases hz:(eM ids e).body.size=0
 .rw[if_pos hz]
 .rw[if_neg hz];have hin:e.id∈ids:=by
   refine Classical.byContradiction fun hn=>hz ?_
   unfold eM;rw[if_neg hn];rfl
  have hb:(eM ids e).body=⟨e.code.toArray⟩:=by unfold eM;rw[if_pos hin];rfl
  rw[hb,ou,oW];simp only;rw[Hp e ho hl,if_neg (fun h=>h rfl),if_neg];rintro(h|h|h)
  .exact h hs
  .exact h rfl
  .exact h rfl
theorem CV(x:fc)(ids:List Int):∀(p:Option Ent)(E:List Ent),(∀e∈E,dQ e=0/\e.Ok/\e.code.length<=262144/\e.school=x.school/\inQ x.student x.first x.last e=true)->
  ((match p with|none=>[]|some q=>[q])++E).Pairwise (fun a b=>cC (eH a) (eH b)<0)->jq x (p.map (eM ids)) (E.map (eM ids))=0
 | _,[],_,_=>rfl
 | p,e::E,he,hs=>by
  obtain⟨h1,h2,h3,h4,h5⟩:=he e (cM ..)
  have ih:=CV x ids (Og e) E (fun a ha=>he a (dj _ ha)) (by
   show([e]++E).Pairwise _
   rw[List.pairwise_append] at hs
   exact hs.2.1)
  have hl:mU x (p.map (eM ids)) (eM ids e)=0:=by
   unfold mU;rw[ou,oW,A8 h1,if_neg,if_neg]
   .exact Ii h2 h3 h4
   .unfold ti
    cases p with
    | none=>exact fun h=>by cases h
    | some q =>
     have:cC (eH q) (eH e)<0:=by rw[List.pairwise_append] at hs;exact hs.2.2 q (cM ..) e (cM ..)
     show ¬(!decide (cC (eM ids q).key (eM ids e).key<0))=true
     rw[ou,ou,decide_eq_true this]
     decide
   .rintro(h|h)
    .rw[GK h1 h5] at h;cases h
    .have:=CJ e.code;simp only at h;rw[this] at h;cases h
  rw[fP]
  unfold jq;rw[hl,if_neg (fun h=>h rfl)];exact ih
def jr(l:List Ent)(st fi la:Int):List ByteArray:=
 [gQ (cH l),gQ (bQ l),⟨(dC ((eE (bQ l) (loB st fi):Nat):Int)).toArray⟩,om (jS (bQ l) (loB st fi) (hiB st la)) (loB st fi),ol (jS (bQ l) (loB st fi) (hiB st la)) (hiB st la)] ++
  js (bQ l) (eE (bQ l) (loB st fi)) (iB (bQ l) (loB st fi) (hiB st la))
theorem Nv{st fi la:Int}(hr:ep st fi la):cC (loB st fi) (hiB st la)<0:=by
 obtain⟨r1,r2,r3,r4,r5⟩:=hr;unfold hiB loB;rw[lt_bl,ByteArray.toList_eq,ByteArray.toList_eq];simp only;have h6:∀a b:Nat,(dl a).length=(dl b).length:=fun _ _=>rfl
 rw[sY (h6 _ _),yH mOm mOm,Di mOm mOm,zY,sY (h6 _ _),yH mOm mOm];simp only[Bool.or_eq_true,aX,decide_eq_true_eq];exact .inr ⟨trivial,.inl mOm⟩
theorem D7{l:List Ent}(h:fD l){st fi la:Int}(hr:ep st fi la)(hn:l.length<=900000)(ids:List Int) :
  jz (jV l) l.length st fi la ((ju l (bQ l) st fi la).map (eM ids)) (jr l st fi la):=by
 have hs:=(nK h).1;have hal:(bQ l).length=l.length:=by unfold bQ cH;rw[mW,aU]
 have hlh:=Nv hr;have haw:=Bz hs (loB st fi) (hiB st la) mOm
 have hz:∀x∈bQ l,0<x.size:=fun x hx=>by
  obtain⟨e,-,rfl⟩:=ff.1 ((iZ _).mem_iff.1 hx);have:=bF (dD e);rw[this];unfold dD;simp only[ap,bB];omega
 have hg:fC ((ju l (bQ l) st fi la).map (eM ids)) (om (jS (bQ l) (loB st fi) (hiB st la)) (loB st fi)) (ol (jS (bQ l) (loB st fi) (hiB st la)) (hiB st la))=jS (bQ l) (loB st fi) (hiB st la):=by unfold fC;rw[zg,oD h hr];exact IB hs hz hlh
 refine⟨hr,_,_,_,_,_,_,rfl,rfl,?_,eE (bQ l) (loB st fi),⟨?_,rfl⟩,?_,?_⟩
 .intro x hx;obtain⟨e,-,rfl⟩:=ff.1 hx;refine⟨?_,?_⟩
  .rw[oW,bF];exact mT _
  .unfold eM
   split
   .exact .inr rfl
   .exact .inl rfl
 .have:=jE (bQ l) (loB st fi);unfold eE;omega
 .rw[hg,<-hal];exact haw.1
 .rw[hg,haw.2,zg,oD h hr]
def mD(l:List Ent)(school root st fi la:Int)(ids:List Int):fc:=⟨school,st,fi,la,root,(ju l (bQ l) st fi la).map (eM ids),jr l st fi la⟩
theorem CX{l:List Ent}(h:fD l){school root st fi la:Int}(hr:ep st fi la)(hn:l.length<=2000)(ids:List Int)(hsc:1<=school/\school<=8)(hro:0<=root/\root<=199)
  (hok:∀e∈l,e.Ok/\e.code.length<=262144/\e.school=school):kA (mD l school root st fi la ids)=0:=by
 obtain⟨r1,r2,r3,r4,r5⟩:=hr;have hr:ep st fi la:=⟨r1,r2,r3,r4,r5⟩;have hlen:=xY h hr
 have hlin:=CV (mD l school root st fi la ids) ids Oh (ju l (bQ l) st fi la) (fun e he=>by
  have hm:=oU he;have ho:=hok e hm.1
  exact⟨h.1 e hm.1,ho.1,ho.2.1,ho.2.2,hm.2⟩) (Hu h hr)
 unfold kA
 rw[if_neg,if_neg,if_neg,if_neg,if_neg,if_neg]
 .show ¬(jr l st fi la).length<5
  unfold jr
  simp only[ap,bB,List.length_nil];omega
 .intro hne;exact hne hlin
 .show ¬2000<((ju l (bQ l) st fi la).map (eM ids)).length
  rw[aU];omega
 .show ¬au root 0 199=false
  rw[between_iff.2 hro];decide
 .show ¬(au fi 0 100000=false\/au la fi 100000=false)
  rw[between_iff.2 ⟨r3,mOm⟩,between_iff.2 ⟨r4,r5⟩];decide
 .show ¬(au school 1 8=false\/au st 1 999999=false)
  rw[between_iff.2 hsc,between_iff.2 ⟨r1,r2⟩];decide
theorem vR(r:bH):∀(p:Option aC)(l:List aC)(x:aC),dE r p l=0->eF r (match l.getLast? with|some y=>some y|none=>p) x=0->dE r p (l++[x])=0
 | p,[],x,_,h=>by
  simp only[List.getLast?_nil] at h
  show(if eF r p x≠0 then _ else _)=_
  rw[if_neg (fun hn=>hn h)];rfl
 | p,y::l,x,h,h2=>by
  unfold dE at h;by_cases hy:eF r p y=0
  .rw[if_neg (fun hn=>hn hy)] at h
   have ih:=vR r (Og y) l x h (by
    rw[List.getLast?_cons] at h2
    cases hg:l.getLast? with
    | none=>rw[hg] at h2;exact h2
    | some z=>rw[hg] at h2;exact h2)
   show(if eF r p y≠0 then _ else _)=_
   rw[if_neg (fun hn=>hn hy)]
   exact ih
  .rw[if_pos hy] at h;exact absurd h hy
theorem qi(r:bH):∀(p:Option aC)(l:List aC),dE r p l=0->∀x∈l,x.school=r.school/\au x.day 0 100000=true/\eu r x.key (bJ x) x.mark x.day x.day=0
 | _,[],_,_,hx=>by cases hx
 | p,y::l,h,x,hx=>by
  unfold dE at h;by_cases hy:eF r p y=0
  .rw[if_neg (fun hn=>hn hy)] at h;rcases bM.1 hx with rfl|hx
   .unfold eF at hy
    split at hy;· cases hy
    rename_i h1
    split at hy;· cases hy
    split at hy;· cases hy
    rename_i h3
    split at hy;· cases hy
    split at hy;· cases hy
    exact⟨Classical.byContradiction h1,by simpa using h3,hy⟩
   .exact qi r (Og y) l h x hx
  .rw[if_pos hy] at h;exact absurd h hy
theorem oI{r:bH}{l:List aC}(hch:cK r l=0):dE r Oh l=0:=by
 unfold cK at hch;by_cases h1:et r=0
 .rw[if_neg (fun hn=>hn h1)] at hch;by_cases h2:200<l.length
  .rw[if_pos h2] at hch;cases hch
  .rwa [if_neg h2] at hch
 .rw[if_pos h1] at hch;exact absurd hch h1
theorem yg{l:List Ent}{r:bH}{roots own:List aC}{rt:aC}{root:Nat}(hof:dO roots r.school=own)(hrt:own[root]? = Og rt)(hch:cK r (own.take (root+1))=0)(hsz:rt.size=l.length)(htr:rt.tree=jV l)(h:fD l){st fi la:Int}(hr:ep st fi la)(hn:l.length<=2000)(ids:List Int)(hsc:1<=r.school/\r.school<=8)(hro:root<=199)
  (hok:∀e∈l,e.Ok/\e.code.length<=262144/\e.school=r.school):dS (mD l r.school root st fi la ids) roots r 100000=0/\dW (mD l r.school root st fi la ids) roots=rt:=by
 have hlt:=(aA.1 hrt).1;have hmem:rt∈own.take (root+1):=List.mem_of_getElem? (i:=root) (by rw[List.getElem?_take_of_lt mOm];exact hrt);have hall:=qi r Oh _ (oI hch);have hat:dW (mD l r.school root st fi la ids) roots=rt:=by
  unfold dW
  show(dO roots r.school).getD root _=_
  rw[hof,bi,hrt];rfl
 refine⟨?_,hat⟩
 unfold dS;have hday:=between_iff.1 (hall rt hmem).2.1;rw[if_neg (fun hn2=>hn2 (CX h hr hn ids hsc ⟨mOm,mOm⟩ hok)),if_neg (fun hn2=>hn2 rfl),if_neg,if_neg,if_neg,if_neg]
 .rw[hat];refine Classical.not_not.2 ?_
  show jz rt.tree rt.size st fi la ((ju l (bQ l) st fi la).map (eM ids)) (jr l st fi la)
  rw[htr,hsz]
  exact D7 h hr mOm ids
 .rw[hat];omega
 .intro hn2;refine hn2 ?_
  show cK r ((dO roots r.school).take _)=0
  rw[hof]
  exact hch
 .show ¬((dO roots r.school).length:Int)<=(root:Int)
  rw[hof];omega
theorem zA{r:bH}{l:List aC}(h:cK r l=0):et r=0:=by
 unfold cK at h;by_cases h1:et r=0
 .exact h1
 .rw[if_pos h1] at h;exact absurd h h1
end
section
def kB(r:Nat):Bool:=(decide (48<=r)&&decide (r<=57))||(decide (97<=r)&&decide (r<=102))
theorem JZ(s:ByteArray)(hs:s=⟨#[48,49,50,51,52,53,54,55,56,57,97,98,99,100,101,102]⟩)(k:Nat)(h:k<s.size):(s[k]'h).toNat<128:=by
 subst hs;have h16:k<16:=h;have:∀k,k<16->∀h,(((⟨#[48,49,50,51,52,53,54,55,56,57,97,98,99,100,101,102]⟩:ByteArray)[k]'h).toNat)<128:=by
  intro n hn;have h16:n=0\/n=1\/n=2\/n=3\/n=4\/n=5\/n=6\/n=7\/n=8\/n=9\/n=10\/n=11\/n=12\/n=13\/n=14\/n=15:=mOm;rcases h16 with rfl|rfl|rfl|rfl|rfl|rfl|rfl|rfl|rfl|rfl|rfl|rfl|rfl|rfl|rfl|rfl <;> intro _ <;> exact of_decide_eq_true rfl
 exact this k h16 h
theorem BN(s:ByteArray)(hs:∀k (h:k<s.size),(s[k]'h).toNat<128)(w:World):Calls prog 231 #[Ob s,N9 .i32 65533] w fun e w'=>e=Oe (N9 Oa (-1))/\ac w.heap.size w w':=by
 have HS:=aa hs;clear hs;go_enter func231,ntmps231;go_wp2_with fail
 go_loopw [] (fun wx=>∃pos:Nat,wx.heap[w.heap.size]? = Og (.stringIter s pos)/\Below w.heap.size w wx) (fun wr=>s.size-wr.iterPos w.heap.size)
 case atStart=>exact⟨0,World.iter_heap w s 0,(Below.refl _ w).alloc (az _) _⟩
 case round =>
  obtain⟨pos,hit,hbw⟩:=hrel;have hmu:wr.iterPos w.heap.size=pos:=by simp[World.iterPos,hit]
  by_cases hps:pos<s.size
  .have hnx:∀ty,(Instr.next (Od (Og ⟨w.heap.size,0,Oh⟩)) true ty).run prog wr=_:=fun ty=>Lib.run_next_ascii_at wr w.heap.size s pos ty hit hps (HS.out pos hps)
   have hit2:=Lib.iterAt_heap wr w.heap.size s pos (pos+1) hit;have hbw2:=Lib.below_iterAt hbw (k:=w.heap.size) (az _) s (pos+1);have hlt:=HS.out pos hps;obtain⟨c,hc⟩:∃c,c=(s[pos]'hps).toNat:=⟨_,rfl⟩;rw[<-hc] at hnx hlt;have hne:((c:Int)==65533)=false:=by rw[beq_eq_false_iff_ne];omega
   generalize wr.iterAt w.heap.size s (pos+1)=W1 at *;have hmu2:W1.iterPos w.heap.size=pos+1:=by simp[World.iterPos,hit2]
   have HM:=aa (show s.size-W1.iterPos w.heap.size<s.size-wr.iterPos w.heap.size by rw[hmu,hmu2];omega);clear hc hmu hmu2 hit;go_wp2_with fail
   go_roundw
   case rel=>exact⟨pos+1,hit2,hbw2⟩
   case measure=>exact HM.out
  .have hnx:∀ty,(Instr.next (Od (Og ⟨w.heap.size,0,Oh⟩)) true ty).run prog wr=_:=fun ty=>Lib.run_next_end_at wr w.heap.size s pos ty hit hps
   go_wp2_with fail;go_ret;exact⟨rfl,hbw⟩
theorem ux(r:Int)(h0:0<=r)(h2:r<=1114111)(w:World):Calls prog 260 #[N9 .i32 r] w fun e w'=>e=Oe (.bool (decide (r<55296)||decide (57343<r)))/\w=w':=by
 by_cases h1:r<55296
 .go_enter func260,ntmps260;go_wp2_with fail;go_ret;exact⟨cF (by simp[h1]),rfl⟩
 .by_cases h3:57343<r
  .go_enter func260,ntmps260;go_wp2_with fail;go_ret;exact⟨cF mSi,rfl⟩
  .go_enter func260,ntmps260;go_wp2_with fail;go_ret;exact⟨cF (by simp[h1,h3]),rfl⟩
theorem BM(s:ByteArray)(r:Int)(h1:55296<=r)(h2:r<=57343)(w:World):Calls prog 231 #[Ob s,N9 .i32 r] w fun e w'=>e=Oe (N9 Oa (-1))/\ac w.heap.size w w':=by
 have a1:(0:Int)<=r:=mOm;have a2:¬r<128:=mOm;have a3:(r==65533)=false:=by rw[beq_eq_false_iff_ne];omega
 have a4:¬r<55296:=mOm;have a5:¬57343<r:=mOm;have kv:=ux r a1 mOm w;rw[decide_eq_false a4,decide_eq_false a5] at kv;go_enter func231,ntmps231;go_wp2_with fail;refine kv.mono ?_;rintro _ _⟨rfl,rfl⟩;go_wp2_with fail;go_ret;exact⟨rfl,Below.refl _ _⟩
theorem Lt(r:Int)(h0:128<=r):∃(m:Nat) (c:UInt8),(Utf8.encode r).size=m+1/\1<=m/\m<=3/\128<=c.toNat/\∀h:m<(Utf8.encode r).size,(Utf8.encode r)[m]'h=c:=by
 have hl:∀n:Nat,128<=(UInt8.ofNat (128+n%64)).toNat:=fun n=>by rw[UInt8.toNat_ofNat'];omega
 have key:(∃a c,Utf8.encode r=⟨#[a,c]⟩/\128<=c.toNat)\/(∃a b c,Utf8.encode r=⟨#[a,b,c]⟩/\128<=c.toNat)\/(∃a b d c,Utf8.encode r=⟨#[a,b,d,c]⟩/\128<=c.toNat):=by
  obtain⟨c,hc⟩:∃c,c=if Utf8.valid r=true then r.toNat else Utf8.runeError:=⟨_,rfl⟩
  have h128:128<=c:=by
   rw[hc]
   split
   .omega
   .decide
  have e:Utf8.encode r=if c<128 then { data:=#[UInt8.ofNat c] } else if c<2048 then { data:=#[UInt8.ofNat (192+c / 64),UInt8.ofNat (128+c%64)] } else if c<65536 then { data:=#[UInt8.ofNat (224+c / 4096),UInt8.ofNat (128+c / 64%64),UInt8.ofNat (128+c%64)] } else { data:=#[UInt8.ofNat (240+c / 262144),UInt8.ofNat (128+c / 4096%64),UInt8.ofNat (128+c / 64%64),UInt8.ofNat (128+c%64)] }:=by rw[hc];rfl
  rw[if_neg mOm] at e
  split at e
  .exact .inl ⟨_,_,e,hl _⟩
  .split at e
   .exact .inr (.inl ⟨_,_,_,e,hl _⟩)
   .exact .inr (.inr ⟨_,_,_,_,e,hl _⟩)
 rcases key with⟨a,c,e,h⟩|⟨a,b,c,e,h⟩|⟨a,b,d,c,e,h⟩
 .rw[e];exact⟨1,c,rfl,mOm,mOm,h,fun _=>rfl⟩
 .rw[e];exact⟨2,c,rfl,mOm,mOm,h,fun _=>rfl⟩
 .rw[e];exact⟨3,c,rfl,mOm,mOm,h,fun _=>rfl⟩
theorem uR(c:UInt8):∀l:List UInt8,(∀x∈l,x≠c)->Lib.indexByte l c = -1
 | [],_=>rfl
 | b::l,h=>by
  have h1:(b==c)=false:=by rw[beq_eq_false_iff_ne];exact h b (cM ..)
  have h2:=uR c l (fun x hx=>h x (dj _ hx));unfold Lib.indexByte;rw[h1,h2];rfl
theorem Js(s:ByteArray)(c:UInt8)(hc:128<=c.toNat)(hs:∀x∈s.data.toList,x.toNat<128)(w:World):Calls prog 259 #[Ob s,N9 .u8 c.toNat] w fun e w'=>e=Oe (N9 Oa (-1))/\w=w':=by
 have h:=Any.strings_IndexByte { lays151 with } s (c.toNat:Int) w;have hcc:(c.toNat:Int).toNat.toUInt8=c:=by rw[cI];exact UInt8.toNat_inj.1 (by show(UInt8.ofNat c.toNat).toNat=_;rw[UInt8.toNat_ofNat'];have:=c.toNat_lt;omega)
 rw[hcc,uR c _ (fun x hx e=>by have:=hs x hx;rw[e] at this;omega)] at h;exact h.mono fun _ _ ⟨h1,h2⟩=>⟨h1,h2.symm⟩
theorem nW{p:Prop} (h:p:=by
 go_wp2_with fail;refine wp_loop_rounds 1 ?_;rw[rounds_succ];go_wp2_with fail;refine wp_scope_straight ?_;go_wp2_with fail;have hS0:ac w.heap.size w w.drew:=(Below.refl _ w).drew;refine aD (S:=fun u=>ac w.heap.size w u) [(0,true),(1,true),(2,true),(3,true),(4,true),(5,true),(6,true)] hS0 ?_;have hS:=hS0
 iterate 7 refine ak ?_
 simp only[aQ,aZ];go_wp2_with fail;have hS1:ac w.heap.size w w.drew.drew:=hS.drew;clear hS hS0;refine aD (S:=fun u=>ac w.heap.size w u) [(0,true),(1,true),(2,true),(3,true),(4,true),(5,true),(6,true),(7,false),(8,true)] hS1 ?_;have hS:=hS1
 iterate 7 refine ak ?_
 refine aJ 259 call259 (kb _) ?_;rintro x wn⟨rfl,rfl⟩;refine⟨_,rfl,hS,?_⟩;refine ay ?_;refine ak ?_;simp only[aQ,aZ];clear hS1;go_wp2_with fail
 (try simp only[Exit.inBlock,Exit.then,Exit.noGoto])
 go_ret
 exact⟨rfl,hS⟩):p:=h
theorem BO(r:Int)(h0:128<=r)(hn:r≠65533)(h1:r<55296\/57343<r)(h2:r<=1114111)(w:World):Calls prog 231 #[Ob ⟨#[48,49,50,51,52,53,54,55,56,57,97,98,99,100,101,102]⟩,N9 .i32 r] w fun e w'=>e=Oe (N9 Oa (-1))/\ac w.heap.size w w':=by
 have a1:(0:Int)<=r:=mOm;have a2:¬r<128:=mOm;have a3:(r==65533)=false:=by rw[beq_eq_false_iff_ne];omega
 have kv:=ux r a1 mOm w;rw[show(decide (r<55296)||decide (57343<r))=true by rcases h1 with h|h <;> simp[h]] at kv;obtain⟨m,c,hsz,hm1,hm3,hc,hg⟩:=Lt r h0;have kb:=fun (t:ByteArray) (ht:t.data.toList.all (fun x=>decide (x.toNat<128))=true) u=>Js t c hc (fun x hx=>of_decide_eq_true (gh.1 ht x hx)) u
 have KB:=aa kb;clear kb;have hw1:wrap64 (((Utf8.encode r).size:Int)-1)=(m:Int):=by rw[hsz,show((m+1:Nat):Int)-1=(m:Int) by omega];unfold wrap64;omega
 have hm':m=1\/m=2\/m=3:=mOm;have d1:∀n:Int,n<128->(n != (c.toNat:Int))=true:=fun n hn=>by rw[bne_iff_ne];omega
 have d49:=d1 49 mDe;have d50:=d1 50 mDe;have d51:=d1 51 mDe;have hszm:m<(Utf8.encode r).size:=mOm;have hszi:(m:Int)<((Utf8.encode r).size:Int):=mOm;go_enter func231,ntmps231;go_wp2_with fail;refine kv.mono ?_;rintro _ _⟨rfl,rfl⟩;go_wp2_with fail;refine wp_scope_straight ?_;clear h0 h1 h2 hn a1 a2 a3 d1;rcases hm' with rfl|rfl|rfl
 .have wn:IntKind.i64.wrap 2=2:=mDe;have gx:((⟨#[48,49,50,51,52,53,54,55,56,57,97,98,99,100,101,102]⟩:ByteArray)[1]'mDe).toNat=49:=rfl;have kb:=fun u=>KB.out ((⟨#[48,49,50,51,52,53,54,55,56,57,97,98,99,100,101,102]⟩:ByteArray).extract 2 16) (by decide +kernel) u
  exact nW
 .have wn:IntKind.i64.wrap 3=3:=mDe;have gx:((⟨#[48,49,50,51,52,53,54,55,56,57,97,98,99,100,101,102]⟩:ByteArray)[2]'mDe).toNat=50:=rfl;have kb:=fun u=>KB.out ((⟨#[48,49,50,51,52,53,54,55,56,57,97,98,99,100,101,102]⟩:ByteArray).extract 3 16) (by decide +kernel) u
  exact nW
 .have wn:IntKind.i64.wrap 4=4:=mDe;have gx:((⟨#[48,49,50,51,52,53,54,55,56,57,97,98,99,100,101,102]⟩:ByteArray)[3]'mDe).toNat=51:=rfl;have kb:=fun u=>KB.out ((⟨#[48,49,50,51,52,53,54,55,56,57,97,98,99,100,101,102]⟩:ByteArray).extract 4 16) (by decide +kernel) u
  exact nW
theorem J0:∀n,n<128->decide (0<=Lib.indexByte [48,49,50,51,52,53,54,55,56,57,97,98,99,100,101,102] (Nat.toUInt8 n))=kB n:=by decide +kernel
theorem Cn(r:Nat)(hr:r<=1114111)(w:World):Calls prog 197 #[Ob ⟨#[48,49,50,51,52,53,54,55,56,57,97,98,99,100,101,102]⟩,N9 .i32 (r:Int)] w fun e w'=>e=Oe (.bool (kB r))/\ac w.heap.size w w':=by
 by_cases h:r<128
 .have hc:=Tryz.strings_ContainsRune_ascii ⟨#[48,49,50,51,52,53,54,55,56,57,97,98,99,100,101,102]⟩ (r:Int) w mOm mOm;rw[cI] at hc;refine hc.mono ?_;rintro _ _⟨rfl,rfl⟩;exact⟨cF (J0 r h),Below.refl _ _⟩
 .have HN:Hid (kB r=false):=aa (by
   unfold kB
   rw[decide_eq_false (show ¬r<=57 by omega),decide_eq_false (show ¬r<=102 by omega)];simp)
  have hi:Calls prog 231 #[Ob ⟨#[48,49,50,51,52,53,54,55,56,57,97,98,99,100,101,102]⟩,N9 .i32 (r:Int)] w fun e w'=>e=Oe (N9 Oa (-1))/\ac w.heap.size w w':=by
   by_cases h1:(r:Int)=65533
   .rw[h1];exact BN _ (JZ _ rfl) w
   .by_cases h2:55296<=(r:Int)/\(r:Int)<=57343
    .exact BM _ _ h2.1 h2.2 w
    .exact BO _ mOm h1 mOm mOm w
  clear h hr
  go_enter func197,ntmps197;go_wp2_with fail;refine hi.mono ?_;rintro _ w1⟨rfl,hb⟩;go_wp2_with fail;go_ret;exact⟨cF HN.out.symm,hb⟩
theorem Kw(w:World):PredGrows prog 196 #[] (fun r=>!kB r) w:=fun W r hr _=>by
 have hc:=Cn r hr W;obtain⟨b,hb0⟩:∃b,kB r=b:=⟨_,rfl⟩;rw[hb0] at hc;have HB:=aa hb0;clear hb0
 show Calls prog 196 #[N9 .i32 (r:Int)] W _
 clear hr
 go_enter func196,ntmps196;go_wp2_with fail;refine hc.mono ?_;rintro _ w1⟨rfl,hb⟩;go_wp2_with fail;go_ret;exact⟨cF (by rw[HB.out]),hb⟩
theorem J2(p:Nat->Bool)(hp:∀r,128<=r->p r=true)(s:ByteArray)(f pos:Nat)(hf:s.size<=f+pos):decide (jm p true s f pos<0)=(s.data.toList.drop pos).all (fun c=>!p c.toNat):=by
 induction f generalizing pos with
 | zero =>
  have h1:s.data.toList.drop pos=[]:=fm (by rw[<-bF];omega);rw[h1];simp[jm]
 | succ f ih =>
  by_cases hp2:pos<s.size
  .have hl:pos<s.data.toList.length:=by rw[<-bF];exact hp2
   have hg:s.data.toList[pos]'hl=s[pos]'hp2:=rfl;rw[List.drop_eq_getElem_cons hl,List.all_cons,hg];unfold jm;rw[if_pos hp2];by_cases ha:(s[pos]'hp2).toNat<128
   .rw[decode_ascii s pos hp2 ha];by_cases hw:p (s[pos]'hp2).toNat=true
    .rw[if_pos hw,hw];simp
    .have hw':p (s[pos]'hp2).toNat=false:=by simpa using hw
     rw[if_neg hw,hw',ih (pos+1) mOm];simp
   .have hd:=decode_high s pos hp2 mOm;have hw:=hp _ hd.1;have hw2:=hp (s[pos]'hp2).toNat mOm;rw[if_pos hw,hw2];simp
  .have h1:s.data.toList.drop pos=[]:=fm (by rw[<-bF];omega);rw[h1,Lib.idxFuncFrom_end _ _ _ _ _ hp2];rfl
theorem If(s:ByteArray)(_hs:s.size<=9223372036854775807)(w:World) :
  Calls prog 145 #[Ob s] w fun e w'=>e=Oe (.bool (mB s.data.toList))/\ac w.heap.size w w':=by
 have hC:=fun W=>Any.strings_IndexFunc_grows laysGw15 196 #[] (enters_of func196 mKr rfl) (fun r=>!kB r) s W (Kw W)
 have hi:=J2 (fun r=>!kB r) (fun r hr=>by unfold kB;rw[decide_eq_false (show ¬r<=57 by omega),decide_eq_false (show ¬r<=102 by omega)];simp) s s.size 0 mOm;have hz:Lib.idxFunc (fun r=>!kB r) true s=jm (fun r=>!kB r) true s s.size 0:=rfl;rw[<-hz,mv] at hi;have hall:s.data.toList.all (fun c=>!!kB c.toNat)=s.data.toList.all zj:=by congr 1;funext c;rw[Bool.not_not];rfl
 have hsz:=bF s;by_cases h16:s.size=16
 .have HR:Hid (mB s.data.toList=decide (Lib.idxFunc (fun r=>!kB r) true s<0)):=aa (by
   unfold mB
   rw[decide_eq_true (by rw[<-hsz];exact h16),mY,hi,hall])
  have t1:((s.size:Int)==16)=true:=by rw[beq_iff_eq];omega
  clear hi hz hall hsz h16;go_enter func145,ntmps145;go_wp2_with fail;refine(hC _).mono ?_;rintro x w1⟨rfl,hb⟩;go_wp2_with fail;go_ret;exact⟨cF HR.out.symm,hb⟩
 .have HR:Hid (mB s.data.toList=false):=aa (by
   unfold mB
   rw[decide_eq_false (by rw[<-hsz];exact h16)];rfl)
  have t1:((s.size:Int)==16)=false:=by rw[beq_eq_false_iff_ne];omega
  clear hi hz hall hsz h16 hC;go_enter func145,ntmps145;go_wp2_with fail;go_ret;exact⟨cF HR.out.symm,Below.refl _ _⟩
end
section
theorem CB(s:ByteArray)(i j:Nat):(s.extract i j).data.toList=(s.data.toList.drop i).take (j-i):=by rw[ByteArray.data_extract,Array.toList_extract,List.extract_eq_take_drop]
theorem CC(s:ByteArray)(i j:Nat):(s.extract i j).size=min j s.size-i:=ByteArray.size_extract
def spB(k:ByteArray):Bool:=k.data.toList.getD 6 0==32&&k.data.toList.getD 13 0==32&&k.data.toList.getD 20 0==32
theorem JX(k:ByteArray)(i:Nat)(h:i<k.size):k[i]=k.data.toList.getD i 0:=by
 have hl:i<k.data.toList.length:=by rw[<-bF];exact h
 rw[bi,ai hl];exact Wr.get_ba k i h
theorem IS{k:ByteArray}(h:k.size=22)(st fi la:Int):jL st fi la k.data.toList=(spB k&&decide (fG (k.extract 0 6).data.toList=st)&&au (fG (k.extract 7 13).data.toList) fi la&&au (fG (k.extract 14 20).data.toList) 1 899999&&au (fG (k.extract 21 22).data.toList) 1 9):=by
 have hl:k.data.toList.length=22:=by rw[<-bF];exact h
 have e21:(k.data.toList.drop 21).take (22-21)=k.data.toList.drop 21:=du (by rw[List.length_drop];omega);unfold jL spB;rw[CB,CB,CB,CB,e21,hl,decide_eq_true rfl,mY,mv]
theorem IT{k:ByteArray}(h:k.size≠22)(st fi la:Int):jL st fi la k.data.toList=false:=by
 have hl:k.data.toList.length≠22:=by rw[<-bF];exact h
 unfold jL;rw[decide_eq_false hl];simp
theorem IU{k:ByteArray}(h:spB k=false)(st fi la:Int):jL st fi la k.data.toList=false:=by
 unfold jL
 change (_&&spB k&&_&&_&&_&&_)=false
 rw[h]
 simp
theorem Jn(a b c:UInt8)(w:World):(binOp .neq 253 (.agg #[N9 .u8 a.toNat,N9 .u8 b.toNat,N9 .u8 c.toNat]) (.agg #[N9 .u8 32,N9 .u8 32,N9 .u8 32])).run prog w=.ok (.bool (!(([a,b,c]:List UInt8)==[32,32,32]))) w:=by
 have h:=run_equalIn_bytes (P:=prog) w 9998 253 5 3 underlying253 underlying5 (fun w=>sizeOf5 w) [a,b,c] [32,32,32] rfl rfl;have h2:(Op.equalIn 10000 253 (.agg #[N9 .u8 a.toNat,N9 .u8 b.toNat,N9 .u8 c.toNat]) (.agg #[N9 .u8 32,N9 .u8 32,N9 .u8 32])).run prog w=.ok (([a,b,c]:List UInt8)==[32,32,32]) w:=h;rw[run_neq_struct,h2];rfl
theorem pU{fn:Func}{p u:Tmp}(h:fn.results=#[.cell p 228,.tmp u])(tmps:Array Value)(w:World)(g:Nat)(a b c d:Int)(hp:tmps.getD p undef=Od (Og ⟨g,0,Oh⟩))(hg:w.heap[g]? = Og (Of #[N9 Oa a,N9 Oa b,N9 Oa c,N9 Oa d] 228 (0,0))) :
  (results fn tmps).run prog w=.ok (.tuple #[.agg #[N9 Oa a,N9 Oa b,N9 Oa c,N9 Oa d],tmps.getD u undef]) w:=by
 rw[results_cell_tmp h,hp];have:=run_loadVar_row (P:=prog) w g 228 228 #[N9 Oa a,N9 Oa b,N9 Oa c,N9 Oa d] (0,0) _ hg underlying228 rfl mKr;simp only[asAddr,Sem.run_pure,Result.andThen_ok,this]
def E6(k:ByteArray)(w:World)(e:Ending)(w':World):Prop:=ac w.heap.size w w'/\
  ((k.size=22/\spB k=true/\e=Oe (.tuple #[.agg #[N9 Oa (fG (k.extract 0 6).data.toList),N9 Oa (fG (k.extract 7 13).data.toList),N9 Oa (fG (k.extract 14 20).data.toList),N9 Oa (fG (k.extract 21 22).data.toList)],.bool true]))\/
   ((k.size≠22\/spB k=false)/\e=Oe (.tuple #[.agg #[N9 Oa 0,N9 Oa 0,N9 Oa 0,N9 Oa 0],.bool false])))
theorem qZ{p q:Prop}(h:q) (f:Wq q->p:=by
 intro hq;refine aD (S:=fun u=>ac w.heap.size w u) [(0,true),(1,true),(2,true),(3,true),(4,true),(5,true),(6,true),(7,true),(8,true),(9,true),(10,true),(11,true),(12,true),(13,true)] hS0 ?_;have hS:=hS0
 revert hS
 exact hq.1):p:=f ⟨h⟩
theorem qL{p q:Prop}(h:q) (f:Wq q->p:=by
 intro hq;have hd0:((w.alloc (Of #[N9 Oa 0,N9 Oa 0,N9 Oa 0,N9 Oa 0] 228)).drew).heap[w.heap.size]? = Og (Of #[N9 Oa 0,N9 Oa 0,N9 Oa 0,N9 Oa 0] 228 (0,0)):=hh
 revert hd0
 exact hq.1):p:=f ⟨h⟩
theorem Ex(k:ByteArray)(_hk:k.size<=100000)(w:World) :
  Calls prog 194 #[Ob k] w (E6 k w):=by
 have hba:=aj w (Of #[N9 Oa 0,N9 Oa 0,N9 Oa 0,N9 Oa 0] 228);have hh:=heap_alloc_new w (Of #[N9 Oa 0,N9 Oa 0,N9 Oa 0,N9 Oa 0] 228);have hS0:=hba.drew;go_enter func194,ntmps194;by_cases h22:k.size=22
 .have t1:((k.size:Int) != 22)=false:=by rw[bne_eq_false_iff_eq];omega
  have l6:6<k.size:=mOm;have l13:13<k.size:=mOm;have l20:20<k.size:=mOm;have m6:(6:Int)<(k.size:Int):=mOm;have m13:(13:Int)<(k.size:Int):=mOm;have m20:(20:Int)<(k.size:Int):=mOm;obtain⟨c6,hc6⟩:∃c,c=k.data.toList.getD 6 0:=⟨_,rfl⟩;obtain⟨c13,hc13⟩:∃c,c=k.data.toList.getD 13 0:=⟨_,rfl⟩;obtain⟨c20,hc20⟩:∃c,c=k.data.toList.getD 20 0:=⟨_,rfl⟩;have g6:∀h:6<k.size,k[6]'h=c6:=fun h=>(JX k 6 h).trans hc6.symm
  have g13:∀h:13<k.size,k[13]'h=c13:=fun h=>(JX k 13 h).trans hc13.symm
  have g20:∀h:20<k.size,k[20]'h=c20:=fun h=>(JX k 20 h).trans hc20.symm
  have HSP:Hid (spB k=(([c6,c13,c20]:List UInt8)==[32,32,32])):=aa (by
   unfold spB;rw[<-hc6,<-hc13,<-hc20]
   simp[Bool.and_assoc])
  obtain⟨sp,hsp⟩:∃b,b=(([c6,c13,c20]:List UInt8)==[32,32,32]):=⟨_,rfl⟩
  have hnq:∀u,(binOp .neq 253 (.agg #[N9 .u8 c6.toNat,N9 .u8 c13.toNat,N9 .u8 c20.toNat]) (.agg #[N9 .u8 32,N9 .u8 32,N9 .u8 32])).run prog u=.ok (.bool (!sp)) u:=fun u=>by rw[Jn,hsp]
  have HS:Hid (spB k=sp):=aa (by rw[HSP.out,hsp]);have H22:=aa h22;clear hc6 hc13 hc20 HSP hsp;go_wp2_with fail;refine qZ ?_;intro hS
  iterate 14 refine ak ?_
  simp only[aQ,aZ];have hbF:=hS;clear hS hS0;refine qL ?_;intro hd0
  cases sp
  .go_wp2_with fail;refine bodyPost_ret (pU results194 _ _ w.heap.size 0 0 0 0 rfl hd0) rfl ⟨hbF,.inr ⟨.inr HS.out,rfl⟩⟩
  .have n1:=fun u=>oM (k.extract 0 6) (by rw[CC];omega) u
   have n2:=fun u=>oM (k.extract 7 13) (by rw[CC];omega) u
   have n3:=fun u=>oM (k.extract 14 20) (by rw[CC];omega) u
   have n4:=fun u=>oM (k.extract 21 22) (by rw[CC];omega) u
   have hd1:((w.alloc (Of #[N9 Oa 0,N9 Oa 0,N9 Oa 0,N9 Oa 0] 228)).drew.drew).heap[w.heap.size]? = Og (Of #[N9 Oa 0,N9 Oa 0,N9 Oa 0,N9 Oa 0] 228 (0,0)):=hh;have hsB:ac w.heap.size w ((w.alloc (Of #[N9 Oa 0,N9 Oa 0,N9 Oa 0,N9 Oa 0] 228)).drew.drew):=hbF.drew
   have hth:((w.alloc (Of #[N9 Oa 0,N9 Oa 0,N9 Oa 0,N9 Oa 0] 228)).drew.drew).there w.heap.size 0 4:=fun j hj=>by
    rw[Nat.zero_add];refine⟨?_,Lib.frozen_of_heap hd1 j⟩;rw[ae hd1 j]
    match j,hj with
    | 0,_|1,_|2,_|3,_=>rfl
   clear hh hba hd0 g6 g13 g20 hnq
   obtain⟨a,ha⟩:∃a,fG (k.extract 0 6).data.toList=a:=⟨_,rfl⟩;rw[ha] at n1;have HA:=aa ha;clear ha;obtain⟨b,hb⟩:∃b,fG (k.extract 7 13).data.toList=b:=⟨_,rfl⟩;rw[hb] at n2;have HB:=aa hb;clear hb;obtain⟨c,hc⟩:∃c,fG (k.extract 14 20).data.toList=c:=⟨_,rfl⟩;rw[hc] at n3;have HC:=aa hc;clear hc;obtain⟨d,hd⟩:∃d,fG (k.extract 21 22).data.toList=d:=⟨_,rfl⟩;rw[hd] at n4;have HD:=aa hd;clear hd;go_wp2_with fail;generalize ((w.alloc (Of #[N9 Oa 0,N9 Oa 0,N9 Oa 0,N9 Oa 0] 228)).drew)=W at *;have hsF:ac w.heap.size w (W.drew.setCells w.heap.size 0 [N9 Oa a,N9 Oa b,N9 Oa c,N9 Oa d]):=(((hsB.setCell (p:=⟨w.heap.size,0,Oh⟩) (az _) _).setCell (p:=⟨w.heap.size,1,Oh⟩) (az _) _).setCell (p:=⟨w.heap.size,2,Oh⟩) (az _) _).setCell (p:=⟨w.heap.size,3,Oh⟩) (az _) _;have hhF:(W.drew.setCells w.heap.size 0 [N9 Oa a,N9 Oa b,N9 Oa c,N9 Oa d]).heap[w.heap.size]? = Og (Of #[N9 Oa a,N9 Oa b,N9 Oa c,N9 Oa d] 228 (0,0)):=bj (bj (bj (bj hd1 0 (N9 Oa a)) 1 (N9 Oa b)) 2 (N9 Oa c)) 3 (N9 Oa d);refine aD (S:=fun u=>ac w.heap.size w u) [(0,true),(1,true),(3,true),(4,true),(6,true),(7,true),(9,true),(10,true),(2,false),(5,false),(8,false),(11,false),(12,true),(13,false),(14,true)] hsB ?_;have hS:=hsB
   iterate 8 refine ak ?_
   refine aJ 229 call229 (n1 _) ?_;rintro x wn⟨rfl,rfl⟩;refine⟨_,rfl,hS,?_⟩;refine ay ?_;refine aJ 229 call229 (n2 _) ?_;rintro x wn⟨rfl,rfl⟩;refine⟨_,rfl,hS,?_⟩;refine ay ?_;refine aJ 229 call229 (n3 _) ?_;rintro x wn⟨rfl,rfl⟩;refine⟨_,rfl,hS,?_⟩;refine ay ?_;refine aJ 229 call229 (n4 _) ?_;rintro x wn⟨rfl,rfl⟩;refine⟨_,rfl,hS,?_⟩;refine ay ?_;refine ak ?_;refine ll ⟨_,_,_,_,_,_⟩ rfl mRf (wp_store_mid 228 (.tmp 2) (.tmp 31) mRf w.heap.size 0 #[N9 Oa a,N9 Oa b,N9 Oa c,N9 Oa d] mRf mRf hth mKr (by simp[Value.oneCell']) ?_);refine⟨hsF,?_⟩;clear hS;have hS:=hsF
   (try simp only[Act.put])
   refine ak ?_;simp only[aQ,aZ];go_wp2_with fail;refine bodyPost_ret (pU results194 _ _ w.heap.size a b c d rfl hhF) rfl ⟨hsF,.inl ⟨H22.out,HS.out,by rw[HA.out,HB.out,HC.out,HD.out];rfl⟩⟩
 .have t1:((k.size:Int) != 22)=true:=by rw[bne_iff_ne];omega
  refine qL ?_;intro hd0;have hbF:=hS0;have HN:=aa h22;clear h22;go_wp2_with fail;refine qZ ?_;intro hS
  iterate 14 (first|refine ak ?_|refine dw ?_)
  simp only[aQ,aZ];go_wp2_with fail;refine bodyPost_ret (pU results194 _ _ w.heap.size 0 0 0 0 rfl hd0) rfl ⟨hbF,.inr ⟨.inl HN.out,rfl⟩⟩
end
section
theorem jd(n lo hi:Int)(w:World):Calls prog 143 #[N9 Oa n,N9 Oa lo,N9 Oa hi] w fun e w'=>e=Oe (.bool (!au n lo hi))/\w=w':=by
 obtain⟨B,hB⟩:∃B,B = !au n lo hi:=⟨_,rfl⟩;rw[<-hB];unfold au at hB;have HBB:=aa hB;clear hB;by_cases h1:n<lo <;> by_cases h2:hi<n
 all_goals
  have e1:decide (lo<=n) = !decide (n<lo):=by rw[<-decide_not];congr 1;rw[Int.not_lt]
  have e2:decide (n<=hi) = !decide (hi<n):=by rw[<-decide_not];congr 1;rw[Int.not_lt]
  have HB:Hid (B=(decide (n<lo)||decide (hi<n))):=aa (by rw[HBB.out,e1,e2];simp);have HC:=HB.out;simp only[h1,h2,decide_true,decide_false,Bool.or_true,Bool.or_false] at HC;have HD:=aa HC;clear e1 e2 HB HC HBB;go_enter func143,ntmps143;go_wp2_with fail;go_ret;exact⟨cF HD.out.symm,rfl⟩
theorem GL(sc st fi la ro:Int)(pl pp:Option Addr)(nl cl np cp:Nat)(k:ByteArray)(hk:k.size<=100000)(w:World) :
  Calls prog 144 #[.agg #[N9 Oa sc,N9 Oa st,N9 Oa fi,N9 Oa la,N9 Oa ro,Oc pl nl cl,Oc pp np cp],Ob k] w fun e w'=>e=Oe (.bool (jL st fi la k.data.toList))/\ac w.heap.size w w':=by
 have kf:=fun u=>Ex k hk u
 have hb0:=aj w (Of #[N9 Oa sc,N9 Oa st,N9 Oa fi,N9 Oa la,N9 Oa ro,Oc pl nl cl,Oc pp np cp] 39);have hh:=heap_alloc_new w (Of #[N9 Oa sc,N9 Oa st,N9 Oa fi,N9 Oa la,N9 Oa ro,Oc pl nl cl,Oc pp np cp] 39);have HR22:=aa (fun h=>IS (k:=k) h st fi la)
 have HRNO:Hid ((k.size≠22\/spB k=false)->jL st fi la k.data.toList=false):=aa (fun h=>by
  rcases h with h|h
  .exact IT h st fi la
  .exact IU h st fi la)
 generalize jL st fi la k.data.toList=V at *
 go_enter func144,ntmps144;go_wp2_with fail;refine(kf _).mono ?_;rintro _ w1⟨hb1,hF⟩;have hbw:=ah hb0 hb1;have e1:=(hb1.block _ (av hh)).trans hh;have x1:w1.cell? ⟨w.heap.size,1,none⟩=some (.int .i64 st):=ae e1 1;have x2:w1.cell? ⟨w.heap.size,2,none⟩=some (.int .i64 fi):=ae e1 2;have x3:w1.cell? ⟨w.heap.size,3,none⟩=some (.int .i64 la):=ae e1 3;have hxl:=av e1;clear kf hb1 hh e1 hb0;rcases hF with⟨h22,hsp,rfl⟩|⟨hno,rfl⟩
 rotate_left 1
 .have HV:Hid (V=false):=aa (HRNO.out hno);have hba:=aj w1 (Of #[N9 Oa 0,N9 Oa 0,N9 Oa 0,N9 Oa 0] 228);have hbF:=ah hbw hba;clear hno HRNO HR22;go_wp2_with fail;go_ret;exact⟨cF HV.out.symm,hbF⟩
 have hV:=HR22.out h22
 rw[hsp,mY] at hV;have HV:=aa hV;clear HRNO HR22 hV h22 hsp;generalize fG (k.extract 0 6).data.toList=a at *;generalize fG (k.extract 7 13).data.toList=b at *;generalize fG (k.extract 14 20).data.toList=c at *;generalize fG (k.extract 21 22).data.toList=d at *;have hba:=aj w1 (Of #[N9 Oa a,N9 Oa b,N9 Oa c,N9 Oa d] 228);have hbF:=ah hbw hba;have x1:=(hba.cell (p:=⟨w.heap.size,1,Oh⟩) hxl).trans x1;have x2:=(hba.cell (p:=⟨w.heap.size,2,Oh⟩) hxl).trans x2;have x3:=(hba.cell (p:=⟨w.heap.size,3,Oh⟩) hxl).trans x3;have k2:=fun u=>jd b fi la u
 have k3:=fun u=>jd c 1 899999 u
 have k4:=fun u=>jd d 1 9 u
 generalize au b fi la=B2 at *;generalize au c 1 899999=B3 at *;generalize au d 1 9=B4 at *;by_cases h1:a=st
 rotate_left 1
 .have t1:(a==st)=false:=by rw[beq_eq_false_iff_ne];exact h1
  have HV2:Hid (V=false):=aa (by rw[HV.out,decide_eq_false h1];simp);clear HV h1;go_wp2_with fail;go_ret;exact⟨cF HV2.out.symm,hbF⟩
 have t1:(a==st)=true:=by rw[beq_iff_eq];exact h1
 have HV2:Hid (V=(B2&&B3&&B4)):=aa (by rw[HV.out,decide_eq_true h1];simp);clear HV h1;go_wp2_with fail;refine(k2 _).mono ?_;rintro _ _⟨rfl,rfl⟩
 cases B2
 .have HV3:Hid (V=false):=aa (by rw[HV2.out];simp);clear HV2;go_wp2_with fail;go_ret;exact⟨cF HV3.out.symm,hbF⟩
 go_wp2_with fail
 refine(k3 _).mono ?_;rintro _ _⟨rfl,rfl⟩
 cases B3
 .have HV3:Hid (V=false):=aa (by rw[HV2.out];simp);clear HV2;go_wp2_with fail;go_ret;exact⟨cF HV3.out.symm,hbF⟩
 go_wp2_with fail
 refine(k4 _).mono ?_;rintro _ _⟨rfl,rfl⟩;have HV3:Hid (V=B4):=aa (by rw[HV2.out];simp);clear HV2
 cases B4 <;> (go_wp2_with fail;go_ret;exact⟨cF HV3.out.symm,hbF⟩)
end
section
def zR(r:bH)(at_:aC)(e:Ent):Bool:=decide (eu r e.key ⟨e.body.toArray⟩ e.mark e.day at_.day=0)
def fA(r:bH)(at_:aC)(lines:List bT):List Ent:=lines.filterMap (jM r at_)
end
section
attribute [local go_sem] Ent.cells
theorem Iq(e:Ent):dD e=((⟨(fW e).toArray⟩:ByteArray)++⟨#[32]⟩)++jG ⟨e.code.toArray⟩:=by refine dL ?_;rw[iv,iv];unfold dD jG;simp
theorem tQ(e:Ent):(fW e).length<=22:=by
 unfold fW
 split
 .exact az _
 .exact aP _
theorem Ck(e:Ent)(h:e.Ok):e.code.length<=300000:=by have h1:=pL e h;have h2:=ia e.mark (by have:=h.mark;omega);have h3:=h.course;have h4:=h.mark;unfold Ent.code;rw[ap];omega
theorem Bc(e:Ent)(h:e.Ok)(w:World) :
  Calls prog 138 #[e.val] w fun x w'=>x=Oe (Ob (dD e))/\ac w.heap.size w w':=by
 have hk:=fun u=>ua e h u
 have he:=fun u=>uq e h u
 have hcl:=Ck e h;have hh:=fun u=>xH ⟨e.code.toArray⟩ (by rw[bF];show e.code.length<=_;omega) u
 have HL:=aa (Iq e);have hz1:(⟨(fW e).toArray⟩:ByteArray).size<=22:=by rw[bF];exact tQ e
 have hz2:(jG ⟨e.code.toArray⟩).size<=16:=by rw[bF];exact Nat.le_of_eq (mT _)
 generalize dD e=LB at *;generalize jG ⟨e.code.toArray⟩=HB at *;generalize (⟨e.code.toArray⟩:ByteArray)=CD at *;generalize (⟨(fW e).toArray⟩:ByteArray)=KV at *;have s1:(⟨#[32]⟩:ByteArray).size=1:=rfl;have c1:¬9223372036854775807<KV.size+1:=mOm;have c2:¬9223372036854775807<KV.size+1+HB.size:=mOm;have hba:=aj w (Of e.cells 67);have heb:=heap_alloc_new w (Of e.cells 67);have hS0:zV w w.heap.size e.cells (w.alloc (Of e.cells 67)).drew:=⟨hba.drew,av heb,fun j=>ae heb j⟩;clear hcl h hba heb;obtain⟨e0,e1,e2,e3,e4,e5,e6,e7,e8,e9,e10,e11,e12,e13,e14⟩:=e;simp only[Ent.cells] at hS0;go_enter func138,ntmps138;go_wp2_with fail;refine aD (S:=fun u=>ac w.heap.size w u/\w.heap.size<u.heap.size/\∀j,u.cell? ⟨w.heap.size,j,Oh⟩=(#[N9 Oa e0,N9 Oa e1,N9 Oa e2,N9 Oa e3,N9 Oa e4,N9 Oa e5,Ob e6,N9 Oa e7,N9 Oa e8,N9 Oa e9,N9 Oa e10,N9 Oa e11,N9 Oa e12,N9 Oa e13,Ob e14]:Array Value)[j]?) [(0,true),(3,true),(1,false),(2,true),(4,false),(5,false),(6,true),(7,true)] hS0 ?_;have hS:=hS0
 iterate 2 refine ak ?_
 refine aJ 21 call21 (hk _) ?_;rintro x wn⟨rfl,hb⟩;replace hS:=bX hS hb;refine⟨_,rfl,hS,?_⟩;(try clear hb);refine ay ?_;refine ak ?_;refine aJ 139 call139 (he _) ?_;rintro x wn⟨rfl,hb⟩;replace hS:=bX hS hb;refine⟨_,rfl,hS,?_⟩;(try clear hb);refine ay ?_;refine aJ 140 call140 (hh _) ?_;rintro x wn⟨rfl,hb⟩;replace hS:=bX hS hb;refine⟨_,rfl,hS,?_⟩;(try clear hb);refine ay ?_
 iterate 2 refine ak ?_
 simp only[aQ,aZ];have hbF:=hS.1;go_wp2_with fail;go_ret;exact⟨cU HL.out.symm,hbF⟩
theorem eG:∀x:Ent,(bL x).length=15:=fun _=>rfl
theorem xC(l:List Ent)(hok:∀e∈l,e.Ok)(p:Option Addr)(c:Nat)(w:World)(h:ar bL w (Oc p l.length c) l)(hl:l.length<=100000) :
  Calls prog 136 #[Oc p l.length c] w fun e w'=>∃v,e=Oe v/\bz bV 1 9 w w' v (cH l):=by
 have HL:=aa h;have HOK:=aa hok;clear h hok;go_enter func136,ntmps136;go_wp2_with fail
 go_loopw [3,4] (fun v i wr=>∃k:Nat,k<=l.length/\i=N9 Oa k/\bz bV 1 9 w wr v (cH (l.take k))) (fun _ i _=>l.length-(aw i).toNat)
 case atStart=>exact⟨0,aP _,rfl,bz.nil _ _ _ _⟩
 case round =>
  obtain⟨k,hk,rfl,hO⟩:=hrel;obtain⟨pv,cv,hv⟩:=hO.form;subst hv;have hsl:(cH (l.take k)).length<=100000:=by unfold cH;rw[aU,aI];omega
  by_cases hlt:k<l.length
  .obtain⟨g,o,rfl,hg,hrow⟩:=dh (kk:=15) HL.out eG rfl mOm;have hge:=ai hlt;have hra:=hrow k _ hge;have hx:=HOK.out _ (bA hlt);have j1:(k:Int)<(l.length:Int):=mOm;have j2:(0:Int)<=(k:Int):=mOm
   have HT:Hid (cH (l.take (k+1))=cH (l.take k)++[dD l[k]]):=aa (by
    unfold cH
    rw[aR,hge,Option.toList_some,List.map_append];rfl)
   have hat:wr.rangeAt g (o+k*15) l[k].cells.toList:=fun j v hv=>(hO.low.cell (p:=⟨g,o+k*15+j,Oh⟩) hg).trans (hra j v hv)
   have kf:=fun u=>Bc l[k] hx u
   generalize l[k]=x at *;generalize cH (l.take k)=M at *;generalize dD x=LB at *;have HO:=aa hO;clear hra hrow hge hO;go_wp2_with (refine wpList_load_mid rfl 67 (.tmp 14) rfl _ _ rfl x.cells.toList _ hat underlying67 rfl mKr ?_);refine(kf _).mono ?_;clear kf;rintro _ w2⟨rfl,hb2⟩;have hP:=(HO.out.next hb2).next (aj w2 (Of #[Ob LB] 9));have hlit:ar bV (w2.alloc (Of #[Ob LB] 9)) (Oc (Og ⟨w2.heap.size,0,Oh⟩) 1 1) [LB]:=cN (heap_alloc_new w2 _) _ rfl rfl;have hown:=hP.own;have hsz:=hP.low.size;have HP:=aa hP;clear hP HO hb2 hat;go_wp2_with (at_builtin;refine bl lY rfl (.tmp 11) (.tmp 17) rfl w.heap.size _ _ M [LB] rfl rfl hown hlit (by simp only[List.length_singleton];omega) hsz ?_;intro v9 w10 hA9;have H9:=aa (HP.out.app hA9);clear hA9 hown hsz hlit)
   go_roundw
   case rel=>exact⟨k+1,mOm,by go_num,by rw[HT.out];exact H9.out⟩
   case measure=>simp[aw];omega
  .obtain rfl:k=l.length:=mOm;have i1:¬(l.length:Int)<(l.length:Int):=mOm;rw[aT] at hO hsl |-;have HO:=aa hO;clear hO;go_wp2_with fail;go_ret;exact⟨_,rfl,HO.out⟩
end
section
structure BrtE where
 fro:Int
 student:Int
 root:Int
 ents:List Ent
def fh(x b:BrtE):Bool:=x.fro==b.fro&&x.student==b.student
def ltK(a b:BrtE):Prop:=a.fro<b.fro\/(a.fro=b.fro/\a.student<b.student)
structure KeptB (a P:List BrtE):Prop where
 ord:a.Pairwise ltK
 mem:∀x,x∈a↔x∈P/\∀y∈P,fh y x=true->y.root<=x.root
 top:∀y∈P,∃x∈a,fh x y=true/\y.root<=x.root
