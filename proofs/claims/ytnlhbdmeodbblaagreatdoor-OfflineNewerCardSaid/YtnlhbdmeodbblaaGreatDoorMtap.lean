/- Lemmas. -/
import Derived.Test.YtnlhbdmeodbblaaGreatDoorMtak
import Derived.Laws.Cover1
set_option maxRecDepth 100000
set_option maxHeartbeats 16000000
set_option linter.all false
open Go.Proofs.Tryz
open Int renaming toNat_natCast->cI
open Go.IntWalk renaming i64_in->aH
open Go.Lib renaming cell_of_heap->ae,compareBytes->gY,hid->aa
open List renaming append_assoc->bZ,foldl_append->fO,getElem?_append_right->bS,getElem?_eq_getElem->ai,length_append->ap,length_cons->bB,length_drop->bD,length_map->aU,length_nil->cJ,length_reverse->fF,length_singleton->aB,length_take->aI,map_cons->fP,mem_append->bI,mem_of_mem_take->cu,reverse_append->gI,reverse_reverse->eS,take_add_one->aR,take_append_drop->cP,take_length->aT
open Nat renaming le_refl->az,zero_add->bP,zero_le->aP
open Go.RowKit renaming Below->ac,intOf->aw
open Go.World renaming block_lt_of_cell?->al,ownsRow_nil->dX
open Go.Ending renaming returned->Oe
open Go.IntKind renaming i64->Oa
open Go.Obj renaming cells->Of
open Go.Value renaming int->N9,string->Ob,slice->Oc
open Option renaming some->Og,none->Oh
namespace Go.Proofs.YtnlhbdmeodbblaaGreatDoor
open Go Go.RowKit Go.Sort Go.Lib
section
def mf(P:Prop)(w:World)(e:Ending)(w':World):Prop:=∃t:Bool,e=Oe (.bool t)/\(t=true↔P)/\ac w.heap.size w w'
def Fb(n i:Nat)(leaves proof:List ByteArray):List Blk:=dF (cV 0 i) proof++ie i leaves++dF (cV (i+leaves.length) n) (proof.drop (cV 0 i).length)
def Am(n i:Nat)(leaves proof:List ByteArray):ByteArray:=oH n (sS (eO bw [] (Fb n i leaves proof)).reverse)
def lj(root:ByteArray)(n i:Int)(leaves proof:List ByteArray):Prop:=
 (0<=n/\n<=1099511627776/\0<=i/\i<=n/\(leaves.length:Int)<=n-i)/\(∀s∈proof,s.size=8)/\proof.length=(cV 0 i.toNat).length+(cV (i.toNat+leaves.length) n.toNat).length/\root=Am n.toNat i.toNat leaves proof
theorem verify_ok{pr:List ByteArray}{a b:Nat}:(okK pr a/\okK (pr.drop a) b/\(pr.drop a).drop b=[])↔((∀s∈pr,s.size=8)/\pr.length=a+b):=by
 constructor
 .rintro⟨⟨h1,h2⟩,⟨h3,h4⟩,h5⟩;have hl:pr.length=a+b:=by
   have:=congrArg List.length h5;simp only[bD,cJ] at this h3;omega
  refine⟨fun s hs=>?_,hl⟩
  rw[<-cP a pr,bI] at hs;rcases hs with hs|hs
  .exact h2 s hs
  .exact h4 s (by rw[List.take_of_length_le (by rw[bD];omega)];exact hs)
 .rintro⟨h1,h2⟩;refine⟨⟨mOm,fun s hs=>h1 s (cu hs)⟩,⟨by rw[bD];omega,fun s hs=>h1 s (List.mem_of_mem_drop (cu hs))⟩,?_⟩;rw[List.drop_drop,List.drop_eq_nil_of_le mOm]
theorem jR(j:Nat):∀f i,j-i<=f->(cV i j).length<=j-i
 | 0,i,h=>by rw[lK mOm];exact aP _
 | f+1,i,h=>by
  by_cases hij:i<j
  .have hb:=mh hij;have:=jR j f (i+iM i j) mOm;rw[oQ hij,bB];omega
  .rw[lK hij];exact aP _
theorem wg(l:List (Nat×Nat))(d:List ByteArray):(dF l d).length<=l.length:=by unfold dF;simp;omega
theorem lF{p:Prop} (h:p:=by
 go_wp2_with fail;go_ret
 exact⟨false,rfl,⟨fun e=>(by cases e),fun hv=>absurd hv.1 HN.out⟩,Below.refl _ _⟩):p:=h
theorem G5(root:ByteArray)(n i:Int)(leaves proof:List ByteArray)(p1 p2:Option Addr)(c1 c2:Nat)(w:World)(i1:I64 n)(i2:I64 i)(hn:n<=5000)(hl:ar bV w (Oc p1 leaves.length c1) leaves)(hz:∀s∈leaves,s.size<=100000000)(hp:ar bV w (Oc p2 proof.length c2) proof) :
  Calls prog 214 #[Ob root,N9 Oa n,N9 Oa i,Oc p1 leaves.length c1,Oc p2 proof.length c2] w (mf (lj root n i leaves proof) w):=by
 have HL:=aa hl;have HP:=aa hp;have HZ:=aa hz;clear hl hp hz;go_enter func214,ntmps214;by_cases q1:n<0
 .have HN:Hid (¬(0<=n/\n<=1099511627776/\0<=i/\i<=n/\(leaves.length:Int)<=n-i)):=aa mOm;exact lF
 have q2:¬(1099511627776:Int)<n:=mOm
 by_cases q3:i<0
 .have HN:Hid (¬(0<=n/\n<=1099511627776/\0<=i/\i<=n/\(leaves.length:Int)<=n-i)):=aa mOm;exact lF
 by_cases q4:n<i
 .have HN:Hid (¬(0<=n/\n<=1099511627776/\0<=i/\i<=n/\(leaves.length:Int)<=n-i)):=aa mOm;exact lF
 obtain⟨m,rfl⟩:∃m:Nat,n=m:=⟨n.toNat,mOm⟩
 obtain⟨k,rfl⟩:∃k:Nat,i=k:=⟨i.toNat,mOm⟩;have a1:IntKind.i64.wrap ((m:Int)-(k:Int))=(m:Int)-(k:Int):=aH _ mOm;by_cases q5:(m:Int)-(k:Int)<(leaves.length:Int)
 .have HN:Hid (¬(0<=(m:Int)/\(m:Int)<=1099511627776/\0<=(k:Int)/\(k:Int)<=(m:Int)/\(leaves.length:Int)<=(m:Int)-(k:Int))):=aa mOm;exact lF
 clear i1 i2
 have a2:IntKind.i64.wrap ((k:Int)+(leaves.length:Int))=((k+leaves.length:Nat):Int):=fY _ _ mOm mOm;have hb0:ac w.heap.size w (w.alloc (Of #[Oc Oh 0 0,Oc Oh 0 0] 264)):=aj w _;have hF0:fu w.heap.size (Oc Oh 0 0) (Oc Oh 0 0) [] (w.alloc (Of #[Oc Oh 0 0,Oc Oh 0 0] 264)):=
  ⟨heap_alloc_new w _,dX _ _ _ _,dX _ _ _ _,aP _,fun x hx=>(by cases hx)⟩
 have hl0:=jR k k 0 mOm
 have hl1:=jR m (m-(k+leaves.length)) (k+leaves.length) mOm;have hw0:=wg (cV 0 k) proof;have k1:=A9 w.heap.size 0 k (.slice none 0 0) (.slice none 0 0) [] proof p2 c2 w (w.alloc (.cells #[.slice none 0 0,.slice none 0 0] 264)) mOm mOm hF0 (by simp only[cJ];omega) HP.out (az _) hb0;rw[show((0:Nat):Int)=0 from rfl] at k1;clear hF0;go_wp2_with fail;refine k1.mono ?_;clear k1;rintro _ w1⟨v,t,rfl,(⟨rfl,g1,g2,g3⟩|⟨rfl,g1,g2⟩)⟩
 rotate_left 1
 .have hb1:ac w.heap.size w w1:=hb0.trans (g2.below (fun q hq e=>by rcases e with e|e|e;omega;cases e;cases e) mSi);have HN:Hid (¬lj root m k leaves proof):=aa (fun hv=>g1 (verify_ok.2 ⟨hv.2.1,by simpa using hv.2.2.1⟩).1);clear g1 g2;go_wp2_with fail;go_ret;exact⟨false,rfl,⟨fun e=>(by cases e),fun hv=>absurd hv HN.out⟩,hb1⟩
 obtain⟨R,hR⟩:∃R,List.drop (cV 0 k).length proof=R:=⟨_,rfl⟩
 rw[hR] at g2;obtain⟨pr,cr,rfl,_⟩:=g2.form;have HR:=aa hR;clear hR;obtain⟨⟨b1,d1,F1,e1,e2⟩,g4⟩:=g3;have hb1:ac w.heap.size w w1:=hb0.trans (g4.below (fun q hq e=>by rcases e with e|e|e;omega;cases e;cases e) mSi);have lo1:∀q,gU w.heap.size b1 d1 q->w.heap.size<=q:=fun q hq=>(ta F1 hq).1
 obtain⟨L1,hL1⟩:∃L1,(eO bw ([]:List Blk).reverse (dF (cV 0 k) proof)).reverse=L1:=⟨_,rfl⟩;have hlen1:L1.length<=k:=by rw[<-hL1,fF];have:=nN bw (dF (cV 0 k) proof) ([]:List Blk).reverse;rw[fF] at this;simp only[cJ] at this;omega
 rw[hL1] at F1
 have k2:=Gt w.heap.size k b1 d1 L1 leaves p1 c1 w w1 F1 mOm mOm HL.out HZ.out (az _) hb1;have G1:=aa g1;have G2:=aa g2;clear g1 g2 g4 e1 e2 F1;go_wp2_with fail;refine k2.mono ?_;clear k2;rintro _ w2⟨⟨ve,rfl⟩,⟨⟨b2,d2,F2,-,-⟩,g5⟩⟩;have hb2:ac w.heap.size w w2:=hb1.trans (g5.below (fun q hq e=>by have:=lo1 q e;omega) hb1.size);obtain⟨L2,hL2⟩:∃L2,(eO bw L1.reverse (ie k leaves)).reverse=L2:=⟨_,rfl⟩;have hlen2:L2.length<=k+leaves.length:=by
  rw[<-hL2,fF];have:=nN bw (ie k leaves) L1.reverse;have hll:(ie k leaves).length=leaves.length:=by unfold ie;rw[List.length_mapIdx]
  rw[fF] at this;omega
 rw[hL2] at F2
 have lo2:∀q,gU w.heap.size b2 d2 q->w.heap.size<=q:=fun q hq=>(ta F2 hq).1
 have k3:=A9 w.heap.size (k+leaves.length) m b2 d2 L2 R pr cr w w2 mOm mOm F2 mOm G2.out (az _) hb2;rw[show((k+leaves.length:Nat):Int)=(k:Int)+(leaves.length:Int) from by push_cast;rfl] at k3;have hwl:=wg (cV (k+leaves.length) m) R;clear F2 g5;go_wp2_with fail;refine k3.mono ?_;clear k3
 have hdec:∀(a b:Nat),a=(cV 0 k).length->b=(cV (k+leaves.length) m).length->(lj root m k leaves proof↔(okK proof a/\okK R b/\R.drop b=[])/\root=Am m k leaves proof):=fun a b ha hb=>by
  subst ha;subst hb;have hv:=verify_ok (pr:=proof) (a:=(cV 0 k).length) (b:=(cV (k+leaves.length) m).length);rw[HR.out] at hv;unfold lj;rw[hv,cI,cI];exact⟨fun h=>⟨⟨h.2.1,h.2.2.1⟩,h.2.2.2⟩,fun h=>⟨⟨mOm,mOm,mOm,mOm,mOm⟩,h.1.1,h.1.2,h.2⟩⟩
 have HD:=aa (hdec _ _ rfl rfl)
 clear hdec;rintro _ w3⟨v3,t3,rfl,(⟨rfl,g6,g7,⟨⟨b3,d3,F3,-,-⟩,g8⟩⟩|⟨rfl,g6,g7⟩)⟩
 rotate_left 1
 .have hb3:ac w.heap.size w w3:=hb2.trans (g7.below (fun q hq e=>by have:=lo2 q e;omega) hb2.size);have HN:Hid (¬lj root m k leaves proof):=aa (fun hv=>g6 (HD.out.1 hv).1.2.1);clear g6 g7;go_wp2_with fail;go_ret;exact⟨false,rfl,⟨fun e=>(by cases e),fun hv=>absurd hv HN.out⟩,hb3⟩
 obtain⟨R2,hR2⟩:∃R2,List.drop (cV (k+leaves.length) m).length R=R2:=⟨_,rfl⟩
 rw[hR2] at g7;obtain⟨p3,c3,rfl,_⟩:=g7.form;have hb3:ac w.heap.size w w3:=hb2.trans (g8.below (fun q hq e=>by have:=lo2 q e;omega) hb2.size);have HR2:=aa hR2;have H6:=aa g6;have HF3:=aa F3;clear hR2 g6 g7 g8 F3
 cases R2 with
 | cons x R3 =>
  have HN:Hid (¬lj root m k leaves proof):=aa (fun hv=>by have:=(HD.out.1 hv).1.2.2;rw[HR2.out] at this;cases this);have hne:(((x::R3).length:Nat):Int)≠0:=by simp;omega
  have t1:((((x::R3).length:Nat):Int)==0)=false:=by rw[beq_eq_false_iff_ne];exact hne
  generalize (x::R3).length=len at *;go_wp2_with fail;go_ret;exact⟨false,rfl,⟨fun e=>(by cases e),fun hv=>absurd hv HN.out⟩,hb3⟩
 | nil =>
  have hled:oH m (sS (eO bw L2.reverse (dF (cV (k+leaves.length) m) R)).reverse)=Am m k leaves proof:=by unfold Am Fb eO;rw[fO,fO,HR.out,<-hL2,<-hL1];unfold eO;rw[eS,eS];rfl
  have hvs:lj root m k leaves proof↔root=Am m k leaves proof:=by
   rw[HD.out];exact⟨fun h=>h.2,fun h=>⟨⟨G1.out,H6.out,HR2.out⟩,h⟩⟩
  have HV:=aa hvs
  have HL3:=aa hled;clear hvs hled;have kr:=Kz w.heap.size m b3 d3 _ w3 HF3.out mOm;generalize oH m (sS (eO bw L2.reverse (dF (cV (k+leaves.length) m) R)).reverse)=rr at kr HL3;go_wp2_with fail;refine kr.mono ?_;clear kr;rintro _ w4⟨rfl,hb4⟩;have hb5:=ah hb3 hb4;clear hb3 hb4;by_cases heq:rr=root
  .subst heq;go_wp2_with fail;go_ret;exact⟨true,rfl,⟨fun _=>HV.out.2 HL3.out,fun _=>rfl⟩,hb5⟩
  .have HE:=aa heq;have te:(rr.toList==root.toList)=false:=by rw[beq_eq_false_iff_ne];exact fun h=>heq (ba_toList.1 h)
   go_wp2_with fail;go_ret;exact⟨false,rfl,⟨fun e=>(by cases e),fun hv=>absurd ((HV.out.1 hv).trans HL3.out.symm).symm HE.out⟩,hb5⟩
end
section
def iS(x:Blk):List Value:=[N9 Oa x.b,N9 Oa x.s,Ob x.d]
theorem GF:RowT prog iS 3 278 247 where
 len _:=rfl
 one x u hu:=by simp[iS] at hu;rcases hu with rfl|rfl|rfl <;> rfl
 pos:=mDe
 und:=underlying247
 info:=by
  obtain⟨i0,hi,h1,h2,h3⟩:=info_parts (show(prog.info? 278).map (fun i=>(i.zero,i.size,i.bytes))=Og (Og (.agg #[N9 Oa 0,N9 Oa 0,Ob ⟨#[]⟩]),3,32) by kernel_rfl);exact⟨i0,_,hi,h1,h2,rfl,mOm⟩
def gS(l:List (Nat×Nat)):List Blk:=l.map fun x=>⟨x.1,x.2,⟨#[]⟩⟩
theorem uo(i j:Nat)(hij:i<=j)(hj:j<=1000000)(w:World) :
  Calls prog 227 #[N9 Oa i,N9 Oa j] w fun e w'=>∃v,e=Oe v/\w'.ownsRow w.heap.size 278 3 v (gS (cV i j)).length (aN iS (gS (cV i j)))/\ac w.heap.size w w':=by
 have HEND:=aa (xW j j i mOm hij);have HAT:=aa (fun k=>wj j k i);have hlen:=jR j (j-i) i (az _);generalize hL:cV i j=L at *;clear hL;go_enter func227,ntmps227;go_wp2_with fail
 go_loopg [0,5] L.length (fun r x v wr=>∃k,k+r=L.length/\x=N9 Oa (kz i j k)/\(∃p c,v=Oc p k c)/\wr.ownsRow w.heap.size 278 3 v k (aN iS (gS (L.take k)))/\ac w.heap.size w wr)
 case atStart=>exact⟨0,bP _,rfl,⟨_,_,rfl⟩,dX _ _ _ _,Below.refl _ _⟩
 case round =>
  obtain⟨k,hk,rfl,⟨pv,cv,rfl⟩,hown,hb⟩:=hrel;by_cases hlt:k<L.length
  .obtain⟨hp,hget⟩:=HAT.out k hlt;have hbn:kz i j (k+1)=kz i j k+iM (kz i j k) j:=rfl;have HBN:=aa hbn;clear hbn;generalize kz i j k=p at *;have hp':(p:Int)<(j:Int):=mOm;have hb0:=mh hp;have HG:=aa (show jw p j 64 (2^0)=iM p j from rfl);have HZ0:=aa hget;clear hget;generalize iM p j=z at *;have HOWN:=aa hown;clear hown;go_wp2_with fail
   go_loopg [6] 64 (fun f x w2=>∃s t:Nat,x=N9 Oa s/\t+f=64/\Hid (s=2^t/\jw p j f s=z)/\(p+s<=j/\1<=s)/\w2=wr)
   case atStart=>exact⟨1,0,rfl,rfl,aa ⟨rfl,HG.out⟩,mOm,rfl⟩
   case round =>
    obtain⟨s,t,rfl,htf,HS,⟨hs1,hs2⟩,rfl⟩:=hrel;have a1:IntKind.i64.wrap (2*(s:Int))=2*(s:Int):=aH _ mOm;have a3:IntKind.i64.wrap ((p:Int)+2*(s:Int))=(p:Int)+2*(s:Int):=aH _ mOm;have a5:IntKind.i64.wrap ((p:Int)+(s:Int))=((p+s:Nat):Int):=fY _ _ rfl mOm
    have HN:Hid (∀f,gk=f+1->p%(2*s)=0->p+2*s<=j->2*s=2^(t+1)/\jw p j f (2*s)=z):=aa (fun f hf e1 e2=>⟨by rw[HS.out.1,Nat.pow_succ];omega,by
     have h:=HS.out.2;rw[hf,jw,if_pos ⟨e1,e2⟩] at h;exact h⟩)
    have em:(p:Int)%(2*(s:Int))=((p%(2*s):Nat):Int):=by push_cast;rfl
    have HEM:=aa em;clear em;by_cases e1:p%(2*s)=0/\p+2*s<=j
    .obtain⟨e1,e2⟩:=e1;have t1:((p:Int)%(2*(s:Int))==0)=true:=by rw[beq_iff_eq,HEM.out,e1];rfl
     have t2:(p:Int)+2*(s:Int)<=(j:Int):=mOm;clear hs1 hb0;obtain⟨f',rfl⟩:∃f',gk=f'+1:=by
      cases gk with
      | zero =>
       exfalso;obtain rfl:t=64:=mOm;have:=HS.out.1;omega
      | succ f'=>exact⟨f',rfl⟩
     have HN2:=aa (HN.out f' rfl e1 e2)
     clear e1;go_wp2_with fail
     go_roundg f'
     case measure=>omega
     case rel=>exact⟨2*s,t+1,by push_cast;rfl,mOm,HN2,mOm,rfl⟩
    .have HZ:s=z:=by
      have h:=HS.out.2
      cases gk with
      | zero=>exact h
      | succ f'=>rw[jw,if_neg e1] at h;exact h
     have hor:((p:Int)%(2*(s:Int))==0)=false\/((p:Int)%(2*(s:Int))==0)=true/\¬(p:Int)+2*(s:Int)<=(j:Int):=by
      by_cases e0:p%(2*s)=0
      .exact .inr ⟨by rw[beq_iff_eq,HEM.out,e0];rfl,mOm⟩
      .exact .inl (by rw[beq_eq_false_iff_ne,HEM.out];omega)
     subst HZ
     have hbl:=aj wr (Of #[N9 Oa p,N9 Oa s,Ob ⟨#[]⟩] 278);have hown2:(wr.alloc (Of #[N9 Oa p,N9 Oa s,Ob ⟨#[]⟩] 278)).ownsRow w.heap.size 278 3 (Oc pv k cv) (gS (L.take k)).length (aN iS (gS (L.take k))):=by have:=HOWN.out.alloc (Of #[N9 Oa p,N9 Oa s,Ob ⟨#[]⟩] 278);rw[show(gS (L.take k)).length=k by unfold gS;rw[aU,aI];omega];exact this
     have hlit:ar iS (wr.alloc (Of #[N9 Oa p,N9 Oa s,Ob ⟨#[]⟩] 278)) (Oc (Og ⟨wr.heap.size,0,Oh⟩) 1 1) [(⟨p,s,⟨#[]⟩⟩:Blk)]:=cN (heap_alloc_new wr _) _ rfl rfl
     have hll:(gS (L.take k)).length<=1000000-1:=by unfold gS;rw[aU,aI];omega
     have hsz:w.heap.size<=(wr.alloc (Of #[N9 Oa p,N9 Oa s,Ob ⟨#[]⟩] 278)).heap.size:=Nat.le_trans hb.size hbl.size;have HTK:Hid (gS (L.take (k+1))=gS (L.take k)++[⟨p,s,⟨#[]⟩⟩]):=aa (by unfold gS;rw[aR,HZ0.out,List.map_append];rfl);have HB:=aa (ah hb hbl);clear e1 HS HN HEM htf hbl hb
     have hrec:∀(v9:Value)(w9:World),AppT iS 3 278 (wr.alloc (Of #[N9 Oa p,N9 Oa s,Ob ⟨#[]⟩] 278)) w.heap.size (Oc pv k cv) (gS (L.take k)) [⟨p,s,⟨#[]⟩⟩] v9 w9->
       (∃p c,v9=Oc p (k+1) c)/\w9.ownsRow w.heap.size 278 3 v9 (k+1) (aN iS (gS (L.take (k+1))))/\ac w.heap.size w w9:=fun v9 w9 hA=>by
      have ho:=hA.own;rw[<-HTK.out,show(gS (L.take (k+1))).length=k+1 by unfold gS;rw[aU,aI];omega] at ho;exact⟨fZ ho,ho,HB.out.grown hA.grown HB.out.size (fun q e=>(hown2.lt q e).1)⟩
     have HREC:=aa hrec
     clear hrec;rcases hor with t1|⟨t1,t2⟩
     all_goals
      go_wp2_with (at_builtin;refine bl GF rfl (.tmp 25) (.tmp 29) rfl w.heap.size _ _ (gS (L.take k)) [(⟨p,s,⟨#[]⟩⟩:Blk)] rfl rfl hown2 hlit (by simp only[aB];omega) hsz ?_;intro v9 w9 hA9;obtain⟨⟨p9,c9,rfl⟩,ho9,hb9⟩:=HREC.out v9 w9 hA9;have HO9:=aa ho9;clear ho9 hA9)
      go_roundg (L.length-(k+1))
      case measure=>omega
      case rel=>exact⟨k+1,mOm,by rw[HBN.out];push_cast;rfl,⟨_,_,rfl⟩,HO9.out,hb9⟩
  .obtain rfl:k=L.length:=mOm;rw[HEND.out];have hl2:(gS L).length=L.length:=by unfold gS;rw[aU]
   rw[aT] at hown;have HO:=aa hown;clear hown;go_wp2_with fail;go_ret;exact⟨_,rfl,by rw[hl2];exact HO.out,hb⟩
end
section
theorem fT{α:Type}{enc:α->List Value}{k:Nat}{P:Program}{e t:TypeId}(R:RowT P enc k e t){ops:Array Oper}{Q:Exit->Act->World->Prop}{S:World->Prop}{i:Nat}{σ:List (Nat×Bool)}{a:Act}{w:World}(oi:Oper)(hi:ops[i]? = Og oi)(hw:Region.wanted oi (yielded ops a.tmps)=true)
  (s x:Operand) (ho:oi.op=.call { callee:=.builtin .append,args:=#[s,x],argTypes:=#[t,t] })
  (base:Nat) (v xv:Value) (X Y:List α) (hs:a.eval s=v) (hxv:a.eval x=xv) (hown:w.ownsRow base e k v X.length (aN enc X)) (hx:ar enc w xv Y) (hl:X.length+Y.length<=1000000) (hb:base<=w.heap.size)
  (h:∀v' w',AppT enc k e w base v X Y v' w'->S w'/\aQ P ops Q S σ (a.put oi.dst v') w'):aQ P ops Q S ((i,false)::σ) a w:=
 ll oi hi hw (by
  obtain⟨v',w',hr,hA⟩:=oy R w base oi.type v xv X Y hown hx hl hb;unfold Oper.wp execOp;simp only[ho,resolve,invoke,builtin,Sem.run_bind,Sem.run_pure,Result.andThen_ok,List.map_toArray,fP,List.map_nil,hs,hxv,hr]
  exact h v' w' hA)
theorem uj:∀(l:List (Nat×Nat))(d:List ByteArray)(k:Nat),dF (l.take k) d=(dF l d).take k
 | [],d,k=>by unfold dF;simp
 | x::l,[],k=>by unfold dF;simp
 | x::l,y::d,0=>by unfold dF;simp
 | x::l,y::d,k+1=>by
  have:=uj l d k;unfold dF at this |-;simp only[List.take_succ_cons,List.zip_cons_cons,fP,this]
theorem dh{α:Type}{enc:α->List Value}{kk:Nat}{w:World}{v:Value}{L:List α}{p:Option Addr}{n c:Nat}(h:ar enc w v L)(hk:∀x,(enc x).length=kk)(hv:v=Oc p n c)(hl:0<L.length):∃b o,p=Og ⟨b,o,Oh⟩/\b<w.heap.size/\∀k x,L[k]? = Og x->w.rangeAt b (o+k*kk) (enc x):=by
 obtain⟨p',c',e,h1,h2,h3⟩:=h;rw[hv] at e;injection e with e1 e2 e3;subst e1;obtain⟨b,o,rfl,hb,hx⟩:=h3 hl;refine⟨b,o,rfl,hb,fun k x hx2 j u hj=>?_⟩;have:=hx (k*kk+j) u (jp hk hx2 hj);rw[<-Nat.add_assoc] at this;exact this
theorem K7(l:List (Nat×Nat))(d:List ByteArray)(v1:Value)(p2:Option Addr)(n2 c2:Nat)(w:World)(h1:ar iS w v1 (gS l))(h2:ar bV w (Oc p2 n2 c2) d)(hl:l.length<=d.length)(hn:l.length<=1000000-1) :
  Calls prog 226 #[v1,Oc p2 n2 c2] w fun e w'=>∃v,e=Oe v/\w'.ownsRow w.heap.size 278 3 v (dF l d).length (aN iS (dF l d))/\ac w.heap.size w w':=by
 have hbl0:(gS l).length=l.length:=by unfold gS;rw[aU]
 obtain⟨p1,c1,rfl,_⟩:=h1.form;rw[hbl0] at h1;have H1:=aa h1;have H2:=aa h2;have hn2:n2=d.length:=by obtain⟨_,_,e,_⟩:=h2.form;injection e
 have hwl:∀k,k<=l.length->(dF (l.take k) d).length=k:=fun k hk=>by unfold dF;rw[aU,List.length_zip,aI];omega
 rw[hbl0];clear h1 h2;go_enter func226,ntmps226;go_wp2_with fail
 go_loopw [5,6] (fun v i wr=>∃k:Nat,k<=l.length/\i=N9 Oa k/\(∃p c,v=Oc p k c)/\wr.ownsRow w.heap.size 278 3 v k (aN iS (dF (l.take k) d))/\ac w.heap.size w wr) (fun _ i _=>l.length-(aw i).toNat)
 case atStart=>exact⟨0,aP _,rfl,⟨_,_,rfl⟩,dX _ _ _ _,Below.refl _ _⟩
 case round =>
  obtain⟨k,hk,rfl,⟨pv,cv,rfl⟩,hown,hb⟩:=hrel;by_cases hlt:k<l.length
  .obtain⟨b1,o1,rfl,hb1,hr1⟩:=dh (kk:=3) H1.out (fun _=>rfl) rfl mOm;obtain⟨b2,o2,rfl,hb2,hr2⟩:=gb H2.out rfl mOm;have hg:=ai hlt;have hg2:=ai (show k<d.length by omega);have hge:(gS l)[k]? = Og ⟨l[k].1,l[k].2,⟨#[]⟩⟩:=by unfold gS;rw[List.getElem?_map,hg];rfl
   have q0:=(hb.cell (p:=⟨b1,o1+k*3+0,Oh⟩) hb1).trans (hr1 k _ hge 0 _ rfl);have q1:=(hb.cell (p:=⟨b1,o1+k*3+1,Oh⟩) hb1).trans (hr1 k _ hge 1 _ rfl);have qd:=(hb.cell (p:=⟨b2,o2+k,Oh⟩) hb2).trans (hr2 k _ hg2)
   have HTK:Hid (dF (l.take (k+1)) d=dF (l.take k) d++[⟨l[k].1,l[k].2,d[k]⟩]):=aa (by
    rw[uj,uj];exact DB hg hg2)
   generalize l[k]=z at *
   generalize d[k]=s at *;have i1:(k:Int)<(l.length:Int):=mOm;have i2:(k:Int)<(d.length:Int):=mOm;have i3:(0:Int)<=(k:Int):=mOm;subst hn2;have HOWN:=aa hown;have hB:=hb.size;have keepS:∀{u v:World},(ac w.heap.size w u/\u.cell? ⟨b1,o1+k*3,Oh⟩=Og (N9 Oa z.1)/\u.cell? ⟨b1,o1+k*3+1,Oh⟩=Og (N9 Oa z.2)/\u.cell? ⟨b2,o2+k,Oh⟩=Og (Ob s))->ac u.heap.size u v->(ac w.heap.size w v/\v.cell? ⟨b1,o1+k*3,Oh⟩=Og (N9 Oa z.1)/\v.cell? ⟨b1,o1+k*3+1,Oh⟩=Og (N9 Oa z.2)/\v.cell? ⟨b2,o2+k,Oh⟩=Og (Ob s)):=fun h hb=>⟨ah h.1 hb,(hb.cell (p:=⟨b1,o1+k*3,Oh⟩) (al _ _ h.2.1)).trans h.2.1,(hb.cell (p:=⟨b1,o1+k*3+1,Oh⟩) (al _ _ h.2.2.1)).trans h.2.2.1,(hb.cell (p:=⟨b2,o2+k,Oh⟩) (al _ _ h.2.2.2)).trans h.2.2.2⟩
   have hS0:ac w.heap.size w wr.drew/\wr.drew.cell? ⟨b1,o1+k*3,Oh⟩=Og (N9 Oa z.1)/\wr.drew.cell? ⟨b1,o1+k*3+1,Oh⟩=Og (N9 Oa z.2)/\wr.drew.cell? ⟨b2,o2+k,Oh⟩=Og (Ob s):=keepS ⟨hb,q0,q1,qd⟩ (Below.refl _ wr).drew;clear hown hr1 hr2 hg hg2 hge q0 q1 qd
   go_upto_region 5 with fail
   refine aD (S:=fun w'=>ac w.heap.size w w'/\w'.cell? ⟨b1,o1+k*3,Oh⟩=Og (N9 Oa z.1)/\w'.cell? ⟨b1,o1+k*3+1,Oh⟩=Og (N9 Oa z.2)/\w'.cell? ⟨b2,o2+k,Oh⟩=Og (Ob s)) [(0,true),(1,true),(2,true),(3,true),(4,true),(5,true),(6,true),(7,true),(8,true),(9,true),(10,true),(11,true),(12,true),(13,true),(14,true),(15,true),(16,false),(17,false),(18,true)] hS0 ?_;have hS:=hS0
   iterate 16 refine ak ?_
   refine lQ ⟨_,_,_,_,_,_⟩ (Oc (Og ⟨wr.heap.size,0,Oh⟩) 1 1) (wr.drew.alloc (Of #[N9 Oa z.1,N9 Oa z.2,Ob s] 278)) rfl mRf (by go_simp) (keepS hS (aj _ _)) ?_;replace hS:=keepS hS (aj wr.drew (Of #[N9 Oa z.1,N9 Oa z.2,Ob s] 278));refine ay ?_;refine fT GF ⟨_,_,_,_,_,_⟩ rfl mRf (.tmp 13) (.tmp 29) mRf w.heap.size _ _ (dF (l.take k) d) [(⟨z.1,z.2,s⟩:Blk)] mRf mRf (by rw[hwl k mOm];exact HOWN.out.drew.alloc _) (cN (heap_alloc_new wr.drew _) _ rfl rfl) (by rw[hwl k mOm];simp only[aB];omega) hS.1.size ?_;intro v9 w9 hA9;have hb9:ac w.heap.size w w9:=hS.1.grown hA9.grown hS.1.size (fun q e=>(HOWN.out.lt q e).1);have ho9:=hA9.own;rw[<-HTK.out,hwl (k+1) mOm] at ho9;obtain⟨p9,c9,rfl⟩:=fZ ho9;replace hS:ac w.heap.size w w9/\w9.cell? ⟨b1,o1+k*3,Oh⟩=Og (N9 Oa z.1)/\w9.cell? ⟨b1,o1+k*3+1,Oh⟩=Og (N9 Oa z.2)/\w9.cell? ⟨b2,o2+k,Oh⟩=Og (Ob s):=⟨hb9,(hb9.cell (p:=⟨b1,o1+k*3,Oh⟩) hb1).trans ((hS.1.cell (p:=⟨b1,o1+k*3,Oh⟩) hb1).symm.trans hS.2.1),(hb9.cell (p:=⟨b1,o1+k*3+1,Oh⟩) hb1).trans ((hS.1.cell (p:=⟨b1,o1+k*3+1,Oh⟩) hb1).symm.trans hS.2.2.1),(hb9.cell (p:=⟨b2,o2+k,Oh⟩) hb2).trans ((hS.1.cell (p:=⟨b2,o2+k,Oh⟩) hb2).symm.trans hS.2.2.2)⟩;refine⟨hS,?_⟩;refine ay ?_;refine ak ?_;simp only[aQ,aZ];have HO9:=aa ho9;have HB9:=aa hb9;clear hS hS0 keepS ho9 hb9 hA9;go_wp2_with fail
   go_roundw
   case rel=>exact⟨k+1,mOm,by go_num,⟨_,_,rfl⟩,HO9.out,HB9.out⟩
   case measure=>simp[aw];omega
  .obtain rfl:k=l.length:=mOm;rw[aT] at hown;have hw2:=hwl l.length (az _);rw[aT] at hw2;have HO:=aa hown;clear hown;go_wp2_with fail;go_ret;exact⟨_,rfl,by rw[hw2];exact HO.out,hb⟩
end
section
def lM(before s:ByteArray):ByteArray:=dgB (dR [⟨#[1]⟩,⟨(be8 before.size).toArray⟩,before,s])
theorem vK(p:ByteArray)(l:List ByteArray)(hp:p.size<=1000000000)(h:p.data.toList=dR l)(w:World) :
  Calls prog 186 #[Ob p] w fun e w'=>e=Oe (Ob (dgB (dR l)))/\ac w.heap.size w w':=by
 have:=rm p hp w;rw[h] at this;exact this
theorem yj(a b:ByteArray)(ha:a.size<=100000000)(hb:b.size<=100000000)(w:World) :
  Calls prog 257 #[Ob a,Ob b] w fun e w'=>e=Oe (Ob (bw a b))/\ac w.heap.size w w':=by
 have l1:¬9223372036854775807<1+a.size:=mOm;have l2:¬9223372036854775807<1+a.size+b.size:=mOm;have hD:((⟨#[4]⟩:ByteArray)++a++b).data.toList=dR [⟨#[4]⟩,a,b]:=by simp[dR]
 have hS:((⟨#[4]⟩:ByteArray)++a++b).size<=1000000000:=by have h1:=bF a;have h2:=bF b;rw[bF,iv,iv];simp only[ap,bB,cJ];omega
 have co:=vK _ _ hS hD w
 clear hD hS;go_enter func257,ntmps257;go_wp2_with fail;refine co.mono ?_;rintro _ w1⟨rfl,hb1⟩;go_wp2_with fail;go_ret;exact⟨rfl,hb1⟩
theorem Eg(a:ByteArray)(ha:a.size<=100000000)(w:World) :
  Calls prog 276 #[Ob a] w fun e w'=>e=Oe (Ob (rh a))/\ac w.heap.size w w':=by
 have l1:¬9223372036854775807<1+a.size:=mOm;have hD:((⟨#[3]⟩:ByteArray)++a).data.toList=dR [⟨#[3]⟩,a]:=by simp[dR]
 have hS:((⟨#[3]⟩:ByteArray)++a).size<=1000000000:=by have h1:=bF a;rw[bF,iv];simp only[ap,bB,cJ];omega
 have co:=vK _ _ hS hD w
 clear hD hS;go_enter func276,ntmps276;go_wp2_with fail;refine co.mono ?_;rintro _ w1⟨rfl,hb1⟩;go_wp2_with fail;go_ret;exact⟨rfl,hb1⟩
theorem rA{p:Prop} (h:p:=by
 go_wp2_with fail;refine cn.mono ?_;rintro _ w1⟨rfl,hb1⟩;go_wp2_with fail;refine(co _).mono ?_;rintro _ w2⟨rfl,hb2⟩;go_wp2_with fail;go_ret
 exact⟨rfl,ah hb1 hb2⟩):p:=h
theorem Ej(n:Nat)(t:ByteArray)(hn:n<=1099511627776)(ht:t.size<=100000000)(w:World) :
  Calls prog 224 #[N9 Oa n,Ob t] w fun e w'=>e=Oe (Ob (oH n t))/\ac w.heap.size w w':=by
 have cn:=oT n mOm w;have hl8:(⟨(be8 n).toArray⟩:ByteArray).size=8:=rfl;have hJ:Hid (dgB (dR [⟨#[6]⟩,⟨(be8 n).toArray⟩,t])=oH n t):=aa rfl;generalize (⟨(be8 n).toArray⟩:ByteArray)=B at cn hl8 hJ;have l1:¬9223372036854775807<1+B.size:=mOm;have l2:¬9223372036854775807<1+B.size+t.size:=mOm;have hD:((⟨#[6]⟩:ByteArray)++B++t).data.toList=dR [⟨#[6]⟩,B,t]:=by simp[dR]
 have hS:((⟨#[6]⟩:ByteArray)++B++t).size<=1000000000:=by have h1:=bF B;have h2:=bF t;rw[bF,iv,iv];simp only[ap,bB,cJ];omega
 have co:=fun w=>vK _ _ hS hD w
 rw[hJ.out] at co;clear hD hS hl8;go_enter func224,ntmps224;exact rA
theorem C9(a t:ByteArray)(ha:a.size<=100000000)(ht:t.size<=100000000)(w:World) :
  Calls prog 132 #[Ob a,Ob t] w fun e w'=>e=Oe (Ob (lM a t))/\ac w.heap.size w w':=by
 have cn:=oT a.size mOm w;have hl8:(⟨(be8 a.size).toArray⟩:ByteArray).size=8:=rfl;have hJ:Hid (dgB (dR [⟨#[1]⟩,⟨(be8 a.size).toArray⟩,a,t])=lM a t):=aa rfl;generalize (⟨(be8 a.size).toArray⟩:ByteArray)=B at cn hl8 hJ;have l1:¬9223372036854775807<1+B.size:=mOm;have l2:¬9223372036854775807<1+B.size+a.size:=mOm;have l3:¬9223372036854775807<1+B.size+a.size+t.size:=mOm;have hD:((⟨#[1]⟩:ByteArray)++B++a++t).data.toList=dR [⟨#[1]⟩,B,a,t]:=by simp[dR]
 have hS:((⟨#[1]⟩:ByteArray)++B++a++t).size<=1000000000:=by have h1:=bF B;have h2:=bF t;have h3:=bF a;rw[bF,iv,iv,iv];simp only[ap,bB,cJ];omega
 have co:=fun w=>vK _ _ hS hD w
 rw[hJ.out] at co;clear hD hS hl8;go_enter func132,ntmps132;exact rA
theorem Hf(a t:ByteArray)(ha:a.size<=100000000)(ht:t.size<=100000000)(w:World) :
  Calls prog 209 #[Ob a,Ob t] w fun e w'=>e=Oe (Ob (lM a t))/\ac w.heap.size w w':=by
 have cn:=kR a.size mOm w;have hl8:(⟨(be8 a.size).toArray⟩:ByteArray).size=8:=rfl;have hJ:Hid (dgB (dR [⟨#[1]⟩,⟨(be8 a.size).toArray⟩,a,t])=lM a t):=aa rfl;generalize (⟨(be8 a.size).toArray⟩:ByteArray)=B at cn hl8 hJ;go_enter func209,ntmps209;go_wp2_with fail;refine cn.mono ?_;rintro _ w1⟨rfl,hb1⟩;go_wp2_with fail
 refine(th w1.heap.size 4 [⟨#[1]⟩,B,a,t] 4 rfl mOm _ (qc (heap_alloc_new w1 _) _ rfl (by
  intro z hz;simp only[List.mem_cons,List.not_mem_nil,or_false] at hz;rcases hz with rfl|rfl|rfl|rfl
  .decide
  .omega
  .exact ha
  .exact ht))).mono ?_
 rintro _ w2⟨rfl,hb2⟩
 go_wp2_with fail;go_ret;exact⟨cU hJ.out,ah hb1 ((aj w1 _).trans (hb2.mono mSi))⟩
end
section
def OwnR(w0 w:World)(v:Value)(n:Nat)(M:List Blk):Prop:=(∃p c,v=Oc p n c)/\M.length=n/\w.ownsRow w0.heap.size 278 3 v n (aN iS M)/\ac w0.heap.size w0 w/\(∀x∈M,Blk.fit x)
theorem OwnR.next{w0 w w':World}{v:Value}{n:Nat}{M:List Blk}(h:OwnR w0 w v n M)(hb:ac w.heap.size w w'):OwnR w0 w' v n M:=
 ⟨h.1,h.2.1,bK h.2.2.1 (aF.of (S:=fun _=>False) hb) (fun _ _ e=>e),ah h.2.2.2.1 hb,h.2.2.2.2⟩
theorem OwnR.at_{w0 w:World}{p:Option Addr}{n c:Nat}{M:List Blk}(h:OwnR w0 w (Oc p n c) n M)(hn:0<n):∃g,p=Og ⟨g,0,Oh⟩/\w0.heap.size<=g/\g<w.heap.size/\n<=c/\∀k x,M[k]? = Og x->w.cell? ⟨g,k*3,Oh⟩=Og (N9 Oa x.b)/\w.cell? ⟨g,k*3+1,Oh⟩=Og (N9 Oa x.s)/\w.cell? ⟨g,k*3+2,Oh⟩=Og (Ob x.d):=by
 obtain⟨-,hl,ho,-,-⟩:=h;obtain⟨-,(⟨-,h0⟩|⟨g,c',cur,hv,hg,hgh,hc,-⟩)⟩:=id ho
 .omega
 .injection hv with e1 _ e3;subst e1;subst e3;refine⟨g,rfl,hg,aG hgh,hc,fun k x hx=>?_⟩;have hh:=fun j u (hj:(iS x)[j]? = Og u)=>ho.cells (g:=g) rfl (k*3+j) u (jp (enc:=iS) (k:=3) (fun _=>rfl) hx hj)
  have h0:=hh 0 _ rfl;have h1:=hh 1 _ rfl;have h2:=hh 2 _ rfl;rw[add_plain,bP] at h0 h1 h2;exact⟨h0,h1,h2⟩
theorem OwnR.app{w0 w w':World}{v v':Value}{n:Nat}{M:List Blk}{z:Blk}(h:OwnR w0 w v n M)(hA:AppT iS 3 278 w w0.heap.size v M [z] v' w')(hz:Blk.fit z):OwnR w0 w' v' (n+1) (M++[z]):=by
 have hl:(M++[z]).length=n+1:=by rw[ap,h.2.1];rfl
 have ho:=hA.own;rw[hl] at ho;refine⟨fZ ho,hl,ho,h.2.2.2.1.grown hA.grown h.2.2.2.1.size (fun q e=>(h.2.2.1.lt q e).1),fun x hx=>?_⟩;rcases bI.1 hx with hx|hx
 .exact h.2.2.2.2 x hx
 .obtain rfl:x=z:=by simpa using hx
  exact hz
theorem OwnR.cut{w0 w:World}{p:Option Addr}{n c m:Nat}{M:List Blk}(h:OwnR w0 w (Oc p n c) n M)(hm:m<=n):OwnR w0 w (Oc p m c) m (M.take m):=by
 have:=tU h.2.2.1 hm;rw[iV (k:=3) (fun _=>rfl)] at this;exact⟨⟨_,_,rfl⟩,by rw[aI,h.2.1];omega,this,h.2.2.2.1,fun x hx=>h.2.2.2.2 x (cu hx)⟩
def BoxS(base b:Nat)(ab sa:Nat)(ad xd:ByteArray)(w0 u:World):Prop:=ac base w0 u/\u.cell? ⟨b,0,Oh⟩=Og (N9 Oa ab)/\u.cell? ⟨b,1,Oh⟩=Og (N9 Oa sa)/\u.cell? ⟨b,2,Oh⟩=Og (Ob ad)/\u.cell? ⟨b+1,2,Oh⟩=Og (Ob xd)
theorem BoxS.next{b ab sa:Nat}{ad xd:ByteArray}{w0 u v:World}(h:BoxS w0.heap.size b ab sa ad xd w0 u)(hb:ac u.heap.size u v):BoxS w0.heap.size b ab sa ad xd w0 v:=
 ⟨ah h.1 hb,(hb.cell (p:=⟨b,0,Oh⟩) (al _ _ h.2.1)).trans h.2.1,(hb.cell (p:=⟨b,1,Oh⟩) (al _ _ h.2.2.1)).trans h.2.2.1,(hb.cell (p:=⟨b,2,Oh⟩) (al _ _ h.2.2.2.1)).trans h.2.2.2.1,(hb.cell (p:=⟨b+1,2,Oh⟩) (al _ _ h.2.2.2.2)).trans h.2.2.2.2⟩
theorem BoxS.app{b ab sa:Nat}{ad xd:ByteArray}{w0 u v:World}{o:Option Nat}(h:BoxS w0.heap.size b ab sa ad xd w0 u)(hb:ac w0.heap.size w0 v)(hg:u.grownBy v o)(ho:∀q,o=Og q->q<b):BoxS w0.heap.size b ab sa ad xd w0 v:=by
 obtain⟨h1,h2,h3,h4,h5⟩:=h
 have k:∀c j u1,u.cell? ⟨c,j,Oh⟩=Og u1->b<=c->v.cell? ⟨c,j,Oh⟩=Og u1:=fun c j u1 e hc =>
  (World.cell?_of_block (a:=⟨c,j,Oh⟩) (hg.block c (al _ _ e) (fun e2=>by have:=ho c e2.symm;omega))).trans e
 exact⟨hb,k _ _ _ h2 (az _),k _ _ _ h3 (az _),k _ _ _ h4 (az _),k _ _ _ h5 (Nat.le_succ _)⟩
theorem Ll{w:World}{ab sa xb sx:Nat}{ad xd:ByteArray}{t u:TypeId}:((w.alloc (Of #[N9 Oa ab,N9 Oa sa,Ob ad] t)).alloc (Of #[N9 Oa xb,N9 Oa sx,Ob xd] u)).cell? ⟨w.heap.size,0,Oh⟩=Og (N9 Oa ab)/\((w.alloc (Of #[N9 Oa ab,N9 Oa sa,Ob ad] t)).alloc (Of #[N9 Oa xb,N9 Oa sx,Ob xd] u)).cell? ⟨w.heap.size,1,Oh⟩=Og (N9 Oa sa)/\((w.alloc (Of #[N9 Oa ab,N9 Oa sa,Ob ad] t)).alloc (Of #[N9 Oa xb,N9 Oa sx,Ob xd] u)).cell? ⟨w.heap.size,2,Oh⟩=Og (Ob ad)/\((w.alloc (Of #[N9 Oa ab,N9 Oa sa,Ob ad] t)).alloc (Of #[N9 Oa xb,N9 Oa sx,Ob xd] u)).cell? ⟨w.heap.size+1,2,Oh⟩=Og (Ob xd):=by have h1:=heap_alloc_new w (Of #[N9 Oa ab,N9 Oa sa,Ob ad] t);have h2:=(aj (w.alloc (Of #[N9 Oa ab,N9 Oa sa,Ob ad] t)) (Of #[N9 Oa xb,N9 Oa sx,Ob xd] u)).heap_of h1;have h3:=heap_alloc_new (w.alloc (Of #[N9 Oa ab,N9 Oa sa,Ob ad] t)) (Of #[N9 Oa xb,N9 Oa sx,Ob xd] u);rw[show(w.alloc (Of #[N9 Oa ab,N9 Oa sa,Ob ad] t)).heap.size=w.heap.size+1 from Array.size_push _] at h3;exact⟨ae h2 0,ae h2 1,ae h2 2,ae h3 2⟩
theorem rV{p:Prop} (h:p:=by
 go_wp2_with fail
 go_roundw
 case rel=>exact⟨k+1,N,_,mOm,by go_num,by have:=HNK.out;have:=HNM.out;omega,HR,by
  rw[bZ];exact(HO.out.next (aj _ _)).next (aj _ _)⟩
 case measure=>simp[aw];omega):p:=h
theorem Mk(l:List Blk)(v:Value)(w:World)(hl:ar iS w v l)(hn:l.length<=100000)(hfit:∀x∈l,Blk.fit x/\x.b+x.s<=1099511627776)(hrow:∀k z,l.take (k+1)=l.take k++[z]->pH (kD bw [] (l.take k)) z.b) :
  Calls prog 225 #[v] w fun e w'=>e=Oe (Ob (jx bw iw (kD bw [] l)))/\ac w.heap.size w w':=by
 obtain⟨p,c,rfl,_⟩:=hl.form;have HL:=aa hl;have HFIT:=aa hfit;have HROW:=aa hrow;obtain⟨Z,hZ⟩:∃Z,Z=jx bw iw (kD bw [] l):=⟨_,rfl⟩;have HZT:=aa hZ;rw[<-hZ];clear hl hfit hrow hZ;go_enter func225,ntmps225;go_wp2_with fail
 go_loopw [3,4] (fun v i wr=>∃(k N:Nat) (M:List Blk),k<=l.length/\i=N9 Oa k/\N<=k/\Hid (M=(kD bw [] (l.take k)).reverse)/\OwnR w wr v N M) (fun _ i _=>l.length-(aw i).toNat)
 case atStart=>exact⟨0,0,[],aP _,rfl,az _,aa rfl,⟨⟨_,_,rfl⟩,rfl,dX _ _ _ _,Below.refl _ _,fun x hx=>(by cases hx)⟩⟩
 case round =>
  obtain⟨k,N,M,hk,rfl,hNk,HM,hO⟩:=hrel;obtain⟨⟨pv,cv,rfl⟩,-,-,-,-⟩:=id hO;by_cases hlt:k<l.length
  .obtain⟨b1,o1,rfl,hb1,hr1⟩:=dh (kk:=3) HL.out (fun _=>rfl) rfl mOm;have hg:=ai hlt;have hb:=hO.2.2.2.1;have q0:=(hb.cell (p:=⟨b1,o1+k*3+0,Oh⟩) hb1).trans (hr1 k _ hg 0 _ rfl);have q1:=(hb.cell (p:=⟨b1,o1+k*3+1,Oh⟩) hb1).trans (hr1 k _ hg 1 _ rfl);have q2:=(hb.cell (p:=⟨b1,o1+k*3+2,Oh⟩) hb1).trans (hr1 k _ hg 2 _ rfl);have hz:=HFIT.out _ (List.getElem_mem hlt);have HTK:=aa (show l.take (k+1)=l.take k++[l[k]] by rw[aR,hg];rfl);generalize l[k]=z at *;have i1:(k:Int)<(l.length:Int):=mOm;rw[Nat.add_zero] at q0;have hO1:=hO.next (aj wr (Of #[N9 Oa z.b,N9 Oa z.s,Ob z.d] 278));have hlit:ar iS (wr.alloc (Of #[N9 Oa z.b,N9 Oa z.s,Ob z.d] 278)) (Oc (Og ⟨wr.heap.size,0,Oh⟩) 1 1) [z]:=cN (heap_alloc_new wr _) _ rfl rfl;have hown2:=hO1.2.2.1;have hMl:=hO.2.1;rw[<-hMl] at hown2;have hsz:=hO1.2.2.2.1.size;have HO1:=aa hO1;have HZ:=aa hz;clear hr1 hg hO hO1 hz hb;subst hMl;go_wp2_with (at_builtin;refine bl GF rfl (.tmp 15) (.tmp 20) rfl w.heap.size _ _ M [z] rfl rfl hown2 hlit (by simp only[aB];omega) hsz ?_;intro v9 w9 hA9;have hO9:=HO1.out.app hA9 HZ.out.1;obtain⟨⟨p9,c9,rfl⟩,-,-,-,-⟩:=id hO9;have HO9:=aa hO9;clear hO9 hA9);clear HO1 q0 q1 q2 hlit hown2 hsz;have HZF:pH M.reverse z.b:=by rw[HM.out,eS];exact HROW.out k z HTK.out
   have HN9:=aa (show M.length+1<=100000 by omega);obtain⟨n9,hn9⟩:∃n9,n9=M.length+1:=⟨_,rfl⟩;rw[<-hn9] at HO9 |-
   have HEX:Hid (∀(X:List Blk)(x:Blk),nM bw X.reverse x=x::X.reverse->nM bw X.reverse x=nM bw M.reverse z->X++[x]=(kD bw [] (l.take (k+1))).reverse):=aa (fun X x h1 h2=>by
    have h3:kD bw [] (l.take (k+1))=nM bw (kD bw [] (l.take k)) z:=by rw[HTK.out];unfold kD;rw[fO];rfl
    rw[HM.out,eS,<-h3,h1] at h2
    rw[<-h2,List.reverse_cons,eS])
   clear HTK HM
   have HNK:=aa hNk;clear hNk
   go_loopg [3] M.length (fun r v w2=>∃(X:List Blk) (x:Blk) (N:Nat),X.length=r/\N=X.length+1/\(∃p c,v=Oc p N c)/\N<=M.length+1/\Hid (pH X.reverse x.b/\x.b+x.s<=1099511627776/\nM bw X.reverse x=nM bw M.reverse z)/\OwnR w w2 v N (X++[x]))
   case atStart=>exact⟨M,z,n9,rfl,hn9,⟨_,_,rfl⟩,mOm,aa ⟨HZF,HZ.out.2,rfl⟩,HO9.out⟩
   case round =>
    clear HO9 hn9 hlt HZ;obtain⟨X,x,N,hXr,hN,⟨p2,c2,rfl⟩,hNm,HX,hOX⟩:=hrel;rcases List.eq_nil_or_concat X with rfl|⟨X',a,rfl⟩
    .obtain rfl:N=1:=hN;have HR:=aa (HEX.out [] x rfl HX.out.2.2);have HOX:=aa hOX;clear hOX;go_wp2_with fail
     go_roundw
     case rel=>exact⟨k+1,1,[x],mOm,by go_num,mOm,HR,HOX.out⟩
     case measure=>simp[aw];omega
    .simp only[List.concat_eq_append] at *;obtain⟨m,hm⟩:∃m,m=X'.length:=⟨_,rfl⟩;obtain⟨q,hq⟩:∃q,q=X'.length+1:=⟨_,rfl⟩;have hNq:N=q+1:=by rw[hN,ap,hq];rfl
     have hNmm:N=m+2:=mOm;have hXa:(X'++[a])++[x]=X'++[a,x]:=by rw[bZ];rfl
     have ga:(X'++[a,x])[m]? = Og a:=by rw[hm,bS (az _),Nat.sub_self];rfl
     have gx:(X'++[a,x])[q]? = Og x:=by rw[hq,bS mOm,show X'.length+1-X'.length=1 by omega];rfl
     rw[hXa] at hOX;obtain⟨g,rfl,hg0,hg1,hgc,hcc⟩:=hOX.at_ mOm;obtain⟨a0,a1,a2⟩:=hcc m a ga;obtain⟨x0,x1,x2⟩:=hcc q x gx;have i2:(m:Int)<(N:Int):=mOm;have i3:(q:Int)<(N:Int):=mOm;have i4:(0:Int)<=(m:Int):=mOm;have i5:(0:Int)<=(q:Int):=mOm;have w1:IntKind.i64.wrap ((N:Int)-2)=(m:Int):=by rw[show(N:Int)-2=(m:Int) by omega];exact aH _ (by have:=HN9.out;omega)
     have w2:IntKind.i64.wrap ((N:Int)-1)=(q:Int):=by rw[show(N:Int)-1=(q:Int) by omega];exact aH _ (by have:=HN9.out;omega)
     have t0:(1:Int)<(N:Int):=mOm;have HAX:=aa (And.intro hXr (And.intro hN (And.intro hm hq)));have HNM:=aa (And.intro hNmm (And.intro hq hNm));have HA:=aa ga;have HGX:=aa gx;have HO:=aa hOX;clear hXr hN hm hq hNq ga gx hXa hcc hOX hNmm hNm;have HFA:=aa (HO.out.2.2.2.2 a mSi);have HFX:=aa (HO.out.2.2.2.2 x mSi);have HBLO:=aa HO.out.2.2.2.1;obtain⟨ab,sa,ad⟩:=a;obtain⟨xb,xs,xd⟩:=x;dsimp only at a0 a1 a2 x0 x1 x2;by_cases hs:sa=xs
     .subst hs;have hs40:sa<=1099511627776:=HFA.out.2.2.1;have hs0:0<sa:=HFA.out.2.1;have tw:IntKind.i64.wrap (2*(sa:Int))=2*(sa:Int):=aH _ mOm;have tw':IntKind.i64.wrap ((sa:Int)*2)=2*(sa:Int):=by rw[Int.mul_comm];exact tw
      have tz:¬(2*(sa:Int))=0:=mOm;have em:(ab:Int)%(2*(sa:Int))=((ab%(2*sa):Nat):Int):=by push_cast;rfl
      have HEM:=aa em;clear em hs40 hs0;by_cases hd:ab%(2*sa)=0
      .have t1:((ab:Int)%(2*(sa:Int)) != 0)=false:=by rw[bne_eq_false_iff_eq,HEM.out,hd];rfl
       have HD:=aa hd;clear hd
       go_upto_region 10 with fail
       have hb4:ac wr.heap.size wr ((wr.alloc (Of #[N9 Oa ab,N9 Oa sa,Ob ad] 278)).alloc (Of #[N9 Oa xb,N9 Oa sa,Ob xd] 278)):=ah (aj _ _) (aj _ _);have k4:=Ll (w:=wr) (ab:=ab) (sa:=sa) (ad:=ad) (xb:=xb) (sx:=sa) (xd:=xd) (t:=278) (u:=278);generalize ((wr.alloc (Of #[N9 Oa ab,N9 Oa sa,Ob ad] 278)).alloc (Of #[N9 Oa xb,N9 Oa sa,Ob xd] 278))=w4 at hb4 k4 |-
       have HOc:Hid (OwnR w w4 (Oc (Og ⟨g,0,Oh⟩) m c2) m X'):=aa (by
        have:=(HO.out.next hb4).cut (m:=m) mOm
        rwa [show(X'++[(⟨ab,sa,ad⟩:Blk),⟨xb,sa,xd⟩]).take m=X' by rw[HAX.out.2.2.1,List.take_left'];rfl] at this)
       have keepS:∀{u v:World},BoxS w.heap.size wr.heap.size ab sa ad xd w u->ac u.heap.size u v->BoxS w.heap.size wr.heap.size ab sa ad xd w v:=fun h hb=>h.next hb
       have hS0:BoxS w.heap.size wr.heap.size ab sa ad xd w w4.drew:=keepS (u:=w4) ⟨ah HBLO.out hb4,k4⟩ (Below.refl _ w4).drew;have hd1:ad.size<=100000000:=by have:ad.size=8:=HFA.out.2.2.2;omega
       have hd2:xd.size<=100000000:=by have:xd.size=8:=HFX.out.2.2.2;omega
       have im:(m:Int)<=(c2:Int):=mOm
       have hNF:Hid (Blk.fit ⟨ab,2*sa,bw ad xd⟩):=aa (by
        have h1:=HFA.out;have h2:=HX.out;have h3:ab+sa=xb:=by have:=h2.1;rw[gI] at this;exact this.1
        exact⟨h1.1,by have:=h1.2.1;show 0<2*sa;dsimp only at this;omega,by have:=h2.2.1;dsimp only at this;show 2*sa<=_;omega,rfl⟩)
       have inm:(m:Int)<=(N:Int):=mOm
       clear a0 a1 a2 x0 x1 x2 hb4 k4;refine aD (S:=fun u=>ac w.heap.size w u/\u.cell? ⟨wr.heap.size,0,Oh⟩=Og (N9 Oa ab)/\u.cell? ⟨wr.heap.size,1,Oh⟩=Og (N9 Oa sa)/\u.cell? ⟨wr.heap.size,2,Oh⟩=Og (Ob ad)/\u.cell? ⟨wr.heap.size+1,2,Oh⟩=Og (Ob xd)) [(0,true),(1,true),(2,true),(3,true),(4,true),(5,true),(6,true),(7,true),(8,true),(9,true),(10,true),(11,true),(12,true),(13,true),(14,false),(15,true),(16,false),(17,false),(18,true)] hS0 ?_;have hS:=hS0
       iterate 14 refine ak ?_
       refine aJ 257 call257 (yj ad xd hd1 hd2 _) ?_;rintro x wn⟨rfl,hb⟩;replace hS:=keepS hS hb;have HOn:=aa (HOc.out.next (ah (Below.refl _ w4).drew hb));refine⟨_,rfl,hS,?_⟩;(try clear hb);refine ay ?_;refine ak ?_;refine lQ ⟨_,_,_,_,_,_⟩ (Oc (Og ⟨wn.heap.size,0,Oh⟩) 1 1) (wn.alloc (Of #[N9 Oa ab,N9 Oa (2*sa),Ob (bw ad xd)] 278)) rfl mRf (by go_simp) (keepS hS (aj _ _)) ?_;replace hS:=keepS hS (aj wn (Of #[N9 Oa ab,N9 Oa (2*sa),Ob (bw ad xd)] 278));have hOm:=HOn.out.next (aj wn (Of #[N9 Oa ab,N9 Oa (2*sa),Ob (bw ad xd)] 278));refine ay ?_;refine fT GF ⟨_,_,_,_,_,_⟩ rfl mRf (.tmp 55) (.tmp 67) mRf w.heap.size _ _ X' [(⟨ab,2*sa,bw ad xd⟩:Blk)] mRf mRf (by have:=hOm.2.2.1;rw[HAX.out.2.2.1] at this |-;exact this) (cN (heap_alloc_new wn _) _ rfl (by push_cast;rfl)) (by simp only[aB];have:=HN9.out;have:=HNM.out;omega) hS.1.size ?_;intro v9 w9 hA9;have hO9:=hOm.app hA9 (hNF.out);obtain⟨⟨p9,c9,rfl⟩,-,-,-,-⟩:=id hO9;replace hS:=hS.app hO9.2.2.2.1 hA9.grown (by intro q e;injection e with e;subst e;exact hg1);refine⟨hS,?_⟩;refine ay ?_;refine ak ?_;simp only[aQ,aZ];have HO9:=aa hO9;clear hS hS0 keepS hO9 hA9 hOm;go_wp2_with fail
       go_roundg X'.length
       case measure=>have:=HAX.out.1;simp only[ap,aB] at this;omega
       case rel=>exact⟨X',⟨ab,2*sa,bw ad xd⟩,m+1,rfl,by rw[HAX.out.2.2.1],⟨_,_,rfl⟩,by have:=HNM.out;omega,aa (by
        have h2:=HX.out;rw[gI] at h2;obtain⟨⟨h3,h4⟩,h5,h6⟩:=h2;dsimp only at h3 h5;refine⟨h4,by dsimp only;omega,?_⟩;rw[<-h6]
        show _=(if sa=sa/\ab%(2*sa)=0 then _ else _)
        rw[if_pos ⟨rfl,HD.out⟩];rfl),HO9.out⟩
      .have t1:((ab:Int)%(2*(sa:Int)) != 0)=true:=by rw[bne_iff_ne,HEM.out];omega
       have HR:=aa (HEX.out _ _ (by
        rw[gI]
        show(if sa=sa/\ab%(2*sa)=0 then _ else _)=_
        rw[if_neg (fun e=>hd e.2)];rfl) HX.out.2.2)
       clear hd
       exact rV
     .have t1:¬(sa:Int)=(xs:Int):=mOm
      have HR:=aa (HEX.out _ _ (by
       rw[gI]
       show(if sa=xs/\ab%(2*sa)=0 then _ else _)=_
       rw[if_neg (fun e=>hs e.1)];rfl) HX.out.2.2)
      clear hs
      exact rV
  .obtain rfl:k=l.length:=mOm;have HZ:Hid (jx bw iw M.reverse=Z):=aa (by rw[HZT.out,HM.out,eS,aT]);have hML:=hO.2.1;clear HM HROW HFIT HZT;rcases List.eq_nil_or_concat M with rfl|⟨M',y,rfl⟩
   .obtain rfl:N=0:=hML.symm;have hb:=hO.2.2.2.1;obtain rfl:iw=Z:=HZ.out;have co:=fun w=>vK ⟨#[5]⟩ [⟨#[5]⟩] mDe rfl w
    have HCO:=aa co;clear co hO;go_wp2_with fail;refine(HCO.out _).mono ?_;rintro _ w2⟨rfl,hb2⟩;go_wp2_with fail;go_ret;exact⟨rfl,ah hb hb2⟩
   .simp only[List.concat_eq_append] at *;obtain⟨m,hm⟩:∃m,m=M'.length:=⟨_,rfl⟩;have hNm:N=m+1:=by rw[<-hML,ap,hm];rfl
    have gy:(M'++[y])[m]? = Og y:=by rw[hm,bS (az _),Nat.sub_self];rfl
    obtain⟨g,rfl,hg0,hg1,hgc,hcc⟩:=hO.at_ mOm;obtain⟨y0,y1,y2⟩:=hcc m y gy;have i2:(m:Int)<(N:Int):=mOm;have i4:(0:Int)<=(m:Int):=mOm;have w1:IntKind.i64.wrap ((N:Int)-2)=(m:Int)-1:=by rw[show(N:Int)-2=(m:Int)-1 by omega];exact aH _ mOm
    have w2:IntKind.i64.wrap ((N:Int)-1)=(m:Int):=by rw[show(N:Int)-1=(m:Int) by omega];exact aH _ mOm
    have t0:((N:Int)==0)=false:=by rw[beq_eq_false_iff_ne];omega
    have HNM:=aa (And.intro hNm (And.intro hm hNk));have HO:=aa hO;have hyd:y.d.size=8:=(HO.out.2.2.2.2 y mSi).2.2.2;have HYD:=aa hyd;clear hML hNm hm hNk gy hcc hO hyd;go_wp2_with fail
    go_loopg [7,8] m (fun r t i w2=>∃(d:ByteArray),t=Ob d/\Hid (d.size=8)/\i=N9 Oa ((r:Int)-1)/\r<=m/\Hid ((M'.take r).reverse.foldl (fun t x=>bw x.d t) d=Z)/\OwnR w w2 (Oc (Og ⟨g,0,Oh⟩) N cv) N (M'++[y]))
    case atStart=>exact⟨y.d,rfl,HYD,rfl,az _,aa (by
     rw[HNM.out.2.1,aT,<-HZ.out,gI];rfl),HO.out⟩
    case round =>
     obtain⟨d,rfl,HDS,rfl,hrm,HF,hOr⟩:=hrel;rcases gk with _|r
     .have HR:=aa hOr;have t1:¬(0:Int)<=((0:Nat):Int)-1:=mOm;obtain rfl:d=Z:=HF.out;clear hOr;go_wp2_with fail;go_ret;exact⟨rfl,HR.out.2.2.2.1⟩
     .obtain⟨x,hx⟩:∃x,M'[r]? = Og x:=⟨_,ai (by have:=HNM.out.2.1;omega)⟩;have gr:(M'++[y])[r]? = Og x:=by rw[List.getElem?_append_left (by have:=HNM.out.2.1;omega)];exact hx
      have hxd:x.d.size=8:=(hOr.2.2.2.2 x (List.mem_of_getElem? gr)).2.2.2;obtain⟨g',eg,-,-,-,hcc⟩:=hOr.at_ (by have:=HNM.out.1;omega);injection eg with eg;injection eg with eg _ _;subst eg;obtain⟨x0,x1,x2⟩:=hcc r x gr
      have HF2:Hid ((M'.take r).reverse.foldl (fun t x=>bw x.d t) (bw x.d d)=Z):=aa (by
       have:=HF.out;rw[aR,hx] at this
       simpa using this)
      have i5:(r:Int)<(N:Int):=by have:=HNM.out.1;omega
      have i6:(0:Int)<=(r:Int):=mOm;have co:=fun w=>yj x.d d mOm (by have:=HDS.out;omega) w
      have HCO:=aa co;have HOR:=aa hOr;have w6:IntKind.i64.wrap ((r:Int)-1)=(r:Int)-1:=aH _ (by have:=HNM.out;omega);rw[show(((r+1:Nat):Int)-1)=(r:Int) by omega];clear co hOr hx gr hxd hcc i2 i4 w1 w2 t0 HF;go_wp2_with fail;refine(HCO.out _).mono ?_;rintro _ w5⟨rfl,hb5⟩;go_wp2_with fail
      go_roundg r
      case measure=>omega
      case rel=>exact⟨_,rfl,aa rfl,by first|rfl|go_num,mOm,HF2,HOR.out.next hb5⟩
end
section
theorem Bl:∀{l m:List Blk}{p r:Nat},Row (l++m) p r->∃q,Row l p q/\Row m q r
 | [],_,p,_,h=>⟨p,rfl,h⟩
 | x::l,m,p,r,h=>by
  obtain⟨q,h1,h2⟩:=Bl (l:=l) h.2;exact⟨q,⟨h.1,h1⟩,h2⟩
theorem KF{l:List Blk}{n:Nat}(h:Row l 0 n):∀k z,l.take (k+1)=l.take k++[z]->pH (kD bw [] (l.take k)) z.b:=fun k z e=>by
 have h1:=h;rw[<-cP (k+1) l,e,bZ] at h1;obtain⟨q,h2,h3⟩:=Bl h1;rw[tW bw _ [] 0 q rfl h2,show z.b=q from h3.1];exact xF bw _ [] 0 q rfl h2
theorem zq(b:Nat)(l:List ByteArray):∀n,n<=l.length->Row (ie b (l.take n)) b (b+n)
 | 0,_=>rfl
 | n+1,h=>by
  rw[aR,ai (show n<l.length from h),Option.toList_some,sM];have hl:(l.take n).length=n:=by rw[aI];omega
  rw[hl];exact nQ (zq b l n mOm) ⟨rfl,rfl⟩
theorem Jf{l:List (Nat×Nat)}{d:List ByteArray}{x:Blk}(h:x∈dF l d):(x.b,x.s)∈l/\x.d∈d:=by unfold dF at h;obtain⟨y,hy,rfl⟩:=List.mem_map.1 h;exact⟨(List.of_mem_zip hy).1,(List.of_mem_zip hy).2⟩
theorem Je{i j:Nat}{d:List ByteArray}(hij:i<=j)(hj:j<=1000000)(hd:∀s∈d,s.size=8):∀x∈dF (cV i j) d,Blk.fit x/\x.b+x.s<=1099511627776:=fun x hx=>by
 obtain⟨h1,h2⟩:=Jf hx;obtain⟨k,hk⟩:=List.getElem?_of_mem h1;have h3:=zZ hij hk;dsimp only at h3;exact⟨⟨mOm,h3.2,mOm,hd _ h2⟩,mOm⟩
theorem zx:∀(l st:List Blk),(∀y∈st,Blk.fit y)->(∀x∈l,Blk.fit x/\x.b+x.s<=1099511627776)->∀y∈eO bw st l,Blk.fit y
 | [],_,h,_=>h
 | x::l,st,h,hl=>zx l (fU bw st x) (C6 bw (fun _ _=>rfl) st x h (hl x mSi).1 (hl x mSi).2) (fun y hy=>hl y (List.mem_cons_of_mem _ hy))
theorem AR:∀(st:List Blk)(d:ByteArray),d.size=8->(st.foldl (fun t x=>bw x.d t) d).size=8
 | [],_,h=>h
 | x::st,d,_=>AR st (bw x.d d) rfl
theorem K0{st:List Blk}(h:∀y∈st,Blk.fit y):(jx bw iw st).size=8:=by
 cases st with
 | nil=>rfl
 | cons a st=>exact AR st a.d (h a mSi).2.2.2
theorem vS{w:World}{p:Option Addr}{n c m:Nat}{L:List ByteArray}(h:ar bV w (Oc p n c) L)(hm:m<=n):((p=Oh\/c=m->ar bV w (Oc p (n-m) (c-m)) (L.drop m))/\(p=Oh\/c=m->ar bV w (Oc p (n-m) 0) (L.drop m)))/\(∀a,p=Og a->ar bV w (Oc (Og (a.add m)) (n-m) (c-m)) (L.drop m)):=by
 obtain⟨p',c',e,h1,h2,h3⟩:=id h;injection e with e1 e2 e3;subst e1 e2 e3;constructor
 .suffices H:(p=Oh\/c=m->ar bV w (Oc p (L.length-m) (c-m)) (L.drop m)) from⟨H,fun hc=>by
   have e:c-m=0:=by
    rcases hc with hc|hc
    .have:=h2 hc;omega
    .omega
   have:=H hc
   rwa [e] at this⟩
  intro hc
  have hl:L.length-m=0:=by
   rcases hc with hc|hc
   .have:=h2 hc;omega
   .omega
  refine⟨p,c-m,by rw[bD],by rw[bD];omega,fun e=>?_,fun hl2=>?_⟩
  .have:=h2 e;omega
  .rw[bD] at hl2;omega
 .rintro a rfl;by_cases hl:m<L.length
  .obtain⟨b,o,e,hb,_⟩:=h3 mOm;injection e with e;subst e;have:=h.drop (k:=1) (fun _=>rfl) (m:=m) mOm;rw[Nat.mul_one] at this;unfold Addr.add
   split
   .rename_i e;subst e;simpa using this
   .exact this
  .exact⟨_,_,by rw[bD],by rw[bD];omega,fun e=>(by cases e),fun hl2=>by rw[bD] at hl2;omega⟩
end
section
theorem EC:∀(x y:List UInt8),Op.bytesLess x y=decide (gY x y<0)
 | [],[]=>by simp[gY,Op.bytesLess]
 | [],_::_=>by simp[gY,Op.bytesLess]
 | _::_,[]=>by simp[gY,Op.bytesLess]
 | a::x,b::y=>by
  have ih:=EC x y;unfold gY Op.bytesLess;by_cases h:a<b
  .rw[if_pos h];simp[h]
  .rw[if_neg h];by_cases h2:b<a
   .have h3:a≠b:=by intro e;subst e;exact absurd h2 mSi
    rw[if_pos h2];simp[h,h3]
   .have h3:a=b:=by
     have h3:¬a.toNat<b.toNat:=h;have h4:¬b.toNat<a.toNat:=h2;exact UInt8.toNat_inj.1 mOm
    rw[if_neg h2,<-ih];simp[h3]
theorem kV(a b:ByteArray):Op.bytesLess a.toList b.toList=decide (cC a b<0):=by unfold cC;rw[EC,ByteArray.toList_eq,ByteArray.toList_eq]
theorem ur(l:List ByteArray)(p:Option Addr)(c:Nat)(w:World)(hl:ar bV w (Oc p l.length c) l)(hn:l.length<=1000000) :
  Calls prog 190 #[Oc p l.length c] w (mf (fq l) w):=by
 have HL:=aa hl;clear hl;go_enter func190,ntmps190;go_wp2_with fail
 go_loopw [3] (fun i wr=>∃k:Nat,k<=l.length+1/\i=N9 Oa ((k:Int)+1)/\Hid (∀i a b,i<k->l[i]? = Og a->l[i+1]? = Og b->cC a b<0)/\ac w.heap.size w wr) (fun i _=>l.length+2-(aw i).toNat)
 case atStart=>exact⟨0,aP _,rfl,aa (fun i a b h=>absurd h mOm),Below.refl _ _⟩
 case round =>
  obtain⟨k,hk,rfl,HI,hb⟩:=hrel;by_cases hlt:k+1<l.length
  .obtain⟨b,o,rfl,hbl,hcv⟩:=gb HL.out rfl mOm;have i1:(k:Int)+1<(l.length:Int):=mOm;have hg1:=ai hlt;have hg0:=ai (show k<l.length by omega);have c0:=(hb.cell (p:=⟨b,o+k,Oh⟩) hbl).trans (hcv k _ hg0);have c1:=(hb.cell (p:=⟨b,o+(k+1),Oh⟩) hbl).trans (hcv (k+1) _ hg1);have HG:=aa (And.intro hg0 hg1);generalize l[k]=x at *;generalize l[k+1]=y at *;have i2:(k:Int)<(l.length:Int):=mOm;have i3:(0:Int)<=(k:Int):=mOm;have i4:(0:Int)<=(k:Int)+1:=mOm;have a1:IntKind.i64.wrap ((k:Int)+1-1)=(k:Int):=by rw[show(k:Int)+1-1=(k:Int) by omega];exact fY _ _ rfl mOm
   have a2:IntKind.i64.wrap (k:Int)=(k:Int):=fY _ _ rfl mOm;have keepS:∀{u v:World},(ac w.heap.size w u/\u.cell? ⟨b,o+k,Oh⟩=Og (Ob x)/\u.cell? ⟨b,o+(k+1),Oh⟩=Og (Ob y))->ac u.heap.size u v->(ac w.heap.size w v/\v.cell? ⟨b,o+k,Oh⟩=Og (Ob x)/\v.cell? ⟨b,o+(k+1),Oh⟩=Og (Ob y)):=fun h hb=>⟨ah h.1 hb,(hb.cell (p:=⟨b,o+k,Oh⟩) (al _ _ h.2.1)).trans h.2.1,(hb.cell (p:=⟨b,o+(k+1),Oh⟩) (al _ _ h.2.2)).trans h.2.2⟩
   have hS0:ac w.heap.size w wr.drew/\wr.drew.cell? ⟨b,o+k,Oh⟩=Og (Ob x)/\wr.drew.cell? ⟨b,o+(k+1),Oh⟩=Og (Ob y):=keepS ⟨hb,c0,c1⟩ (Below.refl _ wr).drew;clear hcv hg0 hg1
   go_upto_region 4 with fail
   refine aD (S:=fun w'=>ac w.heap.size w w'/\w'.cell? ⟨b,o+k,Oh⟩=Og (Ob x)/\w'.cell? ⟨b,o+(k+1),Oh⟩=Og (Ob y)) [(0,true),(1,true),(2,true),(3,true),(4,true),(5,true),(6,true),(7,true),(8,true),(9,true)] hS0 ?_;have hS:=hS0
   iterate 10 refine ak ?_
   simp only[aQ,aZ];have hS1:=aa hS.1;clear hS hS0 hb keepS c0 c1;by_cases hc:cC x y<0
   .have t1:Op.bytesLess x.toList y.toList=true:=by rw[kV];exact decide_eq_true hc
    have HN:Hid (∀i a b,i<k+1->l[i]? = Og a->l[i+1]? = Og b->cC a b<0):=aa (fun i a b h ha hb=>by
     by_cases e:i=k
     .subst e;rw[HG.out.1] at ha;rw[HG.out.2] at hb;obtain rfl:=Option.some.inj ha;obtain rfl:=Option.some.inj hb;exact hc
     .exact HI.out i a b mOm ha hb)
    clear hc
    simp only[t1,Bool.not_true];go_wp2_with fail
    go_roundw
    case rel=>exact⟨k+1,mOm,by go_num,HN,hS1.out⟩
    case measure=>simp[aw];omega
   .have t1:Op.bytesLess x.toList y.toList=false:=by rw[kV];exact decide_eq_false hc
    have HN:Hid (¬fq l):=aa (fun h=>hc (h k x y HG.out.1 HG.out.2));clear hc;simp only[t1,Bool.not_false];go_wp2_with fail;go_ret;exact⟨false,rfl,⟨fun e=>(by cases e),fun h=>absurd h HN.out⟩,hS1.out⟩
  .have i1:¬(k:Int)+1<(l.length:Int):=mOm;have HK:=aa hlt;clear hlt;go_wp2_with fail;go_ret;exact⟨true,rfl,⟨fun _=>fun i a b ha hb=>HI.out i a b (by have:=(List.getElem?_eq_some_iff.1 hb).1;have:=HK.out;omega) ha hb,fun _=>rfl⟩,hb⟩
def eL(l:List ByteArray)(s:ByteArray):Nat:=(l.takeWhile fun x=>decide (cC x s<0)).length
theorem AQ{l:List ByteArray}{s:ByteArray}{k:Nat}(h:∀x∈l.take k,cC x s<0)(hk:∀x,l[k]? = Og x->¬cC x s<0)(hkl:k<=l.length):eL l s=k:=by
 unfold eL
 induction l generalizing k with
 | nil=>simp only[cJ] at hkl;simp;omega
 | cons a l ih =>
  cases k with
  | zero=>rw[List.takeWhile_cons,if_neg (by simpa using hk a rfl)];rfl
  | succ k =>
   rw[List.takeWhile_cons,if_pos (by simpa using h a mSi),bB,ih (k:=k) (fun x hx=>h x (by simp[hx])) (fun x hx=>hk x (by simpa using hx)) (by simpa using hkl)]
theorem vI(l:List ByteArray)(s:ByteArray)(p:Option Addr)(c:Nat)(w:World)(hl:ar bV w (Oc p l.length c) l)(hn:l.length<=1000000) :
  Calls prog 191 #[Oc p l.length c,Ob s] w fun e w'=>e=Oe (N9 Oa (eL l s))/\ac w.heap.size w w':=by
 have HL:=aa hl;clear hl;go_enter func191,ntmps191;go_wp2_with fail
 go_loopw [5] (fun i wr=>∃k:Nat,k<=l.length/\i=N9 Oa k/\Hid (∀x∈l.take k,cC x s<0)/\ac w.heap.size w wr) (fun i _=>l.length-(aw i).toNat)
 case atStart=>exact⟨0,aP _,rfl,aa (fun x hx=>by simp at hx),Below.refl _ _⟩
 case round =>
  obtain⟨k,hk,rfl,HI,hb⟩:=hrel;by_cases hlt:k<l.length
  .obtain⟨b,o,rfl,hbl,hcv⟩:=gb HL.out rfl mOm;have hg:=ai hlt;have c0:=(hb.cell (p:=⟨b,o+k,Oh⟩) hbl).trans (hcv k _ hg);have HG:=aa hg;generalize l[k]=x at *;have i1:(k:Int)<(l.length:Int):=mOm;clear hcv hg;by_cases hc:cC x s<0
   .have t1:Op.bytesLess x.toList s.toList=true:=by rw[kV];exact decide_eq_true hc
    have HN:Hid (∀x∈l.take (k+1),cC x s<0):=aa (fun z hz=>by
     rw[aR,HG.out,bI] at hz;rcases hz with hz|hz
     .exact HI.out z hz
     .obtain rfl:z=x:=by simpa using hz
      exact hc)
    clear hc
    go_wp2_with fail
    go_roundw
    case rel=>exact⟨k+1,mOm,by go_num,HN,hb⟩
    case measure=>simp[aw];omega
   .have t1:Op.bytesLess x.toList s.toList=false:=by rw[kV];exact decide_eq_false hc
    have HN:Hid (eL l s=k):=aa (AQ HI.out (fun z hz=>by rw[HG.out] at hz;obtain rfl:=Option.some.inj hz;exact hc) hk);clear hc;go_wp2_with fail;go_ret;exact⟨by rw[HN.out];rfl,hb⟩
  .obtain rfl:k=l.length:=mOm;have HN:Hid (eL l s=l.length):=aa (AQ HI.out (fun z hz=>by simp at hz) (az _));go_wp2_with fail;go_ret;exact⟨by rw[HN.out];rfl,hb⟩
