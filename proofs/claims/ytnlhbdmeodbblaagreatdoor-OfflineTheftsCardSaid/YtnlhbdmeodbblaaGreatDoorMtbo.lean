/- Lemmas. -/
import Derived.Test.YtnlhbdmeodbblaaGreatDoorMtbn
import Derived.Test.YtnlhbdmeodbblaaGreatDoorMtbg
import Derived.Test.YtnlhbdmeodbblaaGreatDoorMtax
set_option maxRecDepth 100000
set_option maxHeartbeats 16000000
set_option linter.all false
open Go.Proofs.Tryz
open Int renaming tdiv_eq_ediv_of_nonneg->ev
open Go.IntWalk renaming i64_in->aH
open Go.Lib renaming cell_of_heap->ae,hid->aa
open List renaming getElem?_eq_getElem->ai,length_singleton->aB,toArray->aK
open Nat renaming le_refl->az,lt_of_lt_of_le->ax,zero_le->aP
open Go.RowKit renaming Below->ac,intOf->aw
open Go.Ending renaming returned->Oe
open Go.IntKind renaming i64->Oa
open Go.Obj renaming cells->Of
open Go.Value renaming int->N9,string->Ob,slice->Oc,pointer->Od
open Option renaming some->Og,none->Oh
namespace Go.Proofs.YtnlhbdmeodbblaaGreatDoor
section
variable {s0 s1 s2 s3 s4 s5 s6 s7 s8 s9 e7 e8 a0 cD cG a4 a5 a6 a7 a8 a9 ab ad af ag ao b0 b1 b2 b3 b4 b5 b6 b7 b8 b9 ba bb bc bd be bf bh bk bm bp bq br bt bv c0 c1 c2 c3 c4 c5 c6 c7 c8 c9 ca cb cc cd ce cf ch cj ck cl cO cS cW cX d3 d4 d5 d6 d8 d9 dc co cp cr cs ct cx cy cz cA cB:Value}
open Go Go.Proofs Go.RowKit Go.Sort Go.Lib
attribute [local go_sem ↓] mq mr
attribute [local go_sem] aC.cells
theorem jW.chk{r:bH}{l:List Ent}{R:List aC}(h:jW r l R)(hn:R ≠ []):cK r R=0:=by
 unfold cK;rw[if_neg (fun h2=>h2 (h.ring hn)),if_neg (by have:=h.few;omega)];exact h.err
theorem rtT:RowT prog cY 7 65 35 where
 len _:=rfl
 one x u hu:=by
  simp only[cY,List.mem_cons,List.not_mem_nil,or_false] at hu;rcases hu with rfl|rfl|rfl|rfl|rfl|rfl|rfl <;> rfl
 pos:=mDe
 und:=underlying35
 info:=⟨_,_,rfl,rfl,rfl,mDe,mDe⟩
theorem Mr(rb g m cg n c s nv cv:Nat)(p pv:Option Addr)(sc id day er:Int)(Y:aC)(W:World)(Q:Exit->Act->World->Prop)(h0:W.cell? ⟨rb,0,Oh⟩=Og (N9 Oa sc))(h1:W.cell? ⟨rb,1,Oh⟩=Og (Oc (Og ⟨g,0,Oh⟩) m cg))(hrb:rb<W.heap.size)(hsn:s<=n)(hnc:n<=c)(hpn:p=Oh->c=0)(kmk:∀u,ac W.heap.size W u->Calls prog 73 #[.agg #[N9 Oa sc,Oc (Og ⟨g,0,Oh⟩) m cg],N9 Oa id,Oc pv nv cv,Oc p s c,N9 Oa day] u (fun e w'=>e=Oe (.tuple #[Y.val,N9 Oa er])/\ac u.heap.size u w'))
  (hQ:∀(dd dg dk dm ds dv dT e2 e4 e5 e6:Value)(wx:World)(bx:Nat),W.heap.size<=bx->wx.heap[bx]? = Og (Of Y.cells 65 (0,0))->ac W.heap.size W wx->Q .normal ⟨aK (s0::Oc p n c::s2::Od (Og ⟨rb,0,Oh⟩)::s4::s5::s6::Oc pv nv cv::N9 Oa (s:Int)::s9::N9 Oa day::N9 Oa id::a0::Od (Og ⟨bx,0,Oh⟩)::N9 Oa er::a4::a5::a6::a7::a8::a9::ab::ad::af::ag::ao::b0::b1::[b2,b3,b4,b5,b6,b7,b8,b9,ba,bb,bc,bd,be,bf,bh,bk,bm,bp,bq,br,bt,bv,c0,c1,c2,c3,c4,c5,c6,c7,c8,c9,ca,cb,cc,cd,ce,cf,ch,cj,ck,cl,dd,dg,dk,dm,ds,dv,dT,e2,e4,e5,e6,co,cp,cr,cs,ct,cx,cy,cz,cA,cB]),[]⟩ wx) :
  (db f34 13).wp prog Q ⟨aK (s0::Oc p n c::s2::Od (Og ⟨rb,0,Oh⟩)::s4::s5::s6::Oc pv nv cv::N9 Oa (s:Int)::s9::N9 Oa day::N9 Oa id::a0::cD::cG::a4::a5::a6::a7::a8::a9::ab::ad::af::ag::ao::b0::b1::[b2,b3,b4,b5,b6,b7,b8,b9,ba,bb,bc,bd,be,bf,bh,bk,bm,bp,bq,br,bt,bv,c0,c1,c2,c3,c4,c5,c6,c7,c8,c9,ca,cb,cc,cd,ce,cf,ch,cj,ck,cl,cO,cS,cW,cX,d3,d4,d5,d6,d8,d9,dc,co,cp,cr,cs,ct,cx,cy,cz,cA,cB]),[]⟩ W:=by
 refine mOn ?_;generalize Q .normal=K at hQ |-;have HQ:=aa hQ;clear hQ
 conv=>arg 2;whnf
 have KMK:=aa kmk
 have KS:∀u,ac W.heap.size W u->ac W.heap.size W u/\u.cell? ⟨rb,0,Oh⟩=Og (N9 Oa sc)/\u.cell? ⟨rb,1,Oh⟩=Og (Oc (Og ⟨g,0,Oh⟩) m cg):=fun u hu=>⟨hu,(hu.cell (p:=⟨rb,0,Oh⟩) hrb).trans h0,(hu.cell (p:=⟨rb,1,Oh⟩) hrb).trans h1⟩
 clear kmk h0 h1 hrb;have hS:ac W.heap.size W W.drew/\W.drew.cell? ⟨rb,0,Oh⟩=Og (N9 Oa sc)/\W.drew.cell? ⟨rb,1,Oh⟩=Og (Oc (Og ⟨g,0,Oh⟩) m cg):=KS _ (Below.refl _ _).drew;refine gJ (S:=fun u=>ac W.heap.size W u/\u.cell? ⟨rb,0,Oh⟩=Og (N9 Oa sc)/\u.cell? ⟨rb,1,Oh⟩=Og (Oc (Og ⟨g,0,Oh⟩) m cg)) (.take 0 (.take 1 (.take 2 (.take 3 (.take 4 (.take 5 (.take 6 (.two 7 11 (.take 8 (.take 9 (.take 10 (.one 11 (.one 12 (.take 13 .done)))))) (.one 7 (.take 8 (.take 9 (.take 10 (.one 12 (.take 13 .done)))))))))))))) hS ?_
 iterate 5 refine aW ?_
 refine I8 ⟨_,_,_,_,_,_⟩ rfl mRf 34 67 (.tmp 74) (.tmp 75) mRf underlying34 sizeOf67 p n c s mRf mRf hsn hnc hpn ?_;refine ay ?_;refine aW ?_;refine ft ?_ ?_
 .refine bY ⟨_,_,_,_,_,_⟩ rfl mRf 73 _ _ mRf _ mRf call73 (KMK.out _ hS.1) ?_;rintro x x1⟨rfl,hb⟩;replace hS:=KS _ (ah hS.1 hb);refine⟨_,rfl,hS,?_⟩
  (try clear hb)
  refine ay ?_
  iterate 3 refine aW ?_
  have hlo_bx:W.heap.size<=x1.heap.size:=hS.1.size;refine bW (bU ⟨_,_,_,_,_,_⟩ (Od (Og ⟨x1.heap.size,0,Oh⟩)) (x1.alloc (Of rootZ.cells 65)) rfl mRf (by go_simp;try rfl) ⟨KS _ (ah hS.1 (aj _ _)),?_⟩);have hb:=aj (x1) (Of rootZ.cells 65);replace hS:=KS _ (ah hS.1 hb);have hx_bx:=heap_alloc_new (x1) (Of rootZ.cells 65)
  (try clear hb)
  refine ay ?_;have hset:=KS _ (bu hS.1 hlo_bx Y.cells);refine bW (di ⟨_,_,_,_,_,_⟩ rfl mRf 65 _ _ mRf (x1.heap.size) Y.cells mRf mRf _ _ hx_bx mKr rfl (by simp[aC.cells,Value.oneCell']) ⟨hset,?_⟩);replace hS:=hset;clear hset;replace hx_bx:=setRow_heap (x1.alloc (Of rootZ.cells 65)) (x1.heap.size) _ Y.cells _ _ hx_bx
  (try simp only[Act.put])
  refine aW ?_;simp only[dB,aZ];exact HQ.out _ _ _ _ _ _ _ _ _ _ _ _ _ hlo_bx hx_bx hS.1
 .have hlo_bx:W.heap.size<=W.heap.size:=az _;refine bU ⟨_,_,_,_,_,_⟩ (Od (Og ⟨W.heap.size,0,Oh⟩)) (W.drew.alloc (Of rootZ.cells 65)) rfl mRf (by go_simp;try rfl) ⟨KS _ (ah hS.1 (aj _ _)),?_⟩;have hb:=aj (W.drew) (Of rootZ.cells 65);replace hS:=KS _ (ah hS.1 hb);have hx_bx:=heap_alloc_new (W.drew) (Of rootZ.cells 65);replace hx_bx:(W.drew.alloc (Of rootZ.cells 65)).heap[W.heap.size]? = Og _:=hx_bx
  (try clear hb)
  refine ay ?_;refine bW (bY ⟨_,_,_,_,_,_⟩ rfl mRf 73 _ _ mRf _ mRf call73 (KMK.out _ hS.1) ?_);rintro x x2⟨rfl,hb⟩;replace hS:=KS _ (ah hS.1 hb);replace hx_bx:=hb.heap_of hx_bx;refine⟨_,rfl,hS,?_⟩
  (try clear hb)
  refine ay ?_
  iterate 3 refine aW ?_
  have hset:=KS _ (bu hS.1 hlo_bx Y.cells);refine bW (di ⟨_,_,_,_,_,_⟩ rfl mRf 65 _ _ mRf (W.heap.size) Y.cells mRf mRf _ _ hx_bx mKr rfl (by simp[aC.cells,Value.oneCell']) ⟨hset,?_⟩);replace hS:=hset;clear hset;replace hx_bx:=setRow_heap x2 (W.heap.size) _ Y.cells _ _ hx_bx
  (try simp only[Act.put])
  refine aW ?_;simp only[dB,aZ];exact HQ.out _ _ _ _ _ _ _ _ _ _ _ _ _ hlo_bx hx_bx hS.1
theorem Hg{r:bH}{R:List aC}(h:dE r Oh R=0){j:Nat}{y:aC}(hy:R[j]? = Og y):0<=y.day/\y.day<=100000:=between_iff.1 (qi r Oh R h y (List.mem_of_getElem? hy)).2.1
theorem KZ{z:Int}(hz:I64 z):IntKind.i64.wrap (z.tdiv 7)=z.tdiv 7:=by
 have h1:=hz.1;have h2:=hz.2;clear hz;rcases Int.le_total 0 z with h|h
 .rw[ev h];exact aH _ mOm
 .obtain⟨y,rfl⟩:∃y,z = -y:=⟨-z,mOm⟩;rw[Int.neg_tdiv,ev mOm];exact aH _ mOm
theorem Hm{l:List bG}{d:Int}(h:∀k∈l,I64 k.id):I64 (kM l d):=by
 unfold kM
 cases hc:kN l d with
 | some x=>exact h _ (EE hc)
 | none=>exact⟨mDe,mDe⟩
theorem nV{p:Prop} (h:p:=by
 go_roundw
 case rel=>exact⟨k+1,s1,R,mOm,mOm,mOm,rfl,by go_num,hsl,HC,HO9.out⟩
 case measure=>simp[aw];omega):p:=h
theorem DF(g cg:Nat)(r:bH)(p:Option Addr)(c:Nat)(l:List Ent)(A:Option Addr)(n cn:Nat)(w:World)
  (hE:ar bL w (Oc p l.length c) l) (hEok:∀e∈l,e.Ok) (hll:l.length<=2000) (hdays:∀e∈l,0<=e.day/\e.day<=1000000) (hI:eU w.heap.size A n w) (hk:cR w g r.keys) (hg:g<w.heap.size) (hl:r.keys.length<=1000) (hsz:∀k∈r.keys,k.secret.size<=100000/\I64 k.id) (hs:I64 r.school) :
  Calls prog 34 #[.agg #[N9 Oa r.school,Oc (Og ⟨g,0,Oh⟩) r.keys.length cg],Oc p l.length c,Oc A n cn] w fun e w'=>∃v,e=Oe v/\∃R:List aC,jW r l R/\bz cY 7 65 w w' v R:=by
 have hcap:l.length<=c:=by obtain⟨p',c',e',h1,_⟩:=hE;injection e' with _ _ e3;omega
 have hpn:p=Oh->c=0:=by obtain⟨p',c',e',_,h1,_⟩:=hE;injection e' with e1 _ e3;rw[e1,e3];exact h1
 have HEL:=aa hE;have HEO:=aa hEok;have HDY:=aa hdays;have HIN:=aa hI;have HK:=aa hk;have HSZ:=aa hsz;have HPN:=aa hpn;have hb0:=aj w (Of #[N9 Oa r.school,Oc (Og ⟨g,0,Oh⟩) r.keys.length cg] 33);have hh:=heap_alloc_new w (Of #[N9 Oa r.school,Oc (Og ⟨g,0,Oh⟩) r.keys.length cg] 33);obtain⟨W,hW⟩:∃u,u=w.alloc (Of #[N9 Oa r.school,Oc (Og ⟨g,0,Oh⟩) r.keys.length cg] 33):=⟨_,rfl⟩;rw[<-hW] at hb0 hh;have hn18:=hI.1;clear hE hEok hdays hI hk hsz hpn;go_enter func34,ntmps34;go_wp2_with fail;rw[<-hW];clear hW
 go_loopw [7,8,9] (fun v s i wr=>∃(k s0:Nat) (R:List aC),k<=6/\k<=n/\R.length<=k/\s=N9 Oa s0/\i=N9 Oa k/\s0<=l.length/\Hid (jW r l R)/\bz cY 7 65 W wr v R) (fun _ _ i _=>6-(aw i).toNat)
 case atStart=>exact⟨0,0,[],mOm,aP _,aP _,rfl,rfl,aP _,aa (jW.nil r l),bz.nil _ _ _ _⟩
 case round =>
  obtain⟨k,s0,R,hk6,hkn,hRk,rfl,rfl,hs0,HC,hO⟩:=hrel;obtain⟨pv,cv,hv⟩:=hO.form;subst hv;have hfin:∀u,bz cY 7 65 W u (Oc pv R.length cv) R->bz cY 7 65 w u (Oc pv R.length cv) R:=fun u h=>h.from_ hb0
  have HFIN:=aa hfin;clear hfin;by_cases hlt:k<n
  rotate_left 1
  .have i1:¬(k:Int)<(n:Int):=mOm;have HO:=aa hO;clear hO;go_wp2_with fail;go_ret;exact⟨_,rfl,R,HC.out,HFIN.out _ HO.out⟩
  have i1:(k:Int)<(n:Int):=mOm
  by_cases hlt6:k<6
  rotate_left 1
  .have i2:¬(k:Int)<6:=mOm;have HO:=aa hO;clear hO;go_wp2_with fail;go_ret;exact⟨_,rfl,R,HC.out,HFIN.out _ HO.out⟩
  have i2:(k:Int)<6:=mOm
  have i3:(0:Int)<=(k:Int):=mOm;have hlow:=hO.low;have hbw:=ah hb0 hlow;obtain⟨ib,io,z,rfl,hib,hzc,hz⟩:=HIN.out.2 k hlt;have z0:wr.cell? ⟨ib,io+k,Oh⟩=Og (N9 Oa z):=(hbw.cell (p:=⟨ib,io+k,Oh⟩) hib).trans hzc;obtain⟨q,hq⟩:∃q:Nat,z%7=(q:Int):=⟨(z%7).toNat,mOm⟩;have hq7:q<7:=mOm;obtain⟨d0,hd0⟩:∃d:Nat,(z.tdiv 7)%20=(d:Int):=⟨((z.tdiv 7)%20).toNat,mOm⟩;have hd20:d0<20:=mOm;have hdv:=KZ hz;obtain⟨s1,hs1⟩:∃s:Nat,mn (l.length:Int) ((s0:Int)+(q:Int))=(s:Int)/\s<=l.length:=by
   unfold mn
   split
   .exact⟨s0+q,rfl,mOm⟩
   .exact⟨l.length,rfl,az _⟩
  have hsl:=hs1.2
  have hs1e:=hs1.1;have a1:IntKind.i64.wrap ((s0:Int)+(q:Int))=(s0:Int)+(q:Int):=aH _ mOm;have HO:=aa hO;have HLOW:=aa hlow;have HH:=aa (hlow.heap_of hh);have HBW:=aa hbw;clear hO hlow hbw hzc hs1 hh;go_wp2_with fail;refine(Ao z 7 _ mOm mOm).mono ?_;rintro _ _⟨rfl,rfl⟩;rw[hq];go_wp2_with fail;refine(Ao (z.tdiv 7) 20 _ mOm mOm).mono ?_;rintro _ _⟨rfl,rfl⟩;rw[hd0];clear hq hd0 hdv a1 z0 hs1e
  go_upto_if 42 with fail
  go_cut [10] (fun v wx=>∃d:Nat,v=N9 Oa (d:Int)/\d<=1000020/\wx=wr)
  case first =>
   by_cases hp0:0<s1
   rotate_left 1
   .have t1:decide ((0:Int)<(s1:Int))=false:=decide_eq_false mOm;go_wp2_with fail
    go_meet
    case rel=>exact⟨d0,rfl,mOm,rfl⟩
   .have t1:decide ((0:Int)<(s1:Int))=true:=decide_eq_true mOm;obtain⟨eg,eo,hpe,heg,hrow⟩:=dh (kk:=15) HEL.out eG rfl mOm;have hlt1:s1-1<l.length:=mOm;have hge:=ai hlt1;have hra:=hrow (s1-1) _ hge;have hdy:=HDY.out _ (List.getElem_mem hlt1);obtain⟨j,hj⟩:∃j,s1-1=j:=⟨_,rfl⟩;generalize l[s1-1]=x at *;rw[hj] at hra;have x4:wr.cell? ⟨eg,eo+j*15+4,Oh⟩=Og (N9 Oa x.day):=(HBW.out.cell (p:=⟨eg,eo+j*15+4,Oh⟩) heg).trans (hra 4 _ rfl);obtain⟨dx,hdx⟩:∃dx:Nat,x.day=(dx:Int):=⟨x.day.toNat,mOm⟩;rw[hdx] at x4;have a2:IntKind.i64.wrap ((s1:Int)-1)=(j:Int):=by rw[show(s1:Int)-1=(j:Int) by omega];exact fY _ _ rfl mOm
    have a3:IntKind.i64.wrap ((dx:Int)+(d0:Int))=((dx+d0:Nat):Int):=by rw[show(dx:Int)+(d0:Int)=((dx+d0:Nat):Int) by omega];exact fY _ _ rfl mOm
    have j1:(j:Int)<(l.length:Int):=mOm;have j2:(0:Int)<=(j:Int):=mOm;have hdq:dx+d0<=1000020:=mOm;subst hpe;clear hra hrow hge hdy hdx;go_wp2_with fail
    go_meet
    case rel=>exact⟨dx+d0,rfl,hdq,rfl⟩
  case rest =>
   obtain⟨d1,rfl,hd1,rfl⟩:=hcut
   go_upto_if 53 with fail
   go_cut [10] (fun v wx=>∃d:Nat,v=N9 Oa (d:Int)/\d<=9000000000000/\wx=wc)
   case first =>
    by_cases hR0:0<R.length
    rotate_left 1
    .have t1:decide ((0:Int)<(R.length:Int))=false:=decide_eq_false mOm;go_wp2_with fail
     go_meet
     case rel=>exact⟨d1,rfl,mOm,rfl⟩
    .have t1:decide ((0:Int)<(R.length:Int))=true:=decide_eq_true mOm;obtain⟨j,hj⟩:∃j,j+1=R.length:=⟨R.length-1,mOm⟩;have hlt1:j<R.length:=mOm;obtain⟨bg,bo,hpb,hbg,hrowb⟩:=dh (kk:=7) (HO.out.row dp mDe) dp rfl mOm;have hgb:=ai hlt1;have hatb:=hrowb j _ hgb;have hbd:=Hg HC.out.err hgb;generalize R[j]=y at *;have x2:wc.cell? ⟨bg,bo+j*7+2,Oh⟩=Og (N9 Oa y.day):=hatb 2 _ rfl;obtain⟨dy,hdy⟩:∃dy:Nat,y.day=(dy:Int):=⟨y.day.toNat,mOm⟩;rw[hdy] at x2;have a2:IntKind.i64.wrap ((R.length:Int)-1)=(j:Int):=by rw[show(R.length:Int)-1=(j:Int) by omega];exact fY _ _ rfl mOm
     have a3:IntKind.i64.wrap ((dy:Int)+1)=((dy+1:Nat):Int):=by rw[show(dy:Int)+1=((dy+1:Nat):Int) by omega];exact fY _ _ rfl mOm
     have j1:(j:Int)<(R.length:Int):=mOm;have j2:(0:Int)<=(j:Int):=mOm;obtain⟨d2,hd2,hd2l⟩:∃d:Nat,mx (d1:Int) ((dy:Int)+1)=(d:Int)/\d<=9000000000000:=by
      unfold mx
      split
      .exact⟨dy+1,rfl,mOm⟩
      .exact⟨d1,rfl,mOm⟩
     subst hpb
     clear hatb hrowb hgb hbd hdy;go_wp2_with fail
     go_meet
     case rel=>exact⟨d2,rfl,hd2l,rfl⟩
   case rest =>
    obtain⟨d2,rfl,hd2,rfl⟩:=hcut;have e0:=ae HH.out 0;have e1:=ae HH.out 1;have kc:=xw g cg r.school r.keys (d2:Int) wc hl (HK.out.below HBW.out hg) (ax hg HBW.out.size);have hlen:(l.take s1).length=s1:=by rw[List.length_take];omega
    have hrowR:=HO.out.row dp mDe;have hokR:=fun y hy=>(HC.out.each y hy).1
    have hidI:I64 (kM r.keys (d2:Int)):=Hm (fun k hk=>(HSZ.out k hk).2);have kmk:=fun u (hu:ac wc.heap.size wc u)=>zt g cg r (kM r.keys (d2:Int)) pv cv R p c (l.take s1) (d2:Int) u (hrowR.below hu) hokR mOm (by rw[hlen];exact((HEL.out.below (ah HBW.out hu)).take rfl hsl)) (fun e he=>HEO.out e (List.mem_of_mem_take he)) mOm (HK.out.below (ah HBW.out hu) hg) (ax hg (ah HBW.out hu).size) hl (fun k hk=>(HSZ.out k hk).1) hs hidI ⟨mOm,mOm⟩
    rw[hlen] at kmk;have KMK:=aa kmk;have HSN:Hid ((mkR r (kM r.keys (d2:Int)) R (l.take s1) (d2:Int)).2=0->jW r l (R++[(mkR r (kM r.keys (d2:Int)) R (l.take s1) (d2:Int)).1])):=aa (fun h=>HC.out.snoc mOm hsl mOm hs hidI h);clear hrowR hokR hidI kmk hlen;generalize (mkR r (kM r.keys (d2:Int)) R (l.take s1) (d2:Int)).1=Y at *;generalize (mkR r (kM r.keys (d2:Int)) R (l.take s1) (d2:Int)).2=er at *;generalize kM r.keys (d2:Int)=ci at *;generalize (kN r.keys (d2:Int)).isSome=bs at *;go_wp2_with fail;refine kc.mono ?_;clear kc e0 e1;rintro _ w5⟨rfl,hb5⟩;have h5:=hb5.heap_of HH.out;have HB5:=aa hb5
    go_upto_region 13 with fail
    refine Mr w.heap.size g r.keys.length cg l.length c s1 R.length cv p pv r.school ci d2 er Y _ _ (ae h5 0) (ae h5 1) (av h5) hsl hcap HPN.out (fun u hu=>KMK.out u (ah HB5.out hu)) ?_
    intros
    rename_i wx bx hlo hbx hbr
    have HO9:=aa (HO.out.next (ah HB5.out hbr))
    clear h5 hb5 hlo hbr KMK;by_cases hgo:bs=true/\er=0
    .obtain⟨rfl,rfl⟩:=hgo;have HCN:=aa (HSN.out rfl);obtain⟨y0,y1,y2,y3,y4,y5,y6⟩:=Y;simp only[aC.cells] at hbx;have z0:wx.cell? ⟨bx,0,Oh⟩=Og (N9 Oa y0):=ae hbx 0;have z1:wx.cell? ⟨bx,1,Oh⟩=Og (N9 Oa y1):=ae hbx 1;have z2:wx.cell? ⟨bx,2,Oh⟩=Og (N9 Oa y2):=ae hbx 2;have z3:wx.cell? ⟨bx,3,Oh⟩=Og (Ob y3):=ae hbx 3;have z4:wx.cell? ⟨bx,4,Oh⟩=Og (Ob y4):=ae hbx 4;have z5:wx.cell? ⟨bx,5,Oh⟩=Og (N9 Oa y5):=ae hbx 5;have z6:wx.cell? ⟨bx,6,Oh⟩=Og (Ob y6):=ae hbx 6;have hP:=HO9.out.next (aj wx (Of #[N9 Oa y0,N9 Oa y1,N9 Oa y2,Ob y3,Ob y4,N9 Oa y5,Ob y6] 65));have hlit:ar cY (wx.alloc (Of #[N9 Oa y0,N9 Oa y1,N9 Oa y2,Ob y3,Ob y4,N9 Oa y5,Ob y6] 65)) (Oc (Og ⟨wx.heap.size,0,Oh⟩) 1 1) [(⟨y0,y1,y2,y3,y4,y5,y6⟩:aC)]:=cN (heap_alloc_new wx _) _ rfl rfl;have hown:=hP.own;have hsz9:=hP.low.size;have HP:=aa hP;clear hP hbx;go_wp2_with (at_builtin;refine bl rtT rfl (.tmp 86) (.tmp 88) rfl W.heap.size _ _ R [(⟨y0,y1,y2,y3,y4,y5,y6⟩:aC)] rfl rfl hown hlit (by simp only[aB];omega) hsz9 ?_;intro v9 w10 hA9;have H9:=aa (HP.out.app hA9);clear hA9 hown hsz9 hlit)
     go_roundw
     case rel=>exact⟨k+1,s1,_,mOm,mOm,by rw[List.length_append];simp only[aB];omega,rfl,by go_num,hsl,HCN,H9.out⟩
     case measure=>simp[aw];omega
    .have hbo:bs=false\/(er==0)=false:=by
      cases bs
      .exact .inl rfl
      .exact .inr (by rw[beq_eq_false_iff_ne];exact fun e=>hgo ⟨rfl,e⟩)
     clear hgo hbx
     rcases hbo with rfl|t9
     .go_wp2_with fail;exact nV
     .cases bs
      .go_wp2_with fail;exact nV
      .go_wp2_with fail;exact nV
