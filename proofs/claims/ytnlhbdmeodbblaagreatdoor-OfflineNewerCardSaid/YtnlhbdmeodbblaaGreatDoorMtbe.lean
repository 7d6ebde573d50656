/- Lemmas. -/
import Derived.Test.YtnlhbdmeodbblaaGreatDoorMtbc
import Derived.Test.YtnlhbdmeodbblaaGreatDoorMtbd
set_option maxRecDepth 100000
set_option maxHeartbeats 16000000
set_option linter.all false
open Go.Proofs.Tryz
open Bool renaming not_false->jO,not_true->mX
open Go.Lib renaming cell_of_heap->ae,frozen_of_heap->aE,hid->aa
open List renaming eq_nil_of_length_eq_zero->bn,getD_eq_getElem?_getD->bi,getElem?_eq_getElem->ai,getElem_mem->bA,length_append->ap,length_cons->bB,length_filter_le->eK,length_map->aU,length_nil->cJ,length_singleton->aB,length_take->aI,mem_append->bI,mem_singleton->bE,take_length->aT
open Nat renaming add_zero->ew,le_refl->az,le_trans->aV,lt_of_lt_of_le->ax,zero_le->aP
open Go.RowKit renaming Below->ac,intOf->aw
open Go.World renaming block_lt_of_cell?->al
open Go.Ending renaming returned->Oe
open Go.IntKind renaming i64->Oa
open Go.Obj renaming cells->Of
open Go.Value renaming int->N9,string->Ob,slice->Oc,pointer->Od
open Option renaming some->Og,none->Oh
namespace Go.Proofs.YtnlhbdmeodbblaaGreatDoor
open Go Go.RowKit Go.Sort Go.Lib
section
theorem Bd:∀x:bT,(fX x).length=3:=fun _=>rfl
def bT.Fit(x:bT):Prop:=x.key.size<=100000/\x.hash.size<=100000/\x.body.size<=100000
end
section
structure RdrAt (w0:World) (b:Nat) (L:List ByteArray) (u:World):Prop where
 box:∃p c,aO u b (Of #[Oc p L.length c] 37 (0,0))/\ar bV w0 (Oc p L.length c) L
 low:ac w0.heap.size w0 u
 hi:w0.heap.size<=b
theorem RdrAt.below{w0 u v:World}{b:Nat}{L:List ByteArray}(h:RdrAt w0 b L u)(hb:ac u.heap.size u v):RdrAt w0 b L v:=by obtain⟨p,c,h1,h2⟩:=h.box;exact⟨⟨p,c,⟨(hb.block _ (aG h1.is)).trans h1.is⟩,h2⟩,ah h.low hb,h.hi⟩
theorem GG(p:Option Addr)(c:Nat)(L:List ByteArray)(w:World)(h:ar bV w (Oc p L.length c) L) :
  Calls prog 156 #[Oc p L.length c] w fun e w'=>e=Oe (.tuple #[.func (.func 210) #[] #[Od (Og ⟨w.heap.size,0,Oh⟩)],.func (.func 211) #[] #[Od (Og ⟨w.heap.size,0,Oh⟩)]])/\RdrAt w w.heap.size L w':=by
 have hh:=heap_alloc_new w (Of #[Oc p L.length c] 37);have hR:RdrAt w w.heap.size L (w.alloc (Of #[Oc p L.length c] 37)):=⟨⟨p,c,⟨hh⟩,h⟩,aj w _,az _⟩;clear h hh;go_enter func156,ntmps156;go_wp2_with fail
 go_ret2
 exact⟨rfl,hR⟩
theorem oX(w0:World)(b:Nat)(x:ByteArray)(L:List ByteArray)(u:World)(h:RdrAt w0 b (x::L) u) :
  Calls prog 210 #[Od (Og ⟨b,0,Oh⟩)] u fun e w'=>e=Oe (Ob x)/\RdrAt w0 b L w':=by
 obtain⟨p,c,h1,h2⟩:=h.box;obtain⟨g,o,rfl,hg,hcv⟩:=gb h2 rfl mSi;have hc:(x::L).length<=c:=by obtain⟨_,_,e,hc,_⟩:=h2;injection e with _ _ e;omega
 have q0:u.cell? ⟨b,0,Oh⟩=Og (Oc (Og ⟨g,o,Oh⟩) (x::L).length c):=ae h1.is 0;have f0:=aE h1.is 0;have q1:=(h.low.cell (p:=⟨g,o+0,Oh⟩) hg).trans (hcv 0 x rfl);rw[ew] at q1;have hd:=vS h2 (m:=1) mSi
 have fin:∀v,(∃p' c',v=Oc p' L.length c'/\ar bV w0 (Oc p' L.length c') L)->RdrAt w0 b L (u.setCell ⟨b,0,Oh⟩ v):=fun v hv=>by
  obtain⟨p',c',rfl,h3⟩:=hv;exact⟨⟨p',c',⟨bj h1.is 0 _⟩,h3⟩,h.low.setCell (p:=⟨b,0,Oh⟩) h.hi _,h.hi⟩
 have FIN:=aa fin
 have HD:=aa hd;have i1:(0:Int)<(((x::L).length:Nat):Int):=by simp only[bB];omega
 have n1:0<(x::L).length:=mSi;obtain⟨n,hn⟩:∃n,n=L.length:=⟨_,rfl⟩;have e1:(x::L).length=n+1:=by rw[hn];rfl
 have hdl:(x::L).drop 1=L:=rfl;rw[e1] at q0 hc i1 n1 HD;rw[hdl,Nat.add_sub_cancel] at HD;rw[<-hn] at FIN;have i2:(1:Int)<=((n+1:Nat):Int):=mOm;clear hcv h1 h2 h fin hd hn e1 hdl;go_enter func210,ntmps210;by_cases hc1:c=1
 .subst hc1;obtain rfl:n=0:=mOm;go_wp2_with fail;go_ret;exact⟨rfl,FIN.out _ ⟨_,_,rfl,HD.out.1.2 (by first|exact .inr rfl|exact .inr trivial|simp)⟩⟩
 .go_wp2_with fail;go_ret;exact⟨rfl,FIN.out _ ⟨_,_,rfl,HD.out.2 _ rfl⟩⟩
theorem Bi(w0:World)(b:Nat)(L:List ByteArray)(u:World)(h:RdrAt w0 b L u) :
  Calls prog 211 #[Od (Og ⟨b,0,Oh⟩)] u fun e w'=>(∃p c,e=Oe (Oc p L.length c)/\ar bV w0 (Oc p L.length c) L)/\ac u.heap.size u w':=by
 obtain⟨p,c,h1,h2⟩:=h.box;have q0:u.cell? ⟨b,0,Oh⟩=Og (Oc p L.length c):=ae h1.is 0;have H2:=aa h2;clear h h1 h2;go_enter func211,ntmps211;go_wp2_with fail;go_ret;exact⟨⟨_,_,rfl,H2.out⟩,Below.refl _ _⟩
end
section
theorem Fy(xs ys:List ByteArray)(p1 p2:Option Addr)(c1 c2:Nat)(w:World)(h1:ar bV w (Oc p1 xs.length c1) xs)(h2:ar bV w (Oc p2 ys.length c2) ys)(hl:xs.length<=1000000)(hl2:ys.length<=1000000) :
  Calls prog 160 #[Oc p1 xs.length c1,Oc p2 ys.length c2] w (mf (xs=ys) w):=by
 by_cases hlen:xs.length=ys.length
 rotate_left 1
 .refine(Tryz.slices_Equal_string_lens p1 p2 xs.length c1 ys.length c2 w hlen).mono ?_;rintro _ _⟨rfl,rfl⟩;exact⟨false,rfl,⟨fun e=>(by cases e),fun e=>absurd (congrArg List.length e) hlen⟩,Below.refl _ _⟩
 by_cases h0:xs.length=0
 .obtain rfl:=bn h0;have hy:ys=[]:=bn (by rw[<-hlen];rfl);subst hy;refine(Tryz.slices_Equal_string_empty p1 p2 c1 0 c2 w mOm).mono ?_;rintro _ _⟨rfl,rfl⟩;exact⟨true,rfl,⟨fun _=>rfl,fun _=>rfl⟩,Below.refl _ _⟩
 obtain⟨b1,o1,rfl,_,hc1⟩:=gb h1 rfl mOm
 obtain⟨b2,o2,rfl,_,hc2⟩:=gb h2 rfl mOm
 have gd:∀(l:List ByteArray)(j:Nat),j<l.length->l[j]? = Og (l.getD j ByteArray.empty):=fun l j hj=>by
  rw[bi,ai hj];rfl
 refine(Tryz.slices_Equal_string b1 o1 xs.length c1 b2 o2 ys.length c2 xs ys w (az _) (az _) mOm mOm (fun j hj=>hc1 j _ (gd xs j hj)) (fun j hj=>hc2 j _ (gd ys j hj))).mono ?_
 rintro _ _⟨rfl,q,rfl⟩;rw[aT,aT];exact⟨_,rfl,decide_eq_true_iff,⟨rfl,rfl,rfl,az _,fun _ _=>rfl⟩⟩
theorem GQ{L:List bT}{k:Nat}{x:bT}(h:L[k]? = Og x):dU (L.take (k+1))=dU (L.take k)++[x.key++⟨#[32]⟩++x.hash]:=by unfold dU;rw[ja h,List.map_append];rfl
theorem Gb{L:List bT}{d e:ByteArray}(hz:∀x∈L,x.Fit)(hd:d.size<=100000)(he:e.size<=100000):∀s∈fC L d e,s.size<=100000000:=by
 intro s hs;unfold fC at hs;rcases bI.1 hs with hs|hs
 .rcases bI.1 hs with hs|hs
  .split at hs
   .cases hs
   .rw[bE.1 hs];omega
  .unfold dU at hs;obtain⟨x,hx,rfl⟩:=List.mem_map.1 hs;have h:=hz x hx;have h1:=h.1;have h2:=h.2.1;have e1:(⟨#[32]⟩:ByteArray).size=1:=rfl;rw[ByteArray.size_append,ByteArray.size_append,e1];omega
 .split at hs
  .cases hs
  .rw[bE.1 hs];omega
theorem Ie(L:List bT)(d e:ByteArray):(fC L d e).length<=L.length+2:=by
 unfold fC dU;rw[ap,ap,aU]
 split <;> split <;> simp only[cJ,aB] <;> omega
theorem qE{p q:Prop}(h:q) (f:Wq q->p:=by
 intro hq;have hwl:(G.filter (inB lo hi)).length<=1000000:=aV (eK _ _) (by have:=HGL.out;rw[<-HGE.out] at this;omega);have ke:=Fy (G.filter (inB lo hi)) (dU L) pW pv cW cv w13 hWr (HSR2.out.below hOW.low) hwl mOm;have hbE:=ah hbF hOW.low
 revert hwl ke hbE
 exact hq.1):p:=f ⟨h⟩
theorem qQ{p q:Prop}(h:q) (f:Wq q->p:=by
 intro hq;have hb2x:=ah HRG.out.low hb12;have kw:=G8 b n lo hi i G rest pG pr cG cr w12 i64n ⟨mOm,mOm⟩ hn (HGR.out.below hb12) (by rw[HGE.out];exact HZG.out) (hrest.below hb2x);have hbF:=ah hb11 hb12;have HSR2:=aa (HSR.out.below hb12)
 revert hb2x kw hbF HSR2
 exact hq.1):p:=f ⟨h⟩
theorem sD{p:Prop} (h:p:=by
 rw[<-hG] at H21;clear hG HGE0;obtain⟨pG,cG,hvG⟩:=H21.out.form;subst hvG;have hGr:=H21.out.row fH mDe;have hbG:=H21.out.low;have HRG:=aa ((HRD.out.below HSH.out.low).below hbG);have hb11:=ah (ah hb9 HSH.out.low) hbG;have HSR:=aa (HRS.out.below hbG);have HGR:=aa hGr;clear hGr hbG;refine(Bi _ _ _ _ HRG.out).mono ?_;rintro _ w12⟨⟨pr,cr,rfl,hrest⟩,hb12⟩;refine qQ ?_;intro hb2x kw hbF HSR2;clear hrest hb12 hb2x;go_wp2_with fail;refine kw.mono ?_;clear kw;rintro _ w13 (⟨hno,rfl,hb13⟩|⟨hok,vW,rfl,hOW⟩)
 .have HN:Hid (¬VT):=aa (fun h=>hno (by have:=(HV2.out.1 h).2.1;rw[<-HGE.out] at this;exact this));have hbE:=ah hbF hb13;clear HV2 hno;go_wp2_with fail;go_ret;exact⟨false,rfl,⟨fun e=>(by cases e),fun h=>absurd h HN.out⟩,hbE⟩
 .have hWr:=hOW.row fH mDe;obtain⟨pW,cW,rfl⟩:=hOW.form;refine qE ?_;intro hwl ke hbE
  have HFI:Hid (VT↔G.filter (inB lo hi)=dU L):=aa (by
   rw[HV2.out,<-HGE.out]
   exact⟨fun h=>h.2.2,fun h=>⟨HALL.out,hok,h⟩⟩)
  clear hWr hOW hok HV2
  go_wp2_with fail;refine ke.mono ?_;clear ke;rintro _ w14⟨t,rfl,ht,hb14⟩;have HTT:Hid (t=true↔VT):=aa (ht.trans HFI.out.symm);have hbZ:=ah hbE hb14;clear ht HFI;go_wp2_with fail;go_ret
  exact⟨t,rfl,HTT.out,hbZ⟩):p:=h
theorem rW{p:Prop} (h:p:=by
 rw[<-hG] at H22;clear hG HGE0;obtain⟨pG,cG,hvG⟩:=H22.out.form;subst hvG;have hGr:=H22.out.row fH mDe;have hbG:=H22.out.low;have HRG:=aa ((HRD.out.below HSH.out.low).below hbG);have hb11:=ah (ah hb9 HSH.out.low) hbG;have HSR:=aa (HRS.out.below hbG);have HGR:=aa hGr;clear hGr hbG;refine(Bi _ _ _ _ HRG.out).mono ?_;rintro _ w12⟨⟨pr,cr,rfl,hrest⟩,hb12⟩;refine qQ ?_;intro hb2x kw hbF HSR2;clear hrest hb12 hb2x;go_wp2_with fail;refine kw.mono ?_;clear kw;rintro _ w13 (⟨hno,rfl,hb13⟩|⟨hok,vW,rfl,hOW⟩)
 .have HN:Hid (¬VT):=aa (fun h=>hno (by have:=(HV2.out.1 h).2.1;rw[<-HGE.out] at this;exact this));have hbE:=ah hbF hb13;clear HV2 hno;go_wp2_with fail;go_ret;exact⟨false,rfl,⟨fun e=>(by cases e),fun h=>absurd h HN.out⟩,hbE⟩
 .have hWr:=hOW.row fH mDe;obtain⟨pW,cW,rfl⟩:=hOW.form;refine qE ?_;intro hwl ke hbE
  have HFI:Hid (VT↔G.filter (inB lo hi)=dU L):=aa (by
   rw[HV2.out,<-HGE.out]
   exact⟨fun h=>h.2.2,fun h=>⟨HALL.out,hok,h⟩⟩)
  clear hWr hOW hok HV2
  go_wp2_with fail;refine ke.mono ?_;clear ke;rintro _ w14⟨t,rfl,ht,hb14⟩;have HTT:Hid (t=true↔VT):=aa (ht.trans HFI.out.symm);have hbZ:=ah hbE hb14;clear ht HFI;go_wp2_with fail;go_ret
  exact⟨t,rfl,HTT.out,hbZ⟩):p:=h
theorem rv{p:Prop} (h:p:=by
 have hO1:=(HO.out.next hbS).next (aj W (Of #[Ob (xk++⟨#[32]⟩++xh)] 9));have hlit:ar bV (W.alloc (Of #[Ob (xk++⟨#[32]⟩++xh)] 9)) (Oc (Og ⟨W.heap.size,0,Oh⟩) 1 1) [xk++⟨#[32]⟩++xh]:=cN (heap_alloc_new W _) _ rfl rfl;have hown:=hO1.own;have hsz:=hO1.low.size;have HO1:=aa hO1;clear hO1 hbS;go_wp2_with (at_builtin;refine bl lY rfl (.tmp 94) (.tmp 101) rfl w9.heap.size _ _ M [xk++(⟨#[32]⟩:ByteArray)++xh] rfl rfl hown hlit (by simp only[aB];omega) hsz ?_;intro v9 w10 hA9;have hO9:=HO1.out.app hA9;have HO9:=aa hO9;clear hO9 hA9)
 go_roundw
 case rel=>exact⟨k+1,mOm,by go_num,by rw[HT.out];exact HO9.out,HA3⟩
 case measure=>simp[aw];omega):p:=h
theorem nC{p q:Prop}(h:q) (f:Wq q->p:=by
 intro hq;refine aD (S:=fun u=>ac wr.heap.size wr u/\wr.heap.size<u.heap.size/\∀j,u.cell? ⟨wr.heap.size,j,Oh⟩=(#[Ob xk,Ob xh,Ob xb]:Array Value)[j]?) [(0,true),(1,true),(2,true),(3,true),(4,true),(5,true),(6,true),(7,true),(8,true),(9,true),(10,true),(12,true),(13,true),(11,false),(14,true),(15,true),(16,true)] hS0 ?_;have hS:=hS0
 revert hS
 exact hq.1):p:=f ⟨h⟩
theorem qP{p q:Prop}(h:q) (f:Wq q->p:=by
 intro hq;have H0:=aa (bz.nil bV 1 9 wr);have hP:=H0.out.next (aj wr (Of #[Ob d] 9));have hlit20:ar bV (wr.alloc (Of #[Ob d] 9)) (Oc (Og ⟨wr.heap.size,0,Oh⟩) 1 1) [d]:=cN (heap_alloc_new wr _) _ rfl rfl;have hown20:=hP.own;have hsz20:=hP.low.size;have HP20:=aa hP
 revert H0 hP hlit20 hown20 hsz20 HP20
 exact hq.1):p:=f ⟨h⟩
theorem AC(now:ByteArray)(n st fi la:Int)(pl pp:Option Addr)(cl cp:Nat)(L:List bT)(proof:List ByteArray)(w:World)(hl:ar fX w (Oc pl L.length cl) L)(hz:∀x∈L,x.Fit)(hL:L.length<=4000)(hp:ar bV w (Oc pp proof.length cp) proof)(hps:∀s∈proof,s.size<=100000)(hpl:proof.length<=1000000)(i64n:I64 n)(hn:n<=5000)(hr:Wr.Ready w) :
  Calls prog 92 #[Ob now,N9 Oa n,N9 Oa st,N9 Oa fi,N9 Oa la,Oc pl L.length cl,Oc pp proof.length cp] w (mf (jz now n st fi la L proof) w):=by
 have cb:=Ce st fi la w hr.sane.1;have HL:=aa hl;have HZ:=aa hz;clear hl hz;go_enter func92,ntmps92;go_wp2_with fail;refine cb.mono ?_;clear cb;rintro _ w1⟨hb1,(⟨hro,rfl⟩|⟨hno,rfl⟩)⟩
 rotate_left 1
 .have HN:Hid (¬jz now n st fi la L proof):=aa (fun h=>hno h.1);clear hno;go_wp2_with fail;go_ret;exact⟨false,rfl,⟨fun e=>(by cases e),fun h=>absurd h HN.out⟩,hb1⟩
 have HRO:=aa hro
 clear hro;have HP1:=aa (hp.below hb1);have HR1:Hid (Wr.Ready w1):=aa (bC hr hb1);clear hp hr;generalize hlo:loB st fi=lo at *;generalize hhi:hiB st la=hi at *;by_cases h5:proof.length<5
 .have i1:(proof.length:Int)<5:=mOm
  have HN:Hid (¬jz now n st fi la L proof):=aa (fun h=>by
   obtain⟨_,a,b,c,d,e,rest,rfl,_⟩:=h
   simp only[bB] at h5;omega)
  clear h5
  go_wp2_with fail;go_ret;exact⟨false,rfl,⟨fun e=>(by cases e),fun h=>absurd h HN.out⟩,hb1⟩
 obtain⟨a,b,c,d,e,rest,hpe⟩:∃a b c d e rest,proof=a::b::c::d::e::rest:=by
  match proof,h5 with
  | a::b::c::d::e::rest,_=>exact⟨a,b,c,d,e,rest,rfl⟩
  | [],h=>exact absurd h mSi
  | [_],h=>exact absurd h mSi
  | [_,_],h=>exact absurd h mSi
  | [_,_,_],h=>exact absurd h mSi
  | [_,_,_,_],h=>exact absurd h mSi
 have i1:¬(proof.length:Int)<5:=mOm
 have zs:a.size<=100000/\b.size<=100000/\c.size<=100000/\d.size<=100000/\e.size<=100000:=by rw[hpe] at hps;exact⟨hps a mSi,hps b mSi,hps c mSi,hps d mSi,hps e mSi⟩
 obtain⟨za,zb,zc,zd,ze⟩:=zs
 have ct:=Ev proof pp cp a b w1 HP1.out (by rw[hpe];rfl) (by rw[hpe];rfl) mOm mOm
 have HV:Hid (jz now n st fi la L proof↔lM a b=now/\(∀x∈L,lU x)/\∃i,lw c i/\jo b n lo hi i (fC L d e) rest/\(fC L d e).filter (inB lo hi)=dU L):=aa (by
  rw[hpe,<-hlo,<-hhi];constructor
  .rintro⟨_,a',b',c',d',e',rest',he,h1,h2,h3⟩;injection he with e1 he;injection he with e2 he;injection he with e3 he;injection he with e4 he;injection he with e5 e6;subst e1 e2 e3 e4 e5 e6;exact⟨h1,h2,h3⟩
  .rintro⟨h1,h2,h3⟩
   exact⟨HRO.out,a,b,c,d,e,rest,rfl,h1,h2,h3⟩)
 generalize jz now n st fi la L proof=VT at *
 have hrl:rest.length<=1000000:=by rw[hpe] at hpl;simp only[bB] at hpl;omega
 have HPE:=aa hpe;clear hpe hps hlo hhi h5 HRO hpl;go_wp2_with fail;refine ct.mono ?_;clear ct;rintro _ w2⟨rfl,hb2⟩;have hbw:=ah hb1 hb2;generalize lM a b=ch at *;by_cases hch:ch=now
 rotate_left 1
 .have te:=lq hch;have HN:Hid (¬VT):=aa (fun h=>hch (HV.out.1 h).1);have tn:(ch.toList != now.toList)=true:=by unfold bne;rw[te];rfl
  clear HV hch;go_wp2_with fail;go_ret;exact⟨false,rfl,⟨fun e=>(by cases e),fun h=>absurd h HN.out⟩,hbw⟩
 subst hch
 have tn:(ch.toList != ch.toList)=false:=mSi;have kr:=GG pp cp proof w2 (HP1.out.below hb2);have HR2:Hid (Wr.Ready w2):=aa (bC HR1.out hb2);clear HP1 hb1 hb2 HR1;go_wp2_with fail;refine kr.mono ?_;clear kr;rintro _ w3⟨rfl,hR⟩;rw[HPE.out] at hR;clear HPE;go_wp2_with fail;refine(oX _ _ _ _ _ hR).mono ?_;clear hR;rintro _ w4⟨rfl,hR⟩;go_wp2_with fail;refine(oX _ _ _ _ _ hR).mono ?_;clear hR;rintro _ w5⟨rfl,hR⟩;go_wp2_with fail;refine(oX _ _ _ _ _ hR).mono ?_;clear hR;rintro _ w6⟨rfl,hR⟩;have kn:=Az c mOm w6 (bC HR2.out hR.low);go_wp2_with fail;refine kn.mono ?_;clear kn;rintro _ w7⟨hb7,(⟨i,hi7,rfl⟩|⟨hno,m,rfl⟩)⟩
 rotate_left 1
 .have HN:Hid (¬VT):=aa (fun h=>by
   obtain⟨_,_,i,hi,_⟩:=HV.out.1 h
   exact hno i hi)
  have hbF:=ah hbw (ah hR.low hb7)
  clear HV hno hR hb7 hbw;go_wp2_with fail;go_ret;exact⟨false,rfl,⟨fun e=>(by cases e),fun h=>absurd h HN.out⟩,hbF⟩
 have HI:=aa hi7
 have hiN:=hi7.1
 have HV2:Hid (VT↔(∀x∈L,lU x)/\jo b n lo hi i (fC L d e) rest/\(fC L d e).filter (inB lo hi)=dU L):=aa (by
  rw[HV.out];constructor
  .rintro⟨_,h2,j,hj,h3⟩;obtain rfl:=hj.inj HI.out;exact⟨h2,h3⟩
  .rintro⟨h2,h3⟩
   exact⟨by first|rfl|trivial,h2,i,HI.out,h3⟩)
 have hR7:=hR.below hb7
 clear HV hi7 hR hb7 HI;go_wp2_with fail;refine(oX _ _ _ _ _ hR7).mono ?_;clear hR7;rintro _ w8⟨rfl,hR⟩;go_wp2_with fail;refine(oX _ _ _ _ _ hR).mono ?_;clear hR;rintro _ w9⟨rfl,hR⟩;have hb9:=ah hbw hR.low;have HRD:=aa hR;clear hR hbw;go_wp2_with fail
 go_loopw [25,73] (fun v ix wr=>∃k:Nat,k<=L.length/\ix=N9 Oa k/\bz bV 1 9 w9 wr v (dU (L.take k))/\Hid (∀x∈L.take k,lU x)) (fun _ ix _=>L.length-(aw ix).toNat)
 case atStart=>exact⟨0,aP _,rfl,bz.nil _ _ _ _,aa (fun x hx=>by simp at hx)⟩
 case round =>
  obtain⟨k,hk,rfl,hO,HA⟩:=hrel;obtain⟨pv,cv,hv⟩:=hO.form;subst hv;have hsl:(dU (L.take k)).length<=4000:=by unfold dU;rw[aU,aI];omega
  by_cases hlt:k<L.length
  .obtain⟨g,o,rfl,hg,hrow⟩:=dh (kk:=3) HL.out Bd rfl mOm;have hge:=ai hlt;have hat:=hrow k _ hge;have hx:=HZ.out _ (bA hlt);have j1:(k:Int)<(L.length:Int):=mOm;have j2:(0:Int)<=(k:Int):=mOm;have HT:=aa (GQ hge)
   have HA2:Hid ((lU L[k]->∀x∈L.take (k+1),lU x)/\(¬lU L[k]->¬VT)):=aa ⟨fun h x hx=>by
    rw[ja hge] at hx;rcases bI.1 hx with hx|hx
    .exact HA.out x hx
    .rw[bE.1 hx];exact h,fun h hv=>h ((HV2.out.1 hv).1 _ (bA hlt))⟩
   have hbo:=ah hb9 hO.low
   generalize L[k]=x at *;generalize dU (L.take k)=M at *;obtain⟨xk,xh,xb⟩:=x;obtain⟨z1,z2,z3⟩:=hx;simp only at z1 z2 z3 HT;have q:=fun j=>hbo.cell (p:=⟨g,j,Oh⟩) hg
   have q0:=(q _).trans (hat 0 _ rfl);have q1:=(q _).trans (hat 1 _ rfl);have q2:=(q _).trans (hat 2 _ rfl);rw[ew] at q0;have hba:=aj wr (Of #[Ob xk,Ob xh,Ob xb] 69);have hS0:zV wr wr.heap.size #[Ob xk,Ob xh,Ob xb] (wr.alloc (Of #[Ob xk,Ob xh,Ob xb] 69)).drew:=⟨hba.drew,by show wr.heap.size<(wr.alloc _).heap.size;rw[size_alloc];omega,fun j=>ae (heap_alloc_new wr _) j⟩;have s1:(⟨#[32]⟩:ByteArray).size=1:=rfl;have c1:¬9223372036854775807<xk.size+1:=mOm;have c2:¬9223372036854775807<xk.size+1+xh.size:=mOm;have HO:=aa hO;have kh:=fun w=>Dx xb mOm w
   clear hat hge hrow q hba hO;by_cases h16:xh.size=16
   rotate_left 1
   .have t1:((xh.size:Int) != 16)=true:=by rw[bne_iff_ne];omega
    have HN:Hid (¬VT):=aa (HA2.out.2 (fun h=>h16 h.1));clear HA2 HV2 h16;go_wp2_with fail;refine nC ?_;intro hS
    iterate 13 (first|refine ak ?_|refine dw ?_)
    refine jF ⟨_,_,_,_,_,_⟩ rfl mRf hS ?_;refine ay ?_
    iterate 3 (first|refine ak ?_|refine dw ?_)
    simp only[aQ,aZ];have hbF:=ah hbo hS.1;clear hS hS0;go_wp2_with fail;go_ret;exact⟨false,rfl,⟨fun e=>(by cases e),fun h=>absurd h HN.out⟩,hbF⟩
   have t1:((xh.size:Int) != 16)=false:=by rw[bne_eq_false_iff_eq];omega
   by_cases hb0:xb.size=0
   .obtain rfl:=ku hb0;have HA3:=aa (HA2.out.1 ⟨h16,.inl rfl⟩);clear HA2 h16 hb0;go_wp2_with fail;refine aD (S:=fun u=>ac wr.heap.size wr u/\wr.heap.size<u.heap.size/\∀j,u.cell? ⟨wr.heap.size,j,Oh⟩=(#[Ob xk,Ob xh,Ob ⟨#[]⟩]:Array Value)[j]?) [(0,true),(1,true),(2,true),(3,true),(4,true),(5,true),(6,true),(7,true),(8,true),(9,true),(10,true),(12,true),(13,true),(11,false),(14,true),(15,true),(16,true)] hS0 ?_;have hS:=hS0
    iterate 13 (first|refine ak ?_|refine dw ?_)
    refine jF ⟨_,_,_,_,_,_⟩ rfl mRf hS ?_;refine ay ?_
    iterate 3 (first|refine ak ?_|refine dw ?_)
    simp only[aQ,aZ];have hbS:=hS.1;have k0:(wr.alloc (Of #[Ob xk,Ob xh,Ob ⟨#[]⟩] 69)).drew.cell? ⟨wr.heap.size,0,Oh⟩=Og (Ob xk):=hS.2.2 0;have k1:(wr.alloc (Of #[Ob xk,Ob xh,Ob ⟨#[]⟩] 69)).drew.cell? ⟨wr.heap.size,1,Oh⟩=Og (Ob xh):=hS.2.2 1;have hlS:=hS.2.1;clear hS hS0
    (try simp only[tq,mX,bne])
    generalize (wr.alloc (Of #[Ob xk,Ob xh,Ob ⟨#[]⟩] 69)).drew=W at *;exact rv
   obtain⟨n1,n2⟩:=lI hb0
   have n3:(!xb.toList.isEmpty)=true:=by rw[n2];rfl
   by_cases hh:jG xb=xh
   .have HA3:=aa (HA2.out.1 ⟨h16,.inr hh⟩);rw[hh] at kh;have tq:(xh.toList==xh.toList)=true:=beq_self_eq_true _;clear HA2 h16 hb0 hh;go_wp2_with fail;refine nC ?_;intro hS
    iterate 13 refine ak ?_
    refine aJ 158 call158 (kh _) ?_;rintro x wn⟨rfl,hb⟩;replace hS:=bX hS hb;refine⟨_,rfl,hS,?_⟩;(try clear hb);refine ay ?_
    iterate 3 refine ak ?_
    simp only[aQ,aZ];have hbS:=hS.1;have k0:wn.cell? ⟨wr.heap.size,0,Oh⟩=Og (Ob xk):=hS.2.2 0;have k1:wn.cell? ⟨wr.heap.size,1,Oh⟩=Og (Ob xh):=hS.2.2 1;have hlS:=hS.2.1;clear hS hS0
    (try simp only[tq,mX,bne])
    generalize wn=W at *;exact rv
   .have HN:Hid (¬VT):=aa (HA2.out.2 (fun h=>by rcases h.2 with h|h;exact hb0 h;exact hh h));have te:=lq hh;generalize jG xb=H at *;clear HA2 HV2 h16 hb0 hh;go_wp2_with fail;refine nC ?_;intro hS
    iterate 13 refine ak ?_
    refine aJ 158 call158 (kh _) ?_;rintro x wn⟨rfl,hb⟩;replace hS:=bX hS hb;refine⟨_,rfl,hS,?_⟩;(try clear hb);refine ay ?_
    iterate 3 refine ak ?_
    simp only[aQ,aZ];have hbF:=ah hbo hS.1;clear hS hS0
    (try simp only[te,jO,bne])
    go_wp2_with fail;go_ret;exact⟨false,rfl,⟨fun e=>(by cases e),fun h=>absurd h HN.out⟩,hbF⟩
  .obtain rfl:k=L.length:=mOm;rw[aT] at hO hsl HA |-;have HSH:=aa hO;have hrS:=hO.row fH mDe;have HRS:=aa hrS;have HALL:Hid (∀x∈L,lU x):=HA;have HZG:Hid (∀s∈fC L d e,s.size<=100000000):=aa (Gb HZ.out mOm mOm);have HGL:Hid ((fC L d e).length<=5000):=aa (by have:=Ie L d e;omega);clear hO hrS HA;by_cases hd0:d.size=0
   .by_cases he0:e.size=0
    .obtain rfl:=ku hd0;obtain rfl:=ku he0;have HGE0:Hid (([]:List ByteArray)++dU L=fC L ⟨#[]⟩ ⟨#[]⟩):=aa (by unfold fC;have z0:(⟨#[]⟩:ByteArray).size=0:=rfl;simp[z0]);have H0:=aa (bz.nil bV 1 9 wr);have H20:=H0;have hown21:=H20.out.own;have hsz21:=H20.out.low.size;have hrx:=HRS.out;clear hd0;go_wp2_with (first|(at_builtin;refine bl lY rfl (.tmp 110) (.tmp 111) rfl wr.heap.size _ _ ([]:List ByteArray) (dU L) rfl rfl hown21 hrx (by simp only[cJ];omega) hsz21 ?_;intro v21 w21 hA21;have H21:=aa (H20.out.app hA21);clear hA21 hown21 hsz21 hrx));obtain⟨G,hG⟩:∃G,G=([]:List ByteArray)++dU L:=⟨_,rfl⟩;have HGE:Hid (G=fC L ⟨#[]⟩ ⟨#[]⟩):=aa (hG.trans HGE0.out);exact sD
    .obtain rfl:=ku hd0;obtain⟨q1,q2⟩:=lI he0;have q3:(!e.toList.isEmpty)=true:=by rw[q2];rfl
     have HGE0:Hid (([]:List ByteArray)++dU L++[e]=fC L ⟨#[]⟩ e):=aa (by unfold fC;have z0:(⟨#[]⟩:ByteArray).size=0:=rfl;simp[z0,he0]);have H0:=aa (bz.nil bV 1 9 wr);have H20:=H0;have hown21:=H20.out.own;have hsz21:=H20.out.low.size;have hrx:=HRS.out;clear hd0;clear he0;go_wp2_with (first|(at_builtin;refine bl lY rfl (.tmp 110) (.tmp 111) rfl wr.heap.size _ _ ([]:List ByteArray) (dU L) rfl rfl hown21 hrx (by simp only[cJ];omega) hsz21 ?_;intro v21 w21 hA21;have H21:=aa (H20.out.app hA21);have hP:=H21.out.next (aj w21 (.cells #[.string e] 9));have hlit22:ar bV (w21.alloc (.cells #[.string e] 9)) (.slice (some ⟨w21.heap.size,0,none⟩) 1 1) [e]:=cN (heap_alloc_new w21 _) _ rfl rfl;have hown22:=hP.own;have hsz22:=hP.low.size;have HP22:=aa hP;clear hP;clear hA21 hown21 hsz21 hrx)|(at_builtin;refine bl lY rfl (.tmp 115) (.tmp 117) rfl wr.heap.size _ _ (([]:List ByteArray)++dU L) [e] rfl rfl hown22 hlit22 (by simp only[ap,cJ,aB];omega) hsz22 ?_;intro v22 w22 hA22;have H22:=aa (HP22.out.app hA22);clear hA22 hown22 hsz22 hlit22));obtain⟨G,hG⟩:∃G,G=([]:List ByteArray)++dU L++[e]:=⟨_,rfl⟩;have HGE:Hid (G=fC L ⟨#[]⟩ e):=aa (hG.trans HGE0.out);exact rW
   .by_cases he0:e.size=0
    .obtain⟨m1,m2⟩:=lI hd0;have m3:(!d.toList.isEmpty)=true:=by rw[m2];rfl
     obtain rfl:=ku he0;have HGE0:Hid ([d]++dU L=fC L d ⟨#[]⟩):=aa (by unfold fC;have z0:(⟨#[]⟩:ByteArray).size=0:=rfl;simp[z0,hd0]);refine qP ?_;intro H0 hP hlit20 hown20 hsz20 HP20;clear hP hd0;go_wp2_with (first|(at_builtin;refine bl lY rfl (.tmp 106) (.tmp 108) rfl wr.heap.size _ _ [] [d] rfl rfl hown20 hlit20 mSi hsz20 ?_;intro v20 w20 hA20;have H20:=aa (show bz bV 1 9 wr w20 v20 [d] from HP20.out.app hA20);have hown21:=H20.out.own;have hsz21:=H20.out.low.size;have hrx:=HRS.out.below H20.out.low;clear hA20 hown20 hsz20 hlit20)|(at_builtin;refine bl lY rfl (.tmp 110) (.tmp 111) rfl wr.heap.size _ _ [d] (dU L) rfl rfl hown21 hrx (by simp only[aB];omega) hsz21 ?_;intro v21 w21 hA21;have H21:=aa (H20.out.app hA21);clear hA21 hown21 hsz21 hrx));obtain⟨G,hG⟩:∃G,G=[d]++dU L:=⟨_,rfl⟩;have HGE:Hid (G=fC L d ⟨#[]⟩):=aa (hG.trans HGE0.out);exact sD
    .obtain⟨m1,m2⟩:=lI hd0;have m3:(!d.toList.isEmpty)=true:=by rw[m2];rfl
     obtain⟨q1,q2⟩:=lI he0;have q3:(!e.toList.isEmpty)=true:=by rw[q2];rfl
     have HGE0:Hid ([d]++dU L++[e]=fC L d e):=aa (by unfold fC;have z0:(⟨#[]⟩:ByteArray).size=0:=rfl;simp[hd0,he0]);refine qP ?_;intro H0 hP hlit20 hown20 hsz20 HP20;clear hP hd0;clear he0;go_wp2_with (first|(at_builtin;refine bl lY rfl (.tmp 106) (.tmp 108) rfl wr.heap.size _ _ [] [d] rfl rfl hown20 hlit20 mSi hsz20 ?_;intro v20 w20 hA20;have H20:=aa (show bz bV 1 9 wr w20 v20 [d] from HP20.out.app hA20);have hown21:=H20.out.own;have hsz21:=H20.out.low.size;have hrx:=HRS.out.below H20.out.low;clear hA20 hown20 hsz20 hlit20)|(at_builtin;refine bl lY rfl (.tmp 110) (.tmp 111) rfl wr.heap.size _ _ [d] (dU L) rfl rfl hown21 hrx (by simp only[aB];omega) hsz21 ?_;intro v21 w21 hA21;have H21:=aa (H20.out.app hA21);have hP:=H21.out.next (aj w21 (.cells #[.string e] 9));have hlit22:ar bV (w21.alloc (.cells #[.string e] 9)) (.slice (some ⟨w21.heap.size,0,none⟩) 1 1) [e]:=cN (heap_alloc_new w21 _) _ rfl rfl;have hown22:=hP.own;have hsz22:=hP.low.size;have HP22:=aa hP;clear hP;clear hA21 hown21 hsz21 hrx)|(at_builtin;refine bl lY rfl (.tmp 115) (.tmp 117) rfl wr.heap.size _ _ ([d]++dU L) [e] rfl rfl hown22 hlit22 (by simp only[ap,aB];omega) hsz22 ?_;intro v22 w22 hA22;have H22:=aa (HP22.out.app hA22);clear hA22 hown22 hsz22 hlit22));obtain⟨G,hG⟩:∃G,G=[d]++dU L++[e]:=⟨_,rfl⟩;have HGE:Hid (G=fC L d e):=aa (hG.trans HGE0.out);exact rW
end
section
attribute [local go_sem 2000] yZ
attribute [local go_sem] Ent.cells
theorem D6{x:fc}{l:List bT}{k:Nat}{y:bT}(h:l[k]? = Og y)(p:Option bT):jq x p (l.drop k)=if mU x p y≠0 then mU x p y else jq x (Og y) (l.drop (k+1)):=by obtain⟨hlt,rfl⟩:=List.getElem?_eq_some_iff.1 h;rw[List.drop_eq_getElem_cons hlt];rfl
theorem Nu{W u v:World}{b b2:Nat}{cs cs2:Array Value}{p:Addr}{z:Value}(h:ac W.heap.size W u/\(b<u.heap.size/\b2<u.heap.size)/\(∀j,u.cell? ⟨b,j,Oh⟩=cs[j]?)/\(∀j,u.cell? ⟨b2,j,Oh⟩=cs2[j]?)/\u.cell? p=Og z)(hb:ac u.heap.size u v):ac W.heap.size W v/\(b<v.heap.size/\b2<v.heap.size)/\(∀j,v.cell? ⟨b,j,Oh⟩=cs[j]?)/\(∀j,v.cell? ⟨b2,j,Oh⟩=cs2[j]?)/\v.cell? p=Og z:=
 ⟨ah h.1 hb,⟨ax h.2.1.1 hb.size,ax h.2.1.2 hb.size⟩,fun j=>(hb.cell (p:=⟨b,j,Oh⟩) h.2.1.1).trans (h.2.2.1 j),fun j=>(hb.cell (p:=⟨b2,j,Oh⟩) h.2.1.2).trans (h.2.2.2.1 j),(hb.cell (al u _ h.2.2.2.2)).trans h.2.2.2.2⟩
theorem qv{p q:Prop}(h:q) (f:Wq q->p:=by
 intro hq;refine aD (S:=fun u=>ac wn.heap.size wn u/\(w7.heap.size<u.heap.size/\wr.heap.size<u.heap.size)/\(∀j,u.cell? ⟨w7.heap.size,j,Oh⟩=(#[N9 Oa e0,N9 Oa e1,N9 Oa e2,N9 Oa e3,N9 Oa e4,N9 Oa e5,Ob e6,N9 Oa e7,N9 Oa e8,N9 Oa e9,N9 Oa e10,N9 Oa e11,N9 Oa e12,N9 Oa e13,Ob e14]:Array Value)[j]?)/\(∀j,u.cell? ⟨wr.heap.size,j,Oh⟩=(#[Ob yk,Ob yh,Ob yb]:Array Value)[j]?)) [(0,true),(1,true),(4,true),(5,true),(2,false),(3,false),(6,true),(7,true)] hT0 ?_;have hS:=hT0
 iterate 4 refine ak ?_
 revert hS
 exact hq.1):p:=f ⟨h⟩
theorem qX{p q:Prop}(h:q) (f:Wq q->p:=by
 intro hq;refine aD (S:=fun u=>ac W8.heap.size W8 u/\(w7.heap.size<u.heap.size/\wr.heap.size<u.heap.size)/\(∀j,u.cell? ⟨w7.heap.size,j,Oh⟩=(#[N9 Oa e0,N9 Oa e1,N9 Oa e2,N9 Oa e3,N9 Oa e4,N9 Oa e5,Ob e6,N9 Oa e7,N9 Oa e8,N9 Oa e9,N9 Oa e10,N9 Oa e11,N9 Oa e12,N9 Oa e13,Ob e14]:Array Value)[j]?)/\(∀j,u.cell? ⟨wr.heap.size,j,Oh⟩=(#[Ob yk,Ob yh,Ob yb]:Array Value)[j]?)) [(0,true),(2,true),(3,true),(1,false),(4,true),(5,true)] hS0 ?_;have hS:=hS0
 iterate 3 refine ak ?_
 revert hS
 exact hq.1):p:=f ⟨h⟩
theorem G9(x:fc)(pl pp:Option Addr)(cl cp:Nat)(w:World)(hl:ar fX w (Oc pl x.lines.length cl) x.lines)(hz:∀y∈x.lines,y.Fit)(hL:x.lines.length<=100000)(hpl:x.proof.length<=1000000)(hr:Wr.Ready w) :
  Calls prog 87 #[.agg #[N9 Oa x.school,N9 Oa x.student,N9 Oa x.first,N9 Oa x.last,N9 Oa x.root,Oc pl x.lines.length cl,Oc pp x.proof.length cp]] w fun e w'=>e=Oe (N9 Oa (kA x))/\ac w.heap.size w w':=by
 have HV:=aa (show kA x=if au x.school 1 8=false\/au x.student 1 999999=false then 1
 else if au x.first 0 100000=false\/au x.last x.first 100000=false then 23
 else if au x.root 0 199=false then 40
 else if 2000<x.lines.length then 2
 else if jq x Oh x.lines≠0 then jq x Oh x.lines
 else if x.proof.length<5 then 41 else 0 from rfl)
 have HEX:=aa (fun (k:Nat) (y:bT) (h:x.lines[k]? = Og y) (p:Option bT)=>D6 (x:=x) h p)
 have HNIL:=aa (fun p=>(show jq x p []=0 by cases p <;> rfl));have HLE:=aa (fun p y=>(show mU x p y=if jL x.student x.first x.last y.key.data.toList=false\/mB y.hash.data.toList=false then 4 else if ti p y=true then 7 else pD x.school y from rfl));generalize kA x=V at *;generalize hRE:jq x=RE at *;generalize hR1:mU x=R1 at *;clear hRE hR1;obtain⟨sc,st,fi,la,ro,L,P⟩:=x;simp only at *;obtain⟨pn,hpn⟩:∃n,n=P.length:=⟨_,rfl⟩;have HPN:=aa hpn;rw[<-hpn] at HV hpl |-;clear hpn;have hb0:=aj w (Of #[N9 Oa sc,N9 Oa st,N9 Oa fi,N9 Oa la,N9 Oa ro,Oc pl L.length cl,Oc pp pn cp] 39);have hh:=heap_alloc_new w (Of #[N9 Oa sc,N9 Oa st,N9 Oa fi,N9 Oa la,N9 Oa ro,Oc pl L.length cl,Oc pp pn cp] 39);have KR:=aa (fun (k:ByteArray) (hk:k.size<=100000) u=>GL sc st fi la ro pl pp L.length cl pn cp k hk u);have HR:=aa hl;have HZ:=aa hz;have HRDY:=aa hr;clear hl hz hr;go_enter func87,ntmps87;obtain⟨t1,ht1⟩:∃t,au sc 1 8=t:=⟨_,rfl⟩;obtain⟨t2,ht2⟩:∃t,au st 1 999999=t:=⟨_,rfl⟩;obtain⟨t3,ht3⟩:∃t,au fi 0 100000=t:=⟨_,rfl⟩;obtain⟨t4,ht4⟩:∃t,au la fi 100000=t:=⟨_,rfl⟩;obtain⟨t5,ht5⟩:∃t,au ro 0 199=t:=⟨_,rfl⟩;have k1:=fun u=>jd sc 1 8 u
 have k2:=fun u=>jd st 1 999999 u
 have k3:=fun u=>jd fi 0 100000 u
 have k4:=fun u=>jd la fi 100000 u
 have k5:=fun u=>jd ro 0 199 u
 rw[ht1] at k1 HV;rw[ht2] at k2 HV;rw[ht3] at k3 HV;rw[ht4] at k4 HV;rw[ht5] at k5 HV;clear ht1 ht2 ht3 ht4 ht5;go_wp2_with fail;refine(k1 _).mono ?_;rintro _ _⟨rfl,rfl⟩
 cases t1
 .have H1b:Hid (V=1):=aa (HV.out.trans (if_pos (.inl rfl)));clear HV;go_wp2_with fail;go_ret;exact⟨aL H1b.out.symm,hb0⟩
 go_wp2_with fail
 refine(k2 _).mono ?_;rintro _ _⟨rfl,rfl⟩
 cases t2
 .have H2b:Hid (V=1):=aa (HV.out.trans (if_pos (.inr rfl)));clear HV;go_wp2_with fail;go_ret;exact⟨aL H2b.out.symm,hb0⟩
 have HV2:=aa (HV.out.trans (if_neg (by rintro(h|h) <;> cases h)))
 clear HV;go_wp2_with fail;refine(k3 _).mono ?_;rintro _ _⟨rfl,rfl⟩
 cases t3
 .have H3b:Hid (V=23):=aa (HV2.out.trans (if_pos (.inl rfl)));clear HV2;go_wp2_with fail;go_ret;exact⟨aL H3b.out.symm,hb0⟩
 go_wp2_with fail
 refine(k4 _).mono ?_;rintro _ _⟨rfl,rfl⟩
 cases t4
 .have H4b:Hid (V=23):=aa (HV2.out.trans (if_pos (.inr rfl)));clear HV2;go_wp2_with fail;go_ret;exact⟨aL H4b.out.symm,hb0⟩
 have HV3:=aa (HV2.out.trans (if_neg (by rintro(h|h) <;> cases h)))
 clear HV2;go_wp2_with fail;refine(k5 _).mono ?_;rintro _ _⟨rfl,rfl⟩
 cases t5
 .have H5b:Hid (V=40):=aa (HV3.out.trans (if_pos rfl));clear HV3;go_wp2_with fail;go_ret;exact⟨aL H5b.out.symm,hb0⟩
 have HV4:=aa (HV3.out.trans (if_neg (by intro h;cases h)))
 clear HV3 k1 k2 k3 k4 k5;by_cases h2:2000<L.length
 .have i1:(2000:Int)<(L.length:Int):=mOm;have HB:Hid (V=2):=aa (HV4.out.trans (if_pos h2));clear HV4 h2;go_wp2_with fail;go_ret;exact⟨aL HB.out.symm,hb0⟩
 have i1:¬(2000:Int)<(L.length:Int):=mOm
 have HV5:=aa (HV4.out.trans (if_neg h2));clear HV4;go_wp2_with fail;have HBX:=aa hh;have hxl:=av hh;clear hh;obtain⟨W0,hW0⟩:∃u,u=w.alloc (Of #[N9 Oa sc,N9 Oa st,N9 Oa fi,N9 Oa la,N9 Oa ro,Oc pl L.length cl,Oc pp pn cp] 39):=⟨_,rfl⟩;rw[<-hW0] at hb0 HBX hxl |-;clear hW0
 go_loopw [35] (fun i wr=>∃k:Nat,k<=L.length/\i=N9 Oa k/\Hid (RE (L.take k).getLast? (L.drop k)=RE Oh L)/\ac W0.heap.size W0 wr) (fun i _=>L.length-(aw i).toNat)
 case atStart=>exact⟨0,aP _,rfl,aa rfl,Below.refl _ _⟩
 case round =>
  obtain⟨k,hk,rfl,HI,hb⟩:=hrel;have hbk:=ah hb0 hb;have xb:=fun j=>(hb.cell (p:=⟨w.heap.size,j,Oh⟩) hxl).trans (ae HBX.out j)
  have x0:=xb 0;have x1:=xb 1;have x2:=xb 2;have x3:=xb 3;have x4:=xb 4;have x5:=xb 5;have x6:=xb 6;have hxr:w.heap.size<wr.heap.size:=ax hxl hb.size;by_cases hlt:k<L.length
  .obtain⟨lg,lo,rfl,hlg,hrow⟩:=dh (kk:=3) HR.out Bd rfl mOm;have hge:=ai hlt;have hat:=hrow k _ hge;have HE:=aa (HEX.out k _ hge (L.take k).getLast?);have HT:=aa (rp hge);have hx:=HZ.out _ (bA hlt);have j1:(k:Int)<(L.length:Int):=mOm;have j2:(0:Int)<=(k:Int):=mOm;have HL:=aa (HLE.out (L.take k).getLast? L[k]);have q:=fun j=>hbk.cell (p:=⟨lg,j,Oh⟩) hlg
   have HPRV:Hid (∀m,m+1=k->∃z,(L.take k).getLast? = Og z/\wr.cell? ⟨lg,lo+m*3,Oh⟩=Og (Ob z.key)):=aa (fun m hm=>by
    subst hm;have hgm:=ai (show m<L.length by omega)
    exact⟨_,rp hgm,(q _).trans (hrow m _ hgm 0 _ rfl)⟩)
   have HNON:Hid (k=0->(L.take k).getLast? = Oh):=aa (fun h=>by subst h;rfl)
   generalize (L.take k).getLast? = pv at *;generalize L[k]=y at *;obtain⟨yk,yh,yb⟩:=y;obtain⟨z1,z2,z3⟩:=hx;simp only at z1 z2 z3 HL;have q0:wr.cell? ⟨lg,lo+k*3,Oh⟩=Og (Ob yk):=(q _).trans (hat 0 _ rfl);have q1:wr.cell? ⟨lg,lo+k*3+1,Oh⟩=Og (Ob yh):=(q _).trans (hat 1 _ rfl);have q2:wr.cell? ⟨lg,lo+k*3+2,Oh⟩=Og (Ob yb):=(q _).trans (hat 2 _ rfl);have hba:=aj wr (Of #[Ob yk,Ob yh,Ob yb] 69);have hyh:=heap_alloc_new wr (Of #[Ob yk,Ob yh,Ob yb] 69);have kr:=fun u=>KR.out yk z1 u
   have kh:=fun u=>If yh mOm u
   obtain⟨bt,hbt⟩:∃b,jL st fi la yk.data.toList=b:=⟨_,rfl⟩;obtain⟨bh,hbh⟩:∃b,mB yh.data.toList=b:=⟨_,rfl⟩;rw[hbt] at kr HL;rw[hbh] at kh HL
   have HBODY:=aa (show pD sc ⟨yk,yh,yb⟩=if yb.size=0 then 0 else if (ek yb.data.toList).2≠0 then 4
 else if (ek yb.data.toList).1.school≠sc\/fW (ek yb.data.toList).1≠yk.data.toList\/jG yb≠yh then 41 else 0 from rfl)
   have hok:=EG (s:=yb.data.toList) (by rw[<-bF];exact z3)
   have HKE:=aa (fun u=>LP (ek yb.data.toList).1 hok u);have HKV:Hid ((⟨(fW (ek yb.data.toList).1).toArray⟩:ByteArray)=yk↔fW (ek yb.data.toList).1=yk.data.toList):=aa ⟨fun h=>by rw[<-h],fun h=>by rw[h]⟩;have HDG:=aa (fun u=>pQ yb mOm u);have HXD:=aa (fun u=>Ew ⟨(dg yb.data.toList).toArray⟩ (Ct yb).2 u);have HDE:=aa (fun u hu=>yS yb mOm u hu);have HDV:=aa (EH yb.data.toList);have HHB:Hid ((⟨(fK (⟨(dg yb.data.toList).toArray⟩:ByteArray).data.toList).toArray⟩:ByteArray)=jG yb):=aa rfl;generalize jG yb=HB at *;generalize tG yb.data.toList=DV at *;generalize pD sc ⟨yk,yh,yb⟩=EB at *;generalize (ek yb.data.toList).2=DN at *;generalize (ek yb.data.toList).1=DE at *;generalize (⟨(fK (⟨(dg yb.data.toList).toArray⟩:ByteArray).data.toList).toArray⟩:ByteArray)=HB2 at *;generalize (⟨(dg yb.data.toList).toArray⟩:ByteArray)=DG at *;obtain rfl:=HHB.out;generalize (⟨(fW DE).toArray⟩:ByteArray)=KV at *;generalize fW DE=KL at *;clear hok HHB;have HO1:=aa (show ∀z,pv=Og z->ti pv ⟨yk,yh,yb⟩=leB yk z.key from fun z h=>by subst h;show(!decide _)=_;unfold leB;rw[kV]);have HO0:=aa (show pv=Oh->ti pv ⟨yk,yh,yb⟩=false from fun h=>by subst h;rfl);generalize ti pv ⟨yk,yh,yb⟩=OB at *;generalize R1 pv ⟨yk,yh,yb⟩=E at *
   have HBAD:Hid (∀n,n≠0->E=n->V=n):=aa (fun n hn he=>by
    have h1:RE Oh L=n:=by rw[<-HI.out,HE.out,he,if_pos hn]
    rw[HV5.out,h1,if_pos hn])
   have HGOOD:Hid (E=0->RE (L.take (k+1)).getLast? (L.drop (k+1))=RE Oh L):=aa (fun he=>by
    rw[<-HI.out,HE.out,he,if_neg mSi,HT.out])
   clear hat hge q hrow hbt hbh xb HE HI HT
   go_wp2_with fail;refine(kr _).mono ?_;rintro _ w4⟨rfl,hb4⟩;have hb4r:=ah hba hb4;have hb4k:=ah hbk hb4r;clear kr
   cases bt
   .have HN:Hid (V=4):=aa (HBAD.out 4 mDe (by rw[HL.out,if_pos (.inl rfl)]));clear HBAD HGOOD HL HV5;go_wp2_with fail;go_ret;exact⟨aL HN.out.symm,hb4k⟩
   have hy4:=fun j=>(hb4.cell (p:=⟨wr.heap.size,j,Oh⟩) (av hyh)).trans (ae hyh j)
   have hyl4:wr.heap.size<w4.heap.size:=ax (av hyh) hb4.size;have y1:w4.cell? ⟨wr.heap.size,1,Oh⟩=Og (Ob yh):=hy4 1;go_wp2_with fail;refine(kh _).mono ?_;rintro _ w5⟨rfl,hb5⟩;have hb5r:=ah hb4r hb5;have hb5k:=ah hbk hb5r;clear kh
   cases bh
   .have HN:Hid (V=4):=aa (HBAD.out 4 mDe (by rw[HL.out,if_pos (.inr rfl)]));clear HBAD HGOOD HL HV5;go_wp2_with fail;go_ret;exact⟨aL HN.out.symm,hb5k⟩
   have HL2:=aa (HL.out.trans (if_neg (by rintro(h|h) <;> cases h)))
   have HY:Hid (∀j,w5.cell? ⟨wr.heap.size,j,Oh⟩=(#[Ob yk,Ob yh,Ob yb]:Array Value)[j]?):=aa (fun j=>(hb5.cell (p:=⟨wr.heap.size,j,Oh⟩) hyl4).trans (hy4 j));have HX:Hid (∀j,w5.cell? ⟨w.heap.size,j,Oh⟩=(#[N9 Oa sc,N9 Oa st,N9 Oa fi,N9 Oa la,N9 Oa ro,Oc (Og ⟨lg,lo,Oh⟩) L.length cl,Oc pp pn cp]:Array Value)[j]?):=aa (fun j=>((ah hb hb5r).cell (p:=⟨w.heap.size,j,Oh⟩) hxl).trans (ae HBX.out j));have hyl5:wr.heap.size<w5.heap.size:=ax hyl4 hb5.size;have hxl5:w.heap.size<w5.heap.size:=ax hxl (ah hb hb5r).size
   have hzl:∀m,m+1=k->∃z,pv=Og z/\w5.cell? ⟨lg,lo+m*3,Oh⟩=Og (Ob z.key):=fun m hm=>by
    obtain⟨z,h1,h2⟩:=HPRV.out m hm;exact⟨z,h1,(hb5r.cell (al wr _ h2)).trans h2⟩
   have HZL:=aa hzl
   have hmeas:L.length-(k+1)<L.length-k:=mOm;have hb0r:=ah hb hb5r;clear HL x0 x1 x2 x3 x4 x5 x6 q0 q1 q2 hba hyh hb4 hb4r hy4 hyl4 y1 hb5 hb4k hzl HPRV hb5r
   go_upto_region 17 with fail
   go_cut [50] (fun v wx=>v=.bool OB/\ac w5.heap.size w5 wx)
   case first =>
    by_cases hk0:k=0
    .subst hk0;obtain rfl:=HO0.out (HNON.out rfl);have hS0:=cm (w:=w5) ⟨Below.refl _ _,⟨hxl5,hyl5⟩,HX.out,HY.out⟩ (Below.refl _ w5).drew;go_wp2_with fail;refine aD (S:=fun u=>ac w5.heap.size w5 u/\(w.heap.size<u.heap.size/\wr.heap.size<u.heap.size)/\(∀j,u.cell? ⟨w.heap.size,j,Oh⟩=(#[N9 Oa sc,N9 Oa st,N9 Oa fi,N9 Oa la,N9 Oa ro,Oc (Og ⟨lg,lo,Oh⟩) L.length cl,Oc pp pn cp]:Array Value)[j]?)/\(∀j,u.cell? ⟨wr.heap.size,j,Oh⟩=(#[Ob yk,Ob yh,Ob yb]:Array Value)[j]?)) [(0,true),(1,true),(2,true),(3,true),(4,true),(5,true),(6,true),(7,true),(8,true),(9,true),(10,true),(11,true),(12,true),(13,true),(14,true)] hS0 ?_;have hS:=hS0
     iterate 15 (first|refine ak ?_|refine dw ?_)
     simp only[aQ,aZ];have hbz:=hS.1;go_wp2_with fail
     go_meet
     case rel=>exact⟨rfl,hbz⟩
    .obtain⟨m,rfl⟩:∃m,k=m+1:=⟨k-1,mOm⟩;obtain⟨z,hz,hzc⟩:=HZL.out m rfl;have HOB:=aa (HO1.out z hz);obtain⟨zk,zh,zb⟩:=z;simp only at hzc HOB;have hS0:=Nu (W:=w5) ⟨Below.refl _ _,⟨hxl5,hyl5⟩,HX.out,HY.out,hzc⟩ (Below.refl _ w5).drew;have i0:(0:Int)<((m+1:Nat):Int):=mOm;have i3:IntKind.i64.wrap (((m+1:Nat):Int)-1)=(m:Int):=by rw[show((m+1:Nat):Int)-1=(m:Int) by omega];exact fY _ _ rfl mOm
     have i3b:IntKind.i64.wrap (m:Int)=(m:Int):=fY _ _ rfl mOm;have i4:(m:Int)<(L.length:Int):=mOm;have i5:(0:Int)<=(m:Int):=mOm;have i6:m<L.length:=mOm;clear hz;go_wp2_with fail;refine aD (S:=fun u=>ac w5.heap.size w5 u/\(w.heap.size<u.heap.size/\wr.heap.size<u.heap.size)/\(∀j,u.cell? ⟨w.heap.size,j,Oh⟩=(#[N9 Oa sc,N9 Oa st,N9 Oa fi,N9 Oa la,N9 Oa ro,Oc (Og ⟨lg,lo,Oh⟩) L.length cl,Oc pp pn cp]:Array Value)[j]?)/\(∀j,u.cell? ⟨wr.heap.size,j,Oh⟩=(#[Ob yk,Ob yh,Ob yb]:Array Value)[j]?)/\u.cell? ⟨lg,lo+m*3,Oh⟩=Og (Ob zk)) [(0,true),(1,true),(2,true),(3,true),(4,true),(5,true),(6,true),(7,true),(8,true),(9,true),(10,true),(11,true),(12,true),(13,true),(14,true)] hS0 ?_;have hS:=hS0
     iterate 15 refine ak ?_
     simp only[aQ,aZ];have hbz:=hS.1;go_wp2_with fail
     go_meet
     case rel=>exact⟨by rw[HOB.out],hbz⟩
   case rest =>
    obtain⟨rfl,hb6⟩:=hcut;have HY6:Hid (∀j,wc.cell? ⟨wr.heap.size,j,Oh⟩=(#[Ob yk,Ob yh,Ob yb]:Array Value)[j]?):=aa (fun j=>(hb6.cell (p:=⟨wr.heap.size,j,Oh⟩) hyl5).trans (HY.out j));have x06:wc.cell? ⟨w.heap.size,0,Oh⟩=Og (N9 Oa sc):=(hb6.cell (p:=⟨w.heap.size,0,Oh⟩) hxl5).trans (HX.out 0);have hyl6:wr.heap.size<wc.heap.size:=ax hyl5 hb6.size;have hxl6:w.heap.size<wc.heap.size:=ax hxl5 hb6.size;have hb6k:=ah hb5k hb6;have hb60:=ah hb0r hb6;have y2:wc.cell? ⟨wr.heap.size,2,Oh⟩=Og (Ob yb):=HY6.out 2;clear HO0 HO1 HZL HNON HX HY hyl5 hxl5 hb6 hb5k hb0r
    cases OB
    rotate_left 1
    .have HN:Hid (V=7):=aa (HBAD.out 7 mDe (by rw[HL2.out,if_pos rfl]));clear HBAD HGOOD HL2 HV5;go_wp2_with fail;go_ret;exact⟨aL HN.out.symm,hb6k⟩
    have HL3:=aa (HL2.out.trans (if_neg (by intro h;cases h)))
    clear HL2;by_cases hb0':yb.size=0
    .obtain rfl:=ku hb0';have HG:=aa (HGOOD.out (by rw[HL3.out,HBODY.out];exact if_pos rfl));clear HGOOD HBAD HBODY HL3 hb0';go_wp2_with fail
     go_roundw
     case rel=>exact⟨k+1,mOm,by go_num,HG,hb60⟩
     case measure=>simp[aw];omega
    obtain⟨n1,n2⟩:=lI hb0'
    have HB2:=aa (HBODY.out.trans (if_neg hb0'));have kd:Calls prog 95 #[Ob yb] wc fun e w'=>e=Oe (.tuple #[DE.val,N9 Oa DN])/\ac wc.heap.size wc w':=by have:=HDE.out wc (HRDY.out.below hb6k);rw[HDV.out] at this;exact this
    obtain⟨e0,e1,e2,e3,e4,e5,e6,e7,e8,e9,e10,e11,e12,e13,e14⟩:=DE
    simp only at HB2;clear HBODY hb0' HDE HDV;go_wp2_with fail;refine kd.mono ?_;clear kd;rintro _ w7⟨rfl,hb7⟩;have HY7:Hid (∀j,w7.cell? ⟨wr.heap.size,j,Oh⟩=(#[Ob yk,Ob yh,Ob yb]:Array Value)[j]?):=aa (fun j=>(hb7.cell (p:=⟨wr.heap.size,j,Oh⟩) hyl6).trans (HY6.out j));have x07:=(hb7.cell (p:=⟨w.heap.size,0,Oh⟩) hxl6).trans x06;have hyl7:wr.heap.size<w7.heap.size:=ax hyl6 hb7.size;have hxl7:w.heap.size<w7.heap.size:=ax hxl6 hb7.size;have hba:=aj w7 (Of #[N9 Oa e0,N9 Oa e1,N9 Oa e2,N9 Oa e3,N9 Oa e4,N9 Oa e5,Ob e6,N9 Oa e7,N9 Oa e8,N9 Oa e9,N9 Oa e10,N9 Oa e11,N9 Oa e12,N9 Oa e13,Ob e14] 67);have heb:=heap_alloc_new w7 (Of #[N9 Oa e0,N9 Oa e1,N9 Oa e2,N9 Oa e3,N9 Oa e4,N9 Oa e5,Ob e6,N9 Oa e7,N9 Oa e8,N9 Oa e9,N9 Oa e10,N9 Oa e11,N9 Oa e12,N9 Oa e13,Ob e14] 67);have hb8k:=ah (ah hb6k hb7) hba;have hb80:=ah (ah hb60 hb7) hba;have HY8:Hid (∀j,(w7.alloc (Of #[N9 Oa e0,N9 Oa e1,N9 Oa e2,N9 Oa e3,N9 Oa e4,N9 Oa e5,Ob e6,N9 Oa e7,N9 Oa e8,N9 Oa e9,N9 Oa e10,N9 Oa e11,N9 Oa e12,N9 Oa e13,Ob e14] 67)).cell? ⟨wr.heap.size,j,Oh⟩=(#[Ob yk,Ob yh,Ob yb]:Array Value)[j]?):=aa (fun j=>(hba.cell (p:=⟨wr.heap.size,j,Oh⟩) hyl7).trans (HY7.out j));have x08:=(hba.cell (p:=⟨w.heap.size,0,Oh⟩) hxl7).trans x07;have HE8:=aa (ae heb);have hel8:=av heb;have hyl8:wr.heap.size<(w7.alloc (Of #[N9 Oa e0,N9 Oa e1,N9 Oa e2,N9 Oa e3,N9 Oa e4,N9 Oa e5,Ob e6,N9 Oa e7,N9 Oa e8,N9 Oa e9,N9 Oa e10,N9 Oa e11,N9 Oa e12,N9 Oa e13,Ob e14] 67)).heap.size:=ax hyl7 hba.size;clear y2 HY6 x06 hyl6 hxl6 hb6k hb60 HY7 x07 hyl7 hb7 hba heb;by_cases hdn:DN=0
    rotate_left 1
    .have t1:(DN != 0)=true:=by rw[bne_iff_ne];exact hdn
     have HN:Hid (V=4):=aa (HBAD.out 4 mDe (by rw[HL3.out,HB2.out,if_pos hdn]));clear HBAD HGOOD HL3 HB2 HV5 hdn;go_wp2_with fail;go_ret;exact⟨aL HN.out.symm,hb8k⟩
    subst hdn
    have HB3:=aa (HB2.out.trans (if_neg mSi));clear HB2;by_cases hsc:e1=sc
    rotate_left 1
    .have t1:(e1 != sc)=true:=by rw[bne_iff_ne];exact hsc
     have HN:Hid (V=41):=aa (HBAD.out 41 mDe (by rw[HL3.out,HB3.out,if_pos (.inl hsc)]));clear HBAD HGOOD HL3 HB3 HV5 hsc;go_wp2_with fail;go_ret;exact⟨aL HN.out.symm,hb8k⟩
    have t1:(e1 != sc)=false:=by rw[bne_eq_false_iff_eq];exact hsc
    have HSC:=aa hsc;clear hsc;have HS0:Hid (zU (w7.alloc (Of #[N9 Oa e0,N9 Oa e1,N9 Oa e2,N9 Oa e3,N9 Oa e4,N9 Oa e5,Ob e6,N9 Oa e7,N9 Oa e8,N9 Oa e9,N9 Oa e10,N9 Oa e11,N9 Oa e12,N9 Oa e13,Ob e14] 67)) w7.heap.size #[N9 Oa e0,N9 Oa e1,N9 Oa e2,N9 Oa e3,N9 Oa e4,N9 Oa e5,Ob e6,N9 Oa e7,N9 Oa e8,N9 Oa e9,N9 Oa e10,N9 Oa e11,N9 Oa e12,N9 Oa e13,Ob e14] wr.heap.size #[Ob yk,Ob yh,Ob yb] (w7.alloc (Of #[N9 Oa e0,N9 Oa e1,N9 Oa e2,N9 Oa e3,N9 Oa e4,N9 Oa e5,Ob e6,N9 Oa e7,N9 Oa e8,N9 Oa e9,N9 Oa e10,N9 Oa e11,N9 Oa e12,N9 Oa e13,Ob e14] 67)).drew):=aa (cm ⟨Below.refl _ _,⟨hel8,hyl8⟩,HE8.out,HY8.out⟩ (Below.refl _ _).drew);clear HE8 HY8 hel8 hyl8;go_wp2_with fail;obtain⟨W8,hW8⟩:∃u,u=w7.alloc (Of #[N9 Oa e0,N9 Oa e1,N9 Oa e2,N9 Oa e3,N9 Oa e4,N9 Oa e5,Ob e6,N9 Oa e7,N9 Oa e8,N9 Oa e9,N9 Oa e10,N9 Oa e11,N9 Oa e12,N9 Oa e13,Ob e14] 67):=⟨_,rfl⟩;have hS0:=HS0.out;rw[<-hW8] at hS0 hb8k hb80 |-;clear hW8 HS0 x08;by_cases hkv:KV=yk
    rotate_left 1
    .have t2:=lq hkv;have te:(!(KV.toList==yk.toList))=true:=by rw[t2];rfl
     have HN:Hid (V=41):=aa (HBAD.out 41 mDe (by rw[HL3.out,HB3.out,if_pos (.inr (.inl (fun h=>hkv (HKV.out.2 h))))]));clear HBAD HGOOD HL3 HB3 HV5 hkv;refine qX ?_;intro hS;refine aJ 146 call146 (HKE.out _) ?_;rintro x wn⟨rfl,hb⟩;replace hS:=cm hS hb;refine⟨_,rfl,hS,?_⟩;(try clear hb);refine ay ?_
     iterate 2 refine ak ?_
     simp only[aQ,aZ]
     (try simp only[t2,te,jO,bne])
     have hbF:=ah hb8k hS.1;clear hS hS0;go_wp2_with fail;go_ret;exact⟨aL HN.out.symm,hbF⟩
    have HKK:=aa (HKV.out.1 hkv)
    have hkv2:=hkv.symm;subst hkv2;have t2:(yk.toList==yk.toList)=true:=beq_self_eq_true _;refine qX ?_;intro hS;refine aJ 146 call146 (HKE.out _) ?_;rintro x wn⟨rfl,hb⟩;replace hS:=cm hS hb;refine⟨_,rfl,hS,?_⟩;(try clear hb);refine ay ?_
    iterate 2 refine ak ?_
    simp only[aQ,aZ]
    (try simp only[t2,mX,bne])
    have hb9k:=ah hb8k hS.1;have hb90:=ah hb80 hS.1;have hT0:=cm (w:=wn) ⟨Below.refl _ _,hS.2.1,hS.2.2.1,hS.2.2.2⟩ (Below.refl _ wn).drew;clear hS hS0;go_wp2_with fail;by_cases hhb:HB2=yh
    rotate_left 1
    .have t3:=lq hhb;have HN:Hid (V=41):=aa (HBAD.out 41 mDe (by rw[HL3.out,HB3.out,if_pos (.inr (.inr hhb))]));have te:(!(HB2.toList==yh.toList))=true:=by rw[t3];rfl
     clear HBAD HGOOD HL3 HB3 HV5 hhb;refine qv ?_;intro hS;refine aJ 148 call148 (HDG.out _) ?_;rintro x wn⟨rfl,hb⟩;replace hS:=cm hS hb;refine⟨_,rfl,hS,?_⟩;(try clear hb);refine ay ?_;refine aJ 147 call147 (HXD.out _) ?_;rintro x wn⟨rfl,hb⟩;replace hS:=cm hS hb;refine⟨_,rfl,hS,?_⟩;(try clear hb);refine ay ?_
     iterate 2 refine ak ?_
     simp only[aQ,aZ]
     (try simp only[t3,te,jO,bne])
     have hbF:=ah hb9k hS.1;clear hS hT0;go_wp2_with fail;go_ret;exact⟨aL HN.out.symm,hbF⟩
    have HG:=aa (HGOOD.out (by
     rw[HL3.out,HB3.out,if_neg];rintro(h|h|h)
     .exact h HSC.out
     .exact h HKK.out
     .exact h hhb))
    have hhb2:=hhb.symm
    subst hhb2;have t3:(yh.toList==yh.toList)=true:=beq_self_eq_true _;clear HBAD HGOOD HL3 HB3;refine qv ?_;intro hS;refine aJ 148 call148 (HDG.out _) ?_;rintro x wn⟨rfl,hb⟩;replace hS:=cm hS hb;refine⟨_,rfl,hS,?_⟩;(try clear hb);refine ay ?_;refine aJ 147 call147 (HXD.out _) ?_;rintro x wn⟨rfl,hb⟩;replace hS:=cm hS hb;refine⟨_,rfl,hS,?_⟩;(try clear hb);refine ay ?_
    iterate 2 refine ak ?_
    simp only[aQ,aZ]
    (try simp only[t3,mX,bne])
    have hbZ:=ah hb90 hS.1;clear hS hT0;go_wp2_with fail
    go_roundw
    case rel=>exact⟨k+1,mOm,by go_num,HG,hbZ⟩
    case measure=>simp[aw];omega
  .obtain rfl:k=L.length:=mOm;have HZ0:Hid (RE Oh L=0):=aa (by rw[<-HI.out,List.drop_length,HNIL.out]);have i2:¬(L.length:Int)<(L.length:Int):=mOm;have HV6:=aa (HV5.out.trans (if_neg (fun h=>h HZ0.out)));clear HV5 HI;by_cases h5:pn<5
   .have i5:(pn:Int)<5:=mOm;have HB:Hid (V=41):=aa (HV6.out.trans (if_pos h5));clear HV6 h5;go_wp2_with fail;go_ret;exact⟨aL HB.out.symm,hbk⟩
   .have i5:¬(pn:Int)<5:=mOm;have HB:Hid (V=0):=aa (HV6.out.trans (if_neg h5));clear HV6 h5;go_wp2_with fail;go_ret;exact⟨aL HB.out.symm,hbk⟩
end
section
structure fc.Fit (x:fc):Prop where
 root:I64 x.root
 lines:∀y∈x.lines,y.Fit
 many:x.lines.length<=4000
 proof:∀s∈x.proof,s.size<=100000
 long:x.proof.length<=1000000
def fc.cells(x:fc)(pl pp:Option Addr)(cl cp:Nat):Array Value:=#[N9 Oa x.school,N9 Oa x.student,N9 Oa x.first,N9 Oa x.last,N9 Oa x.root,Oc pl x.lines.length cl,Oc pp x.proof.length cp]
structure ExtIn (x:fc) (pl pp:Option Addr) (cl cp:Nat) (w:World):Prop where
 lines:ar fX w (Oc pl x.lines.length cl) x.lines
 proof:ar bV w (Oc pp x.proof.length cp) x.proof
theorem ExtIn.below{x:fc}{pl pp:Option Addr}{cl cp:Nat}{w w':World}(h:ExtIn x pl pp cl cp w)(hb:ac w.heap.size w w'):ExtIn x pl pp cl cp w':=⟨h.lines.below hb,h.proof.below hb⟩
theorem Gj(b:Nat)(x:fc)(hx:x.Fit)(pl pp:Option Addr)(cl cp:Nat)(w:World)(hb:w.heap[b]? = Og (Of (x.cells pl pp cl cp) 39 (0,0)))(hi:ExtIn x pl pp cl cp w)(hr:Wr.Ready w) :
  Calls prog 86 #[Od (Og ⟨b,0,Oh⟩)] w fun e w'=>e=Oe (N9 Oa (kA x))/\ac w.heap.size w w':=by
 have kc:=G9 x pl pp cl cp w hi.lines hx.lines (by have:=hx.many;omega) hx.long hr;have hc:=ae hb;generalize kA x=V at *;obtain⟨sc,st,fi,la,ro,L,P⟩:=x;simp only at kc;have x0:w.cell? ⟨b,0,Oh⟩=Og (N9 Oa sc):=hc 0;have x1:w.cell? ⟨b,1,Oh⟩=Og (N9 Oa st):=hc 1;have x2:w.cell? ⟨b,2,Oh⟩=Og (N9 Oa fi):=hc 2;have x3:w.cell? ⟨b,3,Oh⟩=Og (N9 Oa la):=hc 3;have x4:w.cell? ⟨b,4,Oh⟩=Og (N9 Oa ro):=hc 4;have x5:w.cell? ⟨b,5,Oh⟩=Og (Oc pl L.length cl):=hc 5;have x6:w.cell? ⟨b,6,Oh⟩=Og (Oc pp P.length cp):=hc 6;have hbl:=aG hb;clear hb hi hc hx;go_enter func86,ntmps86;go_wp2_with fail;refine kc.mono ?_;rintro _ w1⟨rfl,hb1⟩;go_wp2_with fail;go_ret;exact⟨rfl,hb1⟩
open Classical in
noncomputable def tO(x:fc)(at_:aC)(asof:Int):Int:=if asof<at_.day then 23 else if ¬jz at_.tree at_.size x.student x.first x.last x.lines x.proof then 41 else 0
open Classical in
theorem Gl(ab tb b:Nat)(x:fc)(hx:x.Fit)(rt:aC)(h64:I64 rt.size)(h5:rt.size<=5000)(asof:Int)(pl pp:Option Addr)(cl cp:Nat)(w:World)(hb:w.heap[b]? = Og (Of (x.cells pl pp cl cp) 39 (0,0)))(hab:w.heap[ab]? = Og (Of rt.cells 65 (0,0)))(htb:w.heap[tb]? = Og (Of #[N9 Oa asof] 3 (0,0)))(hi:ExtIn x pl pp cl cp w)(hr:Wr.Ready w) :
  Calls prog 91 #[Od (Og ⟨ab,0,Oh⟩),Od (Og ⟨tb,0,Oh⟩),Od (Og ⟨b,0,Oh⟩)] w fun e w'=>e=Oe (N9 Oa (tO x rt asof))/\ac w.heap.size w w':=by
 have kc:=AC rt.tree rt.size x.student x.first x.last pl pp cl cp x.lines x.proof w hi.lines hx.lines hx.many hi.proof hx.proof hx.long h64 h5 hr;have hc:=ae hb;have ha:=ae hab;have HV:=aa (show tO x rt asof=if asof<rt.day then 23 else if ¬jz rt.tree rt.size x.student x.first x.last x.lines x.proof then 41 else 0 from rfl);generalize jz rt.tree rt.size x.student x.first x.last x.lines x.proof=VT at *;generalize tO x rt asof=V at *;obtain⟨sc,st,fi,la,ro,L,P⟩:=x;simp only at kc;have x1:w.cell? ⟨b,1,Oh⟩=Og (N9 Oa st):=hc 1;have x2:w.cell? ⟨b,2,Oh⟩=Og (N9 Oa fi):=hc 2;have x3:w.cell? ⟨b,3,Oh⟩=Og (N9 Oa la):=hc 3;have x5:w.cell? ⟨b,5,Oh⟩=Og (Oc pl L.length cl):=hc 5;have x6:w.cell? ⟨b,6,Oh⟩=Og (Oc pp P.length cp):=hc 6;have r1:w.cell? ⟨ab,1,Oh⟩=Og (N9 Oa rt.size):=ha 1;have r2:w.cell? ⟨ab,2,Oh⟩=Og (N9 Oa rt.day):=ha 2;have r3:w.cell? ⟨ab,3,Oh⟩=Og (Ob rt.tree):=ha 3;have t0:w.cell? ⟨tb,0,Oh⟩=Og (N9 Oa asof):=ae htb 0;clear hb hi hc hx ha hab htb;go_enter func91,ntmps91;by_cases hd:asof<rt.day
 .have HN:Hid (V=23):=aa (HV.out.trans (if_pos hd));clear HV;go_wp2_with fail;go_ret;exact⟨aL HN.out.symm,Below.refl _ _⟩
 have HV2:=aa (HV.out.trans (if_neg hd))
 clear HV;go_wp2_with fail;refine kc.mono ?_;clear kc;rintro _ w1⟨t,rfl,ht,hb1⟩;have HT:=aa ht;clear ht x1 x2 x3 x5 x6 r1 r2 r3 t0
 cases t
 .have HN:Hid (V=41):=aa (HV2.out.trans (if_pos (fun h=>by have:=HT.out.2 h;cases this)));clear HV2 HT;go_wp2_with fail;go_ret;exact⟨aL HN.out.symm,hb1⟩
 .have HN:Hid (V=0):=aa (HV2.out.trans (if_neg (fun h=>h (HT.out.1 rfl))));clear HV2 HT;go_wp2_with fail;go_ret;exact⟨aL HN.out.symm,hb1⟩
theorem xB{S:Nat->Prop}{w w':World}{g:Nat}{l:List bG}(h:cR w g l)(hb:aF S w w')(hg:g<w.heap.size)(hs:¬S g):cR w' g l:=fun k e he j v hv=>by
 rw[hb.cell hg hs];exact h k e he j v hv
def jud2(x:fc)(roots:List aC)(r:bH):Int:=
 if r.school≠x.school then 22
 else if ((dO roots x.school).length:Int)<=x.root then 40
 else cK r ((dO roots x.school).take (x.root.toNat+1))
structure Jud2 (x:fc) (roots:List aC) (r:bH) (ob ab:Nat) (w:World) (e:Ending) (w':World):Prop where
 ret:e=Oe (N9 Oa (jud2 x roots r))
 buts:aF (fun k=>k=ob\/k=ab) w w'
 at_:∃rt:aC,w'.heap[ab]? = Og (Of rt.cells 65 (0,0))/\(jud2 x roots r=0->rt=dW x roots/\rt∈roots)
theorem Gk(rb b tb ob ab:Nat)(x:fc)(hx:x.Fit)(h0:0<=x.root)(roots:List aC)(hrl:roots.length<=1000000)(hok:∀y∈roots,y.Ok)(pr:Option Addr)(cr:Nat)(r:bH)(g c:Nat)(pl pp:Option Addr)(cl cp:Nat)(w:World)
  (hb:w.heap[b]? = Og (Of (x.cells pl pp cl cp) 39 (0,0))) (hrb:w.heap[rb]? = Og (Of #[N9 Oa r.school,Oc (Og ⟨g,0,Oh⟩) r.keys.length c] 33 (0,0)))
  (htb:w.heap[tb]? = Og (Of #[Oc pr roots.length cr] 35 (0,0))) (hob:w.heap[ob]? = Og (Of #[Oc Oh 0 0] 35 (0,0))) (hab:w.heap[ab]? = Og (Of rootZ.cells 65 (0,0)))
  (hro:ar cY w (Oc pr roots.length cr) roots) (hk:cR w g r.keys) (hg:g<w.heap.size) (hl:r.keys.length<=1000) (hsz:∀k∈r.keys,k.secret.size<=100000) (hs:I64 r.school) (_ht:Tabs w)
  (hd1:¬(b=ob\/b=ab)) (hd2:¬(rb=ob\/rb=ab)) (hd3:ab≠ob) (hd4:¬(g=ob\/g=ab)) (_hd5:ob≠0/\ab≠0) (htp:∀w',aF (fun k=>k=ob\/k=ab) w w'->Tabs w') :
  Calls prog 88 #[Od (Og ⟨rb,0,Oh⟩),Od (Og ⟨b,0,Oh⟩),Od (Og ⟨tb,0,Oh⟩),Od (Og ⟨ob,0,Oh⟩),Od (Og ⟨ab,0,Oh⟩)] w (Jud2 x roots r ob ab w):=by
 have ko:=GM x.school pr cr roots w hro hrl;have HV:=aa (show jud2 x roots r=if r.school≠x.school then 22 else if ((dO roots x.school).length:Int)<=x.root then 40 else cK r ((dO roots x.school).take (x.root.toNat+1)) from rfl);have HAT:=aa (show dW x roots=(dO roots x.school).getD x.root.toNat rootZ from rfl);have hsub:∀y∈dO roots x.school,y∈roots:=fun y hy=>(List.mem_filter.1 hy).1
 have hol:(dO roots x.school).length<=1000000:=aV (eK _ _) hrl;have HPOST:=aa (fun (e:Ending) (w':World) (n:Int) (hn:jud2 x roots r=n) (he:e=Oe (N9 Oa n)) (hbu:aF (fun k=>k=ob\/k=ab) w w') (ha:∃rt:aC,w'.heap[ab]? = Og (Of rt.cells 65 (0,0))/\(n=0->rt=dW x roots/\rt∈roots))=>(show Jud2 x roots r ob ab w e w' from⟨by rw[hn];exact he,hbu,by rw[hn];exact ha⟩));have hc:=ae hb;have hrc:=ae hrb;have HROOT:=hx.root;generalize jud2 x roots r=V at *;generalize dW x roots=JA at *;generalize dO roots x.school=O at *;obtain⟨sc,st,fi,la,ro,L,P⟩:=x;simp only at ko HV HAT h0 HROOT;obtain⟨rn,rfl⟩:∃n:Nat,ro=n:=⟨ro.toNat,mOm⟩;rw[Int.toNat_natCast] at HV HAT;have x0:w.cell? ⟨b,0,Oh⟩=Og (N9 Oa sc):=hc 0;have x4:w.cell? ⟨b,4,Oh⟩=Og (N9 Oa rn):=hc 4;have r0:w.cell? ⟨rb,0,Oh⟩=Og (N9 Oa r.school):=hrc 0;have t0:w.cell? ⟨tb,0,Oh⟩=Og (Oc pr roots.length cr):=ae htb 0;have hbl:=aG hb;have hrbl:=aG hrb;have hobl:=aG hob;have habl:=aG hab;have HB:=aa hb;have HRB:=aa hrb;have HTP:=aa htp;clear hb hrb htb hro hc hrc hx htp;go_enter func88,ntmps88;by_cases hsc:r.school=sc
 rotate_left 1
 .have t1:(r.school != sc)=true:=by rw[bne_iff_ne];exact hsc
  have HN:=aa (HV.out.trans (if_pos hsc));clear HV hsc;go_wp2_with fail;go_ret;exact HPOST.out _ _ 22 HN.out rfl (aF.refl _ _) ⟨rootZ,hab,fun h=>by cases h⟩
 have HV2:=aa (HV.out.trans (if_neg (fun h=>h hsc)))
 clear HV;obtain rfl:sc=r.school:=hsc.symm;have t1:(r.school != r.school)=false:=bne_self_eq_false _;go_wp2_with fail;refine ko.mono ?_;clear ko;rintro _ w1⟨v,rfl,hO⟩;obtain⟨pO,cO,rfl⟩:=hO.form;have hOl:=hO.low;have e1:=(hOl.block _ hobl).trans hob;have o0:w1.cell? ⟨ob,0,Oh⟩=Og (Oc Oh 0 0):=ae e1 0;have of_:=aE e1 0;have x41:=(hOl.cell (p:=⟨b,4,Oh⟩) hbl).trans x4;have e3:=(dA (w:=w1) (g:=ab) (g':=ob) (fun e=>hd3 e.symm) 0 (Oc pO O.length cO)).trans ((hOl.block _ habl).trans hab);have hbs:aF (fun k=>k=ob\/k=ab) w (w1.setCell ⟨ob,0,Oh⟩ (Oc pO O.length cO)):=(aF.of hOl).trans (aF.set _ (.inl rfl) 0 _);have x42:(w1.setCell ⟨ob,0,Oh⟩ (Oc pO O.length cO)).cell? ⟨b,4,Oh⟩=Og (N9 Oa rn):=(hbs.cell hbl hd1 4 Oh).trans x4;have e2:=bj e1 0 (Oc pO O.length cO);have o2:(w1.setCell ⟨ob,0,Oh⟩ (Oc pO O.length cO)).cell? ⟨ob,0,Oh⟩=Og (Oc pO O.length cO):=ae e2 0;obtain⟨W2,hW2⟩:∃u,u=w1.setCell ⟨ob,0,Oh⟩ (Oc pO O.length cO):=⟨_,rfl⟩;by_cases hlen:O.length<=rn
 .have i1:(O.length:Int)<=(rn:Int):=mOm;have HN:=aa (HV2.out.trans (if_pos i1));clear HV2 hlen hW2;go_wp2_with fail;go_ret;exact HPOST.out _ _ 40 HN.out rfl hbs ⟨rootZ,e3,fun h=>by cases h⟩
 have i1:¬(O.length:Int)<=(rn:Int):=mOm
 have HV3:=aa (HV2.out.trans (if_neg i1));go_wp2_with fail;rw[<-hW2] at e3 hbs x42 e2 o2 |-;have hne:O ≠ []:=fun e=>by rw[e] at hlen;simp at hlen
 obtain⟨go,hgo⟩:∃go,pO=Og ⟨go,0,Oh⟩:=by obtain⟨M,z,hMz⟩:∃M z,O=M++[z]:=⟨O.dropLast,O.getLast hne,(List.dropLast_concat_getLast hne).symm⟩;have ho:=hO.own;rw[hMz] at ho;obtain⟨go,co,h⟩:=jU ho;injection h with h1 h2 h3;exact⟨go,h1⟩
 subst hgo
 obtain⟨l1,l2,l3,l4⟩:=pE hO.own;have hgno:¬(go=ob\/go=ab):=mOm;have hown:W2.ownsRow w.heap.size 65 7 (Oc (Og ⟨go,0,Oh⟩) O.length cO) O.length (aN cY O):=by
  rw[hW2]
  exact bK hO.own (aF.set (S:=fun k=>k=ob\/k=ab) w1 (.inl rfl) 0 _) (fun g' hg'=>by
   obtain rfl:go=g':=by simpa [Value.ownBlock] using hg'
   exact hgno)
 have hrow:=fo dp mDe hown
 obtain⟨g7,o7,hg7,hl7,hr7⟩:=dh (kk:=7) hrow dp rfl mOm;injection hg7 with hg7;injection hg7 with hg7 ho7;subst hg7 ho7;have hge:=ai (show rn<O.length by omega);have hra:=hr7 rn _ hge;have hmem:=hsub _ (bA (show rn<O.length by omega));have HJ:Hid (JA=O[rn]'mOm):=aa (by rw[HAT.out,bi,hge];rfl);generalize O[rn]'mOm=rt at *;have e4:=hbs.heap HB.out hd1;have e5:=hbs.heap HRB.out hd2;have HOWN:=aa hown;have HKS:=aa (xB hk hbs hg hd4);have hlen2:(O.take (rn+1)).length=rn+1:=by rw[aI];omega
 clear HV2 hW2 hO hOl e1 o0 of_ x41 x42 o2 hrow hr7 hne hob hab HAT x0 x4 r0 t0
 go_upto_region 6 with fail
 refine Ns b ob ab go 0 O.length cO rn rt r.school st fi la (Oc pl L.length cl) (Oc pp P.length cp) _ _ _ _ _ _ _ _ _ e4 e2 e3 hra hl7 hd1 hgno hd3 mOm hol l1 ?_;intro u20 u23 u24 u25 u29 wx hbu ho ha;have hbt:=hbs.trans hbu;have k5:=hbu.heap e5 hd2;have rc0:wx.cell? ⟨rb,0,Oh⟩=Og (N9 Oa r.school):=ae k5 0;have rc1:wx.cell? ⟨rb,1,Oh⟩=Og (Oc (Og ⟨g,0,Oh⟩) r.keys.length c):=ae k5 1;have oc0:wx.cell? ⟨ob,0,Oh⟩=Og (Oc (Og ⟨go,0,Oh⟩) (rn+1) cO):=ae ho 0;have hrb2:rb<wx.heap.size:=aG k5
 have hrowx:=fo dp mDe (bK HOWN.out hbu (fun g' hg'=>by
   obtain rfl:go=g':=by simpa [Value.ownBlock] using hg'
   exact hgno))
 have hrt:=hrowx.take (m:=rn+1) rfl mOm
 have kc:=BV g c r (Og ⟨go,0,Oh⟩) cO (O.take (rn+1)) wx (by rw[hlen2];exact hrt) (fun y hy=>hok y (hsub y (List.mem_of_mem_take hy))) (by rw[hlen2];omega) (xB HKS.out hbu (ax hg hbs.size) hd4) (ax hg hbt.size) hl hsz hs (HTP.out _ hbt);rw[hlen2] at kc;generalize cK r (O.take (rn+1))=RC at kc HV3;clear e4 e2 e3 hra hrowx hrt k5 HKS HOWN hbs hbu;go_wp2_with fail;refine kc.mono ?_;rintro _ w5⟨rfl,hb5⟩;have ha5:=(hb5.block _ (aG ha)).trans ha;have hbF:=hbt.trans (aF.of hb5);clear kc rc0 rc1 oc0;go_wp2_with fail;go_ret;exact HPOST.out _ _ RC HV3.out rfl hbF ⟨rt,ha5,fun _=>⟨HJ.out.symm,hmem⟩⟩
