/- Lemmas. -/
import Derived.Test.YtnlhbdmeodbblaaGreatDoorMtab
import Derived.LoopN
set_option maxRecDepth 100000
set_option maxHeartbeats 16000000
set_option linter.all false
open Go.Proofs.Tryz
open Bool renaming and_eq_true->aX,not_eq_true'->gL,or_eq_true->fI
open Int renaming neg_neg->mH,tdiv_eq_ediv_of_nonneg->ev,tmod_eq_emod_of_nonneg->bN
open Go.IntWalk renaming i64_in->aH
open Go.Lib renaming cell_of_heap->ae,frozen_of_heap->aE,hid->aa,itoa_length_le->bO
open List renaming length_singleton->aB,toArray->aK
open Nat renaming le_trans->aV,zero_add->bP
open Go.RowKit renaming Below->ac
open Go.Ending renaming returned->Oe
open Go.IntKind renaming i64->Oa
open Go.Obj renaming cells->Of
open Go.Value renaming int->N9,string->Ob,slice->Oc,pointer->Od
open Option renaming some->Og,none->Oh
namespace Go.Proofs.YtnlhbdmeodbblaaGreatDoor
section
variable {s0 s1 s2 s3 s4 s5 s6 s7 s8 s9 b3 b4 b5 b9 ba bb bc bd be bf bg bh bk bm bo bp b6 b8 bq br bt bx c0 c1 c3 c4 c5 c6 c7 c9 ca cb cc cd ce cg ch ci cj ck cl cn co cp cr ct cv cx cy cz cA cB cD cG cO cS cW cX d0 d1 d2 d3 d4 d5 d6 d8 d9 dc dd dk dm dx dy dT:Value}
open Go Go.Proofs Go.RowKit Go.Sort Go.Lib
def dgB(l:List UInt8):ByteArray:=⟨(dg l).toArray⟩
def bw(a b:ByteArray):ByteArray:=dgB (dR [⟨#[4]⟩,a,b])
theorem th(b c:Nat)(l:List ByteArray)(n:Nat)(hn:l.length=n)(hl:n<=1000)(w:World)(hP:sW w b 0 l) :
  Calls prog 181 #[Oc (Og ⟨b,0,Oh⟩) n c] w fun e w'=>e=Oe (Ob (dgB (dR l)))/\ac w.heap.size w w':=by
 subst hn;exact C3 b 0 c l hl w hP
theorem qc{w:World}{b:Nat}{cs:Array Value}{t:TypeId}(h:w.heap[b]? = Og (Of cs t (0,0)))(l:List ByteArray)(hcs:cs.toList=l.map Value.string)(hz:∀x∈l,x.size<=100000000):sW w b 0 l:=fun k hk=>by
 refine⟨?_,hz _ (List.getElem_mem hk)⟩;rw[bP,ae h,<-Array.getElem?_toList,hcs,List.getElem?_map,List.getElem?_eq_getElem hk];rfl
theorem zw(b c:Nat)(x y:ByteArray)(hx:x.size<=100000000)(hy:y.size<=100000000)(w:World)(h:w.heap[b]? = Og (Of #[Ob ⟨#[4]⟩,Ob x,Ob y] 9 (0,0))) :
  Calls prog 181 #[Oc (Og ⟨b,0,Oh⟩) 3 c] w fun e w'=>e=Oe (Ob (bw x y))/\ac w.heap.size w w':=
 th b c [⟨#[4]⟩,x,y] 3 rfl mOm w (qc h _ rfl (by
  intro z hz;simp only[List.mem_cons,List.not_mem_nil,or_false] at hz;rcases hz with rfl|rfl|rfl
  .decide
  .exact hx
  .exact hy))
theorem No(fb xb g g2 m c c2 n:Nat)(y x:Blk)(W:World)(Q:Exit->Act->World->Prop)(hbx:W.heap[fb]? = Og (Of #[Oc (Og ⟨g,0,Oh⟩) m c,Oc (Og ⟨g2,0,Oh⟩) m c2] 264 (0,0)))(hxb:W.heap[xb]? = Og (Of #[N9 Oa x.b,N9 Oa x.s] 293 (0,0)))(hra:W.rangeAt g (n*2) (lu y))(hgl:g<W.heap.size)(hn:n<m)(_hm:m<=10000)(hab:y.b<=1099511627776)(has:y.s<=1099511627776)(has0:0<y.s)
  (hQ:∀(e4 e5 e6 e7 e8 e9 ea eb ed eg ei ej:Value)(wx:World),ac W.heap.size W wx->Q .normal ⟨aK (Od (Og ⟨fb,0,Oh⟩)::s1::s2::s3::Od (Og ⟨xb,0,Oh⟩)::s5::N9 Oa (n:Int)::s7::s8::s9::b3::b4::b5::e4::e5::e6::e7::e8::e9::ea::eb::ed::eg::ei::ej::.bool (ot y.b y.s x.b x.s)::[b6,b8,bq,br,bt,bx,c0,c1,c3,c4,c5,c6,c7,c9,ca,cb,cc,cd,ce,cg,ch,ci,cj,ck,cl,cn,co,cp,cr,ct,cv,cx,cy,cz,cA,cB,cD,cG,cO,cS,cW,cX,d0,d1,d2,d3,d4,d5,d6,d8,d9,dc,dd,dk,dm,dx,dy,dT]),[]⟩ wx) :
  (db f271 2).wp prog Q ⟨aK (Od (Og ⟨fb,0,Oh⟩)::s1::s2::s3::Od (Og ⟨xb,0,Oh⟩)::s5::N9 Oa (n:Int)::s7::s8::s9::b3::b4::b5::b9::ba::bb::bc::bd::be::bf::bg::[bh,bk,bm,bo,bp,b6,b8,bq,br,bt,bx,c0,c1,c3,c4,c5,c6,c7,c9,ca,cb,cc,cd,ce,cg,ch,ci,cj,ck,cl,cn,co,cp,cr,ct,cv,cx,cy,cz,cA,cB,cD,cG,cO,cS,cW,cX,d0,d1,d2,d3,d4,d5,d6,d8,d9,dc,dd,dk,dm,dx,dy,dT]),[]⟩ W:=by
 refine mOn ?_;generalize Q .normal=K at hQ |-;have HQ:=aa hQ;clear hQ
 conv=>arg 2;whnf
 have hfl:=aG hbx
 have hxl:=aG hxb;have cf:W.drew.cell? ⟨fb,0,Oh⟩=Og (Oc (Og ⟨g,0,Oh⟩) m c):=ae hbx 0;have hS0:ac W.heap.size W W.drew/\W.drew.cell? ⟨fb,0,Oh⟩=Og (Oc (Og ⟨g,0,Oh⟩) m c):=⟨(Below.refl _ _).drew,cf⟩;have keepS:∀{w w':World},(ac W.heap.size W w/\w.cell? ⟨fb,0,Oh⟩=Og (Oc (Og ⟨g,0,Oh⟩) m c))->ac w.heap.size w w'->(ac W.heap.size W w'/\w'.cell? ⟨fb,0,Oh⟩=Og (Oc (Og ⟨g,0,Oh⟩) m c)):=fun hS hb=>⟨ah hS.1 hb,(hb.cell (p:=⟨fb,0,Oh⟩) (World.block_lt_of_cell? _ _ hS.2)).trans hS.2⟩
 have n0:(0:Int)<=(n:Int):=mOm;have n1:(n:Int)<(m:Int):=mOm;refine aD (S:=fun w'=>ac W.heap.size W w'/\w'.cell? ⟨fb,0,Oh⟩=Og (Oc (Og ⟨g,0,Oh⟩) m c)) [(0,true),(1,true),(2,true),(3,true),(4,true),(5,true),(6,true),(7,true),(8,true),(9,true),(10,true),(11,false),(12,true)] hS0 ?_;have hS:=hS0
 iterate 9 refine ak ?_
 refine iO ⟨_,_,_,_,_,_⟩ rfl mRf 293 (.tmp 21) mRf g (n*2) mRf (lu y) _ (fun w hSw j v hv=>(hSw.1.cell (p:=⟨g,n*2+j,Oh⟩) hgl).trans (hra j v hv)) underlying293 rfl mKr ?_;refine ay ?_;refine iO ⟨_,_,_,_,_,_⟩ rfl mRf 293 (.tmp 4) mRf xb 0 mRf (lu x) _ (fun w hSw j v hv=>(hSw.1.cell (p:=⟨xb,0+j,Oh⟩) hxl).trans (by rw[bP,ae hxb];simpa [lu] using hv)) underlying293 rfl mKr ?_;refine ay ?_;refine aJ 288 call288 (Gc y.b y.s x.b x.s hab has has0 _) ?_;rintro x wn⟨rfl,hb⟩;replace hS:=keepS hS hb;refine⟨_,rfl,hS,?_⟩;(try clear hb);refine ay ?_;refine ak ?_;simp only[aQ,aZ];exact HQ.out _ _ _ _ _ _ _ _ _ _ _ _ _ hS.1
theorem MB(fb xb:Nat)(W:World)(Q:Exit->Act->World->Prop)
  (hQ:∀(e4 e5 e6 e7 e8 e9 ea eb ed eg ei ej:Value)(wx:World),ac W.heap.size W wx->Q .normal ⟨aK (Od (Og ⟨fb,0,Oh⟩)::s1::s2::s3::Od (Og ⟨xb,0,Oh⟩)::s5::N9 Oa (-1)::s7::s8::s9::b3::b4::b5::e4::e5::e6::e7::e8::e9::ea::eb::ed::eg::ei::ej::.bool false::[b6,b8,bq,br,bt,bx,c0,c1,c3,c4,c5,c6,c7,c9,ca,cb,cc,cd,ce,cg,ch,ci,cj,ck,cl,cn,co,cp,cr,ct,cv,cx,cy,cz,cA,cB,cD,cG,cO,cS,cW,cX,d0,d1,d2,d3,d4,d5,d6,d8,d9,dc,dd,dk,dm,dx,dy,dT]),[]⟩ wx) :
  (db f271 2).wp prog Q ⟨aK (Od (Og ⟨fb,0,Oh⟩)::s1::s2::s3::Od (Og ⟨xb,0,Oh⟩)::s5::N9 Oa (-1)::s7::s8::s9::b3::b4::b5::b9::ba::bb::bc::bd::be::bf::bg::[bh,bk,bm,bo,bp,b6,b8,bq,br,bt,bx,c0,c1,c3,c4,c5,c6,c7,c9,ca,cb,cc,cd,ce,cg,ch,ci,cj,ck,cl,cn,co,cp,cr,ct,cv,cx,cy,cz,cA,cB,cD,cG,cO,cS,cW,cX,d0,d1,d2,d3,d4,d5,d6,d8,d9,dc,dd,dk,dm,dx,dy,dT]),[]⟩ W:=by
 refine mOn ?_;generalize Q .normal=K at hQ |-;have HQ:=aa hQ;clear hQ
 conv=>arg 2;whnf
 have hS0:ac W.heap.size W W.drew:=(Below.refl _ _).drew
 refine aD (S:=fun w'=>ac W.heap.size W w') [(0,true),(1,true),(2,true),(3,true),(4,true),(5,true),(6,true),(7,true),(8,true),(9,true),(10,true),(11,false),(12,true)] hS0 ?_;have hS:=hS0
 iterate 11 (first|refine ak ?_|refine dw ?_)
 refine jF ⟨_,_,_,_,_,_⟩ rfl mRf hS ?_;refine ay ?_;refine ak ?_;simp only[aQ,aZ];exact HQ.out _ _ _ _ _ _ _ _ _ _ _ _ _ hS
theorem ny{p q:Prop}(h:q) (f:Wq q->p:=by
 intro hq;have g16:=am (L:=L') (i:=7) (j:=16);have g17:=am (L:=L') (i:=7) (j:=17);have g18:=am (L:=L') (i:=7) (j:=18);have g19:=am (L:=L') (i:=7) (j:=19)
 revert g16 g17 g18 g19
 exact hq.1):p:=f ⟨h⟩
theorem nF{p q:Prop}(h:q) (f:Wq q->p:=by
 intro hq;have g16:=fy (L:=L') (i:=16);have g17:=am (L:=L') (i:=16) (j:=17);have g18:=am (L:=L') (i:=16) (j:=18);have g19:=am (L:=L') (i:=16) (j:=19)
 revert g16 g17 g18 g19
 exact hq.1):p:=f ⟨h⟩
theorem nh{p q:Prop}(h:q) (f:Wq q->p:=by
 intro hq;have g16:=am (L:=L') (i:=17) (j:=16);have g17:=fy (L:=L') (i:=17);have g18:=am (L:=L') (i:=17) (j:=18);have g19:=am (L:=L') (i:=17) (j:=19)
 revert g16 g17 g18 g19
 exact hq.1):p:=f ⟨h⟩
theorem nt{p q:Prop}(h:q) (f:Wq q->p:=by
 intro hq;have g16:=am (L:=L') (i:=18) (j:=16);have g17:=am (L:=L') (i:=18) (j:=17);have g18:=fy (L:=L') (i:=18);have g19:=am (L:=L') (i:=18) (j:=19)
 revert g16 g17 g18 g19
 exact hq.1):p:=f ⟨h⟩
theorem nz{p q:Prop}(h:q) (f:Wq q->p:=by
 intro hq;have g16:=am (L:=L') (i:=19) (j:=16);have g17:=am (L:=L') (i:=19) (j:=17);have g18:=am (L:=L') (i:=19) (j:=18);have g19:=fy (L:=L') (i:=19)
 revert g16 g17 g18 g19
 exact hq.1):p:=f ⟨h⟩
theorem Np(fb xb g g2 m c c2 n:Nat)(y x:Blk)(d:ByteArray)(W:World)(Q:Exit->Act->World->Prop)(hbx:W.heap[fb]? = Og (Of #[Oc (Og ⟨g,0,Oh⟩) m c,Oc (Og ⟨g2,0,Oh⟩) m c2] 264 (0,0)))(hxb:W.heap[xb]? = Og (Of #[N9 Oa x.b,N9 Oa x.s] 293 (0,0)))(hra:W.rangeAt g (n*2) (lu y))(hrd:W.cell? ⟨g2,n,Oh⟩=Og (Ob y.d))(hgl:g<W.heap.size)(hgl2:g2<W.heap.size)(hfx:¬fb=xb)(hgx:¬g=xb)(hgx2:¬g2=xb)(hn:n<m)(_hm:m<=10000)(has:y.s<=1099511627776)(had:y.d.size=8)(hd:d.size=8)
  (hQ:∀(e0 e1 e3:Value)(wx:World),aF (fun k=>k=xb) W wx->wx.heap[xb]? = Og (Of #[N9 Oa y.b,N9 Oa (2*(y.s:Int))] 293 (0,0))->Q .normal ⟨aK (Od (Og ⟨fb,0,Oh⟩)::s1::Ob (bw y.d d)::s3::Od (Og ⟨xb,0,Oh⟩)::s5::N9 Oa (n:Int)::s7::s8::s9::b3::b4::b5::b9::ba::bb::bc::bd::be::bf::bg::bh::bk::bm::bo::bp::b6::b8::Od (Og ⟨fb,0,Oh⟩)::Od (Og ⟨fb,0,Oh⟩)::Od (Og ⟨fb,0,Oh⟩)::Oc (Og ⟨g,0,Oh⟩) m c::N9 Oa (n:Int)::Od (Og ⟨g,n*2,Oh⟩)::.agg #[N9 Oa y.b,N9 Oa y.s]::e0::Od (Og ⟨fb,0,Oh⟩)::Od (Og ⟨fb,0,Oh⟩)::Od (Og ⟨fb,1,Oh⟩)::Oc (Og ⟨g2,0,Oh⟩) m c2::N9 Oa (n:Int)::Od (Og ⟨g2,n,Oh⟩)::Ob y.d::Ob d::[e1,e3,ch,ci,cj,ck,cl,cn,co,cp,cr,ct,cv,cx,cy,cz,cA,cB,cD,cG,cO,cS,cW,cX,d0,d1,d2,d3,d4,d5,d6,d8,d9,dc,dd,dk,dm,dx,dy,dT]),[]⟩ wx) :
  (db f271 4).wp prog Q ⟨aK (Od (Og ⟨fb,0,Oh⟩)::s1::Ob d::s3::Od (Og ⟨xb,0,Oh⟩)::s5::N9 Oa (n:Int)::s7::s8::s9::b3::b4::b5::b9::ba::bb::bc::bd::be::bf::bg::[bh,bk,bm,bo,bp,b6,b8,bq,br,bt,bx,c0,c1,c3,c4,c5,c6,c7,c9,ca,cb,cc,cd,ce,cg,ch,ci,cj,ck,cl,cn,co,cp,cr,ct,cv,cx,cy,cz,cA,cB,cD,cG,cO,cS,cW,cX,d0,d1,d2,d3,d4,d5,d6,d8,d9,dc,dd,dk,dm,dx,dy,dT]),[]⟩ W:=by
 refine mOn ?_;generalize Q .normal=K at hQ |-;have HQ:=aa hQ;clear hQ
 conv=>arg 2;whnf
 have hfl:=aG hbx
 have hxl:=aG hxb;have n0:(0:Int)<=(n:Int):=mOm;have n1:(n:Int)<(m:Int):=mOm;refine li (S:=fun w=>aF (fun k=>k=xb) W w) (I:=fun L' a w=>∃e0 e1 e3 u2:Value,a=⟨aK (Od (Og ⟨fb,0,Oh⟩)::s1::u2::s3::Od (Og ⟨xb,0,Oh⟩)::s5::N9 Oa (n:Int)::s7::s8::s9::b3::b4::b5::b9::ba::bb::bc::bd::be::bf::bg::bh::bk::bm::bo::bp::b6::b8::Od (Og ⟨fb,0,Oh⟩)::Od (Og ⟨fb,0,Oh⟩)::Od (Og ⟨fb,0,Oh⟩)::Oc (Og ⟨g,0,Oh⟩) m c::N9 Oa (n:Int)::Od (Og ⟨g,n*2,Oh⟩)::.agg #[N9 Oa y.b,N9 Oa y.s]::e0::Od (Og ⟨fb,0,Oh⟩)::Od (Og ⟨fb,0,Oh⟩)::Od (Og ⟨fb,1,Oh⟩)::Oc (Og ⟨g2,0,Oh⟩) m c2::N9 Oa (n:Int)::Od (Og ⟨g2,n,Oh⟩)::Ob y.d::Ob d::[e1,e3,ch,ci,cj,ck,cl,cn,co,cp,cr,ct,cv,cx,cy,cz,cA,cB,cD,cG,cO,cS,cW,cX,d0,d1,d2,d3,d4,d5,d6,d8,d9,dc,dd,dk,dm,dx,dy,dT]),[]⟩/\(aF (fun k=>k=xb) W w)/\(L'.getD 7 false=true->e0=.agg #[N9 Oa y.b,N9 Oa (2*(y.s:Int))])/\(L'.getD 16 false=true->∃b,e1=Oc (Og ⟨b,0,Oh⟩) 3 3/\W.heap.size<=b/\w.heap[b]? = Og (Of #[Ob ⟨#[4]⟩,Ob y.d,Ob d] 9 (0,0)))/\(L'.getD 17 false=true->e3=Ob (bw y.d d))/\(L'.getD 18 false=true->w.heap[xb]? = Og (Of #[N9 Oa y.b,N9 Oa (2*(y.s:Int))] 293 (0,0)))/\(L'.getD 19 false=true->u2=Ob (bw y.d d))/\(L'.getD 18 false=false->w.heap[xb]? = Og (Of #[N9 Oa x.b,N9 Oa x.s] 293 (0,0)))) (pre:=fun i L'=>L'.size==20&&((i==7)||(i==16)||(i==17&&L'.getD 16 false)||(i==18&&L'.getD 7 false && !L'.getD 18 false)||(i==19&&L'.getD 17 false))) (fin:=fun L'=>L'.getD 19 false&&L'.getD 18 false) [0,1,2,3,4,5,6,8,9,10,11,12,13,14,15] 5 mKr mKr mKr mKr mDe (aF.of (Below.refl _ _).drew) ?_ ?_ ?_
 .intro i L' a w hp hI;obtain⟨e0,e1,e3,u2,rfl,hSw,hP7,hP16,hP17,hP18,hP19,hN⟩:=hI;simp only[aX,fI,beq_iff_eq,gL] at hp;obtain⟨hsz,hp⟩:=hp;rcases hp with ((((rfl|rfl)|⟨rfl,gd16⟩)|⟨⟨rfl,gd7⟩,gn18⟩)|⟨rfl,gd17⟩)
  .have g7:=fy (L:=L') (i:=7);refine ny ?_;intro g16 g17 g18 g19;refine yy ⟨_,_,_,_,_,_⟩ rfl mRf 289 _ _ mRf _ mRf call289 (Gh y.b y.s has _) ?_;rintro e wn⟨rfl,hb⟩;have hSn:=hSw.trans (aF.of hb);exact⟨_,rfl,hSn,(.agg #[N9 Oa y.b,N9 Oa (2*(y.s:Int))]),(e1),(e3),(u2),mPt,hSn,fun _=>rfl,by rw[g16];exact fun e=>(by obtain⟨b,h1,h2,h3⟩:=(hP16 e);exact⟨b,h1,h2,hb.heap_of h3⟩),by rw[g17];exact hP17,by rw[g18];exact fun e=>hb.heap_of (hP18 e),by rw[g19];exact hP19,by rw[g18];exact fun e=>hb.heap_of (hN e)⟩
  .have g7:=am (L:=L') (i:=16) (j:=7);refine nF ?_;intro g16 g17 g18 g19;have hb:ac w.heap.size w (w.alloc (Of #[Ob ⟨#[4]⟩,Ob y.d,Ob d] 9)):=aq _ _;have hSn:=hSw.trans (aF.of hb);refine fl ⟨_,_,_,_,_,_⟩ (Oc (Og ⟨w.heap.size,0,Oh⟩) 3 3) (w.alloc (Of #[Ob ⟨#[4]⟩,Ob y.d,Ob d] 9)) rfl mRf (by go_simp) ?_;exact⟨hSn,(e0),(Oc (Og ⟨w.heap.size,0,Oh⟩) 3 3),(e3),(u2),mPt,hSn,by rw[g7];exact hP7,fun _=>⟨_,rfl,hSw.size,heap_alloc_new _ _⟩,by rw[g17];exact hP17,by rw[g18];exact fun e=>hb.heap_of (hP18 e),by rw[g19];exact hP19,by rw[g18];exact fun e=>hb.heap_of (hN e)⟩
  .have g7:=am (L:=L') (i:=17) (j:=7);refine nh ?_;intro g16 g17 g18 g19;have hD16:=hP16 gd16;obtain⟨b16,rfl,hB16,hb16⟩:=hD16;refine yy ⟨_,_,_,_,_,_⟩ rfl mRf 181 _ _ mRf _ mRf call181 (zw b16 3 y.d d mOm mOm _ hb16) ?_;rintro e wn⟨rfl,hb⟩;have hSn:=hSw.trans (aF.of hb);exact⟨_,rfl,hSn,(e0),(Oc (Og ⟨b16,0,Oh⟩) 3 3),(Ob (bw y.d d)),(u2),mPt,hSn,by rw[g7];exact hP7,by rw[g16];exact fun e=>(by obtain⟨b,h1,h2,h3⟩:=(hP16 e);exact⟨b,h1,h2,hb.heap_of h3⟩),fun _=>rfl,by rw[g18];exact fun e=>hb.heap_of (hP18 e),by rw[g19];exact hP19,by rw[g18];exact fun e=>hb.heap_of (hN e)⟩
  .have g7:=am (L:=L') (i:=18) (j:=7);refine nt ?_;intro g16 g17 g18 g19;have hD7:=hP7 gd7;obtain rfl:=hD7;have hold:=hN gn18;have hg:aF (fun k=>k=xb) w (w.setRow xb #[N9 Oa y.b,N9 Oa (2*(y.s:Int))]):=aF.setRow w xb _;have hSn:=hSw.trans hg;refine di ⟨_,_,_,_,_,_⟩ rfl mRf 293 _ _ mRf xb #[N9 Oa y.b,N9 Oa (2*(y.s:Int))] mRf mRf _ _ hold mKr rfl (by simp[Value.oneCell']) ?_;exact⟨hSn,(.agg #[N9 Oa y.b,N9 Oa (2*(y.s:Int))]),(e1),(e3),(u2),by simp only[Act.put],hSn,by rw[g7];exact hP7,by rw[g16];exact fun e=>(by obtain⟨b,h1,h2,h3⟩:=(hP16 e);exact⟨b,h1,h2,hg.heap h3 mOm⟩),by rw[g17];exact hP17,fun _=>setRow_heap w xb _ _ _ _ hold,by rw[g19];exact hP19,by rw[g18];exact fun e=>absurd e mDe⟩
  .have g7:=am (L:=L') (i:=19) (j:=7);refine nz ?_;intro g16 g17 g18 g19;have hD17:=hP17 gd17;obtain rfl:=hD17;have hSn:=hSw;refine fl ⟨_,_,_,_,_,_⟩ (Ob (bw y.d d)) w rfl mRf (by go_simp) ?_;exact⟨hSn,(e0),(e1),(Ob (bw y.d d)),(Ob (bw y.d d)),mPt,hSn,by rw[g7];exact hP7,by rw[g16];exact hP16,by rw[g17];exact hP17,by rw[g18];exact hP18,fun _=>rfl,by rw[g18];exact hN⟩
 .intro L' a w hp hI;obtain⟨e0,e1,e3,u2,rfl,hSw,hP7,hP16,hP17,hP18,hP19,hN⟩:=hI
  (try simp only[aX] at hp)
  obtain⟨p19,p18⟩:=hp;obtain rfl:=hP19 p19;exact HQ.out _ _ _ w hSw (hP18 p18)
 .refine cq ⟨_,_,_,_,_,_⟩ ?_ rfl mRf ?_ ?_
  rotate_left 1
  .intro w hSw;(try dsimp only at hSw);go_simp;(try with_reducible rfl)
  refine ay ?_
  refine cq ⟨_,_,_,_,_,_⟩ ?_ rfl mRf ?_ ?_
  rotate_left 1
  .intro w hSw;(try dsimp only at hSw);go_simp;(try with_reducible rfl)
  refine ay ?_
  refine cq ⟨_,_,_,_,_,_⟩ ?_ rfl mRf ?_ ?_
  rotate_left 1
  .intro w hSw;(try dsimp only at hSw);go_simp;(try with_reducible rfl)
  refine ay ?_
  refine cq ⟨_,_,_,_,_,_⟩ ?_ rfl mRf ?_ ?_
  rotate_left 1
  .intro w hSw;(try dsimp only at hSw);have hc:=(hSw.cell hfl hfx 0 Oh).trans (ae hbx 0);go_simp;(try with_reducible rfl)
  refine ay ?_
  refine cq ⟨_,_,_,_,_,_⟩ ?_ rfl mRf ?_ ?_
  rotate_left 1
  .intro w hSw;(try dsimp only at hSw);go_simp;(try with_reducible rfl)
  refine ay ?_
  refine cq ⟨_,_,_,_,_,_⟩ ?_ rfl mRf ?_ ?_
  rotate_left 1
  .intro w hSw;(try dsimp only at hSw);go_simp;(try with_reducible rfl)
  refine ay ?_
  refine vE ⟨_,_,_,_,_,_⟩ rfl mRf 293 (.tmp 33) mRf g (n*2) mRf (lu y) _ (fun w hSw j v hv=>(hSw.cell hgl hgx _ _).trans (hra j v hv)) underlying293 rfl mKr ?_;refine ay ?_;refine cq ⟨_,_,_,_,_,_⟩ ?_ rfl mRf ?_ ?_
  rotate_left 1
  .intro w hSw;(try dsimp only at hSw);go_simp;(try with_reducible rfl)
  refine ay ?_
  refine cq ⟨_,_,_,_,_,_⟩ ?_ rfl mRf ?_ ?_
  rotate_left 1
  .intro w hSw;(try dsimp only at hSw);go_simp;(try with_reducible rfl)
  refine ay ?_
  refine cq ⟨_,_,_,_,_,_⟩ ?_ rfl mRf ?_ ?_
  rotate_left 1
  .intro w hSw;(try dsimp only at hSw);go_simp;(try with_reducible rfl)
  refine ay ?_
  refine cq ⟨_,_,_,_,_,_⟩ ?_ rfl mRf ?_ ?_
  rotate_left 1
  .intro w hSw;(try dsimp only at hSw);have hc:=(hSw.cell hfl hfx 1 Oh).trans (ae hbx 1);go_simp;(try with_reducible rfl)
  refine ay ?_
  refine cq ⟨_,_,_,_,_,_⟩ ?_ rfl mRf ?_ ?_
  rotate_left 1
  .intro w hSw;(try dsimp only at hSw);go_simp;(try with_reducible rfl)
  refine ay ?_
  refine cq ⟨_,_,_,_,_,_⟩ ?_ rfl mRf ?_ ?_
  rotate_left 1
  .intro w hSw;(try dsimp only at hSw);go_simp;(try with_reducible rfl)
  refine ay ?_
  refine cq ⟨_,_,_,_,_,_⟩ ?_ rfl mRf ?_ ?_
  rotate_left 1
  .intro w hSw;(try dsimp only at hSw);have hc:=(hSw.cell hgl2 hgx2 n Oh).trans hrd;go_simp;(try with_reducible rfl)
  refine ay ?_
  refine cq ⟨_,_,_,_,_,_⟩ ?_ rfl mRf ?_ ?_
  rotate_left 1
  .intro w hSw;(try dsimp only at hSw);go_simp;(try with_reducible rfl)
  refine ay ?_
  exact⟨_,_,_,_,rfl,(aF.of (Below.refl _ _).drew),(fun e=>absurd e (by decide +kernel)),(fun e=>absurd e (by decide +kernel)),(fun e=>absurd e (by decide +kernel)),(fun e=>absurd e (by decide +kernel)),(fun e=>absurd e (by decide +kernel)),(fun _=>hxb)⟩
theorem iF{p q:Prop}(h:q) (f:Wq q->p:=by
 intro hq;have hSn:=hSw;refine fl ⟨_,_,_,_,_,_⟩ (Od (Og ⟨fb,0,Oh⟩)) w rfl mRf (by go_simp) ?_
 revert hSn
 exact hq.1):p:=f ⟨h⟩
theorem qH{p q:Prop}(h:q) (f:Wq q->p:=by
 intro hq;have g14:=am (L:=L') (i:=5) (j:=14);have g15:=am (L:=L') (i:=5) (j:=15);have g16:=am (L:=L') (i:=5) (j:=16);have g17:=am (L:=L') (i:=5) (j:=17);have g18:=am (L:=L') (i:=5) (j:=18);have g19:=am (L:=L') (i:=5) (j:=19)
 revert g14 g15 g16 g17 g18 g19
 exact hq.1):p:=f ⟨h⟩
theorem qM{p q:Prop}(h:q) (f:Wq q->p:=by
 intro hq;have g14:=fy (L:=L') (i:=14);have g15:=am (L:=L') (i:=14) (j:=15);have g16:=am (L:=L') (i:=14) (j:=16);have g17:=am (L:=L') (i:=14) (j:=17);have g18:=am (L:=L') (i:=14) (j:=18);have g19:=am (L:=L') (i:=14) (j:=19)
 revert g14 g15 g16 g17 g18 g19
 exact hq.1):p:=f ⟨h⟩
theorem qU{p q:Prop}(h:q) (f:Wq q->p:=by
 intro hq;have g14:=am (L:=L') (i:=15) (j:=14);have g15:=fy (L:=L') (i:=15);have g16:=am (L:=L') (i:=15) (j:=16);have g17:=am (L:=L') (i:=15) (j:=17);have g18:=am (L:=L') (i:=15) (j:=18);have g19:=am (L:=L') (i:=15) (j:=19)
 revert g14 g15 g16 g17 g18 g19
 exact hq.1):p:=f ⟨h⟩
theorem Nq(fb g g2 m c c2 n:Nat)(W:World)(Q:Exit->Act->World->Prop)(hbx:W.heap[fb]? = Og (Of #[Oc (Og ⟨g,0,Oh⟩) m c,Oc (Og ⟨g2,0,Oh⟩) m c2] 264 (0,0)))(hn:n<m)(_hm:m<=10000)(hmc:m<=c)(hmc2:m<=c2)
  (hQ:∀(ab ad af ag ao b0 b1 b2:Value)(wx:World),aF (fun k=>k=fb) W wx->wx.heap[fb]? = Og (Of #[Oc (Og ⟨g,0,Oh⟩) n c,Oc (Og ⟨g2,0,Oh⟩) n c2] 264 (0,0))->Q .normal ⟨aK (Od (Og ⟨fb,0,Oh⟩)::s1::s2::s3::s4::s5::N9 Oa (n:Int)::s7::s8::s9::b3::b4::b5::b9::ba::bb::bc::bd::be::bf::bg::bh::bk::bm::bo::bp::b6::b8::bq::br::bt::bx::c0::c1::c3::c4::c5::c6::c7::c9::ca::cb::cc::cd::ce::cg::Od (Og ⟨fb,0,Oh⟩)::Od (Og ⟨fb,0,Oh⟩)::Od (Og ⟨fb,0,Oh⟩)::Od (Og ⟨fb,0,Oh⟩)::Od (Og ⟨fb,0,Oh⟩)::ab::N9 Oa (n:Int)::ad::Od (Og ⟨fb,0,Oh⟩)::Od (Og ⟨fb,0,Oh⟩)::Od (Og ⟨fb,1,Oh⟩)::af::N9 Oa (n:Int)::[ag,ao,b0,b1,b2,cO,cS,cW,cX,d0,d1,d2,d3,d4,d5,d6,d8,d9,dc,dd,dk,dm,dx,dy,dT]),[]⟩ wx) :
  (db f271 5).wp prog Q ⟨aK (Od (Og ⟨fb,0,Oh⟩)::s1::s2::s3::s4::s5::N9 Oa (n:Int)::s7::s8::s9::b3::b4::b5::b9::ba::bb::bc::bd::be::bf::bg::[bh,bk,bm,bo,bp,b6,b8,bq,br,bt,bx,c0,c1,c3,c4,c5,c6,c7,c9,ca,cb,cc,cd,ce,cg,ch,ci,cj,ck,cl,cn,co,cp,cr,ct,cv,cx,cy,cz,cA,cB,cD,cG,cO,cS,cW,cX,d0,d1,d2,d3,d4,d5,d6,d8,d9,dc,dd,dk,dm,dx,dy,dT]),[]⟩ W:=by
 refine mOn ?_;generalize Q .normal=K at hQ |-;have HQ:=aa hQ;clear hQ
 conv=>arg 2;whnf
 have n0:(0:Int)<=(n:Int):=mOm
 have n1:(n:Int)<=(m:Int):=mOm;have n2:¬c<n:=mOm;have n3:¬c2<n:=mOm;refine li (S:=fun w=>aF (fun k=>k=fb) W w) (I:=fun L' a w=>∃ab ad af ag ao b0 b1 b2:Value,a=⟨aK (Od (Og ⟨fb,0,Oh⟩)::s1::s2::s3::s4::s5::N9 Oa (n:Int)::s7::s8::s9::b3::b4::b5::b9::ba::bb::bc::bd::be::bf::bg::bh::bk::bm::bo::bp::b6::b8::bq::br::bt::bx::c0::c1::c3::c4::c5::c6::c7::c9::ca::cb::cc::cd::ce::cg::Od (Og ⟨fb,0,Oh⟩)::Od (Og ⟨fb,0,Oh⟩)::Od (Og ⟨fb,0,Oh⟩)::Od (Og ⟨fb,0,Oh⟩)::Od (Og ⟨fb,0,Oh⟩)::ab::N9 Oa (n:Int)::ad::Od (Og ⟨fb,0,Oh⟩)::Od (Og ⟨fb,0,Oh⟩)::Od (Og ⟨fb,1,Oh⟩)::af::N9 Oa (n:Int)::[ag,ao,b0,b1,b2,cO,cS,cW,cX,d0,d1,d2,d3,d4,d5,d6,d8,d9,dc,dd,dk,dm,dx,dy,dT]),[]⟩/\(aF (fun k=>k=fb) W w)/\(L'.getD 5 false=true->ab=Oc (Og ⟨g,0,Oh⟩) m c)/\(L'.getD 7 false=true->ad=Oc (Og ⟨g,0,Oh⟩) n c)/\(L'.getD 11 false=true->af=Oc (Og ⟨g2,0,Oh⟩) m c2)/\(L'.getD 13 false=true->ag=Oc (Og ⟨g2,0,Oh⟩) n c2)/\(L'.getD 14 false=true->ao=Od (Og ⟨fb,0,Oh⟩))/\(L'.getD 15 false=true->b0=Od (Og ⟨fb,0,Oh⟩))/\(L'.getD 16 false=true->L'.getD 19 false=false->w.heap[fb]? = Og (Of #[Oc (Og ⟨g,0,Oh⟩) n c,Oc (Og ⟨g2,0,Oh⟩) m c2] 264 (0,0)))/\(L'.getD 17 false=true->b1=Od (Og ⟨fb,0,Oh⟩))/\(L'.getD 18 false=true->b2=Od (Og ⟨fb,1,Oh⟩))/\(L'.getD 19 false=true->w.heap[fb]? = Og (Of #[Oc (Og ⟨g,0,Oh⟩) n c,Oc (Og ⟨g2,0,Oh⟩) n c2] 264 (0,0)))/\(L'.getD 16 false=false->w.heap[fb]? = Og (Of #[Oc (Og ⟨g,0,Oh⟩) m c,Oc (Og ⟨g2,0,Oh⟩) m c2] 264 (0,0)))) (pre:=fun i L'=>L'.size==20&&((i==5 && !L'.getD 16 false)||(i==7&&L'.getD 5 false)||(i==11 && !L'.getD 16 false)||(i==13&&L'.getD 11 false)||(i==14)||(i==15&&L'.getD 14 false)||(i==16&&L'.getD 7 false&&L'.getD 15 false && !L'.getD 16 false && !L'.getD 19 false)||(i==17)||(i==18&&L'.getD 17 false)||(i==19&&L'.getD 13 false&&L'.getD 18 false&&L'.getD 16 false && !L'.getD 19 false))) (fin:=fun L'=>L'.getD 19 false) [0,1,2,3,4,6,8,9,10,12] 10 mKr mKr mKr mKr mDe (aF.of (Below.refl _ _).drew) ?_ ?_ ?_
 .intro i L' a w hp hI;obtain⟨ab,ad,af,ag,ao,b0,b1,b2,rfl,hSw,hP5,hP7,hP11,hP13,hP14,hP15,hP16,hP17,hP18,hP19,hN0⟩:=hI;simp only[aX,fI,beq_iff_eq,gL] at hp;obtain⟨hsz,hp⟩:=hp;rcases hp with (((((((((⟨rfl,gn16⟩|⟨rfl,gd5⟩)|⟨rfl,gn16⟩)|⟨rfl,gd11⟩)|rfl)|⟨rfl,gd14⟩)|⟨⟨⟨⟨rfl,gd7⟩,gd15⟩,gn16⟩,gn19⟩)|rfl)|⟨rfl,gd17⟩)|⟨⟨⟨⟨rfl,gd13⟩,gd18⟩,gd16⟩,gn19⟩)
  .have g5:=fy (L:=L') (i:=5);have g7:=am (L:=L') (i:=5) (j:=7);have g11:=am (L:=L') (i:=5) (j:=11);have g13:=am (L:=L') (i:=5) (j:=13);refine qH ?_;intro g14 g15 g16 g17 g18 g19;have hcc:=ae (hN0 gn16) 0;have hSn:=hSw;refine fl ⟨_,_,_,_,_,_⟩ (Oc (Og ⟨g,0,Oh⟩) m c) w rfl mRf (by go_simp) ?_;exact⟨hSn,(Oc (Og ⟨g,0,Oh⟩) m c),(ad),(af),(ag),(ao),(b0),(b1),(b2),mPt,hSn,fun _=>rfl,by rw[g7];exact hP7,by rw[g11];exact hP11,by rw[g13];exact hP13,by rw[g14];exact hP14,by rw[g15];exact hP15,by rw[g16,g19];exact fun e e2=>absurd (e.symm.trans gn16) mDe,by rw[g17];exact hP17,by rw[g18];exact hP18,by rw[g19];exact hP19,by rw[g16];exact hN0⟩
  .have g5:=am (L:=L') (i:=7) (j:=5);have g7:=fy (L:=L') (i:=7);have g11:=am (L:=L') (i:=7) (j:=11);have g13:=am (L:=L') (i:=7) (j:=13);have g14:=am (L:=L') (i:=7) (j:=14);have g15:=am (L:=L') (i:=7) (j:=15);refine ny ?_;intro g16 g17 g18 g19;have hD5:=hP5 gd5;obtain rfl:=hD5;have hSn:=hSw;refine fl ⟨_,_,_,_,_,_⟩ (Oc (Og ⟨g,0,Oh⟩) n c) w rfl mRf (by go_simp) ?_;exact⟨hSn,(Oc (Og ⟨g,0,Oh⟩) m c),(Oc (Og ⟨g,0,Oh⟩) n c),(af),(ag),(ao),(b0),(b1),(b2),mPt,hSn,by rw[g5];exact hP5,fun _=>rfl,by rw[g11];exact hP11,by rw[g13];exact hP13,by rw[g14];exact hP14,by rw[g15];exact hP15,by rw[g16,g19];exact hP16,by rw[g17];exact hP17,by rw[g18];exact hP18,by rw[g19];exact hP19,by rw[g16];exact hN0⟩
  .have g5:=am (L:=L') (i:=11) (j:=5);have g7:=am (L:=L') (i:=11) (j:=7);have g11:=fy (L:=L') (i:=11);have g13:=am (L:=L') (i:=11) (j:=13);have g14:=am (L:=L') (i:=11) (j:=14);have g15:=am (L:=L') (i:=11) (j:=15);have g16:=am (L:=L') (i:=11) (j:=16);have g17:=am (L:=L') (i:=11) (j:=17);have g18:=am (L:=L') (i:=11) (j:=18);have g19:=am (L:=L') (i:=11) (j:=19);have hcc:=ae (hN0 gn16) 1;have hSn:=hSw;refine fl ⟨_,_,_,_,_,_⟩ (Oc (Og ⟨g2,0,Oh⟩) m c2) w rfl mRf (by go_simp) ?_;exact⟨hSn,(ab),(ad),(Oc (Og ⟨g2,0,Oh⟩) m c2),(ag),(ao),(b0),(b1),(b2),mPt,hSn,by rw[g5];exact hP5,by rw[g7];exact hP7,fun _=>rfl,by rw[g13];exact hP13,by rw[g14];exact hP14,by rw[g15];exact hP15,by rw[g16,g19];exact fun e e2=>absurd (e.symm.trans gn16) mDe,by rw[g17];exact hP17,by rw[g18];exact hP18,by rw[g19];exact hP19,by rw[g16];exact hN0⟩
  .have g5:=am (L:=L') (i:=13) (j:=5);have g7:=am (L:=L') (i:=13) (j:=7);have g11:=am (L:=L') (i:=13) (j:=11);have g13:=fy (L:=L') (i:=13);have g14:=am (L:=L') (i:=13) (j:=14);have g15:=am (L:=L') (i:=13) (j:=15);have g16:=am (L:=L') (i:=13) (j:=16);have g17:=am (L:=L') (i:=13) (j:=17);have g18:=am (L:=L') (i:=13) (j:=18);have g19:=am (L:=L') (i:=13) (j:=19);have hD11:=hP11 gd11;obtain rfl:=hD11;have hSn:=hSw;refine fl ⟨_,_,_,_,_,_⟩ (Oc (Og ⟨g2,0,Oh⟩) n c2) w rfl mRf (by go_simp) ?_;exact⟨hSn,(ab),(ad),(Oc (Og ⟨g2,0,Oh⟩) m c2),(Oc (Og ⟨g2,0,Oh⟩) n c2),(ao),(b0),(b1),(b2),mPt,hSn,by rw[g5];exact hP5,by rw[g7];exact hP7,by rw[g11];exact hP11,fun _=>rfl,by rw[g14];exact hP14,by rw[g15];exact hP15,by rw[g16,g19];exact hP16,by rw[g17];exact hP17,by rw[g18];exact hP18,by rw[g19];exact hP19,by rw[g16];exact hN0⟩
  .have g5:=am (L:=L') (i:=14) (j:=5);have g7:=am (L:=L') (i:=14) (j:=7);have g11:=am (L:=L') (i:=14) (j:=11);have g13:=am (L:=L') (i:=14) (j:=13);refine qM ?_;intro g14 g15 g16 g17 g18 g19;refine iF ?_;intro hSn;exact⟨hSn,(ab),(ad),(af),(ag),(Od (Og ⟨fb,0,Oh⟩)),(b0),(b1),(b2),mPt,hSn,by rw[g5];exact hP5,by rw[g7];exact hP7,by rw[g11];exact hP11,by rw[g13];exact hP13,fun _=>rfl,by rw[g15];exact hP15,by rw[g16,g19];exact hP16,by rw[g17];exact hP17,by rw[g18];exact hP18,by rw[g19];exact hP19,by rw[g16];exact hN0⟩
  .have g5:=am (L:=L') (i:=15) (j:=5);have g7:=am (L:=L') (i:=15) (j:=7);have g11:=am (L:=L') (i:=15) (j:=11);have g13:=am (L:=L') (i:=15) (j:=13);refine qU ?_;intro g14 g15 g16 g17 g18 g19;have hD14:=hP14 gd14;obtain rfl:=hD14;refine iF ?_;intro hSn;exact⟨hSn,(ab),(ad),(af),(ag),(Od (Og ⟨fb,0,Oh⟩)),(Od (Og ⟨fb,0,Oh⟩)),(b1),(b2),mPt,hSn,by rw[g5];exact hP5,by rw[g7];exact hP7,by rw[g11];exact hP11,by rw[g13];exact hP13,by rw[g14];exact hP14,fun _=>rfl,by rw[g16,g19];exact hP16,by rw[g17];exact hP17,by rw[g18];exact hP18,by rw[g19];exact hP19,by rw[g16];exact hN0⟩
  .have g5:=am (L:=L') (i:=16) (j:=5);have g7:=am (L:=L') (i:=16) (j:=7);have g11:=am (L:=L') (i:=16) (j:=11);have g13:=am (L:=L') (i:=16) (j:=13);have g14:=am (L:=L') (i:=16) (j:=14);have g15:=am (L:=L') (i:=16) (j:=15);refine nF ?_;intro g16 g17 g18 g19;have hD7:=hP7 gd7;obtain rfl:=hD7;have hD15:=hP15 gd15;obtain rfl:=hD15;have hold:=hN0 gn16;have hc:=ae hold 0;have hf:=aE hold 0;have hg:aF (fun k=>k=fb) w (w.setCell ⟨fb,0,Oh⟩ (Oc (Og ⟨g,0,Oh⟩) n c)):=aF.set (S:=fun k=>k=fb) w rfl 0 _;have hSn:=hSw.trans hg;refine vD ⟨_,_,_,_,_,_⟩ (w.setCell ⟨fb,0,Oh⟩ (Oc (Og ⟨g,0,Oh⟩) n c)) rfl mRf (by go_simp) ?_;exact⟨hSn,(ab),(Oc (Og ⟨g,0,Oh⟩) n c),(af),(ag),(ao),(Od (Og ⟨fb,0,Oh⟩)),(b1),(b2),by simp only[Act.put],hSn,by rw[g5];exact hP5,by rw[g7];exact hP7,by rw[g11];exact hP11,by rw[g13];exact hP13,by rw[g14];exact hP14,by rw[g15];exact hP15,fun _ _=>bj hold 0 _,by rw[g17];exact hP17,by rw[g18];exact hP18,by rw[g19];exact fun e=>absurd (e.symm.trans gn19) mDe,by rw[g16];exact fun e=>absurd e mDe⟩
  .have g5:=am (L:=L') (i:=17) (j:=5);have g7:=am (L:=L') (i:=17) (j:=7);have g11:=am (L:=L') (i:=17) (j:=11);have g13:=am (L:=L') (i:=17) (j:=13);have g14:=am (L:=L') (i:=17) (j:=14);have g15:=am (L:=L') (i:=17) (j:=15);refine nh ?_;intro g16 g17 g18 g19;refine iF ?_;intro hSn;exact⟨hSn,(ab),(ad),(af),(ag),(ao),(b0),(Od (Og ⟨fb,0,Oh⟩)),(b2),mPt,hSn,by rw[g5];exact hP5,by rw[g7];exact hP7,by rw[g11];exact hP11,by rw[g13];exact hP13,by rw[g14];exact hP14,by rw[g15];exact hP15,by rw[g16,g19];exact hP16,fun _=>rfl,by rw[g18];exact hP18,by rw[g19];exact hP19,by rw[g16];exact hN0⟩
  .have g5:=am (L:=L') (i:=18) (j:=5);have g7:=am (L:=L') (i:=18) (j:=7);have g11:=am (L:=L') (i:=18) (j:=11);have g13:=am (L:=L') (i:=18) (j:=13);have g14:=am (L:=L') (i:=18) (j:=14);have g15:=am (L:=L') (i:=18) (j:=15);refine nt ?_;intro g16 g17 g18 g19;have hD17:=hP17 gd17;obtain rfl:=hD17;have hSn:=hSw;refine fl ⟨_,_,_,_,_,_⟩ (Od (Og ⟨fb,1,Oh⟩)) w rfl mRf (by go_simp) ?_;exact⟨hSn,(ab),(ad),(af),(ag),(ao),(b0),(Od (Og ⟨fb,0,Oh⟩)),(Od (Og ⟨fb,1,Oh⟩)),mPt,hSn,by rw[g5];exact hP5,by rw[g7];exact hP7,by rw[g11];exact hP11,by rw[g13];exact hP13,by rw[g14];exact hP14,by rw[g15];exact hP15,by rw[g16,g19];exact hP16,by rw[g17];exact hP17,fun _=>rfl,by rw[g19];exact hP19,by rw[g16];exact hN0⟩
  .have g5:=am (L:=L') (i:=19) (j:=5);have g7:=am (L:=L') (i:=19) (j:=7);have g11:=am (L:=L') (i:=19) (j:=11);have g13:=am (L:=L') (i:=19) (j:=13);have g14:=am (L:=L') (i:=19) (j:=14);have g15:=am (L:=L') (i:=19) (j:=15);refine nz ?_;intro g16 g17 g18 g19;have hD13:=hP13 gd13;obtain rfl:=hD13;have hD18:=hP18 gd18;obtain rfl:=hD18;have hD16:=hP16 gd16 gn19;have hold:=hD16;have hc:=ae hold 1;have hf:=aE hold 1;have hg:aF (fun k=>k=fb) w (w.setCell ⟨fb,1,Oh⟩ (Oc (Og ⟨g2,0,Oh⟩) n c2)):=aF.set (S:=fun k=>k=fb) w rfl 1 _;have hSn:=hSw.trans hg;refine vD ⟨_,_,_,_,_,_⟩ (w.setCell ⟨fb,1,Oh⟩ (Oc (Og ⟨g2,0,Oh⟩) n c2)) rfl mRf (by go_simp) ?_;exact⟨hSn,(ab),(ad),(af),(Oc (Og ⟨g2,0,Oh⟩) n c2),(ao),(b0),(b1),(Od (Og ⟨fb,1,Oh⟩)),by simp only[Act.put],hSn,by rw[g5];exact hP5,by rw[g7];exact hP7,by rw[g11];exact hP11,by rw[g13];exact hP13,by rw[g14];exact hP14,by rw[g15];exact hP15,by rw[g19];exact fun _ e=>absurd e mDe,by rw[g17];exact hP17,by rw[g18];exact hP18,fun _=>bj hold 1 _,by rw[g16];exact fun e=>absurd (gd16.symm.trans e) mDe⟩
 .intro L' a w hp hI;obtain⟨ab,ad,af,ag,ao,b0,b1,b2,rfl,hSw,hP5,hP7,hP11,hP13,hP14,hP15,hP16,hP17,hP18,hP19,hN0⟩:=hI
  (try simp only[aX] at hp)
  have p19:=hp;obtain hfin:=hP19 p19;exact HQ.out _ _ _ _ _ _ _ _ w hSw hfin
 .refine cq ⟨_,_,_,_,_,_⟩ ?_ rfl mRf ?_ ?_
  rotate_left 1
  .intro w hSw;(try dsimp only at hSw);go_simp;(try with_reducible rfl)
  refine ay ?_
  refine cq ⟨_,_,_,_,_,_⟩ ?_ rfl mRf ?_ ?_
  rotate_left 1
  .intro w hSw;(try dsimp only at hSw);go_simp;(try with_reducible rfl)
  refine ay ?_
  refine cq ⟨_,_,_,_,_,_⟩ ?_ rfl mRf ?_ ?_
  rotate_left 1
  .intro w hSw;(try dsimp only at hSw);go_simp;(try with_reducible rfl)
  refine ay ?_
  refine cq ⟨_,_,_,_,_,_⟩ ?_ rfl mRf ?_ ?_
  rotate_left 1
  .intro w hSw;(try dsimp only at hSw);go_simp;(try with_reducible rfl)
  refine ay ?_
  refine cq ⟨_,_,_,_,_,_⟩ ?_ rfl mRf ?_ ?_
  rotate_left 1
  .intro w hSw;(try dsimp only at hSw);go_simp;(try with_reducible rfl)
  refine ay ?_
  refine cq ⟨_,_,_,_,_,_⟩ ?_ rfl mRf ?_ ?_
  rotate_left 1
  .intro w hSw;(try dsimp only at hSw);go_simp;(try with_reducible rfl)
  refine ay ?_
  refine cq ⟨_,_,_,_,_,_⟩ ?_ rfl mRf ?_ ?_
  rotate_left 1
  .intro w hSw;(try dsimp only at hSw);go_simp;(try with_reducible rfl)
  refine ay ?_
  refine cq ⟨_,_,_,_,_,_⟩ ?_ rfl mRf ?_ ?_
  rotate_left 1
  .intro w hSw;(try dsimp only at hSw);go_simp;(try with_reducible rfl)
  refine ay ?_
  refine cq ⟨_,_,_,_,_,_⟩ ?_ rfl mRf ?_ ?_
  rotate_left 1
  .intro w hSw;(try dsimp only at hSw);go_simp;(try with_reducible rfl)
  refine ay ?_
  refine cq ⟨_,_,_,_,_,_⟩ ?_ rfl mRf ?_ ?_
  rotate_left 1
  .intro w hSw;(try dsimp only at hSw);go_simp;(try with_reducible rfl)
  refine ay ?_
  exact⟨_,_,_,_,_,_,_,_,rfl,(aF.of (Below.refl _ _).drew),(fun e=>absurd e (by decide +kernel)),(fun e=>absurd e (by decide +kernel)),(fun e=>absurd e (by decide +kernel)),(fun e=>absurd e (by decide +kernel)),(fun e=>absurd e (by decide +kernel)),(fun e=>absurd e (by decide +kernel)),(fun e=>absurd e (by decide +kernel)),(fun e=>absurd e (by decide +kernel)),(fun e=>absurd e (by decide +kernel)),(fun e=>absurd e (by decide +kernel)),(fun _=>hbx)⟩
theorem Lf(fb xb:Nat)(bv dv:Value)(M:List Blk)(z:Blk)(W:World)(Q:Exit->Act->World->Prop)(hF:fu fb bv dv M W)(hxb:W.heap[xb]? = Og (Of #[N9 Oa z.b,N9 Oa z.s] 293 (0,0)))(hxs:¬gU fb bv dv xb)
  (hQ:∀(a2 a3 a0 a4 a5 a1 a6 a7 a8 a9:Value)(wx:World),aF (gU fb bv dv) W wx->wx.heap[fb]? = Og (Of #[a0,a1] 264 (0,0))->(wx.ownsRow (fb+1) 293 2 a0 (M++[z]).length (aN lu (M++[z]))/\(∀q,a0.ownBlock=Og q->bv.ownBlock=Og q\/W.heap.size<=q))->(wx.ownsRow (fb+1) 9 1 a1 (M++[z]).length (aN pR (M++[z]))/\(∀q,a1.ownBlock=Og q->dv.ownBlock=Og q\/W.heap.size<=q))->Q .normal ⟨aK (Od (Og ⟨fb,0,Oh⟩)::s1::Ob z.d::s3::Od (Og ⟨xb,0,Oh⟩)::s5::s6::s7::s8::s9::b3::b4::b5::b9::ba::bb::bc::bd::be::bf::bg::bh::bk::bm::bo::bp::b6::b8::bq::br::bt::bx::c0::c1::c3::c4::c5::c6::c7::c9::ca::cb::cc::cd::ce::cg::ch::ci::cj::ck::cl::cn::co::cp::cr::ct::cv::cx::cy::cz::cA::cB::cD::cG::Od (Og ⟨fb,0,Oh⟩)::Od (Og ⟨fb,0,Oh⟩)::Od (Og ⟨fb,0,Oh⟩)::Od (Og ⟨fb,0,Oh⟩)::Od (Og ⟨fb,0,Oh⟩)::a2::.agg #[N9 Oa z.b,N9 Oa z.s]::a3::a0::Od (Og ⟨fb,0,Oh⟩)::Od (Og ⟨fb,0,Oh⟩)::Od (Og ⟨fb,1,Oh⟩)::a4::Ob z.d::[a5,a1,a6,a7,a8,a9]),[]⟩ wx) :
  (db f271 6).wp prog Q ⟨aK (Od (Og ⟨fb,0,Oh⟩)::s1::Ob z.d::s3::Od (Og ⟨xb,0,Oh⟩)::s5::s6::s7::s8::s9::b3::b4::b5::b9::ba::bb::bc::bd::be::bf::bg::[bh,bk,bm,bo,bp,b6,b8,bq,br,bt,bx,c0,c1,c3,c4,c5,c6,c7,c9,ca,cb,cc,cd,ce,cg,ch,ci,cj,ck,cl,cn,co,cp,cr,ct,cv,cx,cy,cz,cA,cB,cD,cG,cO,cS,cW,cX,d0,d1,d2,d3,d4,d5,d6,d8,d9,dc,dd,dk,dm,dx,dy,dT]),[]⟩ W:=by
 refine mOn ?_;generalize Q .normal=K at hQ |-;have HQ:=aa hQ;clear hQ
 conv=>arg 2;whnf
 have hfl:=aG hF.box
 have hxl:=aG hxb;have hM:=hF.few;have hbo:∀q,bv.ownBlock=Og q->fb+1<=q/\q<W.heap.size:=fun q hq=>hF.bs.lt q hq
 have hdo:∀q,dv.ownBlock=Og q->fb+1<=q/\q<W.heap.size:=fun q hq=>hF.ds.lt q hq
 have hbd:∀q,bv.ownBlock=Og q->dv.ownBlock=Og q->False:=hF.apart;refine li (S:=fun w=>aF (gU fb bv dv) W w) (I:=fun L' a w=>∃a2 a3 a0 a4 a5 a1 a6 a7 a8 a9:Value,a=⟨aK (Od (Og ⟨fb,0,Oh⟩)::s1::Ob z.d::s3::Od (Og ⟨xb,0,Oh⟩)::s5::s6::s7::s8::s9::b3::b4::b5::b9::ba::bb::bc::bd::be::bf::bg::bh::bk::bm::bo::bp::b6::b8::bq::br::bt::bx::c0::c1::c3::c4::c5::c6::c7::c9::ca::cb::cc::cd::ce::cg::ch::ci::cj::ck::cl::cn::co::cp::cr::ct::cv::cx::cy::cz::cA::cB::cD::cG::Od (Og ⟨fb,0,Oh⟩)::Od (Og ⟨fb,0,Oh⟩)::Od (Og ⟨fb,0,Oh⟩)::Od (Og ⟨fb,0,Oh⟩)::Od (Og ⟨fb,0,Oh⟩)::a2::.agg #[N9 Oa z.b,N9 Oa z.s]::a3::a0::Od (Og ⟨fb,0,Oh⟩)::Od (Og ⟨fb,0,Oh⟩)::Od (Og ⟨fb,1,Oh⟩)::a4::Ob z.d::[a5,a1,a6,a7,a8,a9]),[]⟩/\(aF (gU fb bv dv) W w)/\(L'.getD 5 false=true->bv=a2)/\(L'.getD 7 false=true->L'.getD 8 false=false->∃b,a3=Oc (Og ⟨b,0,Oh⟩) 1 1/\W.heap.size<=b/\w.heap[b]? = Og (Of #[N9 Oa z.b,N9 Oa z.s] 293 (0,0)))/\(L'.getD 8 false=true->w.ownsRow (fb+1) 293 2 a0 (M++[z]).length (aN lu (M++[z]))/\(∀q,a0.ownBlock=Og q->bv.ownBlock=Og q\/W.heap.size<=q))/\(L'.getD 12 false=true->dv=a4)/\(L'.getD 14 false=true->L'.getD 15 false=false->∃b,a5=Oc (Og ⟨b,0,Oh⟩) 1 1/\W.heap.size<=b/\w.heap[b]? = Og (Of #[Ob z.d] 9 (0,0)))/\(L'.getD 15 false=true->w.ownsRow (fb+1) 9 1 a1 (M++[z]).length (aN pR (M++[z]))/\(∀q,a1.ownBlock=Og q->dv.ownBlock=Og q\/W.heap.size<=q))/\(L'.getD 16 false=true->Od (Og ⟨fb,0,Oh⟩)=a6)/\(L'.getD 17 false=true->Od (Og ⟨fb,0,Oh⟩)=a7)/\(L'.getD 18 false=true->L'.getD 21 false=false->w.heap[fb]? = Og (Of #[a0,dv] 264 (0,0)))/\(L'.getD 19 false=true->Od (Og ⟨fb,0,Oh⟩)=a8)/\(L'.getD 20 false=true->Od (Og ⟨fb,1,Oh⟩)=a9)/\(L'.getD 21 false=true->w.heap[fb]? = Og (Of #[a0,a1] 264 (0,0)))/\(L'.getD 18 false=false->w.heap[fb]? = Og (Of #[bv,dv] 264 (0,0)))/\(L'.getD 8 false=false->w.ownsRow (fb+1) 293 2 bv M.length (aN lu M))/\(L'.getD 15 false=false->w.ownsRow (fb+1) 9 1 dv M.length (aN pR M))) (pre:=fun i L'=>L'.size==22&&((i==5 && !L'.getD 18 false)||(i==7)||(i==8&&L'.getD 5 false&&L'.getD 7 false && !L'.getD 8 false && !L'.getD 18 false && !L'.getD 21 false)||(i==12 && !L'.getD 18 false)||(i==14)||(i==15&&L'.getD 12 false&&L'.getD 14 false&&L'.getD 8 false && !L'.getD 15 false && !L'.getD 18 false && !L'.getD 21 false)||(i==16)||(i==17&&L'.getD 16 false)||(i==18&&L'.getD 8 false&&L'.getD 17 false&&L'.getD 15 false && !L'.getD 18 false && !L'.getD 21 false)||(i==19)||(i==20&&L'.getD 19 false)||(i==21&&L'.getD 15 false&&L'.getD 20 false&&L'.getD 18 false&&L'.getD 8 false && !L'.getD 21 false))) (fin:=fun L'=>L'.getD 21 false&&L'.getD 8 false&&L'.getD 15 false) [0,1,2,3,4,6,9,10,11,13] 12 mKr mKr mKr mKr mDe (aF.of (Below.refl _ _).drew) ?_ ?_ ?_
 .intro i L' a w hp hI;obtain⟨a2,a3,a0,a4,a5,a1,a6,a7,a8,a9,rfl,hSw,hP5,hP7,hP8,hP12,hP14,hP15,hP16,hP17,hP18,hP19,hP20,hP21,hN0,hN1,hN2⟩:=hI;simp only[aX,fI,beq_iff_eq,gL] at hp;obtain⟨hsz,hp⟩:=hp;rcases hp with (((((((((((⟨rfl,gn18⟩|rfl)|⟨⟨⟨⟨⟨rfl,gd5⟩,gd7⟩,gn8⟩,gn18⟩,gn21⟩)|⟨rfl,gn18⟩)|rfl)|⟨⟨⟨⟨⟨⟨rfl,gd12⟩,gd14⟩,gd8⟩,gn15⟩,gn18⟩,gn21⟩)|rfl)|⟨rfl,gd16⟩)|⟨⟨⟨⟨⟨rfl,gd8⟩,gd17⟩,gd15⟩,gn18⟩,gn21⟩)|rfl)|⟨rfl,gd19⟩)|⟨⟨⟨⟨⟨rfl,gd15⟩,gd20⟩,gd18⟩,gd8⟩,gn21⟩)
  .have g5:=fy (L:=L') (i:=5);have g7:=am (L:=L') (i:=5) (j:=7);have g8:=am (L:=L') (i:=5) (j:=8);have g12:=am (L:=L') (i:=5) (j:=12);refine qH ?_;intro g14 g15 g16 g17 g18 g19;have g20:=am (L:=L') (i:=5) (j:=20);have g21:=am (L:=L') (i:=5) (j:=21);have hcc:=ae (hN0 gn18) 0;have hSn:=hSw;refine fl ⟨_,_,_,_,_,_⟩ (bv) w rfl mRf (by go_simp) ?_;exact⟨hSn,(bv),(a3),(a0),(a4),(a5),(a1),(a6),(a7),(a8),(a9),mPt,hSn,fun _=>rfl,by rw[g7,g8];exact hP7,by rw[g8];exact hP8,by rw[g12];exact hP12,by rw[g14,g15];exact hP14,by rw[g15];exact hP15,by rw[g16];exact hP16,by rw[g17];exact hP17,by rw[g18,g21];exact fun e e2=>absurd (e.symm.trans gn18) mDe,by rw[g19];exact hP19,by rw[g20];exact hP20,by rw[g21];exact hP21,by rw[g18];exact hN0,by rw[g8];exact hN1,by rw[g15];exact hN2⟩
  .have g5:=am (L:=L') (i:=7) (j:=5);have g7:=fy (L:=L') (i:=7);have g8:=am (L:=L') (i:=7) (j:=8);have g12:=am (L:=L') (i:=7) (j:=12);have g14:=am (L:=L') (i:=7) (j:=14);have g15:=am (L:=L') (i:=7) (j:=15);refine ny ?_;intro g16 g17 g18 g19;have g20:=am (L:=L') (i:=7) (j:=20);have g21:=am (L:=L') (i:=7) (j:=21);have hb:ac w.heap.size w (w.alloc (Of #[N9 Oa z.b,N9 Oa z.s] 293)):=aq _ _;have hSn:=hSw.trans (aF.of hb);refine fl ⟨_,_,_,_,_,_⟩ (Oc (Og ⟨w.heap.size,0,Oh⟩) 1 1) (w.alloc (Of #[N9 Oa z.b,N9 Oa z.s] 293)) rfl mRf (by go_simp) ?_;exact⟨hSn,(a2),(Oc (Og ⟨w.heap.size,0,Oh⟩) 1 1),(a0),(a4),(a5),(a1),(a6),(a7),(a8),(a9),mPt,hSn,by rw[g5];exact hP5,fun _ _=>⟨_,rfl,hSw.size,heap_alloc_new _ _⟩,by rw[g8];exact fun e=>(let h0:=(hP8 e);⟨bK h0.1 (aF.of (S:=fun _=>False) hb) (fun _ _ e=>e),h0.2⟩),by rw[g12];exact hP12,by rw[g14,g15];exact fun e e2=>(by obtain⟨b,h1,h2,h3⟩:=(hP14 e e2);exact⟨b,h1,h2,hb.heap_of h3⟩),by rw[g15];exact fun e=>(let h0:=(hP15 e);⟨bK h0.1 (aF.of (S:=fun _=>False) hb) (fun _ _ e=>e),h0.2⟩),by rw[g16];exact hP16,by rw[g17];exact hP17,by rw[g18,g21];exact fun e e2=>hb.heap_of (hP18 e e2),by rw[g19];exact hP19,by rw[g20];exact hP20,by rw[g21];exact fun e=>hb.heap_of (hP21 e),by rw[g18];exact fun e=>hb.heap_of (hN0 e),by rw[g8];exact fun e=>bK (hN1 e) (aF.of (S:=fun _=>False) hb) (fun _ _ e=>e),by rw[g15];exact fun e=>bK (hN2 e) (aF.of (S:=fun _=>False) hb) (fun _ _ e=>e)⟩
  .have g5:=am (L:=L') (i:=8) (j:=5);have g7:=am (L:=L') (i:=8) (j:=7);have g8:=fy (L:=L') (i:=8);have g12:=am (L:=L') (i:=8) (j:=12);have g14:=am (L:=L') (i:=8) (j:=14);have g15:=am (L:=L') (i:=8) (j:=15);have g16:=am (L:=L') (i:=8) (j:=16);have g17:=am (L:=L') (i:=8) (j:=17);have g18:=am (L:=L') (i:=8) (j:=18);have g19:=am (L:=L') (i:=8) (j:=19);have g20:=am (L:=L') (i:=8) (j:=20);have g21:=am (L:=L') (i:=8) (j:=21);have hD5:=hP5 gd5;obtain rfl:=hD5;have hD7:=hP7 gd7 gn8;obtain⟨b7,rfl,hB7,hb7⟩:=hD7;have hown:=hN1 gn8;refine jK NQ ⟨_,_,_,_,_,_⟩ rfl mRf (.tmp 69) (.tmp 71) mRf (fb+1) _ _ M [z] mRf mRf hown (cN hb7 [z] rfl rfl) (by simp only[aB];omega) (by have:=hSw.size;omega) ?_;intro v8 wn hA8;have hg:aF (fun k=>bv.ownBlock=Og k) w wn:=aF.grown hA8.grown;have hSn:aF (gU fb bv dv) W wn:=hSw.trans (hg.mono fun k _ e=>.inr (.inl e));exact⟨hSn,(bv),(Oc (Og ⟨b7,0,Oh⟩) 1 1),(v8),(a4),(a5),(a1),(a6),(a7),(a8),(a9),mPt,hSn,by rw[g5];exact hP5,by rw[g8];exact fun _ e=>absurd e mDe,fun _=>⟨hA8.own,fun q hq=>hA8.block.elim (fun e=>.inl (e ▸ hq)) (fun e=>.inr (aV hSw.size (e q hq)))⟩,by rw[g12];exact hP12,by rw[g14,g15];exact fun e e2=>(by obtain⟨b,h1,h2,h3⟩:=(hP14 e e2);exact⟨b,h1,h2,hg.heap h3 (fun e=>by have:=hbo b e;omega)⟩),by rw[g15];exact fun e=>(let h0:=(hP15 e);⟨bK h0.1 hg (fun g h1 e=>(h0.2 g h1).elim (fun e2=>hbd g e e2) (fun e2=>by have:=hbo g e;omega)),h0.2⟩),by rw[g16];exact hP16,by rw[g17];exact hP17,by rw[g18,g21];exact fun e e2=>absurd (e.symm.trans gn18) mDe,by rw[g19];exact hP19,by rw[g20];exact hP20,by rw[g21];exact fun e=>absurd (e.symm.trans gn21) mDe,by rw[g18];exact fun e=>hg.heap (hN0 e) (fun e=>by have:=hbo fb e;omega),by rw[g8];exact fun e=>absurd e mDe,by rw[g15];exact fun e=>bK (hN2 e) hg (fun g h1 e=>hbd g e h1)⟩
  .have g5:=am (L:=L') (i:=12) (j:=5);have g7:=am (L:=L') (i:=12) (j:=7);have g8:=am (L:=L') (i:=12) (j:=8);have g12:=fy (L:=L') (i:=12);have g14:=am (L:=L') (i:=12) (j:=14);have g15:=am (L:=L') (i:=12) (j:=15);have g16:=am (L:=L') (i:=12) (j:=16);have g17:=am (L:=L') (i:=12) (j:=17);have g18:=am (L:=L') (i:=12) (j:=18);have g19:=am (L:=L') (i:=12) (j:=19);have g20:=am (L:=L') (i:=12) (j:=20);have g21:=am (L:=L') (i:=12) (j:=21);have hcc:=ae (hN0 gn18) 1;have hSn:=hSw;refine fl ⟨_,_,_,_,_,_⟩ (dv) w rfl mRf (by go_simp) ?_;exact⟨hSn,(a2),(a3),(a0),(dv),(a5),(a1),(a6),(a7),(a8),(a9),mPt,hSn,by rw[g5];exact hP5,by rw[g7,g8];exact hP7,by rw[g8];exact hP8,fun _=>rfl,by rw[g14,g15];exact hP14,by rw[g15];exact hP15,by rw[g16];exact hP16,by rw[g17];exact hP17,by rw[g18,g21];exact fun e e2=>absurd (e.symm.trans gn18) mDe,by rw[g19];exact hP19,by rw[g20];exact hP20,by rw[g21];exact hP21,by rw[g18];exact hN0,by rw[g8];exact hN1,by rw[g15];exact hN2⟩
  .have g5:=am (L:=L') (i:=14) (j:=5);have g7:=am (L:=L') (i:=14) (j:=7);have g8:=am (L:=L') (i:=14) (j:=8);have g12:=am (L:=L') (i:=14) (j:=12);refine qM ?_;intro g14 g15 g16 g17 g18 g19;have g20:=am (L:=L') (i:=14) (j:=20);have g21:=am (L:=L') (i:=14) (j:=21);have hb:ac w.heap.size w (w.alloc (Of #[Ob z.d] 9)):=aq _ _;have hSn:=hSw.trans (aF.of hb);refine fl ⟨_,_,_,_,_,_⟩ (Oc (Og ⟨w.heap.size,0,Oh⟩) 1 1) (w.alloc (Of #[Ob z.d] 9)) rfl mRf (by go_simp) ?_;exact⟨hSn,(a2),(a3),(a0),(a4),(Oc (Og ⟨w.heap.size,0,Oh⟩) 1 1),(a1),(a6),(a7),(a8),(a9),mPt,hSn,by rw[g5];exact hP5,by rw[g7,g8];exact fun e e2=>(by obtain⟨b,h1,h2,h3⟩:=(hP7 e e2);exact⟨b,h1,h2,hb.heap_of h3⟩),by rw[g8];exact fun e=>(let h0:=(hP8 e);⟨bK h0.1 (aF.of (S:=fun _=>False) hb) (fun _ _ e=>e),h0.2⟩),by rw[g12];exact hP12,fun _ _=>⟨_,rfl,hSw.size,heap_alloc_new _ _⟩,by rw[g15];exact fun e=>(let h0:=(hP15 e);⟨bK h0.1 (aF.of (S:=fun _=>False) hb) (fun _ _ e=>e),h0.2⟩),by rw[g16];exact hP16,by rw[g17];exact hP17,by rw[g18,g21];exact fun e e2=>hb.heap_of (hP18 e e2),by rw[g19];exact hP19,by rw[g20];exact hP20,by rw[g21];exact fun e=>hb.heap_of (hP21 e),by rw[g18];exact fun e=>hb.heap_of (hN0 e),by rw[g8];exact fun e=>bK (hN1 e) (aF.of (S:=fun _=>False) hb) (fun _ _ e=>e),by rw[g15];exact fun e=>bK (hN2 e) (aF.of (S:=fun _=>False) hb) (fun _ _ e=>e)⟩
  .have g5:=am (L:=L') (i:=15) (j:=5);have g7:=am (L:=L') (i:=15) (j:=7);have g8:=am (L:=L') (i:=15) (j:=8);have g12:=am (L:=L') (i:=15) (j:=12);refine qU ?_;intro g14 g15 g16 g17 g18 g19;have g20:=am (L:=L') (i:=15) (j:=20);have g21:=am (L:=L') (i:=15) (j:=21);have hD12:=hP12 gd12;obtain rfl:=hD12;have hD14:=hP14 gd14 gn15;obtain⟨b14,rfl,hB14,hb14⟩:=hD14;have hown:=hN2 gn15;refine jK NR ⟨_,_,_,_,_,_⟩ rfl mRf (.tmp 76) (.tmp 78) mRf (fb+1) _ _ M [z] mRf mRf hown (cN hb14 [z] rfl rfl) (by simp only[aB];omega) (by have:=hSw.size;omega) ?_;intro v15 wn hA15;have hg:aF (fun k=>dv.ownBlock=Og k) w wn:=aF.grown hA15.grown;have hSn:aF (gU fb bv dv) W wn:=hSw.trans (hg.mono fun k _ e=>.inr (.inr e));exact⟨hSn,(a2),(a3),(a0),(dv),(Oc (Og ⟨b14,0,Oh⟩) 1 1),(v15),(a6),(a7),(a8),(a9),mPt,hSn,by rw[g5];exact hP5,by rw[g7,g8];exact fun e e2=>absurd (gd8.symm.trans e2) mDe,by rw[g8];exact fun e=>(let h0:=(hP8 e);⟨bK h0.1 hg (fun g h1 e=>(h0.2 g h1).elim (fun e2=>hbd g e2 e) (fun e2=>by have:=hdo g e;omega)),h0.2⟩),by rw[g12];exact hP12,by rw[g15];exact fun _ e=>absurd e mDe,fun _=>⟨hA15.own,fun q hq=>hA15.block.elim (fun e=>.inl (e ▸ hq)) (fun e=>.inr (aV hSw.size (e q hq)))⟩,by rw[g16];exact hP16,by rw[g17];exact hP17,by rw[g18,g21];exact fun e e2=>absurd (e.symm.trans gn18) mDe,by rw[g19];exact hP19,by rw[g20];exact hP20,by rw[g21];exact fun e=>absurd (e.symm.trans gn21) mDe,by rw[g18];exact fun e=>hg.heap (hN0 e) (fun e=>by have:=hdo fb e;omega),by rw[g8];exact fun e=>absurd (gd8.symm.trans e) mDe,by rw[g15];exact fun e=>absurd e mDe⟩
  .have g5:=am (L:=L') (i:=16) (j:=5);have g7:=am (L:=L') (i:=16) (j:=7);have g8:=am (L:=L') (i:=16) (j:=8);have g12:=am (L:=L') (i:=16) (j:=12);have g14:=am (L:=L') (i:=16) (j:=14);have g15:=am (L:=L') (i:=16) (j:=15);refine nF ?_;intro g16 g17 g18 g19;have g20:=am (L:=L') (i:=16) (j:=20);have g21:=am (L:=L') (i:=16) (j:=21);refine iF ?_;intro hSn;exact⟨hSn,(a2),(a3),(a0),(a4),(a5),(a1),(Od (Og ⟨fb,0,Oh⟩)),(a7),(a8),(a9),mPt,hSn,by rw[g5];exact hP5,by rw[g7,g8];exact hP7,by rw[g8];exact hP8,by rw[g12];exact hP12,by rw[g14,g15];exact hP14,by rw[g15];exact hP15,fun _=>rfl,by rw[g17];exact hP17,by rw[g18,g21];exact hP18,by rw[g19];exact hP19,by rw[g20];exact hP20,by rw[g21];exact hP21,by rw[g18];exact hN0,by rw[g8];exact hN1,by rw[g15];exact hN2⟩
  .have g5:=am (L:=L') (i:=17) (j:=5);have g7:=am (L:=L') (i:=17) (j:=7);have g8:=am (L:=L') (i:=17) (j:=8);have g12:=am (L:=L') (i:=17) (j:=12);have g14:=am (L:=L') (i:=17) (j:=14);have g15:=am (L:=L') (i:=17) (j:=15);refine nh ?_;intro g16 g17 g18 g19;have g20:=am (L:=L') (i:=17) (j:=20);have g21:=am (L:=L') (i:=17) (j:=21);have hD16:=hP16 gd16;obtain rfl:=hD16;refine iF ?_;intro hSn;exact⟨hSn,(a2),(a3),(a0),(a4),(a5),(a1),(Od (Og ⟨fb,0,Oh⟩)),(Od (Og ⟨fb,0,Oh⟩)),(a8),(a9),mPt,hSn,by rw[g5];exact hP5,by rw[g7,g8];exact hP7,by rw[g8];exact hP8,by rw[g12];exact hP12,by rw[g14,g15];exact hP14,by rw[g15];exact hP15,by rw[g16];exact hP16,fun _=>rfl,by rw[g18,g21];exact hP18,by rw[g19];exact hP19,by rw[g20];exact hP20,by rw[g21];exact hP21,by rw[g18];exact hN0,by rw[g8];exact hN1,by rw[g15];exact hN2⟩
  .have g5:=am (L:=L') (i:=18) (j:=5);have g7:=am (L:=L') (i:=18) (j:=7);have g8:=am (L:=L') (i:=18) (j:=8);have g12:=am (L:=L') (i:=18) (j:=12);have g14:=am (L:=L') (i:=18) (j:=14);have g15:=am (L:=L') (i:=18) (j:=15);refine nt ?_;intro g16 g17 g18 g19;have g20:=am (L:=L') (i:=18) (j:=20);have g21:=am (L:=L') (i:=18) (j:=21);have hD8:=hP8 gd8;have hD17:=hP17 gd17;obtain rfl:=hD17;obtain⟨ga8,c8,rfl⟩:=jU hD8.1;have hold:=hN0 gn18;have hc:=ae hold 0;have hf:=aE hold 0;have hg:aF (fun k=>k=fb) w (w.setCell ⟨fb,0,Oh⟩ (Oc (Og ⟨ga8,0,Oh⟩) (M++[z]).length c8)):=aF.set (S:=fun k=>k=fb) w rfl 0 _;have hSn:aF (gU fb bv dv) W _:=hSw.trans (hg.mono fun k _ e=>.inl e);refine vD ⟨_,_,_,_,_,_⟩ (w.setCell ⟨fb,0,Oh⟩ (Oc (Og ⟨ga8,0,Oh⟩) (M++[z]).length c8)) rfl mRf (by go_simp) ?_;exact⟨hSn,(a2),(a3),(Oc (Og ⟨ga8,0,Oh⟩) (M++[z]).length c8),(a4),(a5),(a1),(a6),(Od (Og ⟨fb,0,Oh⟩)),(a8),(a9),by simp only[Act.put],hSn,by rw[g5];exact hP5,by rw[g7,g8];exact fun e e2=>absurd (gd8.symm.trans e2) mDe,by rw[g8];exact fun e=>(let h0:=(hP8 e);⟨bK h0.1 hg (fun g h1 e=>by have:=(h0.1.lt g h1).1;omega),h0.2⟩),by rw[g12];exact hP12,by rw[g14,g15];exact fun e e2=>absurd (gd15.symm.trans e2) mDe,by rw[g15];exact fun e=>(let h0:=(hP15 e);⟨bK h0.1 hg (fun g h1 e=>by have:=(h0.1.lt g h1).1;omega),h0.2⟩),by rw[g16];exact hP16,by rw[g17];exact hP17,fun _ _=>bj hold 0 _,by rw[g19];exact hP19,by rw[g20];exact hP20,by rw[g21];exact fun e=>absurd (e.symm.trans gn21) mDe,by rw[g18];exact fun e=>absurd e mDe,by rw[g8];exact fun e=>absurd (gd8.symm.trans e) mDe,by rw[g15];exact fun e=>absurd (gd15.symm.trans e) mDe⟩
  .have g5:=am (L:=L') (i:=19) (j:=5);have g7:=am (L:=L') (i:=19) (j:=7);have g8:=am (L:=L') (i:=19) (j:=8);have g12:=am (L:=L') (i:=19) (j:=12);have g14:=am (L:=L') (i:=19) (j:=14);have g15:=am (L:=L') (i:=19) (j:=15);refine nz ?_;intro g16 g17 g18 g19;have g20:=am (L:=L') (i:=19) (j:=20);have g21:=am (L:=L') (i:=19) (j:=21);refine iF ?_;intro hSn;exact⟨hSn,(a2),(a3),(a0),(a4),(a5),(a1),(a6),(a7),(Od (Og ⟨fb,0,Oh⟩)),(a9),mPt,hSn,by rw[g5];exact hP5,by rw[g7,g8];exact hP7,by rw[g8];exact hP8,by rw[g12];exact hP12,by rw[g14,g15];exact hP14,by rw[g15];exact hP15,by rw[g16];exact hP16,by rw[g17];exact hP17,by rw[g18,g21];exact hP18,fun _=>rfl,by rw[g20];exact hP20,by rw[g21];exact hP21,by rw[g18];exact hN0,by rw[g8];exact hN1,by rw[g15];exact hN2⟩
  .have g5:=am (L:=L') (i:=20) (j:=5);have g7:=am (L:=L') (i:=20) (j:=7);have g8:=am (L:=L') (i:=20) (j:=8);have g12:=am (L:=L') (i:=20) (j:=12);have g14:=am (L:=L') (i:=20) (j:=14);have g15:=am (L:=L') (i:=20) (j:=15);have g16:=am (L:=L') (i:=20) (j:=16);have g17:=am (L:=L') (i:=20) (j:=17);have g18:=am (L:=L') (i:=20) (j:=18);have g19:=am (L:=L') (i:=20) (j:=19);have g20:=fy (L:=L') (i:=20);have g21:=am (L:=L') (i:=20) (j:=21);have hD19:=hP19 gd19;obtain rfl:=hD19;have hSn:=hSw;refine fl ⟨_,_,_,_,_,_⟩ (Od (Og ⟨fb,1,Oh⟩)) w rfl mRf (by go_simp) ?_;exact⟨hSn,(a2),(a3),(a0),(a4),(a5),(a1),(a6),(a7),(Od (Og ⟨fb,0,Oh⟩)),(Od (Og ⟨fb,1,Oh⟩)),mPt,hSn,by rw[g5];exact hP5,by rw[g7,g8];exact hP7,by rw[g8];exact hP8,by rw[g12];exact hP12,by rw[g14,g15];exact hP14,by rw[g15];exact hP15,by rw[g16];exact hP16,by rw[g17];exact hP17,by rw[g18,g21];exact hP18,by rw[g19];exact hP19,fun _=>rfl,by rw[g21];exact hP21,by rw[g18];exact hN0,by rw[g8];exact hN1,by rw[g15];exact hN2⟩
  .have g5:=am (L:=L') (i:=21) (j:=5);have g7:=am (L:=L') (i:=21) (j:=7);have g8:=am (L:=L') (i:=21) (j:=8);have g12:=am (L:=L') (i:=21) (j:=12);have g14:=am (L:=L') (i:=21) (j:=14);have g15:=am (L:=L') (i:=21) (j:=15);have g16:=am (L:=L') (i:=21) (j:=16);have g17:=am (L:=L') (i:=21) (j:=17);have g18:=am (L:=L') (i:=21) (j:=18);have g19:=am (L:=L') (i:=21) (j:=19);have g20:=am (L:=L') (i:=21) (j:=20);have g21:=fy (L:=L') (i:=21);have hD15:=hP15 gd15;have hD20:=hP20 gd20;obtain rfl:=hD20;have hD18:=hP18 gd18 gn21;obtain⟨ga15,c15,rfl⟩:=jU hD15.1;have hold:=hD18;have hc:=ae hold 1;have hf:=aE hold 1;have hg:aF (fun k=>k=fb) w (w.setCell ⟨fb,1,Oh⟩ (Oc (Og ⟨ga15,0,Oh⟩) (M++[z]).length c15)):=aF.set (S:=fun k=>k=fb) w rfl 1 _;have hSn:aF (gU fb bv dv) W _:=hSw.trans (hg.mono fun k _ e=>.inl e);refine vD ⟨_,_,_,_,_,_⟩ (w.setCell ⟨fb,1,Oh⟩ (Oc (Og ⟨ga15,0,Oh⟩) (M++[z]).length c15)) rfl mRf (by go_simp) ?_;exact⟨hSn,(a2),(a3),(a0),(a4),(a5),(Oc (Og ⟨ga15,0,Oh⟩) (M++[z]).length c15),(a6),(a7),(a8),(Od (Og ⟨fb,1,Oh⟩)),by simp only[Act.put],hSn,by rw[g5];exact hP5,by rw[g7,g8];exact fun e e2=>absurd (gd8.symm.trans e2) mDe,by rw[g8];exact fun e=>(let h0:=(hP8 e);⟨bK h0.1 hg (fun g h1 e=>by have:=(h0.1.lt g h1).1;omega),h0.2⟩),by rw[g12];exact hP12,by rw[g14,g15];exact fun e e2=>absurd (gd15.symm.trans e2) mDe,by rw[g15];exact fun e=>(let h0:=(hP15 e);⟨bK h0.1 hg (fun g h1 e=>by have:=(h0.1.lt g h1).1;omega),h0.2⟩),by rw[g16];exact hP16,by rw[g17];exact hP17,by rw[g21];exact fun _ e=>absurd e mDe,by rw[g19];exact hP19,by rw[g20];exact hP20,fun _=>bj hold 1 _,by rw[g18];exact fun e=>absurd (gd18.symm.trans e) mDe,by rw[g8];exact fun e=>absurd (gd8.symm.trans e) mDe,by rw[g15];exact fun e=>absurd (gd15.symm.trans e) mDe⟩
 .intro L' a w hp hI;obtain⟨a2,a3,a0,a4,a5,a1,a6,a7,a8,a9,rfl,hSw,hP5,hP7,hP8,hP12,hP14,hP15,hP16,hP17,hP18,hP19,hP20,hP21,hN0,hN1,hN2⟩:=hI
  (try simp only[aX] at hp)
  obtain⟨⟨p21,p8⟩,p15⟩:=hp;obtain hfin:=hP21 p21;exact HQ.out _ _ _ _ _ _ _ _ _ _ w hSw hfin (hP8 p8) (hP15 p15)
 .refine cq ⟨_,_,_,_,_,_⟩ ?_ rfl mRf ?_ ?_
  rotate_left 1
  .intro w hSw;(try dsimp only at hSw);go_simp;(try with_reducible rfl)
  refine ay ?_
  refine cq ⟨_,_,_,_,_,_⟩ ?_ rfl mRf ?_ ?_
  rotate_left 1
  .intro w hSw;(try dsimp only at hSw);go_simp;(try with_reducible rfl)
  refine ay ?_
  refine cq ⟨_,_,_,_,_,_⟩ ?_ rfl mRf ?_ ?_
  rotate_left 1
  .intro w hSw;(try dsimp only at hSw);go_simp;(try with_reducible rfl)
  refine ay ?_
  refine cq ⟨_,_,_,_,_,_⟩ ?_ rfl mRf ?_ ?_
  rotate_left 1
  .intro w hSw;(try dsimp only at hSw);go_simp;(try with_reducible rfl)
  refine ay ?_
  refine cq ⟨_,_,_,_,_,_⟩ ?_ rfl mRf ?_ ?_
  rotate_left 1
  .intro w hSw;(try dsimp only at hSw);go_simp;(try with_reducible rfl)
  refine ay ?_
  refine vE ⟨_,_,_,_,_,_⟩ rfl mRf 293 (.tmp 4) mRf xb 0 mRf (lu z) _ (fun w hSw j v hv=>(hSw.cell hxl hxs _ _).trans (by rw[bP,ae hxb];simpa [lu] using hv)) underlying293 rfl mKr ?_;refine ay ?_;refine cq ⟨_,_,_,_,_,_⟩ ?_ rfl mRf ?_ ?_
  rotate_left 1
  .intro w hSw;(try dsimp only at hSw);go_simp;(try with_reducible rfl)
  refine ay ?_
  refine cq ⟨_,_,_,_,_,_⟩ ?_ rfl mRf ?_ ?_
  rotate_left 1
  .intro w hSw;(try dsimp only at hSw);go_simp;(try with_reducible rfl)
  refine ay ?_
  refine cq ⟨_,_,_,_,_,_⟩ ?_ rfl mRf ?_ ?_
  rotate_left 1
  .intro w hSw;(try dsimp only at hSw);go_simp;(try with_reducible rfl)
  refine ay ?_
  refine cq ⟨_,_,_,_,_,_⟩ ?_ rfl mRf ?_ ?_
  rotate_left 1
  .intro w hSw;(try dsimp only at hSw);go_simp;(try with_reducible rfl)
  refine ay ?_
  exact⟨_,_,_,_,_,_,_,_,_,_,rfl,(aF.of (Below.refl _ _).drew),(fun e=>absurd e (by decide +kernel)),(fun e=>absurd e (by decide +kernel)),(fun e=>absurd e (by decide +kernel)),(fun e=>absurd e (by decide +kernel)),(fun e=>absurd e (by decide +kernel)),(fun e=>absurd e (by decide +kernel)),(fun e=>absurd e (by decide +kernel)),(fun e=>absurd e (by decide +kernel)),(fun e=>absurd e (by decide +kernel)),(fun e=>absurd e (by decide +kernel)),(fun e=>absurd e (by decide +kernel)),(fun e=>absurd e (by decide +kernel)),(fun _=>hF.box),(fun _=>hF.bs),(fun _=>hF.ds)⟩
end
section
open Go Go.RowKit Go.Sort Go.Lib
theorem Ju(e:Ent)(h:e.course.size<=1000000)(b:Nat)(w:World)(hb:aM w b e) :
  Calls prog 235 #[Od (Og ⟨b,0,Oh⟩)] w fun x w'=>x=Oe (.bool (!jt e.course.data.toList))/\Below w.heap.size w w':=by
 have hc:w.cell? ⟨b,6,Oh⟩=Og (Ob e.course):=hb.cell 6;go_enter func235,ntmps235;go_wp2_with fail;refine(JE e.course _ mOm).mono ?_;rintro x w1⟨rfl,hb1⟩;go_wp2_with fail;go_ret;exact⟨rfl,hb1⟩
theorem Jv(e:Ent)(b:Nat)(w:World)(hb:aM w b e) :
  Calls prog 237 #[Od (Og ⟨b,0,Oh⟩)] w fun x w'=>x=Oe (.bool (cQ e.credits 1 60))/\w=w':=by
 have hc:w.cell? ⟨b,7,Oh⟩=Og (N9 Oa e.credits):=hb.cell 7;go_enter func237,ntmps237;go_wp2_with fail;refine(ir _ _ _ _).mono ?_;rintro x w1⟨rfl,rfl⟩;go_wp2_with fail;go_ret;exact⟨rfl,rfl⟩
theorem Jw(e:Ent)(b:Nat)(w:World)(hb:aM w b e) :
  Calls prog 238 #[Od (Og ⟨b,0,Oh⟩)] w fun x w'=>x=Oe (.bool (cQ e.grade (-1000) 1000))/\w=w':=by
 have hc:w.cell? ⟨b,8,Oh⟩=Og (N9 Oa e.grade):=hb.cell 8;go_enter func238,ntmps238;go_wp2_with fail;refine(ir _ _ _ _).mono ?_;rintro x w1⟨rfl,rfl⟩;go_wp2_with fail;go_ret;exact⟨rfl,rfl⟩
theorem Jx(e:Ent)(b:Nat)(w:World)(hb:aM w b e) :
  Calls prog 239 #[Od (Og ⟨b,0,Oh⟩)] w fun x w'=>x=Oe (.bool (decide (e.programme<1)))/\w=w':=by
 have hc:w.cell? ⟨b,11,Oh⟩=Og (N9 Oa e.programme):=hb.cell 11;go_enter func239,ntmps239;go_wp2_with fail;go_ret;exact⟨rfl,rfl⟩
theorem Jy(e:Ent)(b:Nat)(w:World)(hb:aM w b e) :
  Calls prog 240 #[Od (Og ⟨b,0,Oh⟩)] w fun x w'=>x=Oe (.bool (decide (e.version<1)))/\w=w':=by
 have hc:w.cell? ⟨b,12,Oh⟩=Og (N9 Oa e.version):=hb.cell 12;go_enter func240,ntmps240;go_wp2_with fail;go_ret;exact⟨rfl,rfl⟩
theorem Jz(e:Ent)(b:Nat)(w:World)(hb:aM w b e) :
  Calls prog 241 #[Od (Og ⟨b,0,Oh⟩)] w fun x w'=>x=Oe (.bool (cQ e.fro 1 8||e.fro==e.school))/\w=w':=by
 have hc:w.cell? ⟨b,10,Oh⟩=Og (N9 Oa e.fro):=hb.cell 10;have hc1:w.cell? ⟨b,1,Oh⟩=Og (N9 Oa e.school):=hb.cell 1
 cases hbb:cQ e.fro 1 8
 all_goals
  go_enter func241,ntmps241
  go_wp2_with fail;refine(ir _ _ _ _).mono ?_;rintro x w1⟨rfl,rfl⟩;go_wp2_with fail;go_ret;exact⟨cF mSi,rfl⟩
theorem JB(e:Ent)(b:Nat)(w:World)(hb:aM w b e) :
  Calls prog 242 #[Od (Og ⟨b,0,Oh⟩)] w fun x w'=>x=Oe (.bool (cQ e.ref 1 899999||e.ref==e.id))/\w=w':=by
 have hc:w.cell? ⟨b,9,Oh⟩=Og (N9 Oa e.ref):=hb.cell 9;have hc1:w.cell? ⟨b,0,Oh⟩=Og (N9 Oa e.id):=hb.cell 0
 cases hbb:cQ e.ref 1 899999
 all_goals
  go_enter func242,ntmps242
  go_wp2_with fail;refine(ir _ _ _ _).mono ?_;rintro x w1⟨rfl,rfl⟩;go_wp2_with fail;go_ret;exact⟨cF mSi,rfl⟩
def zX(l:List Bool):Nat->Int
 | 0=>0
 | k+1=>if l.getD k false then bits .or .i64 (zX l k) (2^k:Nat) else zX l k
def Ent.some7(e:Ent):List Bool:=[!e.course.toList.isEmpty,e.credits != 0,e.grade != 0,e.ref != 0,e.fro != 0,e.programme != 0,e.version != 0]
def mQ(e:Ent):Int:=zX e.some7 7
theorem F8(e:Ent)(w:World) :
  Calls prog 233 #[e.val] w fun x w'=>x=Oe (N9 Oa (mQ e))/\Below w.heap.size w w':=by
 go_enter func233,ntmps233;go_wp2_with fail;have H7:Hid (mQ e=zX [!e.course.toList.isEmpty,e.credits != 0,e.grade != 0,e.ref != 0,e.fro != 0,e.programme != 0,e.version != 0] 7):=rfl;generalize (!e.course.toList.isEmpty)=b0 at H7 |-;generalize (e.credits != 0)=b1 at H7 |-;generalize (e.grade != 0)=b2 at H7 |-;generalize (e.ref != 0)=b3 at H7 |-;generalize (e.fro != 0)=b4 at H7 |-;generalize (e.programme != 0)=b5 at H7 |-;generalize (e.version != 0)=b6 at H7 |-
 go_loop [3,29] (fun t i=>∃(k:Nat) (m:Int),k<=7/\i=N9 Oa k/\t=N9 Oa m/\Hid (m=zX [b0,b1,b2,b3,b4,b5,b6] k)) (fun _ i=>7-(intOf i).toNat)
 case atStart=>exact⟨0,0,mOm,rfl,rfl,rfl⟩
 case round =>
  obtain⟨k,m,hk,rfl,rfl,H⟩:=hrel;have hk8:k=0\/k=1\/k=2\/k=3\/k=4\/k=5\/k=6\/k=7:=mOm;rcases hk8 with rfl|rfl|rfl|rfl|rfl|rfl|rfl|rfl
  .cases b0
   all_goals
    go_wp2_with fail
    go_round
    case rel=>exact⟨1,_,mOm,rfl,rfl,by unfold Hid;rw[H.out];rfl⟩
    case measure=>simp[intOf]
  .cases b1
   all_goals
    go_wp2_with fail
    go_round
    case rel=>exact⟨2,_,mOm,rfl,rfl,by unfold Hid;rw[H.out];rfl⟩
    case measure=>simp[intOf]
  .cases b2
   all_goals
    go_wp2_with fail
    go_round
    case rel=>exact⟨3,_,mOm,rfl,rfl,by unfold Hid;rw[H.out];rfl⟩
    case measure=>simp[intOf]
  .cases b3
   all_goals
    go_wp2_with fail
    go_round
    case rel=>exact⟨4,_,mOm,rfl,rfl,by unfold Hid;rw[H.out];rfl⟩
    case measure=>simp[intOf]
  .cases b4
   all_goals
    go_wp2_with fail
    go_round
    case rel=>exact⟨5,_,mOm,rfl,rfl,by unfold Hid;rw[H.out];rfl⟩
    case measure=>simp[intOf]
  .cases b5
   all_goals
    go_wp2_with fail
    go_round
    case rel=>exact⟨6,_,mOm,rfl,rfl,by unfold Hid;rw[H.out];rfl⟩
    case measure=>simp[intOf]
  .cases b6
   all_goals
    go_wp2_with fail
    go_round
    case rel=>exact⟨7,_,mOm,rfl,rfl,by unfold Hid;rw[H.out];rfl⟩
    case measure=>simp[intOf]
  .go_wp2_with fail;go_ret;exact⟨aL (by rw[H.out,H7.out]),((Below.refl _ _).alloc (Nat.le_refl _) _).alloc mSi _⟩
def aY(hv:Int)(e:Ent)(k:Nat):Int:=
 if k<=0/\(bits .and Oa hv 1 != 0)=true/\(!jt e.course.data.toList)=true then 12
 else if k<=1/\(bits .and Oa hv 2 != 0)=true/\cQ e.credits 1 60=true then 3
 else if k<=2/\(bits .and Oa hv 4 != 0)=true/\cQ e.grade (-1000) 1000=true then 3
 else if k<=3/\(bits .and Oa hv 32 != 0)=true/\decide (e.programme<1)=true then 3
 else if k<=4/\(bits .and Oa hv 64 != 0)=true/\decide (e.version<1)=true then 3
 else if k<=5/\(bits .and Oa hv 16 != 0)=true/\(cQ e.fro 1 8||e.fro==e.school)=true then 3
 else if k<=6/\(bits .and Oa hv 8 != 0)=true/\(cQ e.ref 1 899999||e.ref==e.id)=true then 21
 else 0
def dQ(e:Ent):Int:=
 if (cQ e.id 1 899999||cQ e.school 1 8||cQ e.student 1 999999)=true then 1
 else if (cQ e.kind 1 9||bits .andNot Oa (mQ e) (da e.kind) != 0)=true then 20
 else if (cQ e.day 0 100000||cQ e.on 0 e.day)=true then 23
 else aY (da e.kind) e 0
end
section
namespace Wr
open Go Go.RowKit Go.Sort Go.Lib
attribute [local go_sem] mz
theorem jD{n:Int}(h:0<=n)(h2:n<10):itoa n=[UInt8.ofNat (48+n).toNat]:=by
 rcases kQ n with⟨_,e⟩|⟨h0,_⟩
 .rw[e,decDigits,dif_pos mOm];have:(48+n).toNat=48+n.toNat:=mOm;rw[this]
 .omega
theorem lN{n:Int}(h:10<=n):itoa n=itoa (n / 10)++itoa (n%10):=by
 rcases kQ n with⟨_,e⟩|⟨h0,_⟩
 .rw[e,oo mOm,jD (n:=n%10) mOm mOm];rcases kQ (n / 10) with ⟨_,e2⟩|⟨h0,_⟩
  .rw[e2];have h1:n.toNat / 10=(n / 10).toNat:=mOm;have h2:48+n.toNat%10=(48+n%10).toNat:=mOm;rw[h1,h2]
  .omega
 .omega
theorem Ab{n:Int}(h:n<0):itoa n=45::itoa (-n):=by
 rcases kQ n with⟨_,_⟩|⟨_,e⟩
 .omega
 .rcases kQ (-n) with ⟨_,e2⟩|⟨_,_⟩
  .rw[e,e2]
  .omega
theorem zO{n:Int}(h:n<0):n.tdiv 10 = -((-n) / 10):=by
 have:n.tdiv 10 = -((-n).tdiv 10):=by rw[Int.neg_tdiv,mH]
 rw[this,ev mOm]
theorem zP{n:Int}(h:n<0):n.tmod 10 = -((-n)%10):=by
 have:n.tmod 10 = -((-n).tmod 10):=by rw[Int.neg_tmod,mH]
 rw[this,bN mOm]
theorem Hs{n:Int}(h:n<=-10):itoa n=itoa (n.tdiv 10)++itoa (-(n.tmod 10)):=by rw[zO mOm,zP mOm,Ab (n:=n) mOm,lN (n:=-n) mOm,Ab (n:=-(-n / 10)) mOm];simp
theorem qf(n:Int)(w:World)(hn:0<=n)(hs:n<10) :
  Calls prog 122 #[N9 Oa n] w fun e w'=>e=Oe (Ob ⟨(itoa n).toArray⟩)/\ac w.heap.size w w':=by
 have hw:IntKind.i64.wrap (48+n)=48+n:=aH _ mOm;have H:=aa (jD hn hs);go_enter func122,ntmps122;go_wp2_with fail;go_ret;exact⟨cU (by rw[H.out]),aq _ _⟩
theorem rx{p:Prop} (h:p:=by
 go_enter func122,ntmps122;go_wp2_with fail;refine(c1 _).mono ?_;rintro x w1⟨rfl,hb1⟩;go_wp2_with fail;refine(c2 _).mono ?_;rintro x w2⟨rfl,hb2⟩;go_wp2_with fail;go_ret
 exact⟨cU (dL (by simp[H.out])),Ff hb1 hb2⟩):p:=h
theorem GH(k:Nat):∀(n:Int)(w:World),n.natAbs<k->-9223372036854775808<=n->n<=9223372036854775807->
  Calls prog 122 #[N9 Oa n] w fun e w'=>e=Oe (Ob ⟨(itoa n).toArray⟩)/\ac w.heap.size w w':=by
 induction k with
 | zero=>intro n w h0;omega
 | succ k ih =>
  intro n w h1 h2 h3;by_cases hn:0<=n
  .by_cases hs:n<10
   .exact qf n w hn hs
   .have hl1:=bO (n / 10) mOm mOm;have hl2:=bO (n%10) mOm mOm;have H:=aa (lN (n:=n) mOm);have e1:n.tdiv 10=n / 10:=ev hn;have e2:n.tmod 10=n%10:=bN hn;have c1:=fun w=>ih (n / 10) w mOm mOm mOm
    have c2:=fun w=>ih (n%10) w mOm mOm mOm
    clear ih;exact rx
  .have hn':n<0:=mOm;have t1:=zO hn';have t2:=zP hn';by_cases hs : -10<n
   .have z:n.tdiv 10=0:=mOm;have e:n.tmod 10=n:=mOm;have hw:IntKind.i64.wrap (-n) = -n:=aH _ mOm;have H:=aa (Ab hn');have hl:=bO (-n) mOm mOm;have c:=fun w=>qf (-n) w mOm mOm
    clear t1 t2 ih;go_enter func122,ntmps122;go_wp2_with fail;refine(c _).mono ?_;rintro x w1⟨rfl,hb1⟩;go_wp2_with fail;go_ret;exact⟨cU (dL (by simp[H.out])),hb1⟩
   .have hl1:=bO (n.tdiv 10) mOm mOm;have hl2:=bO (-(n.tmod 10)) mOm mOm;have H:=aa (Hs (n:=n) mOm);have z:¬n.tdiv 10=0:=mOm;have hw:IntKind.i64.wrap (-(n.tmod 10)) = -(n.tmod 10):=aH _ mOm;have c1:=fun w=>ih (n.tdiv 10) w mOm mOm mOm
    have c2:=fun w=>qf (-(n.tmod 10)) w mOm mOm
    clear ih t1 t2;exact rx
theorem zy(n:Int)(h0 : -9223372036854775808<=n)(h1:n<=9223372036854775807)(w:World) :
  Calls prog 122 #[N9 Oa n] w fun e w'=>e=Oe (Ob ⟨(itoa n).toArray⟩)/\ac w.heap.size w w':=
 GH (n.natAbs+1) n w mOm h0 h1
theorem kS(n:Int)(h0 : -9223372036854775808<=n)(h1:n<=9223372036854775807)(w:World) :
  Calls prog 58 #[N9 Oa n] w fun e w'=>e=Oe (Ob ⟨(dM n).toArray⟩)/\ac w.heap.size w w':=by
 have hl:=bO n h0 h1;have c:=fun w=>zy n h0 h1 w
 go_enter func58,ntmps58;go_wp2_with fail;refine(c _).mono ?_;rintro x w1⟨rfl,hb1⟩;go_wp2_with fail;go_ret;exact⟨cU (dL (by simp[dM])),hb1⟩
theorem mC(s:ByteArray)(hs:s.size<=1000000)(w:World) :
  Calls prog 59 #[Ob s] w fun e w'=>e=Oe (Ob ⟨(eW s).toArray⟩)/\ac w.heap.size w w':=by
 have hl:=bO s.size mOm mOm;have c:=fun w=>zy s.size mOm mOm w
 go_enter func59,ntmps59;go_wp2_with fail;refine(c _).mono ?_;rintro x w1⟨rfl,hb1⟩;go_wp2_with fail;go_ret;exact⟨cU (dL (by simp[eW])),hb1⟩
end Wr
