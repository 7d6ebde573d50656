/- Lemmas. -/
import Derived.Test.YtnlhbdmeodbblaaGreatDoorMiab
import Derived.Laws.StructEq
set_option maxRecDepth 100000
set_option maxHeartbeats 16000000
set_option linter.all false
open Go.Proofs.Tryz
open Bool renaming and_eq_true→aW,not_eq_true'→en,or_eq_true→eu
open Go.IntWalk renaming i64_in→aF
open Go.Lib renaming cell_of_heap→ae,frozen_of_heap→aE,hid→aa
open List renaming getElem?_eq_getElem→ai,getElem_mem→bD,length_append→ax,length_reverse→eT,length_singleton→aG,length_take→aM,mem_cons→cR,mem_singleton→bJ,not_mem_nil→et,reverse_append→fI,reverse_reverse→dT,toArray→aq
open Nat renaming le_refl→aD,le_trans→bu,zero_add→bM
open Go.RowKit renaming Below→ac,intOf→aw
open Go.World renaming block_lt_of_cell?→am
open Go.Ending renaming returned→JT
open Go.IntKind renaming i64→JP
open Go.Obj renaming cells→JU
open Go.Value renaming int→JO,string→JQ,slice→JR,pointer→JS
open Option renaming some→JV,none→JW
namespace Go.Proofs.YtnlhbdmeodbblaaGreatDoor
section
variable {s0 s1 s2 s3 s4 s5 s6 s7 s8 s9 b3 b4 b5 b9 ba bb bc bd bf bg bh bk bm bo bq bt b6 b8 bx c0 c1 c3 c4 c5 c6 c7 c9 ca cb cc cd ce cg ch ci cj ck cl cn co cp cr ct cv cx cy cA cB cC cD cE cG cO cS cW cX d0 d1 d2 d3 d4 d9 dd dk dm dx dy e0 e1 e3 e4 e5 e6 e7:Value}
open Go Go.Proofs Go.RowKit Go.Sort Go.Lib
def dgB (l:List UInt8):ByteArray:=⟨(dg l).toArray⟩
def be (a b:ByteArray):ByteArray:=dgB (du [⟨#[4]⟩,a,b])
theorem pM (b c:Nat) (l:List ByteArray) (n:Nat) (hn:l.length=n) (hl:n≤1000) (w:World) (hP:pE w b 0 l) :
  Calls prog 181 #[JR (JV ⟨b,0,JW⟩) n c] w fun e w'=>e=JT (JQ (dgB (du l)))∧ac w.heap.size w w':=by
 subst hn;exact yF b 0 c l hl w hP
theorem nk {w:World} {b:Nat} {cs:Array Value} {t:TypeId} (h:w.heap[b]? = JV (JU cs t (0,0))) (l:List ByteArray) (hcs:cs.toList=l.map Value.string) (hz:∀ x∈l,x.size≤100000000):pE w b 0 l:=fun k hk=>by
 refine ⟨?_,hz _ (bD hk)⟩;rw [bM,ae h,← Array.getElem?_toList,hcs,List.getElem?_map,ai hk];rfl
theorem uB (b c:Nat) (x y:ByteArray) (hx:x.size≤100000000) (hy:y.size≤100000000) (w:World) (h:w.heap[b]? = JV (JU #[JQ ⟨#[4]⟩,JQ x,JQ y] 9 (0,0))) :
  Calls prog 181 #[JR (JV ⟨b,0,JW⟩) 3 c] w fun e w'=>e=JT (JQ (be x y))∧ac w.heap.size w w':=
 pM b c [⟨#[4]⟩,x,y] 3 rfl mOm w (nk h _ rfl (by
  intro z hz;simp only [cR,et,or_false] at hz;rcases hz with rfl | rfl | rfl
  ·decide
  ·exact hx
  ·exact hy))
theorem I1 (fb xb g g2 m c c2 n:Nat) (y x:Blk) (W:World) (Q:Exit→Act→World→Prop) (hbx:W.heap[fb]? = JV (JU #[JR (JV ⟨g,0,JW⟩) m c,JR (JV ⟨g2,0,JW⟩) m c2] 264 (0,0))) (hxb:W.heap[xb]? = JV (JU #[JO JP x.b,JO JP x.s] 293 (0,0))) (hra:W.rangeAt g (n*2) (jC y)) (hgl:g < W.heap.size) (hn:n < m) (_hm:m≤10000) (hab:y.b≤1099511627776) (has:y.s≤1099511627776) (has0:0 < y.s)
  (hQ:∀ (eb ed eg ei ej em eo er es ew ex eA:Value) (wx:World),ac W.heap.size W wx→Q .normal ⟨aq (JS (JV ⟨fb,0,JW⟩)::s1::s2::s3::JS (JV ⟨xb,0,JW⟩)::s5::JO JP (n:Int)::s7::s8::s9::b3::b4::b5::eb::ed::eg::ei::ej::em::eo::er::es::ew::ex::eA::.bool (lW y.b y.s x.b x.s)::[b6,b8,bx,c0,c1,c3,c4,c5,c6,c7,c9,ca,cb,cc,cd,ce,cg,ch,ci,cj,ck,cl,cn,co,cp,cr,ct,cv,cx,cy,cA,cB,cC,cD,cE,cG,cO,cS,cW,cX,d0,d1,d2,d3,d4,d9,dd,dk,dm,dx,dy,e0,e1,e3,e4,e5,e6,e7]),[]⟩ wx) :
  (bW f271 2).wp prog Q ⟨aq (JS (JV ⟨fb,0,JW⟩)::s1::s2::s3::JS (JV ⟨xb,0,JW⟩)::s5::JO JP (n:Int)::s7::s8::s9::b3::b4::b5::b9::ba::bb::bc::bd::bf::bg::bh::[bk,bm,bo,bq,bt,b6,b8,bx,c0,c1,c3,c4,c5,c6,c7,c9,ca,cb,cc,cd,ce,cg,ch,ci,cj,ck,cl,cn,co,cp,cr,ct,cv,cx,cy,cA,cB,cC,cD,cE,cG,cO,cS,cW,cX,d0,d1,d2,d3,d4,d9,dd,dk,dm,dx,dy,e0,e1,e3,e4,e5,e6,e7]),[]⟩ W:=by
 refine mOn ?_;generalize Q .normal=K at hQ ⊢;have HQ:=aa hQ;clear hQ
 conv=>arg 2;whnf
 have hfl:=aU hbx
 have hxl:=aU hxb;have cf:W.drew.cell? ⟨fb,0,JW⟩=JV (JR (JV ⟨g,0,JW⟩) m c):=ae hbx 0;have hS0:ac W.heap.size W W.drew∧W.drew.cell? ⟨fb,0,JW⟩=JV (JR (JV ⟨g,0,JW⟩) m c):=⟨(Below.refl _ _).drew,cf⟩;have keepS:∀ {w w':World},(ac W.heap.size W w∧w.cell? ⟨fb,0,JW⟩=JV (JR (JV ⟨g,0,JW⟩) m c))→ac w.heap.size w w'→(ac W.heap.size W w'∧w'.cell? ⟨fb,0,JW⟩=JV (JR (JV ⟨g,0,JW⟩) m c)):=fun hS hb=>⟨ah hS.1 hb,(hb.cell (p:=⟨fb,0,JW⟩) (am _ _ hS.2)).trans hS.2⟩
 have n0:(0:Int)≤(n:Int):=mOm;have n1:(n:Int) < (m:Int):=mOm;refine Jy (S:=fun w'=>ac W.heap.size W w'∧w'.cell? ⟨fb,0,JW⟩=JV (JR (JV ⟨g,0,JW⟩) m c)) [(0,true),(1,true),(2,true),(3,true),(4,true),(5,true),(6,true),(7,true),(8,true),(9,true),(10,true),(11,false),(12,true)] hS0 ?_;have hS:=hS0
 iterate 9 refine aj ?_
 refine dC ⟨_,_,_,_,_,_⟩ rfl mRf 293 (.tmp 21) mRf g (n*2) mRf (jC y) _ (fun w hSw j v hv=>(hSw.1.cell (p:=⟨g,n*2+j,JW⟩) hgl).trans (hra j v hv)) underlying293 rfl mKr ?_;refine ar ?_;refine dC ⟨_,_,_,_,_,_⟩ rfl mRf 293 (.tmp 4) mRf xb 0 mRf (jC x) _ (fun w hSw j v hv=>(hSw.1.cell (p:=⟨xb,0+j,JW⟩) hxl).trans (by rw [bM,ae hxb];simpa [jC] using hv)) underlying293 rfl mKr ?_;refine ar ?_;refine aH 288 call288 (B5 y.b y.s x.b x.s hab has has0 _) ?_;rintro x wn ⟨rfl,hb⟩;replace hS:=keepS hS hb;refine ⟨_,rfl,hS,?_⟩;(try clear hb);refine ar ?_;refine aj ?_;simp only [aO,bj];exact HQ.out _ _ _ _ _ _ _ _ _ _ _ _ _ hS.1
theorem Ie (fb xb:Nat) (W:World) (Q:Exit→Act→World→Prop)
  (hQ:∀ (eb ed eg ei ej em eo er es ew ex eA:Value) (wx:World),ac W.heap.size W wx→Q .normal ⟨aq (JS (JV ⟨fb,0,JW⟩)::s1::s2::s3::JS (JV ⟨xb,0,JW⟩)::s5::JO JP (-1)::s7::s8::s9::b3::b4::b5::eb::ed::eg::ei::ej::em::eo::er::es::ew::ex::eA::.bool false::[b6,b8,bx,c0,c1,c3,c4,c5,c6,c7,c9,ca,cb,cc,cd,ce,cg,ch,ci,cj,ck,cl,cn,co,cp,cr,ct,cv,cx,cy,cA,cB,cC,cD,cE,cG,cO,cS,cW,cX,d0,d1,d2,d3,d4,d9,dd,dk,dm,dx,dy,e0,e1,e3,e4,e5,e6,e7]),[]⟩ wx) :
  (bW f271 2).wp prog Q ⟨aq (JS (JV ⟨fb,0,JW⟩)::s1::s2::s3::JS (JV ⟨xb,0,JW⟩)::s5::JO JP (-1)::s7::s8::s9::b3::b4::b5::b9::ba::bb::bc::bd::bf::bg::bh::[bk,bm,bo,bq,bt,b6,b8,bx,c0,c1,c3,c4,c5,c6,c7,c9,ca,cb,cc,cd,ce,cg,ch,ci,cj,ck,cl,cn,co,cp,cr,ct,cv,cx,cy,cA,cB,cC,cD,cE,cG,cO,cS,cW,cX,d0,d1,d2,d3,d4,d9,dd,dk,dm,dx,dy,e0,e1,e3,e4,e5,e6,e7]),[]⟩ W:=by
 refine mOn ?_;generalize Q .normal=K at hQ ⊢;have HQ:=aa hQ;clear hQ
 conv=>arg 2;whnf
 have hS0:ac W.heap.size W W.drew:=(Below.refl _ _).drew
 refine Jy (S:=fun w'=>ac W.heap.size W w') [(0,true),(1,true),(2,true),(3,true),(4,true),(5,true),(6,true),(7,true),(8,true),(9,true),(10,true),(11,false),(12,true)] hS0 ?_;have hS:=hS0
 iterate 11 (first | refine aj ?_ | refine cN ?_)
 refine gC ⟨_,_,_,_,_,_⟩ rfl mRf hS ?_;refine ar ?_;refine aj ?_;simp only [aO,bj];exact HQ.out _ _ _ _ _ _ _ _ _ _ _ _ _ hS
theorem Kr {p q:Prop} (h:q) (f:Wq q→p:=by
 intro hq;have g16:=ak (L:=L') (i:=7) (j:=16);have g17:=ak (L:=L') (i:=7) (j:=17);have g18:=ak (L:=L') (i:=7) (j:=18);have g19:=ak (L:=L') (i:=7) (j:=19)
 revert g16 g17 g18 g19
 exact hq.1):p:=f ⟨h⟩
theorem KF {p q:Prop} (h:q) (f:Wq q→p:=by
 intro hq;have g16:=cK (L:=L') (i:=16);have g17:=ak (L:=L') (i:=16) (j:=17);have g18:=ak (L:=L') (i:=16) (j:=18);have g19:=ak (L:=L') (i:=16) (j:=19)
 revert g16 g17 g18 g19
 exact hq.1):p:=f ⟨h⟩
theorem Kf {p q:Prop} (h:q) (f:Wq q→p:=by
 intro hq;have g16:=ak (L:=L') (i:=17) (j:=16);have g17:=cK (L:=L') (i:=17);have g18:=ak (L:=L') (i:=17) (j:=18);have g19:=ak (L:=L') (i:=17) (j:=19)
 revert g16 g17 g18 g19
 exact hq.1):p:=f ⟨h⟩
theorem Kj {p q:Prop} (h:q) (f:Wq q→p:=by
 intro hq;have g16:=ak (L:=L') (i:=18) (j:=16);have g17:=ak (L:=L') (i:=18) (j:=17);have g18:=cK (L:=L') (i:=18);have g19:=ak (L:=L') (i:=18) (j:=19)
 revert g16 g17 g18 g19
 exact hq.1):p:=f ⟨h⟩
theorem Ks {p q:Prop} (h:q) (f:Wq q→p:=by
 intro hq;have g16:=ak (L:=L') (i:=19) (j:=16);have g17:=ak (L:=L') (i:=19) (j:=17);have g18:=ak (L:=L') (i:=19) (j:=18);have g19:=cK (L:=L') (i:=19)
 revert g16 g17 g18 g19
 exact hq.1):p:=f ⟨h⟩
theorem I2 (fb xb g g2 m c c2 n:Nat) (y x:Blk) (d:ByteArray) (W:World) (Q:Exit→Act→World→Prop) (hbx:W.heap[fb]? = JV (JU #[JR (JV ⟨g,0,JW⟩) m c,JR (JV ⟨g2,0,JW⟩) m c2] 264 (0,0))) (hxb:W.heap[xb]? = JV (JU #[JO JP x.b,JO JP x.s] 293 (0,0))) (hra:W.rangeAt g (n*2) (jC y)) (hrd:W.cell? ⟨g2,n,JW⟩=JV (JQ y.d)) (hgl:g < W.heap.size) (hgl2:g2 < W.heap.size) (hfx:¬ fb=xb) (hgx:¬ g=xb) (hgx2:¬ g2=xb) (hn:n < m) (_hm:m≤10000) (has:y.s≤1099511627776) (had:y.d.size=8) (hd:d.size=8)
  (hQ:∀ (e8 e9 ea:Value)  (wx:World),LM (fun k=>k=xb) W wx→wx.heap[xb]? = JV (JU #[JO JP y.b,JO JP (2*(y.s:Int))] 293 (0,0))→Q .normal ⟨aq (JS (JV ⟨fb,0,JW⟩)::s1::JQ (be y.d d)::s3::JS (JV ⟨xb,0,JW⟩)::s5::JO JP (n:Int)::s7::s8::s9::b3::b4::b5::b9::ba::bb::bc::bd::bf::bg::bh::bk::bm::bo::bq::bt::b6::b8::JS (JV ⟨fb,0,JW⟩)::JS (JV ⟨fb,0,JW⟩)::JS (JV ⟨fb,0,JW⟩)::JR (JV ⟨g,0,JW⟩) m c::JO JP (n:Int)::JS (JV ⟨g,n*2,JW⟩)::.agg #[JO JP y.b,JO JP y.s]::e8::JS (JV ⟨fb,0,JW⟩)::JS (JV ⟨fb,0,JW⟩)::JS (JV ⟨fb,1,JW⟩)::JR (JV ⟨g2,0,JW⟩) m c2::JO JP (n:Int)::JS (JV ⟨g2,n,JW⟩)::JQ y.d::JQ d::[e9,ea,ck,cl,cn,co,cp,cr,ct,cv,cx,cy,cA,cB,cC,cD,cE,cG,cO,cS,cW,cX,d0,d1,d2,d3,d4,d9,dd,dk,dm,dx,dy,e0,e1,e3,e4,e5,e6,e7]),[]⟩ wx) :
  (bW f271 4).wp prog Q ⟨aq (JS (JV ⟨fb,0,JW⟩)::s1::JQ d::s3::JS (JV ⟨xb,0,JW⟩)::s5::JO JP (n:Int)::s7::s8::s9::b3::b4::b5::b9::ba::bb::bc::bd::bf::bg::bh::[bk,bm,bo,bq,bt,b6,b8,bx,c0,c1,c3,c4,c5,c6,c7,c9,ca,cb,cc,cd,ce,cg,ch,ci,cj,ck,cl,cn,co,cp,cr,ct,cv,cx,cy,cA,cB,cC,cD,cE,cG,cO,cS,cW,cX,d0,d1,d2,d3,d4,d9,dd,dk,dm,dx,dy,e0,e1,e3,e4,e5,e6,e7]),[]⟩ W:=by
 refine mOn ?_;generalize Q .normal=K at hQ ⊢;have HQ:=aa hQ;clear hQ
 conv=>arg 2;whnf
 have hfl:=aU hbx
 have hxl:=aU hxb;have n0:(0:Int)≤(n:Int):=mOm;have n1:(n:Int) < (m:Int):=mOm;refine fV (S:=fun w=>LM (fun k=>k=xb) W w) (I:=fun L' a w=>∃ e8 e9 ea u2:Value,a=⟨aq (JS (JV ⟨fb,0,JW⟩)::s1::u2::s3::JS (JV ⟨xb,0,JW⟩)::s5::JO JP (n:Int)::s7::s8::s9::b3::b4::b5::b9::ba::bb::bc::bd::bf::bg::bh::bk::bm::bo::bq::bt::b6::b8::JS (JV ⟨fb,0,JW⟩)::JS (JV ⟨fb,0,JW⟩)::JS (JV ⟨fb,0,JW⟩)::JR (JV ⟨g,0,JW⟩) m c::JO JP (n:Int)::JS (JV ⟨g,n*2,JW⟩)::.agg #[JO JP y.b,JO JP y.s]::e8::JS (JV ⟨fb,0,JW⟩)::JS (JV ⟨fb,0,JW⟩)::JS (JV ⟨fb,1,JW⟩)::JR (JV ⟨g2,0,JW⟩) m c2::JO JP (n:Int)::JS (JV ⟨g2,n,JW⟩)::JQ y.d::JQ d::[e9,ea,ck,cl,cn,co,cp,cr,ct,cv,cx,cy,cA,cB,cC,cD,cE,cG,cO,cS,cW,cX,d0,d1,d2,d3,d4,d9,dd,dk,dm,dx,dy,e0,e1,e3,e4,e5,e6,e7]),[]⟩∧(LM (fun k=>k=xb) W w)∧(L'.getD 7 false=true→e8=.agg #[JO JP y.b,JO JP (2*(y.s:Int))])∧(L'.getD 16 false=true→∃ b,e9=JR (JV ⟨b,0,JW⟩) 3 3∧W.heap.size≤b∧w.heap[b]? = JV (JU #[JQ ⟨#[4]⟩,JQ y.d,JQ d] 9 (0,0)))∧(L'.getD 17 false=true→ea=JQ (be y.d d))∧(L'.getD 18 false=true→w.heap[xb]? = JV (JU #[JO JP y.b,JO JP (2*(y.s:Int))] 293 (0,0)))∧(L'.getD 19 false=true→u2=JQ (be y.d d))∧(L'.getD 18 false=false→w.heap[xb]? = JV (JU #[JO JP x.b,JO JP x.s] 293 (0,0)))) (pre:=fun i L'=>L'.size==20&&((i==7)||(i==16)||(i==17&&L'.getD 16 false)||(i==18&&L'.getD 7 false && !L'.getD 18 false)||(i==19&&L'.getD 17 false))) (fin:=fun L'=>L'.getD 19 false&&L'.getD 18 false) [0,1,2,3,4,5,6,8,9,10,11,12,13,14,15] 5 mKr mKr mKr mKr mDe (LM.of (Below.refl _ _).drew) ?_ ?_ ?_
 ·intro i L' a w hp hI;obtain ⟨e8,e9,ea,u2,rfl,hSw,hP7,hP16,hP17,hP18,hP19,hN⟩:=hI;simp only [aW,eu,beq_iff_eq,en] at hp;obtain ⟨hsz,hp⟩:=hp;rcases hp with ((((rfl | rfl) | ⟨rfl,gd16⟩) | ⟨⟨rfl,gd7⟩,gn18⟩) | ⟨rfl,gd17⟩)
  ·have g7:=cK (L:=L') (i:=7);refine Kr ?_;intro g16 g17 g18 g19;refine tN ⟨_,_,_,_,_,_⟩ rfl mRf 289 _ _ mRf _ mRf call289 (B9 y.b y.s has _) ?_;rintro e wn ⟨rfl,hb⟩;have hSn:=hSw.trans (LM.of hb);exact ⟨_,rfl,hSn,(.agg #[JO JP y.b,JO JP (2*(y.s:Int))]),(e9),(ea),(u2),mPt,hSn,fun _=>rfl,by rw [g16];exact fun e=>(by obtain ⟨b,h1,h2,h3⟩:=(hP16 e);exact ⟨b,h1,h2,hb.heap_of h3⟩),by rw [g17];exact hP17,by rw [g18];exact fun e=>hb.heap_of (hP18 e),by rw [g19];exact hP19,by rw [g18];exact fun e=>hb.heap_of (hN e)⟩
  ·have g7:=ak (L:=L') (i:=16) (j:=7);refine KF ?_;intro g16 g17 g18 g19;have hb:ac w.heap.size w (w.alloc (JU #[JQ ⟨#[4]⟩,JQ y.d,JQ d] 9)):=au _ _;have hSn:=hSw.trans (LM.of hb);refine cQ ⟨_,_,_,_,_,_⟩ (JR (JV ⟨w.heap.size,0,JW⟩) 3 3) (w.alloc (JU #[JQ ⟨#[4]⟩,JQ y.d,JQ d] 9)) rfl mRf (by go_simp) ?_;exact ⟨hSn,(e8),(JR (JV ⟨w.heap.size,0,JW⟩) 3 3),(ea),(u2),mPt,hSn,by rw [g7];exact hP7,fun _=>⟨_,rfl,hSw.size,heap_alloc_new _ _⟩,by rw [g17];exact hP17,by rw [g18];exact fun e=>hb.heap_of (hP18 e),by rw [g19];exact hP19,by rw [g18];exact fun e=>hb.heap_of (hN e)⟩
  ·have g7:=ak (L:=L') (i:=17) (j:=7);refine Kf ?_;intro g16 g17 g18 g19;have hD16:=hP16 gd16;obtain ⟨b16,rfl,hB16,hb16⟩:=hD16;refine tN ⟨_,_,_,_,_,_⟩ rfl mRf 181 _ _ mRf _ mRf call181 (uB b16 3 y.d d mOm mOm _ hb16) ?_;rintro e wn ⟨rfl,hb⟩;have hSn:=hSw.trans (LM.of hb);exact ⟨_,rfl,hSn,(e8),(JR (JV ⟨b16,0,JW⟩) 3 3),(JQ (be y.d d)),(u2),mPt,hSn,by rw [g7];exact hP7,by rw [g16];exact fun e=>(by obtain ⟨b,h1,h2,h3⟩:=(hP16 e);exact ⟨b,h1,h2,hb.heap_of h3⟩),fun _=>rfl,by rw [g18];exact fun e=>hb.heap_of (hP18 e),by rw [g19];exact hP19,by rw [g18];exact fun e=>hb.heap_of (hN e)⟩
  ·have g7:=ak (L:=L') (i:=18) (j:=7);refine Kj ?_;intro g16 g17 g18 g19;have hD7:=hP7 gd7;obtain rfl:=hD7;have hold:=hN gn18;have hg:LM (fun k=>k=xb) w (w.setRow xb #[JO JP y.b,JO JP (2*(y.s:Int))]):=LM.setRow w xb _;have hSn:=hSw.trans hg;refine bH ⟨_,_,_,_,_,_⟩ rfl mRf 293 _ _ mRf xb #[JO JP y.b,JO JP (2*(y.s:Int))] mRf mRf _ _ hold mKr rfl (by simp [Value.oneCell']) ?_;exact ⟨hSn,(.agg #[JO JP y.b,JO JP (2*(y.s:Int))]),(e9),(ea),(u2),by simp only [Act.put],hSn,by rw [g7];exact hP7,by rw [g16];exact fun e=>(by obtain ⟨b,h1,h2,h3⟩:=(hP16 e);exact ⟨b,h1,h2,hg.heap h3 mOm⟩),by rw [g17];exact hP17,fun _=>setRow_heap w xb _ _ _ _ hold,by rw [g19];exact hP19,by rw [g18];exact fun e=>absurd e mDe⟩
  ·have g7:=ak (L:=L') (i:=19) (j:=7);refine Ks ?_;intro g16 g17 g18 g19;have hD17:=hP17 gd17;obtain rfl:=hD17;have hSn:=hSw;refine cQ ⟨_,_,_,_,_,_⟩ (JQ (be y.d d)) w rfl mRf (by go_simp) ?_;exact ⟨hSn,(e8),(e9),(JQ (be y.d d)),(JQ (be y.d d)),mPt,hSn,by rw [g7];exact hP7,by rw [g16];exact hP16,by rw [g17];exact hP17,by rw [g18];exact hP18,fun _=>rfl,by rw [g18];exact hN⟩
 ·intro L' a w hp hI;obtain ⟨e8,e9,ea,u2,rfl,hSw,hP7,hP16,hP17,hP18,hP19,hN⟩:=hI
  (try simp only [aW] at hp)
  obtain ⟨p19,p18⟩:=hp;obtain rfl:=hP19 p19;exact HQ.out _ _ _ w hSw (hP18 p18)
 ·refine aV ⟨_,_,_,_,_,_⟩ ?_ rfl mRf ?_ ?_
  rotate_left 1
  ·intro w hSw;(try dsimp only at hSw);go_simp;(try with_reducible rfl)
  refine ar ?_
  refine aV ⟨_,_,_,_,_,_⟩ ?_ rfl mRf ?_ ?_
  rotate_left 1
  ·intro w hSw;(try dsimp only at hSw);go_simp;(try with_reducible rfl)
  refine ar ?_
  refine aV ⟨_,_,_,_,_,_⟩ ?_ rfl mRf ?_ ?_
  rotate_left 1
  ·intro w hSw;(try dsimp only at hSw);go_simp;(try with_reducible rfl)
  refine ar ?_
  refine aV ⟨_,_,_,_,_,_⟩ ?_ rfl mRf ?_ ?_
  rotate_left 1
  ·intro w hSw;(try dsimp only at hSw);have hc:=(hSw.cell hfl hfx 0 JW).trans (ae hbx 0);go_simp;(try with_reducible rfl)
  refine ar ?_
  refine aV ⟨_,_,_,_,_,_⟩ ?_ rfl mRf ?_ ?_
  rotate_left 1
  ·intro w hSw;(try dsimp only at hSw);go_simp;(try with_reducible rfl)
  refine ar ?_
  refine aV ⟨_,_,_,_,_,_⟩ ?_ rfl mRf ?_ ?_
  rotate_left 1
  ·intro w hSw;(try dsimp only at hSw);go_simp;(try with_reducible rfl)
  refine ar ?_
  refine rq ⟨_,_,_,_,_,_⟩ rfl mRf 293 (.tmp 33) mRf g (n*2) mRf (jC y) _ (fun w hSw j v hv=>(hSw.cell hgl hgx _ _).trans (hra j v hv)) underlying293 rfl mKr ?_;refine ar ?_;refine aV ⟨_,_,_,_,_,_⟩ ?_ rfl mRf ?_ ?_
  rotate_left 1
  ·intro w hSw;(try dsimp only at hSw);go_simp;(try with_reducible rfl)
  refine ar ?_
  refine aV ⟨_,_,_,_,_,_⟩ ?_ rfl mRf ?_ ?_
  rotate_left 1
  ·intro w hSw;(try dsimp only at hSw);go_simp;(try with_reducible rfl)
  refine ar ?_
  refine aV ⟨_,_,_,_,_,_⟩ ?_ rfl mRf ?_ ?_
  rotate_left 1
  ·intro w hSw;(try dsimp only at hSw);go_simp;(try with_reducible rfl)
  refine ar ?_
  refine aV ⟨_,_,_,_,_,_⟩ ?_ rfl mRf ?_ ?_
  rotate_left 1
  ·intro w hSw;(try dsimp only at hSw);have hc:=(hSw.cell hfl hfx 1 JW).trans (ae hbx 1);go_simp;(try with_reducible rfl)
  refine ar ?_
  refine aV ⟨_,_,_,_,_,_⟩ ?_ rfl mRf ?_ ?_
  rotate_left 1
  ·intro w hSw;(try dsimp only at hSw);go_simp;(try with_reducible rfl)
  refine ar ?_
  refine aV ⟨_,_,_,_,_,_⟩ ?_ rfl mRf ?_ ?_
  rotate_left 1
  ·intro w hSw;(try dsimp only at hSw);go_simp;(try with_reducible rfl)
  refine ar ?_
  refine aV ⟨_,_,_,_,_,_⟩ ?_ rfl mRf ?_ ?_
  rotate_left 1
  ·intro w hSw;(try dsimp only at hSw);have hc:=(hSw.cell hgl2 hgx2 n JW).trans hrd;go_simp;(try with_reducible rfl)
  refine ar ?_
  refine aV ⟨_,_,_,_,_,_⟩ ?_ rfl mRf ?_ ?_
  rotate_left 1
  ·intro w hSw;(try dsimp only at hSw);go_simp;(try with_reducible rfl)
  refine ar ?_
  exact ⟨_,_,_,_,rfl,(LM.of (Below.refl _ _).drew),(fun e=>absurd e (by decide +kernel)),(fun e=>absurd e (by decide +kernel)),(fun e=>absurd e (by decide +kernel)),(fun e=>absurd e (by decide +kernel)),(fun e=>absurd e (by decide +kernel)),(fun _=>hxb)⟩
theorem J4 {p q:Prop} (h:q) (f:Wq q→p:=by
 intro hq;have hSn:=hSw;refine cQ ⟨_,_,_,_,_,_⟩ (JS (JV ⟨fb,0,JW⟩)) w rfl mRf (by go_simp) ?_
 revert hSn
 exact hq.1):p:=f ⟨h⟩
theorem Li {p q:Prop} (h:q) (f:Wq q→p:=by
 intro hq;have g14:=ak (L:=L') (i:=5) (j:=14);have g15:=ak (L:=L') (i:=5) (j:=15);have g16:=ak (L:=L') (i:=5) (j:=16);have g17:=ak (L:=L') (i:=5) (j:=17);have g18:=ak (L:=L') (i:=5) (j:=18);have g19:=ak (L:=L') (i:=5) (j:=19)
 revert g14 g15 g16 g17 g18 g19
 exact hq.1):p:=f ⟨h⟩
theorem Lp {p q:Prop} (h:q) (f:Wq q→p:=by
 intro hq;have g14:=cK (L:=L') (i:=14);have g15:=ak (L:=L') (i:=14) (j:=15);have g16:=ak (L:=L') (i:=14) (j:=16);have g17:=ak (L:=L') (i:=14) (j:=17);have g18:=ak (L:=L') (i:=14) (j:=18);have g19:=ak (L:=L') (i:=14) (j:=19)
 revert g14 g15 g16 g17 g18 g19
 exact hq.1):p:=f ⟨h⟩
theorem Lz {p q:Prop} (h:q) (f:Wq q→p:=by
 intro hq;have g14:=ak (L:=L') (i:=15) (j:=14);have g15:=cK (L:=L') (i:=15);have g16:=ak (L:=L') (i:=15) (j:=16);have g17:=ak (L:=L') (i:=15) (j:=17);have g18:=ak (L:=L') (i:=15) (j:=18);have g19:=ak (L:=L') (i:=15) (j:=19)
 revert g14 g15 g16 g17 g18 g19
 exact hq.1):p:=f ⟨h⟩
theorem I3 (fb g g2 m c c2 n:Nat) (W:World) (Q:Exit→Act→World→Prop) (hbx:W.heap[fb]? = JV (JU #[JR (JV ⟨g,0,JW⟩) m c,JR (JV ⟨g2,0,JW⟩) m c2] 264 (0,0))) (hn:n < m) (_hm:m≤10000) (hmc:m≤c) (hmc2:m≤c2)
  (hQ:∀ (ab ad af ag ao b0 b1 b2:Value)  (wx:World),LM (fun k=>k=fb) W wx→wx.heap[fb]? = JV (JU #[JR (JV ⟨g,0,JW⟩) n c,JR (JV ⟨g2,0,JW⟩) n c2] 264 (0,0))→Q .normal ⟨aq (JS (JV ⟨fb,0,JW⟩)::s1::s2::s3::s4::s5::JO JP (n:Int)::s7::s8::s9::b3::b4::b5::b9::ba::bb::bc::bd::bf::bg::bh::bk::bm::bo::bq::bt::b6::b8::bx::c0::c1::c3::c4::c5::c6::c7::c9::ca::cb::cc::cd::ce::cg::ch::ci::cj::JS (JV ⟨fb,0,JW⟩)::JS (JV ⟨fb,0,JW⟩)::JS (JV ⟨fb,0,JW⟩)::JS (JV ⟨fb,0,JW⟩)::JS (JV ⟨fb,0,JW⟩)::ab::JO JP (n:Int)::ad::JS (JV ⟨fb,0,JW⟩)::JS (JV ⟨fb,0,JW⟩)::JS (JV ⟨fb,1,JW⟩)::af::JO JP (n:Int)::[ag,ao,b0,b1,b2,cW,cX,d0,d1,d2,d3,d4,d9,dd,dk,dm,dx,dy,e0,e1,e3,e4,e5,e6,e7]),[]⟩ wx) :
  (bW f271 5).wp prog Q ⟨aq (JS (JV ⟨fb,0,JW⟩)::s1::s2::s3::s4::s5::JO JP (n:Int)::s7::s8::s9::b3::b4::b5::b9::ba::bb::bc::bd::bf::bg::bh::[bk,bm,bo,bq,bt,b6,b8,bx,c0,c1,c3,c4,c5,c6,c7,c9,ca,cb,cc,cd,ce,cg,ch,ci,cj,ck,cl,cn,co,cp,cr,ct,cv,cx,cy,cA,cB,cC,cD,cE,cG,cO,cS,cW,cX,d0,d1,d2,d3,d4,d9,dd,dk,dm,dx,dy,e0,e1,e3,e4,e5,e6,e7]),[]⟩ W:=by
 refine mOn ?_;generalize Q .normal=K at hQ ⊢;have HQ:=aa hQ;clear hQ
 conv=>arg 2;whnf
 have n0:(0:Int)≤(n:Int):=mOm
 have n1:(n:Int)≤(m:Int):=mOm;have n2:¬ c < n:=mOm;have n3:¬ c2 < n:=mOm;refine fV (S:=fun w=>LM (fun k=>k=fb) W w) (I:=fun L' a w=>∃ ab ad af ag ao b0 b1 b2:Value,a=⟨aq (JS (JV ⟨fb,0,JW⟩)::s1::s2::s3::s4::s5::JO JP (n:Int)::s7::s8::s9::b3::b4::b5::b9::ba::bb::bc::bd::bf::bg::bh::bk::bm::bo::bq::bt::b6::b8::bx::c0::c1::c3::c4::c5::c6::c7::c9::ca::cb::cc::cd::ce::cg::ch::ci::cj::JS (JV ⟨fb,0,JW⟩)::JS (JV ⟨fb,0,JW⟩)::JS (JV ⟨fb,0,JW⟩)::JS (JV ⟨fb,0,JW⟩)::JS (JV ⟨fb,0,JW⟩)::ab::JO JP (n:Int)::ad::JS (JV ⟨fb,0,JW⟩)::JS (JV ⟨fb,0,JW⟩)::JS (JV ⟨fb,1,JW⟩)::af::JO JP (n:Int)::[ag,ao,b0,b1,b2,cW,cX,d0,d1,d2,d3,d4,d9,dd,dk,dm,dx,dy,e0,e1,e3,e4,e5,e6,e7]),[]⟩∧(LM (fun k=>k=fb) W w)∧(L'.getD 5 false=true→ab=JR (JV ⟨g,0,JW⟩) m c)∧(L'.getD 7 false=true→ad=JR (JV ⟨g,0,JW⟩) n c)∧(L'.getD 11 false=true→af=JR (JV ⟨g2,0,JW⟩) m c2)∧(L'.getD 13 false=true→ag=JR (JV ⟨g2,0,JW⟩) n c2)∧(L'.getD 14 false=true→ao=JS (JV ⟨fb,0,JW⟩))∧(L'.getD 15 false=true→b0=JS (JV ⟨fb,0,JW⟩))∧(L'.getD 16 false=true→L'.getD 19 false=false→w.heap[fb]? = JV (JU #[JR (JV ⟨g,0,JW⟩) n c,JR (JV ⟨g2,0,JW⟩) m c2] 264 (0,0)))∧(L'.getD 17 false=true→b1=JS (JV ⟨fb,0,JW⟩))∧(L'.getD 18 false=true→b2=JS (JV ⟨fb,1,JW⟩))∧(L'.getD 19 false=true→w.heap[fb]? = JV (JU #[JR (JV ⟨g,0,JW⟩) n c,JR (JV ⟨g2,0,JW⟩) n c2] 264 (0,0)))∧(L'.getD 16 false=false→w.heap[fb]? = JV (JU #[JR (JV ⟨g,0,JW⟩) m c,JR (JV ⟨g2,0,JW⟩) m c2] 264 (0,0)))) (pre:=fun i L'=>L'.size==20&&((i==5 && !L'.getD 16 false)||(i==7&&L'.getD 5 false)||(i==11 && !L'.getD 16 false)||(i==13&&L'.getD 11 false)||(i==14)||(i==15&&L'.getD 14 false)||(i==16&&L'.getD 7 false&&L'.getD 15 false && !L'.getD 16 false && !L'.getD 19 false)||(i==17)||(i==18&&L'.getD 17 false)||(i==19&&L'.getD 13 false&&L'.getD 18 false&&L'.getD 16 false && !L'.getD 19 false))) (fin:=fun L'=>L'.getD 19 false) [0,1,2,3,4,6,8,9,10,12] 10 mKr mKr mKr mKr mDe (LM.of (Below.refl _ _).drew) ?_ ?_ ?_
 ·intro i L' a w hp hI;obtain ⟨ab,ad,af,ag,ao,b0,b1,b2,rfl,hSw,hP5,hP7,hP11,hP13,hP14,hP15,hP16,hP17,hP18,hP19,hN0⟩:=hI;simp only [aW,eu,beq_iff_eq,en] at hp;obtain ⟨hsz,hp⟩:=hp;rcases hp with (((((((((⟨rfl,gn16⟩ | ⟨rfl,gd5⟩) | ⟨rfl,gn16⟩) | ⟨rfl,gd11⟩) | rfl) | ⟨rfl,gd14⟩) | ⟨⟨⟨⟨rfl,gd7⟩,gd15⟩,gn16⟩,gn19⟩) | rfl) | ⟨rfl,gd17⟩) | ⟨⟨⟨⟨rfl,gd13⟩,gd18⟩,gd16⟩,gn19⟩)
  ·have g5:=cK (L:=L') (i:=5);have g7:=ak (L:=L') (i:=5) (j:=7);have g11:=ak (L:=L') (i:=5) (j:=11);have g13:=ak (L:=L') (i:=5) (j:=13);refine Li ?_;intro g14 g15 g16 g17 g18 g19;have hcc:=ae (hN0 gn16) 0;have hSn:=hSw;refine cQ ⟨_,_,_,_,_,_⟩ (JR (JV ⟨g,0,JW⟩) m c) w rfl mRf (by go_simp) ?_;exact ⟨hSn,(JR (JV ⟨g,0,JW⟩) m c),(ad),(af),(ag),(ao),(b0),(b1),(b2),mPt,hSn,fun _=>rfl,by rw [g7];exact hP7,by rw [g11];exact hP11,by rw [g13];exact hP13,by rw [g14];exact hP14,by rw [g15];exact hP15,by rw [g16,g19];exact fun e e2=>absurd (e.symm.trans gn16) mDe,by rw [g17];exact hP17,by rw [g18];exact hP18,by rw [g19];exact hP19,by rw [g16];exact hN0⟩
  ·have g5:=ak (L:=L') (i:=7) (j:=5);have g7:=cK (L:=L') (i:=7);have g11:=ak (L:=L') (i:=7) (j:=11);have g13:=ak (L:=L') (i:=7) (j:=13);have g14:=ak (L:=L') (i:=7) (j:=14);have g15:=ak (L:=L') (i:=7) (j:=15);refine Kr ?_;intro g16 g17 g18 g19;have hD5:=hP5 gd5;obtain rfl:=hD5;have hSn:=hSw;refine cQ ⟨_,_,_,_,_,_⟩ (JR (JV ⟨g,0,JW⟩) n c) w rfl mRf (by go_simp) ?_;exact ⟨hSn,(JR (JV ⟨g,0,JW⟩) m c),(JR (JV ⟨g,0,JW⟩) n c),(af),(ag),(ao),(b0),(b1),(b2),mPt,hSn,by rw [g5];exact hP5,fun _=>rfl,by rw [g11];exact hP11,by rw [g13];exact hP13,by rw [g14];exact hP14,by rw [g15];exact hP15,by rw [g16,g19];exact hP16,by rw [g17];exact hP17,by rw [g18];exact hP18,by rw [g19];exact hP19,by rw [g16];exact hN0⟩
  ·have g5:=ak (L:=L') (i:=11) (j:=5);have g7:=ak (L:=L') (i:=11) (j:=7);have g11:=cK (L:=L') (i:=11);have g13:=ak (L:=L') (i:=11) (j:=13);have g14:=ak (L:=L') (i:=11) (j:=14);have g15:=ak (L:=L') (i:=11) (j:=15);have g16:=ak (L:=L') (i:=11) (j:=16);have g17:=ak (L:=L') (i:=11) (j:=17);have g18:=ak (L:=L') (i:=11) (j:=18);have g19:=ak (L:=L') (i:=11) (j:=19);have hcc:=ae (hN0 gn16) 1;have hSn:=hSw;refine cQ ⟨_,_,_,_,_,_⟩ (JR (JV ⟨g2,0,JW⟩) m c2) w rfl mRf (by go_simp) ?_;exact ⟨hSn,(ab),(ad),(JR (JV ⟨g2,0,JW⟩) m c2),(ag),(ao),(b0),(b1),(b2),mPt,hSn,by rw [g5];exact hP5,by rw [g7];exact hP7,fun _=>rfl,by rw [g13];exact hP13,by rw [g14];exact hP14,by rw [g15];exact hP15,by rw [g16,g19];exact fun e e2=>absurd (e.symm.trans gn16) mDe,by rw [g17];exact hP17,by rw [g18];exact hP18,by rw [g19];exact hP19,by rw [g16];exact hN0⟩
  ·have g5:=ak (L:=L') (i:=13) (j:=5);have g7:=ak (L:=L') (i:=13) (j:=7);have g11:=ak (L:=L') (i:=13) (j:=11);have g13:=cK (L:=L') (i:=13);have g14:=ak (L:=L') (i:=13) (j:=14);have g15:=ak (L:=L') (i:=13) (j:=15);have g16:=ak (L:=L') (i:=13) (j:=16);have g17:=ak (L:=L') (i:=13) (j:=17);have g18:=ak (L:=L') (i:=13) (j:=18);have g19:=ak (L:=L') (i:=13) (j:=19);have hD11:=hP11 gd11;obtain rfl:=hD11;have hSn:=hSw;refine cQ ⟨_,_,_,_,_,_⟩ (JR (JV ⟨g2,0,JW⟩) n c2) w rfl mRf (by go_simp) ?_;exact ⟨hSn,(ab),(ad),(JR (JV ⟨g2,0,JW⟩) m c2),(JR (JV ⟨g2,0,JW⟩) n c2),(ao),(b0),(b1),(b2),mPt,hSn,by rw [g5];exact hP5,by rw [g7];exact hP7,by rw [g11];exact hP11,fun _=>rfl,by rw [g14];exact hP14,by rw [g15];exact hP15,by rw [g16,g19];exact hP16,by rw [g17];exact hP17,by rw [g18];exact hP18,by rw [g19];exact hP19,by rw [g16];exact hN0⟩
  ·have g5:=ak (L:=L') (i:=14) (j:=5);have g7:=ak (L:=L') (i:=14) (j:=7);have g11:=ak (L:=L') (i:=14) (j:=11);have g13:=ak (L:=L') (i:=14) (j:=13);refine Lp ?_;intro g14 g15 g16 g17 g18 g19;refine J4 ?_;intro hSn;exact ⟨hSn,(ab),(ad),(af),(ag),(JS (JV ⟨fb,0,JW⟩)),(b0),(b1),(b2),mPt,hSn,by rw [g5];exact hP5,by rw [g7];exact hP7,by rw [g11];exact hP11,by rw [g13];exact hP13,fun _=>rfl,by rw [g15];exact hP15,by rw [g16,g19];exact hP16,by rw [g17];exact hP17,by rw [g18];exact hP18,by rw [g19];exact hP19,by rw [g16];exact hN0⟩
  ·have g5:=ak (L:=L') (i:=15) (j:=5);have g7:=ak (L:=L') (i:=15) (j:=7);have g11:=ak (L:=L') (i:=15) (j:=11);have g13:=ak (L:=L') (i:=15) (j:=13);refine Lz ?_;intro g14 g15 g16 g17 g18 g19;have hD14:=hP14 gd14;obtain rfl:=hD14;refine J4 ?_;intro hSn;exact ⟨hSn,(ab),(ad),(af),(ag),(JS (JV ⟨fb,0,JW⟩)),(JS (JV ⟨fb,0,JW⟩)),(b1),(b2),mPt,hSn,by rw [g5];exact hP5,by rw [g7];exact hP7,by rw [g11];exact hP11,by rw [g13];exact hP13,by rw [g14];exact hP14,fun _=>rfl,by rw [g16,g19];exact hP16,by rw [g17];exact hP17,by rw [g18];exact hP18,by rw [g19];exact hP19,by rw [g16];exact hN0⟩
  ·have g5:=ak (L:=L') (i:=16) (j:=5);have g7:=ak (L:=L') (i:=16) (j:=7);have g11:=ak (L:=L') (i:=16) (j:=11);have g13:=ak (L:=L') (i:=16) (j:=13);have g14:=ak (L:=L') (i:=16) (j:=14);have g15:=ak (L:=L') (i:=16) (j:=15);refine KF ?_;intro g16 g17 g18 g19;have hD7:=hP7 gd7;obtain rfl:=hD7;have hD15:=hP15 gd15;obtain rfl:=hD15;have hold:=hN0 gn16;have hc:=ae hold 0;have hf:=aE hold 0;have hg:LM (fun k=>k=fb) w (w.setCell ⟨fb,0,JW⟩ (JR (JV ⟨g,0,JW⟩) n c)):=LM.set (S:=fun k=>k=fb) w rfl 0 _;have hSn:=hSw.trans hg;refine rm ⟨_,_,_,_,_,_⟩ (w.setCell ⟨fb,0,JW⟩ (JR (JV ⟨g,0,JW⟩) n c)) rfl mRf (by go_simp) ?_;exact ⟨hSn,(ab),(JR (JV ⟨g,0,JW⟩) n c),(af),(ag),(ao),(JS (JV ⟨fb,0,JW⟩)),(b1),(b2),by simp only [Act.put],hSn,by rw [g5];exact hP5,by rw [g7];exact hP7,by rw [g11];exact hP11,by rw [g13];exact hP13,by rw [g14];exact hP14,by rw [g15];exact hP15,fun _ _=>bp hold 0 _,by rw [g17];exact hP17,by rw [g18];exact hP18,by rw [g19];exact fun e=>absurd (e.symm.trans gn19) mDe,by rw [g16];exact fun e=>absurd e mDe⟩
  ·have g5:=ak (L:=L') (i:=17) (j:=5);have g7:=ak (L:=L') (i:=17) (j:=7);have g11:=ak (L:=L') (i:=17) (j:=11);have g13:=ak (L:=L') (i:=17) (j:=13);have g14:=ak (L:=L') (i:=17) (j:=14);have g15:=ak (L:=L') (i:=17) (j:=15);refine Kf ?_;intro g16 g17 g18 g19;refine J4 ?_;intro hSn;exact ⟨hSn,(ab),(ad),(af),(ag),(ao),(b0),(JS (JV ⟨fb,0,JW⟩)),(b2),mPt,hSn,by rw [g5];exact hP5,by rw [g7];exact hP7,by rw [g11];exact hP11,by rw [g13];exact hP13,by rw [g14];exact hP14,by rw [g15];exact hP15,by rw [g16,g19];exact hP16,fun _=>rfl,by rw [g18];exact hP18,by rw [g19];exact hP19,by rw [g16];exact hN0⟩
  ·have g5:=ak (L:=L') (i:=18) (j:=5);have g7:=ak (L:=L') (i:=18) (j:=7);have g11:=ak (L:=L') (i:=18) (j:=11);have g13:=ak (L:=L') (i:=18) (j:=13);have g14:=ak (L:=L') (i:=18) (j:=14);have g15:=ak (L:=L') (i:=18) (j:=15);refine Kj ?_;intro g16 g17 g18 g19;have hD17:=hP17 gd17;obtain rfl:=hD17;have hSn:=hSw;refine cQ ⟨_,_,_,_,_,_⟩ (JS (JV ⟨fb,1,JW⟩)) w rfl mRf (by go_simp) ?_;exact ⟨hSn,(ab),(ad),(af),(ag),(ao),(b0),(JS (JV ⟨fb,0,JW⟩)),(JS (JV ⟨fb,1,JW⟩)),mPt,hSn,by rw [g5];exact hP5,by rw [g7];exact hP7,by rw [g11];exact hP11,by rw [g13];exact hP13,by rw [g14];exact hP14,by rw [g15];exact hP15,by rw [g16,g19];exact hP16,by rw [g17];exact hP17,fun _=>rfl,by rw [g19];exact hP19,by rw [g16];exact hN0⟩
  ·have g5:=ak (L:=L') (i:=19) (j:=5);have g7:=ak (L:=L') (i:=19) (j:=7);have g11:=ak (L:=L') (i:=19) (j:=11);have g13:=ak (L:=L') (i:=19) (j:=13);have g14:=ak (L:=L') (i:=19) (j:=14);have g15:=ak (L:=L') (i:=19) (j:=15);refine Ks ?_;intro g16 g17 g18 g19;have hD13:=hP13 gd13;obtain rfl:=hD13;have hD18:=hP18 gd18;obtain rfl:=hD18;have hD16:=hP16 gd16 gn19;have hold:=hD16;have hc:=ae hold 1;have hf:=aE hold 1;have hg:LM (fun k=>k=fb) w (w.setCell ⟨fb,1,JW⟩ (JR (JV ⟨g2,0,JW⟩) n c2)):=LM.set (S:=fun k=>k=fb) w rfl 1 _;have hSn:=hSw.trans hg;refine rm ⟨_,_,_,_,_,_⟩ (w.setCell ⟨fb,1,JW⟩ (JR (JV ⟨g2,0,JW⟩) n c2)) rfl mRf (by go_simp) ?_;exact ⟨hSn,(ab),(ad),(af),(JR (JV ⟨g2,0,JW⟩) n c2),(ao),(b0),(b1),(JS (JV ⟨fb,1,JW⟩)),by simp only [Act.put],hSn,by rw [g5];exact hP5,by rw [g7];exact hP7,by rw [g11];exact hP11,by rw [g13];exact hP13,by rw [g14];exact hP14,by rw [g15];exact hP15,by rw [g19];exact fun _ e=>absurd e mDe,by rw [g17];exact hP17,by rw [g18];exact hP18,fun _=>bp hold 1 _,by rw [g16];exact fun e=>absurd (gd16.symm.trans e) mDe⟩
 ·intro L' a w hp hI;obtain ⟨ab,ad,af,ag,ao,b0,b1,b2,rfl,hSw,hP5,hP7,hP11,hP13,hP14,hP15,hP16,hP17,hP18,hP19,hN0⟩:=hI
  (try simp only [aW] at hp)
  have p19:=hp;obtain hfin:=hP19 p19;exact HQ.out _ _ _ _ _ _ _ _ w hSw hfin
 ·refine aV ⟨_,_,_,_,_,_⟩ ?_ rfl mRf ?_ ?_
  rotate_left 1
  ·intro w hSw;(try dsimp only at hSw);go_simp;(try with_reducible rfl)
  refine ar ?_
  refine aV ⟨_,_,_,_,_,_⟩ ?_ rfl mRf ?_ ?_
  rotate_left 1
  ·intro w hSw;(try dsimp only at hSw);go_simp;(try with_reducible rfl)
  refine ar ?_
  refine aV ⟨_,_,_,_,_,_⟩ ?_ rfl mRf ?_ ?_
  rotate_left 1
  ·intro w hSw;(try dsimp only at hSw);go_simp;(try with_reducible rfl)
  refine ar ?_
  refine aV ⟨_,_,_,_,_,_⟩ ?_ rfl mRf ?_ ?_
  rotate_left 1
  ·intro w hSw;(try dsimp only at hSw);go_simp;(try with_reducible rfl)
  refine ar ?_
  refine aV ⟨_,_,_,_,_,_⟩ ?_ rfl mRf ?_ ?_
  rotate_left 1
  ·intro w hSw;(try dsimp only at hSw);go_simp;(try with_reducible rfl)
  refine ar ?_
  refine aV ⟨_,_,_,_,_,_⟩ ?_ rfl mRf ?_ ?_
  rotate_left 1
  ·intro w hSw;(try dsimp only at hSw);go_simp;(try with_reducible rfl)
  refine ar ?_
  refine aV ⟨_,_,_,_,_,_⟩ ?_ rfl mRf ?_ ?_
  rotate_left 1
  ·intro w hSw;(try dsimp only at hSw);go_simp;(try with_reducible rfl)
  refine ar ?_
  refine aV ⟨_,_,_,_,_,_⟩ ?_ rfl mRf ?_ ?_
  rotate_left 1
  ·intro w hSw;(try dsimp only at hSw);go_simp;(try with_reducible rfl)
  refine ar ?_
  refine aV ⟨_,_,_,_,_,_⟩ ?_ rfl mRf ?_ ?_
  rotate_left 1
  ·intro w hSw;(try dsimp only at hSw);go_simp;(try with_reducible rfl)
  refine ar ?_
  refine aV ⟨_,_,_,_,_,_⟩ ?_ rfl mRf ?_ ?_
  rotate_left 1
  ·intro w hSw;(try dsimp only at hSw);go_simp;(try with_reducible rfl)
  refine ar ?_
  exact ⟨_,_,_,_,_,_,_,_,rfl,(LM.of (Below.refl _ _).drew),(fun e=>absurd e (by decide +kernel)),(fun e=>absurd e (by decide +kernel)),(fun e=>absurd e (by decide +kernel)),(fun e=>absurd e (by decide +kernel)),(fun e=>absurd e (by decide +kernel)),(fun e=>absurd e (by decide +kernel)),(fun e=>absurd e (by decide +kernel)),(fun e=>absurd e (by decide +kernel)),(fun e=>absurd e (by decide +kernel)),(fun e=>absurd e (by decide +kernel)),(fun _=>hbx)⟩
theorem Gl (fb xb:Nat) (bv dv:Value) (M:List Blk) (z:Blk) (W:World) (Q:Exit→Act→World→Prop) (hF:LZ fb bv dv M W) (hxb:W.heap[xb]? = JV (JU #[JO JP z.b,JO JP z.s] 293 (0,0))) (hxs:¬ fR fb bv dv xb)
  (hQ:∀ (a2 a3 a0 a4 a5 a1 a6 a7 a8 a9:Value)  (wx:World),LM (fR fb bv dv) W wx→wx.heap[fb]? = JV (JU #[a0,a1] 264 (0,0))→(wx.ownsRow (fb+1) 293 2 a0 (M++[z]).length (br jC (M++[z]))∧(∀ q,a0.ownBlock=JV q→bv.ownBlock=JV q∨W.heap.size≤q))→(wx.ownsRow (fb+1) 9 1 a1 (M++[z]).length (br m7 (M++[z]))∧(∀ q,a1.ownBlock=JV q→dv.ownBlock=JV q∨W.heap.size≤q))→Q .normal ⟨aq (JS (JV ⟨fb,0,JW⟩)::s1::JQ z.d::s3::JS (JV ⟨xb,0,JW⟩)::s5::s6::s7::s8::s9::b3::b4::b5::b9::ba::bb::bc::bd::bf::bg::bh::bk::bm::bo::bq::bt::b6::b8::bx::c0::c1::c3::c4::c5::c6::c7::c9::ca::cb::cc::cd::ce::cg::ch::ci::cj::ck::cl::cn::co::cp::cr::ct::cv::cx::cy::cA::cB::cC::cD::cE::cG::cO::cS::JS (JV ⟨fb,0,JW⟩)::JS (JV ⟨fb,0,JW⟩)::JS (JV ⟨fb,0,JW⟩)::JS (JV ⟨fb,0,JW⟩)::JS (JV ⟨fb,0,JW⟩)::a2::.agg #[JO JP z.b,JO JP z.s]::a3::a0::JS (JV ⟨fb,0,JW⟩)::JS (JV ⟨fb,0,JW⟩)::JS (JV ⟨fb,1,JW⟩)::a4::JQ z.d::[a5,a1,a6,a7,a8,a9]),[]⟩ wx) :
  (bW f271 6).wp prog Q ⟨aq (JS (JV ⟨fb,0,JW⟩)::s1::JQ z.d::s3::JS (JV ⟨xb,0,JW⟩)::s5::s6::s7::s8::s9::b3::b4::b5::b9::ba::bb::bc::bd::bf::bg::bh::[bk,bm,bo,bq,bt,b6,b8,bx,c0,c1,c3,c4,c5,c6,c7,c9,ca,cb,cc,cd,ce,cg,ch,ci,cj,ck,cl,cn,co,cp,cr,ct,cv,cx,cy,cA,cB,cC,cD,cE,cG,cO,cS,cW,cX,d0,d1,d2,d3,d4,d9,dd,dk,dm,dx,dy,e0,e1,e3,e4,e5,e6,e7]),[]⟩ W:=by
 refine mOn ?_;generalize Q .normal=K at hQ ⊢;have HQ:=aa hQ;clear hQ
 conv=>arg 2;whnf
 have hfl:=aU hF.box
 have hxl:=aU hxb;have hM:=hF.few;have hbo:∀ q,bv.ownBlock=JV q→fb+1≤q∧q < W.heap.size:=fun q hq=>hF.bs.lt q hq
 have hdo:∀ q,dv.ownBlock=JV q→fb+1≤q∧q < W.heap.size:=fun q hq=>hF.ds.lt q hq
 have hbd:∀ q,bv.ownBlock=JV q→dv.ownBlock=JV q→False:=hF.apart;refine fV (S:=fun w=>LM (fR fb bv dv) W w) (I:=fun L' a w=>∃ a2 a3 a0 a4 a5 a1 a6 a7 a8 a9:Value,a=⟨aq (JS (JV ⟨fb,0,JW⟩)::s1::JQ z.d::s3::JS (JV ⟨xb,0,JW⟩)::s5::s6::s7::s8::s9::b3::b4::b5::b9::ba::bb::bc::bd::bf::bg::bh::bk::bm::bo::bq::bt::b6::b8::bx::c0::c1::c3::c4::c5::c6::c7::c9::ca::cb::cc::cd::ce::cg::ch::ci::cj::ck::cl::cn::co::cp::cr::ct::cv::cx::cy::cA::cB::cC::cD::cE::cG::cO::cS::JS (JV ⟨fb,0,JW⟩)::JS (JV ⟨fb,0,JW⟩)::JS (JV ⟨fb,0,JW⟩)::JS (JV ⟨fb,0,JW⟩)::JS (JV ⟨fb,0,JW⟩)::a2::.agg #[JO JP z.b,JO JP z.s]::a3::a0::JS (JV ⟨fb,0,JW⟩)::JS (JV ⟨fb,0,JW⟩)::JS (JV ⟨fb,1,JW⟩)::a4::JQ z.d::[a5,a1,a6,a7,a8,a9]),[]⟩∧(LM (fR fb bv dv) W w)∧(L'.getD 5 false=true→bv=a2)∧(L'.getD 7 false=true→L'.getD 8 false=false→∃ b,a3=JR (JV ⟨b,0,JW⟩) 1 1∧W.heap.size≤b∧w.heap[b]? = JV (JU #[JO JP z.b,JO JP z.s] 293 (0,0)))∧(L'.getD 8 false=true→w.ownsRow (fb+1) 293 2 a0 (M++[z]).length (br jC (M++[z]))∧(∀ q,a0.ownBlock=JV q→bv.ownBlock=JV q∨W.heap.size≤q))∧(L'.getD 12 false=true→dv=a4)∧(L'.getD 14 false=true→L'.getD 15 false=false→∃ b,a5=JR (JV ⟨b,0,JW⟩) 1 1∧W.heap.size≤b∧w.heap[b]? = JV (JU #[JQ z.d] 9 (0,0)))∧(L'.getD 15 false=true→w.ownsRow (fb+1) 9 1 a1 (M++[z]).length (br m7 (M++[z]))∧(∀ q,a1.ownBlock=JV q→dv.ownBlock=JV q∨W.heap.size≤q))∧(L'.getD 16 false=true→JS (JV ⟨fb,0,JW⟩)=a6)∧(L'.getD 17 false=true→JS (JV ⟨fb,0,JW⟩)=a7)∧(L'.getD 18 false=true→L'.getD 21 false=false→w.heap[fb]? = JV (JU #[a0,dv] 264 (0,0)))∧(L'.getD 19 false=true→JS (JV ⟨fb,0,JW⟩)=a8)∧(L'.getD 20 false=true→JS (JV ⟨fb,1,JW⟩)=a9)∧(L'.getD 21 false=true→w.heap[fb]? = JV (JU #[a0,a1] 264 (0,0)))∧(L'.getD 18 false=false→w.heap[fb]? = JV (JU #[bv,dv] 264 (0,0)))∧(L'.getD 8 false=false→w.ownsRow (fb+1) 293 2 bv M.length (br jC M))∧(L'.getD 15 false=false→w.ownsRow (fb+1) 9 1 dv M.length (br m7 M))) (pre:=fun i L'=>L'.size==22&&((i==5 && !L'.getD 18 false)||(i==7)||(i==8&&L'.getD 5 false&&L'.getD 7 false && !L'.getD 8 false && !L'.getD 18 false && !L'.getD 21 false)||(i==12 && !L'.getD 18 false)||(i==14)||(i==15&&L'.getD 12 false&&L'.getD 14 false&&L'.getD 8 false && !L'.getD 15 false && !L'.getD 18 false && !L'.getD 21 false)||(i==16)||(i==17&&L'.getD 16 false)||(i==18&&L'.getD 8 false&&L'.getD 17 false&&L'.getD 15 false && !L'.getD 18 false && !L'.getD 21 false)||(i==19)||(i==20&&L'.getD 19 false)||(i==21&&L'.getD 15 false&&L'.getD 20 false&&L'.getD 18 false&&L'.getD 8 false && !L'.getD 21 false))) (fin:=fun L'=>L'.getD 21 false&&L'.getD 8 false&&L'.getD 15 false) [0,1,2,3,4,6,9,10,11,13] 12 mKr mKr mKr mKr mDe (LM.of (Below.refl _ _).drew) ?_ ?_ ?_
 ·intro i L' a w hp hI;obtain ⟨a2,a3,a0,a4,a5,a1,a6,a7,a8,a9,rfl,hSw,hP5,hP7,hP8,hP12,hP14,hP15,hP16,hP17,hP18,hP19,hP20,hP21,hN0,hN1,hN2⟩:=hI;simp only [aW,eu,beq_iff_eq,en] at hp;obtain ⟨hsz,hp⟩:=hp;rcases hp with (((((((((((⟨rfl,gn18⟩ | rfl) | ⟨⟨⟨⟨⟨rfl,gd5⟩,gd7⟩,gn8⟩,gn18⟩,gn21⟩) | ⟨rfl,gn18⟩) | rfl) | ⟨⟨⟨⟨⟨⟨rfl,gd12⟩,gd14⟩,gd8⟩,gn15⟩,gn18⟩,gn21⟩) | rfl) | ⟨rfl,gd16⟩) | ⟨⟨⟨⟨⟨rfl,gd8⟩,gd17⟩,gd15⟩,gn18⟩,gn21⟩) | rfl) | ⟨rfl,gd19⟩) | ⟨⟨⟨⟨⟨rfl,gd15⟩,gd20⟩,gd18⟩,gd8⟩,gn21⟩)
  ·have g5:=cK (L:=L') (i:=5);have g7:=ak (L:=L') (i:=5) (j:=7);have g8:=ak (L:=L') (i:=5) (j:=8);have g12:=ak (L:=L') (i:=5) (j:=12);refine Li ?_;intro g14 g15 g16 g17 g18 g19;have g20:=ak (L:=L') (i:=5) (j:=20);have g21:=ak (L:=L') (i:=5) (j:=21);have hcc:=ae (hN0 gn18) 0;have hSn:=hSw;refine cQ ⟨_,_,_,_,_,_⟩ (bv) w rfl mRf (by go_simp) ?_;exact ⟨hSn,(bv),(a3),(a0),(a4),(a5),(a1),(a6),(a7),(a8),(a9),mPt,hSn,fun _=>rfl,by rw [g7,g8];exact hP7,by rw [g8];exact hP8,by rw [g12];exact hP12,by rw [g14,g15];exact hP14,by rw [g15];exact hP15,by rw [g16];exact hP16,by rw [g17];exact hP17,by rw [g18,g21];exact fun e e2=>absurd (e.symm.trans gn18) mDe,by rw [g19];exact hP19,by rw [g20];exact hP20,by rw [g21];exact hP21,by rw [g18];exact hN0,by rw [g8];exact hN1,by rw [g15];exact hN2⟩
  ·have g5:=ak (L:=L') (i:=7) (j:=5);have g7:=cK (L:=L') (i:=7);have g8:=ak (L:=L') (i:=7) (j:=8);have g12:=ak (L:=L') (i:=7) (j:=12);have g14:=ak (L:=L') (i:=7) (j:=14);have g15:=ak (L:=L') (i:=7) (j:=15);refine Kr ?_;intro g16 g17 g18 g19;have g20:=ak (L:=L') (i:=7) (j:=20);have g21:=ak (L:=L') (i:=7) (j:=21);have hb:ac w.heap.size w (w.alloc (JU #[JO JP z.b,JO JP z.s] 293)):=au _ _;have hSn:=hSw.trans (LM.of hb);refine cQ ⟨_,_,_,_,_,_⟩ (JR (JV ⟨w.heap.size,0,JW⟩) 1 1) (w.alloc (JU #[JO JP z.b,JO JP z.s] 293)) rfl mRf (by go_simp) ?_;exact ⟨hSn,(a2),(JR (JV ⟨w.heap.size,0,JW⟩) 1 1),(a0),(a4),(a5),(a1),(a6),(a7),(a8),(a9),mPt,hSn,by rw [g5];exact hP5,fun _ _=>⟨_,rfl,hSw.size,heap_alloc_new _ _⟩,by rw [g8];exact fun e=>(let h0:=(hP8 e);⟨bE h0.1 (LM.of (S:=fun _=>False) hb) (fun _ _ e=>e),h0.2⟩),by rw [g12];exact hP12,by rw [g14,g15];exact fun e e2=>(by obtain ⟨b,h1,h2,h3⟩:=(hP14 e e2);exact ⟨b,h1,h2,hb.heap_of h3⟩),by rw [g15];exact fun e=>(let h0:=(hP15 e);⟨bE h0.1 (LM.of (S:=fun _=>False) hb) (fun _ _ e=>e),h0.2⟩),by rw [g16];exact hP16,by rw [g17];exact hP17,by rw [g18,g21];exact fun e e2=>hb.heap_of (hP18 e e2),by rw [g19];exact hP19,by rw [g20];exact hP20,by rw [g21];exact fun e=>hb.heap_of (hP21 e),by rw [g18];exact fun e=>hb.heap_of (hN0 e),by rw [g8];exact fun e=>bE (hN1 e) (LM.of (S:=fun _=>False) hb) (fun _ _ e=>e),by rw [g15];exact fun e=>bE (hN2 e) (LM.of (S:=fun _=>False) hb) (fun _ _ e=>e)⟩
  ·have g5:=ak (L:=L') (i:=8) (j:=5);have g7:=ak (L:=L') (i:=8) (j:=7);have g8:=cK (L:=L') (i:=8);have g12:=ak (L:=L') (i:=8) (j:=12);have g14:=ak (L:=L') (i:=8) (j:=14);have g15:=ak (L:=L') (i:=8) (j:=15);have g16:=ak (L:=L') (i:=8) (j:=16);have g17:=ak (L:=L') (i:=8) (j:=17);have g18:=ak (L:=L') (i:=8) (j:=18);have g19:=ak (L:=L') (i:=8) (j:=19);have g20:=ak (L:=L') (i:=8) (j:=20);have g21:=ak (L:=L') (i:=8) (j:=21);have hD5:=hP5 gd5;obtain rfl:=hD5;have hD7:=hP7 gd7 gn8;obtain ⟨b7,rfl,hB7,hb7⟩:=hD7;have hown:=hN1 gn8;refine uM Jj ⟨_,_,_,_,_,_⟩ rfl mRf (.tmp 69) (.tmp 71) mRf (fb+1) _ _ M [z] mRf mRf hown (cF hb7 [z] rfl rfl) (by simp only [aG];omega) (by have:=hSw.size;omega) ?_;intro v8 wn hA8;have hg:LM (fun k=>bv.ownBlock=JV k) w wn:=LM.grown hA8.grown;have hSn:LM (fR fb bv dv) W wn:=hSw.trans (hg.mono fun k _ e=>.inr (.inl e));exact ⟨hSn,(bv),(JR (JV ⟨b7,0,JW⟩) 1 1),(v8),(a4),(a5),(a1),(a6),(a7),(a8),(a9),mPt,hSn,by rw [g5];exact hP5,by rw [g8];exact fun _ e=>absurd e mDe,fun _=>⟨hA8.own,fun q hq=>hA8.block.elim (fun e=>.inl (e ▸ hq)) (fun e=>.inr (bu hSw.size (e q hq)))⟩,by rw [g12];exact hP12,by rw [g14,g15];exact fun e e2=>(by obtain ⟨b,h1,h2,h3⟩:=(hP14 e e2);exact ⟨b,h1,h2,hg.heap h3 (fun e=>by have:=hbo b e;omega)⟩),by rw [g15];exact fun e=>(let h0:=(hP15 e);⟨bE h0.1 hg (fun g h1 e=>(h0.2 g h1).elim (fun e2=>hbd g e e2) (fun e2=>by have:=hbo g e;omega)),h0.2⟩),by rw [g16];exact hP16,by rw [g17];exact hP17,by rw [g18,g21];exact fun e e2=>absurd (e.symm.trans gn18) mDe,by rw [g19];exact hP19,by rw [g20];exact hP20,by rw [g21];exact fun e=>absurd (e.symm.trans gn21) mDe,by rw [g18];exact fun e=>hg.heap (hN0 e) (fun e=>by have:=hbo fb e;omega),by rw [g8];exact fun e=>absurd e mDe,by rw [g15];exact fun e=>bE (hN2 e) hg (fun g h1 e=>hbd g e h1)⟩
  ·have g5:=ak (L:=L') (i:=12) (j:=5);have g7:=ak (L:=L') (i:=12) (j:=7);have g8:=ak (L:=L') (i:=12) (j:=8);have g12:=cK (L:=L') (i:=12);have g14:=ak (L:=L') (i:=12) (j:=14);have g15:=ak (L:=L') (i:=12) (j:=15);have g16:=ak (L:=L') (i:=12) (j:=16);have g17:=ak (L:=L') (i:=12) (j:=17);have g18:=ak (L:=L') (i:=12) (j:=18);have g19:=ak (L:=L') (i:=12) (j:=19);have g20:=ak (L:=L') (i:=12) (j:=20);have g21:=ak (L:=L') (i:=12) (j:=21);have hcc:=ae (hN0 gn18) 1;have hSn:=hSw;refine cQ ⟨_,_,_,_,_,_⟩ (dv) w rfl mRf (by go_simp) ?_;exact ⟨hSn,(a2),(a3),(a0),(dv),(a5),(a1),(a6),(a7),(a8),(a9),mPt,hSn,by rw [g5];exact hP5,by rw [g7,g8];exact hP7,by rw [g8];exact hP8,fun _=>rfl,by rw [g14,g15];exact hP14,by rw [g15];exact hP15,by rw [g16];exact hP16,by rw [g17];exact hP17,by rw [g18,g21];exact fun e e2=>absurd (e.symm.trans gn18) mDe,by rw [g19];exact hP19,by rw [g20];exact hP20,by rw [g21];exact hP21,by rw [g18];exact hN0,by rw [g8];exact hN1,by rw [g15];exact hN2⟩
  ·have g5:=ak (L:=L') (i:=14) (j:=5);have g7:=ak (L:=L') (i:=14) (j:=7);have g8:=ak (L:=L') (i:=14) (j:=8);have g12:=ak (L:=L') (i:=14) (j:=12);refine Lp ?_;intro g14 g15 g16 g17 g18 g19;have g20:=ak (L:=L') (i:=14) (j:=20);have g21:=ak (L:=L') (i:=14) (j:=21);have hb:ac w.heap.size w (w.alloc (JU #[JQ z.d] 9)):=au _ _;have hSn:=hSw.trans (LM.of hb);refine cQ ⟨_,_,_,_,_,_⟩ (JR (JV ⟨w.heap.size,0,JW⟩) 1 1) (w.alloc (JU #[JQ z.d] 9)) rfl mRf (by go_simp) ?_;exact ⟨hSn,(a2),(a3),(a0),(a4),(JR (JV ⟨w.heap.size,0,JW⟩) 1 1),(a1),(a6),(a7),(a8),(a9),mPt,hSn,by rw [g5];exact hP5,by rw [g7,g8];exact fun e e2=>(by obtain ⟨b,h1,h2,h3⟩:=(hP7 e e2);exact ⟨b,h1,h2,hb.heap_of h3⟩),by rw [g8];exact fun e=>(let h0:=(hP8 e);⟨bE h0.1 (LM.of (S:=fun _=>False) hb) (fun _ _ e=>e),h0.2⟩),by rw [g12];exact hP12,fun _ _=>⟨_,rfl,hSw.size,heap_alloc_new _ _⟩,by rw [g15];exact fun e=>(let h0:=(hP15 e);⟨bE h0.1 (LM.of (S:=fun _=>False) hb) (fun _ _ e=>e),h0.2⟩),by rw [g16];exact hP16,by rw [g17];exact hP17,by rw [g18,g21];exact fun e e2=>hb.heap_of (hP18 e e2),by rw [g19];exact hP19,by rw [g20];exact hP20,by rw [g21];exact fun e=>hb.heap_of (hP21 e),by rw [g18];exact fun e=>hb.heap_of (hN0 e),by rw [g8];exact fun e=>bE (hN1 e) (LM.of (S:=fun _=>False) hb) (fun _ _ e=>e),by rw [g15];exact fun e=>bE (hN2 e) (LM.of (S:=fun _=>False) hb) (fun _ _ e=>e)⟩
  ·have g5:=ak (L:=L') (i:=15) (j:=5);have g7:=ak (L:=L') (i:=15) (j:=7);have g8:=ak (L:=L') (i:=15) (j:=8);have g12:=ak (L:=L') (i:=15) (j:=12);refine Lz ?_;intro g14 g15 g16 g17 g18 g19;have g20:=ak (L:=L') (i:=15) (j:=20);have g21:=ak (L:=L') (i:=15) (j:=21);have hD12:=hP12 gd12;obtain rfl:=hD12;have hD14:=hP14 gd14 gn15;obtain ⟨b14,rfl,hB14,hb14⟩:=hD14;have hown:=hN2 gn15;refine uM Jk ⟨_,_,_,_,_,_⟩ rfl mRf (.tmp 76) (.tmp 78) mRf (fb+1) _ _ M [z] mRf mRf hown (cF hb14 [z] rfl rfl) (by simp only [aG];omega) (by have:=hSw.size;omega) ?_;intro v15 wn hA15;have hg:LM (fun k=>dv.ownBlock=JV k) w wn:=LM.grown hA15.grown;have hSn:LM (fR fb bv dv) W wn:=hSw.trans (hg.mono fun k _ e=>.inr (.inr e));exact ⟨hSn,(a2),(a3),(a0),(dv),(JR (JV ⟨b14,0,JW⟩) 1 1),(v15),(a6),(a7),(a8),(a9),mPt,hSn,by rw [g5];exact hP5,by rw [g7,g8];exact fun e e2=>absurd (gd8.symm.trans e2) mDe,by rw [g8];exact fun e=>(let h0:=(hP8 e);⟨bE h0.1 hg (fun g h1 e=>(h0.2 g h1).elim (fun e2=>hbd g e2 e) (fun e2=>by have:=hdo g e;omega)),h0.2⟩),by rw [g12];exact hP12,by rw [g15];exact fun _ e=>absurd e mDe,fun _=>⟨hA15.own,fun q hq=>hA15.block.elim (fun e=>.inl (e ▸ hq)) (fun e=>.inr (bu hSw.size (e q hq)))⟩,by rw [g16];exact hP16,by rw [g17];exact hP17,by rw [g18,g21];exact fun e e2=>absurd (e.symm.trans gn18) mDe,by rw [g19];exact hP19,by rw [g20];exact hP20,by rw [g21];exact fun e=>absurd (e.symm.trans gn21) mDe,by rw [g18];exact fun e=>hg.heap (hN0 e) (fun e=>by have:=hdo fb e;omega),by rw [g8];exact fun e=>absurd (gd8.symm.trans e) mDe,by rw [g15];exact fun e=>absurd e mDe⟩
  ·have g5:=ak (L:=L') (i:=16) (j:=5);have g7:=ak (L:=L') (i:=16) (j:=7);have g8:=ak (L:=L') (i:=16) (j:=8);have g12:=ak (L:=L') (i:=16) (j:=12);have g14:=ak (L:=L') (i:=16) (j:=14);have g15:=ak (L:=L') (i:=16) (j:=15);refine KF ?_;intro g16 g17 g18 g19;have g20:=ak (L:=L') (i:=16) (j:=20);have g21:=ak (L:=L') (i:=16) (j:=21);refine J4 ?_;intro hSn;exact ⟨hSn,(a2),(a3),(a0),(a4),(a5),(a1),(JS (JV ⟨fb,0,JW⟩)),(a7),(a8),(a9),mPt,hSn,by rw [g5];exact hP5,by rw [g7,g8];exact hP7,by rw [g8];exact hP8,by rw [g12];exact hP12,by rw [g14,g15];exact hP14,by rw [g15];exact hP15,fun _=>rfl,by rw [g17];exact hP17,by rw [g18,g21];exact hP18,by rw [g19];exact hP19,by rw [g20];exact hP20,by rw [g21];exact hP21,by rw [g18];exact hN0,by rw [g8];exact hN1,by rw [g15];exact hN2⟩
  ·have g5:=ak (L:=L') (i:=17) (j:=5);have g7:=ak (L:=L') (i:=17) (j:=7);have g8:=ak (L:=L') (i:=17) (j:=8);have g12:=ak (L:=L') (i:=17) (j:=12);have g14:=ak (L:=L') (i:=17) (j:=14);have g15:=ak (L:=L') (i:=17) (j:=15);refine Kf ?_;intro g16 g17 g18 g19;have g20:=ak (L:=L') (i:=17) (j:=20);have g21:=ak (L:=L') (i:=17) (j:=21);have hD16:=hP16 gd16;obtain rfl:=hD16;refine J4 ?_;intro hSn;exact ⟨hSn,(a2),(a3),(a0),(a4),(a5),(a1),(JS (JV ⟨fb,0,JW⟩)),(JS (JV ⟨fb,0,JW⟩)),(a8),(a9),mPt,hSn,by rw [g5];exact hP5,by rw [g7,g8];exact hP7,by rw [g8];exact hP8,by rw [g12];exact hP12,by rw [g14,g15];exact hP14,by rw [g15];exact hP15,by rw [g16];exact hP16,fun _=>rfl,by rw [g18,g21];exact hP18,by rw [g19];exact hP19,by rw [g20];exact hP20,by rw [g21];exact hP21,by rw [g18];exact hN0,by rw [g8];exact hN1,by rw [g15];exact hN2⟩
  ·have g5:=ak (L:=L') (i:=18) (j:=5);have g7:=ak (L:=L') (i:=18) (j:=7);have g8:=ak (L:=L') (i:=18) (j:=8);have g12:=ak (L:=L') (i:=18) (j:=12);have g14:=ak (L:=L') (i:=18) (j:=14);have g15:=ak (L:=L') (i:=18) (j:=15);refine Kj ?_;intro g16 g17 g18 g19;have g20:=ak (L:=L') (i:=18) (j:=20);have g21:=ak (L:=L') (i:=18) (j:=21);have hD8:=hP8 gd8;have hD17:=hP17 gd17;obtain rfl:=hD17;obtain ⟨ga8,c8,rfl⟩:=iP hD8.1;have hold:=hN0 gn18;have hc:=ae hold 0;have hf:=aE hold 0;have hg:LM (fun k=>k=fb) w (w.setCell ⟨fb,0,JW⟩ (JR (JV ⟨ga8,0,JW⟩) (M++[z]).length c8)):=LM.set (S:=fun k=>k=fb) w rfl 0 _;have hSn:LM (fR fb bv dv) W _:=hSw.trans (hg.mono fun k _ e=>.inl e);refine rm ⟨_,_,_,_,_,_⟩ (w.setCell ⟨fb,0,JW⟩ (JR (JV ⟨ga8,0,JW⟩) (M++[z]).length c8)) rfl mRf (by go_simp) ?_;exact ⟨hSn,(a2),(a3),(JR (JV ⟨ga8,0,JW⟩) (M++[z]).length c8),(a4),(a5),(a1),(a6),(JS (JV ⟨fb,0,JW⟩)),(a8),(a9),by simp only [Act.put],hSn,by rw [g5];exact hP5,by rw [g7,g8];exact fun e e2=>absurd (gd8.symm.trans e2) mDe,by rw [g8];exact fun e=>(let h0:=(hP8 e);⟨bE h0.1 hg (fun g h1 e=>by have:=(h0.1.lt g h1).1;omega),h0.2⟩),by rw [g12];exact hP12,by rw [g14,g15];exact fun e e2=>absurd (gd15.symm.trans e2) mDe,by rw [g15];exact fun e=>(let h0:=(hP15 e);⟨bE h0.1 hg (fun g h1 e=>by have:=(h0.1.lt g h1).1;omega),h0.2⟩),by rw [g16];exact hP16,by rw [g17];exact hP17,fun _ _=>bp hold 0 _,by rw [g19];exact hP19,by rw [g20];exact hP20,by rw [g21];exact fun e=>absurd (e.symm.trans gn21) mDe,by rw [g18];exact fun e=>absurd e mDe,by rw [g8];exact fun e=>absurd (gd8.symm.trans e) mDe,by rw [g15];exact fun e=>absurd (gd15.symm.trans e) mDe⟩
  ·have g5:=ak (L:=L') (i:=19) (j:=5);have g7:=ak (L:=L') (i:=19) (j:=7);have g8:=ak (L:=L') (i:=19) (j:=8);have g12:=ak (L:=L') (i:=19) (j:=12);have g14:=ak (L:=L') (i:=19) (j:=14);have g15:=ak (L:=L') (i:=19) (j:=15);refine Ks ?_;intro g16 g17 g18 g19;have g20:=ak (L:=L') (i:=19) (j:=20);have g21:=ak (L:=L') (i:=19) (j:=21);refine J4 ?_;intro hSn;exact ⟨hSn,(a2),(a3),(a0),(a4),(a5),(a1),(a6),(a7),(JS (JV ⟨fb,0,JW⟩)),(a9),mPt,hSn,by rw [g5];exact hP5,by rw [g7,g8];exact hP7,by rw [g8];exact hP8,by rw [g12];exact hP12,by rw [g14,g15];exact hP14,by rw [g15];exact hP15,by rw [g16];exact hP16,by rw [g17];exact hP17,by rw [g18,g21];exact hP18,fun _=>rfl,by rw [g20];exact hP20,by rw [g21];exact hP21,by rw [g18];exact hN0,by rw [g8];exact hN1,by rw [g15];exact hN2⟩
  ·have g5:=ak (L:=L') (i:=20) (j:=5);have g7:=ak (L:=L') (i:=20) (j:=7);have g8:=ak (L:=L') (i:=20) (j:=8);have g12:=ak (L:=L') (i:=20) (j:=12);have g14:=ak (L:=L') (i:=20) (j:=14);have g15:=ak (L:=L') (i:=20) (j:=15);have g16:=ak (L:=L') (i:=20) (j:=16);have g17:=ak (L:=L') (i:=20) (j:=17);have g18:=ak (L:=L') (i:=20) (j:=18);have g19:=ak (L:=L') (i:=20) (j:=19);have g20:=cK (L:=L') (i:=20);have g21:=ak (L:=L') (i:=20) (j:=21);have hD19:=hP19 gd19;obtain rfl:=hD19;have hSn:=hSw;refine cQ ⟨_,_,_,_,_,_⟩ (JS (JV ⟨fb,1,JW⟩)) w rfl mRf (by go_simp) ?_;exact ⟨hSn,(a2),(a3),(a0),(a4),(a5),(a1),(a6),(a7),(JS (JV ⟨fb,0,JW⟩)),(JS (JV ⟨fb,1,JW⟩)),mPt,hSn,by rw [g5];exact hP5,by rw [g7,g8];exact hP7,by rw [g8];exact hP8,by rw [g12];exact hP12,by rw [g14,g15];exact hP14,by rw [g15];exact hP15,by rw [g16];exact hP16,by rw [g17];exact hP17,by rw [g18,g21];exact hP18,by rw [g19];exact hP19,fun _=>rfl,by rw [g21];exact hP21,by rw [g18];exact hN0,by rw [g8];exact hN1,by rw [g15];exact hN2⟩
  ·have g5:=ak (L:=L') (i:=21) (j:=5);have g7:=ak (L:=L') (i:=21) (j:=7);have g8:=ak (L:=L') (i:=21) (j:=8);have g12:=ak (L:=L') (i:=21) (j:=12);have g14:=ak (L:=L') (i:=21) (j:=14);have g15:=ak (L:=L') (i:=21) (j:=15);have g16:=ak (L:=L') (i:=21) (j:=16);have g17:=ak (L:=L') (i:=21) (j:=17);have g18:=ak (L:=L') (i:=21) (j:=18);have g19:=ak (L:=L') (i:=21) (j:=19);have g20:=ak (L:=L') (i:=21) (j:=20);have g21:=cK (L:=L') (i:=21);have hD15:=hP15 gd15;have hD20:=hP20 gd20;obtain rfl:=hD20;have hD18:=hP18 gd18 gn21;obtain ⟨ga15,c15,rfl⟩:=iP hD15.1;have hold:=hD18;have hc:=ae hold 1;have hf:=aE hold 1;have hg:LM (fun k=>k=fb) w (w.setCell ⟨fb,1,JW⟩ (JR (JV ⟨ga15,0,JW⟩) (M++[z]).length c15)):=LM.set (S:=fun k=>k=fb) w rfl 1 _;have hSn:LM (fR fb bv dv) W _:=hSw.trans (hg.mono fun k _ e=>.inl e);refine rm ⟨_,_,_,_,_,_⟩ (w.setCell ⟨fb,1,JW⟩ (JR (JV ⟨ga15,0,JW⟩) (M++[z]).length c15)) rfl mRf (by go_simp) ?_;exact ⟨hSn,(a2),(a3),(a0),(a4),(a5),(JR (JV ⟨ga15,0,JW⟩) (M++[z]).length c15),(a6),(a7),(a8),(JS (JV ⟨fb,1,JW⟩)),by simp only [Act.put],hSn,by rw [g5];exact hP5,by rw [g7,g8];exact fun e e2=>absurd (gd8.symm.trans e2) mDe,by rw [g8];exact fun e=>(let h0:=(hP8 e);⟨bE h0.1 hg (fun g h1 e=>by have:=(h0.1.lt g h1).1;omega),h0.2⟩),by rw [g12];exact hP12,by rw [g14,g15];exact fun e e2=>absurd (gd15.symm.trans e2) mDe,by rw [g15];exact fun e=>(let h0:=(hP15 e);⟨bE h0.1 hg (fun g h1 e=>by have:=(h0.1.lt g h1).1;omega),h0.2⟩),by rw [g16];exact hP16,by rw [g17];exact hP17,by rw [g21];exact fun _ e=>absurd e mDe,by rw [g19];exact hP19,by rw [g20];exact hP20,fun _=>bp hold 1 _,by rw [g18];exact fun e=>absurd (gd18.symm.trans e) mDe,by rw [g8];exact fun e=>absurd (gd8.symm.trans e) mDe,by rw [g15];exact fun e=>absurd (gd15.symm.trans e) mDe⟩
 ·intro L' a w hp hI;obtain ⟨a2,a3,a0,a4,a5,a1,a6,a7,a8,a9,rfl,hSw,hP5,hP7,hP8,hP12,hP14,hP15,hP16,hP17,hP18,hP19,hP20,hP21,hN0,hN1,hN2⟩:=hI
  (try simp only [aW] at hp)
  obtain ⟨⟨p21,p8⟩,p15⟩:=hp;obtain hfin:=hP21 p21;exact HQ.out _ _ _ _ _ _ _ _ _ _ w hSw hfin (hP8 p8) (hP15 p15)
 ·refine aV ⟨_,_,_,_,_,_⟩ ?_ rfl mRf ?_ ?_
  rotate_left 1
  ·intro w hSw;(try dsimp only at hSw);go_simp;(try with_reducible rfl)
  refine ar ?_
  refine aV ⟨_,_,_,_,_,_⟩ ?_ rfl mRf ?_ ?_
  rotate_left 1
  ·intro w hSw;(try dsimp only at hSw);go_simp;(try with_reducible rfl)
  refine ar ?_
  refine aV ⟨_,_,_,_,_,_⟩ ?_ rfl mRf ?_ ?_
  rotate_left 1
  ·intro w hSw;(try dsimp only at hSw);go_simp;(try with_reducible rfl)
  refine ar ?_
  refine aV ⟨_,_,_,_,_,_⟩ ?_ rfl mRf ?_ ?_
  rotate_left 1
  ·intro w hSw;(try dsimp only at hSw);go_simp;(try with_reducible rfl)
  refine ar ?_
  refine aV ⟨_,_,_,_,_,_⟩ ?_ rfl mRf ?_ ?_
  rotate_left 1
  ·intro w hSw;(try dsimp only at hSw);go_simp;(try with_reducible rfl)
  refine ar ?_
  refine rq ⟨_,_,_,_,_,_⟩ rfl mRf 293 (.tmp 4) mRf xb 0 mRf (jC z) _ (fun w hSw j v hv=>(hSw.cell hxl hxs _ _).trans (by rw [bM,ae hxb];simpa [jC] using hv)) underlying293 rfl mKr ?_;refine ar ?_;refine aV ⟨_,_,_,_,_,_⟩ ?_ rfl mRf ?_ ?_
  rotate_left 1
  ·intro w hSw;(try dsimp only at hSw);go_simp;(try with_reducible rfl)
  refine ar ?_
  refine aV ⟨_,_,_,_,_,_⟩ ?_ rfl mRf ?_ ?_
  rotate_left 1
  ·intro w hSw;(try dsimp only at hSw);go_simp;(try with_reducible rfl)
  refine ar ?_
  refine aV ⟨_,_,_,_,_,_⟩ ?_ rfl mRf ?_ ?_
  rotate_left 1
  ·intro w hSw;(try dsimp only at hSw);go_simp;(try with_reducible rfl)
  refine ar ?_
  refine aV ⟨_,_,_,_,_,_⟩ ?_ rfl mRf ?_ ?_
  rotate_left 1
  ·intro w hSw;(try dsimp only at hSw);go_simp;(try with_reducible rfl)
  refine ar ?_
  exact ⟨_,_,_,_,_,_,_,_,_,_,rfl,(LM.of (Below.refl _ _).drew),(fun e=>absurd e (by decide +kernel)),(fun e=>absurd e (by decide +kernel)),(fun e=>absurd e (by decide +kernel)),(fun e=>absurd e (by decide +kernel)),(fun e=>absurd e (by decide +kernel)),(fun e=>absurd e (by decide +kernel)),(fun e=>absurd e (by decide +kernel)),(fun e=>absurd e (by decide +kernel)),(fun e=>absurd e (by decide +kernel)),(fun e=>absurd e (by decide +kernel)),(fun e=>absurd e (by decide +kernel)),(fun e=>absurd e (by decide +kernel)),(fun _=>hF.box),(fun _=>hF.bs),(fun _=>hF.ds)⟩
end
section
open Go Go.Proofs Go.RowKit Go.Sort Go.Lib
theorem LM.next {S T:Nat→Prop} {a b c:World} (h:LM S a b) (h2:LM T b c) (hT:∀ k,k < a.heap.size→T k→S k):LM S a c:=
 ⟨h2.os.trans h.os,h2.tape.trans h.tape,h2.output.trans h.output,bu h.size h2.size,fun k hk hs=>(h2.block k (Nat.lt_of_lt_of_le hk h.size) (fun e=>hs (hT k hk e))).trans (h.block k hk hs)⟩
def Blk.fit (x:Blk):Prop:=x.b≤1099511627776∧0 < x.s∧x.s≤1099511627776∧x.d.size=8
theorem yJ (nd:ByteArray→ByteArray→ByteArray) (hn:∀ x y,(nd x y).size=8):∀ (st:List Blk) (x:Blk),(∀ y∈st,Blk.fit y)→Blk.fit x→x.b+x.s≤1099511627776→∀ y∈fh nd st x,Blk.fit y
 | [],x,_,hx,_=>fun y hy=>by
  obtain rfl:y=x:=by simpa [fh] using hy
  exact hx
 | a::st,x,hst,hx,hb=>by
  have ha:=hst a (List.mem_cons_self ..);unfold fh
  split
  ·rename_i e
   exact yJ nd hn st ⟨a.b,2*a.s,nd a.d x.d⟩ (fun y hy=>hst y (List.mem_cons_of_mem _ hy)) ⟨ha.1,by have:=ha.2.1;show 0 < 2*a.s;omega,by show 2*a.s≤_;omega,hn _ _⟩ (by show a.b+2*a.s≤_;omega)
  ·intro y hy;rcases cR.1 hy with rfl | hy
   ·exact hx
   ·exact hst y hy
theorem yK (nd:ByteArray→ByteArray→ByteArray):∀ (st:List Blk) (x:Blk),(fh nd st x).length≤st.length+1
 | [],_=>aD _
 | a::st,x=>by
  unfold fh
  split
  ·exact bu (yK nd st _) mSi
  ·exact aD _
theorem LZ.last {fb:Nat} {bv dv:Value} {M:List Blk} {a:Blk} {w:World} (h:LZ fb bv dv (M++[a]) w) :
  ∃ g g2 c c2,bv=JR (JV ⟨g,0,JW⟩) (M.length+1) c∧dv=JR (JV ⟨g2,0,JW⟩) (M.length+1) c2∧w.rangeAt g (M.length*2) (jC a)∧w.cell? ⟨g2,M.length,JW⟩=JV (JQ a.d)∧(g < w.heap.size∧g2 < w.heap.size)∧(fb < g∧fb < g2)∧M.length+1≤c∧M.length+1≤c2:=by
 have hl:(M++[a]).length=M.length+1:=mSi;have hget:(M++[a])[M.length]? = some a:=mSi;have h1:=h.bs;have h2:=h.ds;rw [hl] at h1 h2;obtain ⟨-,(⟨-,h0⟩ | ⟨g,c,cur,rfl,hg,hgh,hc,-⟩)⟩:=id h1
 ·omega
 obtain ⟨-,(⟨-,h0⟩ | ⟨g2,c2,cur2,rfl,hg2,hgh2,hc2,-⟩)⟩:=id h2
 ·omega
 refine ⟨g,g2,c,c2,rfl,rfl,fun j v hv=>?_,?_,⟨aU hgh,aU hgh2⟩,⟨hg,hg2⟩,hc,hc2⟩
 ·have:=h1.cells (g:=g) rfl (M.length*2+j) v (m9 (enc:=jC) (k:=2) (fun _=>rfl) hget hv);rw [add_plain,bM] at this;exact this
 ·have:=h2.cells (g:=g2) rfl (M.length*1+0) (JQ a.d) (m9 (enc:=m7) (k:=1) (fun _=>rfl) hget rfl);rw [add_plain,bM] at this
  simpa using this
theorem LZ.cut {fb g g2 c c2:Nat} {M:List Blk} {a:Blk} {w w':World} (h:LZ fb (JR (JV ⟨g,0,JW⟩) (M.length+1) c) (JR (JV ⟨g2,0,JW⟩) (M.length+1) c2) (M++[a]) w) (hg:fb < g) (hg2:fb < g2) (hb:LM (fun k=>k=fb) w w')
  (hbx:w'.heap[fb]? = JV (JU #[JR (JV ⟨g,0,JW⟩) M.length c,JR (JV ⟨g2,0,JW⟩) M.length c2] 264 (0,0))) :
  LZ fb (JR (JV ⟨g,0,JW⟩) M.length c) (JR (JV ⟨g2,0,JW⟩) M.length c2) M w':=by
 have hl:(M++[a]).length=M.length+1:=mSi;have h1:=h.bs;have h2:=h.ds;rw [hl] at h1 h2;have k1:=qp h1 (Nat.le_succ M.length);have k2:=qp h2 (Nat.le_succ M.length);rw [j7 (k:=2) (fun _=>rfl),List.take_left'  rfl] at k1;rw [j7 (k:=1) (fun _=>rfl),List.take_left' rfl] at k2;have hf:=h.few;exact ⟨hbx,bE k1 hb (fun q hq e=>by injection hq with hq;simp only at hq;omega),bE k2 hb (fun q hq e=>by injection hq with hq;simp only at hq;omega),mOm,fun x hx=>h.fit x (List.mem_append_left _ hx)⟩
theorem eI {w:World} {base k n:Nat} {e:TypeId} {v:Value} {xs:List Value} (h:w.ownsRow base e k v n xs):∃ p c,v=JR p n c:=by
 obtain ⟨-,(⟨rfl,rfl⟩ | ⟨g,c,cur,rfl,-⟩)⟩:=h
 ·exact ⟨_,_,rfl⟩
 ·exact ⟨_,_,rfl⟩
structure AddSt (fb xb:Nat) (bv dv:Value) (L:List Blk) (x:Blk) (w:World) (M:List Blk) (z:Blk) (bm dm:Value) (wr:World):Prop where
 at_:LZ fb bm dm M wr
 box:wr.heap[xb]? = JV (JU #[JO JP z.b,JO JP z.s] 293 (0,0))
 buts:LM (fR fb bv dv) w wr
 eqb:bm.ownBlock=bv.ownBlock
 eqd:dm.ownBlock=dv.ownBlock
 push:fh be M.reverse z=fh be L.reverse x
 zf:Blk.fit z
 zb:z.b+z.s≤1099511627776
 len:M.length≤L.length
structure Ma (fb:Nat) (bv dv:Value) (L:List Blk) (x:Blk) (w w':World):Prop where
 at_:∃ bv' dv',LZ fb bv' dv' (fh be L.reverse x).reverse w'∧(∀ q,bv'.ownBlock=JV q→bv.ownBlock=JV q∨w.heap.size≤q)∧(∀ q,dv'.ownBlock=JV q→dv.ownBlock=JV q∨w.heap.size≤q)
 buts:LM (fR fb bv dv) w w'
theorem AddSt.below {fb xb:Nat} {bv dv:Value} {L:List Blk} {x:Blk} {w:World} {M:List Blk} {z:Blk} {bm dm:Value} {wr wx:World} (h:AddSt fb xb bv dv L x w M z bm dm wr) (hb:ac wr.heap.size wr wx):AddSt fb xb bv dv L x w M z bm dm wx:=
 ⟨h.at_.buts (LM.of (S:=fun _=>False) hb) id (fun _ _ h=>h) (fun _ _ h=>h),hb.heap_of h.box,h.buts.trans (LM.of hb),h.eqb,h.eqd,h.push,h.zf,h.zb,h.len⟩
theorem AddSt.done {fb xb:Nat} {bv dv:Value} {L:List Blk} {x:Blk} {w:World} {M:List Blk} {z:Blk} {bm dm:Value} {wr wx:World} {u v:Value} (h:AddSt fb xb bv dv L x w M z bm dm wr) (hp:fh be M.reverse z=z::M.reverse) (hL:L.length < 10000)
  (h1:LM (fR fb bm dm) wr wx) (hbx:wx.heap[fb]? = JV (JU #[u,v] 264 (0,0)))
  (h2:wx.ownsRow (fb+1) 293 2 u (M++[z]).length (br jC (M++[z]))∧(∀ q,u.ownBlock=JV q→bm.ownBlock=JV q∨wr.heap.size≤q))
  (h3:wx.ownsRow (fb+1) 9 1 v (M++[z]).length (br m7 (M++[z]))∧(∀ q,v.ownBlock=JV q→dm.ownBlock=JV q∨wr.heap.size≤q)):Ma fb bv dv L x w wx:=by
 have e:(fh be L.reverse x).reverse=M++[z]:=by rw [← h.push,hp];simp
 have hsz:=h.buts.size;have hl:=h.len;refine ⟨⟨u,v,?_,fun q hq=>?_,fun q hq=>?_⟩,h.buts.trans (h1.mono fun k _ hk=>?_)⟩
 ·rw [e]
  exact ⟨hbx,h2.1,h3.1,by rw [ax];simp only [aG];omega,fun y hy=>by
   rcases List.mem_append.1 hy with hy | hy
   ·exact h.at_.fit y hy
   ·obtain rfl:y=z:=by simpa using hy
    exact h.zf⟩
 ·rcases h2.2 q hq with e | e
  ·exact .inl (h.eqb ▸ e)
  ·exact .inr (bu hsz e)
 ·rcases h3.2 q hq with e | e
  ·exact .inl (h.eqd ▸ e)
  ·exact .inr (bu hsz e)
 ·rcases hk with e | e | e
  ·exact .inl e
  ·exact .inr (.inl (h.eqb ▸ e))
  ·exact .inr (.inr (h.eqd ▸ e))
theorem AddSt.step {fb xb:Nat} {bv dv:Value} {L:List Blk} {x:Blk} {w:World} {M:List Blk} {a z:Blk} {g g2 c c2:Nat} {wr wx wy:World}
  (h:AddSt fb xb bv dv L x w (M++[a]) z (JR (JV ⟨g,0,JW⟩) (M.length+1) c) (JR (JV ⟨g2,0,JW⟩) (M.length+1) c2) wr) (hh:lW a.b a.s z.b z.s=true) (hg:fb < g) (hg2:fb < g2) (hxb:w.heap.size≤xb) (hx1:g ≠ xb) (hx2:g2 ≠ xb) (hx3:fb ≠ xb)
  (h1:LM (fun k=>k=xb) wr wx) (hbx:wx.heap[xb]? = JV (JU #[JO JP a.b,JO JP (2*(a.s:Int))] 293 (0,0)))
  (h2:LM (fun k=>k=fb) wx wy) (hby:wy.heap[fb]? = JV (JU #[JR (JV ⟨g,0,JW⟩) M.length c,JR (JV ⟨g2,0,JW⟩) M.length c2] 264 (0,0))) :
  AddSt fb xb bv dv L x w M ⟨a.b,2*a.s,be a.d z.d⟩ (JR (JV ⟨g,0,JW⟩) M.length c) (JR (JV ⟨g2,0,JW⟩) M.length c2) wy:=by
 unfold lW at hh;rw [decide_eq_true_eq] at hh;obtain ⟨e1,e2,e3⟩:=hh;have hxlt:=aU hbx;have hat:=h.at_.buts h1 (fun e=>hx3 e) (fun k hk e=>by injection hk with hk;simp only at hk;omega) (fun k hk e=>by injection hk with hk;simp only at hk;omega);have haf:=h.at_.fit a (List.mem_append_right _ (bJ.2 rfl));have hzb:=h.zb;have hl:=h.len;simp only [ax,aG] at hl;refine ⟨hat.cut hg hg2 h2 hby,?_,?_,h.eqb,h.eqd,?_,⟨haf.1,?_,?_,rfl⟩,?_,mOm⟩
 ·have:=h2.heap hbx (fun e=>hx3 e.symm);rw [this];push_cast;rfl
 ·exact (h.buts.next h1 (fun k hk e=>absurd hk mOm)).next h2 (fun k _ e=>.inl e)
 ·have hp:=h.push;rw [fI,List.reverse_singleton,List.singleton_append,fh,if_pos ⟨e1,e2,e3⟩] at hp;exact hp
 ·show 0 < 2*a.s
  have:=haf.2.1;omega
 ·show 2*a.s≤_
  omega
 ·show a.b+2*a.s≤_
  omega
theorem Ao (fb:Nat) (bv dv:Value) (L:List Blk) (x:Blk) (w:World) (hF:LZ fb bv dv L w) (hL:L.length < 10000) (hx:x.b+x.s≤1099511627776) (hx0:0 < x.s) (hxd:x.d.size=8) :
  Calls prog 271 #[JS (JV ⟨fb,0,JW⟩),.agg #[JO JP x.b,JO JP x.s],JQ x.d] w fun e w'=>(∃ v,e=JT v)∧Ma fb bv dv L x w w':=by
 have hfl:=aU hF.box;have hbl:∀ q,bv.ownBlock=JV q→fb < q∧q < w.heap.size:=fun q hq=>hF.bs.lt q hq
 have hdl:∀ q,dv.ownBlock=JV q→fb < q∧q < w.heap.size:=fun q hq=>hF.ds.lt q hq
 obtain ⟨pb,cb,hbv⟩:=eI hF.bs;have c0:=ae hF.box 0;rw [hbv] at c0;have a1:IntKind.i64.wrap ((L.length:Int) - 1)=(L.length:Int) - 1:=aF _ mOm;have hxf:Blk.fit x:=⟨mOm,hx0,mOm,hxd⟩;have hS0:AddSt fb w.heap.size bv dv L x w L x bv dv (w.alloc (JU #[JO JP x.b,JO JP x.s] 293)):=
  ⟨hF.buts (LM.alloc (fun _=>False) w _) id (fun _ _ h=>h) (fun _ _ h=>h),heap_alloc_new w _,LM.alloc _ w _,rfl,rfl,rfl,hxf,hx,aD _⟩
 have HBV:=aa hbv
 clear hbv;go_enter func271,ntmps271;go_wp2_with fail
 go_loopg [2,6] L.length (fun r dg n wr=>∃ M z bm dm,M.length=r∧dg=JQ z.d∧n=JO JP ((M.length:Int) - 1)∧AddSt fb w.heap.size bv dv L x w M z bm dm wr)
 case atStart=>exact ⟨L,x,bv,dv,rfl,rfl,rfl,hS0⟩
 case round =>
  obtain ⟨M,z,bm,dm,hr,rfl,rfl,hS⟩:=hrel;have hxs:¬ fR fb bm dm w.heap.size:=by
   rintro (e | e | e)
   ·omega
   ·rw [hS.eqb] at e;have:=(hbl _ e).2;omega
   ·rw [hS.eqd] at e;have:=(hdl _ e).2;omega
  have HXS:=aa hxs
  clear hxs;rcases List.eq_nil_or_concat M with rfl | ⟨M',a,rfl⟩
  ·have hn:((([]:List Blk).length:Int) - 1) = -1:=rfl;rw [hn];have hp:fh be ([]:List Blk).reverse z=z::([]:List Blk).reverse:=rfl
   go_upto_region 2 with fail
   refine Ie fb w.heap.size wr _ ?_;intro u13 u14 u15 u16 u17 u18 u19 u20 u21 u22 u23 u24 w1 hb1;have hS1:AddSt fb w.heap.size bv dv L x w [] z bm dm w1:=hS.below hb1
   go_upto_region 6 with fail
   refine Gl fb w.heap.size bm dm [] z w1 _ hS1.at_ hS1.box HXS.out ?_;intro u69 u71 u72 u76 u78 u79 u80 u81 u82 u83 w2 k1 k2 k3 k4;have hD:=hS1.done hp hL k1 k2 k3 k4;go_wp2_with fail
   go_end0
   exact ⟨⟨_,rfl⟩,hD⟩
  ·rw [List.concat_eq_append] at hS hr ⊢;obtain ⟨g,g2,c,c2,rfl,rfl,q1,q2,⟨q3,q4⟩,⟨q5,q6⟩,q7,q8⟩:=hS.at_.last;have hml:(M'++[a]).length=M'.length+1:=mSi;have hn:(((M'++[a]).length:Nat):Int) - 1=(M'.length:Int):=by rw [hml];omega
   rw [hn];rw [hml] at hr;have hgb:JV g=bv.ownBlock:=hS.eqb;have hgd:JV g2=dv.ownBlock:=hS.eqd;have hg1:=(hbl g hgb.symm).2;have hg2:=(hdl g2 hgd.symm).2;have hfew:=hS.at_.few;rw [hml] at hfew;have haf:=hS.at_.fit a (List.mem_append_right _ (bJ.2 rfl));have hzd:=hS.zf.2.2.2
   go_upto_region 2 with fail
   refine I1 fb w.heap.size g g2 (M'.length+1) c c2 M'.length a z wr _ hS.at_.box hS.box q1 q3 mOm hfew haf.1 haf.2.2.1 haf.2.1 ?_;intro u13 u14 u15 u16 u17 u18 u19 u20 u21 u22 u23 u24 w1 hb1;have hS1:=hS.below hb1;generalize hH:lW a.b a.s z.b z.s=H
   cases H
   ·have hp:fh be (M'++[a]).reverse z=z::(M'++[a]).reverse:=by
     unfold lW at hH;rw [decide_eq_false_iff_not] at hH;rw [fI,List.reverse_singleton,List.singleton_append,fh,if_neg hH]
    clear hH
    go_upto_region 6 with fail
    refine Gl fb w.heap.size _ _ (M'++[a]) z w1 _ hS1.at_ hS1.box HXS.out ?_;intro u69 u71 u72 u76 u78 u79 u80 u81 u82 u83 w2 k1 k2 k3 k4;have hD:=hS1.done hp hL k1 k2 k3 k4;go_wp2_with fail
    go_end0
    exact ⟨⟨_,rfl⟩,hD⟩
   ·have HH:=aa hH;clear hH;have r1:w1.rangeAt g (M'.length*2) (jC a):=fun j v hv=>(hb1.cell (p:=⟨g,M'.length*2+j,JW⟩) q3).trans (q1 j v hv)
    have r2:w1.cell? ⟨g2,M'.length,JW⟩=JV (JQ a.d):=(hb1.cell (p:=⟨g2,M'.length,JW⟩) q4).trans q2;have hsz:=hb1.size;have hw1:=hS.buts.size
    go_upto_region 4 with fail
    refine I2 fb w.heap.size g g2 (M'.length+1) c c2 M'.length a z z.d w1 _ hS1.at_.box hS1.box r1 r2 mOm mOm mOm mOm mOm mOm hfew haf.2.2.1 haf.2.2.2 hzd ?_;intro u35 u44 u45 w2 k1 k2;have hbx2:=k1.heap hS1.at_.box mOm
    go_upto_region 5 with fail
    refine I3 fb g g2 (M'.length+1) c c2 M'.length w2 _ hbx2 mOm hfew q7 q8 ?_;intro u51 u53 u57 u59 u60 u61 u62 u63 w3 k3 k4;have hS3:=hS1.step HH.out q5 q6 (aD _) mOm mOm mOm k1 k2 k3 k4;have a2:IntKind.i64.wrap ((M'.length:Int) - 1)=(M'.length:Int) - 1:=aF _ mOm;clear hn;go_wp2_with fail
    go_roundg M'.length
    case measure=>omega
    case rel=>exact ⟨M',_,_,_,rfl,rfl,rfl,hS3⟩
end
section
open Go Go.Proofs Go.RowKit Go.Sort Go.Lib
def jE (s:ByteArray):ByteArray:=dgB (du [⟨#[3]⟩,s])
theorem Cp (b c:Nat) (x:ByteArray) (hx:x.size≤100000000) (w:World) (h:w.heap[b]? = JV (JU #[JQ ⟨#[3]⟩,JQ x] 9 (0,0))) :
  Calls prog 181 #[JR (JV ⟨b,0,JW⟩) 2 c] w fun e w'=>e=JT (JQ (jE x))∧ac w.heap.size w w':=
 pM b c [⟨#[3]⟩,x] 2 rfl mOm w (nk h _ rfl (by
  intro z hz;simp only [cR,et,or_false] at hz;rcases hz with rfl | rfl
  ·decide
  ·exact hx))
def bL (s:ByteArray):List Value:=[JQ s]
theorem pI {fb:Nat} {bv dv:Value} {L:List Blk} {w:World} (h:LZ fb bv dv L w) {k:Nat} (hk:fR fb bv dv k):fb≤k∧k < w.heap.size:=by
 rcases hk with rfl | e | e
 ·exact ⟨aD _,aU h.box⟩
 ·have:=h.bs.lt k e;omega
 ·have:=h.ds.lt k e;omega
theorem LZ.below {fb:Nat} {bv dv:Value} {L:List Blk} {w w':World} (h:LZ fb bv dv L w) (hb:ac w.heap.size w w'):LZ fb bv dv L w':=
 h.buts (LM.of (S:=fun _=>False) hb) id (fun _ _ h=>h) (fun _ _ h=>h)
theorem Ma.from_ {fb:Nat} {bv dv:Value} {L:List Blk} {x:Blk} {w w1 w2:World} (hb:ac w.heap.size w w1) (h:Ma fb bv dv L x w1 w2):Ma fb bv dv L x w w2:=by
 obtain ⟨⟨bv',dv',h1,h2,h3⟩,h4⟩:=h;have hsz:=hb.size;exact ⟨⟨bv',dv',h1,fun q hq=>(h2 q hq).imp id (bu hsz),fun q hq=>(h3 q hq).imp id (bu hsz)⟩,(LM.of hb).trans h4⟩
structure L6 (fb:Nat) (bv dv:Value) (L xs:List Blk) (w w':World):Prop where
 at_:∃ bv' dv',LZ fb bv' dv' (dO be L.reverse xs).reverse w'∧(∀ q,bv'.ownBlock=JV q→bv.ownBlock=JV q∨w.heap.size≤q)∧(∀ q,dv'.ownBlock=JV q→dv.ownBlock=JV q∨w.heap.size≤q)
 buts:LM (fR fb bv dv) w w'
theorem L6.nil {fb:Nat} {bv dv:Value} {L:List Blk} {w:World} (h:LZ fb bv dv L w):L6 fb bv dv L [] w w:=
 ⟨⟨bv,dv,by show LZ fb bv dv L.reverse.reverse w;rw [dT];exact h,fun _ h=>.inl h,fun _ h=>.inl h⟩,LM.refl _ _⟩
theorem L6.snoc {fb:Nat} {bv dv bv1 dv1:Value} {L xs:List Blk} {x:Blk} {w w1 w2:World} (hF:LM (fR fb bv dv) w w1) (hb:∀ q,bv1.ownBlock=JV q→bv.ownBlock=JV q∨w.heap.size≤q) (hd:∀ q,dv1.ownBlock=JV q→dv.ownBlock=JV q∨w.heap.size≤q)
  (h2:Ma fb bv1 dv1 (dO be L.reverse xs).reverse x w1 w2):L6 fb bv dv L (xs++[x]) w w2:=by
 obtain ⟨⟨bv',dv',k1,k2,k3⟩,k4⟩:=h2;have hsz:=hF.size;refine ⟨⟨bv',dv',?_,fun q hq=>?_,fun q hq=>?_⟩,hF.next k4 (fun k hk e=>?_)⟩
 ·rw [dT] at k1;have:dO be L.reverse (xs++[x])=fh be (dO be L.reverse xs) x:=by unfold dO;rw [List.foldl_append];rfl
  rw [this];exact k1
 ·rcases k2 q hq with e | e
  ·exact hb q e
  ·exact .inr (bu hsz e)
 ·rcases k3 q hq with e | e
  ·exact hd q e
  ·exact .inr (bu hsz e)
 ·rcases e with e | e | e
  ·exact .inl e
  ·exact .inr (.inl ((hb k e).resolve_right mOm))
  ·exact .inr (.inr ((hd k e).resolve_right mOm))
theorem lx (nd:ByteArray→ByteArray→ByteArray):∀ (xs st:List Blk),(dO nd st xs).length≤st.length+xs.length
 | [],st=>aD _
 | x::xs,st=>by
  have h1:=lx nd xs (fh nd st x);have h2:=yK nd st x
  show (dO nd (fh nd st x) xs).length≤_
  simp only [List.length_cons];omega
def dZ (b:Nat) (l:List ByteArray):List Blk:=l.mapIdx fun i s=>⟨b+i,1,jE s⟩
theorem mc (b:Nat) (l:List ByteArray) (s:ByteArray):dZ b (l++[s])=dZ b l++[⟨b+l.length,1,jE s⟩]:=by unfold dZ;rw [List.mapIdx_append];simp
theorem eO {w:World} {v:Value} {l:List ByteArray} {p:Option Addr} {n c:Nat} (h:LK bL w v l) (hv:v=JR p n c) (hl:0 < l.length):∃ b o,p=JV ⟨b,o,JW⟩∧b < w.heap.size∧∀ k s,l[k]? = JV s→w.cell? ⟨b,o+k,JW⟩=JV (JQ s):=by
 obtain ⟨p',c',e,h1,h2,h3⟩:=h;rw [hv] at e;injection e with e1 e2 e3;subst e1;obtain ⟨b,o,rfl,hb,hx⟩:=h3 hl;refine ⟨b,o,rfl,hb,fun k s hk=>?_⟩;have:=hx (k*1+0) (JQ s) (m9 (enc:=bL) (k:=1) (fun _=>rfl) hk rfl)
 simpa using this
theorem Cj (fb bg:Nat) (bv dv:Value) (L:List Blk) (l:List ByteArray) (p:Option Addr) (c:Nat) (w0 w:World) (hF:LZ fb bv dv L w) (hL:L.length+l.length < 10000) (hbg:bg+l.length≤1099511627776) (hl:LK bL w0 (JR p l.length c) l) (hz:∀ s∈l,s.size≤100000000) (h0:w0.heap.size≤fb) (hb0:ac w0.heap.size w0 w) :
  Calls prog 247 #[JS (JV ⟨fb,0,JW⟩),JO JP bg,JR p l.length c] w fun e w'=>(∃ v,e=JT v)∧L6 fb bv dv L (dZ bg l) w w':=by
 have HL:=aa hl;have HZ:=aa hz;have HF:=aa hF;clear hl hz;go_enter func247,ntmps247;go_wp2_with fail
 go_loopw [10] (fun i wr=>∃ k:Nat,k≤l.length∧i=JO JP k∧L6 fb bv dv L (dZ bg (l.take k)) w wr) (fun i _=>l.length - (aw i).toNat)
 case atStart=>exact ⟨0,Nat.zero_le _,rfl,L6.nil hF⟩
 case round =>
  obtain ⟨k,hk,rfl,hA⟩:=hrel;by_cases hkl:k < l.length
  ·obtain ⟨b,o,rfl,hbl,hcv⟩:=eO HL.out rfl mOm;have hget:=ai hkl;have hwr:ac w0.heap.size w0 wr:=hb0.trans (hA.buts.below (fun q hq e=>by have:=(pI HF.out e).1;omega) hb0.size);have hc:=(hwr.cell (p:=⟨b,o+k,JW⟩) hbl).trans (hcv k _ hget);have hsz:=HZ.out _ (bD hkl);have HT:=aa (show l.take (k+1)=l.take k++[l[k]] by rw [List.take_add_one,hget];rfl);generalize l[k]=s at *;have hlt:=lx be (dZ bg (l.take k)) L.reverse;have hlk:(dZ bg (l.take k)).length=k:=by unfold dZ;rw [List.length_mapIdx,aM];omega
   have hlr:(l.take k).length=k:=by rw [aM];omega
   obtain ⟨⟨b1,d1,k1,k2,k3⟩,k4⟩:=hA;have K2:=aa (And.intro k2 k3);have i2:(k:Int) < (l.length:Int):=mOm;clear hcv hget k2 k3;rw [eT] at hlt;have a1:IntKind.i64.wrap ((bg:Int)+(k:Int))=((bg+k:Nat):Int):=eR _ _ mOm mOm;have hlen:(dO be L.reverse (dZ bg (l.take k))).reverse.length < 10000:=by rw [eT];omega
   have hbk:bg+k+1≤1099511627776:=mOm;have HK1:=aa k1;have HK4:=aa k4;clear k1 k4;go_wp2_with fail;refine (Cp wr.heap.size 2 s hsz _ (heap_alloc_new wr _)).mono ?_;rintro _ wn ⟨rfl,hb⟩;have hb1:ac wr.heap.size wr wn:=(al wr _).trans (hb.mono mSi);go_wp2_with fail;refine (Ao fb b1 d1 _ ⟨bg+k,1,jE s⟩ wn (HK1.out.below hb1) hlen hbk Nat.one_pos rfl).mono ?_;rintro _ wx ⟨⟨v,rfl⟩,hA2⟩;replace hA2:=Ma.from_ hb1 hA2;have k4:=HK4.out;have hA3:=L6.snoc k4 K2.out.1 K2.out.2 hA2;have hAN:L6 fb bv dv L (dZ bg (l.take (k+1))) w wx:=by rw [HT.out,mc,hlr];exact hA3
   clear hA2 hA3 k4 hlt hlr hlk hlen hbk a1;go_wp2_with fail
   go_roundw
   case rel=>exact ⟨k+1,mOm,by go_num,hAN⟩
   case measure=>simp [aw];omega
  ·obtain rfl:k=l.length:=mOm;rw [List.take_length] at hA;go_wp2_with fail
   go_end0
   exact ⟨⟨_,rfl⟩,hA⟩
end
section
open Go Go.RowKit Go.Sort
def eqE (a b:Ent):Bool:=decide (a.id=b.id)&&(decide (a.school=b.school)&&(decide (a.student=b.student)&&(decide (a.kind=b.kind)&&(decide (a.day=b.day)&&(decide (a.on=b.on)&&(decide (a.course.toList=b.course.toList)&&(decide (a.credits=b.credits)&&(decide (a.grade=b.grade)&&(decide (a.ref=b.ref)&&(decide (a.fro=b.fro)&&(decide (a.programme=b.programme)&&(decide (a.version=b.version)&&(decide (a.key=b.key)&&(decide (a.mark.toList=b.mark.toList)))))))))))))))
theorem ba_toList {a b:ByteArray}:a.toList=b.toList↔a=b:=by
 rw [ByteArray.toList_eq,ByteArray.toList_eq];constructor
 ·intro h;cases a;cases b;simp_all
 ·rintro rfl;rfl
theorem vw (a b:Ent):eqE a b=true↔a=b:=by
 simp only [eqE,aW,decide_eq_true_eq,ba_toList];constructor
 ·rintro ⟨h1,h2,h3,h4,h5,h6,h7,h8,h9,h10,h11,h12,h13,h14,h15⟩;cases a;cases b;simp_all
 ·rintro rfl;simp
theorem Ip (p:Prop) [Decidable p] (q:Bool) (w:World):Result.ok (decide p&&q) w=if p then Result.ok q w else Result.ok false w:=by by_cases h:p <;> simp [h]
theorem Iq (p:Prop) [Decidable p] (w:World):Result.ok (decide p) w=if p then Result.ok true w else Result.ok false w:=by by_cases h:p <;> simp [h]
theorem yd (a b:Ent) (w:World):(Op.equalIn 10000 67 a.val b.val).run prog w=.ok (eqE a b) w:=by
 have hp:prog.stoodInHeld 67=false:=mKr;rw [show (10000:Nat)=9999+1 from rfl,run_equalIn_agg w _ _ _ _ mKr hp];unfold Program.fieldsOf;rw [underlying67]
 go_simp
 simp only [eqE,Ip];rw [Iq]
theorem Ax (a b:Ent) (w:World):(binOp .eql 67 a.val b.val).run prog w=.ok (.bool (eqE a b)) w:=by rw [run_eql_struct,yd];rfl
theorem xe (x0 x1 x2 x3 x4 x5 x7 x8 x9 x10 x11 x12 x13 y0 y1 y2 y3 y4 y5 y7 y8 y9 y10 y11 y12 y13:Int) (x6 x14 y6 y14:ByteArray) (w:World):(binOp .eql 67 (.agg #[JO JP x0,JO JP x1,JO JP x2,JO JP x3,JO JP x4,JO JP x5,JQ x6,JO JP x7,JO JP x8,JO JP x9,JO JP x10,JO JP x11,JO JP x12,JO JP x13,JQ x14]) (.agg #[JO JP y0,JO JP y1,JO JP y2,JO JP y3,JO JP y4,JO JP y5,JQ y6,JO JP y7,JO JP y8,JO JP y9,JO JP y10,JO JP y11,JO JP y12,JO JP y13,JQ y14])).run prog w=.ok (.bool (eqE ⟨x0,x1,x2,x3,x4,x5,x6,x7,x8,x9,x10,x11,x12,x13,x14⟩ ⟨y0,y1,y2,y3,y4,y5,y6,y7,y8,y9,y10,y11,y12,y13,y14⟩)) w:=
 Ax ⟨x0,x1,x2,x3,x4,x5,x6,x7,x8,x9,x10,x11,x12,x13,x14⟩ ⟨y0,y1,y2,y3,y4,y5,y6,y7,y8,y9,y10,y11,y12,y13,y14⟩ w
end
section
namespace Wr
open Go Go.RowKit Go.Sort Go.Lib
theorem au (w:World) (o:Obj):ac w.heap.size w (w.alloc o):=(Below.refl _ _).alloc (aD _) _
theorem A7 {W w w':World} (h:ac W.heap.size W w) (hb:ac w.heap.size w w'):ac W.heap.size W w':=h.trans (hb.mono h.size)
theorem mv0 {W W':World} {b o:Nat} {v:Value} (hb:ac W.heap.size W W') (h:W.cell? ⟨b,o,JW⟩=JV v):W'.cell? ⟨b,o,JW⟩=JV v:=
 ((tY hb).1 _ _ (am W _ h)).trans h
def fu (l:List Int):List UInt8:=91::(l.flatMap dj++[93])
end Wr
