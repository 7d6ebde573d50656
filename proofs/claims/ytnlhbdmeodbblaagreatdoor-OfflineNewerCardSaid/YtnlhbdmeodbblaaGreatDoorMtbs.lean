/- Lemmas. -/
import Derived.Test.YtnlhbdmeodbblaaGreatDoorMtbr
set_option maxRecDepth 100000
set_option maxHeartbeats 16000000
set_option linter.all false
open Go.Proofs.Tryz
open Go.Lib renaming cell_of_heap->ae,hid->aa
open List renaming mem_singleton->bE,toArray->aK
open Nat renaming le_refl->az,lt_of_lt_of_le->ax
open Go.RowKit renaming Below->ac
open Go.Ending renaming returned->Oe
open Go.IntKind renaming i64->Oa
open Go.Obj renaming cells->Of
open Go.Value renaming int->N9,slice->Oc,pointer->Od
open Option renaming some->Og,none->Oh
namespace Go.Proofs.YtnlhbdmeodbblaaGreatDoor
open Go Go.RowKit Go.Sort Go.Lib
section
variable {s0 s1 s2 s3 s4 s5 s6 s7 s8 s9 f6 f9 fb fe fi fn fr fs fv d9 dc fx fz g0 g1 dd dg dk dm ds dv dx dy dT e0 e1 e2 e3 e4 e5 e6 e7 e8 e9 ea eb ed eg ei ej em eo es ex ey ez eA eB eD f0 f1 f2 g2 g3 g4 g5 g6 g7 g8 g9 ga gc gd gf gk gn go gr gs gv gx gy gA gB gD gW h1 h2 h3 h4 h5 h6 h7 h8 h9 ha hc f3 f4 f5 a0 a1 a2 a3 a4 a5 a6 a7 a8 a9 ab ad af ag ao b3 b4 b5 b6 b7 b8 b9 ba bb bc bd be bf bg bh bk bm bo bp bq cD cG cO cS cW cX d0 d1 d2 d3 d4 d5 d6 d8 br bs bt bv c0 c1 c2 c3 c4 c5 c6 c7 c8 c9 ca cc cd ce cf cg ch ci cj ck cn co cs ct cv cx cy cz cA cB:Value}
theorem qq{p q:Prop}(h:q) (f:Wq q->p:=by
 intro hq;have hS:ac W.heap.size W W.drew/\(∀j,W.drew.cell? ⟨xb,j,Oh⟩=(#[N9 Oa xs,N9 Oa xt,N9 Oa xf,N9 Oa xl,N9 Oa xr,Oc pl nL cl,Oc pp np cp]:Array Value)[j]?):=KS _ (Below.refl _ _).drew;refine gJ (S:=fun u=>ac W.heap.size W u/\(∀j,u.cell? ⟨xb,j,Oh⟩=(#[N9 Oa xs,N9 Oa xt,N9 Oa xf,N9 Oa xl,N9 Oa xr,Oc pl nL cl,Oc pp np cp]:Array Value)[j]?)) (.take 0 (.take 1 (.two 2 7 (.two 3 7 (.take 4 (.take 5 (.take 6 (.one 7 (.one 8 (.take 9 .done)))))) (.one 3 (.take 4 (.take 5 (.take 6 (.one 8 (.take 9 .done))))))) (.one 2 (.one 3 (.take 4 (.take 5 (.take 6 (.one 8 (.take 9 .done)))))))))) hS ?_
 iterate 2 refine aW ?_
 revert hS
 exact hq.1):p:=f ⟨h⟩
theorem iE{p q:Prop}(h:q) (f:Wq q->p:=by
 intro hq;replace hS:=KS _ (ah hS.1 hb);replace hx_bx:=hb.heap_of hx_bx;refine⟨_,rfl,hS,?_⟩
 revert hS hx_bx
 exact hq.1):p:=f ⟨h⟩
theorem qY{p q:Prop}(h:q) (f:Wq q->p:=by
 intro hq;have KRG:=aa krg;have KCK:=aa kck;have KS:∀u,ac W.heap.size W u->ac W.heap.size W u/\(∀j,u.cell? ⟨xb,j,Oh⟩=(#[N9 Oa xs,N9 Oa xt,N9 Oa xf,N9 Oa xl,N9 Oa xr,Oc pl nL cl,Oc pp np cp]:Array Value)[j]?):=fun u hu=>⟨hu,fun j=>(hu.cell (p:=⟨xb,j,Oh⟩) hxb).trans (h0 j)⟩
 revert KRG KCK KS
 exact hq.1):p:=f ⟨h⟩
theorem jN{p:Prop} (h:p:=by
 refine mOn ?_;generalize Q .normal=K at hQ |-;have HQ:=aa hQ;clear hQ
 conv=>arg 2;whnf
 refine qY ?_;intro KRG KCK KS
 clear krg kck h0 hxb;refine qq ?_;intro hS;refine ft ?_ ?_
 .refine bY ⟨_,_,_,_,_,_⟩ rfl mRf 30 _ _ mRf _ mRf call30 (KRG.out _) ?_;rintro x x1⟨g,rfl,hK,hg1,hg2,hb⟩;replace hS:=KS _ (ah hS.1 hb);refine⟨_,rfl,hS,?_⟩
  (try clear hb)
  refine ay ?_;refine ft ?_ ?_
  .refine bY ⟨_,_,_,_,_,_⟩ rfl mRf 13 _ _ mRf _ mRf call13 (KCK.out _ _ hS.1 hK hg2) ?_;rintro x x2⟨p,c,rfl,hRW,hb⟩;replace hS:=KS _ (ah hS.1 hb);refine⟨_,rfl,hS,?_⟩
   (try clear hb)
   refine ay ?_
   iterate 3 refine aW ?_
   have hlo_bx:W.heap.size<=x2.heap.size:=hS.1.size;refine bW (bU ⟨_,_,_,_,_,_⟩ (Od (Og ⟨x2.heap.size,0,Oh⟩)) (x2.alloc (Of #[Oc Oh 0 0,N9 Oa 0,.bool false] 51)) rfl mRf (by go_simp;try rfl) ⟨KS _ (ah hS.1 (aj _ _)),?_⟩);have hb:=aj (x2) (Of #[Oc Oh 0 0,N9 Oa 0,.bool false] 51);replace hS:=KS _ (ah hS.1 hb);have hx_bx:=heap_alloc_new (x2) (Of #[Oc Oh 0 0,N9 Oa 0,.bool false] 51)
   (try replace hK:=hK.below hb hg2)
   (try replace hg2:=ax hg2 hb.size)
   (try replace hRW:=hRW.below hb)
   (try clear hb)
   refine ay ?_;have hset:=KS _ (bu hS.1 hlo_bx #[Oc p EL.length c,N9 Oa hn,.bool cb]);refine bW (di ⟨_,_,_,_,_,_⟩ rfl mRf 51 _ _ mRf (x2.heap.size) #[Oc p EL.length c,N9 Oa hn,.bool cb] mRf mRf _ _ hx_bx mKr rfl (by simp[Value.oneCell']) ⟨hset,?_⟩);replace hS:=hset;clear hset;replace hRW:=jg eG hRW hx_bx mDe #[Oc p EL.length c,N9 Oa hn,.bool cb];replace hx_bx:=setRow_heap (x2.alloc (Of #[Oc Oh 0 0,N9 Oa 0,.bool false] 51)) (x2.heap.size) _ #[Oc p EL.length c,N9 Oa hn,.bool cb] _ _ hx_bx
   (try simp only[Act.put])
   refine aW ?_;simp only[dB,aZ];exact HQ.out _ _ _ _ _ _ _ _ _ _ _ hRW hlo_bx hx_bx hS.1
  .have hlo_bx:W.heap.size<=x1.heap.size:=hS.1.size;refine bU ⟨_,_,_,_,_,_⟩ (Od (Og ⟨x1.heap.size,0,Oh⟩)) (x1.alloc (Of #[Oc Oh 0 0,N9 Oa 0,.bool false] 51)) rfl mRf (by go_simp;try rfl) ⟨KS _ (ah hS.1 (aj _ _)),?_⟩;have hb:=aj (x1) (Of #[Oc Oh 0 0,N9 Oa 0,.bool false] 51);replace hS:=KS _ (ah hS.1 hb);have hx_bx:=heap_alloc_new (x1) (Of #[Oc Oh 0 0,N9 Oa 0,.bool false] 51)
   (try replace hK:=hK.below hb hg2)
   (try replace hg2:=ax hg2 hb.size)
   (try replace hRW:=hRW.below hb)
   (try clear hb)
   refine ay ?_;refine bW (bY ⟨_,_,_,_,_,_⟩ rfl mRf 13 _ _ mRf _ mRf call13 (KCK.out _ _ hS.1 hK hg2) ?_);rintro x x3⟨p,c,rfl,hRW,hb⟩;refine iE ?_;intro hS hx_bx
   (try clear hb)
   refine ay ?_
   iterate 3 refine aW ?_
   have hset:=KS _ (bu hS.1 hlo_bx #[Oc p EL.length c,N9 Oa hn,.bool cb]);refine bW (di ⟨_,_,_,_,_,_⟩ rfl mRf 51 _ _ mRf (x1.heap.size) #[Oc p EL.length c,N9 Oa hn,.bool cb] mRf mRf _ _ hx_bx mKr rfl (by simp[Value.oneCell']) ⟨hset,?_⟩);replace hS:=hset;clear hset;replace hRW:=jg eG hRW hx_bx mDe #[Oc p EL.length c,N9 Oa hn,.bool cb];replace hx_bx:=setRow_heap x3 (x1.heap.size) _ #[Oc p EL.length c,N9 Oa hn,.bool cb] _ _ hx_bx
   (try simp only[Act.put])
   refine aW ?_;simp only[dB,aZ];exact HQ.out _ _ _ _ _ _ _ _ _ _ _ hRW hlo_bx hx_bx hS.1
 .have hlo_bx:W.heap.size<=W.heap.size:=az _;refine bU ⟨_,_,_,_,_,_⟩ (Od (Og ⟨W.heap.size,0,Oh⟩)) (W.drew.alloc (Of #[Oc Oh 0 0,N9 Oa 0,.bool false] 51)) rfl mRf (by go_simp;try rfl) ⟨KS _ (ah hS.1 (aj _ _)),?_⟩;have hb:=aj (W.drew) (Of #[Oc Oh 0 0,N9 Oa 0,.bool false] 51);replace hS:=KS _ (ah hS.1 hb);have hx_bx:=heap_alloc_new (W.drew) (Of #[Oc Oh 0 0,N9 Oa 0,.bool false] 51);replace hx_bx:(W.drew.alloc (Of #[Oc Oh 0 0,N9 Oa 0,.bool false] 51)).heap[W.heap.size]? = Og _:=hx_bx
  (try replace hK:=hK.below hb hg2)
  (try replace hg2:=ax hg2 hb.size)
  (try replace hRW:=hRW.below hb)
  (try clear hb)
  refine ay ?_;refine bW (bY ⟨_,_,_,_,_,_⟩ rfl mRf 30 _ _ mRf _ mRf call30 (KRG.out _) ?_);rintro x x4⟨g,rfl,hK,hg1,hg2,hb⟩;refine iE ?_;intro hS hx_bx
  (try clear hb)
  refine ay ?_;refine bW (bY ⟨_,_,_,_,_,_⟩ rfl mRf 13 _ _ mRf _ mRf call13 (KCK.out _ _ hS.1 hK hg2) ?_);rintro x x5⟨p,c,rfl,hRW,hb⟩;refine iE ?_;intro hS hx_bx
  (try clear hb)
  refine ay ?_
  iterate 3 refine aW ?_
  have hset:=KS _ (bu hS.1 hlo_bx #[Oc p EL.length c,N9 Oa hn,.bool cb]);refine bW (di ⟨_,_,_,_,_,_⟩ rfl mRf 51 _ _ mRf (W.heap.size) #[Oc p EL.length c,N9 Oa hn,.bool cb] mRf mRf _ _ hx_bx mKr rfl (by simp[Value.oneCell']) ⟨hset,?_⟩);replace hS:=hset;clear hset;replace hRW:=jg eG hRW hx_bx mDe #[Oc p EL.length c,N9 Oa hn,.bool cb];replace hx_bx:=setRow_heap x5 (W.heap.size) _ #[Oc p EL.length c,N9 Oa hn,.bool cb] _ _ hx_bx
  (try simp only[Act.put])
  refine aW ?_;simp only[dB,aZ]
  exact HQ.out _ _ _ _ _ _ _ _ _ _ _ hRW hlo_bx hx_bx hS.1):p:=h
theorem NC(xb nL cl np cp cr:Nat)(pl pp pr:Option Addr)(xs xt xf xl xr:Int)(hn er:Int)(cb:Bool)(EL:List Ent)(KL:List bG)(W:World)(Q:Exit->Act->World->Prop)(h0:∀j,W.cell? ⟨xb,j,Oh⟩=(#[N9 Oa xs,N9 Oa xt,N9 Oa xf,N9 Oa xl,N9 Oa xr,Oc pl nL cl,Oc pp np cp]:Array Value)[j]?)(hxb:xb<W.heap.size)(krg:∀u,Calls prog 30 #[N9 Oa 0] u fun e w'=>∃g,e=Oe (.agg #[N9 Oa 1,Oc (Og ⟨g,0,Oh⟩) 1 1])/\cR w' g KL/\u.heap.size<=g/\g<w'.heap.size/\ac u.heap.size u w')(kck:∀u g,ac W.heap.size W u->cR u g KL->g<u.heap.size->Calls prog 13 #[.agg #[N9 Oa xs,N9 Oa xt,N9 Oa xf,N9 Oa xl,N9 Oa xr,Oc pl nL cl,Oc pp np cp],Oc pr 1 cr,.agg #[N9 Oa 1,Oc (Og ⟨g,0,Oh⟩) 1 1],N9 Oa 60] u fun e w'=>∃(p:Option Addr) (c:Nat),e=Oe (.tuple #[.agg #[Oc p EL.length c,N9 Oa hn,.bool cb],N9 Oa er])/\ar bL w' (Oc p EL.length c) EL/\ac u.heap.size u w')
  (hQ:∀(ht hv hw hx hy hz hA:Value)(wx:World)(bx:Nat)(p:Option Addr)(c:Nat),ar bL wx (Oc p EL.length c) EL->W.heap.size<=bx->wx.heap[bx]? = Og (Of #[Oc p EL.length c,N9 Oa hn,.bool cb] 51 (0,0))->ac W.heap.size W wx->Q .normal ⟨aK (s0::s1::Oc pr 1 cr::Od (Og ⟨xb,0,Oh⟩)::s4::s5::s6::s7::s8::Od (Og ⟨bx,0,Oh⟩)::N9 Oa er::f9::fb::fe::fi::fn::fr::fs::fv::d9::dc::fx::fz::g0::g1::dd::dg::dk::dm::ds::dv::dx::dy::dT::e0::e1::e2::e3::e4::e5::e6::e7::e8::e9::ea::eb::ed::eg::ei::ej::em::eo::es::ex::ey::ez::eA::eB::eD::f0::f1::f2::ht::hv::hw::hx::hy::hz::hA::g9::ga::gc::gd::gf::gk::gn::go::gr::gs::gv::gx::gy::gA::gB::gD::gW::h1::h2::h3::h4::h5::h6::h7::h8::h9::ha::hc::f3::f4::f5::a0::a1::a2::a3::a4::a5::a6::a7::a8::a9::ab::ad::af::ag::ao::b3::b4::b5::b6::b7::[b8,b9,ba,bb,bc,bd,be,bf,bg,bh,bk,bm,bo,bp,bq,cD,cG,cO,cS,cW,cX,d0,d1,d2,d3,d4,d5,d6,d8,br,bs,bt,bv,c0,c1,c2,c3,c4,c5,c6,c7,c8,c9,ca,cc,cd,ce,cf,cg,ch,ci,cj,ck,cn,co,cs,ct,cv,cx,cy,cz,cA,cB]),[]⟩ wx) :
  (db f7 7).wp prog Q ⟨aK (s0::s1::Oc pr 1 cr::Od (Og ⟨xb,0,Oh⟩)::s4::s5::s6::s7::s8::s9::f6::f9::fb::fe::fi::fn::fr::fs::fv::d9::dc::fx::fz::g0::g1::dd::dg::dk::dm::ds::dv::dx::dy::dT::e0::e1::e2::e3::e4::e5::e6::e7::e8::e9::ea::eb::ed::eg::ei::ej::em::eo::es::ex::ey::ez::eA::eB::eD::f0::f1::f2::g2::g3::g4::g5::g6::g7::g8::g9::ga::gc::gd::gf::gk::gn::go::gr::gs::gv::gx::gy::gA::gB::gD::gW::h1::h2::h3::h4::h5::h6::h7::h8::h9::ha::hc::f3::f4::f5::a0::a1::a2::a3::a4::a5::a6::a7::a8::a9::ab::ad::af::ag::ao::b3::b4::b5::b6::b7::[b8,b9,ba,bb,bc,bd,be,bf,bg,bh,bk,bm,bo,bp,bq,cD,cG,cO,cS,cW,cX,d0,d1,d2,d3,d4,d5,d6,d8,br,bs,bt,bv,c0,c1,c2,c3,c4,c5,c6,c7,c8,c9,ca,cc,cd,ce,cf,cg,ch,ci,cj,ck,cn,co,cs,ct,cv,cx,cy,cz,cA,cB]),[]⟩ W:=by
 exact jN
theorem ND(xb nL cl np cp cr:Nat)(pl pp pr:Option Addr)(xs xt xf xl xr:Int)(hn er:Int)(cb:Bool)(EL:List Ent)(KL:List bG)(W:World)(Q:Exit->Act->World->Prop)(h0:∀j,W.cell? ⟨xb,j,Oh⟩=(#[N9 Oa xs,N9 Oa xt,N9 Oa xf,N9 Oa xl,N9 Oa xr,Oc pl nL cl,Oc pp np cp]:Array Value)[j]?)(hxb:xb<W.heap.size)(krg:∀u,Calls prog 30 #[N9 Oa 0] u fun e w'=>∃g,e=Oe (.agg #[N9 Oa 1,Oc (Og ⟨g,0,Oh⟩) 1 1])/\cR w' g KL/\u.heap.size<=g/\g<w'.heap.size/\ac u.heap.size u w')(kck:∀u g,ac W.heap.size W u->cR u g KL->g<u.heap.size->Calls prog 13 #[.agg #[N9 Oa xs,N9 Oa xt,N9 Oa xf,N9 Oa xl,N9 Oa xr,Oc pl nL cl,Oc pp np cp],Oc pr 1 cr,.agg #[N9 Oa 1,Oc (Og ⟨g,0,Oh⟩) 1 1],N9 Oa 60] u fun e w'=>∃(p:Option Addr) (c:Nat),e=Oe (.tuple #[.agg #[Oc p EL.length c,N9 Oa hn,.bool cb],N9 Oa er])/\ar bL w' (Oc p EL.length c) EL/\ac u.heap.size u w')
  (hQ:∀(hB hC hD hE hF hG hH:Value)(wx:World)(bx:Nat)(p:Option Addr)(c:Nat),ar bL wx (Oc p EL.length c) EL->W.heap.size<=bx->wx.heap[bx]? = Og (Of #[Oc p EL.length c,N9 Oa hn,.bool cb] 51 (0,0))->ac W.heap.size W wx->Q .normal ⟨aK (s0::s1::Oc pr 1 cr::s3::s4::Od (Og ⟨xb,0,Oh⟩)::s6::s7::s8::s9::f6::Od (Og ⟨bx,0,Oh⟩)::N9 Oa er::fe::fi::fn::fr::fs::fv::d9::dc::fx::fz::g0::g1::dd::dg::dk::dm::ds::dv::dx::dy::dT::e0::e1::e2::e3::e4::e5::e6::e7::e8::e9::ea::eb::ed::eg::ei::ej::em::eo::es::ex::ey::ez::eA::eB::eD::f0::f1::f2::g2::g3::g4::g5::g6::g7::g8::hB::hC::hD::hE::hF::hG::hH::go::gr::gs::gv::gx::gy::gA::gB::gD::gW::h1::h2::h3::h4::h5::h6::h7::h8::h9::ha::hc::f3::f4::f5::a0::a1::a2::a3::a4::a5::a6::a7::a8::a9::ab::ad::af::ag::ao::b3::b4::b5::b6::b7::[b8,b9,ba,bb,bc,bd,be,bf,bg,bh,bk,bm,bo,bp,bq,cD,cG,cO,cS,cW,cX,d0,d1,d2,d3,d4,d5,d6,d8,br,bs,bt,bv,c0,c1,c2,c3,c4,c5,c6,c7,c8,c9,ca,cc,cd,ce,cf,cg,ch,ci,cj,ck,cn,co,cs,ct,cv,cx,cy,cz,cA,cB]),[]⟩ wx) :
  (db f7 8).wp prog Q ⟨aK (s0::s1::Oc pr 1 cr::s3::s4::Od (Og ⟨xb,0,Oh⟩)::s6::s7::s8::s9::f6::f9::fb::fe::fi::fn::fr::fs::fv::d9::dc::fx::fz::g0::g1::dd::dg::dk::dm::ds::dv::dx::dy::dT::e0::e1::e2::e3::e4::e5::e6::e7::e8::e9::ea::eb::ed::eg::ei::ej::em::eo::es::ex::ey::ez::eA::eB::eD::f0::f1::f2::g2::g3::g4::g5::g6::g7::g8::g9::ga::gc::gd::gf::gk::gn::go::gr::gs::gv::gx::gy::gA::gB::gD::gW::h1::h2::h3::h4::h5::h6::h7::h8::h9::ha::hc::f3::f4::f5::a0::a1::a2::a3::a4::a5::a6::a7::a8::a9::ab::ad::af::ag::ao::b3::b4::b5::b6::b7::[b8,b9,ba,bb,bc,bd,be,bf,bg,bh,bk,bm,bo,bp,bq,cD,cG,cO,cS,cW,cX,d0,d1,d2,d3,d4,d5,d6,d8,br,bs,bt,bv,c0,c1,c2,c3,c4,c5,c6,c7,c8,c9,ca,cc,cd,ce,cf,cg,ch,ci,cj,ck,cn,co,cs,ct,cv,cx,cy,cz,cA,cB]),[]⟩ W:=by
 exact jN
theorem NE(xb nL cl np cp cr:Nat)(pl pp pr:Option Addr)(xs xt xf xl xr:Int)(hn er:Int)(cb:Bool)(EL:List Ent)(KL:List bG)(W:World)(Q:Exit->Act->World->Prop)(h0:∀j,W.cell? ⟨xb,j,Oh⟩=(#[N9 Oa xs,N9 Oa xt,N9 Oa xf,N9 Oa xl,N9 Oa xr,Oc pl nL cl,Oc pp np cp]:Array Value)[j]?)(hxb:xb<W.heap.size)(krg:∀u,Calls prog 30 #[N9 Oa 51] u fun e w'=>∃g,e=Oe (.agg #[N9 Oa 1,Oc (Og ⟨g,0,Oh⟩) 1 1])/\cR w' g KL/\u.heap.size<=g/\g<w'.heap.size/\ac u.heap.size u w')(kck:∀u g,ac W.heap.size W u->cR u g KL->g<u.heap.size->Calls prog 13 #[.agg #[N9 Oa xs,N9 Oa xt,N9 Oa xf,N9 Oa xl,N9 Oa xr,Oc pl nL cl,Oc pp np cp],Oc pr 1 cr,.agg #[N9 Oa 1,Oc (Og ⟨g,0,Oh⟩) 1 1],N9 Oa 60] u fun e w'=>∃(p:Option Addr) (c:Nat),e=Oe (.tuple #[.agg #[Oc p EL.length c,N9 Oa hn,.bool cb],N9 Oa er])/\ar bL w' (Oc p EL.length c) EL/\ac u.heap.size u w')
  (hQ:∀(hI hJ hL hM hN hO hP:Value)(wx:World)(bx:Nat)(p:Option Addr)(c:Nat),ar bL wx (Oc p EL.length c) EL->W.heap.size<=bx->wx.heap[bx]? = Og (Of #[Oc p EL.length c,N9 Oa hn,.bool cb] 51 (0,0))->ac W.heap.size W wx->Q .normal ⟨aK (s0::s1::Oc pr 1 cr::Od (Og ⟨xb,0,Oh⟩)::s4::s5::s6::s7::s8::s9::f6::f9::fb::Od (Og ⟨bx,0,Oh⟩)::N9 Oa er::fn::fr::fs::fv::d9::dc::fx::fz::g0::g1::dd::dg::dk::dm::ds::dv::dx::dy::dT::e0::e1::e2::e3::e4::e5::e6::e7::e8::e9::ea::eb::ed::eg::ei::ej::em::eo::es::ex::ey::ez::eA::eB::eD::f0::f1::f2::g2::g3::g4::g5::g6::g7::g8::g9::ga::gc::gd::gf::gk::gn::hI::hJ::hL::hM::hN::hO::hP::gB::gD::gW::h1::h2::h3::h4::h5::h6::h7::h8::h9::ha::hc::f3::f4::f5::a0::a1::a2::a3::a4::a5::a6::a7::a8::a9::ab::ad::af::ag::ao::b3::b4::b5::b6::b7::[b8,b9,ba,bb,bc,bd,be,bf,bg,bh,bk,bm,bo,bp,bq,cD,cG,cO,cS,cW,cX,d0,d1,d2,d3,d4,d5,d6,d8,br,bs,bt,bv,c0,c1,c2,c3,c4,c5,c6,c7,c8,c9,ca,cc,cd,ce,cf,cg,ch,ci,cj,ck,cn,co,cs,ct,cv,cx,cy,cz,cA,cB]),[]⟩ wx) :
  (db f7 9).wp prog Q ⟨aK (s0::s1::Oc pr 1 cr::Od (Og ⟨xb,0,Oh⟩)::s4::s5::s6::s7::s8::s9::f6::f9::fb::fe::fi::fn::fr::fs::fv::d9::dc::fx::fz::g0::g1::dd::dg::dk::dm::ds::dv::dx::dy::dT::e0::e1::e2::e3::e4::e5::e6::e7::e8::e9::ea::eb::ed::eg::ei::ej::em::eo::es::ex::ey::ez::eA::eB::eD::f0::f1::f2::g2::g3::g4::g5::g6::g7::g8::g9::ga::gc::gd::gf::gk::gn::go::gr::gs::gv::gx::gy::gA::gB::gD::gW::h1::h2::h3::h4::h5::h6::h7::h8::h9::ha::hc::f3::f4::f5::a0::a1::a2::a3::a4::a5::a6::a7::a8::a9::ab::ad::af::ag::ao::b3::b4::b5::b6::b7::[b8,b9,ba,bb,bc,bd,be,bf,bg,bh,bk,bm,bo,bp,bq,cD,cG,cO,cS,cW,cX,d0,d1,d2,d3,d4,d5,d6,d8,br,bs,bt,bv,c0,c1,c2,c3,c4,c5,c6,c7,c8,c9,ca,cc,cd,ce,cf,cg,ch,ci,cj,ck,cn,co,cs,ct,cv,cx,cy,cz,cA,cB]),[]⟩ W:=by
 exact jN
theorem M8(xb nL cl np cp cr:Nat)(pl pp pr:Option Addr)(xs xt xf xl xr:Int)(hn er:Int)(cb:Bool)(EL:List Ent)(KL:List bG)(W:World)(Q:Exit->Act->World->Prop)(h0:∀j,W.cell? ⟨xb,j,Oh⟩=(#[N9 Oa xs,N9 Oa xt,N9 Oa xf,N9 Oa xl,N9 Oa xr,Oc pl nL cl,Oc pp np cp]:Array Value)[j]?)(hxb:xb<W.heap.size)(krg:∀u,Calls prog 30 #[N9 Oa 0] u fun e w'=>∃g,e=Oe (.agg #[N9 Oa 1,Oc (Og ⟨g,0,Oh⟩) 1 1])/\cR w' g KL/\u.heap.size<=g/\g<w'.heap.size/\ac u.heap.size u w')(kck:∀u g,ac W.heap.size W u->cR u g KL->g<u.heap.size->Calls prog 13 #[.agg #[N9 Oa xs,N9 Oa xt,N9 Oa xf,N9 Oa xl,N9 Oa xr,Oc pl nL cl,Oc pp np cp],Oc pr 1 cr,.agg #[N9 Oa 1,Oc (Og ⟨g,0,Oh⟩) 1 1],N9 Oa 49] u fun e w'=>∃(p:Option Addr) (c:Nat),e=Oe (.tuple #[.agg #[Oc p EL.length c,N9 Oa hn,.bool cb],N9 Oa er])/\ar bL w' (Oc p EL.length c) EL/\ac u.heap.size u w')
  (hQ:∀(hR hT hU hV hW hX hY:Value)(wx:World)(bx:Nat)(p:Option Addr)(c:Nat),ar bL wx (Oc p EL.length c) EL->W.heap.size<=bx->wx.heap[bx]? = Og (Of #[Oc p EL.length c,N9 Oa hn,.bool cb] 51 (0,0))->ac W.heap.size W wx->Q .normal ⟨aK (s0::s1::Oc pr 1 cr::Od (Og ⟨xb,0,Oh⟩)::s4::s5::s6::s7::s8::s9::f6::f9::fb::fe::fi::Od (Og ⟨bx,0,Oh⟩)::N9 Oa er::fs::fv::d9::dc::fx::fz::g0::g1::dd::dg::dk::dm::ds::dv::dx::dy::dT::e0::e1::e2::e3::e4::e5::e6::e7::e8::e9::ea::eb::ed::eg::ei::ej::em::eo::es::ex::ey::ez::eA::eB::eD::f0::f1::f2::g2::g3::g4::g5::g6::g7::g8::g9::ga::gc::gd::gf::gk::gn::go::gr::gs::gv::gx::gy::gA::hR::hT::hU::hV::hW::hX::hY::h5::h6::h7::h8::h9::ha::hc::f3::f4::f5::a0::a1::a2::a3::a4::a5::a6::a7::a8::a9::ab::ad::af::ag::ao::b3::b4::b5::b6::b7::[b8,b9,ba,bb,bc,bd,be,bf,bg,bh,bk,bm,bo,bp,bq,cD,cG,cO,cS,cW,cX,d0,d1,d2,d3,d4,d5,d6,d8,br,bs,bt,bv,c0,c1,c2,c3,c4,c5,c6,c7,c8,c9,ca,cc,cd,ce,cf,cg,ch,ci,cj,ck,cn,co,cs,ct,cv,cx,cy,cz,cA,cB]),[]⟩ wx) :
  (db f7 10).wp prog Q ⟨aK (s0::s1::Oc pr 1 cr::Od (Og ⟨xb,0,Oh⟩)::s4::s5::s6::s7::s8::s9::f6::f9::fb::fe::fi::fn::fr::fs::fv::d9::dc::fx::fz::g0::g1::dd::dg::dk::dm::ds::dv::dx::dy::dT::e0::e1::e2::e3::e4::e5::e6::e7::e8::e9::ea::eb::ed::eg::ei::ej::em::eo::es::ex::ey::ez::eA::eB::eD::f0::f1::f2::g2::g3::g4::g5::g6::g7::g8::g9::ga::gc::gd::gf::gk::gn::go::gr::gs::gv::gx::gy::gA::gB::gD::gW::h1::h2::h3::h4::h5::h6::h7::h8::h9::ha::hc::f3::f4::f5::a0::a1::a2::a3::a4::a5::a6::a7::a8::a9::ab::ad::af::ag::ao::b3::b4::b5::b6::b7::[b8,b9,ba,bb,bc,bd,be,bf,bg,bh,bk,bm,bo,bp,bq,cD,cG,cO,cS,cW,cX,d0,d1,d2,d3,d4,d5,d6,d8,br,bs,bt,bv,c0,c1,c2,c3,c4,c5,c6,c7,c8,c9,ca,cc,cd,ce,cf,cg,ch,ci,cj,ck,cn,co,cs,ct,cv,cx,cy,cz,cA,cB]),[]⟩ W:=by
 exact jN
theorem M9(xb nL cl np cp cr:Nat)(pl pp pr:Option Addr)(xs xt xf xl xr:Int)(hn er:Int)(cb:Bool)(EL:List Ent)(KL:List bG)(W:World)(Q:Exit->Act->World->Prop)(h0:∀j,W.cell? ⟨xb,j,Oh⟩=(#[N9 Oa xs,N9 Oa xt,N9 Oa xf,N9 Oa xl,N9 Oa xr,Oc pl nL cl,Oc pp np cp]:Array Value)[j]?)(hxb:xb<W.heap.size)(krg:∀u,Calls prog 30 #[N9 Oa 50] u fun e w'=>∃g,e=Oe (.agg #[N9 Oa 1,Oc (Og ⟨g,0,Oh⟩) 1 1])/\cR w' g KL/\u.heap.size<=g/\g<w'.heap.size/\ac u.heap.size u w')(kck:∀u g,ac W.heap.size W u->cR u g KL->g<u.heap.size->Calls prog 13 #[.agg #[N9 Oa xs,N9 Oa xt,N9 Oa xf,N9 Oa xl,N9 Oa xr,Oc pl nL cl,Oc pp np cp],Oc pr 1 cr,.agg #[N9 Oa 1,Oc (Og ⟨g,0,Oh⟩) 1 1],N9 Oa 60] u fun e w'=>∃(p:Option Addr) (c:Nat),e=Oe (.tuple #[.agg #[Oc p EL.length c,N9 Oa hn,.bool cb],N9 Oa er])/\ar bL w' (Oc p EL.length c) EL/\ac u.heap.size u w')
  (hQ:∀(hZ i0 i1 i2 i3 i4 i5:Value)(wx:World)(bx:Nat)(p:Option Addr)(c:Nat),ar bL wx (Oc p EL.length c) EL->W.heap.size<=bx->wx.heap[bx]? = Og (Of #[Oc p EL.length c,N9 Oa hn,.bool cb] 51 (0,0))->ac W.heap.size W wx->Q .normal ⟨aK (s0::s1::Oc pr 1 cr::Od (Og ⟨xb,0,Oh⟩)::s4::s5::s6::s7::s8::s9::f6::f9::fb::fe::fi::fn::fr::Od (Og ⟨bx,0,Oh⟩)::N9 Oa er::d9::dc::fx::fz::g0::g1::dd::dg::dk::dm::ds::dv::dx::dy::dT::e0::e1::e2::e3::e4::e5::e6::e7::e8::e9::ea::eb::ed::eg::ei::ej::em::eo::es::ex::ey::ez::eA::eB::eD::f0::f1::f2::g2::g3::g4::g5::g6::g7::g8::g9::ga::gc::gd::gf::gk::gn::go::gr::gs::gv::gx::gy::gA::gB::gD::gW::h1::h2::h3::h4::hZ::i0::i1::i2::i3::i4::i5::f3::f4::f5::a0::a1::a2::a3::a4::a5::a6::a7::a8::a9::ab::ad::af::ag::ao::b3::b4::b5::b6::b7::[b8,b9,ba,bb,bc,bd,be,bf,bg,bh,bk,bm,bo,bp,bq,cD,cG,cO,cS,cW,cX,d0,d1,d2,d3,d4,d5,d6,d8,br,bs,bt,bv,c0,c1,c2,c3,c4,c5,c6,c7,c8,c9,ca,cc,cd,ce,cf,cg,ch,ci,cj,ck,cn,co,cs,ct,cv,cx,cy,cz,cA,cB]),[]⟩ wx) :
  (db f7 11).wp prog Q ⟨aK (s0::s1::Oc pr 1 cr::Od (Og ⟨xb,0,Oh⟩)::s4::s5::s6::s7::s8::s9::f6::f9::fb::fe::fi::fn::fr::fs::fv::d9::dc::fx::fz::g0::g1::dd::dg::dk::dm::ds::dv::dx::dy::dT::e0::e1::e2::e3::e4::e5::e6::e7::e8::e9::ea::eb::ed::eg::ei::ej::em::eo::es::ex::ey::ez::eA::eB::eD::f0::f1::f2::g2::g3::g4::g5::g6::g7::g8::g9::ga::gc::gd::gf::gk::gn::go::gr::gs::gv::gx::gy::gA::gB::gD::gW::h1::h2::h3::h4::h5::h6::h7::h8::h9::ha::hc::f3::f4::f5::a0::a1::a2::a3::a4::a5::a6::a7::a8::a9::ab::ad::af::ag::ao::b3::b4::b5::b6::b7::[b8,b9,ba,bb,bc,bd,be,bf,bg,bh,bk,bm,bo,bp,bq,cD,cG,cO,cS,cW,cX,d0,d1,d2,d3,d4,d5,d6,d8,br,bs,bt,bv,c0,c1,c2,c3,c4,c5,c6,c7,c8,c9,ca,cc,cd,ce,cf,cg,ch,ci,cj,ck,cn,co,cs,ct,cv,cx,cy,cz,cA,cB]),[]⟩ W:=by
 exact jN
theorem ng{p q:Prop}(h:q) (f:Wq q->p:=by
 intro hq;replace hRW:=jg eG hRW hx_bx mDe #[N9 Oa b0,N9 Oa b1,N9 Oa b2,Oc p EL.length c]
 revert hRW
 exact hq.1):p:=f ⟨h⟩
theorem nE{p q:Prop}(h:q) (f:Wq q->p:=by
 intro hq;have hset:=KS _ (bu hS.1 hlo_bx #[N9 Oa b0,N9 Oa b1,N9 Oa b2,Oc p EL.length c])
 revert hset
 exact hq.1):p:=f ⟨h⟩
theorem rE{p:Prop} (h:p:=by
 refine mOn ?_;generalize Q .normal=K at hQ |-;have HQ:=aa hQ;clear hQ
 conv=>arg 2;whnf
 refine qY ?_;intro KRG KCK KS
 clear krg kck h0 hxb;refine qq ?_;intro hS;refine ft ?_ ?_
 .refine bY ⟨_,_,_,_,_,_⟩ rfl mRf 30 _ _ mRf _ mRf call30 (KRG.out _) ?_;rintro x x1⟨g,rfl,hK,hg1,hg2,hb⟩;replace hS:=KS _ (ah hS.1 hb);refine⟨_,rfl,hS,?_⟩
  (try clear hb)
  refine ay ?_;refine ft ?_ ?_
  .refine bY ⟨_,_,_,_,_,_⟩ rfl mRf 15 _ _ mRf _ mRf call15 (KCK.out _ _ hS.1 hK hg2) ?_;rintro x x2⟨p,c,rfl,hRW,hb⟩;replace hS:=KS _ (ah hS.1 hb);refine⟨_,rfl,hS,?_⟩
   (try clear hb)
   refine ay ?_
   iterate 3 refine aW ?_
   have hlo_bx:W.heap.size<=x2.heap.size:=hS.1.size;refine bW (bU ⟨_,_,_,_,_,_⟩ (Od (Og ⟨x2.heap.size,0,Oh⟩)) (x2.alloc (Of #[N9 Oa 0,N9 Oa 0,N9 Oa 0,Oc Oh 0 0] 56)) rfl mRf (by go_simp;try rfl) ⟨KS _ (ah hS.1 (aj _ _)),?_⟩);have hb:=aj (x2) (Of #[N9 Oa 0,N9 Oa 0,N9 Oa 0,Oc Oh 0 0] 56);replace hS:=KS _ (ah hS.1 hb);have hx_bx:=heap_alloc_new (x2) (Of #[N9 Oa 0,N9 Oa 0,N9 Oa 0,Oc Oh 0 0] 56)
   (try replace hK:=hK.below hb hg2)
   (try replace hg2:=ax hg2 hb.size)
   (try replace hRW:=hRW.below hb)
   (try clear hb)
   refine ay ?_;refine nE ?_;intro hset;refine bW (di ⟨_,_,_,_,_,_⟩ rfl mRf 56 _ _ mRf (x2.heap.size) #[N9 Oa b0,N9 Oa b1,N9 Oa b2,Oc p EL.length c] mRf mRf _ _ hx_bx mKr rfl (by simp[Value.oneCell']) ⟨hset,?_⟩);replace hS:=hset;clear hset;refine ng ?_;intro hRW;replace hx_bx:=setRow_heap (x2.alloc (Of #[N9 Oa 0,N9 Oa 0,N9 Oa 0,Oc Oh 0 0] 56)) (x2.heap.size) _ #[N9 Oa b0,N9 Oa b1,N9 Oa b2,Oc p EL.length c] _ _ hx_bx
   (try simp only[Act.put])
   refine aW ?_;simp only[dB,aZ];exact HQ.out _ _ _ _ _ _ _ _ _ _ _ hRW hlo_bx hx_bx hS.1
  .have hlo_bx:W.heap.size<=x1.heap.size:=hS.1.size;refine bU ⟨_,_,_,_,_,_⟩ (Od (Og ⟨x1.heap.size,0,Oh⟩)) (x1.alloc (Of #[N9 Oa 0,N9 Oa 0,N9 Oa 0,Oc Oh 0 0] 56)) rfl mRf (by go_simp;try rfl) ⟨KS _ (ah hS.1 (aj _ _)),?_⟩;have hb:=aj (x1) (Of #[N9 Oa 0,N9 Oa 0,N9 Oa 0,Oc Oh 0 0] 56);replace hS:=KS _ (ah hS.1 hb);have hx_bx:=heap_alloc_new (x1) (Of #[N9 Oa 0,N9 Oa 0,N9 Oa 0,Oc Oh 0 0] 56)
   (try replace hK:=hK.below hb hg2)
   (try replace hg2:=ax hg2 hb.size)
   (try replace hRW:=hRW.below hb)
   (try clear hb)
   refine ay ?_;refine bW (bY ⟨_,_,_,_,_,_⟩ rfl mRf 15 _ _ mRf _ mRf call15 (KCK.out _ _ hS.1 hK hg2) ?_);rintro x x3⟨p,c,rfl,hRW,hb⟩;refine iE ?_;intro hS hx_bx
   (try clear hb)
   refine ay ?_
   iterate 3 refine aW ?_
   refine nE ?_;intro hset;refine bW (di ⟨_,_,_,_,_,_⟩ rfl mRf 56 _ _ mRf (x1.heap.size) #[N9 Oa b0,N9 Oa b1,N9 Oa b2,Oc p EL.length c] mRf mRf _ _ hx_bx mKr rfl (by simp[Value.oneCell']) ⟨hset,?_⟩);replace hS:=hset;clear hset;refine ng ?_;intro hRW;replace hx_bx:=setRow_heap x3 (x1.heap.size) _ #[N9 Oa b0,N9 Oa b1,N9 Oa b2,Oc p EL.length c] _ _ hx_bx
   (try simp only[Act.put])
   refine aW ?_;simp only[dB,aZ];exact HQ.out _ _ _ _ _ _ _ _ _ _ _ hRW hlo_bx hx_bx hS.1
 .have hlo_bx:W.heap.size<=W.heap.size:=az _;refine bU ⟨_,_,_,_,_,_⟩ (Od (Og ⟨W.heap.size,0,Oh⟩)) (W.drew.alloc (Of #[N9 Oa 0,N9 Oa 0,N9 Oa 0,Oc Oh 0 0] 56)) rfl mRf (by go_simp;try rfl) ⟨KS _ (ah hS.1 (aj _ _)),?_⟩;have hb:=aj (W.drew) (Of #[N9 Oa 0,N9 Oa 0,N9 Oa 0,Oc Oh 0 0] 56);replace hS:=KS _ (ah hS.1 hb);have hx_bx:=heap_alloc_new (W.drew) (Of #[N9 Oa 0,N9 Oa 0,N9 Oa 0,Oc Oh 0 0] 56);replace hx_bx:(W.drew.alloc (Of #[N9 Oa 0,N9 Oa 0,N9 Oa 0,Oc Oh 0 0] 56)).heap[W.heap.size]? = Og _:=hx_bx
  (try replace hK:=hK.below hb hg2)
  (try replace hg2:=ax hg2 hb.size)
  (try replace hRW:=hRW.below hb)
  (try clear hb)
  refine ay ?_;refine bW (bY ⟨_,_,_,_,_,_⟩ rfl mRf 30 _ _ mRf _ mRf call30 (KRG.out _) ?_);rintro x x4⟨g,rfl,hK,hg1,hg2,hb⟩;refine iE ?_;intro hS hx_bx
  (try clear hb)
  refine ay ?_;refine bW (bY ⟨_,_,_,_,_,_⟩ rfl mRf 15 _ _ mRf _ mRf call15 (KCK.out _ _ hS.1 hK hg2) ?_);rintro x x5⟨p,c,rfl,hRW,hb⟩;refine iE ?_;intro hS hx_bx
  (try clear hb)
  refine ay ?_
  iterate 3 refine aW ?_
  refine nE ?_;intro hset;refine bW (di ⟨_,_,_,_,_,_⟩ rfl mRf 56 _ _ mRf (W.heap.size) #[N9 Oa b0,N9 Oa b1,N9 Oa b2,Oc p EL.length c] mRf mRf _ _ hx_bx mKr rfl (by simp[Value.oneCell']) ⟨hset,?_⟩);replace hS:=hset;clear hset;refine ng ?_;intro hRW;replace hx_bx:=setRow_heap x5 (W.heap.size) _ #[N9 Oa b0,N9 Oa b1,N9 Oa b2,Oc p EL.length c] _ _ hx_bx
  (try simp only[Act.put])
  refine aW ?_;simp only[dB,aZ]
  exact HQ.out _ _ _ _ _ _ _ _ _ _ _ hRW hlo_bx hx_bx hS.1):p:=h
theorem Na(xb nL cl np cp cr:Nat)(pl pp pr:Option Addr)(xs xt xf xl xr:Int)(b0 b1 b2 er:Int)(EL:List Ent)(KL:List bG)(W:World)(Q:Exit->Act->World->Prop)(h0:∀j,W.cell? ⟨xb,j,Oh⟩=(#[N9 Oa xs,N9 Oa xt,N9 Oa xf,N9 Oa xl,N9 Oa xr,Oc pl nL cl,Oc pp np cp]:Array Value)[j]?)(hxb:xb<W.heap.size)(krg:∀u,Calls prog 30 #[N9 Oa 0] u fun e w'=>∃g,e=Oe (.agg #[N9 Oa 1,Oc (Og ⟨g,0,Oh⟩) 1 1])/\cR w' g KL/\u.heap.size<=g/\g<w'.heap.size/\ac u.heap.size u w')(kck:∀u g,ac W.heap.size W u->cR u g KL->g<u.heap.size->Calls prog 15 #[.agg #[N9 Oa xs,N9 Oa xt,N9 Oa xf,N9 Oa xl,N9 Oa xr,Oc pl nL cl,Oc pp np cp],Oc pr 1 cr,.agg #[N9 Oa 1,Oc (Og ⟨g,0,Oh⟩) 1 1],N9 Oa 60] u fun e w'=>∃(p:Option Addr) (c:Nat),e=Oe (.tuple #[.agg #[N9 Oa b0,N9 Oa b1,N9 Oa b2,Oc p EL.length c],N9 Oa er])/\ar bL w' (Oc p EL.length c) EL/\ac u.heap.size u w')
  (hQ:∀(hd he hf hg hh hi hj:Value)(wx:World)(bx:Nat)(p:Option Addr)(c:Nat),ar bL wx (Oc p EL.length c) EL->W.heap.size<=bx->wx.heap[bx]? = Og (Of #[N9 Oa b0,N9 Oa b1,N9 Oa b2,Oc p EL.length c] 56 (0,0))->ac W.heap.size W wx->Q .normal ⟨aK (s0::s1::Oc pr 1 cr::s3::s4::s5::s6::Od (Og ⟨xb,0,Oh⟩)::s8::s9::f6::f9::fb::fe::fi::fn::fr::fs::fv::d9::dc::Od (Og ⟨bx,0,Oh⟩)::N9 Oa er::g0::g1::dd::dg::dk::dm::ds::dv::dx::dy::dT::e0::e1::e2::e3::e4::e5::e6::e7::e8::e9::ea::eb::ed::eg::ei::ej::em::eo::es::ex::ey::ez::eA::eB::eD::f0::f1::f2::g2::g3::g4::g5::g6::g7::g8::g9::ga::gc::gd::gf::gk::gn::go::gr::gs::gv::gx::gy::gA::gB::gD::gW::h1::h2::h3::h4::h5::h6::h7::h8::h9::ha::hc::f3::f4::f5::a0::a1::a2::a3::a4::a5::a6::a7::a8::a9::ab::ad::af::ag::ao::b3::b4::b5::b6::b7::[b8,b9,ba,bb,bc,bd,be,bf,bg,bh,bk,bm,bo,bp,bq,hd,he,hf,hg,hh,hi,hj,d1,d2,d3,d4,d5,d6,d8,br,bs,bt,bv,c0,c1,c2,c3,c4,c5,c6,c7,c8,c9,ca,cc,cd,ce,cf,cg,ch,ci,cj,ck,cn,co,cs,ct,cv,cx,cy,cz,cA,cB]),[]⟩ wx) :
  (db f7 14).wp prog Q ⟨aK (s0::s1::Oc pr 1 cr::s3::s4::s5::s6::Od (Og ⟨xb,0,Oh⟩)::s8::s9::f6::f9::fb::fe::fi::fn::fr::fs::fv::d9::dc::fx::fz::g0::g1::dd::dg::dk::dm::ds::dv::dx::dy::dT::e0::e1::e2::e3::e4::e5::e6::e7::e8::e9::ea::eb::ed::eg::ei::ej::em::eo::es::ex::ey::ez::eA::eB::eD::f0::f1::f2::g2::g3::g4::g5::g6::g7::g8::g9::ga::gc::gd::gf::gk::gn::go::gr::gs::gv::gx::gy::gA::gB::gD::gW::h1::h2::h3::h4::h5::h6::h7::h8::h9::ha::hc::f3::f4::f5::a0::a1::a2::a3::a4::a5::a6::a7::a8::a9::ab::ad::af::ag::ao::b3::b4::b5::b6::b7::[b8,b9,ba,bb,bc,bd,be,bf,bg,bh,bk,bm,bo,bp,bq,cD,cG,cO,cS,cW,cX,d0,d1,d2,d3,d4,d5,d6,d8,br,bs,bt,bv,c0,c1,c2,c3,c4,c5,c6,c7,c8,c9,ca,cc,cd,ce,cf,cg,ch,ci,cj,ck,cn,co,cs,ct,cv,cx,cy,cz,cA,cB]),[]⟩ W:=by
 exact rE
theorem Nb(xb nL cl np cp cr:Nat)(pl pp pr:Option Addr)(xs xt xf xl xr:Int)(b0 b1 b2 er:Int)(EL:List Ent)(KL:List bG)(W:World)(Q:Exit->Act->World->Prop)(h0:∀j,W.cell? ⟨xb,j,Oh⟩=(#[N9 Oa xs,N9 Oa xt,N9 Oa xf,N9 Oa xl,N9 Oa xr,Oc pl nL cl,Oc pp np cp]:Array Value)[j]?)(hxb:xb<W.heap.size)(krg:∀u,Calls prog 30 #[N9 Oa 0] u fun e w'=>∃g,e=Oe (.agg #[N9 Oa 1,Oc (Og ⟨g,0,Oh⟩) 1 1])/\cR w' g KL/\u.heap.size<=g/\g<w'.heap.size/\ac u.heap.size u w')(kck:∀u g,ac W.heap.size W u->cR u g KL->g<u.heap.size->Calls prog 15 #[.agg #[N9 Oa xs,N9 Oa xt,N9 Oa xf,N9 Oa xl,N9 Oa xr,Oc pl nL cl,Oc pp np cp],Oc pr 1 cr,.agg #[N9 Oa 1,Oc (Og ⟨g,0,Oh⟩) 1 1],N9 Oa 60] u fun e w'=>∃(p:Option Addr) (c:Nat),e=Oe (.tuple #[.agg #[N9 Oa b0,N9 Oa b1,N9 Oa b2,Oc p EL.length c],N9 Oa er])/\ar bL w' (Oc p EL.length c) EL/\ac u.heap.size u w')
  (hQ:∀(hk hl hm ho hp hr hs:Value)(wx:World)(bx:Nat)(p:Option Addr)(c:Nat),ar bL wx (Oc p EL.length c) EL->W.heap.size<=bx->wx.heap[bx]? = Og (Of #[N9 Oa b0,N9 Oa b1,N9 Oa b2,Oc p EL.length c] 56 (0,0))->ac W.heap.size W wx->Q .normal ⟨aK (s0::s1::Oc pr 1 cr::Od (Og ⟨xb,0,Oh⟩)::s4::s5::s6::s7::s8::s9::f6::f9::fb::fe::fi::fn::fr::fs::fv::d9::dc::fx::fz::Od (Og ⟨bx,0,Oh⟩)::N9 Oa er::dd::dg::dk::dm::ds::dv::dx::dy::dT::e0::e1::e2::e3::e4::e5::e6::e7::e8::e9::ea::eb::ed::eg::ei::ej::em::eo::es::ex::ey::ez::eA::eB::eD::f0::f1::f2::g2::g3::g4::g5::g6::g7::g8::g9::ga::gc::gd::gf::gk::gn::go::gr::gs::gv::gx::gy::gA::gB::gD::gW::h1::h2::h3::h4::h5::h6::h7::h8::h9::ha::hc::f3::f4::f5::a0::a1::a2::a3::a4::a5::a6::a7::a8::a9::ab::ad::af::ag::ao::b3::b4::b5::b6::b7::[b8,b9,ba,bb,bc,bd,be,bf,bg,bh,bk,bm,bo,bp,bq,cD,cG,cO,cS,cW,cX,d0,hk,hl,hm,ho,hp,hr,hs,br,bs,bt,bv,c0,c1,c2,c3,c4,c5,c6,c7,c8,c9,ca,cc,cd,ce,cf,cg,ch,ci,cj,ck,cn,co,cs,ct,cv,cx,cy,cz,cA,cB]),[]⟩ wx) :
  (db f7 15).wp prog Q ⟨aK (s0::s1::Oc pr 1 cr::Od (Og ⟨xb,0,Oh⟩)::s4::s5::s6::s7::s8::s9::f6::f9::fb::fe::fi::fn::fr::fs::fv::d9::dc::fx::fz::g0::g1::dd::dg::dk::dm::ds::dv::dx::dy::dT::e0::e1::e2::e3::e4::e5::e6::e7::e8::e9::ea::eb::ed::eg::ei::ej::em::eo::es::ex::ey::ez::eA::eB::eD::f0::f1::f2::g2::g3::g4::g5::g6::g7::g8::g9::ga::gc::gd::gf::gk::gn::go::gr::gs::gv::gx::gy::gA::gB::gD::gW::h1::h2::h3::h4::h5::h6::h7::h8::h9::ha::hc::f3::f4::f5::a0::a1::a2::a3::a4::a5::a6::a7::a8::a9::ab::ad::af::ag::ao::b3::b4::b5::b6::b7::[b8,b9,ba,bb,bc,bd,be,bf,bg,bh,bk,bm,bo,bp,bq,cD,cG,cO,cS,cW,cX,d0,d1,d2,d3,d4,d5,d6,d8,br,bs,bt,bv,c0,c1,c2,c3,c4,c5,c6,c7,c8,c9,ca,cc,cd,ce,cf,cg,ch,ci,cj,ck,cn,co,cs,ct,cv,cx,cy,cz,cA,cB]),[]⟩ W:=by
 exact rE
end
section
def ExAt(la:Int)(ids:List Int)(pl pp:Option Addr)(nL cl nP cp:Nat)(w:World):Prop:=nL=(exX la ids).lines.length/\nP=(exX la ids).proof.length/\ExtIn (exX la ids) pl pp cl cp w
theorem ExAt.below{la:Int}{ids:List Int}{pl pp:Option Addr}{nL cl nP cp:Nat}{w w':World}(h:ExAt la ids pl pp nL cl nP cp w)(hb:ac w.heap.size w w'):ExAt la ids pl pp nL cl nP cp w':=⟨h.1,h.2.1,h.2.2.below hb⟩
theorem tJ(la:Int)(ids:List Int)(pl pp:Option Addr)(cl cp:Nat):(exX la ids).cells pl pp cl cp=#[N9 Oa 1,N9 Oa 5,N9 Oa 0,N9 Oa la,N9 Oa 0,Oc pl (exX la ids).lines.length cl,Oc pp (exX la ids).proof.length cp]:=by rw[nJ];rfl
theorem Mx:exR.Ok:=by
 constructor <;> first|(unfold I64;decide +kernel)|decide +kernel
theorem Aj(la:Int)(ids:List Int):I64 (exX la ids).root:=by rw[nJ];exact⟨by show(-9223372036854775808:Int)<=((0:Nat):Int);decide,by show((0:Nat):Int)<=9223372036854775807;decide⟩
theorem sZ:(exX 100 [1]).Fit:=⟨Aj _ _,by unfold bT.Fit;decide +kernel,by decide +kernel,by decide +kernel,by decide +kernel⟩
theorem Lw:(exX 20 [1]).Fit:=⟨Aj _ _,by unfold bT.Fit;decide +kernel,by decide +kernel,by decide +kernel,by decide +kernel⟩
theorem Lx:(exX 100000 [1,2]).Fit:=⟨Aj _ _,by unfold bT.Fit;decide +kernel,by decide +kernel,by decide +kernel,by decide +kernel⟩
theorem xZ{la:Int}{ids:List Int}(s:Int)(h:(exX la ids).Fit):JudOk (exX la ids) [exR] (exG s):=
 ⟨h,mDe,fun y hy=>by rw[bE.1 hy];exact Mx,by show(1:Nat)<=1000;decide,fun k hk=>(yV s k hk).1,by show I64 1;unfold I64;decide⟩
theorem Ai(la:Int)(ids:List Int)(hl:0<=la/\la<=100000)(hk:jH (fV exL (bQ exL) 5 0 la) ids)(hi:ids.length<=100)(p1 p2 pi:Option Addr)(c1 c2 ci:Nat)(u:World)(h1:ar bL u (Oc p1 2 c1) exL)(h2:ar cY u (Oc p2 1 c2) [exR])(h3:ar lv u (Oc pi ids.length ci) ids) :
  Calls prog 29 #[Oc p1 2 c1,Oc p2 1 c2,N9 Oa 0,N9 Oa 5,N9 Oa 0,N9 Oa la,Oc pi ids.length ci] u fun e w'=>∃(pl pp:Option Addr) (nL cl nP cp:Nat),e=Oe (.tuple #[.agg #[N9 Oa 1,N9 Oa 5,N9 Oa 0,N9 Oa la,N9 Oa 0,Oc pl nL cl,Oc pp nP cp],N9 Oa 0])/\Hid (ExAt la ids pl pp nL cl nP cp w')/\ac u.heap.size u w':=by
 have hm:=By exL yW p1 c1 [exR] p2 c2 0 5 0 la ids pi ci u h1 mDe h2 mDe h3 mOm;refine hm.mono ?_;rintro e w' (⟨-,pl,cl,pp,cp,rfl,hO1,hO2⟩|⟨h0,-,-⟩)
 .refine⟨pl,pp,(exX la ids).lines.length,cl,(exX la ids).proof.length,cp,?_,aa ⟨rfl,rfl,hO1.row (fun _=>rfl) mDe,hO2.row fH mDe⟩,hO1.low⟩
  show Ending.returned (.tuple #[.agg ((exX la ids).cells pl pp cl cp),N9 Oa 0])=_
  rw[tJ]
 .exact absurd (MA la ids hl hk) h0
theorem pT{s la asof er hn:Int}{ids:List Int}{EL:List Ent}{cb:Bool}(hfit:(exX la ids).Fit)(hj:dS (exX la ids) [exR] (exG s) asof=er)(hv:ip (exX la ids) [exR] (exG s) asof=⟨EL,hn,cb⟩)(pl pp pr:Option Addr)(nL cl nP cp cr g:Nat)(u:World)
  (hx:ExAt la ids pl pp nL cl nP cp u) (hR:ar cY u (Oc pr 1 cr) [exR]) (hK:cR u g (exG s).keys) (hg:g<u.heap.size) (hr:Wr.Ready u) :
  Calls prog 13 #[.agg #[N9 Oa 1,N9 Oa 5,N9 Oa 0,N9 Oa la,N9 Oa 0,Oc pl nL cl,Oc pp nP cp],Oc pr 1 cr,.agg #[N9 Oa 1,Oc (Og ⟨g,0,Oh⟩) 1 1],N9 Oa asof] u fun e w'=>∃(p:Option Addr) (c:Nat),e=Oe (.tuple #[.agg #[Oc p EL.length c,N9 Oa hn,.bool cb],N9 Oa er])/\ar bL w' (Oc p EL.length c) EL/\ac u.heap.size u w':=by
 obtain⟨rfl,rfl,hin⟩:=hx;have h:=qn (exX la ids) pl pp cl cp [exR] pr cr (exG s) g 1 asof u (xZ s hfit) ⟨hin,hR,hK,hg,hr⟩;rw[tJ,hj,hv] at h;exact h
theorem My:BrS Ent.id exL exL:=by refine⟨exL.zipIdx,List.zipIdx_map_fst ..,List.Perm.refl _,?_⟩;decide +kernel
theorem DM(pl pp pr:Option Addr)(nL cl nP cp cr g:Nat)(u:World)(hx:ExAt 100000 [1,2] pl pp nL cl nP cp u)(hR:ar cY u (Oc pr 1 cr) [exR])(hK:cR u g (exG 0).keys)(hg:g<u.heap.size)(hr:Wr.Ready u) :
  Calls prog 15 #[.agg #[N9 Oa 1,N9 Oa 5,N9 Oa 0,N9 Oa 100000,N9 Oa 0,Oc pl nL cl,Oc pp nP cp],Oc pr 1 cr,.agg #[N9 Oa 1,Oc (Og ⟨g,0,Oh⟩) 1 1],N9 Oa 60] u fun e w'=>∃(p:Option Addr) (c:Nat),e=Oe (.tuple #[.agg #[N9 Oa 1,N9 Oa 5,N9 Oa 0,Oc p exL.length c],N9 Oa 0])/\ar bL w' (Oc p exL.length c) exL/\ac u.heap.size u w':=by
 obtain⟨rfl,rfl,hin⟩:=hx;have h:=xo (exX 100000 [1,2]) pl pp cl cp [exR] pr cr (exG 0) g 1 60 u (xZ 0 Lx) ⟨hin,hR,hK,hg,hr⟩ (by rw[ex_lens.2.2];decide);rw[tJ] at h;have he:lL (exX 100000 [1,2]) [exR] (exG 0) 60=0:=by
  unfold lL;rw[if_neg (fun h=>h (lO 0 100000 [1,2] mDe kO)),if_neg];rintro(⟨y,hy,hb⟩|h|h)
  .have:=Hw y hy;rw[hb] at this
   cases this
  .exact h (by rw[nJ];rfl)
  .exact h (by rw[nJ];rfl)
 refine h.mono ?_
 rintro e w' (⟨h0,-,-⟩|⟨-,p,c,M,rfl,hB,hO⟩)
 .exact absurd he h0
 .rw[JT] at hB;obtain rfl:=hB.one My;have e1:(exX 100000 [1,2]).school=1/\(exX 100000 [1,2]).student=5/\(exX 100000 [1,2]).root=0:=by rw[nJ];exact⟨rfl,rfl,rfl⟩
  refine⟨p,c,by rw[e1.1,e1.2.1,e1.2.2],hO.row eG mDe,hO.low⟩
theorem DL(pl pp pr:Option Addr)(nL cl nP cp cr g:Nat)(u:World)(hx:ExAt 100 [1] pl pp nL cl nP cp u)(hR:ar cY u (Oc pr 1 cr) [exR])(hK:cR u g (exG 0).keys)(hg:g<u.heap.size)(hr:Wr.Ready u) :
  Calls prog 15 #[.agg #[N9 Oa 1,N9 Oa 5,N9 Oa 0,N9 Oa 100,N9 Oa 0,Oc pl nL cl,Oc pp nP cp],Oc pr 1 cr,.agg #[N9 Oa 1,Oc (Og ⟨g,0,Oh⟩) 1 1],N9 Oa 60] u fun e w'=>∃(p:Option Addr) (c:Nat),e=Oe (.tuple #[.agg #[N9 Oa 0,N9 Oa 0,N9 Oa 0,Oc p ([]:List Ent).length c],N9 Oa 42])/\ar bL w' (Oc p ([]:List Ent).length c) []/\ac u.heap.size u w':=by
 obtain⟨rfl,rfl,hin⟩:=hx;have h:=xo (exX 100 [1]) pl pp cl cp [exR] pr cr (exG 0) g 1 60 u (xZ 0 sZ) ⟨hin,hR,hK,hg,hr⟩ (by rw[ex_lens.1];decide);rw[tJ] at h;have he:lL (exX 100 [1]) [exR] (exG 0) 60=42:=by
  unfold lL;rw[if_neg (fun h=>h (lO 0 100 [1] mDe kO)),if_pos];refine .inr (.inr ?_);rw[nJ]
  show(100:Int)≠100000
  decide
 refine h.mono ?_
 rintro e w' (⟨-,rfl,hb⟩|⟨h0,-⟩)
 .rw[he];exact⟨Oh,0,rfl,ar.nil _ _,hb⟩
 .rw[he] at h0;cases h0
theorem LA:ip (exX 100 [1]) [exR] (exG 0) 60=⟨exL.take 1,1,false⟩:=by have h:=uL 0 100 [1] mDe kO;unfold ip;rw[if_pos (lO 0 100 [1] mDe kO),h.2,ex_ents1.1,ex_ents1.2.1,ex_ents1.2.2];rfl
theorem LC:ip (exX 20 [1]) [exR] (exG 0) 60=⟨exL.take 1,0,true⟩:=by have h:=uL 0 20 [1] mDe kO;unfold ip;rw[if_pos (lO 0 20 [1] mDe kO),h.2,ex_ents2.1,ex_ents2.2.1,ex_ents2.2.2];rfl
theorem LD:ip (exX 100 [1]) [exR] (exG 51) 60=⟨exL.take 1,1,false⟩:=by have h:=uL 51 100 [1] mDe uM;unfold ip;rw[if_pos (lO 51 100 [1] mDe uM),h.2,JS,ex_ents1.2.1,ex_ents1.2.2];rfl
theorem LE:ip (exX 100 [1]) [exR] (exG 0) 49=⟨[],0,false⟩:=by unfold ip;rw[if_neg (by rw[Cz 100 [1] mDe];decide)]
theorem LF:ip (exX 100 [1]) [exR] (exG 50) 60=⟨[],0,false⟩:=by unfold ip;rw[if_neg (by rw[CA 100 [1] mDe];decide)]
end
section
def Ji(w:World)(a b c d:Nat)(ca cb cc cd:Array Value)(u:World):Prop:=ac w.heap.size w u/\(a<u.heap.size/\b<u.heap.size/\c<u.heap.size/\d<u.heap.size)/\(∀j,u.cell? ⟨a,j,Oh⟩=ca[j]?)/\(∀j,u.cell? ⟨b,j,Oh⟩=cb[j]?)/\(∀j,u.cell? ⟨c,j,Oh⟩=cc[j]?)/\(∀j,u.cell? ⟨d,j,Oh⟩=cd[j]?)
theorem je{w u v:World}{a b c d:Nat}{ca cb cc cd:Array Value}(h:Ji w a b c d ca cb cc cd u)(hb:ac u.heap.size u v):Ji w a b c d ca cb cc cd v:=by
 obtain⟨h0,⟨l1,l2,l3,l4⟩,h1,h2,h3,h4⟩:=h;have hs:=hb.size;exact⟨ah h0 hb,⟨mOm,mOm,mOm,mOm⟩,fun j=>(hb.cell (p:=⟨a,j,Oh⟩) l1).trans (h1 j),fun j=>(hb.cell (p:=⟨b,j,Oh⟩) l2).trans (h2 j),fun j=>(hb.cell (p:=⟨c,j,Oh⟩) l3).trans (h3 j),fun j=>(hb.cell (p:=⟨d,j,Oh⟩) l4).trans (h4 j)⟩
theorem iI{p q:Prop}(h:q) (f:Wq q->p:=by
 intro hq;have X1:=aO.mk (hbp.heap_of X1.is);have X2:=aO.mk (hbp.heap_of X2.is);have X3:=aO.mk (hbp.heap_of X3.is);have V7:=aO.mk (hbp.heap_of V7.is);have V8:=aO.mk (hbp.heap_of V8.is)
 revert X1 X2 X3 V7 V8
 exact hq.1):p:=f ⟨h⟩
theorem iH{p q:Prop}(h:q) (f:Wq q->p:=by
 intro hq;have HX1:=aa (HX1.out.below hbp);have HX2:=aa (HX2.out.below hbp);have HX3:=aa (HX3.out.below hbp);have HV7:=aa (HV7.out.below hbp);have HV8:=aa (HV8.out.below hbp)
 revert HX1 HX2 HX3 HV7 HV8
 exact hq.1):p:=f ⟨h⟩
theorem nG{p q:Prop}(h:q) (f:Wq q->p:=by
 intro hq;have V9:=aO.mk (hbp.heap_of V9.is);have V10:=aO.mk (hbp.heap_of V10.is);have V11:=aO.mk (hbp.heap_of V11.is);have V12:=aO.mk (hbp.heap_of V12.is)
 revert V9 V10 V11 V12
 exact hq.1):p:=f ⟨h⟩
theorem vT(w:World)(hr:Wr.Ready w):Calls prog 7 #[] w fun e w'=>e=Oe (.bool true)/\ac w.heap.size w w':=by
 have HR0:=aa hr;have ke:=BK w hr.sane.1;clear hr;obtain⟨F1,HF1⟩:∃F,Hid (F=exL.take 1):=⟨_,aa rfl⟩;obtain⟨L2,HL2⟩:∃F,Hid (F=exL):=⟨_,aa rfl⟩;go_enter func7,ntmps7;go_wp2_with fail;refine ke.mono ?_;clear ke;rintro _ w1⟨p1,p2,c1,c2,rfl,hL,hR⟩;have HB0:=aa hL.low;have HL:=aa (hL.row eG mDe);have HR:=aa (hR.row dp mDe);have HB:=aa (Below.refl w1.heap.size w1);clear hL hR;have km1:=Ai 100 [1] mDe Hx mDe p1 p2 (Og ⟨w1.heap.size,0,Oh⟩) c1 c2 1 (w1.alloc (Of #[N9 Oa 1] 3)) ((HL.out.below HB.out).below (aj _ _)) ((HR.out.below HB.out).below (aj _ _)) ((mj (enc:=lv) (k:=1) 3 w1 #[N9 Oa 1] [1] 1 rfl mDe rfl rfl).row lR mDe);have hbl1:=aj w1 (Of #[N9 Oa 1] 3);go_wp2_with fail;refine km1.mono ?_;clear km1;rintro _ w12⟨pl1,pp1,n1,d1,m1,f1,rfl,HX1,hb1⟩;have hx1:=heap_alloc_new w12 (Of #[N9 Oa 1,N9 Oa 5,N9 Oa 0,N9 Oa 100,N9 Oa 0,Oc pl1 n1 d1,Oc pp1 m1 f1] 39);have hba1:=aj w12 (Of #[N9 Oa 1,N9 Oa 5,N9 Oa 0,N9 Oa 100,N9 Oa 0,Oc pl1 n1 d1,Oc pp1 m1 f1] 39);have HX1:=aa (HX1.out.below hba1);obtain⟨w13,hw1⟩:∃u,u=w12.alloc (Of #[N9 Oa 1,N9 Oa 5,N9 Oa 0,N9 Oa 100,N9 Oa 0,Oc pl1 n1 d1,Oc pp1 m1 f1] 39):=⟨_,rfl⟩;obtain⟨x1b,hxb1⟩:∃b,b=w12.heap.size:=⟨_,rfl⟩;rw[<-hw1] at hx1 hba1 HX1
 go_upto_region 3 with fail
 rw[<-hw1,<-hxb1];rw[<-hxb1] at hx1;have hbd1:=ah (ah hbl1 hb1) hba1;have HB:=aa (ah HB.out hbd1);have X1:=aO.mk hx1;clear hw1 hxb1 hx1 hba1 hb1 hbl1 hbd1;have km2:=Ai 20 [1] mDe Hy mDe p1 p2 (Og ⟨w13.heap.size,0,Oh⟩) c1 c2 1 (w13.alloc (Of #[N9 Oa 1] 3)) ((HL.out.below HB.out).below (aj _ _)) ((HR.out.below HB.out).below (aj _ _)) ((mj (enc:=lv) (k:=1) 3 w13 #[N9 Oa 1] [1] 1 rfl mDe rfl rfl).row lR mDe);have hbl2:=aj w13 (Of #[N9 Oa 1] 3);go_wp2_with fail;refine km2.mono ?_;clear km2;rintro _ w22⟨pl2,pp2,n2,d2,m2,f2,rfl,HX2,hb2⟩;have hx2:=heap_alloc_new w22 (Of #[N9 Oa 1,N9 Oa 5,N9 Oa 0,N9 Oa 20,N9 Oa 0,Oc pl2 n2 d2,Oc pp2 m2 f2] 39);have hba2:=aj w22 (Of #[N9 Oa 1,N9 Oa 5,N9 Oa 0,N9 Oa 20,N9 Oa 0,Oc pl2 n2 d2,Oc pp2 m2 f2] 39);have HX2:=aa (HX2.out.below hba2);obtain⟨w23,hw2⟩:∃u,u=w22.alloc (Of #[N9 Oa 1,N9 Oa 5,N9 Oa 0,N9 Oa 20,N9 Oa 0,Oc pl2 n2 d2,Oc pp2 m2 f2] 39):=⟨_,rfl⟩;obtain⟨x2b,hxb2⟩:∃b,b=w22.heap.size:=⟨_,rfl⟩;rw[<-hw2] at hx2 hba2 HX2
 go_upto_region 4 with fail
 rw[<-hw2,<-hxb2];rw[<-hxb2] at hx2;have hbd2:=ah (ah hbl2 hb2) hba2;have X1:=aO.mk (hbd2.heap_of X1.is);have HX1:=aa (HX1.out.below hbd2);have HB:=aa (ah HB.out hbd2);have X2:=aO.mk hx2;clear hw2 hxb2 hx2 hba2 hb2 hbl2 hbd2;have km3:=Ai 100000 [1,2] mDe Hz mDe p1 p2 (Og ⟨w23.heap.size,0,Oh⟩) c1 c2 2 (w23.alloc (Of #[N9 Oa 1,N9 Oa 2] 3)) ((HL.out.below HB.out).below (aj _ _)) ((HR.out.below HB.out).below (aj _ _)) ((mj (enc:=lv) (k:=1) 3 w23 #[N9 Oa 1,N9 Oa 2] [1,2] 2 rfl mDe rfl rfl).row lR mDe);have hbl3:=aj w23 (Of #[N9 Oa 1,N9 Oa 2] 3);go_wp2_with fail;refine km3.mono ?_;clear km3;rintro _ w32⟨pl3,pp3,n3,d3,m3,f3,rfl,HX3,hb3⟩;have hx3:=heap_alloc_new w32 (Of #[N9 Oa 1,N9 Oa 5,N9 Oa 0,N9 Oa 100000,N9 Oa 0,Oc pl3 n3 d3,Oc pp3 m3 f3] 39);have hba3:=aj w32 (Of #[N9 Oa 1,N9 Oa 5,N9 Oa 0,N9 Oa 100000,N9 Oa 0,Oc pl3 n3 d3,Oc pp3 m3 f3] 39);have HX3:=aa (HX3.out.below hba3);obtain⟨w33,hw3⟩:∃u,u=w32.alloc (Of #[N9 Oa 1,N9 Oa 5,N9 Oa 0,N9 Oa 100000,N9 Oa 0,Oc pl3 n3 d3,Oc pp3 m3 f3] 39):=⟨_,rfl⟩;obtain⟨x3b,hxb3⟩:∃b,b=w32.heap.size:=⟨_,rfl⟩;rw[<-hw3] at hx3 hba3 HX3
 go_upto_region 5 with fail
 rw[<-hw3,<-hxb3];rw[<-hxb3] at hx3;have hbd3:=ah (ah hbl3 hb3) hba3;have X1:=aO.mk (hbd3.heap_of X1.is);have X2:=aO.mk (hbd3.heap_of X2.is);have HX1:=aa (HX1.out.below hbd3);have HX2:=aa (HX2.out.below hbd3);have HB:=aa (ah HB.out hbd3);have X3:=aO.mk hx3;clear hw3 hxb3 hx3 hba3 hb3 hbl3 hbd3
 go_upto_region 7 with fail
 refine NC x1b n1 d1 m1 f1 c2 pl1 pp1 p2 1 5 0 100 0 1 0 false F1 (exG 0).keys w33 _ (ae X1.is) (av X1.is) (fun u=>iY 0 u) (fun u g hu hK hg=>pT (s:=0) sZ (lO 0 100 [1] mDe kO) (by rw[HF1.out];exact LA) pl1 pp1 p2 n1 d1 m1 f1 c2 g u (HX1.out.below hu) (HR.out.below (ah HB.out hu)) hK hg (bC HR0.out (ah HB0.out (ah HB.out hu)))) ?_
 intros
 rename_i w7 b7 q7 e7 hrow hlo hbx hbp
 have X1:=aO.mk (hbp.heap_of X1.is)
 have X2:=aO.mk (hbp.heap_of X2.is);have X3:=aO.mk (hbp.heap_of X3.is);have HX1:=aa (HX1.out.below hbp);have HX2:=aa (HX2.out.below hbp);have HX3:=aa (HX3.out.below hbp);have HB:=aa (ah HB.out hbp);have V7:=aO.mk hbx;have HV7:=aa hrow;clear hrow hlo hbx hbp
 go_upto_region 8 with fail
 refine ND x2b n2 d2 m2 f2 c2 pl2 pp2 p2 1 5 0 20 0 0 0 true F1 (exG 0).keys w7 _ (ae X2.is) (av X2.is) (fun u=>iY 0 u) (fun u g hu hK hg=>pT (s:=0) Lw (lO 0 20 [1] mDe kO) (by rw[HF1.out];exact LC) pl2 pp2 p2 n2 d2 m2 f2 c2 g u (HX2.out.below hu) (HR.out.below (ah HB.out hu)) hK hg (bC HR0.out (ah HB0.out (ah HB.out hu)))) ?_
 intros
 rename_i w8 b8 q8 e8 hrow hlo hbx hbp
 have X1:=aO.mk (hbp.heap_of X1.is)
 have X2:=aO.mk (hbp.heap_of X2.is);have X3:=aO.mk (hbp.heap_of X3.is);have V7:=aO.mk (hbp.heap_of V7.is);have HX1:=aa (HX1.out.below hbp);have HX2:=aa (HX2.out.below hbp);have HX3:=aa (HX3.out.below hbp);have HV7:=aa (HV7.out.below hbp);have HB:=aa (ah HB.out hbp);have V8:=aO.mk hbx;have HV8:=aa hrow;clear hrow hlo hbx hbp
 go_upto_region 9 with fail
 refine NE x1b n1 d1 m1 f1 c2 pl1 pp1 p2 1 5 0 100 0 1 0 false F1 (exG 51).keys w8 _ (ae X1.is) (av X1.is) (fun u=>iY 51 u) (fun u g hu hK hg=>pT (s:=51) sZ (lO 51 100 [1] mDe uM) (by rw[HF1.out];exact LD) pl1 pp1 p2 n1 d1 m1 f1 c2 g u (HX1.out.below hu) (HR.out.below (ah HB.out hu)) hK hg (bC HR0.out (ah HB0.out (ah HB.out hu)))) ?_
 intros
 rename_i w9 b9 q9 e9 hrow hlo hbx hbp
 refine iI ?_;intro X1 X2 X3 V7 V8
 refine iH ?_;intro HX1 HX2 HX3 HV7 HV8;have HB:=aa (ah HB.out hbp);have V9:=aO.mk hbx;have HV9:=aa hrow;clear hrow hlo hbx hbp
 go_upto_region 10 with fail
 refine M8 x1b n1 d1 m1 f1 c2 pl1 pp1 p2 1 5 0 100 0 0 23 false [] (exG 0).keys w9 _ (ae X1.is) (av X1.is) (fun u=>iY 0 u) (fun u g hu hK hg=>pT (s:=0) sZ (Cz 100 [1] mDe) (LE) pl1 pp1 p2 n1 d1 m1 f1 c2 g u (HX1.out.below hu) (HR.out.below (ah HB.out hu)) hK hg (bC HR0.out (ah HB0.out (ah HB.out hu)))) ?_
 intros
 rename_i w10 b10 q10 e10 hrow hlo hbx hbp
 refine iI ?_;intro X1 X2 X3 V7 V8
 have V9:=aO.mk (hbp.heap_of V9.is);refine iH ?_;intro HX1 HX2 HX3 HV7 HV8;have HV9:=aa (HV9.out.below hbp);have HB:=aa (ah HB.out hbp);have V10:=aO.mk hbx;have HV10:=aa hrow;clear hrow hlo hbx hbp
 go_upto_region 11 with fail
 refine M9 x1b n1 d1 m1 f1 c2 pl1 pp1 p2 1 5 0 100 0 0 11 false [] (exG 50).keys w10 _ (ae X1.is) (av X1.is) (fun u=>iY 50 u) (fun u g hu hK hg=>pT (s:=50) sZ (CA 100 [1] mDe) (LF) pl1 pp1 p2 n1 d1 m1 f1 c2 g u (HX1.out.below hu) (HR.out.below (ah HB.out hu)) hK hg (bC HR0.out (ah HB0.out (ah HB.out hu)))) ?_
 intros
 rename_i w11 b11 q11 e11 hrow hlo hbx hbp
 refine iI ?_;intro X1 X2 X3 V7 V8
 have V9:=aO.mk (hbp.heap_of V9.is);have V10:=aO.mk (hbp.heap_of V10.is);refine iH ?_;intro HX1 HX2 HX3 HV7 HV8;have HV9:=aa (HV9.out.below hbp);have HV10:=aa (HV10.out.below hbp);have HB:=aa (ah HB.out hbp);have V11:=aO.mk hbx;have HV11:=aa hrow;clear hrow hlo hbx hbp;have hcap:2<=c1:=by obtain⟨p',c',e',h1,_⟩:=HL.out;injection e' with _ _ e3;rw[e3];exact h1
 have hpn:p1=Oh->c1=0:=by obtain⟨p',c',e',_,h1,_⟩:=HL.out;injection e' with e1 _ e3;rw[e1,e3];exact h1
 have HPN:=aa hpn;have hsl:∀u,(Instr.sliceAt 34 (Oc p1 2 c1) Oh (Og (N9 Oa 1)) Oh).run prog u=.ok (Oc p1 1 c1) u:=fun u=>oz 34 67 underlying34 sizeOf67 p1 2 c1 1 mDe hcap HPN.out u
 clear hpn;have hx:=heap_alloc_new w11 (Of #[Oc p1 1 c1,N9 Oa 1,.bool false] 51);have hba:=aj w11 (Of #[Oc p1 1 c1,N9 Oa 1,.bool false] 51);obtain⟨w12,hw12⟩:∃u,u=w11.alloc (Of #[Oc p1 1 c1,N9 Oa 1,.bool false] 51):=⟨_,rfl⟩;obtain⟨b12,hb12⟩:∃b,b=w11.heap.size:=⟨_,rfl⟩;rw[<-hw12] at hx hba
 go_upto_region 13 with fail
 rw[<-hw12,<-hb12];rw[<-hb12] at hx;have X1:=aO.mk (hba.heap_of X1.is);have X2:=aO.mk (hba.heap_of X2.is);have X3:=aO.mk (hba.heap_of X3.is);have V7:=aO.mk (hba.heap_of V7.is);have V8:=aO.mk (hba.heap_of V8.is);have V9:=aO.mk (hba.heap_of V9.is);have V10:=aO.mk (hba.heap_of V10.is);have V11:=aO.mk (hba.heap_of V11.is);have HX1:=aa (HX1.out.below hba);have HX2:=aa (HX2.out.below hba);have HX3:=aa (HX3.out.below hba);have HV7:=aa (HV7.out.below hba);have HV8:=aa (HV8.out.below hba);have HV9:=aa (HV9.out.below hba);have HV10:=aa (HV10.out.below hba);have HV11:=aa (HV11.out.below hba);have HB:=aa (ah HB.out hba);have V12:=aO.mk hx;clear hw12 hb12 hx hba
 have KA:Hid (∀u,ac w12.heap.size w12 u->Calls prog 17 #[.agg #[Oc q7 F1.length e7,N9 Oa 1,.bool false],.agg #[Oc p1 1 c1,N9 Oa 1,.bool false]] u fun e w'=>e=Oe (.bool true)/\ac u.heap.size u w'):=aa (fun u hu=>by
  refine(oK ⟨F1,1,false⟩ ⟨exL.take 1,1,false⟩ q7 p1 e7 c1 u (HV7.out.below hu) (((HL.out.below HB.out).below hu).take (m:=1) rfl mDe) (by rw[HF1.out];decide)).mono ?_;rintro e w'⟨t,rfl,ht,hb⟩;obtain rfl:t=true:=ht.2 (by rw[HF1.out])
  exact⟨rfl,hb⟩)
 have KB:Hid (∀u,ac w12.heap.size w12 u->Calls prog 17 #[.agg #[Oc q8 F1.length e8,N9 Oa 0,.bool true],.agg #[Oc p1 1 c1,N9 Oa 0,.bool true]] u fun e w'=>e=Oe (.bool true)/\ac u.heap.size u w'):=aa (fun u hu=>by
  refine(oK ⟨F1,0,true⟩ ⟨exL.take 1,0,true⟩ q8 p1 e8 c1 u (HV8.out.below hu) (((HL.out.below HB.out).below hu).take (m:=1) rfl mDe) (by rw[HF1.out];decide)).mono ?_;rintro e w'⟨t,rfl,ht,hb⟩;obtain rfl:t=true:=ht.2 (by rw[HF1.out])
  exact⟨rfl,hb⟩)
 have KC:Hid (∀u,ac w12.heap.size w12 u->Calls prog 17 #[.agg #[Oc q9 F1.length e9,N9 Oa 1,.bool false],.agg #[Oc p1 1 c1,N9 Oa 1,.bool false]] u fun e w'=>e=Oe (.bool true)/\ac u.heap.size u w'):=aa (fun u hu=>by
  refine(oK ⟨F1,1,false⟩ ⟨exL.take 1,1,false⟩ q9 p1 e9 c1 u (HV9.out.below hu) (((HL.out.below HB.out).below hu).take (m:=1) rfl mDe) (by rw[HF1.out];decide)).mono ?_;rintro e w'⟨t,rfl,ht,hb⟩;obtain rfl:t=true:=ht.2 (by rw[HF1.out])
  exact⟨rfl,hb⟩)
 have hS0:Ji w12 b7 b8 b9 b12 #[Oc q7 F1.length e7,N9 Oa 1,.bool false] #[Oc q8 F1.length e8,N9 Oa 0,.bool true] #[Oc q9 F1.length e9,N9 Oa 1,.bool false] #[Oc p1 1 c1,N9 Oa 1,.bool false] w12:=⟨Below.refl _ _,⟨av V7.is,av V8.is,av V9.is,av V12.is⟩,ae V7.is,ae V8.is,ae V9.is,ae V12.is⟩
 have hS1:=je hS0 (Below.refl _ w12).drew;clear hS0 hsl;go_wp2_with fail;refine aD (S:=fun u=>ac w12.heap.size w12 u/\(b7<u.heap.size/\b8<u.heap.size/\b9<u.heap.size/\b12<u.heap.size)/\(∀j,u.cell? ⟨b7,j,Oh⟩=(#[Oc q7 F1.length e7,N9 Oa 1,.bool false]:Array Value)[j]?)/\(∀j,u.cell? ⟨b8,j,Oh⟩=(#[Oc q8 F1.length e8,N9 Oa 0,.bool true]:Array Value)[j]?)/\(∀j,u.cell? ⟨b9,j,Oh⟩=(#[Oc q9 F1.length e9,N9 Oa 1,.bool false]:Array Value)[j]?)/\(∀j,u.cell? ⟨b12,j,Oh⟩=(#[Oc p1 1 c1,N9 Oa 1,.bool false]:Array Value)[j]?)) [(0,true),(1,true),(2,true),(3,true),(4,true),(5,true),(6,true),(7,true),(8,true),(9,true),(10,true),(11,true),(12,true),(13,false),(14,true),(15,true),(16,true),(17,true),(18,true),(19,true),(20,false),(21,true),(22,true),(23,true),(24,true),(25,false),(26,true),(27,true),(28,true),(29,true),(30,true),(31,true),(32,true),(33,true),(34,true),(35,true)] hS1 ?_;have hS:=hS1
 iterate 13 refine ak ?_
 (first|(refine aJ 17 call17 (KA.out _ hS.1) ?_;rintro x wn⟨rfl,hb⟩;replace hS:=je hS hb;refine⟨_,rfl,hS,?_⟩;(try clear hb))|(refine aJ 17 call17 (KB.out _ hS.1) ?_;rintro x wn⟨rfl,hb⟩;replace hS:=je hS hb;refine⟨_,rfl,hS,?_⟩;(try clear hb))|(refine aJ 17 call17 (KC.out _ hS.1) ?_;rintro x wn⟨rfl,hb⟩;replace hS:=je hS hb;refine⟨_,rfl,hS,?_⟩;(try clear hb)))
 refine ay ?_
 iterate 4 refine ak ?_
 refine oV ⟨_,_,_,_,_,_⟩ rfl mRf 34 67 (.tmp 117) (.const (N9 Oa 1)) mRf underlying34 sizeOf67 p1 2 c1 1 mRf mRf mDe hcap HPN.out ?_;refine ay ?_;refine ak ?_
 (first|(refine aJ 17 call17 (KA.out _ hS.1) ?_;rintro x wn⟨rfl,hb⟩;replace hS:=je hS hb;refine⟨_,rfl,hS,?_⟩;(try clear hb))|(refine aJ 17 call17 (KB.out _ hS.1) ?_;rintro x wn⟨rfl,hb⟩;replace hS:=je hS hb;refine⟨_,rfl,hS,?_⟩;(try clear hb))|(refine aJ 17 call17 (KC.out _ hS.1) ?_;rintro x wn⟨rfl,hb⟩;replace hS:=je hS hb;refine⟨_,rfl,hS,?_⟩;(try clear hb)))
 refine ay ?_
 iterate 4 refine ak ?_
 (first|(refine aJ 17 call17 (KA.out _ hS.1) ?_;rintro x wn⟨rfl,hb⟩;replace hS:=je hS hb;refine⟨_,rfl,hS,?_⟩;(try clear hb))|(refine aJ 17 call17 (KB.out _ hS.1) ?_;rintro x wn⟨rfl,hb⟩;replace hS:=je hS hb;refine⟨_,rfl,hS,?_⟩;(try clear hb))|(refine aJ 17 call17 (KC.out _ hS.1) ?_;rintro x wn⟨rfl,hb⟩;replace hS:=je hS hb;refine⟨_,rfl,hS,?_⟩;(try clear hb)))
 refine ay ?_
 iterate 10 refine ak ?_
 simp only[aQ,aZ];obtain⟨w13,rfl⟩:∃u,u=wn:=⟨_,rfl⟩;have hbp:=hS.1;refine iI ?_;intro X1 X2 X3 V7 V8;refine nG ?_;intro V9 V10 V11 V12;refine iH ?_;intro HX1 HX2 HX3 HV7 HV8;have HV9:=aa (HV9.out.below hbp);have HV10:=aa (HV10.out.below hbp);have HV11:=aa (HV11.out.below hbp);have HB:=aa (ah HB.out hbp);clear hS hS1 hbp KA KB KC
 go_upto_region 14 with fail
 refine Na x3b n3 d3 m3 f3 c2 pl3 pp3 p2 1 5 0 100000 0 1 5 0 0 L2 (exG 0).keys w13 _ (ae X3.is) (av X3.is) (fun u=>iY 0 u) (fun u g hu hK hg=>by rw[HL2.out];exact DM pl3 pp3 p2 n3 d3 m3 f3 c2 g u (HX3.out.below hu) (HR.out.below (ah HB.out hu)) hK hg (bC HR0.out (ah HB0.out (ah HB.out hu)))) ?_
 intros
 rename_i w14 b14 q14 e14 hrow hlo hbx hbp
 refine iI ?_;intro X1 X2 X3 V7 V8
 refine nG ?_;intro V9 V10 V11 V12;refine iH ?_;intro HX1 HX2 HX3 HV7 HV8;have HV9:=aa (HV9.out.below hbp);have HV10:=aa (HV10.out.below hbp);have HV11:=aa (HV11.out.below hbp);have HB:=aa (ah HB.out hbp);have V14:=aO.mk hbx;have HV14:=aa hrow;clear hrow hlo hbx hbp
 go_upto_region 15 with fail
 refine Nb x1b n1 d1 m1 f1 c2 pl1 pp1 p2 1 5 0 100 0 0 0 0 42 [] (exG 0).keys w14 _ (ae X1.is) (av X1.is) (fun u=>iY 0 u) (fun u g hu hK hg=>DL pl1 pp1 p2 n1 d1 m1 f1 c2 g u (HX1.out.below hu) (HR.out.below (ah HB.out hu)) hK hg (bC HR0.out (ah HB0.out (ah HB.out hu)))) ?_
 intros
 rename_i w15 b15 q15 e15 hrow hlo hbx hbp
 refine iI ?_;intro X1 X2 X3 V7 V8
 refine nG ?_;intro V9 V10 V11 V12;have V14:=aO.mk (hbp.heap_of V14.is);refine iH ?_;intro HX1 HX2 HX3 HV7 HV8;have HV9:=aa (HV9.out.below hbp);have HV10:=aa (HV10.out.below hbp);have HV11:=aa (HV11.out.below hbp);have HV14:=aa (HV14.out.below hbp);have HB:=aa (ah HB.out hbp);have V15:=aO.mk hbx;have HV15:=aa hrow;clear hrow hlo hbx hbp;have kn:=IE 1 5 0 q14 e14 L2 w15 HV14.out (by rw[HL2.out];decide) mDe mDe mDe;have y0:w15.cell? ⟨b14,0,Oh⟩=Og (N9 Oa 1):=ae V14.is 0;have y1:w15.cell? ⟨b14,1,Oh⟩=Og (N9 Oa 5):=ae V14.is 1;have y2:w15.cell? ⟨b14,2,Oh⟩=Og (N9 Oa 0):=ae V14.is 2;have y3:w15.cell? ⟨b14,3,Oh⟩=Og (Oc q14 L2.length e14):=ae V14.is 3;go_wp2_with fail;refine kn.mono ?_;clear kn y0 y1 y2 y3;rintro _ w16⟨r1,r2,k1,k2,rfl,hBI,hb16⟩;have X1:=aO.mk (hb16.heap_of X1.is);have X2:=aO.mk (hb16.heap_of X2.is);have X3:=aO.mk (hb16.heap_of X3.is);have V7:=aO.mk (hb16.heap_of V7.is);have V8:=aO.mk (hb16.heap_of V8.is);have V9:=aO.mk (hb16.heap_of V9.is);have V10:=aO.mk (hb16.heap_of V10.is);have V11:=aO.mk (hb16.heap_of V11.is);have V12:=aO.mk (hb16.heap_of V12.is);have V14:=aO.mk (hb16.heap_of V14.is);have V15:=aO.mk (hb16.heap_of V15.is);have HX1:=aa (HX1.out.below hb16);have HX2:=aa (HX2.out.below hb16);have HX3:=aa (HX3.out.below hb16);have HV7:=aa (HV7.out.below hb16);have HV8:=aa (HV8.out.below hb16);have HV9:=aa (HV9.out.below hb16);have HV10:=aa (HV10.out.below hb16);have HV11:=aa (HV11.out.below hb16);have HV14:=aa (HV14.out.below hb16);have HV15:=aa (HV15.out.below hb16);have HB:=aa (ah HB.out hb16);have hba:=aj w16 (Of #[N9 Oa 1,N9 Oa 5,N9 Oa 0,Oc p1 2 c1] 56);have hlit:ar aS (w16.alloc (Of #[N9 Oa 1,N9 Oa 5,N9 Oa 0,Oc p1 2 c1] 56)) (Oc (Og ⟨w16.heap.size,0,Oh⟩) 1 1) [(⟨⟨1,5,0,exL⟩,p1,c1⟩:BrtV)]:=cN (heap_alloc_new w16 _) _ rfl rfl;have hbi2:BrtIn (w16.alloc (Of #[N9 Oa 1,N9 Oa 5,N9 Oa 0,Oc p1 2 c1] 56)) (Oc (Og ⟨w16.heap.size,0,Oh⟩) 1 1) [(⟨⟨1,5,0,exL⟩,p1,c1⟩:BrtV)]:=⟨hlit,fun x hx=>by rw[bE.1 hx];exact HL.out.below (ah HB.out hba),fun x hx=>by rw[bE.1 hx];show exL.length<=100000;decide⟩;have ks:=oJ [(⟨⟨1,5,0,L2⟩,r2,k2⟩:BrtV)] [(⟨⟨1,5,0,exL⟩,p1,c1⟩:BrtV)] r1 (Og ⟨w16.heap.size,0,Oh⟩) k1 1 _ (hBI.below hba) hbi2 (by show(1:Nat)<=1000000;decide);have HBA:=aa hba;clear hBI hb16 hlit hbi2 hba;go_wp2_with fail;refine ks.mono ?_;clear ks;rintro _ w17⟨t,rfl,ht,hb17⟩;obtain rfl:t=true:=ht.2 (by rw[HL2.out];rfl);have hb17:=ah HBA.out hb17;have X1:=aO.mk (hb17.heap_of X1.is);have X2:=aO.mk (hb17.heap_of X2.is);have X3:=aO.mk (hb17.heap_of X3.is);have V7:=aO.mk (hb17.heap_of V7.is);have V8:=aO.mk (hb17.heap_of V8.is);have V9:=aO.mk (hb17.heap_of V9.is);have V10:=aO.mk (hb17.heap_of V10.is);have V11:=aO.mk (hb17.heap_of V11.is);have V12:=aO.mk (hb17.heap_of V12.is);have V14:=aO.mk (hb17.heap_of V14.is);have V15:=aO.mk (hb17.heap_of V15.is);have HX1:=aa (HX1.out.below hb17);have HX2:=aa (HX2.out.below hb17);have HX3:=aa (HX3.out.below hb17);have HV7:=aa (HV7.out.below hb17);have HV8:=aa (HV8.out.below hb17);have HV9:=aa (HV9.out.below hb17);have HV10:=aa (HV10.out.below hb17);have HV11:=aa (HV11.out.below hb17);have HV14:=aa (HV14.out.below hb17);have HV15:=aa (HV15.out.below hb17);have HB:=aa (ah HB.out hb17);have kb:Calls prog 19 #[.agg #[Oc q8 F1.length e8,N9 Oa 0,.bool true]] w17 fun e w'=>e=Oe (.bool true)/\ac w17.heap.size w17 w':=uH ⟨F1,0,true⟩ q8 e8 w17
 have y0:w17.cell? ⟨b8,0,Oh⟩=Og (Oc q8 F1.length e8):=ae V8.is 0;have y1:w17.cell? ⟨b8,1,Oh⟩=Og (N9 Oa 0):=ae V8.is 1;have y2:w17.cell? ⟨b8,2,Oh⟩=Og (.bool true):=ae V8.is 2;clear ht hb17 HBA;go_wp2_with fail;refine kb.mono ?_;clear kb y0 y1 y2;rintro _ w18⟨rfl,hb18⟩;have X1:=aO.mk (hb18.heap_of X1.is);have X2:=aO.mk (hb18.heap_of X2.is);have X3:=aO.mk (hb18.heap_of X3.is);have V7:=aO.mk (hb18.heap_of V7.is);have V8:=aO.mk (hb18.heap_of V8.is);have V9:=aO.mk (hb18.heap_of V9.is);have V10:=aO.mk (hb18.heap_of V10.is);have V11:=aO.mk (hb18.heap_of V11.is);have V12:=aO.mk (hb18.heap_of V12.is);have V14:=aO.mk (hb18.heap_of V14.is);have V15:=aO.mk (hb18.heap_of V15.is);have HX1:=aa (HX1.out.below hb18);have HX2:=aa (HX2.out.below hb18);have HX3:=aa (HX3.out.below hb18);have HV7:=aa (HV7.out.below hb18);have HV8:=aa (HV8.out.below hb18);have HV9:=aa (HV9.out.below hb18);have HV10:=aa (HV10.out.below hb18);have HV11:=aa (HV11.out.below hb18);have HV14:=aa (HV14.out.below hb18);have HV15:=aa (HV15.out.below hb18);have HB:=aa (ah HB.out hb18);have kb:Calls prog 19 #[.agg #[Oc q7 F1.length e7,N9 Oa 1,.bool false]] w18 fun e w'=>e=Oe (.bool false)/\ac w18.heap.size w18 w':=uH ⟨F1,1,false⟩ q7 e7 w18
 have y0:w18.cell? ⟨b7,0,Oh⟩=Og (Oc q7 F1.length e7):=ae V7.is 0;have y1:w18.cell? ⟨b7,1,Oh⟩=Og (N9 Oa 1):=ae V7.is 1;have y2:w18.cell? ⟨b7,2,Oh⟩=Og (.bool false):=ae V7.is 2;clear hb18;go_wp2_with fail;refine kb.mono ?_;clear kb y0 y1 y2;rintro _ w19⟨rfl,hb19⟩;have HB19:=aa (ah HB0.out (ah HB.out hb19));clear hb19;go_wp2_with fail;go_ret;exact⟨rfl,HB19.out⟩
