/- Lemmas. -/
import Derived.Test.YtnlhbdmeodbblaaGreatDoorMibb
set_option maxRecDepth 100000
set_option maxHeartbeats 16000000
set_option linter.all false
open Go.Proofs.Tryz
open Go.Lib renaming cell_of_heap→ae,hid→aa
open List renaming mem_singleton→bJ,toArray→aq
open Nat renaming le_refl→aD,lt_of_lt_of_le→av
open Go.RowKit renaming Below→ac
open Go.Ending renaming returned→JT
open Go.IntKind renaming i64→JP
open Go.Obj renaming cells→JU
open Go.Value renaming int→JO,slice→JR,pointer→JS
open Option renaming some→JV,none→JW
namespace Go.Proofs.YtnlhbdmeodbblaaGreatDoor
open Go Go.RowKit Go.Sort Go.Lib
section
variable {s0 s1 s2 s3 s4 s5 s6 s7 s8 s9 fO g0 g1 g2 g3 g4 g5 g6 g7 ds dv g8 g9 ga gc dx dy e0 e1 e2 e3 e4 e5 e6 e7 e8 e9 ea eb ed eg ei ej em eo es ew ex eA eB eD f0 f1 f2 f3 f4 f5 fb fe fi fn fr gd gf gk gn go gr gs gv gx gy gA gB gD gW h1 h2 h3 h4 h5 h6 h7 h8 h9 ha hc hd he hf hg hh hi hj hk hl hm fv fx fz a0 a1 a2 a3 a4 a5 a6 a7 a8 a9 ab ad af ag ao b3 b4 b5 b6 b7 b8 b9 ba bb bc bd bf bg bh bk bm bo bq bs bt cO cS cW cX d0 d1 d2 d3 d4 d9 dd dg dk dm bv c0 c1 c2 c3 c4 c5 c6 c7 c8 c9 ca cc cd ce cf cg ch ci cj ck cn co cs ct cv cx cy cA cB cC cD cE cG:Value}
theorem Rp {p q:Prop} (h:q) (f:Wq q→p:=by
 intro hq;have hS:ac W.heap.size W W.drew∧(∀ j,W.drew.cell? ⟨xb,j,JW⟩=(#[JO JP xs,JO JP xt,JO JP xf,JO JP xl,JO JP xr,JR pl nL cl,JR pp np cp]:Array Value)[j]?):=KS _ (Below.refl _ _).drew;refine JB (S:=fun u=>ac W.heap.size W u∧(∀ j,u.cell? ⟨xb,j,JW⟩=(#[JO JP xs,JO JP xt,JO JP xf,JO JP xl,JO JP xr,JR pl nL cl,JR pp np cp]:Array Value)[j]?)) (.take 0 (.take 1 (.two 2 7 (.two 3 7 (.take 4 (.take 5 (.take 6 (.one 7 (.one 8 (.take 9 .done)))))) (.one 3 (.take 4 (.take 5 (.take 6 (.one 8 (.take 9 .done))))))) (.one 2 (.one 3 (.take 4 (.take 5 (.take 6 (.one 8 (.take 9 .done)))))))))) hS ?_
 iterate 2 refine aJ ?_
 revert hS
 exact hq.1):p:=f ⟨h⟩
theorem J2 {p q:Prop} (h:q) (f:Wq q→p:=by
 intro hq;replace hS:=KS _ (ah hS.1 hb);replace hx_bx:=hb.heap_of hx_bx;refine ⟨_,rfl,hS,?_⟩
 revert hS hx_bx
 exact hq.1):p:=f ⟨h⟩
theorem QU {p q:Prop} (h:q) (f:Wq q→p:=by
 intro hq;have KRG:=aa krg;have KCK:=aa kck;have KS:∀ u,ac W.heap.size W u→ac W.heap.size W u∧(∀ j,u.cell? ⟨xb,j,JW⟩=(#[JO JP xs,JO JP xt,JO JP xf,JO JP xl,JO JP xr,JR pl nL cl,JR pp np cp]:Array Value)[j]?):=fun u hu=>⟨hu,fun j=>(hu.cell (p:=⟨xb,j,JW⟩) hxb).trans (h0 j)⟩
 revert KRG KCK KS
 exact hq.1):p:=f ⟨h⟩
theorem QJ {p:Prop} (h:p:=by
 refine mOn ?_;generalize Q .normal=K at hQ ⊢;have HQ:=aa hQ;clear hQ
 conv=>arg 2;whnf
 refine QU ?_;intro KRG KCK KS
 clear krg kck h0 hxb;refine Rp ?_;intro hS;refine dn ?_ ?_
 ·refine bn ⟨_,_,_,_,_,_⟩ rfl mRf 30 _ _ mRf _ mRf call30 (KRG.out _) ?_;rintro x x1 ⟨g,rfl,hK,hg1,hg2,hb⟩;replace hS:=KS _ (ah hS.1 hb);refine ⟨_,rfl,hS,?_⟩
  (try clear hb)
  refine ar ?_;refine dn ?_ ?_
  ·refine bn ⟨_,_,_,_,_,_⟩ rfl mRf 13 _ _ mRf _ mRf call13 (KCK.out _ _ hS.1 hK hg2) ?_;rintro x x2 ⟨p,c,rfl,hRW,hb⟩;replace hS:=KS _ (ah hS.1 hb);refine ⟨_,rfl,hS,?_⟩
   (try clear hb)
   refine ar ?_
   iterate 3 refine aJ ?_
   have hlo_bx:W.heap.size≤x2.heap.size:=hS.1.size;refine aZ (bR ⟨_,_,_,_,_,_⟩ (JS (JV ⟨x2.heap.size,0,JW⟩)) (x2.alloc (JU #[JR JW 0 0,JO JP 0,.bool false] 51)) rfl mRf (by go_simp;try rfl) ⟨KS _ (ah hS.1 (al _ _)),?_⟩);have hb:=al (x2) (JU #[JR JW 0 0,JO JP 0,.bool false] 51);replace hS:=KS _ (ah hS.1 hb);have hx_bx:=heap_alloc_new (x2) (JU #[JR JW 0 0,JO JP 0,.bool false] 51)
   (try replace hK:=hK.below hb hg2)
   (try replace hg2:=av hg2 hb.size)
   (try replace hRW:=hRW.below hb)
   (try clear hb)
   refine ar ?_;have hset:=KS _ (aQ hS.1 hlo_bx #[JR p EL.length c,JO JP hn,.bool cb]);refine aZ (bH ⟨_,_,_,_,_,_⟩ rfl mRf 51 _ _ mRf (x2.heap.size) #[JR p EL.length c,JO JP hn,.bool cb] mRf mRf _ _ hx_bx mKr rfl (by simp [Value.oneCell']) ⟨hset,?_⟩);replace hS:=hset;clear hset;replace hRW:=kZ dH hRW hx_bx mDe #[JR p EL.length c,JO JP hn,.bool cb];replace hx_bx:=setRow_heap (x2.alloc (JU #[JR JW 0 0,JO JP 0,.bool false] 51)) (x2.heap.size) _ #[JR p EL.length c,JO JP hn,.bool cb] _ _ hx_bx
   (try simp only [Act.put])
   refine aJ ?_;simp only [dp,bj];exact HQ.out _ _ _ _ _ _ _ _ _ _ _ hRW hlo_bx hx_bx hS.1
  ·have hlo_bx:W.heap.size≤x1.heap.size:=hS.1.size;refine bR ⟨_,_,_,_,_,_⟩ (JS (JV ⟨x1.heap.size,0,JW⟩)) (x1.alloc (JU #[JR JW 0 0,JO JP 0,.bool false] 51)) rfl mRf (by go_simp;try rfl) ⟨KS _ (ah hS.1 (al _ _)),?_⟩;have hb:=al (x1) (JU #[JR JW 0 0,JO JP 0,.bool false] 51);replace hS:=KS _ (ah hS.1 hb);have hx_bx:=heap_alloc_new (x1) (JU #[JR JW 0 0,JO JP 0,.bool false] 51)
   (try replace hK:=hK.below hb hg2)
   (try replace hg2:=av hg2 hb.size)
   (try replace hRW:=hRW.below hb)
   (try clear hb)
   refine ar ?_;refine aZ (bn ⟨_,_,_,_,_,_⟩ rfl mRf 13 _ _ mRf _ mRf call13 (KCK.out _ _ hS.1 hK hg2) ?_);rintro x x3 ⟨p,c,rfl,hRW,hb⟩;refine J2 ?_;intro hS hx_bx
   (try clear hb)
   refine ar ?_
   iterate 3 refine aJ ?_
   have hset:=KS _ (aQ hS.1 hlo_bx #[JR p EL.length c,JO JP hn,.bool cb]);refine aZ (bH ⟨_,_,_,_,_,_⟩ rfl mRf 51 _ _ mRf (x1.heap.size) #[JR p EL.length c,JO JP hn,.bool cb] mRf mRf _ _ hx_bx mKr rfl (by simp [Value.oneCell']) ⟨hset,?_⟩);replace hS:=hset;clear hset;replace hRW:=kZ dH hRW hx_bx mDe #[JR p EL.length c,JO JP hn,.bool cb];replace hx_bx:=setRow_heap x3 (x1.heap.size) _ #[JR p EL.length c,JO JP hn,.bool cb] _ _ hx_bx
   (try simp only [Act.put])
   refine aJ ?_;simp only [dp,bj];exact HQ.out _ _ _ _ _ _ _ _ _ _ _ hRW hlo_bx hx_bx hS.1
 ·have hlo_bx:W.heap.size≤W.heap.size:=aD _;refine bR ⟨_,_,_,_,_,_⟩ (JS (JV ⟨W.heap.size,0,JW⟩)) (W.drew.alloc (JU #[JR JW 0 0,JO JP 0,.bool false] 51)) rfl mRf (by go_simp;try rfl) ⟨KS _ (ah hS.1 (al _ _)),?_⟩;have hb:=al (W.drew) (JU #[JR JW 0 0,JO JP 0,.bool false] 51);replace hS:=KS _ (ah hS.1 hb);have hx_bx:=heap_alloc_new (W.drew) (JU #[JR JW 0 0,JO JP 0,.bool false] 51);replace hx_bx:(W.drew.alloc (JU #[JR JW 0 0,JO JP 0,.bool false] 51)).heap[W.heap.size]? = JV _:=hx_bx
  (try replace hK:=hK.below hb hg2)
  (try replace hg2:=av hg2 hb.size)
  (try replace hRW:=hRW.below hb)
  (try clear hb)
  refine ar ?_;refine aZ (bn ⟨_,_,_,_,_,_⟩ rfl mRf 30 _ _ mRf _ mRf call30 (KRG.out _) ?_);rintro x x4 ⟨g,rfl,hK,hg1,hg2,hb⟩;refine J2 ?_;intro hS hx_bx
  (try clear hb)
  refine ar ?_;refine aZ (bn ⟨_,_,_,_,_,_⟩ rfl mRf 13 _ _ mRf _ mRf call13 (KCK.out _ _ hS.1 hK hg2) ?_);rintro x x5 ⟨p,c,rfl,hRW,hb⟩;refine J2 ?_;intro hS hx_bx
  (try clear hb)
  refine ar ?_
  iterate 3 refine aJ ?_
  have hset:=KS _ (aQ hS.1 hlo_bx #[JR p EL.length c,JO JP hn,.bool cb]);refine aZ (bH ⟨_,_,_,_,_,_⟩ rfl mRf 51 _ _ mRf (W.heap.size) #[JR p EL.length c,JO JP hn,.bool cb] mRf mRf _ _ hx_bx mKr rfl (by simp [Value.oneCell']) ⟨hset,?_⟩);replace hS:=hset;clear hset;replace hRW:=kZ dH hRW hx_bx mDe #[JR p EL.length c,JO JP hn,.bool cb];replace hx_bx:=setRow_heap x5 (W.heap.size) _ #[JR p EL.length c,JO JP hn,.bool cb] _ _ hx_bx
  (try simp only [Act.put])
  refine aJ ?_;simp only [dp,bj]
  exact HQ.out _ _ _ _ _ _ _ _ _ _ _ hRW hlo_bx hx_bx hS.1):p:=h
theorem Jf (xb nL cl np cp cr:Nat) (pl pp pr:Option Addr) (xs xt xf xl xr:Int) (hn er:Int) (cb:Bool) (EL:List Ent) (KL:List LU) (W:World) (Q:Exit→Act→World→Prop) (h0:∀ j,W.cell? ⟨xb,j,JW⟩=(#[JO JP xs,JO JP xt,JO JP xf,JO JP xl,JO JP xr,JR pl nL cl,JR pp np cp]:Array Value)[j]?) (hxb:xb < W.heap.size) (krg:∀ u,Calls prog 30 #[JO JP 0] u fun e w'=>∃ g,e=JT (.agg #[JO JP 1,JR (JV ⟨g,0,JW⟩) 1 1])∧LV w' g KL∧u.heap.size≤g∧g < w'.heap.size∧ac u.heap.size u w') (kck:∀ u g,ac W.heap.size W u→LV u g KL→g < u.heap.size→Calls prog 13 #[.agg #[JO JP xs,JO JP xt,JO JP xf,JO JP xl,JO JP xr,JR pl nL cl,JR pp np cp],JR pr 1 cr,.agg #[JO JP 1,JR (JV ⟨g,0,JW⟩) 1 1],JO JP 60] u fun e w'=>∃ (p:Option Addr) (c:Nat),e=JT (.tuple #[.agg #[JR p EL.length c,JO JP hn,.bool cb],JO JP er])∧LK bK w' (JR p EL.length c) EL∧ac u.heap.size u w')
  (hQ:∀ (hE hF hG hH hI hJ hL:Value) (wx:World) (bx:Nat) (p:Option Addr) (c:Nat),LK bK wx (JR p EL.length c) EL→W.heap.size≤bx→wx.heap[bx]? = JV (JU #[JR p EL.length c,JO JP hn,.bool cb] 51 (0,0))→ac W.heap.size W wx→Q .normal ⟨aq (s0::s1::JR pr 1 cr::JS (JV ⟨xb,0,JW⟩)::s4::s5::s6::s7::s8::JS (JV ⟨bx,0,JW⟩)::JO JP er::g0::g1::g2::g3::g4::g5::g6::g7::ds::dv::g8::g9::ga::gc::dx::dy::e0::e1::e2::e3::e4::e5::e6::e7::e8::e9::ea::eb::ed::eg::ei::ej::em::eo::es::ew::ex::eA::eB::eD::f0::f1::f2::f3::f4::f5::fb::fe::fi::fn::fr::hE::hF::hG::hH::hI::hJ::hL::gv::gx::gy::gA::gB::gD::gW::h1::h2::h3::h4::h5::h6::h7::h8::h9::ha::hc::hd::he::hf::hg::hh::hi::hj::hk::hl::hm::fv::fx::fz::a0::a1::a2::a3::a4::a5::a6::a7::a8::a9::ab::ad::af::ag::ao::b3::b4::b5::b6::b7::[b8,b9,ba,bb,bc,bd,bf,bg,bh,bk,bm,bo,bq,bs,bt,cO,cS,cW,cX,d0,d1,d2,d3,d4,d9,dd,dg,dk,dm,bv,c0,c1,c2,c3,c4,c5,c6,c7,c8,c9,ca,cc,cd,ce,cf,cg,ch,ci,cj,ck,cn,co,cs,ct,cv,cx,cy,cA,cB,cC,cD,cE,cG]),[]⟩ wx) :
  (bW f7 7).wp prog Q ⟨aq (s0::s1::JR pr 1 cr::JS (JV ⟨xb,0,JW⟩)::s4::s5::s6::s7::s8::s9::fO::g0::g1::g2::g3::g4::g5::g6::g7::ds::dv::g8::g9::ga::gc::dx::dy::e0::e1::e2::e3::e4::e5::e6::e7::e8::e9::ea::eb::ed::eg::ei::ej::em::eo::es::ew::ex::eA::eB::eD::f0::f1::f2::f3::f4::f5::fb::fe::fi::fn::fr::gd::gf::gk::gn::go::gr::gs::gv::gx::gy::gA::gB::gD::gW::h1::h2::h3::h4::h5::h6::h7::h8::h9::ha::hc::hd::he::hf::hg::hh::hi::hj::hk::hl::hm::fv::fx::fz::a0::a1::a2::a3::a4::a5::a6::a7::a8::a9::ab::ad::af::ag::ao::b3::b4::b5::b6::b7::[b8,b9,ba,bb,bc,bd,bf,bg,bh,bk,bm,bo,bq,bs,bt,cO,cS,cW,cX,d0,d1,d2,d3,d4,d9,dd,dg,dk,dm,bv,c0,c1,c2,c3,c4,c5,c6,c7,c8,c9,ca,cc,cd,ce,cf,cg,ch,ci,cj,ck,cn,co,cs,ct,cv,cx,cy,cA,cB,cC,cD,cE,cG]),[]⟩ W:=by
 exact QJ
theorem Jg (xb nL cl np cp cr:Nat) (pl pp pr:Option Addr) (xs xt xf xl xr:Int) (hn er:Int) (cb:Bool) (EL:List Ent) (KL:List LU) (W:World) (Q:Exit→Act→World→Prop) (h0:∀ j,W.cell? ⟨xb,j,JW⟩=(#[JO JP xs,JO JP xt,JO JP xf,JO JP xl,JO JP xr,JR pl nL cl,JR pp np cp]:Array Value)[j]?) (hxb:xb < W.heap.size) (krg:∀ u,Calls prog 30 #[JO JP 0] u fun e w'=>∃ g,e=JT (.agg #[JO JP 1,JR (JV ⟨g,0,JW⟩) 1 1])∧LV w' g KL∧u.heap.size≤g∧g < w'.heap.size∧ac u.heap.size u w') (kck:∀ u g,ac W.heap.size W u→LV u g KL→g < u.heap.size→Calls prog 13 #[.agg #[JO JP xs,JO JP xt,JO JP xf,JO JP xl,JO JP xr,JR pl nL cl,JR pp np cp],JR pr 1 cr,.agg #[JO JP 1,JR (JV ⟨g,0,JW⟩) 1 1],JO JP 60] u fun e w'=>∃ (p:Option Addr) (c:Nat),e=JT (.tuple #[.agg #[JR p EL.length c,JO JP hn,.bool cb],JO JP er])∧LK bK w' (JR p EL.length c) EL∧ac u.heap.size u w')
  (hQ:∀ (hM hN hO hP hR hT hU:Value) (wx:World) (bx:Nat) (p:Option Addr) (c:Nat),LK bK wx (JR p EL.length c) EL→W.heap.size≤bx→wx.heap[bx]? = JV (JU #[JR p EL.length c,JO JP hn,.bool cb] 51 (0,0))→ac W.heap.size W wx→Q .normal ⟨aq (s0::s1::JR pr 1 cr::s3::s4::JS (JV ⟨xb,0,JW⟩)::s6::s7::s8::s9::fO::JS (JV ⟨bx,0,JW⟩)::JO JP er::g2::g3::g4::g5::g6::g7::ds::dv::g8::g9::ga::gc::dx::dy::e0::e1::e2::e3::e4::e5::e6::e7::e8::e9::ea::eb::ed::eg::ei::ej::em::eo::es::ew::ex::eA::eB::eD::f0::f1::f2::f3::f4::f5::fb::fe::fi::fn::fr::gd::gf::gk::gn::go::gr::gs::hM::hN::hO::hP::hR::hT::hU::h1::h2::h3::h4::h5::h6::h7::h8::h9::ha::hc::hd::he::hf::hg::hh::hi::hj::hk::hl::hm::fv::fx::fz::a0::a1::a2::a3::a4::a5::a6::a7::a8::a9::ab::ad::af::ag::ao::b3::b4::b5::b6::b7::[b8,b9,ba,bb,bc,bd,bf,bg,bh,bk,bm,bo,bq,bs,bt,cO,cS,cW,cX,d0,d1,d2,d3,d4,d9,dd,dg,dk,dm,bv,c0,c1,c2,c3,c4,c5,c6,c7,c8,c9,ca,cc,cd,ce,cf,cg,ch,ci,cj,ck,cn,co,cs,ct,cv,cx,cy,cA,cB,cC,cD,cE,cG]),[]⟩ wx) :
  (bW f7 8).wp prog Q ⟨aq (s0::s1::JR pr 1 cr::s3::s4::JS (JV ⟨xb,0,JW⟩)::s6::s7::s8::s9::fO::g0::g1::g2::g3::g4::g5::g6::g7::ds::dv::g8::g9::ga::gc::dx::dy::e0::e1::e2::e3::e4::e5::e6::e7::e8::e9::ea::eb::ed::eg::ei::ej::em::eo::es::ew::ex::eA::eB::eD::f0::f1::f2::f3::f4::f5::fb::fe::fi::fn::fr::gd::gf::gk::gn::go::gr::gs::gv::gx::gy::gA::gB::gD::gW::h1::h2::h3::h4::h5::h6::h7::h8::h9::ha::hc::hd::he::hf::hg::hh::hi::hj::hk::hl::hm::fv::fx::fz::a0::a1::a2::a3::a4::a5::a6::a7::a8::a9::ab::ad::af::ag::ao::b3::b4::b5::b6::b7::[b8,b9,ba,bb,bc,bd,bf,bg,bh,bk,bm,bo,bq,bs,bt,cO,cS,cW,cX,d0,d1,d2,d3,d4,d9,dd,dg,dk,dm,bv,c0,c1,c2,c3,c4,c5,c6,c7,c8,c9,ca,cc,cd,ce,cf,cg,ch,ci,cj,ck,cn,co,cs,ct,cv,cx,cy,cA,cB,cC,cD,cE,cG]),[]⟩ W:=by
 exact QJ
theorem Jh (xb nL cl np cp cr:Nat) (pl pp pr:Option Addr) (xs xt xf xl xr:Int) (hn er:Int) (cb:Bool) (EL:List Ent) (KL:List LU) (W:World) (Q:Exit→Act→World→Prop) (h0:∀ j,W.cell? ⟨xb,j,JW⟩=(#[JO JP xs,JO JP xt,JO JP xf,JO JP xl,JO JP xr,JR pl nL cl,JR pp np cp]:Array Value)[j]?) (hxb:xb < W.heap.size) (krg:∀ u,Calls prog 30 #[JO JP 51] u fun e w'=>∃ g,e=JT (.agg #[JO JP 1,JR (JV ⟨g,0,JW⟩) 1 1])∧LV w' g KL∧u.heap.size≤g∧g < w'.heap.size∧ac u.heap.size u w') (kck:∀ u g,ac W.heap.size W u→LV u g KL→g < u.heap.size→Calls prog 13 #[.agg #[JO JP xs,JO JP xt,JO JP xf,JO JP xl,JO JP xr,JR pl nL cl,JR pp np cp],JR pr 1 cr,.agg #[JO JP 1,JR (JV ⟨g,0,JW⟩) 1 1],JO JP 60] u fun e w'=>∃ (p:Option Addr) (c:Nat),e=JT (.tuple #[.agg #[JR p EL.length c,JO JP hn,.bool cb],JO JP er])∧LK bK w' (JR p EL.length c) EL∧ac u.heap.size u w')
  (hQ:∀ (hV hW hX hY hZ i0 i1:Value) (wx:World) (bx:Nat) (p:Option Addr) (c:Nat),LK bK wx (JR p EL.length c) EL→W.heap.size≤bx→wx.heap[bx]? = JV (JU #[JR p EL.length c,JO JP hn,.bool cb] 51 (0,0))→ac W.heap.size W wx→Q .normal ⟨aq (s0::s1::JR pr 1 cr::JS (JV ⟨xb,0,JW⟩)::s4::s5::s6::s7::s8::s9::fO::g0::g1::JS (JV ⟨bx,0,JW⟩)::JO JP er::g4::g5::g6::g7::ds::dv::g8::g9::ga::gc::dx::dy::e0::e1::e2::e3::e4::e5::e6::e7::e8::e9::ea::eb::ed::eg::ei::ej::em::eo::es::ew::ex::eA::eB::eD::f0::f1::f2::f3::f4::f5::fb::fe::fi::fn::fr::gd::gf::gk::gn::go::gr::gs::gv::gx::gy::gA::gB::gD::gW::hV::hW::hX::hY::hZ::i0::i1::h8::h9::ha::hc::hd::he::hf::hg::hh::hi::hj::hk::hl::hm::fv::fx::fz::a0::a1::a2::a3::a4::a5::a6::a7::a8::a9::ab::ad::af::ag::ao::b3::b4::b5::b6::b7::[b8,b9,ba,bb,bc,bd,bf,bg,bh,bk,bm,bo,bq,bs,bt,cO,cS,cW,cX,d0,d1,d2,d3,d4,d9,dd,dg,dk,dm,bv,c0,c1,c2,c3,c4,c5,c6,c7,c8,c9,ca,cc,cd,ce,cf,cg,ch,ci,cj,ck,cn,co,cs,ct,cv,cx,cy,cA,cB,cC,cD,cE,cG]),[]⟩ wx) :
  (bW f7 9).wp prog Q ⟨aq (s0::s1::JR pr 1 cr::JS (JV ⟨xb,0,JW⟩)::s4::s5::s6::s7::s8::s9::fO::g0::g1::g2::g3::g4::g5::g6::g7::ds::dv::g8::g9::ga::gc::dx::dy::e0::e1::e2::e3::e4::e5::e6::e7::e8::e9::ea::eb::ed::eg::ei::ej::em::eo::es::ew::ex::eA::eB::eD::f0::f1::f2::f3::f4::f5::fb::fe::fi::fn::fr::gd::gf::gk::gn::go::gr::gs::gv::gx::gy::gA::gB::gD::gW::h1::h2::h3::h4::h5::h6::h7::h8::h9::ha::hc::hd::he::hf::hg::hh::hi::hj::hk::hl::hm::fv::fx::fz::a0::a1::a2::a3::a4::a5::a6::a7::a8::a9::ab::ad::af::ag::ao::b3::b4::b5::b6::b7::[b8,b9,ba,bb,bc,bd,bf,bg,bh,bk,bm,bo,bq,bs,bt,cO,cS,cW,cX,d0,d1,d2,d3,d4,d9,dd,dg,dk,dm,bv,c0,c1,c2,c3,c4,c5,c6,c7,c8,c9,ca,cc,cd,ce,cf,cg,ch,ci,cj,ck,cn,co,cs,ct,cv,cx,cy,cA,cB,cC,cD,cE,cG]),[]⟩ W:=by
 exact QJ
theorem II (xb nL cl np cp cr:Nat) (pl pp pr:Option Addr) (xs xt xf xl xr:Int) (hn er:Int) (cb:Bool) (EL:List Ent) (KL:List LU) (W:World) (Q:Exit→Act→World→Prop) (h0:∀ j,W.cell? ⟨xb,j,JW⟩=(#[JO JP xs,JO JP xt,JO JP xf,JO JP xl,JO JP xr,JR pl nL cl,JR pp np cp]:Array Value)[j]?) (hxb:xb < W.heap.size) (krg:∀ u,Calls prog 30 #[JO JP 0] u fun e w'=>∃ g,e=JT (.agg #[JO JP 1,JR (JV ⟨g,0,JW⟩) 1 1])∧LV w' g KL∧u.heap.size≤g∧g < w'.heap.size∧ac u.heap.size u w') (kck:∀ u g,ac W.heap.size W u→LV u g KL→g < u.heap.size→Calls prog 13 #[.agg #[JO JP xs,JO JP xt,JO JP xf,JO JP xl,JO JP xr,JR pl nL cl,JR pp np cp],JR pr 1 cr,.agg #[JO JP 1,JR (JV ⟨g,0,JW⟩) 1 1],JO JP 49] u fun e w'=>∃ (p:Option Addr) (c:Nat),e=JT (.tuple #[.agg #[JR p EL.length c,JO JP hn,.bool cb],JO JP er])∧LK bK w' (JR p EL.length c) EL∧ac u.heap.size u w')
  (hQ:∀ (i2 i3 i4 i5 i6 i7 i8:Value) (wx:World) (bx:Nat) (p:Option Addr) (c:Nat),LK bK wx (JR p EL.length c) EL→W.heap.size≤bx→wx.heap[bx]? = JV (JU #[JR p EL.length c,JO JP hn,.bool cb] 51 (0,0))→ac W.heap.size W wx→Q .normal ⟨aq (s0::s1::JR pr 1 cr::JS (JV ⟨xb,0,JW⟩)::s4::s5::s6::s7::s8::s9::fO::g0::g1::g2::g3::JS (JV ⟨bx,0,JW⟩)::JO JP er::g6::g7::ds::dv::g8::g9::ga::gc::dx::dy::e0::e1::e2::e3::e4::e5::e6::e7::e8::e9::ea::eb::ed::eg::ei::ej::em::eo::es::ew::ex::eA::eB::eD::f0::f1::f2::f3::f4::f5::fb::fe::fi::fn::fr::gd::gf::gk::gn::go::gr::gs::gv::gx::gy::gA::gB::gD::gW::h1::h2::h3::h4::h5::h6::h7::i2::i3::i4::i5::i6::i7::i8::hg::hh::hi::hj::hk::hl::hm::fv::fx::fz::a0::a1::a2::a3::a4::a5::a6::a7::a8::a9::ab::ad::af::ag::ao::b3::b4::b5::b6::b7::[b8,b9,ba,bb,bc,bd,bf,bg,bh,bk,bm,bo,bq,bs,bt,cO,cS,cW,cX,d0,d1,d2,d3,d4,d9,dd,dg,dk,dm,bv,c0,c1,c2,c3,c4,c5,c6,c7,c8,c9,ca,cc,cd,ce,cf,cg,ch,ci,cj,ck,cn,co,cs,ct,cv,cx,cy,cA,cB,cC,cD,cE,cG]),[]⟩ wx) :
  (bW f7 10).wp prog Q ⟨aq (s0::s1::JR pr 1 cr::JS (JV ⟨xb,0,JW⟩)::s4::s5::s6::s7::s8::s9::fO::g0::g1::g2::g3::g4::g5::g6::g7::ds::dv::g8::g9::ga::gc::dx::dy::e0::e1::e2::e3::e4::e5::e6::e7::e8::e9::ea::eb::ed::eg::ei::ej::em::eo::es::ew::ex::eA::eB::eD::f0::f1::f2::f3::f4::f5::fb::fe::fi::fn::fr::gd::gf::gk::gn::go::gr::gs::gv::gx::gy::gA::gB::gD::gW::h1::h2::h3::h4::h5::h6::h7::h8::h9::ha::hc::hd::he::hf::hg::hh::hi::hj::hk::hl::hm::fv::fx::fz::a0::a1::a2::a3::a4::a5::a6::a7::a8::a9::ab::ad::af::ag::ao::b3::b4::b5::b6::b7::[b8,b9,ba,bb,bc,bd,bf,bg,bh,bk,bm,bo,bq,bs,bt,cO,cS,cW,cX,d0,d1,d2,d3,d4,d9,dd,dg,dk,dm,bv,c0,c1,c2,c3,c4,c5,c6,c7,c8,c9,ca,cc,cd,ce,cf,cg,ch,ci,cj,ck,cn,co,cs,ct,cv,cx,cy,cA,cB,cC,cD,cE,cG]),[]⟩ W:=by
 exact QJ
theorem IJ (xb nL cl np cp cr:Nat) (pl pp pr:Option Addr) (xs xt xf xl xr:Int) (hn er:Int) (cb:Bool) (EL:List Ent) (KL:List LU) (W:World) (Q:Exit→Act→World→Prop) (h0:∀ j,W.cell? ⟨xb,j,JW⟩=(#[JO JP xs,JO JP xt,JO JP xf,JO JP xl,JO JP xr,JR pl nL cl,JR pp np cp]:Array Value)[j]?) (hxb:xb < W.heap.size) (krg:∀ u,Calls prog 30 #[JO JP 50] u fun e w'=>∃ g,e=JT (.agg #[JO JP 1,JR (JV ⟨g,0,JW⟩) 1 1])∧LV w' g KL∧u.heap.size≤g∧g < w'.heap.size∧ac u.heap.size u w') (kck:∀ u g,ac W.heap.size W u→LV u g KL→g < u.heap.size→Calls prog 13 #[.agg #[JO JP xs,JO JP xt,JO JP xf,JO JP xl,JO JP xr,JR pl nL cl,JR pp np cp],JR pr 1 cr,.agg #[JO JP 1,JR (JV ⟨g,0,JW⟩) 1 1],JO JP 60] u fun e w'=>∃ (p:Option Addr) (c:Nat),e=JT (.tuple #[.agg #[JR p EL.length c,JO JP hn,.bool cb],JO JP er])∧LK bK w' (JR p EL.length c) EL∧ac u.heap.size u w')
  (hQ:∀ (i9 ib ih ii im io iv:Value) (wx:World) (bx:Nat) (p:Option Addr) (c:Nat),LK bK wx (JR p EL.length c) EL→W.heap.size≤bx→wx.heap[bx]? = JV (JU #[JR p EL.length c,JO JP hn,.bool cb] 51 (0,0))→ac W.heap.size W wx→Q .normal ⟨aq (s0::s1::JR pr 1 cr::JS (JV ⟨xb,0,JW⟩)::s4::s5::s6::s7::s8::s9::fO::g0::g1::g2::g3::g4::g5::JS (JV ⟨bx,0,JW⟩)::JO JP er::ds::dv::g8::g9::ga::gc::dx::dy::e0::e1::e2::e3::e4::e5::e6::e7::e8::e9::ea::eb::ed::eg::ei::ej::em::eo::es::ew::ex::eA::eB::eD::f0::f1::f2::f3::f4::f5::fb::fe::fi::fn::fr::gd::gf::gk::gn::go::gr::gs::gv::gx::gy::gA::gB::gD::gW::h1::h2::h3::h4::h5::h6::h7::h8::h9::ha::hc::hd::he::hf::i9::ib::ih::ii::im::io::iv::fv::fx::fz::a0::a1::a2::a3::a4::a5::a6::a7::a8::a9::ab::ad::af::ag::ao::b3::b4::b5::b6::b7::[b8,b9,ba,bb,bc,bd,bf,bg,bh,bk,bm,bo,bq,bs,bt,cO,cS,cW,cX,d0,d1,d2,d3,d4,d9,dd,dg,dk,dm,bv,c0,c1,c2,c3,c4,c5,c6,c7,c8,c9,ca,cc,cd,ce,cf,cg,ch,ci,cj,ck,cn,co,cs,ct,cv,cx,cy,cA,cB,cC,cD,cE,cG]),[]⟩ wx) :
  (bW f7 11).wp prog Q ⟨aq (s0::s1::JR pr 1 cr::JS (JV ⟨xb,0,JW⟩)::s4::s5::s6::s7::s8::s9::fO::g0::g1::g2::g3::g4::g5::g6::g7::ds::dv::g8::g9::ga::gc::dx::dy::e0::e1::e2::e3::e4::e5::e6::e7::e8::e9::ea::eb::ed::eg::ei::ej::em::eo::es::ew::ex::eA::eB::eD::f0::f1::f2::f3::f4::f5::fb::fe::fi::fn::fr::gd::gf::gk::gn::go::gr::gs::gv::gx::gy::gA::gB::gD::gW::h1::h2::h3::h4::h5::h6::h7::h8::h9::ha::hc::hd::he::hf::hg::hh::hi::hj::hk::hl::hm::fv::fx::fz::a0::a1::a2::a3::a4::a5::a6::a7::a8::a9::ab::ad::af::ag::ao::b3::b4::b5::b6::b7::[b8,b9,ba,bb,bc,bd,bf,bg,bh,bk,bm,bo,bq,bs,bt,cO,cS,cW,cX,d0,d1,d2,d3,d4,d9,dd,dg,dk,dm,bv,c0,c1,c2,c3,c4,c5,c6,c7,c8,c9,ca,cc,cd,ce,cf,cg,ch,ci,cj,ck,cn,co,cs,ct,cv,cx,cy,cA,cB,cC,cD,cE,cG]),[]⟩ W:=by
 exact QJ
theorem QK {p q:Prop} (h:q) (f:Wq q→p:=by
 intro hq;replace hRW:=kZ dH hRW hx_bx mDe #[JO JP b0,JO JP b1,JO JP b2,JR p EL.length c]
 revert hRW
 exact hq.1):p:=f ⟨h⟩
theorem Kz {p q:Prop} (h:q) (f:Wq q→p:=by
 intro hq;have hset:=KS _ (aQ hS.1 hlo_bx #[JO JP b0,JO JP b1,JO JP b2,JR p EL.length c])
 revert hset
 exact hq.1):p:=f ⟨h⟩
theorem QX {p:Prop} (h:p:=by
 refine mOn ?_;generalize Q .normal=K at hQ ⊢;have HQ:=aa hQ;clear hQ
 conv=>arg 2;whnf
 refine QU ?_;intro KRG KCK KS
 clear krg kck h0 hxb;refine Rp ?_;intro hS;refine dn ?_ ?_
 ·refine bn ⟨_,_,_,_,_,_⟩ rfl mRf 30 _ _ mRf _ mRf call30 (KRG.out _) ?_;rintro x x1 ⟨g,rfl,hK,hg1,hg2,hb⟩;replace hS:=KS _ (ah hS.1 hb);refine ⟨_,rfl,hS,?_⟩
  (try clear hb)
  refine ar ?_;refine dn ?_ ?_
  ·refine bn ⟨_,_,_,_,_,_⟩ rfl mRf 15 _ _ mRf _ mRf call15 (KCK.out _ _ hS.1 hK hg2) ?_;rintro x x2 ⟨p,c,rfl,hRW,hb⟩;replace hS:=KS _ (ah hS.1 hb);refine ⟨_,rfl,hS,?_⟩
   (try clear hb)
   refine ar ?_
   iterate 3 refine aJ ?_
   have hlo_bx:W.heap.size≤x2.heap.size:=hS.1.size;refine aZ (bR ⟨_,_,_,_,_,_⟩ (JS (JV ⟨x2.heap.size,0,JW⟩)) (x2.alloc (JU #[JO JP 0,JO JP 0,JO JP 0,JR JW 0 0] 56)) rfl mRf (by go_simp;try rfl) ⟨KS _ (ah hS.1 (al _ _)),?_⟩);have hb:=al (x2) (JU #[JO JP 0,JO JP 0,JO JP 0,JR JW 0 0] 56);replace hS:=KS _ (ah hS.1 hb);have hx_bx:=heap_alloc_new (x2) (JU #[JO JP 0,JO JP 0,JO JP 0,JR JW 0 0] 56)
   (try replace hK:=hK.below hb hg2)
   (try replace hg2:=av hg2 hb.size)
   (try replace hRW:=hRW.below hb)
   (try clear hb)
   refine ar ?_;refine Kz ?_;intro hset;refine aZ (bH ⟨_,_,_,_,_,_⟩ rfl mRf 56 _ _ mRf (x2.heap.size) #[JO JP b0,JO JP b1,JO JP b2,JR p EL.length c] mRf mRf _ _ hx_bx mKr rfl (by simp [Value.oneCell']) ⟨hset,?_⟩);replace hS:=hset;clear hset;refine QK ?_;intro hRW;replace hx_bx:=setRow_heap (x2.alloc (JU #[JO JP 0,JO JP 0,JO JP 0,JR JW 0 0] 56)) (x2.heap.size) _ #[JO JP b0,JO JP b1,JO JP b2,JR p EL.length c] _ _ hx_bx
   (try simp only [Act.put])
   refine aJ ?_;simp only [dp,bj];exact HQ.out _ _ _ _ _ _ _ _ _ _ _ hRW hlo_bx hx_bx hS.1
  ·have hlo_bx:W.heap.size≤x1.heap.size:=hS.1.size;refine bR ⟨_,_,_,_,_,_⟩ (JS (JV ⟨x1.heap.size,0,JW⟩)) (x1.alloc (JU #[JO JP 0,JO JP 0,JO JP 0,JR JW 0 0] 56)) rfl mRf (by go_simp;try rfl) ⟨KS _ (ah hS.1 (al _ _)),?_⟩;have hb:=al (x1) (JU #[JO JP 0,JO JP 0,JO JP 0,JR JW 0 0] 56);replace hS:=KS _ (ah hS.1 hb);have hx_bx:=heap_alloc_new (x1) (JU #[JO JP 0,JO JP 0,JO JP 0,JR JW 0 0] 56)
   (try replace hK:=hK.below hb hg2)
   (try replace hg2:=av hg2 hb.size)
   (try replace hRW:=hRW.below hb)
   (try clear hb)
   refine ar ?_;refine aZ (bn ⟨_,_,_,_,_,_⟩ rfl mRf 15 _ _ mRf _ mRf call15 (KCK.out _ _ hS.1 hK hg2) ?_);rintro x x3 ⟨p,c,rfl,hRW,hb⟩;refine J2 ?_;intro hS hx_bx
   (try clear hb)
   refine ar ?_
   iterate 3 refine aJ ?_
   refine Kz ?_;intro hset;refine aZ (bH ⟨_,_,_,_,_,_⟩ rfl mRf 56 _ _ mRf (x1.heap.size) #[JO JP b0,JO JP b1,JO JP b2,JR p EL.length c] mRf mRf _ _ hx_bx mKr rfl (by simp [Value.oneCell']) ⟨hset,?_⟩);replace hS:=hset;clear hset;refine QK ?_;intro hRW;replace hx_bx:=setRow_heap x3 (x1.heap.size) _ #[JO JP b0,JO JP b1,JO JP b2,JR p EL.length c] _ _ hx_bx
   (try simp only [Act.put])
   refine aJ ?_;simp only [dp,bj];exact HQ.out _ _ _ _ _ _ _ _ _ _ _ hRW hlo_bx hx_bx hS.1
 ·have hlo_bx:W.heap.size≤W.heap.size:=aD _;refine bR ⟨_,_,_,_,_,_⟩ (JS (JV ⟨W.heap.size,0,JW⟩)) (W.drew.alloc (JU #[JO JP 0,JO JP 0,JO JP 0,JR JW 0 0] 56)) rfl mRf (by go_simp;try rfl) ⟨KS _ (ah hS.1 (al _ _)),?_⟩;have hb:=al (W.drew) (JU #[JO JP 0,JO JP 0,JO JP 0,JR JW 0 0] 56);replace hS:=KS _ (ah hS.1 hb);have hx_bx:=heap_alloc_new (W.drew) (JU #[JO JP 0,JO JP 0,JO JP 0,JR JW 0 0] 56);replace hx_bx:(W.drew.alloc (JU #[JO JP 0,JO JP 0,JO JP 0,JR JW 0 0] 56)).heap[W.heap.size]? = JV _:=hx_bx
  (try replace hK:=hK.below hb hg2)
  (try replace hg2:=av hg2 hb.size)
  (try replace hRW:=hRW.below hb)
  (try clear hb)
  refine ar ?_;refine aZ (bn ⟨_,_,_,_,_,_⟩ rfl mRf 30 _ _ mRf _ mRf call30 (KRG.out _) ?_);rintro x x4 ⟨g,rfl,hK,hg1,hg2,hb⟩;refine J2 ?_;intro hS hx_bx
  (try clear hb)
  refine ar ?_;refine aZ (bn ⟨_,_,_,_,_,_⟩ rfl mRf 15 _ _ mRf _ mRf call15 (KCK.out _ _ hS.1 hK hg2) ?_);rintro x x5 ⟨p,c,rfl,hRW,hb⟩;refine J2 ?_;intro hS hx_bx
  (try clear hb)
  refine ar ?_
  iterate 3 refine aJ ?_
  refine Kz ?_;intro hset;refine aZ (bH ⟨_,_,_,_,_,_⟩ rfl mRf 56 _ _ mRf (W.heap.size) #[JO JP b0,JO JP b1,JO JP b2,JR p EL.length c] mRf mRf _ _ hx_bx mKr rfl (by simp [Value.oneCell']) ⟨hset,?_⟩);replace hS:=hset;clear hset;refine QK ?_;intro hRW;replace hx_bx:=setRow_heap x5 (W.heap.size) _ #[JO JP b0,JO JP b1,JO JP b2,JR p EL.length c] _ _ hx_bx
  (try simp only [Act.put])
  refine aJ ?_;simp only [dp,bj]
  exact HQ.out _ _ _ _ _ _ _ _ _ _ _ hRW hlo_bx hx_bx hS.1):p:=h
theorem IK (xb nL cl np cp cr:Nat) (pl pp pr:Option Addr) (xs xt xf xl xr:Int) (b0 b1 b2 er:Int) (EL:List Ent) (KL:List LU) (W:World) (Q:Exit→Act→World→Prop) (h0:∀ j,W.cell? ⟨xb,j,JW⟩=(#[JO JP xs,JO JP xt,JO JP xf,JO JP xl,JO JP xr,JR pl nL cl,JR pp np cp]:Array Value)[j]?) (hxb:xb < W.heap.size) (krg:∀ u,Calls prog 30 #[JO JP 0] u fun e w'=>∃ g,e=JT (.agg #[JO JP 1,JR (JV ⟨g,0,JW⟩) 1 1])∧LV w' g KL∧u.heap.size≤g∧g < w'.heap.size∧ac u.heap.size u w') (kck:∀ u g,ac W.heap.size W u→LV u g KL→g < u.heap.size→Calls prog 15 #[.agg #[JO JP xs,JO JP xt,JO JP xf,JO JP xl,JO JP xr,JR pl nL cl,JR pp np cp],JR pr 1 cr,.agg #[JO JP 1,JR (JV ⟨g,0,JW⟩) 1 1],JO JP 60] u fun e w'=>∃ (p:Option Addr) (c:Nat),e=JT (.tuple #[.agg #[JO JP b0,JO JP b1,JO JP b2,JR p EL.length c],JO JP er])∧LK bK w' (JR p EL.length c) EL∧ac u.heap.size u w')
  (hQ:∀ (ho hp hr hs ht hv hw:Value) (wx:World) (bx:Nat) (p:Option Addr) (c:Nat),LK bK wx (JR p EL.length c) EL→W.heap.size≤bx→wx.heap[bx]? = JV (JU #[JO JP b0,JO JP b1,JO JP b2,JR p EL.length c] 56 (0,0))→ac W.heap.size W wx→Q .normal ⟨aq (s0::s1::JR pr 1 cr::s3::s4::s5::s6::JS (JV ⟨xb,0,JW⟩)::s8::s9::fO::g0::g1::g2::g3::g4::g5::g6::g7::ds::dv::JS (JV ⟨bx,0,JW⟩)::JO JP er::ga::gc::dx::dy::e0::e1::e2::e3::e4::e5::e6::e7::e8::e9::ea::eb::ed::eg::ei::ej::em::eo::es::ew::ex::eA::eB::eD::f0::f1::f2::f3::f4::f5::fb::fe::fi::fn::fr::gd::gf::gk::gn::go::gr::gs::gv::gx::gy::gA::gB::gD::gW::h1::h2::h3::h4::h5::h6::h7::h8::h9::ha::hc::hd::he::hf::hg::hh::hi::hj::hk::hl::hm::fv::fx::fz::a0::a1::a2::a3::a4::a5::a6::a7::a8::a9::ab::ad::af::ag::ao::b3::b4::b5::b6::b7::[b8,b9,ba,bb,bc,bd,bf,bg,bh,bk,bm,bo,bq,bs,bt,ho,hp,hr,hs,ht,hv,hw,d3,d4,d9,dd,dg,dk,dm,bv,c0,c1,c2,c3,c4,c5,c6,c7,c8,c9,ca,cc,cd,ce,cf,cg,ch,ci,cj,ck,cn,co,cs,ct,cv,cx,cy,cA,cB,cC,cD,cE,cG]),[]⟩ wx) :
  (bW f7 14).wp prog Q ⟨aq (s0::s1::JR pr 1 cr::s3::s4::s5::s6::JS (JV ⟨xb,0,JW⟩)::s8::s9::fO::g0::g1::g2::g3::g4::g5::g6::g7::ds::dv::g8::g9::ga::gc::dx::dy::e0::e1::e2::e3::e4::e5::e6::e7::e8::e9::ea::eb::ed::eg::ei::ej::em::eo::es::ew::ex::eA::eB::eD::f0::f1::f2::f3::f4::f5::fb::fe::fi::fn::fr::gd::gf::gk::gn::go::gr::gs::gv::gx::gy::gA::gB::gD::gW::h1::h2::h3::h4::h5::h6::h7::h8::h9::ha::hc::hd::he::hf::hg::hh::hi::hj::hk::hl::hm::fv::fx::fz::a0::a1::a2::a3::a4::a5::a6::a7::a8::a9::ab::ad::af::ag::ao::b3::b4::b5::b6::b7::[b8,b9,ba,bb,bc,bd,bf,bg,bh,bk,bm,bo,bq,bs,bt,cO,cS,cW,cX,d0,d1,d2,d3,d4,d9,dd,dg,dk,dm,bv,c0,c1,c2,c3,c4,c5,c6,c7,c8,c9,ca,cc,cd,ce,cf,cg,ch,ci,cj,ck,cn,co,cs,ct,cv,cx,cy,cA,cB,cC,cD,cE,cG]),[]⟩ W:=by
 exact QX
theorem IL (xb nL cl np cp cr:Nat) (pl pp pr:Option Addr) (xs xt xf xl xr:Int) (b0 b1 b2 er:Int) (EL:List Ent) (KL:List LU) (W:World) (Q:Exit→Act→World→Prop) (h0:∀ j,W.cell? ⟨xb,j,JW⟩=(#[JO JP xs,JO JP xt,JO JP xf,JO JP xl,JO JP xr,JR pl nL cl,JR pp np cp]:Array Value)[j]?) (hxb:xb < W.heap.size) (krg:∀ u,Calls prog 30 #[JO JP 0] u fun e w'=>∃ g,e=JT (.agg #[JO JP 1,JR (JV ⟨g,0,JW⟩) 1 1])∧LV w' g KL∧u.heap.size≤g∧g < w'.heap.size∧ac u.heap.size u w') (kck:∀ u g,ac W.heap.size W u→LV u g KL→g < u.heap.size→Calls prog 15 #[.agg #[JO JP xs,JO JP xt,JO JP xf,JO JP xl,JO JP xr,JR pl nL cl,JR pp np cp],JR pr 1 cr,.agg #[JO JP 1,JR (JV ⟨g,0,JW⟩) 1 1],JO JP 60] u fun e w'=>∃ (p:Option Addr) (c:Nat),e=JT (.tuple #[.agg #[JO JP b0,JO JP b1,JO JP b2,JR p EL.length c],JO JP er])∧LK bK w' (JR p EL.length c) EL∧ac u.heap.size u w')
  (hQ:∀ (hx hy hz hA hB hC hD:Value) (wx:World) (bx:Nat) (p:Option Addr) (c:Nat),LK bK wx (JR p EL.length c) EL→W.heap.size≤bx→wx.heap[bx]? = JV (JU #[JO JP b0,JO JP b1,JO JP b2,JR p EL.length c] 56 (0,0))→ac W.heap.size W wx→Q .normal ⟨aq (s0::s1::JR pr 1 cr::JS (JV ⟨xb,0,JW⟩)::s4::s5::s6::s7::s8::s9::fO::g0::g1::g2::g3::g4::g5::g6::g7::ds::dv::g8::g9::JS (JV ⟨bx,0,JW⟩)::JO JP er::dx::dy::e0::e1::e2::e3::e4::e5::e6::e7::e8::e9::ea::eb::ed::eg::ei::ej::em::eo::es::ew::ex::eA::eB::eD::f0::f1::f2::f3::f4::f5::fb::fe::fi::fn::fr::gd::gf::gk::gn::go::gr::gs::gv::gx::gy::gA::gB::gD::gW::h1::h2::h3::h4::h5::h6::h7::h8::h9::ha::hc::hd::he::hf::hg::hh::hi::hj::hk::hl::hm::fv::fx::fz::a0::a1::a2::a3::a4::a5::a6::a7::a8::a9::ab::ad::af::ag::ao::b3::b4::b5::b6::b7::[b8,b9,ba,bb,bc,bd,bf,bg,bh,bk,bm,bo,bq,bs,bt,cO,cS,cW,cX,d0,d1,d2,hx,hy,hz,hA,hB,hC,hD,bv,c0,c1,c2,c3,c4,c5,c6,c7,c8,c9,ca,cc,cd,ce,cf,cg,ch,ci,cj,ck,cn,co,cs,ct,cv,cx,cy,cA,cB,cC,cD,cE,cG]),[]⟩ wx) :
  (bW f7 15).wp prog Q ⟨aq (s0::s1::JR pr 1 cr::JS (JV ⟨xb,0,JW⟩)::s4::s5::s6::s7::s8::s9::fO::g0::g1::g2::g3::g4::g5::g6::g7::ds::dv::g8::g9::ga::gc::dx::dy::e0::e1::e2::e3::e4::e5::e6::e7::e8::e9::ea::eb::ed::eg::ei::ej::em::eo::es::ew::ex::eA::eB::eD::f0::f1::f2::f3::f4::f5::fb::fe::fi::fn::fr::gd::gf::gk::gn::go::gr::gs::gv::gx::gy::gA::gB::gD::gW::h1::h2::h3::h4::h5::h6::h7::h8::h9::ha::hc::hd::he::hf::hg::hh::hi::hj::hk::hl::hm::fv::fx::fz::a0::a1::a2::a3::a4::a5::a6::a7::a8::a9::ab::ad::af::ag::ao::b3::b4::b5::b6::b7::[b8,b9,ba,bb,bc,bd,bf,bg,bh,bk,bm,bo,bq,bs,bt,cO,cS,cW,cX,d0,d1,d2,d3,d4,d9,dd,dg,dk,dm,bv,c0,c1,c2,c3,c4,c5,c6,c7,c8,c9,ca,cc,cd,ce,cf,cg,ch,ci,cj,ck,cn,co,cs,ct,cv,cx,cy,cA,cB,cC,cD,cE,cG]),[]⟩ W:=by
 exact QX
end
section
def ExAt (la:Int) (ids:List Int) (pl pp:Option Addr) (nL cl nP cp:Nat) (w:World):Prop:=nL=(exX la ids).lines.length∧nP=(exX la ids).proof.length∧ExtIn (exX la ids) pl pp cl cp w
theorem ExAt.below {la:Int} {ids:List Int} {pl pp:Option Addr} {nL cl nP cp:Nat} {w w':World} (h:ExAt la ids pl pp nL cl nP cp w) (hb:ac w.heap.size w w'):ExAt la ids pl pp nL cl nP cp w':=⟨h.1,h.2.1,h.2.2.below hb⟩
theorem qf (la:Int) (ids:List Int) (pl pp:Option Addr) (cl cp:Nat):(exX la ids).cells pl pp cl cp=#[JO JP 1,JO JP 5,JO JP 0,JO JP la,JO JP 0,JR pl (exX la ids).lines.length cl,JR pp (exX la ids).proof.length cp]:=by rw [lq];rfl
theorem Ia:exR.Ok:=by
 constructor <;> first | (unfold I64;decide +kernel) | decide +kernel
theorem vy (la:Int) (ids:List Int):I64 (exX la ids).root:=by rw [lq];exact ⟨by show (-9223372036854775808:Int)≤((0:Nat):Int);decide,by show ((0:Nat):Int)≤9223372036854775807;decide⟩
theorem pH:(exX 100 [1]).Fit:=⟨vy _ _,by unfold LT.Fit;decide +kernel,by decide +kernel,by decide +kernel,by decide +kernel⟩
theorem GD:(exX 20 [1]).Fit:=⟨vy _ _,by unfold LT.Fit;decide +kernel,by decide +kernel,by decide +kernel,by decide +kernel⟩
theorem GE:(exX 100000 [1,2]).Fit:=⟨vy _ _,by unfold LT.Fit;decide +kernel,by decide +kernel,by decide +kernel,by decide +kernel⟩
theorem sV {la:Int} {ids:List Int} (s:Int) (h:(exX la ids).Fit):JudOk (exX la ids) [exR] (exG s):=
 ⟨h,mDe,fun y hy=>by rw [bJ.1 hy];exact Ia,by show (1:Nat)≤1000;decide,fun k hk=>(um s k hk).1,by show I64 1;unfold I64;decide⟩
theorem vx (la:Int) (ids:List Int) (hl:0≤la∧la≤100000) (hk:iD (fj exL (bG exL) 5 0 la) ids) (hi:ids.length≤100) (p1 p2 pi:Option Addr) (c1 c2 ci:Nat) (u:World) (h1:LK bK u (JR p1 2 c1) exL) (h2:LK cH u (JR p2 1 c2) [exR]) (h3:LK jD u (JR pi ids.length ci) ids) :
  Calls prog 29 #[JR p1 2 c1,JR p2 1 c2,JO JP 0,JO JP 5,JO JP 0,JO JP la,JR pi ids.length ci] u fun e w'=>∃ (pl pp:Option Addr) (nL cl nP cp:Nat),e=JT (.tuple #[.agg #[JO JP 1,JO JP 5,JO JP 0,JO JP la,JO JP 0,JR pl nL cl,JR pp nP cp],JO JP 0])∧Hid (ExAt la ids pl pp nL cl nP cp w')∧ac u.heap.size u w':=by
 have hm:=wV exL un p1 c1 [exR] p2 c2 0 5 0 la ids pi ci u h1 mDe h2 mDe h3 mOm;refine hm.mono ?_;rintro e w' (⟨-,pl,cl,pp,cp,rfl,hO1,hO2⟩ | ⟨h0,-,-⟩)
 ·refine ⟨pl,pp,(exX la ids).lines.length,cl,(exX la ids).proof.length,cp,?_,aa ⟨rfl,rfl,hO1.row (fun _=>rfl) mDe,hO2.row eW mDe⟩,hO1.low⟩
  show Ending.returned (.tuple #[.agg ((exX la ids).cells pl pp cl cp),JO JP 0])=_
  rw [qf]
 ·exact absurd (Id la ids hl hk) h0
theorem m8 {s la asof er hn:Int} {ids:List Int} {EL:List Ent} {cb:Bool} (hfit:(exX la ids).Fit) (hj:ec (exX la ids) [exR] (exG s) asof=er) (hv:gw (exX la ids) [exR] (exG s) asof=⟨EL,hn,cb⟩) (pl pp pr:Option Addr) (nL cl nP cp cr g:Nat) (u:World)
  (hx:ExAt la ids pl pp nL cl nP cp u) (hR:LK cH u (JR pr 1 cr) [exR]) (hK:LV u g (exG s).keys) (hg:g < u.heap.size) (hr:Wr.Ready u) :
  Calls prog 13 #[.agg #[JO JP 1,JO JP 5,JO JP 0,JO JP la,JO JP 0,JR pl nL cl,JR pp nP cp],JR pr 1 cr,.agg #[JO JP 1,JR (JV ⟨g,0,JW⟩) 1 1],JO JP asof] u fun e w'=>∃ (p:Option Addr) (c:Nat),e=JT (.tuple #[.agg #[JR p EL.length c,JO JP hn,.bool cb],JO JP er])∧LK bK w' (JR p EL.length c) EL∧ac u.heap.size u w':=by
 obtain ⟨rfl,rfl,hin⟩:=hx;have h:=wi (exX la ids) pl pp cl cp [exR] pr cr (exG s) g 1 asof u (sV s hfit) ⟨hin,hR,hK,hg,hr⟩;rw [qf,hj,hv] at h;exact h
theorem Ib:BrS Ent.id exL exL:=by refine ⟨exL.zipIdx,List.zipIdx_map_fst ..,List.Perm.refl _,?_⟩;decide +kernel
theorem zA (pl pp pr:Option Addr) (nL cl nP cp cr g:Nat) (u:World) (hx:ExAt 100000 [1,2] pl pp nL cl nP cp u) (hR:LK cH u (JR pr 1 cr) [exR]) (hK:LV u g (exG 0).keys) (hg:g < u.heap.size) (hr:Wr.Ready u) :
  Calls prog 15 #[.agg #[JO JP 1,JO JP 5,JO JP 0,JO JP 100000,JO JP 0,JR pl nL cl,JR pp nP cp],JR pr 1 cr,.agg #[JO JP 1,JR (JV ⟨g,0,JW⟩) 1 1],JO JP 60] u fun e w'=>∃ (p:Option Addr) (c:Nat),e=JT (.tuple #[.agg #[JO JP 1,JO JP 5,JO JP 0,JR p exL.length c],JO JP 0])∧LK bK w' (JR p exL.length c) exL∧ac u.heap.size u w':=by
 obtain ⟨rfl,rfl,hin⟩:=hx;have h:=sd (exX 100000 [1,2]) pl pp cl cp [exR] pr cr (exG 0) g 1 60 u (sV 0 GE) ⟨hin,hR,hK,hg,hr⟩ (by rw [ex_lens.2.2];decide);rw [qf] at h;have he:jK (exX 100000 [1,2]) [exR] (exG 0) 60=0:=by
  unfold jK;rw [if_neg (fun h=>h (jO 0 100000 [1,2] mDe je)),if_neg];rintro (⟨y,hy,hb⟩ | h | h)
  ·have:=Di y hy;rw [hb] at this
   cases this
  ·exact h (by rw [lq];rfl)
  ·exact h (by rw [lq];rfl)
 refine h.mono ?_
 rintro e w' (⟨h0,-,-⟩ | ⟨-,p,c,M,rfl,hB,hO⟩)
 ·exact absurd he h0
 ·rw [Fc] at hB;obtain rfl:=hB.one Ib;have e1:(exX 100000 [1,2]).school=1∧(exX 100000 [1,2]).student=5∧(exX 100000 [1,2]).root=0:=by rw [lq];exact ⟨rfl,rfl,rfl⟩
  refine ⟨p,c,by rw [e1.1,e1.2.1,e1.2.2],hO.row dH mDe,hO.low⟩
theorem zy (pl pp pr:Option Addr) (nL cl nP cp cr g:Nat) (u:World) (hx:ExAt 100 [1] pl pp nL cl nP cp u) (hR:LK cH u (JR pr 1 cr) [exR]) (hK:LV u g (exG 0).keys) (hg:g < u.heap.size) (hr:Wr.Ready u) :
  Calls prog 15 #[.agg #[JO JP 1,JO JP 5,JO JP 0,JO JP 100,JO JP 0,JR pl nL cl,JR pp nP cp],JR pr 1 cr,.agg #[JO JP 1,JR (JV ⟨g,0,JW⟩) 1 1],JO JP 60] u fun e w'=>∃ (p:Option Addr) (c:Nat),e=JT (.tuple #[.agg #[JO JP 0,JO JP 0,JO JP 0,JR p ([]:List Ent).length c],JO JP 42])∧LK bK w' (JR p ([]:List Ent).length c) []∧ac u.heap.size u w':=by
 obtain ⟨rfl,rfl,hin⟩:=hx;have h:=sd (exX 100 [1]) pl pp cl cp [exR] pr cr (exG 0) g 1 60 u (sV 0 pH) ⟨hin,hR,hK,hg,hr⟩ (by rw [ex_lens.1];decide);rw [qf] at h;have he:jK (exX 100 [1]) [exR] (exG 0) 60=42:=by
  unfold jK;rw [if_neg (fun h=>h (jO 0 100 [1] mDe je)),if_pos];refine .inr (.inr ?_);rw [lq]
  show (100:Int) ≠ 100000
  decide
 refine h.mono ?_
 rintro e w' (⟨-,rfl,hb⟩ | ⟨h0,-⟩)
 ·rw [he];exact ⟨JW,0,rfl,LK.nil _ _,hb⟩
 ·rw [he] at h0;cases h0
theorem GH:gw (exX 100 [1]) [exR] (exG 0) 60=⟨exL.take 1,1,false⟩:=by have h:=qT 0 100 [1] mDe je;unfold gw;rw [if_pos (jO 0 100 [1] mDe je),h.2,ex_ents1.1,ex_ents1.2.1,ex_ents1.2.2];rfl
theorem GI:gw (exX 20 [1]) [exR] (exG 0) 60=⟨exL.take 1,0,true⟩:=by have h:=qT 0 20 [1] mDe je;unfold gw;rw [if_pos (jO 0 20 [1] mDe je),h.2,ex_ents2.1,ex_ents2.2.1,ex_ents2.2.2];rfl
theorem GJ:gw (exX 100 [1]) [exR] (exG 51) 60=⟨exL.take 1,1,false⟩:=by have h:=qT 51 100 [1] mDe qU;unfold gw;rw [if_pos (jO 51 100 [1] mDe qU),h.2,Fb,ex_ents1.2.1,ex_ents1.2.2];rfl
theorem GK:gw (exX 100 [1]) [exR] (exG 0) 49=⟨[],0,false⟩:=by unfold gw;rw [if_neg (by rw [yf 100 [1] mDe];decide)]
theorem GL:gw (exX 100 [1]) [exR] (exG 50) 60=⟨[],0,false⟩:=by unfold gw;rw [if_neg (by rw [yg 100 [1] mDe];decide)]
end
section
def Eu (w:World) (a b c d:Nat) (ca cb cc cd:Array Value) (u:World):Prop:=ac w.heap.size w u∧(a < u.heap.size∧b < u.heap.size∧c < u.heap.size∧d < u.heap.size)∧(∀ j,u.cell? ⟨a,j,JW⟩=ca[j]?)∧(∀ j,u.cell? ⟨b,j,JW⟩=cb[j]?)∧(∀ j,u.cell? ⟨c,j,JW⟩=cc[j]?)∧(∀ j,u.cell? ⟨d,j,JW⟩=cd[j]?)
theorem gJ {w u v:World} {a b c d:Nat} {ca cb cc cd:Array Value} (h:Eu w a b c d ca cb cc cd u) (hb:ac u.heap.size u v):Eu w a b c d ca cb cc cd v:=by
 obtain ⟨h0,⟨l1,l2,l3,l4⟩,h1,h2,h3,h4⟩:=h;have hs:=hb.size;exact ⟨ah h0 hb,⟨mOm,mOm,mOm,mOm⟩,fun j=>(hb.cell (p:=⟨a,j,JW⟩) l1).trans (h1 j),fun j=>(hb.cell (p:=⟨b,j,JW⟩) l2).trans (h2 j),fun j=>(hb.cell (p:=⟨c,j,JW⟩) l3).trans (h3 j),fun j=>(hb.cell (p:=⟨d,j,JW⟩) l4).trans (h4 j)⟩
theorem J6 {p q:Prop} (h:q) (f:Wq q→p:=by
 intro hq;have X1:=LP.mk (hbp.heap_of X1.is);have X2:=LP.mk (hbp.heap_of X2.is);have X3:=LP.mk (hbp.heap_of X3.is);have V7:=LP.mk (hbp.heap_of V7.is);have V8:=LP.mk (hbp.heap_of V8.is)
 revert X1 X2 X3 V7 V8
 exact hq.1):p:=f ⟨h⟩
theorem J5 {p q:Prop} (h:q) (f:Wq q→p:=by
 intro hq;have HX1:=aa (HX1.out.below hbp);have HX2:=aa (HX2.out.below hbp);have HX3:=aa (HX3.out.below hbp);have HV7:=aa (HV7.out.below hbp);have HV8:=aa (HV8.out.below hbp)
 revert HX1 HX2 HX3 HV7 HV8
 exact hq.1):p:=f ⟨h⟩
theorem KG {p q:Prop} (h:q) (f:Wq q→p:=by
 intro hq;have V9:=LP.mk (hbp.heap_of V9.is);have V10:=LP.mk (hbp.heap_of V10.is);have V11:=LP.mk (hbp.heap_of V11.is);have V12:=LP.mk (hbp.heap_of V12.is)
 revert V9 V10 V11 V12
 exact hq.1):p:=f ⟨h⟩
theorem yR (w:World) (hr:Wr.Ready w):Calls prog 7 #[] w fun e w'=>e=JT (.bool true)∧ac w.heap.size w w':=by
 have HR0:=aa hr;have ke:=xj w hr.sane.1;clear hr;obtain ⟨F1,HF1⟩:∃ F,Hid (F=exL.take 1):=⟨_,aa rfl⟩;obtain ⟨L2,HL2⟩:∃ F,Hid (F=exL):=⟨_,aa rfl⟩;go_enter func7,ntmps7;go_wp2_with fail;refine ke.mono ?_;clear ke;rintro _ w1 ⟨p1,p2,c1,c2,rfl,hL,hR⟩;have HB0:=aa hL.low;have HL:=aa (hL.row dH mDe);have HR:=aa (hR.row df mDe);have HB:=aa (Below.refl w1.heap.size w1);clear hL hR;have km1:=vx 100 [1] mDe Dj mDe p1 p2 (JV ⟨w1.heap.size,0,JW⟩) c1 c2 1 (w1.alloc (JU #[JO JP 1] 3)) ((HL.out.below HB.out).below (al _ _)) ((HR.out.below HB.out).below (al _ _)) ((mQ (enc:=jD) (k:=1) 3 w1 #[JO JP 1] [1] 1 rfl mDe rfl rfl).row jP mDe);have hbl1:=al w1 (JU #[JO JP 1] 3);go_wp2_with fail;refine km1.mono ?_;clear km1;rintro _ w12 ⟨pl1,pp1,n1,d1,m1,f1,rfl,HX1,hb1⟩;have hx1:=heap_alloc_new w12 (JU #[JO JP 1,JO JP 5,JO JP 0,JO JP 100,JO JP 0,JR pl1 n1 d1,JR pp1 m1 f1] 39);have hba1:=al w12 (JU #[JO JP 1,JO JP 5,JO JP 0,JO JP 100,JO JP 0,JR pl1 n1 d1,JR pp1 m1 f1] 39);have HX1:=aa (HX1.out.below hba1);obtain ⟨w13,hw1⟩:∃ u,u=w12.alloc (JU #[JO JP 1,JO JP 5,JO JP 0,JO JP 100,JO JP 0,JR pl1 n1 d1,JR pp1 m1 f1] 39):=⟨_,rfl⟩;obtain ⟨x1b,hxb1⟩:∃ b,b=w12.heap.size:=⟨_,rfl⟩;rw [← hw1] at hx1 hba1 HX1
 go_upto_region 3 with fail
 rw [← hw1,← hxb1];rw [← hxb1] at hx1;have hbd1:=ah (ah hbl1 hb1) hba1;have HB:=aa (ah HB.out hbd1);have X1:=LP.mk hx1;clear hw1 hxb1 hx1 hba1 hb1 hbl1 hbd1;have km2:=vx 20 [1] mDe Dk mDe p1 p2 (JV ⟨w13.heap.size,0,JW⟩) c1 c2 1 (w13.alloc (JU #[JO JP 1] 3)) ((HL.out.below HB.out).below (al _ _)) ((HR.out.below HB.out).below (al _ _)) ((mQ (enc:=jD) (k:=1) 3 w13 #[JO JP 1] [1] 1 rfl mDe rfl rfl).row jP mDe);have hbl2:=al w13 (JU #[JO JP 1] 3);go_wp2_with fail;refine km2.mono ?_;clear km2;rintro _ w22 ⟨pl2,pp2,n2,d2,m2,f2,rfl,HX2,hb2⟩;have hx2:=heap_alloc_new w22 (JU #[JO JP 1,JO JP 5,JO JP 0,JO JP 20,JO JP 0,JR pl2 n2 d2,JR pp2 m2 f2] 39);have hba2:=al w22 (JU #[JO JP 1,JO JP 5,JO JP 0,JO JP 20,JO JP 0,JR pl2 n2 d2,JR pp2 m2 f2] 39);have HX2:=aa (HX2.out.below hba2);obtain ⟨w23,hw2⟩:∃ u,u=w22.alloc (JU #[JO JP 1,JO JP 5,JO JP 0,JO JP 20,JO JP 0,JR pl2 n2 d2,JR pp2 m2 f2] 39):=⟨_,rfl⟩;obtain ⟨x2b,hxb2⟩:∃ b,b=w22.heap.size:=⟨_,rfl⟩;rw [← hw2] at hx2 hba2 HX2
 go_upto_region 4 with fail
 rw [← hw2,← hxb2];rw [← hxb2] at hx2;have hbd2:=ah (ah hbl2 hb2) hba2;have X1:=LP.mk (hbd2.heap_of X1.is);have HX1:=aa (HX1.out.below hbd2);have HB:=aa (ah HB.out hbd2);have X2:=LP.mk hx2;clear hw2 hxb2 hx2 hba2 hb2 hbl2 hbd2;have km3:=vx 100000 [1,2] mDe Dl mDe p1 p2 (JV ⟨w23.heap.size,0,JW⟩) c1 c2 2 (w23.alloc (JU #[JO JP 1,JO JP 2] 3)) ((HL.out.below HB.out).below (al _ _)) ((HR.out.below HB.out).below (al _ _)) ((mQ (enc:=jD) (k:=1) 3 w23 #[JO JP 1,JO JP 2] [1,2] 2 rfl mDe rfl rfl).row jP mDe);have hbl3:=al w23 (JU #[JO JP 1,JO JP 2] 3);go_wp2_with fail;refine km3.mono ?_;clear km3;rintro _ w32 ⟨pl3,pp3,n3,d3,m3,f3,rfl,HX3,hb3⟩;have hx3:=heap_alloc_new w32 (JU #[JO JP 1,JO JP 5,JO JP 0,JO JP 100000,JO JP 0,JR pl3 n3 d3,JR pp3 m3 f3] 39);have hba3:=al w32 (JU #[JO JP 1,JO JP 5,JO JP 0,JO JP 100000,JO JP 0,JR pl3 n3 d3,JR pp3 m3 f3] 39);have HX3:=aa (HX3.out.below hba3);obtain ⟨w33,hw3⟩:∃ u,u=w32.alloc (JU #[JO JP 1,JO JP 5,JO JP 0,JO JP 100000,JO JP 0,JR pl3 n3 d3,JR pp3 m3 f3] 39):=⟨_,rfl⟩;obtain ⟨x3b,hxb3⟩:∃ b,b=w32.heap.size:=⟨_,rfl⟩;rw [← hw3] at hx3 hba3 HX3
 go_upto_region 5 with fail
 rw [← hw3,← hxb3];rw [← hxb3] at hx3;have hbd3:=ah (ah hbl3 hb3) hba3;have X1:=LP.mk (hbd3.heap_of X1.is);have X2:=LP.mk (hbd3.heap_of X2.is);have HX1:=aa (HX1.out.below hbd3);have HX2:=aa (HX2.out.below hbd3);have HB:=aa (ah HB.out hbd3);have X3:=LP.mk hx3;clear hw3 hxb3 hx3 hba3 hb3 hbl3 hbd3
 go_upto_region 7 with fail
 refine Jf x1b n1 d1 m1 f1 c2 pl1 pp1 p2 1 5 0 100 0 1 0 false F1 (exG 0).keys w33 _ (ae X1.is) (ay X1.is) (fun u=>gG 0 u) (fun u g hu hK hg=>m8 (s:=0) pH (jO 0 100 [1] mDe je) (by rw [HF1.out];exact GH) pl1 pp1 p2 n1 d1 m1 f1 c2 g u (HX1.out.below hu) (HR.out.below (ah HB.out hu)) hK hg (bz HR0.out (ah HB0.out (ah HB.out hu)))) ?_
 intros
 rename_i w7 b7 q7 e7 hrow hlo hbx hbp
 have X1:=LP.mk (hbp.heap_of X1.is)
 have X2:=LP.mk (hbp.heap_of X2.is);have X3:=LP.mk (hbp.heap_of X3.is);have HX1:=aa (HX1.out.below hbp);have HX2:=aa (HX2.out.below hbp);have HX3:=aa (HX3.out.below hbp);have HB:=aa (ah HB.out hbp);have V7:=LP.mk hbx;have HV7:=aa hrow;clear hrow hlo hbx hbp
 go_upto_region 8 with fail
 refine Jg x2b n2 d2 m2 f2 c2 pl2 pp2 p2 1 5 0 20 0 0 0 true F1 (exG 0).keys w7 _ (ae X2.is) (ay X2.is) (fun u=>gG 0 u) (fun u g hu hK hg=>m8 (s:=0) GD (jO 0 20 [1] mDe je) (by rw [HF1.out];exact GI) pl2 pp2 p2 n2 d2 m2 f2 c2 g u (HX2.out.below hu) (HR.out.below (ah HB.out hu)) hK hg (bz HR0.out (ah HB0.out (ah HB.out hu)))) ?_
 intros
 rename_i w8 b8 q8 e8 hrow hlo hbx hbp
 have X1:=LP.mk (hbp.heap_of X1.is)
 have X2:=LP.mk (hbp.heap_of X2.is);have X3:=LP.mk (hbp.heap_of X3.is);have V7:=LP.mk (hbp.heap_of V7.is);have HX1:=aa (HX1.out.below hbp);have HX2:=aa (HX2.out.below hbp);have HX3:=aa (HX3.out.below hbp);have HV7:=aa (HV7.out.below hbp);have HB:=aa (ah HB.out hbp);have V8:=LP.mk hbx;have HV8:=aa hrow;clear hrow hlo hbx hbp
 go_upto_region 9 with fail
 refine Jh x1b n1 d1 m1 f1 c2 pl1 pp1 p2 1 5 0 100 0 1 0 false F1 (exG 51).keys w8 _ (ae X1.is) (ay X1.is) (fun u=>gG 51 u) (fun u g hu hK hg=>m8 (s:=51) pH (jO 51 100 [1] mDe qU) (by rw [HF1.out];exact GJ) pl1 pp1 p2 n1 d1 m1 f1 c2 g u (HX1.out.below hu) (HR.out.below (ah HB.out hu)) hK hg (bz HR0.out (ah HB0.out (ah HB.out hu)))) ?_
 intros
 rename_i w9 b9 q9 e9 hrow hlo hbx hbp
 refine J6 ?_;intro X1 X2 X3 V7 V8
 refine J5 ?_;intro HX1 HX2 HX3 HV7 HV8;have HB:=aa (ah HB.out hbp);have V9:=LP.mk hbx;have HV9:=aa hrow;clear hrow hlo hbx hbp
 go_upto_region 10 with fail
 refine II x1b n1 d1 m1 f1 c2 pl1 pp1 p2 1 5 0 100 0 0 23 false [] (exG 0).keys w9 _ (ae X1.is) (ay X1.is) (fun u=>gG 0 u) (fun u g hu hK hg=>m8 (s:=0) pH (yf 100 [1] mDe) (GK) pl1 pp1 p2 n1 d1 m1 f1 c2 g u (HX1.out.below hu) (HR.out.below (ah HB.out hu)) hK hg (bz HR0.out (ah HB0.out (ah HB.out hu)))) ?_
 intros
 rename_i w10 b10 q10 e10 hrow hlo hbx hbp
 refine J6 ?_;intro X1 X2 X3 V7 V8
 have V9:=LP.mk (hbp.heap_of V9.is);refine J5 ?_;intro HX1 HX2 HX3 HV7 HV8;have HV9:=aa (HV9.out.below hbp);have HB:=aa (ah HB.out hbp);have V10:=LP.mk hbx;have HV10:=aa hrow;clear hrow hlo hbx hbp
 go_upto_region 11 with fail
 refine IJ x1b n1 d1 m1 f1 c2 pl1 pp1 p2 1 5 0 100 0 0 11 false [] (exG 50).keys w10 _ (ae X1.is) (ay X1.is) (fun u=>gG 50 u) (fun u g hu hK hg=>m8 (s:=50) pH (yg 100 [1] mDe) (GL) pl1 pp1 p2 n1 d1 m1 f1 c2 g u (HX1.out.below hu) (HR.out.below (ah HB.out hu)) hK hg (bz HR0.out (ah HB0.out (ah HB.out hu)))) ?_
 intros
 rename_i w11 b11 q11 e11 hrow hlo hbx hbp
 refine J6 ?_;intro X1 X2 X3 V7 V8
 have V9:=LP.mk (hbp.heap_of V9.is);have V10:=LP.mk (hbp.heap_of V10.is);refine J5 ?_;intro HX1 HX2 HX3 HV7 HV8;have HV9:=aa (HV9.out.below hbp);have HV10:=aa (HV10.out.below hbp);have HB:=aa (ah HB.out hbp);have V11:=LP.mk hbx;have HV11:=aa hrow;clear hrow hlo hbx hbp;have hcap:2≤c1:=by obtain ⟨p',c',e',h1,_⟩:=HL.out;injection e' with _ _ e3;rw [e3];exact h1
 have hpn:p1=JW→c1=0:=by obtain ⟨p',c',e',_,h1,_⟩:=HL.out;injection e' with e1 _ e3;rw [e1,e3];exact h1
 have HPN:=aa hpn;have hsl:∀ u,(Instr.sliceAt 34 (JR p1 2 c1) JW (JV (JO JP 1)) JW).run prog u=.ok (JR p1 1 c1) u:=fun u=>nu 34 67 underlying34 sizeOf67 p1 2 c1 1 mDe hcap HPN.out u
 clear hpn;have hx:=heap_alloc_new w11 (JU #[JR p1 1 c1,JO JP 1,.bool false] 51);have hba:=al w11 (JU #[JR p1 1 c1,JO JP 1,.bool false] 51);obtain ⟨w12,hw12⟩:∃ u,u=w11.alloc (JU #[JR p1 1 c1,JO JP 1,.bool false] 51):=⟨_,rfl⟩;obtain ⟨b12,hb12⟩:∃ b,b=w11.heap.size:=⟨_,rfl⟩;rw [← hw12] at hx hba
 go_upto_region 13 with fail
 rw [← hw12,← hb12];rw [← hb12] at hx;have X1:=LP.mk (hba.heap_of X1.is);have X2:=LP.mk (hba.heap_of X2.is);have X3:=LP.mk (hba.heap_of X3.is);have V7:=LP.mk (hba.heap_of V7.is);have V8:=LP.mk (hba.heap_of V8.is);have V9:=LP.mk (hba.heap_of V9.is);have V10:=LP.mk (hba.heap_of V10.is);have V11:=LP.mk (hba.heap_of V11.is);have HX1:=aa (HX1.out.below hba);have HX2:=aa (HX2.out.below hba);have HX3:=aa (HX3.out.below hba);have HV7:=aa (HV7.out.below hba);have HV8:=aa (HV8.out.below hba);have HV9:=aa (HV9.out.below hba);have HV10:=aa (HV10.out.below hba);have HV11:=aa (HV11.out.below hba);have HB:=aa (ah HB.out hba);have V12:=LP.mk hx;clear hw12 hb12 hx hba
 have KA:Hid (∀ u,ac w12.heap.size w12 u→Calls prog 17 #[.agg #[JR q7 F1.length e7,JO JP 1,.bool false],.agg #[JR p1 1 c1,JO JP 1,.bool false]] u fun e w'=>e=JT (.bool true)∧ac u.heap.size u w'):=aa (fun u hu=>by
  refine (pu ⟨F1,1,false⟩ ⟨exL.take 1,1,false⟩ q7 p1 e7 c1 u (HV7.out.below hu) (((HL.out.below HB.out).below hu).take (m:=1) rfl mDe) (by rw [HF1.out];decide)).mono ?_;rintro e w' ⟨t,rfl,ht,hb⟩;obtain rfl:t=true:=ht.2 (by rw [HF1.out])
  exact ⟨rfl,hb⟩)
 have KB:Hid (∀ u,ac w12.heap.size w12 u→Calls prog 17 #[.agg #[JR q8 F1.length e8,JO JP 0,.bool true],.agg #[JR p1 1 c1,JO JP 0,.bool true]] u fun e w'=>e=JT (.bool true)∧ac u.heap.size u w'):=aa (fun u hu=>by
  refine (pu ⟨F1,0,true⟩ ⟨exL.take 1,0,true⟩ q8 p1 e8 c1 u (HV8.out.below hu) (((HL.out.below HB.out).below hu).take (m:=1) rfl mDe) (by rw [HF1.out];decide)).mono ?_;rintro e w' ⟨t,rfl,ht,hb⟩;obtain rfl:t=true:=ht.2 (by rw [HF1.out])
  exact ⟨rfl,hb⟩)
 have KC:Hid (∀ u,ac w12.heap.size w12 u→Calls prog 17 #[.agg #[JR q9 F1.length e9,JO JP 1,.bool false],.agg #[JR p1 1 c1,JO JP 1,.bool false]] u fun e w'=>e=JT (.bool true)∧ac u.heap.size u w'):=aa (fun u hu=>by
  refine (pu ⟨F1,1,false⟩ ⟨exL.take 1,1,false⟩ q9 p1 e9 c1 u (HV9.out.below hu) (((HL.out.below HB.out).below hu).take (m:=1) rfl mDe) (by rw [HF1.out];decide)).mono ?_;rintro e w' ⟨t,rfl,ht,hb⟩;obtain rfl:t=true:=ht.2 (by rw [HF1.out])
  exact ⟨rfl,hb⟩)
 have hS0:Eu w12 b7 b8 b9 b12 #[JR q7 F1.length e7,JO JP 1,.bool false] #[JR q8 F1.length e8,JO JP 0,.bool true] #[JR q9 F1.length e9,JO JP 1,.bool false] #[JR p1 1 c1,JO JP 1,.bool false] w12:=⟨Below.refl _ _,⟨ay V7.is,ay V8.is,ay V9.is,ay V12.is⟩,ae V7.is,ae V8.is,ae V9.is,ae V12.is⟩
 have hS1:=gJ hS0 (Below.refl _ w12).drew;clear hS0 hsl;go_wp2_with fail;refine Jy (S:=fun u=>ac w12.heap.size w12 u∧(b7 < u.heap.size∧b8 < u.heap.size∧b9 < u.heap.size∧b12 < u.heap.size)∧(∀ j,u.cell? ⟨b7,j,JW⟩=(#[JR q7 F1.length e7,JO JP 1,.bool false]:Array Value)[j]?)∧(∀ j,u.cell? ⟨b8,j,JW⟩=(#[JR q8 F1.length e8,JO JP 0,.bool true]:Array Value)[j]?)∧(∀ j,u.cell? ⟨b9,j,JW⟩=(#[JR q9 F1.length e9,JO JP 1,.bool false]:Array Value)[j]?)∧(∀ j,u.cell? ⟨b12,j,JW⟩=(#[JR p1 1 c1,JO JP 1,.bool false]:Array Value)[j]?)) [(0,true),(1,true),(2,true),(3,true),(4,true),(5,true),(6,true),(7,true),(8,true),(9,true),(10,true),(11,true),(12,true),(13,false),(14,true),(15,true),(16,true),(17,true),(18,true),(19,true),(20,false),(21,true),(22,true),(23,true),(24,true),(25,false),(26,true),(27,true),(28,true),(29,true),(30,true),(31,true),(32,true),(33,true),(34,true),(35,true)] hS1 ?_;have hS:=hS1
 iterate 13 refine aj ?_
 (first | (refine aH 17 call17 (KA.out _ hS.1) ?_;rintro x wn ⟨rfl,hb⟩;replace hS:=gJ hS hb;refine ⟨_,rfl,hS,?_⟩;(try clear hb)) | (refine aH 17 call17 (KB.out _ hS.1) ?_;rintro x wn ⟨rfl,hb⟩;replace hS:=gJ hS hb;refine ⟨_,rfl,hS,?_⟩;(try clear hb)) | (refine aH 17 call17 (KC.out _ hS.1) ?_;rintro x wn ⟨rfl,hb⟩;replace hS:=gJ hS hb;refine ⟨_,rfl,hS,?_⟩;(try clear hb)))
 refine ar ?_
 iterate 4 refine aj ?_
 refine nE ⟨_,_,_,_,_,_⟩ rfl mRf 34 67 (.tmp 117) (.const (JO JP 1)) mRf underlying34 sizeOf67 p1 2 c1 1 mRf mRf mDe hcap HPN.out ?_;refine ar ?_;refine aj ?_
 (first | (refine aH 17 call17 (KA.out _ hS.1) ?_;rintro x wn ⟨rfl,hb⟩;replace hS:=gJ hS hb;refine ⟨_,rfl,hS,?_⟩;(try clear hb)) | (refine aH 17 call17 (KB.out _ hS.1) ?_;rintro x wn ⟨rfl,hb⟩;replace hS:=gJ hS hb;refine ⟨_,rfl,hS,?_⟩;(try clear hb)) | (refine aH 17 call17 (KC.out _ hS.1) ?_;rintro x wn ⟨rfl,hb⟩;replace hS:=gJ hS hb;refine ⟨_,rfl,hS,?_⟩;(try clear hb)))
 refine ar ?_
 iterate 4 refine aj ?_
 (first | (refine aH 17 call17 (KA.out _ hS.1) ?_;rintro x wn ⟨rfl,hb⟩;replace hS:=gJ hS hb;refine ⟨_,rfl,hS,?_⟩;(try clear hb)) | (refine aH 17 call17 (KB.out _ hS.1) ?_;rintro x wn ⟨rfl,hb⟩;replace hS:=gJ hS hb;refine ⟨_,rfl,hS,?_⟩;(try clear hb)) | (refine aH 17 call17 (KC.out _ hS.1) ?_;rintro x wn ⟨rfl,hb⟩;replace hS:=gJ hS hb;refine ⟨_,rfl,hS,?_⟩;(try clear hb)))
 refine ar ?_
 iterate 10 refine aj ?_
 simp only [aO,bj];obtain ⟨w13,rfl⟩:∃ u,u=wn:=⟨_,rfl⟩;have hbp:=hS.1;refine J6 ?_;intro X1 X2 X3 V7 V8;refine KG ?_;intro V9 V10 V11 V12;refine J5 ?_;intro HX1 HX2 HX3 HV7 HV8;have HV9:=aa (HV9.out.below hbp);have HV10:=aa (HV10.out.below hbp);have HV11:=aa (HV11.out.below hbp);have HB:=aa (ah HB.out hbp);clear hS hS1 hbp KA KB KC
 go_upto_region 14 with fail
 refine IK x3b n3 d3 m3 f3 c2 pl3 pp3 p2 1 5 0 100000 0 1 5 0 0 L2 (exG 0).keys w13 _ (ae X3.is) (ay X3.is) (fun u=>gG 0 u) (fun u g hu hK hg=>by rw [HL2.out];exact zA pl3 pp3 p2 n3 d3 m3 f3 c2 g u (HX3.out.below hu) (HR.out.below (ah HB.out hu)) hK hg (bz HR0.out (ah HB0.out (ah HB.out hu)))) ?_
 intros
 rename_i w14 b14 q14 e14 hrow hlo hbx hbp
 refine J6 ?_;intro X1 X2 X3 V7 V8
 refine KG ?_;intro V9 V10 V11 V12;refine J5 ?_;intro HX1 HX2 HX3 HV7 HV8;have HV9:=aa (HV9.out.below hbp);have HV10:=aa (HV10.out.below hbp);have HV11:=aa (HV11.out.below hbp);have HB:=aa (ah HB.out hbp);have V14:=LP.mk hbx;have HV14:=aa hrow;clear hrow hlo hbx hbp
 go_upto_region 15 with fail
 refine IL x1b n1 d1 m1 f1 c2 pl1 pp1 p2 1 5 0 100 0 0 0 0 42 [] (exG 0).keys w14 _ (ae X1.is) (ay X1.is) (fun u=>gG 0 u) (fun u g hu hK hg=>zy pl1 pp1 p2 n1 d1 m1 f1 c2 g u (HX1.out.below hu) (HR.out.below (ah HB.out hu)) hK hg (bz HR0.out (ah HB0.out (ah HB.out hu)))) ?_
 intros
 rename_i w15 b15 q15 e15 hrow hlo hbx hbp
 refine J6 ?_;intro X1 X2 X3 V7 V8
 refine KG ?_;intro V9 V10 V11 V12;have V14:=LP.mk (hbp.heap_of V14.is);refine J5 ?_;intro HX1 HX2 HX3 HV7 HV8;have HV9:=aa (HV9.out.below hbp);have HV10:=aa (HV10.out.below hbp);have HV11:=aa (HV11.out.below hbp);have HV14:=aa (HV14.out.below hbp);have HB:=aa (ah HB.out hbp);have V15:=LP.mk hbx;have HV15:=aa hrow;clear hrow hlo hbx hbp;have kn:=DT 1 5 0 q14 e14 L2 w15 HV14.out (by rw [HL2.out];decide) mDe mDe mDe;have y0:w15.cell? ⟨b14,0,JW⟩=JV (JO JP 1):=ae V14.is 0;have y1:w15.cell? ⟨b14,1,JW⟩=JV (JO JP 5):=ae V14.is 1;have y2:w15.cell? ⟨b14,2,JW⟩=JV (JO JP 0):=ae V14.is 2;have y3:w15.cell? ⟨b14,3,JW⟩=JV (JR q14 L2.length e14):=ae V14.is 3;go_wp2_with fail;refine kn.mono ?_;clear kn y0 y1 y2 y3;rintro _ w16 ⟨r1,r2,k1,k2,rfl,hBI,hb16⟩;have X1:=LP.mk (hb16.heap_of X1.is);have X2:=LP.mk (hb16.heap_of X2.is);have X3:=LP.mk (hb16.heap_of X3.is);have V7:=LP.mk (hb16.heap_of V7.is);have V8:=LP.mk (hb16.heap_of V8.is);have V9:=LP.mk (hb16.heap_of V9.is);have V10:=LP.mk (hb16.heap_of V10.is);have V11:=LP.mk (hb16.heap_of V11.is);have V12:=LP.mk (hb16.heap_of V12.is);have V14:=LP.mk (hb16.heap_of V14.is);have V15:=LP.mk (hb16.heap_of V15.is);have HX1:=aa (HX1.out.below hb16);have HX2:=aa (HX2.out.below hb16);have HX3:=aa (HX3.out.below hb16);have HV7:=aa (HV7.out.below hb16);have HV8:=aa (HV8.out.below hb16);have HV9:=aa (HV9.out.below hb16);have HV10:=aa (HV10.out.below hb16);have HV11:=aa (HV11.out.below hb16);have HV14:=aa (HV14.out.below hb16);have HV15:=aa (HV15.out.below hb16);have HB:=aa (ah HB.out hb16);have hba:=al w16 (JU #[JO JP 1,JO JP 5,JO JP 0,JR p1 2 c1] 56);have hlit:LK fY (w16.alloc (JU #[JO JP 1,JO JP 5,JO JP 0,JR p1 2 c1] 56)) (JR (JV ⟨w16.heap.size,0,JW⟩) 1 1) [(⟨⟨1,5,0,exL⟩,p1,c1⟩:BrtV)]:=cF (heap_alloc_new w16 _) _ rfl rfl;have hbi2:BrtIn (w16.alloc (JU #[JO JP 1,JO JP 5,JO JP 0,JR p1 2 c1] 56)) (JR (JV ⟨w16.heap.size,0,JW⟩) 1 1) [(⟨⟨1,5,0,exL⟩,p1,c1⟩:BrtV)]:=⟨hlit,fun x hx=>by rw [bJ.1 hx];exact HL.out.below (ah HB.out hba),fun x hx=>by rw [bJ.1 hx];show exL.length≤100000;decide⟩;have ks:=Ad [(⟨⟨1,5,0,L2⟩,r2,k2⟩:BrtV)] [(⟨⟨1,5,0,exL⟩,p1,c1⟩:BrtV)] r1 (JV ⟨w16.heap.size,0,JW⟩) k1 1 _ (hBI.below hba) hbi2 (by show (1:Nat)≤1000000;decide);have HBA:=aa hba;clear hBI hb16 hlit hbi2 hba;go_wp2_with fail;refine ks.mono ?_;clear ks;rintro _ w17 ⟨t,rfl,ht,hb17⟩;obtain rfl:t=true:=ht.2 (by rw [HL2.out];rfl);have hb17:=ah HBA.out hb17;have X1:=LP.mk (hb17.heap_of X1.is);have X2:=LP.mk (hb17.heap_of X2.is);have X3:=LP.mk (hb17.heap_of X3.is);have V7:=LP.mk (hb17.heap_of V7.is);have V8:=LP.mk (hb17.heap_of V8.is);have V9:=LP.mk (hb17.heap_of V9.is);have V10:=LP.mk (hb17.heap_of V10.is);have V11:=LP.mk (hb17.heap_of V11.is);have V12:=LP.mk (hb17.heap_of V12.is);have V14:=LP.mk (hb17.heap_of V14.is);have V15:=LP.mk (hb17.heap_of V15.is);have HX1:=aa (HX1.out.below hb17);have HX2:=aa (HX2.out.below hb17);have HX3:=aa (HX3.out.below hb17);have HV7:=aa (HV7.out.below hb17);have HV8:=aa (HV8.out.below hb17);have HV9:=aa (HV9.out.below hb17);have HV10:=aa (HV10.out.below hb17);have HV11:=aa (HV11.out.below hb17);have HV14:=aa (HV14.out.below hb17);have HV15:=aa (HV15.out.below hb17);have HB:=aa (ah HB.out hb17);have kb:Calls prog 19 #[.agg #[JR q8 F1.length e8,JO JP 0,.bool true]] w17 fun e w'=>e=JT (.bool true)∧ac w17.heap.size w17 w':=mX ⟨F1,0,true⟩ q8 e8 w17
 have y0:w17.cell? ⟨b8,0,JW⟩=JV (JR q8 F1.length e8):=ae V8.is 0;have y1:w17.cell? ⟨b8,1,JW⟩=JV (JO JP 0):=ae V8.is 1;have y2:w17.cell? ⟨b8,2,JW⟩=JV (.bool true):=ae V8.is 2;clear ht hb17 HBA;go_wp2_with fail;refine kb.mono ?_;clear kb y0 y1 y2;rintro _ w18 ⟨rfl,hb18⟩;have X1:=LP.mk (hb18.heap_of X1.is);have X2:=LP.mk (hb18.heap_of X2.is);have X3:=LP.mk (hb18.heap_of X3.is);have V7:=LP.mk (hb18.heap_of V7.is);have V8:=LP.mk (hb18.heap_of V8.is);have V9:=LP.mk (hb18.heap_of V9.is);have V10:=LP.mk (hb18.heap_of V10.is);have V11:=LP.mk (hb18.heap_of V11.is);have V12:=LP.mk (hb18.heap_of V12.is);have V14:=LP.mk (hb18.heap_of V14.is);have V15:=LP.mk (hb18.heap_of V15.is);have HX1:=aa (HX1.out.below hb18);have HX2:=aa (HX2.out.below hb18);have HX3:=aa (HX3.out.below hb18);have HV7:=aa (HV7.out.below hb18);have HV8:=aa (HV8.out.below hb18);have HV9:=aa (HV9.out.below hb18);have HV10:=aa (HV10.out.below hb18);have HV11:=aa (HV11.out.below hb18);have HV14:=aa (HV14.out.below hb18);have HV15:=aa (HV15.out.below hb18);have HB:=aa (ah HB.out hb18);have kb:Calls prog 19 #[.agg #[JR q7 F1.length e7,JO JP 1,.bool false]] w18 fun e w'=>e=JT (.bool false)∧ac w18.heap.size w18 w':=mX ⟨F1,1,false⟩ q7 e7 w18
 have y0:w18.cell? ⟨b7,0,JW⟩=JV (JR q7 F1.length e7):=ae V7.is 0;have y1:w18.cell? ⟨b7,1,JW⟩=JV (JO JP 1):=ae V7.is 1;have y2:w18.cell? ⟨b7,2,JW⟩=JV (.bool false):=ae V7.is 2;clear hb18;go_wp2_with fail;refine kb.mono ?_;clear kb y0 y1 y2;rintro _ w19 ⟨rfl,hb19⟩;have HB19:=aa (ah HB0.out (ah HB.out hb19));clear hb19;go_wp2_with fail;go_ret;exact ⟨rfl,HB19.out⟩
