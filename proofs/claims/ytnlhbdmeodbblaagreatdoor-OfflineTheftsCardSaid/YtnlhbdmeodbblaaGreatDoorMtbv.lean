/- Lemmas. -/
import Derived.Test.YtnlhbdmeodbblaaGreatDoorMtbt
import Derived.Test.YtnlhbdmeodbblaaGreatDoorMtbs
set_option maxRecDepth 100000
set_option maxHeartbeats 16000000
set_option linter.all false
open Go.Proofs.Tryz
open Int renaming tmod_eq_emod_of_nonneg->bN
open Go.IntWalk renaming i64_in->aH
open Go.Lib renaming cell_of_heap->ae,hid->aa
open List renaming filterMap_cons_some->gM,filter_append->dV,length_append->ap,length_cons->bB,length_singleton->aB,toArray->aK
open Nat renaming le_refl->az
open Go.RowKit renaming Below->ac
open Go.Ending renaming returned->Oe
open Go.IntKind renaming i64->Oa
open Go.Obj renaming cells->Of
open Go.Value renaming int->N9,string->Ob,slice->Oc,pointer->Od
open Option renaming some->Og,none->Oh
namespace Go.Proofs.YtnlhbdmeodbblaaGreatDoor
section
variable {s0 s1 s2 s3 s4 s5 s6 s7 s8 s9 ht hB eb ed eg ei ej hs hh em hn eo d6 hf d8 es ex ey ez eA eB eD f0 d9 dc dd f1 f2 f3 f4 f6 f7 f9 fb fe fi fn fr fs fv fx fz g0 g1 g2 g3 g4 g5 g6 g7 dg dk ds dv dx dT e0 e6 e7 g8 g9 ga gc gd gf gk gn go gr gs gv gx gy gA gB gD gW h0 h3 h4 e8 e9 ea h5 h6 h7 h8 h9 ha he a0 a1 a2 a3 a4 a5 a6 a7 a8 a9 ab ad af ag ao b0 b1 b3 b4 b5 b6 b7 b8 b9 ba bb bc bd be bf bg bh bk ck cn co cs ct cx cy cG cO cS cW cX d5 bm bp bq br bs bt c9 ca cc cd cf ch ci cj:Value}
open Go Go.Proofs Go.RowKit Go.Maps Go.Sort Go.Lib
theorem GZ{ops:Array Oper}{Q:Exit->Act->World->Prop}{S:World->Prop}{i:Nat}{tr:FlowT3}{a:Act}{w:World}(oi:Oper)(hi:ops[i]? = Og oi)(hw:Region.wanted oi (yielded ops a.tmps)=true)(t te:TypeId)(x y:Operand)(ho:oi.op=.slice t x Oh (Og y) Oh)(hu:prog.underlying t=Og (.slice te))(hz:∀w,(sizeOf te).run prog w=.ok (prog.cellsOf te) w)
  (p:Option Addr) (n c m:Nat) (hx:a.eval x=Oc p n c) (hy:a.eval y=N9 Oa m) (hm:m<=n) (hc:n<=c) (hp:p=Oh->c=0)
  (h:ec prog ops Q S tr (a.put oi.dst (Oc p m c)) w):ec prog ops Q S (.take i tr) a w:=
 zQ oi (Oc p m c) hi hw (fun w _=>by
  unfold execOp
  simp only[ho,hx,hy,Option.map_some,Option.map_none,Sem.run_bind,Sem.run_pure,oz t te hu hz p n c m hm hc hp w,Result.andThen_ok]) h
def rtTwo:aC:={ rootZ with school:=2 }
def rtThree:aC:={ rootZ with school:=3 }
theorem NG(cb:Nat)(A B D:Option Addr)(n m q cA cB cD:Nat)(d0 d1 d2 d3 d4:Int)(W:World)(Q:Exit->Act->World->Prop)(hc:(∀j,W.cell? ⟨cb,j,Oh⟩=(#[Oc A n cA,Oc B m cB,Oc D q cD,N9 Oa d0,N9 Oa d1,N9 Oa d2,N9 Oa d3,N9 Oa d4]:Array Value)[j]?))(kc:Calls prog 8 #[.agg #[Oc A n cA,Oc B m cB,Oc D q cD,N9 Oa d0,N9 Oa d1,N9 Oa d2,N9 Oa d3,N9 Oa d4]] W (Ha W))
  (hQ:∀(hU hV hW hY hZ i0 i3 i4:Value)(r:bH)(l:List Ent)(R:List aC)(g cg:Nat)(pl:Option Addr)(cl:Nat)(pr:Option Addr)(cr rb xb:Nat)(x0 x1 x2 x3 x4:Int)(p1:Option Addr)(n1 c1:Nat)(p2:Option Addr)(n2 c2:Nat)(bo:Bool)(wx:World),MadeIn W wx r l R g cg pl cl pr cr rb xb #[N9 Oa x0,N9 Oa x1,N9 Oa x2,N9 Oa x3,N9 Oa x4,Oc p1 n1 c1,Oc p2 n2 c2] bo->Q .normal ⟨aK (s0::s1::s2::Od (Og ⟨cb,0,Oh⟩)::s4::s5::s6::s7::Od (Og ⟨rb,0,Oh⟩)::Oc pl l.length cl::Oc pr R.length cr::Od (Og ⟨xb,0,Oh⟩)::.bool bo::ed::eg::ei::ej::hs::hh::em::hn::eo::d6::hf::d8::hU::hV::hW::hY::hZ::i0::i3::i4::d9::dc::dd::f1::f2::f3::f4::f6::f7::f9::fb::fe::fi::fn::fr::fs::fv::fx::fz::g0::g1::g2::g3::g4::g5::g6::g7::dg::dk::ds::dv::dx::dT::e0::e6::e7::g8::g9::ga::gc::gd::gf::gk::gn::go::gr::gs::gv::gx::gy::gA::gB::gD::gW::h0::h3::h4::e8::e9::ea::h5::h6::h7::h8::[h9,ha,he,a0,a1,a2,a3,a4,a5,a6,a7,a8,a9,ab,ad,af,ag,ao,b0,b1,b3,b4,b5,b6,b7,b8,b9,ba,bb,bc,bd,be,bf,bg,bh,bk,ck,cn,co,cs,ct,cx,cy,cG,cO,cS,cW,cX,d5,bm,bp,bq,br,bs,bt,c9,ca,cc,cd,cf,ch,ci,cj]),[]⟩ wx) :
  (db Tryz.f5 2).wp prog Q ⟨aK (s0::s1::s2::Od (Og ⟨cb,0,Oh⟩)::s4::s5::s6::s7::s8::s9::ht::hB::eb::ed::eg::ei::ej::hs::hh::em::hn::eo::d6::hf::d8::es::ex::ey::ez::eA::eB::eD::f0::d9::dc::dd::f1::f2::f3::f4::f6::f7::f9::fb::fe::fi::fn::fr::fs::fv::fx::fz::g0::g1::g2::g3::g4::g5::g6::g7::dg::dk::ds::dv::dx::dT::e0::e6::e7::g8::g9::ga::gc::gd::gf::gk::gn::go::gr::gs::gv::gx::gy::gA::gB::gD::gW::h0::h3::h4::e8::e9::ea::h5::h6::h7::h8::[h9,ha,he,a0,a1,a2,a3,a4,a5,a6,a7,a8,a9,ab,ad,af,ag,ao,b0,b1,b3,b4,b5,b6,b7,b8,b9,ba,bb,bc,bd,be,bf,bg,bh,bk,ck,cn,co,cs,ct,cx,cy,cG,cO,cS,cW,cX,d5,bm,bp,bq,br,bs,bt,c9,ca,cc,cd,cf,ch,ci,cj]),[]⟩ W:=by
 refine mOn ?_;generalize Q .normal=K at hQ |-;have HQ:=aa hQ;clear hQ
 conv=>arg 2;whnf
 have c0:=hc 0
 have c1:=hc 1;have c2:=hc 2;have c3:=hc 3;have c4:=hc 4;have c5:=hc 5;have c6:=hc 6;have c7:=hc 7;clear hc;go_wp2_with fail;refine kc.mono ?_;clear kc c0 c1 c2 c3 c4 c5 c6 c7;rintro _ w1⟨r,l,R,g,cg,pl,cl,pr,cr,X,bo,rfl,⟨x0,x1,x2,x3,x4,p1,n1,c1,p2,n2,c2,rfl⟩,hC,hK,hL,hR,hX⟩;obtain⟨hb,h1,h2⟩:=Bt w1 (Of #[N9 Oa r.school,Oc (Og ⟨g,0,Oh⟩) r.keys.length cg] 33) (Of #[N9 Oa x0,N9 Oa x1,N9 Oa x2,N9 Oa x3,N9 Oa x4,Oc p1 n1 c1,Oc p2 n2 c2] 39);have HM:Hid (MadeIn W _ r l R g cg pl cl pr cr w1.heap.size (w1.heap.size+1) #[N9 Oa x0,N9 Oa x1,N9 Oa x2,N9 Oa x3,N9 Oa x4,Oc p1 n1 c1,Oc p2 n2 c2] bo):=aa ⟨ah hK.low hb,hC,⟨av h1,ae h1⟩,⟨av h2,ae h2⟩,hK.next hb,hL.next hb,hR.next hb,fun e=>(hX e).next (Below.refl _ _) hb⟩;clear hC hK hL hR hX hb h1 h2;go_wp2_with fail;exact HQ.out _ _ _ _ _ _ _ _ _ _ _ _ _ _ _ _ _ _ _ _ _ _ _ _ _ _ _ _ _ _ _ _ HM.out
theorem rR{p:Prop} (h:p:=by
 refine mOn ?_;generalize Q .normal=K at hQ |-;have HQ:=aa hQ;clear hQ
 conv=>arg 2;whnf
 have c0:=hxb 0
 have c1:=hxb 1;have c2:=hxb 2;have c3:=hxb 3;have c4:=hxb 4;have c5:=hxb 5;have c6:=hxb 6;have r0:=hrb 0;have r1:=hrb 1;clear hrb hxb;go_wp2_with fail;refine kc.mono ?_;clear kc c0 c1 c2 c3 c4 c5 c6 r0 r1;rintro _ w1⟨p,c,rfl,hR,hb⟩;have h1:=heap_alloc_new w1 (Of #[Oc p EV.length c,N9 Oa hv,.bool cv] 51);have hba:=aj w1 (Of #[Oc p EV.length c,N9 Oa hv,.bool cv] 51);have HF:=aa (And.intro (ah hb hba) (And.intro (av h1) (And.intro (ae h1) (hR.below hba))));clear hR hb h1 hba;go_wp2_with fail
 exact HQ.out _ _ _ _ _ _ _ _ _ _ _ HF.out):p:=h
theorem NH(rb xb:Nat)(rs:Int)(g cg:Nat)(KL:List bG)(pr:Option Addr)(rl cr:Nat)(x0 x1 x2 x3 x4:Int)(pl pp:Option Addr)(n1 cl n2 cp:Nat)(EV:List Ent)(hv er:Int)(cv:Bool)(W:World)(Q:Exit->Act->World->Prop)(hrb:(∀j,W.cell? ⟨rb,j,Oh⟩=(#[N9 Oa rs,Oc (Og ⟨g,0,Oh⟩) KL.length cg]:Array Value)[j]?))(hxb:(∀j,W.cell? ⟨xb,j,Oh⟩=(#[N9 Oa x0,N9 Oa x1,N9 Oa x2,N9 Oa x3,N9 Oa x4,Oc pl n1 cl,Oc pp n2 cp]:Array Value)[j]?))(kc:Calls prog 13 #[.agg #[N9 Oa x0,N9 Oa x1,N9 Oa x2,N9 Oa x3,N9 Oa x4,Oc pl n1 cl,Oc pp n2 cp],Oc pr rl cr,.agg #[N9 Oa rs,Oc (Og ⟨g,0,Oh⟩) KL.length cg],N9 Oa 100000] W fun e w'=>∃p c,e=Oe (.tuple #[.agg #[Oc p EV.length c,N9 Oa hv,.bool cv],N9 Oa er])/\ar bL w' (Oc p EV.length c) EV/\ac W.heap.size W w')
  (hQ:∀(i5 i6 i7 i8 i9 ib ih:Value)(vb:Nat)(pe:Option Addr)(ce:Nat)(wx:World),ac W.heap.size W wx/\vb<wx.heap.size/\(∀i,wx.cell? ⟨vb,i,Oh⟩=(#[Oc pe EV.length ce,N9 Oa hv,.bool cv]:Array Value)[i]?)/\ar bL wx (Oc pe EV.length ce) EV->Q .normal ⟨aK (s0::s1::s2::s3::s4::s5::s6::s7::Od (Og ⟨rb,0,Oh⟩)::s9::Oc pr rl cr::Od (Og ⟨xb,0,Oh⟩)::eb::Od (Og ⟨vb,0,Oh⟩)::N9 Oa er::ei::ej::hs::hh::em::hn::eo::d6::hf::d8::es::ex::ey::ez::eA::eB::eD::f0::d9::dc::dd::i5::i6::i7::i8::i9::ib::ih::fb::fe::fi::fn::fr::fs::fv::fx::fz::g0::g1::g2::g3::g4::g5::g6::g7::dg::dk::ds::dv::dx::dT::e0::e6::e7::g8::g9::ga::gc::gd::gf::gk::gn::go::gr::gs::gv::gx::gy::gA::gB::gD::gW::h0::h3::h4::e8::e9::ea::h5::h6::h7::h8::[h9,ha,he,a0,a1,a2,a3,a4,a5,a6,a7,a8,a9,ab,ad,af,ag,ao,b0,b1,b3,b4,b5,b6,b7,b8,b9,ba,bb,bc,bd,be,bf,bg,bh,bk,ck,cn,co,cs,ct,cx,cy,cG,cO,cS,cW,cX,d5,bm,bp,bq,br,bs,bt,c9,ca,cc,cd,cf,ch,ci,cj]),[]⟩ wx) :
  (db Tryz.f5 5).wp prog Q ⟨aK (s0::s1::s2::s3::s4::s5::s6::s7::Od (Og ⟨rb,0,Oh⟩)::s9::Oc pr rl cr::Od (Og ⟨xb,0,Oh⟩)::eb::ed::eg::ei::ej::hs::hh::em::hn::eo::d6::hf::d8::es::ex::ey::ez::eA::eB::eD::f0::d9::dc::dd::f1::f2::f3::f4::f6::f7::f9::fb::fe::fi::fn::fr::fs::fv::fx::fz::g0::g1::g2::g3::g4::g5::g6::g7::dg::dk::ds::dv::dx::dT::e0::e6::e7::g8::g9::ga::gc::gd::gf::gk::gn::go::gr::gs::gv::gx::gy::gA::gB::gD::gW::h0::h3::h4::e8::e9::ea::h5::h6::h7::h8::[h9,ha,he,a0,a1,a2,a3,a4,a5,a6,a7,a8,a9,ab,ad,af,ag,ao,b0,b1,b3,b4,b5,b6,b7,b8,b9,ba,bb,bc,bd,be,bf,bg,bh,bk,ck,cn,co,cs,ct,cx,cy,cG,cO,cS,cW,cX,d5,bm,bp,bq,br,bs,bt,c9,ca,cc,cd,cf,ch,ci,cj]),[]⟩ W:=by
 exact rR
theorem I7(rb xb:Nat)(rs:Int)(g cg:Nat)(KL:List bG)(pr:Option Addr)(rl cr:Nat)(x0 x1 x2 x3 x4:Int)(pl pp:Option Addr)(n1 cl n2 cp:Nat)(EV:List Ent)(hv er:Int)(cv:Bool)(W:World)(Q:Exit->Act->World->Prop)(hrb:(∀j,W.cell? ⟨rb,j,Oh⟩=(#[N9 Oa rs,Oc (Og ⟨g,0,Oh⟩) KL.length cg]:Array Value)[j]?))(hxb:(∀j,W.cell? ⟨xb,j,Oh⟩=(#[N9 Oa x0,N9 Oa x1,N9 Oa x2,N9 Oa x3,N9 Oa x4,Oc pl n1 cl,Oc pp n2 cp]:Array Value)[j]?))(kc:Calls prog 13 #[.agg #[N9 Oa x0,N9 Oa x1,N9 Oa x2,N9 Oa x3,N9 Oa x4,Oc pl n1 cl,Oc pp n2 cp],Oc pr rl cr,.agg #[N9 Oa rs,Oc (Og ⟨g,0,Oh⟩) KL.length cg],N9 Oa 100000] W fun e w'=>∃p c,e=Oe (.tuple #[.agg #[Oc p EV.length c,N9 Oa hv,.bool cv],N9 Oa er])/\ar bL w' (Oc p EV.length c) EV/\ac W.heap.size W w')
  (hQ:∀(ks kt kv kw kx ky l0:Value)(vb:Nat)(pe:Option Addr)(ce:Nat)(wx:World),ac W.heap.size W wx/\vb<wx.heap.size/\(∀i,wx.cell? ⟨vb,i,Oh⟩=(#[Oc pe EV.length ce,N9 Oa hv,.bool cv]:Array Value)[i]?)/\ar bL wx (Oc pe EV.length ce) EV->Q .normal ⟨aK (s0::s1::s2::s3::s4::s5::s6::s7::s8::s9::Oc pr rl cr::Od (Og ⟨xb,0,Oh⟩)::eb::ed::eg::ei::ej::hs::Od (Og ⟨rb,0,Oh⟩)::em::Od (Og ⟨vb,0,Oh⟩)::N9 Oa er::d6::hf::d8::es::ex::ey::ez::eA::eB::eD::f0::d9::dc::dd::f1::f2::f3::f4::f6::f7::f9::fb::fe::fi::fn::fr::fs::fv::fx::fz::g0::g1::g2::g3::g4::g5::g6::g7::dg::dk::ds::dv::dx::dT::e0::e6::e7::g8::g9::ga::gc::gd::gf::gk::gn::go::gr::gs::gv::gx::gy::gA::gB::gD::gW::h0::h3::h4::e8::e9::ea::ks::kt::kv::kw::[kx,ky,l0,a0,a1,a2,a3,a4,a5,a6,a7,a8,a9,ab,ad,af,ag,ao,b0,b1,b3,b4,b5,b6,b7,b8,b9,ba,bb,bc,bd,be,bf,bg,bh,bk,ck,cn,co,cs,ct,cx,cy,cG,cO,cS,cW,cX,d5,bm,bp,bq,br,bs,bt,c9,ca,cc,cd,cf,ch,ci,cj]),[]⟩ wx) :
  (db Tryz.f5 13).wp prog Q ⟨aK (s0::s1::s2::s3::s4::s5::s6::s7::s8::s9::Oc pr rl cr::Od (Og ⟨xb,0,Oh⟩)::eb::ed::eg::ei::ej::hs::Od (Og ⟨rb,0,Oh⟩)::em::hn::eo::d6::hf::d8::es::ex::ey::ez::eA::eB::eD::f0::d9::dc::dd::f1::f2::f3::f4::f6::f7::f9::fb::fe::fi::fn::fr::fs::fv::fx::fz::g0::g1::g2::g3::g4::g5::g6::g7::dg::dk::ds::dv::dx::dT::e0::e6::e7::g8::g9::ga::gc::gd::gf::gk::gn::go::gr::gs::gv::gx::gy::gA::gB::gD::gW::h0::h3::h4::e8::e9::ea::h5::h6::h7::h8::[h9,ha,he,a0,a1,a2,a3,a4,a5,a6,a7,a8,a9,ab,ad,af,ag,ao,b0,b1,b3,b4,b5,b6,b7,b8,b9,ba,bb,bc,bd,be,bf,bg,bh,bk,ck,cn,co,cs,ct,cx,cy,cG,cO,cS,cW,cX,d5,bm,bp,bq,br,bs,bt,c9,ca,cc,cd,cf,ch,ci,cj]),[]⟩ W:=by
 exact rR
theorem Dp{p:Prop} (h:p:=by
 refine lZ ?_;have hset:=KS _ (bu hS.1 hlo_bx #[Oc p EV.length c,N9 Oa hv,.bool cv]);refine di ⟨_,_,_,_,_,_⟩ rfl mRf 51 _ _ mRf (b17) #[Oc p EV.length c,N9 Oa hv,.bool cv] mRf mRf _ _ hx_bx mKr rfl (by simp[Value.oneCell']) ⟨hset,?_⟩;replace hS:=hset;clear hset;replace hRW:=jg eG hRW hx_bx mDe #[Oc p EV.length c,N9 Oa hv,.bool cv];replace hx_bx:=setRow_heap z (b17) _ #[Oc p EV.length c,N9 Oa hv,.bool cv] _ _ hx_bx;generalize z.setRow (b17) #[Oc p EV.length c,N9 Oa hv,.bool cv]=z at hS hx_bx hRW |-;refine ay ?_;refine lh ?_;simp only[ec,aZ]
 exact HQ.out _ _ _ _ _ _ _ _ _ _ _ _ _ _ _ _ _ _ _ _ _ hRW hlo_bx hx_bx hS.1):p:=h
theorem Dq{p:Prop} (h:p:=by
 refine lZ ?_;refine bY ⟨_,_,_,_,_,_⟩ rfl mRf 13 _ _ mRf _ mRf call13 (KCK.out z _ _ hS.1 (hO_o.row dp mDe)) ?_;rintro x z⟨p,c,rfl,hRW,hb⟩;replace hS:=KS _ (ah hS.1 hb);replace hx_bx:=hb.heap_of hx_bx;clear hO_o hne_o_bx;clear hb;refine⟨_,rfl,hS,?_⟩;refine ay ?_
 iterate 3 refine lh ?_
 exact Dp):p:=h
theorem lB{p q:Prop}(h:q) (f:Wq q->p:=by
 intro hq;have lt_l3:=aG hx_l3;have hne2_l3:∀q,Value.ownBlock _=Og q->q≠b10:=fun q hq=>(hA.block.elim (fun e=>hne_o_l3 q (e.symm.trans hq)) (fun h=>by have:=h q hq;omega))
 replace hx_l3:=(hA.grown.block _ lt_l3 (fun e=>hne_o_l3 _ e.symm rfl)).trans hx_l3
 revert lt_l3 hne2_l3 hx_l3
 exact hq.1):p:=f ⟨h⟩
theorem nk{p q:Prop}(h:q) (f:Wq q->p:=by
 intro hq;have lt_bx:=aG hx_bx;have hne2_bx:∀q,Value.ownBlock _=Og q->q≠b17:=fun q hq=>(hA.block.elim (fun e=>hne_o_bx q (e.symm.trans hq)) (fun h=>by have:=h q hq;omega))
 replace hx_bx:=(hA.grown.block _ lt_bx (fun e=>hne_o_bx _ e.symm rfl)).trans hx_bx;replace hO_o:=hOn
 revert lt_bx hne2_bx hx_bx hO_o
 exact hq.1):p:=f ⟨h⟩
theorem yC{p:Prop} (h:p:=by
 refine lZ ?_;refine jK rtT ⟨_,_,_,_,_,_⟩ rfl mRf (.tmp 52) (.tmp 54) mRf W.heap.size _ _ _ _ mRf mRf hO_o.own (cN hx_l3 [rtThree] rfl rfl) (by simp only[ap,aB];rw[HLT.out];omega) hS.1.size ?_;intro v11 z hA;have hOn:=hO_o.app hA;obtain⟨p11,c11,hv11⟩:=hOn.form;subst hv11;refine lB ?_;intro lt_l3 hne2_l3 hx_l3;refine nk ?_;intro lt_bx hne2_bx hx_bx hO_o;clear hne_o_l3 lt_l3;have hne_o_l3:=hne2_l3;clear hne2_l3;clear hne_o_bx lt_bx;have hne_o_bx:=hne2_bx;clear hne2_bx;replace hS:=KS _ hO_o.low;clear hA hOn;refine⟨hS,?_⟩;clear hx_l3 hlo_l3 hne_o_l3;refine ay ?_
 exact Dq):p:=h
theorem gq{p q:Prop}(h:q) (f:Wq q->p:=by
 intro hq;have hb:=aj z (Of #[Oc Oh 0 0,N9 Oa 0,.bool false] 51);have hlo_bx:W.heap.size<=z.heap.size:=hS.1.size
 revert hb hlo_bx
 exact hq.1):p:=f ⟨h⟩
theorem gu{p q:Prop}(h:q) (f:Wq q->p:=by
 intro hq;have hx_bx:=heap_alloc_new z (Of #[Oc Oh 0 0,N9 Oa 0,.bool false] 51);replace hS:=KS _ (ah hS.1 hb)
 revert hx_bx hS
 exact hq.1):p:=f ⟨h⟩
theorem Dr{p:Prop} (h:p:=by
 refine mc ?_ ?_
 .refine jK rtT ⟨_,_,_,_,_,_⟩ rfl mRf (.tmp 52) (.tmp 54) mRf W.heap.size _ _ _ _ mRf mRf hO_o.own (cN hx_l3 [rtThree] rfl rfl) (by simp only[ap,aB];rw[HLT.out];omega) hS.1.size ?_;intro v11 z hA;have hOn:=hO_o.app hA;obtain⟨p11,c11,hv11⟩:=hOn.form;subst hv11;refine lB ?_;intro lt_l3 hne2_l3 hx_l3;replace hO_o:=hOn;clear hne_o_l3 lt_l3;have hne_o_l3:=hne2_l3;clear hne2_l3;replace hS:=KS _ hO_o.low;clear hA hOn;refine⟨hS,?_⟩;clear hx_l3 hlo_l3 hne_o_l3;refine ay ?_;refine mc ?_ ?_
  .refine bY ⟨_,_,_,_,_,_⟩ rfl mRf 13 _ _ mRf _ mRf call13 (KCK.out z _ _ hS.1 (hO_o.row dp mDe)) ?_;rintro x z⟨p,c,rfl,hRW,hb⟩;replace hS:=KS _ (ah hS.1 hb);clear hO_o;clear hb;refine⟨_,rfl,hS,?_⟩;refine ay ?_
   iterate 3 refine lh ?_
   refine lZ ?_;refine bU ⟨_,_,_,_,_,_⟩ (Od (Og ⟨z.heap.size,0,Oh⟩)) (z.alloc (Of #[Oc Oh 0 0,N9 Oa 0,.bool false] 51)) rfl mRf (by go_simp;try rfl) ⟨KS _ (ah hS.1 (aj _ _)),?_⟩;refine gq ?_;intro hb hlo_bx;replace hRW:=hRW.below hb;refine gu ?_;intro hx_bx hS;clear hb;generalize z.heap.size=b17 at hx_bx hlo_bx |-;generalize z.alloc (Of #[Oc Oh 0 0,N9 Oa 0,.bool false] 51)=z at hS hx_bx hRW |-;refine ay ?_;exact Dp
  .refine bU ⟨_,_,_,_,_,_⟩ (Od (Og ⟨z.heap.size,0,Oh⟩)) (z.alloc (Of #[Oc Oh 0 0,N9 Oa 0,.bool false] 51)) rfl mRf (by go_simp;try rfl) ⟨KS _ (ah hS.1 (aj _ _)),?_⟩;refine gq ?_;intro hb hlo_bx;have hne_o_bx:∀q,Value.ownBlock _=Og q->q≠z.heap.size:=fun q hq=>by have:=(hO_o.own.lt q hq).2;omega
   replace hO_o:=hO_o.next hb;refine gu ?_;intro hx_bx hS;clear hb;generalize z.heap.size=b17 at hx_bx hlo_bx hne_o_bx |-;generalize z.alloc (Of #[Oc Oh 0 0,N9 Oa 0,.bool false] 51)=z at hS hx_bx hO_o |-;refine ay ?_;exact Dq
 .refine bU ⟨_,_,_,_,_,_⟩ (Od (Og ⟨z.heap.size,0,Oh⟩)) (z.alloc (Of #[Oc Oh 0 0,N9 Oa 0,.bool false] 51)) rfl mRf (by go_simp;try rfl) ⟨KS _ (ah hS.1 (aj _ _)),?_⟩;refine gq ?_;intro hb hlo_bx;have lt_l3:=aG hx_l3;have hne_o_bx:∀q,Value.ownBlock _=Og q->q≠z.heap.size:=fun q hq=>by have:=(hO_o.own.lt q hq).2;omega
  replace hO_o:=hO_o.next hb;replace hx_l3:=hb.heap_of hx_l3;refine gu ?_;intro hx_bx hS;clear lt_l3;clear hb;generalize z.heap.size=b17 at hx_bx hlo_bx hne_o_bx |-;generalize z.alloc (Of #[Oc Oh 0 0,N9 Oa 0,.bool false] 51)=z at hS hx_l3 hx_bx hO_o |-;refine ay ?_
  exact yC):p:=h
theorem iC{p q:Prop}(h:q) (f:Wq q->p:=by
 intro hq;have hb:=aj z (Of #[N9 Oa 3,N9 Oa 0,N9 Oa 0,Ob ⟨#[]⟩,Ob ⟨#[]⟩,N9 Oa 0,Ob ⟨#[]⟩] 65);have hlo_l3:W.heap.size<=z.heap.size:=hS.1.size
 revert hb hlo_l3
 exact hq.1):p:=f ⟨h⟩
theorem iG{p q:Prop}(h:q) (f:Wq q->p:=by
 intro hq;have hx_l3:=heap_alloc_new z (Of #[N9 Oa 3,N9 Oa 0,N9 Oa 0,Ob ⟨#[]⟩,Ob ⟨#[]⟩,N9 Oa 0,Ob ⟨#[]⟩] 65);replace hS:=KS _ (ah hS.1 hb)
 revert hx_l3 hS
 exact hq.1):p:=f ⟨h⟩
theorem Ds{p:Prop} (h:p:=by
 refine lZ ?_;refine bU ⟨_,_,_,_,_,_⟩ (Oc (Og ⟨z.heap.size,0,Oh⟩) 1 1) (z.alloc (Of #[N9 Oa 3,N9 Oa 0,N9 Oa 0,Ob ⟨#[]⟩,Ob ⟨#[]⟩,N9 Oa 0,Ob ⟨#[]⟩] 65)) rfl mRf (by go_simp;try rfl) ⟨KS _ (ah hS.1 (aj _ _)),?_⟩;refine iC ?_;intro hb hlo_l3;have lt_bx:=aG hx_bx;have hne_o_l3:∀q,Value.ownBlock _=Og q->q≠z.heap.size:=fun q hq=>by have:=(hO_o.own.lt q hq).2;omega
 replace hO_o:=hO_o.next hb;replace hx_bx:=hb.heap_of hx_bx;refine iG ?_;intro hx_l3 hS;clear lt_bx;clear hb;generalize z.heap.size=b10 at hx_l3 hlo_l3 hne_o_l3 |-;generalize z.alloc (Of #[N9 Oa 3,N9 Oa 0,N9 Oa 0,Ob ⟨#[]⟩,Ob ⟨#[]⟩,N9 Oa 0,Ob ⟨#[]⟩] 65)=z at hS hx_bx hx_l3 hO_o |-;refine ay ?_
 exact yC):p:=h
theorem yD{p:Prop} (h:p:=by
 refine lZ ?_;refine jK rtT ⟨_,_,_,_,_,_⟩ rfl mRf (.tmp 46) (.tmp 51) mRf W.heap.size _ _ _ _ mRf mRf hO_o.own (HTK.out.below hS.1) (by rw[HLT.out];simp only[aB];omega) hS.1.size ?_;intro v8 z hA;have hOn:=hO_o.app hA;obtain⟨p8,c8,hv8⟩:=hOn.form;subst hv8;refine lB ?_;intro lt_l3 hne2_l3 hx_l3;refine nk ?_;intro lt_bx hne2_bx hx_bx hO_o;clear hne_o_l3 lt_l3;have hne_o_l3:=hne2_l3;clear hne2_l3;clear hne_o_bx lt_bx;have hne_o_bx:=hne2_bx;clear hne2_bx;replace hS:=KS _ hO_o.low;clear hA hOn;refine⟨hS,?_⟩;refine ay ?_
 exact yC):p:=h
theorem Dt{p:Prop} (h:p:=by
 refine mc ?_ ?_
 .refine jK rtT ⟨_,_,_,_,_,_⟩ rfl mRf (.tmp 46) (.tmp 51) mRf W.heap.size _ _ _ _ mRf mRf hO_o.own (HTK.out.below hS.1) (by rw[HLT.out];simp only[aB];omega) hS.1.size ?_;intro v8 z hA;have hOn:=hO_o.app hA;obtain⟨p8,c8,hv8⟩:=hOn.form;subst hv8;refine lB ?_;intro lt_l3 hne2_l3 hx_l3;replace hO_o:=hOn;clear hne_o_l3 lt_l3;have hne_o_l3:=hne2_l3;clear hne2_l3;replace hS:=KS _ hO_o.low;clear hA hOn;refine⟨hS,?_⟩;refine ay ?_;exact Dr
 .refine bU ⟨_,_,_,_,_,_⟩ (Od (Og ⟨z.heap.size,0,Oh⟩)) (z.alloc (Of #[Oc Oh 0 0,N9 Oa 0,.bool false] 51)) rfl mRf (by go_simp;try rfl) ⟨KS _ (ah hS.1 (aj _ _)),?_⟩;refine gq ?_;intro hb hlo_bx;have lt_l3:=aG hx_l3;have hne_o_bx:∀q,Value.ownBlock _=Og q->q≠z.heap.size:=fun q hq=>by have:=(hO_o.own.lt q hq).2;omega
  replace hO_o:=hO_o.next hb;replace hx_l3:=hb.heap_of hx_l3;refine gu ?_;intro hx_bx hS;clear lt_l3;clear hb;generalize z.heap.size=b17 at hx_bx hlo_bx hne_o_bx |-;generalize z.alloc (Of #[Oc Oh 0 0,N9 Oa 0,.bool false] 51)=z at hS hx_l3 hx_bx hO_o |-;refine ay ?_
  exact yD):p:=h
theorem Du{p:Prop} (h:p:=by
 refine mc ?_ ?_
 .refine jK rtT ⟨_,_,_,_,_,_⟩ rfl mRf (.tmp 46) (.tmp 51) mRf W.heap.size _ _ _ _ mRf mRf hO_o.own (HTK.out.below hS.1) (by rw[HLT.out];simp only[aB];omega) hS.1.size ?_;intro v8 z hA;have hOn:=hO_o.app hA;obtain⟨p8,c8,hv8⟩:=hOn.form;subst hv8;refine nk ?_;intro lt_bx hne2_bx hx_bx hO_o;clear hne_o_bx lt_bx;have hne_o_bx:=hne2_bx;clear hne2_bx;replace hS:=KS _ hO_o.low;clear hA hOn;refine⟨hS,?_⟩;refine ay ?_;exact Ds
 .refine bU ⟨_,_,_,_,_,_⟩ (Oc (Og ⟨z.heap.size,0,Oh⟩) 1 1) (z.alloc (Of #[N9 Oa 3,N9 Oa 0,N9 Oa 0,Ob ⟨#[]⟩,Ob ⟨#[]⟩,N9 Oa 0,Ob ⟨#[]⟩] 65)) rfl mRf (by go_simp;try rfl) ⟨KS _ (ah hS.1 (aj _ _)),?_⟩;refine iC ?_;intro hb hlo_l3;have lt_bx:=aG hx_bx;have hne_o_l3:∀q,Value.ownBlock _=Og q->q≠z.heap.size:=fun q hq=>by have:=(hO_o.own.lt q hq).2;omega
  replace hO_o:=hO_o.next hb;replace hx_bx:=hb.heap_of hx_bx;refine iG ?_;intro hx_l3 hS;clear lt_bx;clear hb;generalize z.heap.size=b10 at hx_l3 hlo_l3 hne_o_l3 |-;generalize z.alloc (Of #[N9 Oa 3,N9 Oa 0,N9 Oa 0,Ob ⟨#[]⟩,Ob ⟨#[]⟩,N9 Oa 0,Ob ⟨#[]⟩] 65)=z at hS hx_bx hx_l3 hO_o |-;refine ay ?_
  exact yD):p:=h
theorem ly{p q:Prop}(h:q) (f:Wq q->p:=by
 intro hq;have hx_l2:=heap_alloc_new z (Of #[N9 Oa 2,N9 Oa 0,N9 Oa 0,Ob ⟨#[]⟩,Ob ⟨#[]⟩,N9 Oa 0,Ob ⟨#[]⟩] 65);have hO_o:=(mj (enc:=cY) (k:=7) 65 z #[N9 Oa 2,N9 Oa 0,N9 Oa 0,Ob ⟨#[]⟩,Ob ⟨#[]⟩,N9 Oa 0,Ob ⟨#[]⟩] [rtTwo] 1 rfl mDe rfl rfl).from_ hS.1
 revert hx_l2 hO_o
 exact hq.1):p:=f ⟨h⟩
theorem lD{p q:Prop}(h:q) (f:Wq q->p:=by
 intro hq;have hb:=aj z (Of #[N9 Oa 2,N9 Oa 0,N9 Oa 0,Ob ⟨#[]⟩,Ob ⟨#[]⟩,N9 Oa 0,Ob ⟨#[]⟩] 65);have hlo_l2:W.heap.size<=z.heap.size:=hS.1.size
 revert hb hlo_l2
 exact hq.1):p:=f ⟨h⟩
theorem Dv{p:Prop} (h:p:=by
 refine lZ ?_;refine bU ⟨_,_,_,_,_,_⟩ (Oc (Og ⟨z.heap.size,0,Oh⟩) 1 1) (z.alloc (Of #[N9 Oa 2,N9 Oa 0,N9 Oa 0,Ob ⟨#[]⟩,Ob ⟨#[]⟩,N9 Oa 0,Ob ⟨#[]⟩] 65)) rfl mRf (by go_simp;try rfl) ⟨KS _ (ah hS.1 (aj _ _)),?_⟩;refine lD ?_;intro hb hlo_l2;have lt_l3:=aG hx_l3;have lt_bx:=aG hx_bx;replace hx_l3:=hb.heap_of hx_l3;replace hx_bx:=hb.heap_of hx_bx;refine ly ?_;intro hx_l2 hO_o;have hne_o_l3:∀q,Value.ownBlock (Oc (Og ⟨z.heap.size,0,Oh⟩) 1 1)=Og q->q≠b10:=fun q hq=>by obtain rfl:z.heap.size=q:=Option.some.inj hq;omega
 have hne_o_bx:∀q,Value.ownBlock (Oc (Og ⟨z.heap.size,0,Oh⟩) 1 1)=Og q->q≠b17:=fun q hq=>by obtain rfl:z.heap.size=q:=Option.some.inj hq;omega
 replace hS:=KS _ (ah hS.1 hb);clear lt_l3;clear lt_bx;clear hb;generalize z.heap.size=b2 at hx_l2 hlo_l2 hO_o hne_o_l3 hne_o_bx |-;generalize z.alloc (Of #[N9 Oa 2,N9 Oa 0,N9 Oa 0,Ob ⟨#[]⟩,Ob ⟨#[]⟩,N9 Oa 0,Ob ⟨#[]⟩] 65)=z at hS hx_l3 hx_bx hx_l2 hO_o |-;clear hx_l2 hlo_l2;refine ay ?_
 exact yD):p:=h
theorem NI(rb xb:Nat)(rs:Int)(g cg:Nat)(KL:List bG)(pr:Option Addr)(rl cr k:Nat)(R:List aC)(x0 x1 x2 x3:Int)(pl pp:Option Addr)(n1 cl n2 cp:Nat)(EV:List Ent)(hv er:Int)(cv:Bool)(W:World)(Q:Exit->Act->World->Prop)(hrb:(∀j,W.cell? ⟨rb,j,Oh⟩=(#[N9 Oa rs,Oc (Og ⟨g,0,Oh⟩) KL.length cg]:Array Value)[j]?))(hxb:(∀j,W.cell? ⟨xb,j,Oh⟩=(#[N9 Oa x0,N9 Oa x1,N9 Oa x2,N9 Oa x3,N9 Oa (k:Int),Oc pl n1 cl,Oc pp n2 cp]:Array Value)[j]?))(hl:rb<W.heap.size/\xb<W.heap.size)(hrl:rl=R.length)(hk:k<R.length)(hR:R.length<=1000)(hr:ar cY W (Oc pr rl cr) R)(kck:∀u (pz:Option Addr) (cz:Nat),ac W.heap.size W u->ar cY u (Oc pz ([rtTwo]++R.take (k+1)++[rtThree]).length cz) ([rtTwo]++R.take (k+1)++[rtThree])->Calls prog 13 #[.agg #[N9 Oa x0,N9 Oa x1,N9 Oa x2,N9 Oa x3,N9 Oa (k:Int),Oc pl n1 cl,Oc pp n2 cp],Oc pz ([rtTwo]++R.take (k+1)++[rtThree]).length cz,.agg #[N9 Oa rs,Oc (Og ⟨g,0,Oh⟩) KL.length cg],N9 Oa 100000] u fun e w'=>∃p c,e=Oe (.tuple #[.agg #[Oc p EV.length c,N9 Oa hv,.bool cv],N9 Oa er])/\ar bL w' (Oc p EV.length c) EV/\ac u.heap.size u w')
  (hQ:∀(ii im io ix j2 j3 j4 j5 j6 j7 j8 j9 jl k0 k1 k2 k3:Value)(wx:World)(bx:Nat)(p:Option Addr)(c:Nat),ar bL wx (Oc p EV.length c) EV->W.heap.size<=bx->wx.heap[bx]? = Og (Of #[Oc p EV.length c,N9 Oa hv,.bool cv] 51 (0,0))->ac W.heap.size W wx->Q .normal ⟨aK (s0::s1::s2::s3::s4::s5::s6::s7::Od (Og ⟨rb,0,Oh⟩)::s9::Oc pr rl cr::Od (Og ⟨xb,0,Oh⟩)::eb::ed::eg::Od (Og ⟨bx,0,Oh⟩)::N9 Oa er::hs::hh::em::hn::eo::d6::hf::d8::es::ex::ey::ez::eA::eB::eD::f0::d9::dc::dd::f1::f2::f3::f4::f6::f7::f9::ii::im::io::ix::j2::j3::j4::j5::j6::j7::j8::j9::jl::k0::k1::k2::k3::dg::dk::ds::dv::dx::dT::e0::e6::e7::g8::g9::ga::gc::gd::gf::gk::gn::go::gr::gs::gv::gx::gy::gA::gB::gD::gW::h0::h3::h4::e8::e9::ea::h5::h6::h7::h8::[h9,ha,he,a0,a1,a2,a3,a4,a5,a6,a7,a8,a9,ab,ad,af,ag,ao,b0,b1,b3,b4,b5,b6,b7,b8,b9,ba,bb,bc,bd,be,bf,bg,bh,bk,ck,cn,co,cs,ct,cx,cy,cG,cO,cS,cW,cX,d5,bm,bp,bq,br,bs,bt,c9,ca,cc,cd,cf,ch,ci,cj]),[]⟩ wx) :
  (db Tryz.f5 6).wp prog Q ⟨aK (s0::s1::s2::s3::s4::s5::s6::s7::Od (Og ⟨rb,0,Oh⟩)::s9::Oc pr rl cr::Od (Og ⟨xb,0,Oh⟩)::eb::ed::eg::ei::ej::hs::hh::em::hn::eo::d6::hf::d8::es::ex::ey::ez::eA::eB::eD::f0::d9::dc::dd::f1::f2::f3::f4::f6::f7::f9::fb::fe::fi::fn::fr::fs::fv::fx::fz::g0::g1::g2::g3::g4::g5::g6::g7::dg::dk::ds::dv::dx::dT::e0::e6::e7::g8::g9::ga::gc::gd::gf::gk::gn::go::gr::gs::gv::gx::gy::gA::gB::gD::gW::h0::h3::h4::e8::e9::ea::h5::h6::h7::h8::[h9,ha,he,a0,a1,a2,a3,a4,a5,a6,a7,a8,a9,ab,ad,af,ag,ao,b0,b1,b3,b4,b5,b6,b7,b8,b9,ba,bb,bc,bd,be,bf,bg,bh,bk,ck,cn,co,cs,ct,cx,cy,cG,cO,cS,cW,cX,d5,bm,bp,bq,br,bs,bt,c9,ca,cc,cd,cf,ch,ci,cj]),[]⟩ W:=by
 refine mOn ?_;generalize Q .normal=K at hQ |-;have HQ:=aa hQ;clear hQ
 conv=>arg 2;whnf
 subst hrl
 have KCK:=aa kck;obtain⟨hl1,hl2⟩:=hl;have KS:∀u,ac W.heap.size W u->ac W.heap.size W u/\(∀j,u.cell? ⟨xb,j,Oh⟩=(#[N9 Oa x0,N9 Oa x1,N9 Oa x2,N9 Oa x3,N9 Oa (k:Int),Oc pl n1 cl,Oc pp n2 cp]:Array Value)[j]?)/\(∀j,u.cell? ⟨rb,j,Oh⟩=(#[N9 Oa rs,Oc (Og ⟨g,0,Oh⟩) KL.length cg]:Array Value)[j]?):=fun u hu=>⟨hu,fun j=>(hu.cell (p:=⟨xb,j,Oh⟩) hl2).trans (hxb j),fun j=>(hu.cell (p:=⟨rb,j,Oh⟩) hl1).trans (hrb j)⟩
 have HLT:Hid ((R.take (k+1)).length=k+1):=aa (by rw[List.length_take];omega);have HTK:=aa (hr.take (m:=k+1) rfl mOm);have hcr:R.length<=cr:=by obtain⟨p',c',e',h1,_⟩:=hr;injection e' with _ _ e3;omega
 have HPN:Hid (pr=Oh->cr=0):=aa (by obtain⟨p',c',e',_,h1,_⟩:=hr;injection e' with e1 _ e3;rw[e1,e3];exact h1);have w1:IntKind.i64.wrap ((k:Int)+1)=((k+1:Nat):Int):=by rw[aH _ mOm];omega
 clear kck hxb hrb hr;have hS:ac W.heap.size W W.drew/\(∀j,W.drew.cell? ⟨xb,j,Oh⟩=(#[N9 Oa x0,N9 Oa x1,N9 Oa x2,N9 Oa x3,N9 Oa (k:Int),Oc pl n1 cl,Oc pp n2 cp]:Array Value)[j]?)/\(∀j,W.drew.cell? ⟨rb,j,Oh⟩=(#[N9 Oa rs,Oc (Og ⟨g,0,Oh⟩) KL.length cg]:Array Value)[j]?):=KS _ (Below.refl _ _).drew;refine xn (S:=fun u=>ac W.heap.size W u/\(∀j,u.cell? ⟨xb,j,Oh⟩=(#[N9 Oa x0,N9 Oa x1,N9 Oa x2,N9 Oa x3,N9 Oa (k:Int),Oc pl n1 cl,Oc pp n2 cp]:Array Value)[j]?)/\(∀j,u.cell? ⟨rb,j,Oh⟩=(#[N9 Oa rs,Oc (Og ⟨g,0,Oh⟩) KL.length cg]:Array Value)[j]?)) (.take 0 (.take 1 (.take 3 (.take 4 (.take 5 (.take 6 (.take 7 (.take 9 (.take 12 (.three 2 10 17 (.three 8 10 17 (.two 10 17 (.two 11 17 (.two 13 17 (.take 14 (.take 15 (.take 16 (.one 17 (.one 18 (.take 19 .done)))))) (.one 13 (.take 14 (.take 15 (.take 16 (.one 18 (.take 19 .done))))))) (.one 11 (.one 13 (.take 14 (.take 15 (.take 16 (.one 18 (.take 19 .done)))))))) (.one 10 (.one 11 (.one 13 (.take 14 (.take 15 (.take 16 (.one 18 (.take 19 .done))))))))) (.two 8 17 (.two 11 17 (.two 13 17 (.take 14 (.take 15 (.take 16 (.one 17 (.one 18 (.take 19 .done)))))) (.one 13 (.take 14 (.take 15 (.take 16 (.one 18 (.take 19 .done))))))) (.one 11 (.one 13 (.take 14 (.take 15 (.take 16 (.one 18 (.take 19 .done)))))))) (.one 8 (.one 11 (.one 13 (.take 14 (.take 15 (.take 16 (.one 18 (.take 19 .done))))))))) (.two 8 10 (.one 10 (.one 11 (.one 13 (.take 14 (.take 15 (.take 16 (.one 18 (.take 19 .done)))))))) (.one 8 (.one 11 (.one 13 (.take 14 (.take 15 (.take 16 (.one 18 (.take 19 .done)))))))))) (.two 2 17 (.two 8 17 (.two 11 17 (.two 13 17 (.take 14 (.take 15 (.take 16 (.one 17 (.one 18 (.take 19 .done)))))) (.one 13 (.take 14 (.take 15 (.take 16 (.one 18 (.take 19 .done))))))) (.one 11 (.one 13 (.take 14 (.take 15 (.take 16 (.one 18 (.take 19 .done)))))))) (.one 8 (.one 11 (.one 13 (.take 14 (.take 15 (.take 16 (.one 18 (.take 19 .done))))))))) (.one 2 (.one 8 (.one 11 (.one 13 (.take 14 (.take 15 (.take 16 (.one 18 (.take 19 .done)))))))))) (.two 2 10 (.two 8 10 (.one 10 (.one 11 (.one 13 (.take 14 (.take 15 (.take 16 (.one 18 (.take 19 .done)))))))) (.one 8 (.one 11 (.one 13 (.take 14 (.take 15 (.take 16 (.one 18 (.take 19 .done))))))))) (.one 2 (.one 8 (.one 11 (.one 13 (.take 14 (.take 15 (.take 16 (.one 18 (.take 19 .done)))))))))))))))))))) hS ?_;generalize W.drew=z at hS |-
 iterate 6 refine lh ?_
 refine GZ ⟨_,_,_,_,_,_⟩ rfl mRf 35 65 (.tmp 47) (.tmp 50) mRf underlying35 sizeOf65 pr R.length cr (k+1) mRf mRf mOm hcr HPN.out ?_;refine ay ?_
 iterate 2 refine lh ?_
 refine xP ?_ ?_ ?_
 .refine bU ⟨_,_,_,_,_,_⟩ (Oc (Og ⟨z.heap.size,0,Oh⟩) 1 1) (z.alloc (Of #[N9 Oa 2,N9 Oa 0,N9 Oa 0,Ob ⟨#[]⟩,Ob ⟨#[]⟩,N9 Oa 0,Ob ⟨#[]⟩] 65)) rfl mRf (by go_simp;try rfl) ⟨KS _ (ah hS.1 (aj _ _)),?_⟩;refine lD ?_;intro hb hlo_l2;refine ly ?_;intro hx_l2 hO_o;replace hS:=KS _ (ah hS.1 hb);clear hb;generalize z.heap.size=b2 at hx_l2 hlo_l2 hO_o |-;generalize z.alloc (Of #[N9 Oa 2,N9 Oa 0,N9 Oa 0,Ob ⟨#[]⟩,Ob ⟨#[]⟩,N9 Oa 0,Ob ⟨#[]⟩] 65)=z at hS hx_l2 hO_o |-;clear hx_l2 hlo_l2;refine ay ?_;refine xP ?_ ?_ ?_
  .refine jK rtT ⟨_,_,_,_,_,_⟩ rfl mRf (.tmp 46) (.tmp 51) mRf W.heap.size _ _ _ _ mRf mRf hO_o.own (HTK.out.below hS.1) (by rw[HLT.out];simp only[aB];omega) hS.1.size ?_;intro v8 z hA;have hOn:=hO_o.app hA;obtain⟨p8,c8,hv8⟩:=hOn.form;subst hv8;replace hO_o:=hOn;replace hS:=KS _ hO_o.low;clear hA hOn;refine⟨hS,?_⟩;refine ay ?_;refine mc ?_ ?_
   .refine bU ⟨_,_,_,_,_,_⟩ (Oc (Og ⟨z.heap.size,0,Oh⟩) 1 1) (z.alloc (Of #[N9 Oa 3,N9 Oa 0,N9 Oa 0,Ob ⟨#[]⟩,Ob ⟨#[]⟩,N9 Oa 0,Ob ⟨#[]⟩] 65)) rfl mRf (by go_simp;try rfl) ⟨KS _ (ah hS.1 (aj _ _)),?_⟩;refine iC ?_;intro hb hlo_l3;have hne_o_l3:∀q,Value.ownBlock _=Og q->q≠z.heap.size:=fun q hq=>by have:=(hO_o.own.lt q hq).2;omega
    replace hO_o:=hO_o.next hb;refine iG ?_;intro hx_l3 hS;clear hb;generalize z.heap.size=b10 at hx_l3 hlo_l3 hne_o_l3 |-;generalize z.alloc (Of #[N9 Oa 3,N9 Oa 0,N9 Oa 0,Ob ⟨#[]⟩,Ob ⟨#[]⟩,N9 Oa 0,Ob ⟨#[]⟩] 65)=z at hS hx_l3 hO_o |-;refine ay ?_;exact Dr
   .refine bU ⟨_,_,_,_,_,_⟩ (Od (Og ⟨z.heap.size,0,Oh⟩)) (z.alloc (Of #[Oc Oh 0 0,N9 Oa 0,.bool false] 51)) rfl mRf (by go_simp;try rfl) ⟨KS _ (ah hS.1 (aj _ _)),?_⟩;refine gq ?_;intro hb hlo_bx;have hne_o_bx:∀q,Value.ownBlock _=Og q->q≠z.heap.size:=fun q hq=>by have:=(hO_o.own.lt q hq).2;omega
    replace hO_o:=hO_o.next hb;refine gu ?_;intro hx_bx hS;clear hb;generalize z.heap.size=b17 at hx_bx hlo_bx hne_o_bx |-;generalize z.alloc (Of #[Oc Oh 0 0,N9 Oa 0,.bool false] 51)=z at hS hx_bx hO_o |-;refine ay ?_;exact Ds
  .refine bU ⟨_,_,_,_,_,_⟩ (Oc (Og ⟨z.heap.size,0,Oh⟩) 1 1) (z.alloc (Of #[N9 Oa 3,N9 Oa 0,N9 Oa 0,Ob ⟨#[]⟩,Ob ⟨#[]⟩,N9 Oa 0,Ob ⟨#[]⟩] 65)) rfl mRf (by go_simp;try rfl) ⟨KS _ (ah hS.1 (aj _ _)),?_⟩;refine iC ?_;intro hb hlo_l3;have hne_o_l3:∀q,Value.ownBlock _=Og q->q≠z.heap.size:=fun q hq=>by have:=(hO_o.own.lt q hq).2;omega
   replace hO_o:=hO_o.next hb;refine iG ?_;intro hx_l3 hS;clear hb;generalize z.heap.size=b10 at hx_l3 hlo_l3 hne_o_l3 |-;generalize z.alloc (Of #[N9 Oa 3,N9 Oa 0,N9 Oa 0,Ob ⟨#[]⟩,Ob ⟨#[]⟩,N9 Oa 0,Ob ⟨#[]⟩] 65)=z at hS hx_l3 hO_o |-;refine ay ?_;exact Dt
  .refine bU ⟨_,_,_,_,_,_⟩ (Od (Og ⟨z.heap.size,0,Oh⟩)) (z.alloc (Of #[Oc Oh 0 0,N9 Oa 0,.bool false] 51)) rfl mRf (by go_simp;try rfl) ⟨KS _ (ah hS.1 (aj _ _)),?_⟩;refine gq ?_;intro hb hlo_bx;have hne_o_bx:∀q,Value.ownBlock _=Og q->q≠z.heap.size:=fun q hq=>by have:=(hO_o.own.lt q hq).2;omega
   replace hO_o:=hO_o.next hb;refine gu ?_;intro hx_bx hS;clear hb;generalize z.heap.size=b17 at hx_bx hlo_bx hne_o_bx |-;generalize z.alloc (Of #[Oc Oh 0 0,N9 Oa 0,.bool false] 51)=z at hS hx_bx hO_o |-;refine ay ?_;exact Du
 .refine bU ⟨_,_,_,_,_,_⟩ (Oc (Og ⟨z.heap.size,0,Oh⟩) 1 1) (z.alloc (Of #[N9 Oa 3,N9 Oa 0,N9 Oa 0,Ob ⟨#[]⟩,Ob ⟨#[]⟩,N9 Oa 0,Ob ⟨#[]⟩] 65)) rfl mRf (by go_simp;try rfl) ⟨KS _ (ah hS.1 (aj _ _)),?_⟩;refine iC ?_;intro hb hlo_l3;refine iG ?_;intro hx_l3 hS;clear hb;generalize z.heap.size=b10 at hx_l3 hlo_l3 |-;generalize z.alloc (Of #[N9 Oa 3,N9 Oa 0,N9 Oa 0,Ob ⟨#[]⟩,Ob ⟨#[]⟩,N9 Oa 0,Ob ⟨#[]⟩] 65)=z at hS hx_l3 |-;refine ay ?_;refine mc ?_ ?_
  .refine bU ⟨_,_,_,_,_,_⟩ (Oc (Og ⟨z.heap.size,0,Oh⟩) 1 1) (z.alloc (Of #[N9 Oa 2,N9 Oa 0,N9 Oa 0,Ob ⟨#[]⟩,Ob ⟨#[]⟩,N9 Oa 0,Ob ⟨#[]⟩] 65)) rfl mRf (by go_simp;try rfl) ⟨KS _ (ah hS.1 (aj _ _)),?_⟩;refine lD ?_;intro hb hlo_l2;have lt_l3:=aG hx_l3;replace hx_l3:=hb.heap_of hx_l3;refine ly ?_;intro hx_l2 hO_o;have hne_o_l3:∀q,Value.ownBlock (Oc (Og ⟨z.heap.size,0,Oh⟩) 1 1)=Og q->q≠b10:=fun q hq=>by obtain rfl:z.heap.size=q:=Option.some.inj hq;omega
   replace hS:=KS _ (ah hS.1 hb);clear lt_l3;clear hb;generalize z.heap.size=b2 at hx_l2 hlo_l2 hO_o hne_o_l3 |-;generalize z.alloc (Of #[N9 Oa 2,N9 Oa 0,N9 Oa 0,Ob ⟨#[]⟩,Ob ⟨#[]⟩,N9 Oa 0,Ob ⟨#[]⟩] 65)=z at hS hx_l3 hx_l2 hO_o |-;clear hx_l2 hlo_l2;refine ay ?_;exact Dt
  .refine bU ⟨_,_,_,_,_,_⟩ (Od (Og ⟨z.heap.size,0,Oh⟩)) (z.alloc (Of #[Oc Oh 0 0,N9 Oa 0,.bool false] 51)) rfl mRf (by go_simp;try rfl) ⟨KS _ (ah hS.1 (aj _ _)),?_⟩;refine gq ?_;intro hb hlo_bx;have lt_l3:=aG hx_l3;replace hx_l3:=hb.heap_of hx_l3;refine gu ?_;intro hx_bx hS;clear lt_l3;clear hb;generalize z.heap.size=b17 at hx_bx hlo_bx |-;generalize z.alloc (Of #[Oc Oh 0 0,N9 Oa 0,.bool false] 51)=z at hS hx_l3 hx_bx |-;refine ay ?_;exact Dv
 .refine bU ⟨_,_,_,_,_,_⟩ (Od (Og ⟨z.heap.size,0,Oh⟩)) (z.alloc (Of #[Oc Oh 0 0,N9 Oa 0,.bool false] 51)) rfl mRf (by go_simp;try rfl) ⟨KS _ (ah hS.1 (aj _ _)),?_⟩;refine gq ?_;intro hb hlo_bx;refine gu ?_;intro hx_bx hS;clear hb;generalize z.heap.size=b17 at hx_bx hlo_bx |-;generalize z.alloc (Of #[Oc Oh 0 0,N9 Oa 0,.bool false] 51)=z at hS hx_bx |-;refine ay ?_;refine mc ?_ ?_
  .refine bU ⟨_,_,_,_,_,_⟩ (Oc (Og ⟨z.heap.size,0,Oh⟩) 1 1) (z.alloc (Of #[N9 Oa 2,N9 Oa 0,N9 Oa 0,Ob ⟨#[]⟩,Ob ⟨#[]⟩,N9 Oa 0,Ob ⟨#[]⟩] 65)) rfl mRf (by go_simp;try rfl) ⟨KS _ (ah hS.1 (aj _ _)),?_⟩;refine lD ?_;intro hb hlo_l2;have lt_bx:=aG hx_bx;replace hx_bx:=hb.heap_of hx_bx;refine ly ?_;intro hx_l2 hO_o;have hne_o_bx:∀q,Value.ownBlock (Oc (Og ⟨z.heap.size,0,Oh⟩) 1 1)=Og q->q≠b17:=fun q hq=>by obtain rfl:z.heap.size=q:=Option.some.inj hq;omega
   replace hS:=KS _ (ah hS.1 hb);clear lt_bx;clear hb;generalize z.heap.size=b2 at hx_l2 hlo_l2 hO_o hne_o_bx |-;generalize z.alloc (Of #[N9 Oa 2,N9 Oa 0,N9 Oa 0,Ob ⟨#[]⟩,Ob ⟨#[]⟩,N9 Oa 0,Ob ⟨#[]⟩] 65)=z at hS hx_bx hx_l2 hO_o |-;clear hx_l2 hlo_l2;refine ay ?_;exact Du
  .refine bU ⟨_,_,_,_,_,_⟩ (Oc (Og ⟨z.heap.size,0,Oh⟩) 1 1) (z.alloc (Of #[N9 Oa 3,N9 Oa 0,N9 Oa 0,Ob ⟨#[]⟩,Ob ⟨#[]⟩,N9 Oa 0,Ob ⟨#[]⟩] 65)) rfl mRf (by go_simp;try rfl) ⟨KS _ (ah hS.1 (aj _ _)),?_⟩;refine iC ?_;intro hb hlo_l3;have lt_bx:=aG hx_bx;replace hx_bx:=hb.heap_of hx_bx;refine iG ?_;intro hx_l3 hS;clear lt_bx;clear hb;generalize z.heap.size=b10 at hx_l3 hlo_l3 |-;generalize z.alloc (Of #[N9 Oa 3,N9 Oa 0,N9 Oa 0,Ob ⟨#[]⟩,Ob ⟨#[]⟩,N9 Oa 0,Ob ⟨#[]⟩] 65)=z at hS hx_bx hx_l3 |-;refine ay ?_;exact Dv
theorem NJ(rb:Nat)(wh:Int)(rs:Int)(g cg:Nat)(KL:List bG)(j:Nat)(W:World)(Q:Exit->Act->World->Prop)(hrb:(∀j,W.cell? ⟨rb,j,Oh⟩=(#[N9 Oa rs,Oc (Og ⟨g,0,Oh⟩) KL.length cg]:Array Value)[j]?))(hw:0<=wh/\wh<256)(hK:0<KL.length/\KL.length<=1000)(hj:wh%(KL.length:Int)=(j:Int))
  (hQ:∀(k4 k5 k6 k7 k8 k9:Value),Q .normal ⟨aK (s0::N9 .u8 wh::s2::s3::s4::s5::s6::s7::Od (Og ⟨rb,0,Oh⟩)::s9::ht::hB::eb::ed::eg::ei::ej::N9 Oa (j:Int)::hh::em::hn::eo::d6::hf::d8::es::ex::ey::ez::eA::eB::eD::f0::d9::dc::dd::f1::f2::f3::f4::f6::f7::f9::fb::fe::fi::fn::fr::fs::fv::fx::fz::g0::g1::g2::g3::g4::g5::g6::g7::dg::dk::ds::dv::dx::dT::e0::e6::e7::k4::k5::k6::k7::k8::k9::gk::gn::go::gr::gs::gv::gx::gy::gA::gB::gD::gW::h0::h3::h4::e8::e9::ea::h5::h6::h7::h8::[h9,ha,he,a0,a1,a2,a3,a4,a5,a6,a7,a8,a9,ab,ad,af,ag,ao,b0,b1,b3,b4,b5,b6,b7,b8,b9,ba,bb,bc,bd,be,bf,bg,bh,bk,ck,cn,co,cs,ct,cx,cy,cG,cO,cS,cW,cX,d5,bm,bp,bq,br,bs,bt,c9,ca,cc,cd,cf,ch,ci,cj]),[]⟩ W) :
  (db Tryz.f5 9).wp prog Q ⟨aK (s0::N9 .u8 wh::s2::s3::s4::s5::s6::s7::Od (Og ⟨rb,0,Oh⟩)::s9::ht::hB::eb::ed::eg::ei::ej::hs::hh::em::hn::eo::d6::hf::d8::es::ex::ey::ez::eA::eB::eD::f0::d9::dc::dd::f1::f2::f3::f4::f6::f7::f9::fb::fe::fi::fn::fr::fs::fv::fx::fz::g0::g1::g2::g3::g4::g5::g6::g7::dg::dk::ds::dv::dx::dT::e0::e6::e7::g8::g9::ga::gc::gd::gf::gk::gn::go::gr::gs::gv::gx::gy::gA::gB::gD::gW::h0::h3::h4::e8::e9::ea::h5::h6::h7::h8::[h9,ha,he,a0,a1,a2,a3,a4,a5,a6,a7,a8,a9,ab,ad,af,ag,ao,b0,b1,b3,b4,b5,b6,b7,b8,b9,ba,bb,bc,bd,be,bf,bg,bh,bk,ck,cn,co,cs,ct,cx,cy,cG,cO,cS,cW,cX,d5,bm,bp,bq,br,bs,bt,c9,ca,cc,cd,cf,ch,ci,cj]),[]⟩ W:=by
 refine mOn ?_;generalize Q .normal=K at hQ |-;have HQ:=aa hQ;clear hQ
 conv=>arg 2;whnf
 have r1:=hrb 1
 have e1:IntKind.i64.wrap wh=wh:=aH _ mOm;have e2:Int.tmod wh (KL.length:Int)=(j:Int):=by rw[bN hw.1];exact hj
 have e3:¬(KL.length:Int)=0:=mOm;have e4:((KL.length:Int)==0)=false:=by rw[beq_eq_false_iff_ne];omega
 have e5:IntKind.i64.wrap (j:Int)=(j:Int):=aH _ (by have:=Int.emod_lt_of_pos wh (b:=(KL.length:Int)) mOm;omega);clear hrb hj;go_wp2_with fail;exact HQ.out _ _ _ _ _ _
theorem Nc(rb:Nat)(dy dm:Int)(rs:Int)(g cg:Nat)(KL:List bG)(j:Nat)(kid:Int)(W:World)(Q:Exit->Act->World->Prop)(hrb:(∀j,W.cell? ⟨rb,j,Oh⟩=(#[N9 Oa rs,Oc (Og ⟨g,0,Oh⟩) KL.length cg]:Array Value)[j]?))(hl:rb<W.heap.size/\g<W.heap.size)(hjl:j<KL.length)(hd:0<=dy/\dy<65536)(hdm:dy%700=dm)(hkid:W.cell? ⟨g,j*4,Oh⟩=Og (N9 Oa kid))(kst:∀u,ac W.heap.size W u->Calls prog 25 #[.agg #[N9 Oa rs,Oc (Og ⟨g,0,Oh⟩) KL.length cg],N9 Oa kid,N9 Oa (1+dm)] u fun e w'=>∃(s2:Int) (p2:Option Addr) (K2:List bG) (c2:Nat) (er:Int),e=Oe (.tuple #[.agg #[N9 Oa s2,Oc p2 K2.length c2],N9 Oa er])/\ar fp w' (Oc p2 K2.length c2) K2/\Hid (sX ⟨rs,KL⟩ kid (1+dm) er s2 p2 K2)/\ac u.heap.size u w')
  (hQ:∀(ka kb kd ke kf kh ki kj kl km kn ko kp kq kr:Value)(wx:World)(bx:Nat)(s2:Int)(p2:Option Addr)(K2:List bG)(c2:Nat)(er:Int),ar fp wx (Oc p2 K2.length c2) K2->Hid (sX ⟨rs,KL⟩ kid (1+dm) er s2 p2 K2)->W.heap.size<=bx->wx.heap[bx]? = Og (Of #[N9 Oa s2,Oc p2 K2.length c2] 33 (0,0))->ac W.heap.size W wx->Q .normal ⟨aK (s0::s1::N9 .u16 dy::s3::s4::s5::s6::s7::Od (Og ⟨rb,0,Oh⟩)::s9::ht::hB::eb::ed::eg::ei::ej::N9 Oa (j:Int)::Od (Og ⟨bx,0,Oh⟩)::N9 Oa er::hn::eo::d6::hf::d8::es::ex::ey::ez::eA::eB::eD::f0::d9::dc::dd::f1::f2::f3::f4::f6::f7::f9::fb::fe::fi::fn::fr::fs::fv::fx::fz::g0::g1::g2::g3::g4::g5::g6::g7::dg::dk::ds::dv::dx::dT::e0::e6::e7::g8::g9::ga::gc::gd::gf::ka::kb::kd::ke::kf::kh::ki::kj::kl::km::kn::ko::kp::kq::kr::e8::e9::ea::h5::h6::h7::h8::[h9,ha,he,a0,a1,a2,a3,a4,a5,a6,a7,a8,a9,ab,ad,af,ag,ao,b0,b1,b3,b4,b5,b6,b7,b8,b9,ba,bb,bc,bd,be,bf,bg,bh,bk,ck,cn,co,cs,ct,cx,cy,cG,cO,cS,cW,cX,d5,bm,bp,bq,br,bs,bt,c9,ca,cc,cd,cf,ch,ci,cj]),[]⟩ wx) :
  (db Tryz.f5 10).wp prog Q ⟨aK (s0::s1::N9 .u16 dy::s3::s4::s5::s6::s7::Od (Og ⟨rb,0,Oh⟩)::s9::ht::hB::eb::ed::eg::ei::ej::N9 Oa (j:Int)::hh::em::hn::eo::d6::hf::d8::es::ex::ey::ez::eA::eB::eD::f0::d9::dc::dd::f1::f2::f3::f4::f6::f7::f9::fb::fe::fi::fn::fr::fs::fv::fx::fz::g0::g1::g2::g3::g4::g5::g6::g7::dg::dk::ds::dv::dx::dT::e0::e6::e7::g8::g9::ga::gc::gd::gf::gk::gn::go::gr::gs::gv::gx::gy::gA::gB::gD::gW::h0::h3::h4::e8::e9::ea::h5::h6::h7::h8::[h9,ha,he,a0,a1,a2,a3,a4,a5,a6,a7,a8,a9,ab,ad,af,ag,ao,b0,b1,b3,b4,b5,b6,b7,b8,b9,ba,bb,bc,bd,be,bf,bg,bh,bk,ck,cn,co,cs,ct,cx,cy,cG,cO,cS,cW,cX,d5,bm,bp,bq,br,bs,bt,c9,ca,cc,cd,cf,ch,ci,cj]),[]⟩ W:=by
 refine mOn ?_;generalize Q .normal=K at hQ |-;have HQ:=aa hQ;clear hQ
 conv=>arg 2;whnf
 have KST:=aa kst
 have j0:(0:Int)<=(j:Int):=mOm;have j1:(j:Int)<(KL.length:Int):=mOm;have e1:IntKind.i64.wrap dy=dy:=aH _ mOm;have e2:Int.tmod dy 700=dm:=by rw[bN hd.1];exact hdm
 have e3:IntKind.i64.wrap (1+dm)=1+dm:=aH _ mOm;have e4:IntKind.i64.wrap dm=dm:=aH _ mOm;have KS:∀u,ac W.heap.size W u->ac W.heap.size W u/\(∀j,u.cell? ⟨rb,j,Oh⟩=(#[N9 Oa rs,Oc (Og ⟨g,0,Oh⟩) KL.length cg]:Array Value)[j]?)/\u.cell? ⟨g,j*4,Oh⟩=Og (N9 Oa kid):=fun u hu=>⟨hu,fun j=>(hu.cell (p:=⟨rb,j,Oh⟩) hl.1).trans (hrb j),(hu.cell (p:=⟨g,j*4,Oh⟩) hl.2).trans hkid⟩
 clear kst hrb hkid hdm;have hS:ac W.heap.size W W.drew/\(∀j,W.drew.cell? ⟨rb,j,Oh⟩=(#[N9 Oa rs,Oc (Og ⟨g,0,Oh⟩) KL.length cg]:Array Value)[j]?)/\W.drew.cell? ⟨g,j*4,Oh⟩=Og (N9 Oa kid):=KS _ (Below.refl _ _).drew;refine gJ (S:=fun u=>ac W.heap.size W u/\(∀j,u.cell? ⟨rb,j,Oh⟩=(#[N9 Oa rs,Oc (Og ⟨g,0,Oh⟩) KL.length cg]:Array Value)[j]?)/\u.cell? ⟨g,j*4,Oh⟩=Og (N9 Oa kid)) (.take 0 (.take 1 (.take 2 (.take 3 (.take 4 (.take 5 (.take 6 (.take 7 (.take 8 (.take 9 (.take 10 (.two 11 15 (.take 12 (.take 13 (.take 14 (.one 15 (.one 16 (.take 17 .done)))))) (.one 11 (.take 12 (.take 13 (.take 14 (.one 16 (.take 17 .done)))))))))))))))))) hS ?_
 iterate 11 refine aW ?_
 refine ft ?_ ?_
 .refine bY ⟨_,_,_,_,_,_⟩ rfl mRf 25 _ _ mRf _ mRf call25 (KST.out _ hS.1) ?_;rintro x x1⟨s2,p2,K2,c2,er,rfl,hRW,hOK,hb⟩;replace hS:=KS _ (ah hS.1 hb);refine⟨_,rfl,hS,?_⟩
  (try clear hb)
  refine ay ?_
  iterate 3 refine aW ?_
  have hlo_bx:W.heap.size<=x1.heap.size:=hS.1.size;refine bW (bU ⟨_,_,_,_,_,_⟩ (Od (Og ⟨x1.heap.size,0,Oh⟩)) (x1.alloc (Of #[N9 Oa 0,Oc Oh 0 0] 33)) rfl mRf (by go_simp;try rfl) ⟨KS _ (ah hS.1 (aj _ _)),?_⟩);have hb:=aj (x1) (Of #[N9 Oa 0,Oc Oh 0 0] 33);replace hS:=KS _ (ah hS.1 hb);have hx_bx:=heap_alloc_new (x1) (Of #[N9 Oa 0,Oc Oh 0 0] 33)
  (try replace hRW:=hRW.below hb)
  (try clear hb)
  refine ay ?_;have hset:=KS _ (bu hS.1 hlo_bx #[N9 Oa s2,Oc p2 K2.length c2]);refine bW (di ⟨_,_,_,_,_,_⟩ rfl mRf 33 _ _ mRf (x1.heap.size) #[N9 Oa s2,Oc p2 K2.length c2] mRf mRf _ _ hx_bx mKr rfl (by simp[Value.oneCell']) ⟨hset,?_⟩);replace hS:=hset;clear hset;replace hRW:=jg ow hRW hx_bx mDe #[N9 Oa s2,Oc p2 K2.length c2];replace hx_bx:=setRow_heap (x1.alloc (Of #[N9 Oa 0,Oc Oh 0 0] 33)) (x1.heap.size) _ #[N9 Oa s2,Oc p2 K2.length c2] _ _ hx_bx;refine ay ?_;refine aW ?_;simp only[dB,aZ];exact HQ.out _ _ _ _ _ _ _ _ _ _ _ _ _ _ _ _ _ _ _ _ _ _ hRW hOK hlo_bx hx_bx hS.1
 .have hlo_bx:W.heap.size<=W.heap.size:=az _;refine bU ⟨_,_,_,_,_,_⟩ (Od (Og ⟨W.heap.size,0,Oh⟩)) (W.drew.alloc (Of #[N9 Oa 0,Oc Oh 0 0] 33)) rfl mRf (by go_simp;try rfl) ⟨KS _ (ah hS.1 (aj _ _)),?_⟩;have hb:=aj (W.drew) (Of #[N9 Oa 0,Oc Oh 0 0] 33);replace hS:=KS _ (ah hS.1 hb);have hx_bx:=heap_alloc_new (W.drew) (Of #[N9 Oa 0,Oc Oh 0 0] 33);replace hx_bx:(W.drew.alloc (Of #[N9 Oa 0,Oc Oh 0 0] 33)).heap[W.heap.size]? = Og _:=hx_bx
  (try replace hRW:=hRW.below hb)
  (try clear hb)
  refine ay ?_;refine bW (bY ⟨_,_,_,_,_,_⟩ rfl mRf 25 _ _ mRf _ mRf call25 (KST.out _ hS.1) ?_);rintro x x2⟨s2,p2,K2,c2,er,rfl,hRW,hOK,hb⟩;replace hS:=KS _ (ah hS.1 hb);replace hx_bx:=hb.heap_of hx_bx;refine⟨_,rfl,hS,?_⟩
  (try clear hb)
  refine ay ?_
  iterate 3 refine aW ?_
  have hset:=KS _ (bu hS.1 hlo_bx #[N9 Oa s2,Oc p2 K2.length c2]);refine bW (di ⟨_,_,_,_,_,_⟩ rfl mRf 33 _ _ mRf (W.heap.size) #[N9 Oa s2,Oc p2 K2.length c2] mRf mRf _ _ hx_bx mKr rfl (by simp[Value.oneCell']) ⟨hset,?_⟩);replace hS:=hset;clear hset;replace hRW:=jg ow hRW hx_bx mDe #[N9 Oa s2,Oc p2 K2.length c2];replace hx_bx:=setRow_heap x2 (W.heap.size) _ #[N9 Oa s2,Oc p2 K2.length c2] _ _ hx_bx;refine ay ?_;refine aW ?_;simp only[dB,aZ];exact HQ.out _ _ _ _ _ _ _ _ _ _ _ _ _ _ _ _ _ _ _ _ _ _ hRW hOK hlo_bx hx_bx hS.1
theorem Nd(rb vb i j:Nat)(rs:Int)(g cg:Nat)(KL:List bG)(pv:Option Addr)(cv:Nat)(EV:List Ent)(hv:Int)(bv:Bool)(y:Ent)(kid:Int)(W:World)(Q:Exit->Act->World->Prop)(hrb:(∀j,W.cell? ⟨rb,j,Oh⟩=(#[N9 Oa rs,Oc (Og ⟨g,0,Oh⟩) KL.length cg]:Array Value)[j]?))(hvb:(∀j,W.cell? ⟨vb,j,Oh⟩=(#[Oc pv EV.length cv,N9 Oa hv,.bool bv]:Array Value)[j]?))(hr:ar bL W (Oc pv EV.length cv) EV)(hi:EV[i]? = Og y)(hjl:j<KL.length)(hkid:W.cell? ⟨g,j*4,Oh⟩=Og (N9 Oa kid))
  (hQ:∀(hD hE hF hG hH hI hJ hM hN hO hP hT:Value)(wx:World),ac W.heap.size W wx->Q .normal ⟨aK (s0::s1::s2::s3::s4::s5::s6::s7::Od (Og ⟨rb,0,Oh⟩)::s9::ht::hB::eb::ed::eg::ei::ej::N9 Oa (j:Int)::hh::em::Od (Og ⟨vb,0,Oh⟩)::eo::d6::N9 Oa (i:Int)::d8::es::ex::ey::ez::eA::eB::eD::f0::d9::dc::dd::f1::f2::f3::f4::f6::f7::f9::fb::fe::fi::fn::fr::fs::fv::fx::fz::g0::g1::g2::g3::g4::g5::g6::g7::dg::dk::ds::dv::dx::dT::e0::e6::e7::g8::g9::ga::gc::gd::gf::gk::gn::go::gr::gs::gv::gx::gy::gA::gB::gD::gW::h0::h3::h4::e8::e9::ea::h5::h6::h7::h8::h9::ha::he::a0::a1::a2::a3::a4::a5::a6::a7::a8::a9::ab::ad::af::ag::ao::b0::b1::b3::b4::b5::b6::b7::b8::b9::ba::bb::bc::bd::be::bf::bg::bh::bk::hD::hE::hF::hG::hH::hI::hJ::hM::hN::hO::hP::hT::.bool (y.key==kid)::bm::bp::bq::br::bs::bt::c9::ca::cc::cd::cf::ch::ci::cj::[]),[]⟩ wx) :
  (db Tryz.f5 22).wp prog Q ⟨aK (s0::s1::s2::s3::s4::s5::s6::s7::Od (Og ⟨rb,0,Oh⟩)::s9::ht::hB::eb::ed::eg::ei::ej::N9 Oa (j:Int)::hh::em::Od (Og ⟨vb,0,Oh⟩)::eo::d6::N9 Oa (i:Int)::d8::es::ex::ey::ez::eA::eB::eD::f0::d9::dc::dd::f1::f2::f3::f4::f6::f7::f9::fb::fe::fi::fn::fr::fs::fv::fx::fz::g0::g1::g2::g3::g4::g5::g6::g7::dg::dk::ds::dv::dx::dT::e0::e6::e7::g8::g9::ga::gc::gd::gf::gk::gn::go::gr::gs::gv::gx::gy::gA::gB::gD::gW::h0::h3::h4::e8::e9::ea::h5::h6::h7::h8::[h9,ha,he,a0,a1,a2,a3,a4,a5,a6,a7,a8,a9,ab,ad,af,ag,ao,b0,b1,b3,b4,b5,b6,b7,b8,b9,ba,bb,bc,bd,be,bf,bg,bh,bk,ck,cn,co,cs,ct,cx,cy,cG,cO,cS,cW,cX,d5,bm,bp,bq,br,bs,bt,c9,ca,cc,cd,cf,ch,ci,cj]),[]⟩ W:=by
 refine mOn ?_;generalize Q .normal=K at hQ |-;have HQ:=aa hQ;clear hQ
 conv=>arg 2;whnf
 have r1:=hrb 1
 have v0:=hvb 0;have hlt:=(List.getElem?_eq_some_iff.1 hi).1;obtain⟨vg,vo,hp,hg,hrow⟩:=dh (kk:=15) hr (fun _=>rfl) rfl mOm;have z13:W.cell? ⟨vg,vo+i*15+13,Oh⟩=Og (N9 Oa y.key):=hrow i _ hi 13 _ rfl;have i1:(i:Int)<(EV.length:Int):=mOm;have i2:(0:Int)<=(i:Int):=mOm;have j0:(0:Int)<=(j:Int):=mOm;have j1:(j:Int)<(KL.length:Int):=mOm;subst hp;clear hrb hvb hr hi hrow
 go_quiet (fail)
 exact HQ.out _ _ _ _ _ _ _ _ _ _ _ _ _ ((Below.refl _ W).trans ⟨rfl,rfl,rfl,az _,fun _ _=>rfl⟩)
end
section
open Go Go.Proofs Go.RowKit Go.Sort Go.Lib
theorem Dw{R:List aC}(h:∀x∈R,x.school=1)(k:Nat):dO ([rtTwo]++R.take (k+1)++[rtThree]) 1=R.take (k+1):=by
 unfold dO;rw[dV,dV];have h1:[rtTwo].filter (fun x=>x.school==1)=[]:=rfl;have h2:[rtThree].filter (fun x=>x.school==1)=[]:=rfl;have h3:(R.take (k+1)).filter (fun x=>x.school==1)=R.take (k+1):=sP (fun x hx=>h x (List.mem_of_mem_take hx));rw[h1,h2,h3,List.nil_append,List.append_nil]
theorem KG:rtTwo.Ok:=by constructor <;> first|(unfold I64;decide)|decide
theorem GN:rtThree.Ok:=by constructor <;> first|(unfold I64;decide)|decide
section
variable {r:bH} {l:List Ent} {R:List aC} {k:Nat} {st fi la:Int} {ids:List Int} {m:Nat} {rt:aC}
theorem MdX.jud2(h:MdX r l R k st fi la ids m rt)(hl:l.length<=2000)(hk:k<=199){roots own:List aC}{r2:bH}(hs:r2.school=1)(hof:dO roots 1=own)(hrt:own[k]? = Og rt)(hch:cK r2 (own.take (k+1))=0) :
  dS (cE l R k st fi la ids) roots r2 100000=0/\dW (cE l R k st fi la ids) roots=rt:=by
 have hm:=h.len;have hmany:=h.many
 have hj:=yg (r:=r2) (own:=own) (root:=k) (l:=l.take m) (rt:=rt) (roots:=roots) (st:=st) (fi:=fi) (la:=la)
  (by rw[hs];exact hof) hrt hch (by rw[hm,h.size]) h.tree h.keyed h.range mOm ids (by rw[hs];decide) hk
  (fun e he=>⟨(h.each e he).1,by have:=(h.each e he).2.1;omega,by rw[(h.each e he).2.2.2.1,hs]⟩)
 rw[hs] at hj
 rw[h.ext];exact hj
theorem DA{x:fc}{roots:List aC}{r2:bH}{at_:aC}(hj:dS x roots r2 100000=0)(ha:dW x roots=at_):ip x roots r2 100000=⟨fA r2 at_ x.lines,fE x.lines,gN x.lines⟩:=by unfold ip;rw[if_pos hj,ha]
end
theorem G3{r:bH}{j:Nat}{e:bG}{day:Int}(hj:r.keys[j]? = Og e)(hd:1<=day){rt:aC}(hs:rt.day<day)(L:List bT):fA (dr r j e day) rt L=fA r rt L:=by
 unfold fA;have:jM (dr r j e day) rt=jM r rt:=by
  funext y
  unfold jM
  rw[zL hj hd _ _ _ _ _ hs]
 rw[this]
theorem zS{r:bH}{j:Nat}{e:bG}{day:Int}(hj:r.keys[j]? = Og e)(hd:1<=day)(rt:aC):∀L:List bT,(fA (dr r j e day) rt L).length<=(fA r rt L).length
 | []=>az _
 | y::L=>by
  have ih:=zS hj hd rt L;unfold fA at ih |-;by_cases h:(ek y.body.data.toList).2=0/\(ek y.body.data.toList).1.day<=rt.day/\eu (dr r j e day) (ek y.body.data.toList).1.key ⟨(ek y.body.data.toList).1.body.toArray⟩ (ek y.body.data.toList).1.mark (ek y.body.data.toList).1.day rt.day=0
  .have h1:jM (dr r j e day) rt y=Og (ek y.body.data.toList).1:=if_pos h;have h2:jM r rt y=Og (ek y.body.data.toList).1:=if_pos ⟨h.1,h.2.1,(zM hj hd _ _ _ _ _ h.2.2).1⟩;rw[gM h1,gM h2,bB,bB];omega
  .have h1:jM (dr r j e day) rt y=Oh:=if_neg h;rw[List.filterMap_cons_none h1];refine Nat.le_trans ih ?_;rw[List.filterMap_cons]
   split
   .exact az _
   .rw[bB];omega
theorem Jc{r:bH}{j:Nat}{e:bG}{day:Int}(hj:r.keys[j]? = Og e)(hd:1<=day){rt:aC}(hs:day<=rt.day)(L:List bT){y:Ent}(hy:y∈fA (dr r j e day) rt L):cw r.keys y.key≠j:=by
 unfold fA at hy;obtain⟨x,-,hx⟩:=List.mem_filterMap.1 hy;unfold jM at hx
 split at hx
 .rename_i h
  obtain rfl:=Option.some.inj hx
  exact(zM hj hd _ _ _ _ _ h.2.2).2 hs
 .cases hx
theorem CaseP.late{r:bH}{l:List Ent}{R:List aC}(h:CaseP r l R){k:Nat}{rt:aC}(hk:R[k]? = Og rt){j:Nat}{e:bG}{day:Int}(hj:r.keys[j]? = Og e)(h1:1<=day)(h2:day<=100000)(h3:e.fro<=day)(hs:rt.day<day):cK (dr r j e day) (R.take (k+1))=0:=by
 have hne:R ≠ []:=by intro e;rw[e] at hk;simp at hk
 have hch:=ph (h.chain.chk hne) (k+1);refine At hj h1 h2 h3 (fun x hx=>?_) hch;have:=Hn (oI hch) hk x hx;omega
theorem CaseP.stolenOk{r:bH}{l:List Ent}{R:List aC}(h:CaseP r l R){x:fc}(hx:x.Fit){j:Nat}{e:bG}{day:Int}(hj:r.keys[j]? = Og e):JudOk x R (dr r j e day):=
 ⟨hx,by have:=h.chain.few;omega,fun y hy=>(h.chain.each y hy).1,by show(r.keys.set j _).length<=1000;rw[List.length_set];have:=h.keys.2;omega,fun k hk=>by
  have hk:k∈r.keys.set j (fM e day):=hk;rcases List.mem_or_eq_of_mem_set hk with hk|rfl
  .have:=(h.sec k hk).1;omega
  .have:=(h.sec e (List.mem_of_getElem? hj)).1
   show e.secret.size<=100000
   omega,by show I64 r.school;rw[h.school];unfold I64;decide⟩
end
section
open Go Go.Proofs Go.RowKit Go.Maps Go.Sort Go.Lib
structure CaseRows (w:World) (A B D:Option Addr) (n m q cD:Nat):Prop where
 hA:eU w.heap.size A n w
 hB:eU w.heap.size B m w
 hD:eU w.heap.size D q w
 cap:q<=cD
 nil:D=Oh->cD=0
theorem CaseRows.up{w w':World}{A B D:Option Addr}{n m q cD:Nat}(h:CaseRows w A B D n m q cD)(hb:ac w.heap.size w w'):CaseRows w' A B D n m q cD:=
 ⟨h.hA.up hb hb.size,h.hB.up hb hb.size,h.hD.up hb hb.size,h.cap,h.nil⟩
