/- Lemmas. -/
import Derived.Test.YtnlhbdmeodbblaaGreatDoorMibb
import Derived.Test.YtnlhbdmeodbblaaGreatDoorMiaq
import Derived.Test.YtnlhbdmeodbblaaGreatDoorMiba
set_option maxRecDepth 100000
set_option maxHeartbeats 16000000
set_option linter.all false
open Go.Proofs.Tryz
open Bool renaming eq_iff_iff→db,false_and→iK,not_eq_true→MA,not_false→fa,not_true→ir
open Go.IntWalk renaming i64_in→aF
open Go.Lib renaming cell_of_heap→ae,hid→aa
open List renaming all_eq_true→ep,filter_append→Zfa,getElem?_eq_getElem→ai,getElem?_eq_some_iff→ap,length_append→ax,take_add_one→aL,toArray→aq
open Nat renaming le_refl→aD,lt_of_lt_of_le→av,zero_le→aR
open Go.RowKit renaming Below→ac,intOf→aw
open Go.World renaming block_lt_of_cell?→am
open Go.Ending renaming returned→JT
open Go.IntKind renaming i64→JP
open Go.Obj renaming cells→JU
open Go.Value renaming int→JO,string→JQ,slice→JR,pointer→JS
open Option renaming some→JV,none→JW
namespace Go.Proofs.YtnlhbdmeodbblaaGreatDoor
section
open Go Go.Proofs Go.RowKit Go.Sort Go.Lib
theorem MdX.ver {r:LR} {l:List Ent} {R:List LL} {k:Nat} {st fi la:Int} {ids:List Int} {m:Nat} {rt:LL} (h:MdX r l R k st fi la ids m rt) :
  gw (d5 l R k st fi la ids) R r 100000=⟨(eU (l.take m) (bG (l.take m)) st fi la).filter (fun e=>decide (e.id∈ids)&&ia r rt e),((eU (l.take m) (bG (l.take m)) st fi la).filter fun e=>!decide (e.id∈ids)).length,(eU (l.take m) (bG (l.take m)) st fi la).all fun e=>!decide (e.kind=5)⟩:=by
 have hE:∀ e∈eU (l.take m) (bG (l.take m)) st fi la,e.Ok∧e.code.length≤600∧0 < e.code.length∧e.school=1∧e.day≤rt.day:=fun e he=>h.each e (iA he).1
 unfold gw;rw [if_pos h.jud,h.at_,h.lines,wH _ (fun e he=>⟨(hE e he).1,by have:=(hE e he).2.1;omega,(hE e he).2.2.2.2⟩),ss _ _ (fun e he=>(hE e he).2.2.1),Cm _ _ (fun e he=>h.keyed.1 e (iA he).1)]
def jr (st fi la:Int) (L:List Ent):Bool:=L.all fun e=>!inQ st fi la e || !decide (e.kind=5)
def nh (st fi la:Int) (ids:List Int) (L:List Ent):Nat:=(L.filter fun e=>inQ st fi la e && !decide (e.id∈ids)).length
def shQ (st fi la:Int) (ids:List Int) (r:LR) (rt:LL) (L:List Ent):Nat:=(L.filter fun e=>inQ st fi la e&&(decide (e.id∈ids)&&ia r rt e)).length
theorem uo {L:List Ent} {st fi la:Int} (h:ef L) (p:Ent→Bool):((eU L (bG L) st fi la).filter p).length=(L.filter fun e=>inQ st fi la e&&p e).length:=by
 rw [((Dg h st fi la).filter p).length_eq,List.filter_filter]
 congr 1
 refine List.filter_congr fun e _=>?_
 rw [Bool.and_comm]
theorem Gu {L:List Ent} {st fi la:Int} (_h:ef L):((eU L (bG L) st fi la).all fun e=>!decide (e.kind=5))=jr st fi la L:=by
 unfold jr;rw [db,ep,ep];constructor
 ·intro hh e he;by_cases hq:inQ st fi la e=true
  ·rw [hq,hh e (ri he hq)];rfl
  ·rw [MA] at hq;rw [hq];rfl
 ·intro hh e he;have hm:=iA he;have:=hh e hm.1;rw [hm.2] at this
  simpa using this
theorem MdX.tally {r:LR} {l:List Ent} {R:List LL} {k:Nat} {st fi la:Int} {ids:List Int} {m:Nat} {rt:LL} (h:MdX r l R k st fi la ids m rt) :
  (gw (d5 l R k st fi la ids) R r 100000).ents.length=shQ st fi la ids r rt (l.take m)∧(gw (d5 l R k st fi la ids) R r 100000).hidden=nh st fi la ids (l.take m)∧(gw (d5 l R k st fi la ids) R r 100000).clean=jr st fi la (l.take m):=by
 rw [h.ver];refine ⟨uo h.keyed _,?_,Gu h.keyed⟩
 show (((eU (l.take m) (bG (l.take m)) st fi la).filter fun e=>!decide (e.id∈ids)).length:Int)=_
 rw [uo h.keyed];rfl
theorem MdX.has {r:LR} {l:List Ent} {R:List LL} {k:Nat} {st fi la:Int} {ids:List Int} {m:Nat} {rt:LL} (h:MdX r l R k st fi la ids m rt) {y:Ent} (hy:y∈l.take m) (hq:inQ st fi la y=true) (hi:y.id∈ids) :
  y∈(gw (d5 l R k st fi la ids) R r 100000).ents↔ia r rt y=true:=by
 rw [h.ver]
 show y∈List.filter _ _↔_
 rw [List.mem_filter,decide_eq_true hi]
 constructor
 ·exact fun hh=>by simpa using hh.2
 ·exact fun hh=>⟨ri hy hq,by rw [hh];rfl⟩
theorem MdX.open_ {r:LR} {l:List Ent} {R:List LL} {k:Nat} {st fi la:Int} {ids:List Int} {m:Nat} {rt:LL} (h:MdX r l R k st fi la ids m rt) {y:Ent} (hy:y∈l.take m) (hq:inQ st fi la y=true) :
  (d5 l R k st fi la ids).lines.any (fun x=>decide (x.key=dE y) && !decide (x.body.size=0))=decide (y.id∈ids):=by
 rw [h.lines];exact FT h.keyed hy hq (h.each y hy).2.2.1
theorem se (st fi la:Int) (L:List Ent) (y:Ent):jr st fi la (L++[y])=(jr st fi la L&&(!inQ st fi la y || !decide (y.kind=5))):=by unfold jr;rw [List.all_append];simp
theorem ww (st fi la:Int) (ids:List Int) (L:List Ent) (y:Ent):nh st fi la ids (L++[y])=nh st fi la ids L+(if (inQ st fi la y && !decide (y.id∈ids))=true then 1 else 0):=by
 unfold nh;rw [Zfa,ax,List.filter_cons]
 split <;> rfl
theorem yT (st fi la:Int) (ids:List Int) (r:LR) (rt:LL) (L:List Ent) (y:Ent):shQ st fi la ids r rt (L++[y])=shQ st fi la ids r rt L+(if (inQ st fi la y&&(decide (y.id∈ids)&&ia r rt y))=true then 1 else 0):=by
 unfold shQ;rw [Zfa,ax,List.filter_cons]
 split <;> rfl
end
section
variable {s0 s1 s2 s3 s4 s5 s6 s7 s8 s9 fv i4 ed eg hY hZ i5 i0 i3 fx ei fz fO g0 g1 g2 g3 g4 g5 ej em eo g6 g7 g8 g9 ga gc gd es ew ex eA eB eD f0 f1 f2 f3 f5 gf gk gn go gr f7 fb fe fi fn fr gs gv gx gy gA gB gD gW h6 h7 h8 h9 ha hd he hf hh hi ho ht hu hw hA hB hD hE hF hG hH hI hJ hM hN hO hP hT hU hV hW ct cx cy cC cE cG cO cS cW cX d9 dd dg dk dm ds dv dx a7 a8 a9 ad dy e0 e1 e2 e3 e4 e5 e6 e7 e8 e9 ea eb af ag ao b0 b1 b2 b4 b5 b6 b7 b8 b9 ba bb bc bd bf bg bh bk bm bq bt bv bx c8 c9 cd cf ch ci cj ck cn co cs:Value}
open Go Go.Proofs Go.RowKit Go.Maps Go.Sort Go.Lib
attribute [local go_sem] Ent.cells cH
theorem qN {w u v:World} {a b c:Nat} {ca cb cc:Array Value} (h:ac w.heap.size w u∧(a < u.heap.size∧b < u.heap.size∧c < u.heap.size)∧(∀ j,u.cell? ⟨a,j,JW⟩=ca[j]?)∧(∀ j,u.cell? ⟨b,j,JW⟩=cb[j]?)∧(∀ j,u.cell? ⟨c,j,JW⟩=cc[j]?)) (hb:ac u.heap.size u v):ac w.heap.size w v∧(a < v.heap.size∧b < v.heap.size∧c < v.heap.size)∧(∀ j,v.cell? ⟨a,j,JW⟩=ca[j]?)∧(∀ j,v.cell? ⟨b,j,JW⟩=cb[j]?)∧(∀ j,v.cell? ⟨c,j,JW⟩=cc[j]?):=by
 obtain ⟨h0,⟨l1,l2,l3⟩,h1,h2,h3⟩:=h;have hs:=hb.size;exact ⟨ah h0 hb,⟨mOm,mOm,mOm⟩,fun j=>(hb.cell (p:=⟨a,j,JW⟩) l1).trans (h1 j),fun j=>(hb.cell (p:=⟨b,j,JW⟩) l2).trans (h2 j),fun j=>(hb.cell (p:=⟨c,j,JW⟩) l3).trans (h3 j)⟩
theorem mu {u:World} {b:Nat} {e:Ent} (h:∀ j,u.cell? ⟨b,j,JW⟩=e.cells[j]?):u.rangeAt b 0 e.cells.toList:=fun k v hv=>by
 rw [Nat.zero_add];exact (h k).trans (by rw [← Array.getElem?_toList];exact hv)
theorem vC {w u v:World} {a b:Nat} {ca cb:Array Value} {g o:Nat} {k2 v0 v2:Value} (h:ac w.heap.size w u∧(a < u.heap.size∧b < u.heap.size)∧(∀ j,u.cell? ⟨a,j,JW⟩=ca[j]?)∧(∀ j,u.cell? ⟨b,j,JW⟩=cb[j]?)∧u.cell? ⟨g,o,JW⟩=JV v0∧u.cell? ⟨g,o+1,JW⟩=JV k2∧u.cell? ⟨g,o+2,JW⟩=JV v2) (hb:ac u.heap.size u v):ac w.heap.size w v∧(a < v.heap.size∧b < v.heap.size)∧(∀ j,v.cell? ⟨a,j,JW⟩=ca[j]?)∧(∀ j,v.cell? ⟨b,j,JW⟩=cb[j]?)∧v.cell? ⟨g,o,JW⟩=JV v0∧v.cell? ⟨g,o+1,JW⟩=JV k2∧v.cell? ⟨g,o+2,JW⟩=JV v2:=by
 obtain ⟨h0,⟨l1,l2⟩,h1,h2,h3,h4,h5⟩:=h;have hs:=hb.size;exact ⟨ah h0 hb,⟨mOm,mOm⟩,fun j=>(hb.cell (p:=⟨a,j,JW⟩) l1).trans (h1 j),fun j=>(hb.cell (p:=⟨b,j,JW⟩) l2).trans (h2 j),(hb.cell (am u _ h3)).trans h3,(hb.cell (am u _ h4)).trans h4,(hb.cell (am u _ h5)).trans h5⟩
theorem Cq (kb:ByteArray) (L:List LT) (x:LT):kG kb (L++[x])=(kG kb L||(decide (x.key=kb) && !decide (x.body.size=0))):=by unfold kG;rw [List.any_append];simp
theorem M5 {p:Prop} (h:p:=by
 simp only [aO,bj]
 (try simp only [t2,fa,bne])
 have hbF:=hS.1;have HBF:=aa hbF;clear hS hS0 hbF;go_wp2_with fail
 go_roundw
 case rel=>exact ⟨k+1,false,mOm,rfl,by go_num,aa HN.out.symm,HBF.out⟩
 case measure=>simp [aw];omega):p:=h
theorem Na {p:Prop} (h:p:=by
 have hbF:=hS.1;have HBF:=aa hbF;clear hS hS0 hbF;go_wp2_with fail
 go_roundw
 case rel=>exact ⟨k+1,true,mOm,rfl,by go_num,aa HN.out.symm,HBF.out⟩
 case measure=>simp [aw];omega):p:=h
theorem Q7 {p q:Prop} (h:q) (f:Wq q→p:=by
 intro hq;refine Jy (S:=fun u=>ac W.heap.size W u∧(xb < u.heap.size∧yb < u.heap.size)∧(∀ j,u.cell? ⟨xb,j,JW⟩=(#[JO JP x0,JO JP x1,JO JP x2,JO JP x3,JO JP x4,JR (JV ⟨lg,lo,JW⟩) L.length cl,JR pp n2 cp]:Array Value)[j]?)∧(∀ j,u.cell? ⟨yb,j,JW⟩=(y.cells:Array Value)[j]?)∧u.cell? ⟨lg,lo+k*3,JW⟩=JV (JQ lk)∧u.cell? ⟨lg,lo+k*3+1,JW⟩=JV (JQ lh)∧u.cell? ⟨lg,lo+k*3+2,JW⟩=JV (JQ lb)) [(0,true),(1,true),(2,true),(3,true),(4,true),(5,true),(6,true),(7,true),(8,true),(9,false),(10,true),(11,true),(12,true),(13,true),(14,true),(15,true),(16,true),(17,true),(18,true),(19,true),(20,true),(21,true)] hS0 ?_;have hS:=hS0
 revert hS
 exact hq.1):p:=f ⟨h⟩
theorem MC {p q:Prop} (h:q) (f:Wq q→p:=by
 intro hq;refine dC ⟨_,_,_,_,_,_⟩ rfl mRf 67 (.tmp 16) mRf yb 0 mRf y.cells.toList _ (fun w hSw=>mu hSw.2.2.2.1) underlying67 rfl mKr ?_;refine ar ?_
 exact hq.1):p:=f ⟨h⟩
theorem IOx (xb yb:Nat) (x0 x1 x2 x3 x4:Int) (pl pp:Option Addr) (n1 cl n2 cp:Nat) (L:List LT) (y:Ent) (kb:ByteArray) (W:World) (Q:Exit→Act→World→Prop) (hx:(∀ j,W.cell? ⟨xb,j,JW⟩=(#[JO JP x0,JO JP x1,JO JP x2,JO JP x3,JO JP x4,JR pl n1 cl,JR pp n2 cp]:Array Value)[j]?)) (hxl:xb < W.heap.size) (hy:(∀ j,W.cell? ⟨yb,j,JW⟩=(y.cells:Array Value)[j]?)) (hyl:yb < W.heap.size) (hn:n1=L.length) (hr:LK fg W (JR pl n1 cl) L) (hm:L.length≤4000) (hk:∀ u,Calls prog 21 #[y.val] u fun e w'=>e=JT (JQ kb)∧ac u.heap.size u w')
  (hQ:∀ (ka mD mO mS n0 n3 n4 n5 n6 n7 n8 i6 i7 i8 i9 ib ih ii im io iv ix iH iI iJ iL j0 j3 j4:Value)  (wx:World),ac W.heap.size W wx→Q .normal ⟨aq (s0::s1::s2::s3::s4::s5::s6::JS (JV ⟨xb,0,JW⟩)::s8::s9::fv::i4::ed::eg::hY::hZ::JS (JV ⟨yb,0,JW⟩)::.bool (kG kb L)::ka::fx::ei::fz::fO::g0::g1::g2::g3::g4::g5::ej::em::eo::g6::g7::g8::g9::ga::gc::gd::es::ew::ex::eA::eB::eD::f0::f1::f2::f3::f5::gf::gk::gn::go::gr::f7::fb::fe::fi::fn::fr::gs::gv::gx::gy::gA::gB::gD::gW::h6::h7::h8::h9::ha::hd::he::hf::hh::hi::ho::ht::hu::hw::hA::hB::hD::hE::hF::hG::hH::mD::mO::mS::n0::n3::n4::n5::n6::n7::n8::i6::i7::i8::i9::ib::ih::ii::im::[io,iv,ix,iH,iI,iJ,iL,j0,j3,j4,a7,a8,a9,ad,dy,e0,e1,e2,e3,e4,e5,e6,e7,e8,e9,ea,eb,af,ag,ao,b0,b1,b2,b4,b5,b6,b7,b8,b9,ba,bb,bc,bd,bf,bg,bh,bk,bm,bq,bt,bv,bx,c8,c9,cd,cf,ch,ci,cj,ck,cn,co,cs]),[]⟩ wx) :
  (ip f4 2).wp prog Q ⟨aq (s0::s1::s2::s3::s4::s5::s6::JS (JV ⟨xb,0,JW⟩)::s8::s9::fv::i4::ed::eg::hY::hZ::JS (JV ⟨yb,0,JW⟩)::.bool false::JO JP 0::fx::ei::fz::fO::g0::g1::g2::g3::g4::g5::ej::em::eo::g6::g7::g8::g9::ga::gc::gd::es::ew::ex::eA::eB::eD::f0::f1::f2::f3::f5::gf::gk::gn::go::gr::f7::fb::fe::fi::fn::fr::gs::gv::gx::gy::gA::gB::gD::gW::h6::h7::h8::h9::ha::hd::he::hf::hh::hi::ho::ht::hu::hw::hA::hB::hD::hE::hF::hG::hH::hI::hJ::hM::hN::hO::hP::hT::hU::hV::hW::ct::cx::cy::cC::cE::cG::cO::cS::[cW,cX,d9,dd,dg,dk,dm,ds,dv,dx,a7,a8,a9,ad,dy,e0,e1,e2,e3,e4,e5,e6,e7,e8,e9,ea,eb,af,ag,ao,b0,b1,b2,b4,b5,b6,b7,b8,b9,ba,bb,bc,bd,bf,bg,bh,bk,bm,bq,bt,bv,bx,c8,c9,cd,cf,ch,ci,cj,ck,cn,co,cs]),[]⟩ W:=by
 refine mOn ?_;generalize Q .normal=K at hQ ⊢;have HQ:=aa hQ;clear hQ
 conv=>arg 2;whnf
 subst hn
 have HR:=aa hr;have HK:=aa hk;clear hr hk;go_wp2_with fail
 go_loopw [17,18] (fun v i wr=>∃ (k:Nat) (bo:Bool),k≤L.length∧v=.bool bo∧i=JO JP k∧Hid (bo=kG kb (L.take k))∧ac W.heap.size W wr) (fun _ i _=>L.length - (aw i).toNat)
 case atStart=>exact ⟨0,false,aR _,rfl,rfl,aa rfl,Below.refl _ _⟩
 case round =>
  obtain ⟨k,bo,hkl,rfl,rfl,HO,hb⟩:=hrel;have x5:wr.cell? ⟨xb,5,JW⟩=JV (JR pl L.length cl):=(hb.cell (p:=⟨xb,5,JW⟩) hxl).trans (hx 5);by_cases hlt:k < L.length
  ·obtain ⟨lg,lo,hp,hg,hrow⟩:=dc (kk:=3) HR.out (fun _=>rfl) rfl mOm;have hge:=ai hlt;have hrx:=hrow k _ hge;have HT:Hid (L.take (k+1)=L.take k++[L[k]]):=aa (by rw [aL,hge];rfl);generalize L[k]=z at *;obtain ⟨lk,lh,lb⟩:=z;have i1:(k:Int) < (L.length:Int):=mOm;have i2:(0:Int)≤(k:Int):=mOm;have hS0:ac W.heap.size W wr.drew∧(xb < wr.drew.heap.size∧yb < wr.drew.heap.size)∧(∀ j,wr.drew.cell? ⟨xb,j,JW⟩=(#[JO JP x0,JO JP x1,JO JP x2,JO JP x3,JO JP x4,JR pl L.length cl,JR pp n2 cp]:Array Value)[j]?)∧(∀ j,wr.drew.cell? ⟨yb,j,JW⟩=(y.cells:Array Value)[j]?)∧wr.drew.cell? ⟨lg,lo+k*3,JW⟩=JV (JQ lk)∧wr.drew.cell? ⟨lg,lo+k*3+1,JW⟩=JV (JQ lh)∧wr.drew.cell? ⟨lg,lo+k*3+2,JW⟩=JV (JQ lb):=
    ⟨hb.drew,⟨av hxl hb.drew.size,av hyl hb.drew.size⟩,fun j=>(hb.drew.cell (p:=⟨xb,j,JW⟩) hxl).trans (hx j),fun j=>(hb.drew.cell (p:=⟨yb,j,JW⟩) hyl).trans (hy j),(hb.drew.cell (p:=⟨lg,lo+k*3,JW⟩) hg).trans (hrx 0 _ rfl),(hb.drew.cell (p:=⟨lg,lo+k*3+1,JW⟩) hg).trans (hrx 1 _ rfl),(hb.drew.cell (p:=⟨lg,lo+k*3+2,JW⟩) hg).trans (hrx 2 _ rfl)⟩
   subst hp
   have HSN:Hid (kG kb (L.take (k+1))=(bo||(decide (lk=kb) && !decide (lb.size=0)))):=aa (by rw [HT.out,Cq,HO.out]);have HX:=aa hx;have HY:=aa hy;clear hrow hrx hge hb hx hy HT
   cases bo
   ·by_cases hkk:lk=kb
    ·have t2:(lk.toList==kb.toList)=true:=by rw [hkk];exact beq_self_eq_true _
     by_cases hz:lb.size=0
     ·have hz1:=iw hz;subst hz1;have HN:Hid (kG kb (L.take (k+1))=false):=aa (by rw [HSN.out,decide_eq_true hz];simp);clear HSN;go_wp2_with fail;refine Jy (S:=fun u=>ac W.heap.size W u∧(xb < u.heap.size∧yb < u.heap.size)∧(∀ j,u.cell? ⟨xb,j,JW⟩=(#[JO JP x0,JO JP x1,JO JP x2,JO JP x3,JO JP x4,JR (JV ⟨lg,lo,JW⟩) L.length cl,JR pp n2 cp]:Array Value)[j]?)∧(∀ j,u.cell? ⟨yb,j,JW⟩=(y.cells:Array Value)[j]?)∧u.cell? ⟨lg,lo+k*3,JW⟩=JV (JQ lk)∧u.cell? ⟨lg,lo+k*3+1,JW⟩=JV (JQ lh)∧u.cell? ⟨lg,lo+k*3+2,JW⟩=JV (JQ ⟨#[]⟩)) [(0,true),(1,true),(2,true),(3,true),(4,true),(5,true),(6,true),(7,true),(8,true),(9,false),(10,true),(11,true),(12,true),(13,true),(14,true),(15,true),(16,true),(17,true),(18,true),(19,true),(20,true),(21,true)] hS0 ?_;have hS:=hS0
      iterate 8 refine aj ?_
      refine MC ?_;refine aH 21 call21 (HK.out _) ?_;rintro x wn ⟨rfl,hb⟩;replace hS:=vC hS hb;refine ⟨_,rfl,hS,?_⟩;(try clear hb);refine ar ?_
      iterate 12 refine aj ?_
      exact M5
     ·have HN:Hid (kG kb (L.take (k+1))=true):=aa (by rw [HSN.out,decide_eq_true hkk,decide_eq_false hz];rfl);obtain ⟨t3,t4⟩:=jp hz;have t5:(lb.toList==([]:List UInt8))=false:=by rw [beq_eq_false_iff_ne];exact t3
      clear HSN hz;go_wp2_with fail;refine Q7 ?_;intro hS
      iterate 8 refine aj ?_
      refine MC ?_;refine aH 21 call21 (HK.out _) ?_;rintro x wn ⟨rfl,hb⟩;replace hS:=vC hS hb;refine ⟨_,rfl,hS,?_⟩;(try clear hb);refine ar ?_
      iterate 12 refine aj ?_
      simp only [aO,bj]
      (try simp only [t2,fa,bne])
      exact Na
    ·have t2:=iZ hkk;have HN:Hid (kG kb (L.take (k+1))=false):=aa (by rw [HSN.out,decide_eq_false hkk];rfl);clear HSN hkk;go_wp2_with fail;refine Q7 ?_;intro hS
     iterate 8 refine aj ?_
     refine MC ?_;refine aH 21 call21 (HK.out _) ?_;rintro x wn ⟨rfl,hb⟩;replace hS:=vC hS hb;refine ⟨_,rfl,hS,?_⟩;(try clear hb);refine ar ?_
     iterate 12 (first | refine aj ?_ | refine cN ?_)
     exact M5
   ·have HN:Hid (kG kb (L.take (k+1))=true):=aa (by rw [HSN.out];rfl);clear HSN;go_wp2_with fail;refine Q7 ?_;intro hS
    iterate 9 (first | refine aj ?_ | refine cN ?_)
    refine gC ⟨_,_,_,_,_,_⟩ rfl mRf hS ?_;refine ar ?_
    iterate 12 (first | refine aj ?_ | refine cN ?_)
    simp only [aO,bj];exact Na
  ·obtain rfl:k=L.length:=mOm;have i1:¬ (L.length:Int) < (L.length:Int):=mOm;have hk2:=HO.out;rw [List.take_length] at hk2;have HK2:=aa hk2;clear hk2 HO;go_wp2_with fail;have e:=HK2.out;subst e;exact HQ.out _ _ _ _ _ _ _ _ _ _ _ _ _ _ _ _ _ _ _ _ _ _ _ _ _ _ _ _ _ _ hb
theorem Hq (xb yb:Nat) (x0 x1 x2 x3 x4:Int) (pl pp:Option Addr) (n1 cl n2 cp:Nat) (y:Ent) (W:World) (Q:Exit→Act→World→Prop) (hx:(∀ j,W.cell? ⟨xb,j,JW⟩=(#[JO JP x0,JO JP x1,JO JP x2,JO JP x3,JO JP x4,JR pl n1 cl,JR pp n2 cp]:Array Value)[j]?)) (hy:(∀ j,W.cell? ⟨yb,j,JW⟩=(y.cells:Array Value)[j]?))
  (hQ:∀ (ln lu lD lE lF lI lM m0 m1 m2 m3 m4 m5 m6 ma mb md mg:Value),Q .normal ⟨aq (s0::s1::s2::s3::s4::s5::s6::JS (JV ⟨xb,0,JW⟩)::s8::s9::fv::i4::ed::eg::hY::hZ::JS (JV ⟨yb,0,JW⟩)::i0::i3::fx::ei::fz::fO::g0::g1::g2::g3::g4::g5::ej::em::eo::g6::g7::g8::g9::ga::gc::gd::es::ew::ex::eA::eB::eD::f0::f1::f2::f3::f5::gf::gk::gn::go::gr::f7::fb::fe::fi::fn::fr::gs::gv::gx::gy::ln::lu::lD::lE::lF::lI::lM::m0::m1::m2::m3::m4::m5::m6::ma::mb::md::mg::.bool (!inQ x1 x2 x3 y)::hB::hD::hE::hF::hG::hH::hI::hJ::hM::hN::hO::hP::hT::hU::hV::hW::ct::cx::cy::cC::cE::cG::cO::cS::cW::cX::d9::dd::dg::dk::dm::ds::dv::dx::a7::a8::a9::ad::dy::e0::e1::e2::e3::e4::e5::e6::e7::e8::e9::ea::eb::af::ag::ao::b0::b1::b2::b4::b5::b6::b7::b8::b9::ba::bb::bc::bd::bf::bg::bh::bk::bm::bq::bt::bv::bx::c8::c9::cd::cf::ch::ci::cj::ck::cn::co::cs::[]),[]⟩ W) :
  (bW f4 14).wp prog Q ⟨aq (s0::s1::s2::s3::s4::s5::s6::JS (JV ⟨xb,0,JW⟩)::s8::s9::fv::i4::ed::eg::hY::hZ::JS (JV ⟨yb,0,JW⟩)::i0::i3::fx::ei::fz::fO::g0::g1::g2::g3::g4::g5::ej::em::eo::g6::g7::g8::g9::ga::gc::gd::es::ew::ex::eA::eB::eD::f0::f1::f2::f3::f5::gf::gk::gn::go::gr::f7::fb::fe::fi::fn::fr::gs::gv::gx::gy::gA::gB::gD::gW::h6::h7::h8::h9::ha::hd::he::hf::hh::hi::ho::ht::hu::hw::hA::hB::hD::hE::hF::hG::hH::hI::hJ::hM::hN::hO::hP::hT::hU::hV::hW::ct::cx::cy::cC::cE::cG::cO::cS::[cW,cX,d9,dd,dg,dk,dm,ds,dv,dx,a7,a8,a9,ad,dy,e0,e1,e2,e3,e4,e5,e6,e7,e8,e9,ea,eb,af,ag,ao,b0,b1,b2,b4,b5,b6,b7,b8,b9,ba,bb,bc,bd,bf,bg,bh,bk,bm,bq,bt,bv,bx,c8,c9,cd,cf,ch,ci,cj,ck,cn,co,cs]),[]⟩ W:=by
 refine mOn ?_;generalize Q .normal=K at hQ ⊢;have HQ:=aa hQ;clear hQ
 conv=>arg 2;whnf
 unfold inQ at HQ
 have z2:=hy 2;have z5:=hy 5;have q1:=hx 1;have q2:=hx 2;have q3:=hx 3;by_cases h1:y.student=x1
 ·rw [decide_eq_true h1] at HQ;have t1:(y.student != x1)=false:=by rw [bne_eq_false_iff_eq];exact h1
  by_cases h2:x2≤y.on
  ·rw [decide_eq_true h2] at HQ;have t2:decide (y.on < x2)=false:=decide_eq_false mOm;by_cases h3:y.on≤x3
   ·rw [decide_eq_true h3] at HQ;have t3:decide (x3 < y.on)=false:=decide_eq_false mOm;rw [show (!(true&&true&&true))=false from rfl] at HQ;clear h1 h2 h3;go_wp2_with fail;exact HQ.out _ _ _ _ _ _ _ _ _ _ _ _ _ _ _ _ _ _
   ·rw [decide_eq_false h3] at HQ;have t3:decide (x3 < y.on)=true:=decide_eq_true mOm;rw [show (!(true&&true&&false))=true from rfl] at HQ;clear h1 h2 h3;go_wp2_with fail;exact HQ.out _ _ _ _ _ _ _ _ _ _ _ _ _ _ _ _ _ _
  ·rw [decide_eq_false h2] at HQ;have t2:decide (y.on < x2)=true:=decide_eq_true mOm;clear h1 h2;generalize decide (y.on≤x3)=b3 at HQ
   cases b3
   ·rw [show (!(true&&false&&false))=true from rfl] at HQ;go_wp2_with fail;exact HQ.out _ _ _ _ _ _ _ _ _ _ _ _ _ _ _ _ _ _
   ·rw [show (!(true&&false&&true))=true from rfl] at HQ;go_wp2_with fail;exact HQ.out _ _ _ _ _ _ _ _ _ _ _ _ _ _ _ _ _ _
 ·rw [decide_eq_false h1] at HQ;have t1:(y.student != x1)=true:=by rw [bne_iff_ne];exact h1
  clear h1;rw [iK,iK,fa] at HQ;go_wp2_with fail;exact HQ.out _ _ _ _ _ _ _ _ _ _ _ _ _ _ _ _ _ _
theorem Hr (yb:Nat) (cb:Bool) (y:Ent) (W:World) (Q:Exit→Act→World→Prop) (hy:(∀ j,W.cell? ⟨yb,j,JW⟩=(y.cells:Array Value)[j]?))
  (hQ:∀ (mk mm mn mo ms mx:Value),Q .normal ⟨aq (s0::s1::s2::s3::s4::s5::s6::s7::s8::s9::fv::i4::ed::eg::.bool (cb && !decide (y.kind=5))::hZ::JS (JV ⟨yb,0,JW⟩)::i0::i3::fx::ei::fz::fO::g0::g1::g2::g3::g4::g5::ej::em::eo::g6::g7::g8::g9::ga::gc::gd::es::ew::ex::eA::eB::eD::f0::f1::f2::f3::f5::gf::gk::gn::go::gr::f7::fb::fe::fi::fn::fr::gs::gv::gx::gy::gA::gB::gD::gW::h6::h7::h8::h9::ha::hd::he::hf::hh::hi::ho::ht::hu::hw::hA::mk::mm::mn::mo::ms::mx::hI::hJ::hM::hN::hO::hP::hT::hU::hV::hW::ct::cx::cy::cC::cE::cG::cO::cS::cW::cX::d9::dd::dg::dk::dm::ds::dv::dx::a7::a8::a9::ad::dy::e0::e1::e2::e3::e4::e5::e6::e7::e8::e9::ea::eb::af::ag::ao::b0::b1::b2::b4::b5::b6::b7::b8::b9::ba::bb::bc::bd::bf::bg::bh::bk::bm::bq::bt::bv::bx::c8::c9::cd::cf::ch::ci::cj::ck::cn::co::cs::[]),[]⟩ W) :
  (bW f4 15).wp prog Q ⟨aq (s0::s1::s2::s3::s4::s5::s6::s7::s8::s9::fv::i4::ed::eg::.bool cb::hZ::JS (JV ⟨yb,0,JW⟩)::i0::i3::fx::ei::fz::fO::g0::g1::g2::g3::g4::g5::ej::em::eo::g6::g7::g8::g9::ga::gc::gd::es::ew::ex::eA::eB::eD::f0::f1::f2::f3::f5::gf::gk::gn::go::gr::f7::fb::fe::fi::fn::fr::gs::gv::gx::gy::gA::gB::gD::gW::h6::h7::h8::h9::ha::hd::he::hf::hh::hi::ho::ht::hu::hw::hA::hB::hD::hE::hF::hG::hH::hI::hJ::hM::hN::hO::hP::hT::hU::hV::hW::ct::cx::cy::cC::cE::cG::cO::cS::[cW,cX,d9,dd,dg,dk,dm,ds,dv,dx,a7,a8,a9,ad,dy,e0,e1,e2,e3,e4,e5,e6,e7,e8,e9,ea,eb,af,ag,ao,b0,b1,b2,b4,b5,b6,b7,b8,b9,ba,bb,bc,bd,bf,bg,bh,bk,bm,bq,bt,bv,bx,c8,c9,cd,cf,ch,ci,cj,ck,cn,co,cs]),[]⟩ W:=by
 refine mOn ?_;generalize Q .normal=K at hQ ⊢;have HQ:=aa hQ;clear hQ
 conv=>arg 2;whnf
 have z3:=hy 3
 cases cb
 ·rw [iK] at HQ;go_wp2_with fail;exact HQ.out _ _ _ _ _ _
 ·rw [Bool.true_and] at HQ;by_cases h1:y.kind=5
  ·rw [decide_eq_true h1,ir] at HQ;have t1:(y.kind != 5)=false:=by rw [bne_eq_false_iff_eq];exact h1
   clear h1;go_wp2_with fail;exact HQ.out _ _ _ _ _ _
  ·rw [decide_eq_false h1,fa] at HQ;have t1:(y.kind != 5)=true:=by rw [bne_iff_ne];exact h1
   clear h1;go_wp2_with fail;exact HQ.out _ _ _ _ _ _
theorem Hs (rb yb ab:Nat) (rs:Int) (g cg:Nat) (KL:List LU) (a0 a1 a2 a5:Int) (a3 a4 a6:ByteArray) (y:Ent) (bs:ByteArray) (V:Int) (tb:Bool) (W:World) (Q:Exit→Act→World→Prop) (hrb:(∀ j,W.cell? ⟨rb,j,JW⟩=(#[JO JP rs,JR (JV ⟨g,0,JW⟩) KL.length cg]:Array Value)[j]?)) (hy:(∀ j,W.cell? ⟨yb,j,JW⟩=(y.cells:Array Value)[j]?)) (hab:(∀ j,W.cell? ⟨ab,j,JW⟩=(#[JO JP a0,JO JP a1,JO JP a2,JQ a3,JQ a4,JO JP a5,JQ a6]:Array Value)[j]?)) (hl:rb < W.heap.size∧yb < W.heap.size∧ab < W.heap.size) (hv:(V==0)=tb) (kb:∀ u,Calls prog 23 #[y.val] u fun e w'=>e=JT (JQ bs)∧ac u.heap.size u w') (kv:∀ u,ac W.heap.size W u→Calls prog 22 #[.agg #[JO JP rs,JR (JV ⟨g,0,JW⟩) KL.length cg],JO JP y.key,JQ bs,JQ y.mark,JO JP y.day,JO JP a2] u fun e w'=>e=JT (JO JP V)∧ac u.heap.size u w')
  (hQ:∀ (j5 j6 ja jF jG jX k0 k1 k3 k4 k5 k6 k9:Value)  (wx:World),ac W.heap.size W wx→Q .normal ⟨aq (s0::s1::s2::s3::JS (JV ⟨rb,0,JW⟩)::s5::s6::s7::s8::s9::fv::JS (JV ⟨ab,0,JW⟩)::ed::eg::hY::hZ::JS (JV ⟨yb,0,JW⟩)::i0::i3::.bool tb::ei::fz::fO::g0::g1::g2::g3::g4::g5::ej::em::eo::g6::g7::g8::g9::ga::gc::gd::es::ew::ex::eA::eB::eD::f0::f1::f2::f3::f5::gf::gk::gn::go::gr::f7::fb::fe::fi::fn::fr::gs::gv::gx::gy::gA::gB::gD::gW::h6::h7::h8::h9::ha::hd::he::hf::hh::hi::ho::ht::hu::hw::hA::hB::hD::hE::hF::hG::hH::hI::hJ::hM::hN::hO::hP::hT::hU::hV::hW::ct::cx::cy::cC::cE::cG::cO::cS::[cW,cX,d9,dd,dg,dk,dm,ds,dv,dx,a7,a8,a9,ad,j5,j6,ja,jF,jG,jX,k0,k1,k3,k4,k5,k6,k9,af,ag,ao,b0,b1,b2,b4,b5,b6,b7,b8,b9,ba,bb,bc,bd,bf,bg,bh,bk,bm,bq,bt,bv,bx,c8,c9,cd,cf,ch,ci,cj,ck,cn,co,cs]),[]⟩ wx) :
  (bW f4 23).wp prog Q ⟨aq (s0::s1::s2::s3::JS (JV ⟨rb,0,JW⟩)::s5::s6::s7::s8::s9::fv::JS (JV ⟨ab,0,JW⟩)::ed::eg::hY::hZ::JS (JV ⟨yb,0,JW⟩)::i0::i3::fx::ei::fz::fO::g0::g1::g2::g3::g4::g5::ej::em::eo::g6::g7::g8::g9::ga::gc::gd::es::ew::ex::eA::eB::eD::f0::f1::f2::f3::f5::gf::gk::gn::go::gr::f7::fb::fe::fi::fn::fr::gs::gv::gx::gy::gA::gB::gD::gW::h6::h7::h8::h9::ha::hd::he::hf::hh::hi::ho::ht::hu::hw::hA::hB::hD::hE::hF::hG::hH::hI::hJ::hM::hN::hO::hP::hT::hU::hV::hW::ct::cx::cy::cC::cE::cG::cO::cS::[cW,cX,d9,dd,dg,dk,dm,ds,dv,dx,a7,a8,a9,ad,dy,e0,e1,e2,e3,e4,e5,e6,e7,e8,e9,ea,eb,af,ag,ao,b0,b1,b2,b4,b5,b6,b7,b8,b9,ba,bb,bc,bd,bf,bg,bh,bk,bm,bq,bt,bv,bx,c8,c9,cd,cf,ch,ci,cj,ck,cn,co,cs]),[]⟩ W:=by
 refine mOn ?_;generalize Q .normal=K at hQ ⊢;have HQ:=aa hQ;clear hQ
 conv=>arg 2;whnf
 have KB:=aa kb
 have KV:=aa kv;have hS0:=qN (w:=W) ⟨Below.refl _ _,hl,hrb,hy,hab⟩ (Below.refl _ W).drew;clear kb kv hrb hy hab;refine Jy (S:=fun u=>ac W.heap.size W u∧(rb < u.heap.size∧yb < u.heap.size∧ab < u.heap.size)∧(∀ j,u.cell? ⟨rb,j,JW⟩=(#[JO JP rs,JR (JV ⟨g,0,JW⟩) KL.length cg]:Array Value)[j]?)∧(∀ j,u.cell? ⟨yb,j,JW⟩=(y.cells:Array Value)[j]?)∧(∀ j,u.cell? ⟨ab,j,JW⟩=(#[JO JP a0,JO JP a1,JO JP a2,JQ a3,JQ a4,JO JP a5,JQ a6]:Array Value)[j]?)) [(0,true),(1,true),(2,true),(3,true),(5,true),(6,true),(7,true),(8,true),(9,true),(10,true),(4,false),(11,false),(12,true),(13,true)] hS0 ?_;have hS:=hS0
 iterate 3 refine aj ?_
 refine MC ?_
 iterate 6 refine aj ?_
 refine aH 23 call23 (KB.out _) ?_;rintro x wn ⟨rfl,hb⟩;replace hS:=qN hS hb;refine ⟨_,rfl,hS,?_⟩;(try clear hb);refine ar ?_;refine aH 22 call22 (KV.out _ hS.1) ?_;rintro x wn ⟨rfl,hb⟩;replace hS:=qN hS hb;refine ⟨_,rfl,hS,?_⟩;(try clear hb);refine ar ?_
 iterate 2 refine aj ?_
 simp only [aO,bj]
 (try rw [hv])
 exact HQ.out _ _ _ _ _ _ _ _ _ _ _ _ _ _ hS.1
theorem Hp (lp:Option Addr) (ll lc j:Nat) (l:List Ent) (y:Ent) (W:World) (Q:Exit→Act→World→Prop) (hl:ll=l.length) (hr:LK bK W (JR lp ll lc) l) (hj:l[j]? = JV y)
  (hQ:∀ (l6 l7 la lf:Value) (yb:Nat) (wx:World),ac W.heap.size W wx∧yb < wx.heap.size∧(∀ i,wx.cell? ⟨yb,i,JW⟩=y.cells[i]?)→Q .normal ⟨aq (s0::s1::s2::s3::s4::JR lp ll lc::s6::s7::s8::s9::fv::i4::ed::eg::hY::JO JP (j:Int)::JS (JV ⟨yb,0,JW⟩)::i0::i3::fx::ei::fz::fO::g0::g1::g2::g3::g4::g5::ej::em::eo::g6::g7::g8::g9::ga::gc::gd::es::ew::ex::eA::eB::eD::f0::f1::f2::f3::f5::gf::gk::gn::go::gr::f7::fb::fe::fi::fn::fr::l6::l7::la::lf::gA::gB::gD::gW::h6::h7::h8::h9::ha::hd::he::hf::hh::hi::ho::ht::hu::hw::hA::hB::hD::hE::hF::hG::hH::hI::hJ::hM::hN::hO::hP::hT::hU::hV::hW::ct::cx::cy::cC::cE::cG::cO::cS::[cW,cX,d9,dd,dg,dk,dm,ds,dv,dx,a7,a8,a9,ad,dy,e0,e1,e2,e3,e4,e5,e6,e7,e8,e9,ea,eb,af,ag,ao,b0,b1,b2,b4,b5,b6,b7,b8,b9,ba,bb,bc,bd,bf,bg,bh,bk,bm,bq,bt,bv,bx,c8,c9,cd,cf,ch,ci,cj,ck,cn,co,cs]),[]⟩ wx) :
  (bW f4 13).wp prog Q ⟨aq (s0::s1::s2::s3::s4::JR lp ll lc::s6::s7::s8::s9::fv::i4::ed::eg::hY::JO JP (j:Int)::i5::i0::i3::fx::ei::fz::fO::g0::g1::g2::g3::g4::g5::ej::em::eo::g6::g7::g8::g9::ga::gc::gd::es::ew::ex::eA::eB::eD::f0::f1::f2::f3::f5::gf::gk::gn::go::gr::f7::fb::fe::fi::fn::fr::gs::gv::gx::gy::gA::gB::gD::gW::h6::h7::h8::h9::ha::hd::he::hf::hh::hi::ho::ht::hu::hw::hA::hB::hD::hE::hF::hG::hH::hI::hJ::hM::hN::hO::hP::hT::hU::hV::hW::ct::cx::cy::cC::cE::cG::cO::cS::[cW,cX,d9,dd,dg,dk,dm,ds,dv,dx,a7,a8,a9,ad,dy,e0,e1,e2,e3,e4,e5,e6,e7,e8,e9,ea,eb,af,ag,ao,b0,b1,b2,b4,b5,b6,b7,b8,b9,ba,bb,bc,bd,bf,bg,bh,bk,bm,bq,bt,bv,bx,c8,c9,cd,cf,ch,ci,cj,ck,cn,co,cs]),[]⟩ W:=by
 refine mOn ?_;generalize Q .normal=K at hQ ⊢;have HQ:=aa hQ;clear hQ
 conv=>arg 2;whnf
 subst hl
 have hlt:=(ap.1 hj).1;obtain ⟨g,o,rfl,hg,hrow⟩:=dc (kk:=15) hr (fun _=>rfl) rfl mOm;have hat:W.rangeAt g (o+j*15) y.cells.toList:=hrow j _ hj;have j1:(j:Int) < (l.length:Int):=mOm;have j2:(0:Int)≤(j:Int):=mOm;clear hr hrow hj;go_wp2_with ((with_reducible refine wpList_load_mid (op:=⟨_,_,_,_,_,_⟩) ?_ 67 (.tmp 63) ?_ g (o+j*15) ?_ y.cells.toList _ ?_ underlying67 ?_ ?_ ?_);rfl;rfl;rfl;exact hat;rfl;kernel_rfl);exact HQ.out _ _ _ _ _ _ ⟨al _ _,ay (heap_alloc_new W (JU y.cells 67)),ae (heap_alloc_new W (JU y.cells 67))⟩
theorem IS (xb:Nat) (x0 x1 x2 x3:Int) (k:Nat) (pl pp:Option Addr) (n1 cl n2 cp:Nat) (rp:Option Addr) (rl rc:Nat) (R:List LL) (y:LL) (W:World) (Q:Exit→Act→World→Prop) (hx:(∀ j,W.cell? ⟨xb,j,JW⟩=(#[JO JP x0,JO JP x1,JO JP x2,JO JP x3,JO JP (k:Int),JR pl n1 cl,JR pp n2 cp]:Array Value)[j]?)) (hl:rl=R.length) (hr:LK cH W (JR rp rl rc) R) (hj:R[k]? = JV y)
  (hQ:∀ (kw kx ky l0 l4:Value) (ab:Nat) (wx:World),ac W.heap.size W wx∧ab < wx.heap.size∧(∀ i,wx.cell? ⟨ab,i,JW⟩=(#[JO JP y.school,JO JP y.size,JO JP y.day,JQ y.tree,JQ y.before,JO JP y.key,JQ y.mark]:Array Value)[i]?)→Q .normal ⟨aq (s0::s1::s2::s3::s4::s5::JR rp rl rc::JS (JV ⟨xb,0,JW⟩)::s8::s9::fv::JS (JV ⟨ab,0,JW⟩)::ed::eg::hY::hZ::i5::i0::i3::fx::ei::fz::fO::g0::g1::g2::g3::g4::g5::ej::em::eo::g6::g7::g8::g9::ga::gc::gd::es::ew::ex::eA::eB::eD::f0::f1::f2::f3::f5::kw::kx::ky::l0::l4::f7::fb::fe::fi::fn::fr::gs::gv::gx::gy::gA::gB::gD::gW::h6::h7::h8::h9::ha::hd::he::hf::hh::hi::ho::ht::hu::hw::hA::hB::hD::hE::hF::hG::hH::hI::hJ::hM::hN::hO::hP::hT::hU::hV::hW::ct::cx::cy::cC::cE::cG::cO::cS::[cW,cX,d9,dd,dg,dk,dm,ds,dv,dx,a7,a8,a9,ad,dy,e0,e1,e2,e3,e4,e5,e6,e7,e8,e9,ea,eb,af,ag,ao,b0,b1,b2,b4,b5,b6,b7,b8,b9,ba,bb,bc,bd,bf,bg,bh,bk,bm,bq,bt,bv,bx,c8,c9,cd,cf,ch,ci,cj,ck,cn,co,cs]),[]⟩ wx) :
  (bW f4 8).wp prog Q ⟨aq (s0::s1::s2::s3::s4::s5::JR rp rl rc::JS (JV ⟨xb,0,JW⟩)::s8::s9::fv::i4::ed::eg::hY::hZ::i5::i0::i3::fx::ei::fz::fO::g0::g1::g2::g3::g4::g5::ej::em::eo::g6::g7::g8::g9::ga::gc::gd::es::ew::ex::eA::eB::eD::f0::f1::f2::f3::f5::gf::gk::gn::go::gr::f7::fb::fe::fi::fn::fr::gs::gv::gx::gy::gA::gB::gD::gW::h6::h7::h8::h9::ha::hd::he::hf::hh::hi::ho::ht::hu::hw::hA::hB::hD::hE::hF::hG::hH::hI::hJ::hM::hN::hO::hP::hT::hU::hV::hW::ct::cx::cy::cC::cE::cG::cO::cS::[cW,cX,d9,dd,dg,dk,dm,ds,dv,dx,a7,a8,a9,ad,dy,e0,e1,e2,e3,e4,e5,e6,e7,e8,e9,ea,eb,af,ag,ao,b0,b1,b2,b4,b5,b6,b7,b8,b9,ba,bb,bc,bd,bf,bg,bh,bk,bm,bq,bt,bv,bx,c8,c9,cd,cf,ch,ci,cj,ck,cn,co,cs]),[]⟩ W:=by
 refine mOn ?_;generalize Q .normal=K at hQ ⊢;have HQ:=aa hQ;clear hQ
 conv=>arg 2;whnf
 subst hl
 have x4:=hx 4;have hlt:=(ap.1 hj).1;obtain ⟨g,o,rfl,hg,hrow⟩:=dc (kk:=7) hr df rfl mOm;have hat:W.rangeAt g (o+k*7) (cH y):=hrow k _ hj;have j1:(k:Int) < (R.length:Int):=mOm;have j2:(0:Int)≤(k:Int):=mOm;clear hr hrow hj hx;go_wp2_with ((with_reducible refine wpList_load_mid (op:=⟨_,_,_,_,_,_⟩) ?_ 65 (.tmp 53) ?_ g (o+k*7) ?_ (cH y) _ ?_ underlying65 ?_ ?_ ?_);rfl;rfl;rfl;exact hat;rfl;kernel_rfl);exact HQ.out _ _ _ _ _ _ _ ⟨al _ _,ay (heap_alloc_new W (JU (cH y).toArray 65)),ae (heap_alloc_new W (JU (cH y).toArray 65))⟩
theorem IP (cb:Nat) (A B D:Option Addr) (n m q cA cB cD:Nat) (d0 d1 d2 d3 d4:Int) (W:World) (Q:Exit→Act→World→Prop) (hc:(∀ j,W.cell? ⟨cb,j,JW⟩=(#[JR A n cA,JR B m cB,JR D q cD,JO JP d0,JO JP d1,JO JP d2,JO JP d3,JO JP d4]:Array Value)[j]?)) (kc:Calls prog 8 #[.agg #[JR A n cA,JR B m cB,JR D q cD,JO JP d0,JO JP d1,JO JP d2,JO JP d3,JO JP d4]] W (CX W))
  (hQ:∀ (kd ke kf kh ki kj kl km:Value) (r:LR) (l:List Ent) (R:List LL) (g cg:Nat) (pl:Option Addr) (cl:Nat) (pr:Option Addr) (cr rb xb:Nat) (x0 x1 x2 x3 x4:Int) (p1:Option Addr) (n1 c1:Nat) (p2:Option Addr) (n2 c2:Nat) (bo:Bool) (wx:World),MadeIn W wx r l R g cg pl cl pr cr rb xb #[JO JP x0,JO JP x1,JO JP x2,JO JP x3,JO JP x4,JR p1 n1 c1,JR p2 n2 c2] bo→Q .normal ⟨aq (s0::JS (JV ⟨cb,0,JW⟩)::s2::s3::JS (JV ⟨rb,0,JW⟩)::JR pl l.length cl::JR pr R.length cr::JS (JV ⟨xb,0,JW⟩)::.bool bo::s9::fv::i4::ed::eg::hY::hZ::i5::i0::i3::fx::ei::kd::ke::kf::kh::ki::kj::kl::km::ej::em::eo::g6::g7::g8::g9::ga::gc::gd::es::ew::ex::eA::eB::eD::f0::f1::f2::f3::f5::gf::gk::gn::go::gr::f7::fb::fe::fi::fn::fr::gs::gv::gx::gy::gA::gB::gD::gW::h6::h7::h8::h9::ha::hd::he::hf::hh::hi::ho::ht::hu::hw::hA::hB::hD::hE::hF::hG::hH::hI::hJ::hM::hN::hO::hP::hT::hU::hV::hW::ct::cx::cy::cC::cE::cG::cO::cS::[cW,cX,d9,dd,dg,dk,dm,ds,dv,dx,a7,a8,a9,ad,dy,e0,e1,e2,e3,e4,e5,e6,e7,e8,e9,ea,eb,af,ag,ao,b0,b1,b2,b4,b5,b6,b7,b8,b9,ba,bb,bc,bd,bf,bg,bh,bk,bm,bq,bt,bv,bx,c8,c9,cd,cf,ch,ci,cj,ck,cn,co,cs]),[]⟩ wx) :
  (bW f4 2).wp prog Q ⟨aq (s0::JS (JV ⟨cb,0,JW⟩)::s2::s3::s4::s5::s6::s7::s8::s9::fv::i4::ed::eg::hY::hZ::i5::i0::i3::fx::ei::fz::fO::g0::g1::g2::g3::g4::g5::ej::em::eo::g6::g7::g8::g9::ga::gc::gd::es::ew::ex::eA::eB::eD::f0::f1::f2::f3::f5::gf::gk::gn::go::gr::f7::fb::fe::fi::fn::fr::gs::gv::gx::gy::gA::gB::gD::gW::h6::h7::h8::h9::ha::hd::he::hf::hh::hi::ho::ht::hu::hw::hA::hB::hD::hE::hF::hG::hH::hI::hJ::hM::hN::hO::hP::hT::hU::hV::hW::ct::cx::cy::cC::cE::cG::cO::cS::[cW,cX,d9,dd,dg,dk,dm,ds,dv,dx,a7,a8,a9,ad,dy,e0,e1,e2,e3,e4,e5,e6,e7,e8,e9,ea,eb,af,ag,ao,b0,b1,b2,b4,b5,b6,b7,b8,b9,ba,bb,bc,bd,bf,bg,bh,bk,bm,bq,bt,bv,bx,c8,c9,cd,cf,ch,ci,cj,ck,cn,co,cs]),[]⟩ W:=by
 refine mOn ?_;generalize Q .normal=K at hQ ⊢;have HQ:=aa hQ;clear hQ
 conv=>arg 2;whnf
 have c0:=hc 0
 have c1:=hc 1;have c2:=hc 2;have c3:=hc 3;have c4:=hc 4;have c5:=hc 5;have c6:=hc 6;have c7:=hc 7;clear hc;go_wp2_with fail;refine kc.mono ?_;clear kc c0 c1 c2 c3 c4 c5 c6 c7;rintro _ w1 ⟨r,l,R,g,cg,pl,cl,pr,cr,X,bo,rfl,⟨x0,x1,x2,x3,x4,p1,n1,c1,p2,n2,c2,rfl⟩,hC,hK,hL,hR,hX⟩;obtain ⟨hb,h1,h2⟩:=Eo w1 (JU #[JO JP r.school,JR (JV ⟨g,0,JW⟩) r.keys.length cg] 33) (JU #[JO JP x0,JO JP x1,JO JP x2,JO JP x3,JO JP x4,JR p1 n1 c1,JR p2 n2 c2] 39);have HM:Hid (MadeIn W _ r l R g cg pl cl pr cr w1.heap.size (w1.heap.size+1) #[JO JP x0,JO JP x1,JO JP x2,JO JP x3,JO JP x4,JR p1 n1 c1,JR p2 n2 c2] bo):=aa ⟨ah hK.low hb,hC,⟨ay h1,ae h1⟩,⟨ay h2,ae h2⟩,hK.next hb,hL.next hb,hR.next hb,fun e=>(hX e).next (Below.refl _ _) hb⟩;clear hC hK hL hR hX hb h1 h2;go_wp2_with fail;exact HQ.out _ _ _ _ _ _ _ _ _ _ _ _ _ _ _ _ _ _ _ _ _ _ _ _ _ _ _ _ _ _ _ _ HM.out
theorem IR (rb xb:Nat) (rs:Int) (g cg:Nat) (KL:List LU) (pr:Option Addr) (rl cr:Nat) (x0 x1 x2 x3 x4:Int) (pl pp:Option Addr) (n1 cl n2 cp:Nat) (EV:List Ent) (hv er:Int) (cv:Bool) (W:World) (Q:Exit→Act→World→Prop) (hrb:(∀ j,W.cell? ⟨rb,j,JW⟩=(#[JO JP rs,JR (JV ⟨g,0,JW⟩) KL.length cg]:Array Value)[j]?)) (hxb:(∀ j,W.cell? ⟨xb,j,JW⟩=(#[JO JP x0,JO JP x1,JO JP x2,JO JP x3,JO JP x4,JR pl n1 cl,JR pp n2 cp]:Array Value)[j]?)) (kc:Calls prog 13 #[.agg #[JO JP x0,JO JP x1,JO JP x2,JO JP x3,JO JP x4,JR pl n1 cl,JR pp n2 cp],JR pr rl cr,.agg #[JO JP rs,JR (JV ⟨g,0,JW⟩) KL.length cg],JO JP 100000] W fun e w'=>∃ p c,e=JT (.tuple #[.agg #[JR p EV.length c,JO JP hv,.bool cv],JO JP er])∧LK bK w' (JR p EV.length c) EV∧ac W.heap.size W w')
  (hQ:∀ (kn ko kp kq kr ks kt:Value) (vb:Nat) (pe:Option Addr) (ce:Nat) (wx:World),ac W.heap.size W wx∧vb < wx.heap.size∧(∀ i,wx.cell? ⟨vb,i,JW⟩=(#[JR pe EV.length ce,JO JP hv,.bool cv]:Array Value)[i]?)∧LK bK wx (JR pe EV.length ce) EV→Q .normal ⟨aq (s0::s1::s2::s3::JS (JV ⟨rb,0,JW⟩)::s5::JR pr rl cr::JS (JV ⟨xb,0,JW⟩)::s8::JS (JV ⟨vb,0,JW⟩)::JO JP er::i4::ed::eg::hY::hZ::i5::i0::i3::fx::ei::fz::fO::g0::g1::g2::g3::g4::g5::ej::em::eo::kn::ko::kp::kq::kr::ks::kt::es::ew::ex::eA::eB::eD::f0::f1::f2::f3::f5::gf::gk::gn::go::gr::f7::fb::fe::fi::fn::fr::gs::gv::gx::gy::gA::gB::gD::gW::h6::h7::h8::h9::ha::hd::he::hf::hh::hi::ho::ht::hu::hw::hA::hB::hD::hE::hF::hG::hH::hI::hJ::hM::hN::hO::hP::hT::hU::hV::hW::ct::cx::cy::cC::cE::cG::cO::cS::[cW,cX,d9,dd,dg,dk,dm,ds,dv,dx,a7,a8,a9,ad,dy,e0,e1,e2,e3,e4,e5,e6,e7,e8,e9,ea,eb,af,ag,ao,b0,b1,b2,b4,b5,b6,b7,b8,b9,ba,bb,bc,bd,bf,bg,bh,bk,bm,bq,bt,bv,bx,c8,c9,cd,cf,ch,ci,cj,ck,cn,co,cs]),[]⟩ wx) :
  (bW f4 5).wp prog Q ⟨aq (s0::s1::s2::s3::JS (JV ⟨rb,0,JW⟩)::s5::JR pr rl cr::JS (JV ⟨xb,0,JW⟩)::s8::s9::fv::i4::ed::eg::hY::hZ::i5::i0::i3::fx::ei::fz::fO::g0::g1::g2::g3::g4::g5::ej::em::eo::g6::g7::g8::g9::ga::gc::gd::es::ew::ex::eA::eB::eD::f0::f1::f2::f3::f5::gf::gk::gn::go::gr::f7::fb::fe::fi::fn::fr::gs::gv::gx::gy::gA::gB::gD::gW::h6::h7::h8::h9::ha::hd::he::hf::hh::hi::ho::ht::hu::hw::hA::hB::hD::hE::hF::hG::hH::hI::hJ::hM::hN::hO::hP::hT::hU::hV::hW::ct::cx::cy::cC::cE::cG::cO::cS::[cW,cX,d9,dd,dg,dk,dm,ds,dv,dx,a7,a8,a9,ad,dy,e0,e1,e2,e3,e4,e5,e6,e7,e8,e9,ea,eb,af,ag,ao,b0,b1,b2,b4,b5,b6,b7,b8,b9,ba,bb,bc,bd,bf,bg,bh,bk,bm,bq,bt,bv,bx,c8,c9,cd,cf,ch,ci,cj,ck,cn,co,cs]),[]⟩ W:=by
 refine mOn ?_;generalize Q .normal=K at hQ ⊢;have HQ:=aa hQ;clear hQ
 conv=>arg 2;whnf
 have c0:=hxb 0
 have c1:=hxb 1;have c2:=hxb 2;have c3:=hxb 3;have c4:=hxb 4;have c5:=hxb 5;have c6:=hxb 6;have r0:=hrb 0;have r1:=hrb 1;clear hrb hxb;go_wp2_with fail;refine kc.mono ?_;clear kc c0 c1 c2 c3 c4 c5 c6 r0 r1;rintro _ w1 ⟨p,c,rfl,hR,hb⟩;have h1:=heap_alloc_new w1 (JU #[JR p EV.length c,JO JP hv,.bool cv] 51);have hba:=al w1 (JU #[JR p EV.length c,JO JP hv,.bool cv] 51);have HF:=aa (And.intro (ah hb hba) (And.intro (ay h1) (And.intro (ae h1) (hR.below hba))));clear hR hb h1 hba;go_wp2_with fail;exact HQ.out _ _ _ _ _ _ _ _ _ _ _ HF.out
end
section
variable {s0 s1 s2 s3 s4 s5 s6 s7 s8 s9 fx ks kt kv kw kx h9 ha hc he fz fO g0 g1 g2 g3 g4 g5 g6 g7 g8 g9 ga gc gd gf gk gn go gr gs gv gx gy gA gB gD gW h0 h3 h4 h5 h6 h7 h8 hf hg hh hk hl hm hn ho hp hr hs ht hx hy hz hA hB hC hD hE hF hG hH hI hJ hK hL hM hN hO hP hR hS hT hU hV hW hX hY hZ i0 i2 i3 i4 i5 bo bq bs bt bx c0 c1 c2 c3 c4 c5 c6 c7 c8 c9 ca cc cd ce cf ch ci cj ck cn co cr cs ct cx cy cA cB cC cD cE cG cO cS cW cX d0 d1 d2 a2 a7 a8 a9 ad af ag ao b0 b1 b2 b3 b4 b5 b6 b7 b8 b9 ba bb bc bd bf bg bh bk bm:Value}
open Go Go.Proofs Go.RowKit Go.Maps Go.Sort Go.Lib
theorem CH {e:Ent} (h:e.Ok):(⟨e.body.toArray⟩:ByteArray).size≤1000000:=by
 have h1:=lR e h;have h2:=h.course;rw [bw]
 show e.body.length≤1000000
 omega
theorem IN (rb xb vb ab:Nat) (rs:Int) (g cg:Nat) (KL:List LU) (x0 st fi la x4:Int) (pl pp:Option Addr) (n1 cl n2 cp:Nat) (L:List LT) (l:List Ent) (lp:Option Addr) (ll lc m:Nat) (rt:LL) (a0 a5:Int) (a3 a4 a6:ByteArray) (ids:List Int) (EV:List Ent) (pv:Option Addr) (cv:Nat) (hv:Int) (bv:Bool) (W:World) (Q:Exit→Act→World→Prop) (hl2:ll=l.length) (hn1:n1=L.length) (hi:TrIn W rs KL g l lp lc L pl cl m rt st fi la ids EV pv cv) (hlt:rb < W.heap.size∧xb < W.heap.size∧vb < W.heap.size∧ab < W.heap.size) (hrb:(∀ j,W.cell? ⟨rb,j,JW⟩=(#[JO JP rs,JR (JV ⟨g,0,JW⟩) KL.length cg]:Array Value)[j]?)) (hxb:(∀ j,W.cell? ⟨xb,j,JW⟩=(#[JO JP x0,JO JP st,JO JP fi,JO JP la,JO JP x4,JR pl n1 cl,JR pp n2 cp]:Array Value)[j]?)) (hvb:(∀ j,W.cell? ⟨vb,j,JW⟩=(#[JR pv EV.length cv,JO JP hv,.bool bv]:Array Value)[j]?)) (hab:(∀ j,W.cell? ⟨ab,j,JW⟩=(#[JO JP a0,JO JP (m:Int),JO JP rt.day,JQ a3,JQ a4,JO JP a5,JQ a6]:Array Value)[j]?))
  (hQ:∀ (u2 i6 i7 i8 i9 ib ih ii im io iv ix iH iI iJ iL j0 j1 j2 j3 j4 j5 j6 ja jF jG jX k0 k1 k2 k3 k4 k5 k6 k9 ka kb kc kd ke kf ki kj kk kl km kn ko kp kq kr d3 d4 d9 dd dg dk dm ds dv dx dy e0 e4 e5 e6 e7 e8 e9 ea eb ed eg ei ej em eo er es ew ex eA eB eD f0 f1 f2 f3 f5 f7 fb fe fn fr fv:Value)  (wx:World),ac W.heap.size W wx→Q .normal ⟨aq (s0::s1::u2::.bool true::JS (JV ⟨rb,0,JW⟩)::JR lp ll lc::s6::JS (JV ⟨xb,0,JW⟩)::s8::JS (JV ⟨vb,0,JW⟩)::fx::JS (JV ⟨ab,0,JW⟩)::JO JP (shQ st fi la ids ⟨rs,KL⟩ rt (l.take m):Nat)::JO JP (nh st fi la ids (l.take m):Nat)::.bool (jr st fi la (l.take m))::i6::i7::i8::i9::ib::fz::fO::g0::g1::g2::g3::g4::g5::g6::g7::g8::g9::ga::gc::gd::gf::gk::gn::go::gr::gs::gv::gx::gy::gA::gB::gD::gW::h0::h3::h4::h5::h6::h7::h8::ih::ii::im::io::iv::ix::iH::iI::iJ::iL::j0::j1::j2::j3::j4::j5::j6::ja::jF::jG::jX::k0::k1::k2::k3::k4::k5::k6::k9::ka::kb::kc::kd::ke::kf::ki::kj::kk::kl::km::kn::ko::kp::kq::kr::d3::d4::d9::dd::dg::dk::dm::ds::[dv,dx,dy,e0,e4,e5,e6,e7,e8,e9,ea,eb,ed,eg,ei,ej,em,eo,er,es,ew,ex,eA,eB,eD,f0,f1,f2,f3,f5,f7,fb,fe,fn,fr,fv,a2,a7,a8,a9,ad,af,ag,ao,b0,b1,b2,b3,b4,b5,b6,b7,b8,b9,ba,bb,bc,bd,bf,bg,bh,bk,bm]),[]⟩ wx) :
  (ip f4 0).wp prog Q ⟨aq (s0::s1::s2::.bool true::JS (JV ⟨rb,0,JW⟩)::JR lp ll lc::s6::JS (JV ⟨xb,0,JW⟩)::s8::JS (JV ⟨vb,0,JW⟩)::fx::JS (JV ⟨ab,0,JW⟩)::JO JP 0::JO JP 0::.bool true::JO JP 0::h9::ha::hc::he::fz::fO::g0::g1::g2::g3::g4::g5::g6::g7::g8::g9::ga::gc::gd::gf::gk::gn::go::gr::gs::gv::gx::gy::gA::gB::gD::gW::h0::h3::h4::h5::h6::h7::h8::hf::hg::hh::hk::hl::hm::hn::ho::hp::hr::hs::ht::hx::hy::hz::hA::hB::hC::hD::hE::hF::hG::hH::hI::hJ::hK::hL::hM::hN::hO::hP::hR::hS::hT::hU::hV::hW::hX::hY::hZ::i0::i2::i3::i4::i5::bo::bq::bs::bt::bx::c0::c1::c2::[c3,c4,c5,c6,c7,c8,c9,ca,cc,cd,ce,cf,ch,ci,cj,ck,cn,co,cr,cs,ct,cx,cy,cA,cB,cC,cD,cE,cG,cO,cS,cW,cX,d0,d1,d2,a2,a7,a8,a9,ad,af,ag,ao,b0,b1,b2,b3,b4,b5,b6,b7,b8,b9,ba,bb,bc,bd,bf,bg,bh,bk,bm]),[]⟩ W:=by
 refine mOn ?_;generalize Q .normal=K at hQ ⊢;have HQ:=aa hQ;clear hQ
 conv=>arg 2;whnf
 subst hl2
 subst hn1;obtain ⟨l1,l2,l3,l4⟩:=hlt;have HI:=aa hi;have HRB:=aa hrb;have HXB:=aa hxb;have HVB:=aa hvb;have HAB:=aa hab;obtain ⟨hm1,hm2,hm3,hm4⟩:=hi.many;clear hi hrb hxb hvb hab;go_wp2_with fail
 go_loopw [12,13,14,15] (fun a b c i wr=>∃ (j sh hd:Nat) (cb:Bool),j≤m∧sh≤j∧hd≤j∧a=JO JP sh∧b=JO JP hd∧c=.bool cb∧i=JO JP j∧Hid (sh=shQ st fi la ids ⟨rs,KL⟩ rt (l.take j)∧hd=nh st fi la ids (l.take j)∧cb=jr st fi la (l.take j))∧ac W.heap.size W wr) (fun _ _ _ i _=>m - (aw i).toNat)
 case atStart=>exact ⟨0,0,0,true,aR _,aD _,aD _,rfl,rfl,rfl,rfl,aa ⟨rfl,rfl,rfl⟩,Below.refl _ _⟩
 case round =>
  obtain ⟨j,sh,hd,cb,hj,hsj,hhj,rfl,rfl,rfl,rfl,HT,hb⟩:=hrel;have a1:wr.cell? ⟨ab,1,JW⟩=JV (JO JP (m:Int)):=(hb.cell (p:=⟨ab,1,JW⟩) l4).trans (HAB.out 1);by_cases hlt:j < m
  ·have i1:(j:Int) < (m:Int):=mOm;have hjl:j < l.length:=mOm;have hge:=ai hjl;have HTK:Hid (l.take (j+1)=l.take j++[l[j]]):=aa (by rw [aL,hge];rfl);have hmem:l[j]∈l.take m:=List.mem_of_getElem? (i:=j) (by rw [List.getElem?_take_of_lt hlt];exact hge);have hyok:=HI.out.ok _ hmem;have hop:=HI.out.open_ _ hmem;have hhs:=HI.out.has _ hmem;generalize l[j]=y at *;have HGE:=aa hge;have HOP:=aa hop;have HHS:=aa hhs;have HOK:=aa hyok;have HB:=aa hb;clear hge hmem hop hhs hyok hb
   go_upto_region 13 with fail
   clear a1 i1;refine Hp lp l.length lc j l y wr _ rfl (HI.out.ents.below HB.out) HGE.out ?_
   intros
   rename_i yb w1 h13
   obtain ⟨h13b,h13l,h13c⟩:=h13
   have HB1:=aa (ah HB.out h13b);have HY1:=aa h13c;have hyl1:=h13l;clear h13b h13l h13c
   go_upto_region 14 with fail
   refine Hq xb yb x0 st fi la x4 pl pp L.length cl n2 cp y w1 _ (gK HB1.out l2 HXB.out) HY1.out ?_
   intros
   by_cases hq:inQ st fi la y=true
   rotate_left 1
   ·rw [MA] at hq;rw [hq,fa]
    have HSN:Hid (shQ st fi la ids ⟨rs,KL⟩ rt (l.take (j+1))=sh∧nh st fi la ids (l.take (j+1))=hd∧jr st fi la (l.take (j+1))=cb):=aa (by
     obtain ⟨t1,t2,t3⟩:=HT.out;rw [HTK.out,yT,ww,se,hq,← t1,← t2,← t3]
     simp)
    clear hq
    go_wp2_with fail
    go_roundw
    case rel=>exact ⟨j+1,sh,hd,cb,mOm,mOm,mOm,rfl,rfl,rfl,by go_num,aa ⟨HSN.out.1.symm,HSN.out.2.1.symm,HSN.out.2.2.symm⟩,HB1.out⟩
    case measure=>simp [aw];omega
   rw [hq,ir]
   have HQI:=aa hq
   have HSN:Hid (shQ st fi la ids ⟨rs,KL⟩ rt (l.take (j+1))=sh+(if (decide (y.id∈ids)&&ia ⟨rs,KL⟩ rt y)=true then 1 else 0)∧nh st fi la ids (l.take (j+1))=hd+(if (!decide (y.id∈ids))=true then 1 else 0)∧jr st fi la (l.take (j+1))=(cb && !decide (y.kind=5))):=aa (by
    obtain ⟨t1,t2,t3⟩:=HT.out;rw [HTK.out,yT,ww,se,hq,← t1,← t2,← t3]
    simp)
   have HO2:=aa (HOP.out hq)
   clear hq HT HTK HOP
   go_upto_region 15 with fail
   refine Hr yb cb y w1 _ HY1.out ?_
   intros
   obtain ⟨cb2,hcb2⟩:∃ b,(cb && !decide (y.kind=5))=b:=⟨_,rfl⟩
   rw [hcb2];have HCB2:=aa hcb2;clear hcb2
   go_upto_block 2 with fail
   refine IOx xb yb x0 st fi la x4 pl pp L.length cl n2 cp L y (dE y) w1 _ (gK HB1.out l2 HXB.out) (av l2 HB1.out.size) HY1.out hyl1 rfl (HI.out.lines.below HB1.out) hm3 (fun u=>mI y HOK.out u) ?_
   intros
   rename_i w2 hb2
   rw [HO2.out]
   have HB2:=aa (ah HB1.out hb2);have HY2:=aa (gK hb2 hyl1 HY1.out);have hyl2:=av hyl1 hb2.size;clear hb2 HO2;by_cases hid:y.id∈ids
   rotate_left 1
   ·rw [decide_eq_false hid]
    have HS2:Hid (shQ st fi la ids ⟨rs,KL⟩ rt (l.take (j+1))=sh∧nh st fi la ids (l.take (j+1))=hd+1∧jr st fi la (l.take (j+1))=cb2):=aa (by
     obtain ⟨t1,t2,t3⟩:=HSN.out;rw [t1,t2,t3,decide_eq_false hid,HCB2.out]
     simp)
    clear hid
    have hw:IntKind.i64.wrap ((hd:Int)+1)=((hd+1:Nat):Int):=by rw [aF _ mOm];omega
    go_wp2_with fail
    go_roundw
    case rel=>exact ⟨j+1,sh,hd+1,cb2,mOm,mOm,mOm,rfl,rfl,rfl,by go_num,aa ⟨HS2.out.1.symm,HS2.out.2.1.symm,HS2.out.2.2.symm⟩,HB2.out⟩
    case measure=>simp [aw];omega
   rw [decide_eq_true hid]
   have HH:=aa (HHS.out HQI.out hid);obtain ⟨tb,htb⟩:∃ b,ia ⟨rs,KL⟩ rt y=b:=⟨_,rfl⟩;have HTB:=aa htb
   have HS2:Hid (shQ st fi la ids ⟨rs,KL⟩ rt (l.take (j+1))=sh+(if tb=true then 1 else 0)∧nh st fi la ids (l.take (j+1))=hd∧jr st fi la (l.take (j+1))=cb2):=aa (by
    obtain ⟨t1,t2,t3⟩:=HSN.out;rw [t1,t2,t3,decide_eq_true hid,HCB2.out,htb]
    simp)
   have hvt:(eh ⟨rs,KL⟩ y.key ⟨y.body.toArray⟩ y.mark y.day rt.day==0)=tb:=by rw [← htb];unfold ia;rw [db,beq_iff_eq,decide_eq_true_eq]
   clear hid htb HSN HHS
   go_upto_region 23 with fail
   refine Hs rb yb ab rs g cg KL a0 (m:Int) rt.day a5 a3 a4 a6 y ⟨y.body.toArray⟩ (eh ⟨rs,KL⟩ y.key ⟨y.body.toArray⟩ y.mark y.day rt.day) tb w2 _ (gK HB2.out l1 HRB.out) HY2.out (gK HB2.out l4 HAB.out) ⟨av l1 HB2.out.size,hyl2,av l4 HB2.out.size⟩ hvt (fun u=>pq y HOK.out u) (fun u hu=>rN g cg ⟨rs,KL⟩ y.key ⟨y.body.toArray⟩ y.mark y.day rt.day u HI.out.keys.2.2.1 (HI.out.keys.1.below (ah HB2.out hu) HI.out.keys.2.1) HI.out.keys.2.2.2.1 (av HI.out.keys.2.1 (ah HB2.out hu).size) HI.out.keys.2.2.2.2 HOK.out.key (CH HOK.out) (bz HI.out.ready (ah HB2.out hu)).sane.1) ?_
   intros
   rename_i w3 hb3
   have HB3:=aa (ah HB2.out hb3)
   have HY3:=aa (gK hb3 hyl2 HY2.out);have hyl3:=av hyl2 hb3.size;have v0:w3.cell? ⟨vb,0,JW⟩=JV (JR pv EV.length cv):=(HB3.out.cell (p:=⟨vb,0,JW⟩) l3).trans (HVB.out 0);have kh:=Ds pv cv EV y w3 (HI.out.ver.below HB3.out) hm4;have hat:=mu HY3.out;clear hb3 hvt;go_wp2_with ((with_reducible refine wpList_load_mid (op:=⟨_,_,_,_,_,_⟩) ?_ 67 (.tmp 16) ?_ yb 0 ?_ y.cells.toList _ ?_ underlying67 ?_ ?_ ?_);rfl;rfl;rfl;exact hat;rfl;kernel_rfl);refine kh.mono ?_;clear kh hat v0;rintro _ w4 ⟨t4,rfl,ht4,hb4⟩;obtain rfl:t4=tb:=by rw [db,ht4,HH.out,HTB.out]
   have HB4:=aa (ah HB3.out hb4)
   clear ht4 hb4 HTB HH;have tne:(t4 != t4)=false:=by rw [bne_self_eq_false]
   cases t4
   ·go_wp2_with fail
    go_roundw
    case rel=>exact ⟨j+1,sh,hd,cb2,mOm,mOm,mOm,rfl,rfl,rfl,by go_num,aa ⟨HS2.out.1.symm,HS2.out.2.1.symm,HS2.out.2.2.symm⟩,HB4.out⟩
    case measure=>simp [aw];omega
   ·have hw:IntKind.i64.wrap ((sh:Int)+1)=((sh+1:Nat):Int):=by rw [aF _ mOm];omega
    go_wp2_with fail
    go_roundw
    case rel=>exact ⟨j+1,sh+1,hd,cb2,mOm,mOm,mOm,rfl,rfl,rfl,by go_num,aa ⟨HS2.out.1.symm,HS2.out.2.1.symm,HS2.out.2.2.symm⟩,HB4.out⟩
    case measure=>simp [aw];omega
  ·obtain rfl:j=m:=mOm;have i1:¬ (j:Int) < (j:Int):=mOm;obtain ⟨e1,e2,e3⟩:=HT.out;have HE1:=aa e1;have HE2:=aa e2;have HE3:=aa e3;clear e1 e2 e3 HT;go_wp2_with fail;have e1:=HE1.out;have e2:=HE2.out;have e3:=HE3.out;subst e1;subst e2;subst e3;exact HQ.out _ _ _ _ _ _ _ _ _ _ _ _ _ _ _ _ _ _ _ _ _ _ _ _ _ _ _ _ _ _ _ _ _ _ _ _ _ _ _ _ _ _ _ _ _ _ _ _ _ _ _ _ _ _ _ _ _ _ _ _ _ _ _ _ _ _ _ _ _ _ _ _ _ _ _ _ _ _ _ _ _ _ _ _ _ _ _ _ _ _ _ _ _ _ _ _ hb
