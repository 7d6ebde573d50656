/- Lemmas. -/
import Derived.Test.YtnlhbdmeodbblaaGreatDoorMtbi
import Derived.Test.YtnlhbdmeodbblaaGreatDoorMtbg
import Derived.Test.YtnlhbdmeodbblaaGreatDoorMtax
set_option maxRecDepth 100000
set_option maxHeartbeats 16000000
set_option linter.all false
open Go.Proofs.Tryz
open Bool renaming and_eq_true->aX
open Int renaming tdiv_eq_ediv_of_nonneg->ev,tmod_eq_emod_of_nonneg->bN
open Go.IntWalk renaming i64_in->aH
open Go.Lib renaming cell_of_heap->ae,frozen_of_heap->aE,hid->aa
open List renaming length_append->ap,length_singleton->aB,toArray->aK
open Nat renaming le_trans->aV,zero_le->aP
open Go.RowKit renaming Below->ac,intOf->aw
open Go.Ending renaming returned->Oe
open Go.IntKind renaming i64->Oa
open Go.Obj renaming cells->Of
open Go.Value renaming int->N9,string->Ob,slice->Oc,pointer->Od
open Option renaming some->Og,none->Oh
namespace Go.Proofs.YtnlhbdmeodbblaaGreatDoor
open Go Go.RowKit Go.Sort Go.Lib
section
variable {s0 s1 s2 s3 s4 s5 s6 s7 s8 s9 ad af ag ao b0 b1 b2 b4 b6 b7 b8 ba bb bc bd be bf bg bh bk bm bo bp br bs bt bv c0 ct cv cx cy cz cA cB cD cG cO cS cW c2 c4 c5 c6 c7 c8 ca cb cc cd ce cf cg ch ci cj ck cl co cp cr cs:Value}
attribute [local go_sem ↓] mq mr
theorem ow:∀x:bG,(fp x).length=4:=fun _=>rfl
theorem kyT:RowT prog fp 4 78 31 where
 len _:=rfl
 one x u hu:=by
  simp only[fp,List.mem_cons,List.not_mem_nil,or_false] at hu;rcases hu with rfl|rfl|rfl|rfl <;> rfl
 pos:=mDe
 und:=underlying31
 info:=⟨_,_,rfl,rfl,rfl,mDe,mDe⟩
theorem MW(sc:Int)(d k:Nat)(SK DS:ByteArray)(W:World)(Q:Exit->Act->World->Prop)(hk:k<3)(hsk:(#[Ob ⟨#[111,97,107]⟩,Ob ⟨#[101,108,109]⟩,Ob ⟨#[97,115,104]⟩]:Array Value)[k]? = Og (Ob SK))(hz1:SK.size<=3)(hz2:DS.size<=100)(kd:∀u,Calls prog 79 #[N9 Oa sc] u (fun e w'=>e=Oe (Ob DS)/\ac u.heap.size u w'))
  (hQ:∀(a3 a4 a5 a6 a9 ab:Value)(bx:Nat)(wx:World),ac W.heap.size W wx->W.heap.size<=bx->wx.heap[bx]? = Og (Of #[N9 Oa (1+2*(k:Int)),Ob (SK++DS),N9 Oa (d:Int),N9 Oa 0] 78 (0,0))->Q .normal ⟨aK (N9 Oa sc::s1::s2::s3::s4::s5::N9 Oa (d:Int)::N9 Oa (k:Int)::s8::Od (Og ⟨bx,0,Oh⟩)::ad::af::ag::ao::b0::b1::b2::b4::b6::b7::b8::ba::bb::bc::bd::be::bf::bg::bh::bk::bm::bo::bp::br::bs::bt::bv::c0::N9 Oa (k:Int)::N9 Oa (2*(k:Int))::N9 Oa (1+2*(k:Int))::a3::N9 Oa (k:Int)::a4::a5::N9 Oa sc::a6::a9::N9 Oa (d:Int)::[ab,c2,c4,c5,c6,c7,c8,ca,cb,cc,cd,ce,cf,cg,ch,ci,cj,ck,cl,co,cp,cr,cs]),[]⟩ wx) :
  (db f31 10).wp prog Q ⟨aK (N9 Oa sc::s1::s2::s3::s4::s5::N9 Oa (d:Int)::N9 Oa (k:Int)::s8::[s9,ad,af,ag,ao,b0,b1,b2,b4,b6,b7,b8,ba,bb,bc,bd,be,bf,bg,bh,bk,bm,bo,bp,br,bs,bt,bv,c0,ct,cv,cx,cy,cz,cA,cB,cD,cG,cO,cS,cW,c2,c4,c5,c6,c7,c8,ca,cb,cc,cd,ce,cf,cg,ch,ci,cj,ck,cl,co,cp,cr,cs]),[]⟩ W:=by
 refine mOn ?_;generalize Q .normal=K at hQ |-;have HQ:=aa hQ;clear hQ
 conv=>arg 2;whnf
 have a1:IntKind.i64.wrap (2*(k:Int))=2*(k:Int):=aH _ mOm
 have a2:IntKind.i64.wrap (1+2*(k:Int))=1+2*(k:Int):=aH _ mOm;have k1:(0:Int)<=(k:Int):=mOm;have k2:(k:Int)<3:=mOm;have c1:¬9223372036854775807<SK.size+DS.size:=mOm;have KD:=aa kd;clear kd;refine li (S:=fun w=>ac W.heap.size W w) (I:=fun L' a w=>∃a3 a4 a5 a6 a9 ab u9:Value,a=⟨aK (N9 Oa sc::s1::s2::s3::s4::s5::N9 Oa (d:Int)::N9 Oa (k:Int)::s8::u9::ad::af::ag::ao::b0::b1::b2::b4::b6::b7::b8::ba::bb::bc::bd::be::bf::bg::bh::bk::bm::bo::bp::br::bs::bt::bv::c0::N9 Oa (k:Int)::N9 Oa (2*(k:Int))::N9 Oa (1+2*(k:Int))::a3::N9 Oa (k:Int)::a4::a5::N9 Oa sc::a6::a9::N9 Oa (d:Int)::[ab,c2,c4,c5,c6,c7,c8,ca,cb,cc,cd,ce,cf,cg,ch,ci,cj,ck,cl,co,cp,cr,cs]),[]⟩/\(ac W.heap.size W w)/\(L'.getD 3 false=true->L'.getD 6 false=false->∃b,a3=Oc (Og ⟨b,0,Oh⟩) 3 3/\w.heap[b]? = Og (Of #[Ob ⟨#[111,97,107]⟩,Ob ⟨#[101,108,109]⟩,Ob ⟨#[97,115,104]⟩] 9 (0,0)))/\(L'.getD 5 false=true->∃b,a3=Oc (Og ⟨b,0,Oh⟩) 3 3/\a4=Od (Og ⟨b,k,Oh⟩))/\(L'.getD 6 false=true->a5=Ob SK)/\(L'.getD 8 false=true->a6=Ob DS)/\(L'.getD 9 false=true->a9=Ob (SK++DS))/\(L'.getD 11 false=true->ab=.agg #[N9 Oa (1+2*(k:Int)),Ob (SK++DS),N9 Oa (d:Int),N9 Oa 0])/\(L'.getD 12 false=true->L'.getD 13 false=false->∃b,u9=Od (Og ⟨b,0,Oh⟩)/\W.heap.size<=b/\w.heap[b]? = Og (Of #[N9 Oa 0,Ob ⟨#[]⟩,N9 Oa 0,N9 Oa 0] 78 (0,0)))/\(L'.getD 13 false=true->∃b,u9=Od (Og ⟨b,0,Oh⟩)/\W.heap.size<=b/\w.heap[b]? = Og (Of #[N9 Oa (1+2*(k:Int)),Ob (SK++DS),N9 Oa (d:Int),N9 Oa 0] 78 (0,0)))) (pre:=fun i L'=>L'.size==14&&((i==3 && !L'.getD 3 false && !L'.getD 5 false && !L'.getD 6 false && !L'.getD 9 false && !L'.getD 11 false && !L'.getD 13 false)||(i==5&&L'.getD 3 false && !L'.getD 5 false && !L'.getD 6 false && !L'.getD 9 false && !L'.getD 11 false && !L'.getD 13 false)||(i==6&&L'.getD 3 false&&L'.getD 5 false && !L'.getD 6 false && !L'.getD 9 false && !L'.getD 11 false && !L'.getD 13 false)||(i==8 && !L'.getD 8 false && !L'.getD 9 false && !L'.getD 11 false && !L'.getD 13 false)||(i==9&&L'.getD 6 false&&L'.getD 8 false && !L'.getD 9 false && !L'.getD 11 false && !L'.getD 13 false)||(i==11&&L'.getD 9 false && !L'.getD 11 false && !L'.getD 13 false)||(i==12 && !L'.getD 12 false && !L'.getD 13 false)||(i==13&&L'.getD 11 false&&L'.getD 12 false&&L'.getD 6 false && !L'.getD 13 false))) (fin:=fun L'=>L'.getD 13 false) [0,1,2,4,7,10] 8 mKr mKr mKr mKr mDe ((Below.refl _ _).drew) ?_ ?_ ?_
 .intro i L' a w hp hI;obtain⟨a3,a4,a5,a6,a9,ab,u9,rfl,hSw,hP3,hP5,hP6,hP8,hP9,hP11,hP12,hP13⟩:=hI;simp only[aX,Bool.or_eq_true,beq_iff_eq,Bool.not_eq_true'] at hp;obtain⟨hsz,hp⟩:=hp;rcases hp with (((((((⟨⟨⟨⟨⟨⟨rfl,gn3⟩,gn5⟩,gn6⟩,gn9⟩,gn11⟩,gn13⟩|⟨⟨⟨⟨⟨⟨rfl,gd3⟩,gn5⟩,gn6⟩,gn9⟩,gn11⟩,gn13⟩)|⟨⟨⟨⟨⟨⟨rfl,gd3⟩,gd5⟩,gn6⟩,gn9⟩,gn11⟩,gn13⟩)|⟨⟨⟨⟨rfl,gn8⟩,gn9⟩,gn11⟩,gn13⟩)|⟨⟨⟨⟨⟨rfl,gd6⟩,gd8⟩,gn9⟩,gn11⟩,gn13⟩)|⟨⟨⟨rfl,gd9⟩,gn11⟩,gn13⟩)|⟨⟨rfl,gn12⟩,gn13⟩)|⟨⟨⟨⟨rfl,gd11⟩,gd12⟩,gd6⟩,gn13⟩)
  .have g3:=fy (L:=L') (i:=3);have g5:=am (L:=L') (i:=3) (j:=5);have g6:=am (L:=L') (i:=3) (j:=6);have g8:=am (L:=L') (i:=3) (j:=8);have g9:=am (L:=L') (i:=3) (j:=9);have g11:=am (L:=L') (i:=3) (j:=11);have g12:=am (L:=L') (i:=3) (j:=12);have g13:=am (L:=L') (i:=3) (j:=13);have hb:ac w.heap.size w (w.alloc (Of #[Ob ⟨#[111,97,107]⟩,Ob ⟨#[101,108,109]⟩,Ob ⟨#[97,115,104]⟩] 9)):=aj _ _;have hSn:=ah hSw hb;refine fl ⟨_,_,_,_,_,_⟩ (Oc (Og ⟨w.heap.size,0,Oh⟩) 3 3) (w.alloc (Of #[Ob ⟨#[111,97,107]⟩,Ob ⟨#[101,108,109]⟩,Ob ⟨#[97,115,104]⟩] 9)) rfl mRf (by go_simp) ?_;exact⟨hSn,(Oc (Og ⟨w.heap.size,0,Oh⟩) 3 3),(a4),(a5),(a6),(a9),(ab),(u9),mPt,hSn,fun _ _=>⟨_,rfl,heap_alloc_new _ _⟩,by rw[g5];exact fun e=>absurd (e.symm.trans gn5) mDe,by rw[g6];exact fun e=>absurd (e.symm.trans gn6) mDe,by rw[g8];exact hP8,by rw[g9];exact fun e=>absurd (e.symm.trans gn9) mDe,by rw[g11];exact fun e=>absurd (e.symm.trans gn11) mDe,by rw[g12,g13];exact fun e e2=>(by obtain⟨b,h1,h2,h3⟩:=(hP12 e e2);exact⟨b,h1,h2,hb.heap_of h3⟩),by rw[g13];exact fun e=>absurd (e.symm.trans gn13) mDe⟩
  .have g3:=am (L:=L') (i:=5) (j:=3);have g5:=fy (L:=L') (i:=5);have g6:=am (L:=L') (i:=5) (j:=6);have g8:=am (L:=L') (i:=5) (j:=8);have g9:=am (L:=L') (i:=5) (j:=9);have g11:=am (L:=L') (i:=5) (j:=11);have g12:=am (L:=L') (i:=5) (j:=12);have g13:=am (L:=L') (i:=5) (j:=13);have hD3:=hP3 gd3 gn6;obtain⟨b3,e3,h3⟩:=hD3;subst e3;have hSn:=hSw;refine fl ⟨_,_,_,_,_,_⟩ (Od (Og ⟨b3,k,Oh⟩)) w rfl mRf (by go_simp) ?_;exact⟨hSn,(Oc (Og ⟨b3,0,Oh⟩) 3 3),(Od (Og ⟨b3,k,Oh⟩)),(a5),(a6),(a9),(ab),(u9),mPt,hSn,by rw[g3,g6];exact hP3,fun _=>⟨b3,rfl,rfl⟩,by rw[g6];exact fun e=>absurd (e.symm.trans gn6) mDe,by rw[g8];exact hP8,by rw[g9];exact fun e=>absurd (e.symm.trans gn9) mDe,by rw[g11];exact fun e=>absurd (e.symm.trans gn11) mDe,by rw[g12,g13];exact hP12,by rw[g13];exact fun e=>absurd (e.symm.trans gn13) mDe⟩
  .have g3:=am (L:=L') (i:=6) (j:=3);have g5:=am (L:=L') (i:=6) (j:=5);have g6:=fy (L:=L') (i:=6);have g8:=am (L:=L') (i:=6) (j:=8);have g9:=am (L:=L') (i:=6) (j:=9);have g11:=am (L:=L') (i:=6) (j:=11);have g12:=am (L:=L') (i:=6) (j:=12);have g13:=am (L:=L') (i:=6) (j:=13);have hD3:=hP3 gd3 gn6;have hD5:=hP5 gd5;obtain⟨b5,e3,e5⟩:=hD5;subst e5;obtain⟨b3,e4,h3⟩:=hD3;rw[e3] at e4;injection e4 with e4 _ _;injection e4 with e4;injection e4 with e4 _ _;subst e4;have hc:w.cell? ⟨b5,k,Oh⟩=Og (Ob SK):=by rw[ae h3];exact hsk
   have hSn:=hSw;refine fl ⟨_,_,_,_,_,_⟩ (Ob SK) w rfl mRf (by go_simp) ?_;exact⟨hSn,(a3),(Od (Og ⟨b5,k,Oh⟩)),(Ob SK),(a6),(a9),(ab),(u9),mPt,hSn,by rw[g6];exact fun _ e=>absurd e mDe,by rw[g5];exact hP5,fun _=>rfl,by rw[g8];exact hP8,by rw[g9];exact fun e=>absurd (e.symm.trans gn9) mDe,by rw[g11];exact fun e=>absurd (e.symm.trans gn11) mDe,by rw[g12,g13];exact hP12,by rw[g13];exact fun e=>absurd (e.symm.trans gn13) mDe⟩
  .have g3:=am (L:=L') (i:=8) (j:=3);have g5:=am (L:=L') (i:=8) (j:=5);have g6:=am (L:=L') (i:=8) (j:=6);have g8:=fy (L:=L') (i:=8);have g9:=am (L:=L') (i:=8) (j:=9);have g11:=am (L:=L') (i:=8) (j:=11);have g12:=am (L:=L') (i:=8) (j:=12);have g13:=am (L:=L') (i:=8) (j:=13);refine yy ⟨_,_,_,_,_,_⟩ rfl mRf 79 _ _ mRf _ mRf call79 (KD.out w) ?_;rintro e wn⟨rfl,hb⟩;have hSn:=ah hSw hb;exact⟨_,rfl,hSn,(a3),(a4),(a5),(Ob DS),(a9),(ab),(u9),mPt,hSn,by rw[g3,g6];exact fun e e2=>(by obtain⟨b,h1,h2⟩:=(hP3 e e2);exact⟨b,h1,hb.heap_of h2⟩),by rw[g5];exact hP5,by rw[g6];exact hP6,fun _=>rfl,by rw[g9];exact fun e=>absurd (e.symm.trans gn9) mDe,by rw[g11];exact fun e=>absurd (e.symm.trans gn11) mDe,by rw[g12,g13];exact fun e e2=>(by obtain⟨b,h1,h2,h3⟩:=(hP12 e e2);exact⟨b,h1,h2,hb.heap_of h3⟩),by rw[g13];exact fun e=>absurd (e.symm.trans gn13) mDe⟩
  .have g3:=am (L:=L') (i:=9) (j:=3);have g5:=am (L:=L') (i:=9) (j:=5);have g6:=am (L:=L') (i:=9) (j:=6);have g8:=am (L:=L') (i:=9) (j:=8);have g9:=fy (L:=L') (i:=9);have g11:=am (L:=L') (i:=9) (j:=11);have g12:=am (L:=L') (i:=9) (j:=12);have g13:=am (L:=L') (i:=9) (j:=13);have hD6:=hP6 gd6;have hD8:=hP8 gd8;subst hD6;subst hD8;have hSn:=hSw;refine fl ⟨_,_,_,_,_,_⟩ (Ob (SK++DS)) w rfl mRf (by go_simp) ?_;exact⟨hSn,(a3),(a4),(Ob SK),(Ob DS),(Ob (SK++DS)),(ab),(u9),mPt,hSn,by rw[g3,g6];exact hP3,by rw[g5];exact hP5,by rw[g6];exact hP6,by rw[g8];exact hP8,fun _=>rfl,by rw[g11];exact fun e=>absurd (e.symm.trans gn11) mDe,by rw[g12,g13];exact hP12,by rw[g13];exact fun e=>absurd (e.symm.trans gn13) mDe⟩
  .have g3:=am (L:=L') (i:=11) (j:=3);have g5:=am (L:=L') (i:=11) (j:=5);have g6:=am (L:=L') (i:=11) (j:=6);have g8:=am (L:=L') (i:=11) (j:=8);have g9:=am (L:=L') (i:=11) (j:=9);have g11:=fy (L:=L') (i:=11);have g12:=am (L:=L') (i:=11) (j:=12);have g13:=am (L:=L') (i:=11) (j:=13);have hD9:=hP9 gd9;subst hD9;have hSn:=hSw;refine fl ⟨_,_,_,_,_,_⟩ (.agg #[N9 Oa (1+2*(k:Int)),Ob (SK++DS),N9 Oa (d:Int),N9 Oa 0]) w rfl mRf (by go_simp) ?_;exact⟨hSn,(a3),(a4),(a5),(a6),(Ob (SK++DS)),(.agg #[N9 Oa (1+2*(k:Int)),Ob (SK++DS),N9 Oa (d:Int),N9 Oa 0]),(u9),mPt,hSn,by rw[g3,g6];exact hP3,by rw[g5];exact hP5,by rw[g6];exact hP6,by rw[g8];exact hP8,by rw[g9];exact hP9,fun _=>rfl,by rw[g12,g13];exact hP12,by rw[g13];exact fun e=>absurd (e.symm.trans gn13) mDe⟩
  .have g3:=am (L:=L') (i:=12) (j:=3);have g5:=am (L:=L') (i:=12) (j:=5);have g6:=am (L:=L') (i:=12) (j:=6);have g8:=am (L:=L') (i:=12) (j:=8);have g9:=am (L:=L') (i:=12) (j:=9);have g11:=am (L:=L') (i:=12) (j:=11);have g12:=fy (L:=L') (i:=12);have g13:=am (L:=L') (i:=12) (j:=13);have hb:ac w.heap.size w (w.alloc (Of #[N9 Oa 0,Ob ⟨#[]⟩,N9 Oa 0,N9 Oa 0] 78)):=aj _ _;have hSn:=ah hSw hb;refine fl ⟨_,_,_,_,_,_⟩ (Od (Og ⟨w.heap.size,0,Oh⟩)) (w.alloc (Of #[N9 Oa 0,Ob ⟨#[]⟩,N9 Oa 0,N9 Oa 0] 78)) rfl mRf (by go_simp) ?_;exact⟨hSn,(a3),(a4),(a5),(a6),(a9),(ab),(Od (Og ⟨w.heap.size,0,Oh⟩)),mPt,hSn,by rw[g3,g6];exact fun e e2=>(by obtain⟨b,h1,h2⟩:=(hP3 e e2);exact⟨b,h1,hb.heap_of h2⟩),by rw[g5];exact hP5,by rw[g6];exact hP6,by rw[g8];exact hP8,by rw[g9];exact hP9,by rw[g11];exact hP11,fun _ _=>⟨_,rfl,hSw.size,heap_alloc_new _ _⟩,by rw[g13];exact fun e=>absurd (e.symm.trans gn13) mDe⟩
  .have g3:=am (L:=L') (i:=13) (j:=3);have g5:=am (L:=L') (i:=13) (j:=5);have g6:=am (L:=L') (i:=13) (j:=6);have g8:=am (L:=L') (i:=13) (j:=8);have g9:=am (L:=L') (i:=13) (j:=9);have g11:=am (L:=L') (i:=13) (j:=11);have g12:=am (L:=L') (i:=13) (j:=12);have g13:=fy (L:=L') (i:=13);have hD11:=hP11 gd11;have hD12:=hP12 gd12 gn13;obtain⟨b9,e9,hl9,h9⟩:=hD12;subst e9;subst hD11;have hSn:=bu hSw hl9 #[N9 Oa (1+2*(k:Int)),Ob (SK++DS),N9 Oa (d:Int),N9 Oa 0];refine di ⟨_,_,_,_,_,_⟩ rfl mRf 78 _ _ mRf b9 #[N9 Oa (1+2*(k:Int)),Ob (SK++DS),N9 Oa (d:Int),N9 Oa 0] mRf mRf _ _ h9 mKr rfl (by simp[Value.oneCell']) ?_;exact⟨hSn,(a3),(a4),(a5),(a6),(a9),(.agg #[N9 Oa (1+2*(k:Int)),Ob (SK++DS),N9 Oa (d:Int),N9 Oa 0]),(Od (Og ⟨b9,0,Oh⟩)),by simp only[Act.put],hSn,by rw[g3,g6];exact fun e e2=>absurd (gd6.symm.trans e2) mDe,by rw[g5];exact hP5,by rw[g6];exact hP6,by rw[g8];exact hP8,by rw[g9];exact hP9,by rw[g11];exact hP11,by rw[g13];exact fun _ e=>absurd e mDe,fun _=>⟨b9,rfl,hl9,setRow_heap w b9 _ _ _ _ h9⟩⟩
 .intro L' a w hp hI;obtain⟨a3,a4,a5,a6,a9,ab,u9,rfl,hSw,hP3,hP5,hP6,hP8,hP9,hP11,hP12,hP13⟩:=hI
  (try simp only[aX] at hp)
  have p13:=hp;obtain⟨b9,e9,hl9,h9⟩:=hP13 p13;subst e9;exact HQ.out _ _ _ _ _ _ b9 w hSw hl9 h9
 .refine cq ⟨_,_,_,_,_,_⟩ ?_ rfl mRf ?_ ?_
  rotate_left 1
  .intro w hSw;(try dsimp only at hSw);go_simp;(try with_reducible rfl)
  refine ay ?_
  refine cq ⟨_,_,_,_,_,_⟩ ?_ rfl mRf ?_ ?_
  rotate_left 1
  .intro w hSw;(try dsimp only at hSw);go_simp;(try with_reducible rfl)
  refine ay ?_
  refine cq ⟨_,_,_,_,_,_⟩ ?_ rfl mRf ?_ ?_
  rotate_left 1
  .intro w hSw;(try dsimp only at hSw);go_simp;(try with_reducible rfl)
  refine ay ?_
  refine cq ⟨_,_,_,_,_,_⟩ ?_ rfl mRf ?_ ?_
  rotate_left 1
  .intro w hSw;(try dsimp only at hSw);go_simp;(try with_reducible rfl)
  refine ay ?_
  refine cq ⟨_,_,_,_,_,_⟩ ?_ rfl mRf ?_ ?_
  rotate_left 1
  .intro w hSw;(try dsimp only at hSw);go_simp;(try with_reducible rfl)
  refine ay ?_
  refine cq ⟨_,_,_,_,_,_⟩ ?_ rfl mRf ?_ ?_
  rotate_left 1
  .intro w hSw;(try dsimp only at hSw);go_simp;(try with_reducible rfl)
  refine ay ?_
  exact⟨_,_,_,_,_,_,_,rfl,((Below.refl _ _).drew),(fun e=>absurd e (by decide +kernel)),(fun e=>absurd e (by decide +kernel)),(fun e=>absurd e (by decide +kernel)),(fun e=>absurd e (by decide +kernel)),(fun e=>absurd e (by decide +kernel)),(fun e=>absurd e (by decide +kernel)),(fun e=>absurd e (by decide +kernel)),(fun e=>absurd e (by decide +kernel))⟩
theorem MP{z:Int}(hz:I64 z):∃(z1 z2:Int) (n:Nat),IntKind.i64.wrap (z+1)=z1/\IntKind.i64.wrap (-z1)=z2/\mx z z2=(n:Int)/\(n:Int)<=9223372036854775807:=by
 have h1:=hz.1;have h2:=hz.2;clear hz;by_cases hm:z=9223372036854775807
 .subst hm;exact⟨-9223372036854775808,-9223372036854775808,9223372036854775807,mDe,mDe,mDe,mDe⟩
 .refine⟨z+1,-(z+1),(if -(z+1)>z then -(z+1) else z).toNat,aH _ mOm,aH _ mOm,?_,?_⟩
  .unfold mx;split <;> omega
  .split <;> omega
def AK(sc:Int)(w:World)(e:Ending)(w':World):Prop:=
 ∃(g c:Nat) (K:List bG),e=Oe (.agg #[N9 Oa sc,Oc (Og ⟨g,0,Oh⟩) K.length c])/\1<=K.length/\K.length<=3/\(∀k∈K,k.secret.size<=103/\I64 k.id)/\bz fp 4 78 w w' (Oc (Og ⟨g,0,Oh⟩) K.length c) K
theorem MY(k:Nat)(hk:k<3):∃SK:ByteArray,(#[Ob ⟨#[111,97,107]⟩,Ob ⟨#[101,108,109]⟩,Ob ⟨#[97,115,104]⟩]:Array Value)[k]? = Og (Ob SK)/\SK.size<=3:=by
 match k,hk with
 | 0,_=>exact⟨_,rfl,mDe⟩
 | 1,_=>exact⟨_,rfl,mDe⟩
 | 2,_=>exact⟨_,rfl,mDe⟩
theorem Ki{w u:World}{xb N:Nat}{sc:Int}{K:List bG}{p:Option Addr}{c:Nat}{o4:Obj}(h:RmI w xb N sc K u)(ho:u.ownsRow N 78 4 (Oc p K.length c) K.length (aN fp K))(_e4:u.heap[w.heap.size]? = Og o4)(h1:1<=K.length)(h3:K.length<=3):AK sc w (Oe (.agg #[N9 Oa sc,Oc p K.length c])) (u.setRow w.heap.size #[N9 Oa sc,Oc p K.length c]):=by
 have hown:(u.setRow w.heap.size #[N9 Oa sc,Oc p K.length c]).ownsRow N 78 4 (Oc p K.length c) K.length (aN fp K):=bK ho (aF.setRow u w.heap.size _) (fun q hq e=>by have:=(ho.lt q hq).1;have:=h.at_;omega);obtain⟨g,rfl⟩:∃g,p=Og ⟨g,0,Oh⟩:=by
  rcases ho.2 with ⟨_,h0⟩|⟨g,_,_,hv,_⟩
  .omega
  .injection hv with hv;exact⟨g,hv⟩
 exact⟨g,c,K,rfl,h1,h3,h.good,⟨⟨_,_,rfl⟩,jT hown (by have:=h.at_;omega),bu h.low (Nat.le_refl _) _⟩⟩
theorem rX{p:Prop} (h:p:=by
 obtain⟨p9,c9,hbx9,ho9⟩:=HX9.out.box;have e4:=E4.is;have q0:=ae hbx9 0;have q1:=ae hbx9 1;have HO9:=aa ho9;have hl4:=aG E4.is;clear hbx9 ho9;go_wp2_with ((with_reducible refine wpList_store_row (o:=⟨Oh,.store 33 (.tmp 4) (.tmp 71),_,_,_,_⟩) ?_ 33 (.tmp 4) (.tmp 71) ?_ w.heap.size #[N9 Oa sc,Oc p9 K.length c9] ?_ ?_ 33 #[N9 Oa 0,Oc Oh 0 0] ?_ ?_ ?_ ?_ ?_);rfl;rfl;rfl;rfl;exact e4;kernel_rfl;rfl;simp[Value.oneCell'])
 (try simp only[Exit.inBlock,Exit.then]);refine bodyPost_ret (v:=.agg #[N9 Oa sc,Oc p9 K.length c9]) (results_cell_row (P:=prog) results31 _ _ w.heap.size 33 #[N9 Oa sc,Oc p9 K.length c9] (0,0) _ rfl (setRow_heap _ _ _ _ _ _ e4) underlying33 rfl mKr) rfl ?_
 exact Ki HX9.out HO9.out e4 KLEN1 KLEN3):p:=h
theorem Gv(sc:Int)(A:Option Addr)(n cn:Nat)(w:World)(hsc:0<=sc/\sc<=100)(hI:eU w.heap.size A n w) :
  Calls prog 31 #[N9 Oa sc,Oc A n cn] w (AK sc w):=by
 have HIN:=aa hI;have kd:=fun u=>tP 101 sc u hsc.1 mOm mOm
 have hds:(⟨(Lib.itoa sc).toArray⟩:ByteArray).size<=100:=by rw[bF];exact aV (Lib.itoa_length_le sc mOm mOm) mDe
 generalize (⟨(Lib.itoa sc).toArray⟩:ByteArray)=DS at *;have hb0:=ah (aj w (Of #[N9 Oa 0,Oc Oh 0 0] 33)) (aj _ (Of #[N9 Oa sc,Oc Oh 0 0] 33));have hh2:=heap_alloc_new (w.alloc (Of #[N9 Oa 0,Oc Oh 0 0] 33)) (Of #[N9 Oa sc,Oc Oh 0 0] 33);have hh1:=eR (heap_alloc_new w (Of #[N9 Oa 0,Oc Oh 0 0] 33)) (Of #[N9 Oa sc,Oc Oh 0 0] 33);rw[size_alloc] at hh2;obtain⟨W,hW⟩:∃u,u=(w.alloc (Of #[N9 Oa 0,Oc Oh 0 0] 33)).alloc (Of #[N9 Oa sc,Oc Oh 0 0] 33):=⟨_,rfl⟩;have hws:W.heap.size=w.heap.size+1+1:=by rw[hW,size_alloc,size_alloc]
 rw[<-hW] at hb0 hh1 hh2;have hX0:RmI w (w.heap.size+1) (w.heap.size+1+1) sc [] W:=⟨hb0,⟨Oh,0,hh2,World.ownsRow_nil _ _ _ _⟩,mOm,mOm,fun k hk=>by cases hk⟩;have HX0:=aa hX0;have E40:=aO.mk hh1;have KD:=aa kd;clear hI kd hh1 hh2 hX0;go_enter func31,ntmps31;go_wp2_with fail;rw[<-hW];clear hW
 go_loopw [6,7] (fun v i wr=>∃(d k:Nat) (K:List bG),k<=3/\d<=120*k/\K.length=k/\v=N9 Oa (d:Int)/\i=N9 Oa (k:Int)/\Hid (RmI w (w.heap.size+1) (w.heap.size+1+1) sc K wr)/\aO wr w.heap.size (Of #[N9 Oa 0,Oc Oh 0 0] 33 (0,0))) (fun _ i _=>3-(aw i).toNat)
 case atStart=>exact⟨0,0,[],mOm,mOm,rfl,rfl,rfl,HX0,E40⟩
 case round =>
  obtain⟨d,k,K,hk3,hdk,hKl,rfl,rfl,HX,E4⟩:=hrel;subst hKl;by_cases hlt:K.length<3
  rotate_left 1
  .have i1:¬(K.length:Int)<3:=mOm;have HX9:=HX;have KLEN1:1<=K.length:=mOm;have KLEN3:K.length<=3:=mOm;exact rX
  have i1:(K.length:Int)<3:=mOm
  have i2:(0:Int)<=(K.length:Int):=mOm
  go_upto_if 19 with fail
  go_cut [8] (fun v wx=>∃m:Nat,v=N9 Oa (m:Int)/\(m:Int)<=9223372036854775807/\ac wr.heap.size wr wx)
  case first =>
   by_cases hkn:K.length<n
   rotate_left 1
   .have j1:¬(K.length:Int)<(n:Int):=mOm;go_wp2_with fail
    go_meet
    case rel=>exact⟨0,rfl,mOm,Below.refl _ _⟩
   .have j1:(K.length:Int)<(n:Int):=mOm;obtain⟨ib,io,z,rfl,hib,hzc,hz⟩:=HIN.out.2 K.length hkn;have z0:wr.cell? ⟨ib,io+K.length,Oh⟩=Og (N9 Oa z):=(HX.out.low.cell (p:=⟨ib,io+K.length,Oh⟩) hib).trans hzc;obtain⟨z1,z2,m,e1,e2,e3,hm⟩:=MP hz;have hS0:ac wr.heap.size wr wr.drew/\wr.drew.cell? ⟨ib,io+K.length,Oh⟩=Og (N9 Oa z):=⟨(Below.refl _ _).drew,z0⟩;have keepZ:∀{u v:World},(ac wr.heap.size wr u/\u.cell? ⟨ib,io+K.length,Oh⟩=Og (N9 Oa z))->ac u.heap.size u v->(ac wr.heap.size wr v/\v.cell? ⟨ib,io+K.length,Oh⟩=Og (N9 Oa z)):=fun h hb=>⟨ah h.1 hb,(hb.cell (World.block_lt_of_cell? _ _ h.2)).trans h.2⟩
    clear hzc z0;go_wp2_with fail;refine aD (S:=fun u=>ac wr.heap.size wr u/\u.cell? ⟨ib,io+K.length,Oh⟩=Og (N9 Oa z)) [(0,true),(1,true),(2,true),(3,true),(4,true),(5,true),(6,true),(7,true),(8,true),(9,true),(10,true),(11,true)] hS0 ?_;have hS:=hS0
    iterate 12 refine ak ?_
    simp only[aQ,aZ];have hbd:=hS.1;clear hS hS0 keepZ;go_wp2_with fail
    go_meet
    case rel=>exact⟨m,rfl,hm,hbd⟩
  case rest =>
   obtain⟨m,rfl,hm,hbc⟩:=hcut;have HXc:=aa (HX.out.grow hbc);have E4c:=aO.mk (hbc.heap_of E4.is);clear HX E4 hbc;obtain⟨r3,hr3⟩:∃r:Nat,(m:Int).tmod 3=(r:Int):=⟨m%3,by rw[bN mOm];omega⟩;obtain⟨r5,hr5⟩:∃r:Nat,(m:Int).tmod 5=(r:Int):=⟨m%5,by rw[bN mOm];omega⟩;obtain⟨r7,hr7⟩:∃r:Nat,(m:Int).tmod 7=(r:Int)/\r<7:=⟨m%7,by rw[bN mOm];omega,mOm⟩;obtain⟨q5,hq5⟩:∃q:Nat,(m:Int).tdiv 5=(q:Int)/\IntKind.i64.wrap ((m:Int).tdiv 5)=(q:Int):=⟨m / 5,by rw[ev mOm];omega,by rw[ev mOm];exact aH _ mOm⟩;obtain⟨s5,hs5⟩:∃s:Nat,(q5:Int).tmod 300=(s:Int)/\s<300:=⟨q5%300,by rw[bN mOm];omega,mOm⟩;have hr7l:=hr7.2;have hr7e:=hr7.1;have hs5l:=hs5.2;have hs5e:=hs5.1;have a0:IntKind.i64.wrap (q5:Int)=(q5:Int):=by rw[<-hq5.2];rw[hq5.2];exact hq5.1 ▸ hq5.2
   have hq5e2:=hq5.1;clear hr7 hs5 hq5;obtain⟨bq,hbq⟩:∃b,b=(decide (0<K.length)&&decide (r3=0)):=⟨_,rfl⟩;have HBQ:=aa hbq;clear hbq
   go_upto_region 9 with fail
   go_cut [37] (fun v wx=>v=.bool bq/\wx=wc)
   case first =>
    by_cases hk0:0<K.length
    .have p1:(0:Int)<(K.length:Int):=mOm;by_cases h3:r3=0
     .have b3:((r3:Int)==0)=true:=by rw[beq_iff_eq];omega
      have e:bq=true:=by rw[HBQ.out,decide_eq_true hk0,decide_eq_true h3];rfl
      subst e;clear h3 hk0;go_wp2_with fail
      go_meet
      case rel=>exact⟨rfl,rfl⟩
     .have b3:((r3:Int)==0)=false:=by rw[beq_eq_false_iff_ne];omega
      have e:bq=false:=by rw[HBQ.out,decide_eq_false h3,Bool.and_false]
      subst e;clear h3 hk0;go_wp2_with fail
      go_meet
      case rel=>exact⟨rfl,rfl⟩
    .have p0:decide ((0:Int)<(K.length:Int))=false:=decide_eq_false mOm;have p0n:decide (0<K.length)=false:=decide_eq_false hk0;have e:bq=false:=by rw[HBQ.out,p0n,Bool.false_and]
     subst e;clear hk0;go_wp2_with fail
     go_meet
     case rel=>exact⟨rfl,rfl⟩
   case rest =>
    obtain⟨rfl,rfl⟩:=hcut
    cases bq
    rotate_left 1
    .have hk1:0<K.length:=by
      have:=HBQ.out;have:=(aX _ _ ▸ this.symm:(decide (0<K.length)=true/\decide (r3=0)=true)).1;exact of_decide_eq_true this
     have HX9:=HXc
     have E4:=E4c;have KLEN1:1<=K.length:=mOm;have KLEN3:K.length<=3:=mOm;clear hk1;exact rX
    .obtain⟨SK,hsk,hzk⟩:=MY K.length hlt
     go_upto_region 10 with fail
     refine MW sc d K.length SK DS _ _ hlt hsk hzk hds (fun u=>KD.out u) ?_
     intros
     rename_i bx wx hbx hlx hxx
     have HXx:=aa (HXc.out.grow hbx)
     have E4x:=aO.mk (hbx.heap_of E4c.is);have EX:=aO.mk hxx;have hl4:=aG E4c.is;have hne4:bx≠w.heap.size:=mOm;have HBX:=aa hbx;clear hbx hxx hsk
     go_upto_if 52 with fail
     go_cut [] (fun wy=>∃st:Int,Hid (RmI w (w.heap.size+1) (w.heap.size+1+1) sc K wy)/\aO wy bx (Of #[N9 Oa (1+2*(K.length:Int)),Ob (SK++DS),N9 Oa (d:Int),N9 Oa st] 78 (0,0))/\aO wy w.heap.size (Of #[N9 Oa 0,Oc Oh 0 0] 33 (0,0)))
     case first =>
      by_cases h5:r5=4
      .have b5:((r5:Int)==4)=true:=by rw[beq_iff_eq];omega
       have a1:IntKind.i64.wrap ((d:Int)+1)=(d:Int)+1:=aH _ mOm;have a2:IntKind.i64.wrap ((d:Int)+1+(s5:Int))=(d:Int)+1+(s5:Int):=aH _ mOm;have c3:=ae EX.is 3;have f3:=aE EX.is 3;clear h5;go_wp2_with fail
       go_meet
       case rel=>exact⟨(d:Int)+1+(s5:Int),aa (HXc.out.put HBX.out hlx 3 _),⟨bj EX.is 3 _⟩,⟨(dA hne4 3 _).trans E4x.is⟩⟩
      .have b5:((r5:Int)==4)=false:=by rw[beq_eq_false_iff_ne];omega
       clear h5;go_wp2_with fail
       go_meet
       case rel=>exact⟨0,HXx,EX,E4x⟩
     case rest =>
      obtain⟨st,HXy,EY,E4y⟩:=hcut;clear HXx EX E4x HXc E4c;obtain⟨p9,c9,hb9x,ho9⟩:=HXy.out.box;have q1:wc.cell? ⟨w.heap.size+1,1,Oh⟩=Og (Oc p9 K.length c9):=ae hb9x 1;have y0:wc.cell? ⟨bx,0,Oh⟩=Og (N9 Oa (1+2*(K.length:Int))):=ae EY.is 0;have y1:wc.cell? ⟨bx,1,Oh⟩=Og (Ob (SK++DS)):=ae EY.is 1;have y2:wc.cell? ⟨bx,2,Oh⟩=Og (N9 Oa (d:Int)):=ae EY.is 2;have y3:wc.cell? ⟨bx,3,Oh⟩=Og (N9 Oa st):=ae EY.is 3;have hba:=aj wc (Of #[N9 Oa (1+2*(K.length:Int)),Ob (SK++DS),N9 Oa (d:Int),N9 Oa st] 78);have hlit:ar fp (wc.alloc (Of #[N9 Oa (1+2*(K.length:Int)),Ob (SK++DS),N9 Oa (d:Int),N9 Oa st] 78)) (Oc (Og ⟨wc.heap.size,0,Oh⟩) 1 1) [(⟨1+2*(K.length:Int),SK++DS,(d:Int),st⟩:bG)]:=cN (heap_alloc_new wc _) _ rfl rfl;have hown:=bK ho9 (aF.of (S:=fun _=>False) hba) (fun _ _ e=>e);have hbA:=hba.heap_of hb9x;have XA:=aa (HXy.out.grow hba);have HBA:=aO.mk hbA;have HOA:=aa hown;have E4A:=aO.mk (hba.heap_of E4y.is);have hsz:=aV HXy.out.size hba.size;have hyg:(SK++DS).size<=103/\I64 (1+2*(K.length:Int)):=⟨by rw[ByteArray.size_append];omega,mOm,mOm⟩;have a7:IntKind.i64.wrap (20*(r7:Int))=20*(r7:Int):=aH _ mOm;have a8:IntKind.i64.wrap ((d:Int)+20*(r7:Int))=(d:Int)+20*(r7:Int):=aH _ mOm;clear hb9x ho9 hba hbA HXy EY E4y;go_wp2_with (at_builtin;refine bl kyT rfl (.tmp 61) (.tmp 63) rfl (w.heap.size+1+1) (Oc p9 K.length c9) (Oc (Og ⟨wc.heap.size,0,Oh⟩) 1 1) K [(⟨1+2*(K.length:Int),SK++DS,(d:Int),st⟩:bG)] rfl rfl hown hlit (by simp only[aB];omega) hsz ?_;intro v9 w10 hA9;obtain⟨g9,c10,hv9⟩:=jU hA9.own;subst hv9;rw[ap,aB] at hA9;have HA9:=aa hA9;have k9:=(aF.grown hA9.grown).heap HBA.is (fun e2=>by have:=(HOA.out.lt _ e2).1;omega);have c19:=ae k9 1;have f19:=aE k9 1;have k4:=aO.mk ((aF.grown hA9.grown).heap E4A.is (fun e2=>by have:=(HOA.out.lt _ e2).1;omega));clear hA9 hown hlit hsz k9)
      go_roundw
      case rel=>exact⟨d+20*r7,K.length+1,K++[⟨1+2*(K.length:Int),SK++DS,(d:Int),st⟩],mOm,mOm,by rw[ap,aB],by first|rfl|push_cast,by go_num,aa (XA.out.app hyg HBA.is HOA.out HA9.out),⟨(dA mOm 1 _).trans k4.is⟩⟩
      case measure=>simp[aw];omega
end
section
theorem Er(l:List Ent)(p:Option Addr)(c:Nat)(st fi la bits:Int)(w:World)(h:ar bL w (Oc p l.length c) l)(hl:l.length<=100000) :
  Calls prog 35 #[Oc p l.length c,N9 Oa st,N9 Oa fi,N9 Oa la,N9 Oa bits] w fun e w'=>∃v,e=Oe v/\∃ids:List Int,ids.length<=l.length/\bz lv 1 3 w w' v ids:=by
 have HL:=aa h;clear h;go_enter func35,ntmps35;go_wp2_with fail
 go_loopw [11,12] (fun v i wr=>∃(k:Nat) (ids:List Int),k<=l.length/\ids.length<=k/\i=N9 Oa k/\bz lv 1 3 w wr v ids) (fun _ i _=>l.length-(aw i).toNat)
 case atStart=>exact⟨0,[],aP _,aP _,rfl,bz.nil _ _ _ _⟩
 case round =>
  obtain⟨k,ids,hk,hik,rfl,hO⟩:=hrel;obtain⟨pv,cv,hv⟩:=hO.form;subst hv;by_cases hlt:k<l.length
  .obtain⟨g,o,rfl,hg,hrow⟩:=dh (kk:=15) HL.out eG rfl mOm;have hge:=List.getElem?_eq_getElem hlt;have hra:=hrow k _ hge;have j1:(k:Int)<(l.length:Int):=mOm;have j2:(0:Int)<=(k:Int):=mOm;generalize l[k]=x at *;have hlow:=hO.low;have x0:wr.cell? ⟨g,o+k*15,Oh⟩=Og (N9 Oa x.id):=(hlow.cell (p:=⟨g,o+k*15,Oh⟩) hg).trans (hra 0 _ rfl);have x2:wr.cell? ⟨g,o+k*15+2,Oh⟩=Og (N9 Oa x.student):=(hlow.cell (p:=⟨g,o+k*15+2,Oh⟩) hg).trans (hra 2 _ rfl);have x5:wr.cell? ⟨g,o+k*15+5,Oh⟩=Og (N9 Oa x.on):=(hlow.cell (p:=⟨g,o+k*15+5,Oh⟩) hg).trans (hra 5 _ rfl);have HO:=aa hO;clear hra hrow hge hO hlow
   go_upto_region 5 with fail
   go_cut [51] (fun v wx=>∃b:Bool,v=.bool b/\wx=wr)
   case first =>
    obtain⟨m,hm⟩:∃m:Nat,(k:Int).tmod 30=(m:Int)/\m<=30:=⟨k%30,by rw[bN mOm];omega,mOm⟩;have hm1:=hm.1;have m0:(0:Int)<=(m:Int):=mOm;have m1:(m:Int)<=64:=mOm;obtain⟨s,hs⟩:∃s,binOp .shr 3 (N9 Oa bits) (N9 Oa (m:Int))=pure (N9 Oa s):=⟨_,by rw[binOp_shr];exact shift_shr_i64 _ _ _ m0 m1⟩;obtain⟨z,hz⟩:∃z,binOp .and 3 (N9 Oa s) (N9 Oa 1)=pure (N9 Oa z):=⟨_,rfl⟩;clear hm;by_cases h2:x.student=st
    rotate_left 1
    .have t2:(x.student==st)=false:=by rw[beq_eq_false_iff_ne];exact h2
     go_wp2_with fail
     go_meet
     case rel=>exact⟨_,rfl,rfl⟩
    have t2:(x.student==st)=true:=by rw[beq_iff_eq];exact h2
    by_cases h5:fi<=x.on
    rotate_left 1
    .have t5:decide (fi<=x.on)=false:=decide_eq_false h5;clear h2;go_wp2_with fail
     go_meet
     case rel=>exact⟨_,rfl,rfl⟩
    have t5:decide (fi<=x.on)=true:=decide_eq_true h5
    by_cases h6:x.on<=la
    rotate_left 1
    .have t6:decide (x.on<=la)=false:=decide_eq_false h6;clear h2;go_wp2_with fail
     go_meet
     case rel=>exact⟨_,rfl,rfl⟩
    have t6:decide (x.on<=la)=true:=decide_eq_true h6
    clear h2;go_wp2_with fail
    go_meet
    case rel=>exact⟨_,rfl,rfl⟩
   case rest =>
    obtain⟨b,rfl,rfl⟩:=hcut
    cases b
    .go_wp2_with fail
     go_roundw
     case rel=>exact⟨k+1,ids,mOm,mOm,by go_num,HO.out⟩
     case measure=>simp[aw];omega
    .have hP:=HO.out.next (aj wc (Of #[N9 Oa x.id] 3));have hlit:ar lv (wc.alloc (Of #[N9 Oa x.id] 3)) (Oc (Og ⟨wc.heap.size,0,Oh⟩) 1 1) [x.id]:=cN (heap_alloc_new wc _) _ rfl rfl;have hown:=hP.own;have hsz:=hP.low.size;have HP:=aa hP;clear hP;go_wp2_with (at_builtin;refine bl MG rfl (.tmp 52) (.tmp 58) rfl w.heap.size _ _ ids [x.id] rfl rfl hown hlit (by simp only[aB];omega) hsz ?_;intro v9 w10 hA9;have H9:=aa (HP.out.app hA9);clear hA9 hown hsz hlit)
     go_roundw
     case rel=>exact⟨k+1,ids++[x.id],mOm,by rw[ap,aB];omega,by go_num,H9.out⟩
     case measure=>simp[aw];omega
  .obtain rfl:k=l.length:=mOm;have i1:¬(l.length:Int)<(l.length:Int):=mOm;have HO:=aa hO;clear hO;go_wp2_with fail;go_ret;exact⟨_,rfl,ids,hik,HO.out⟩
