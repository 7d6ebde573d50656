/- Lemmas. -/
import Derived.Test.YtnlhbdmeodbblaaGreatDoorMiau
set_option maxRecDepth 100000
set_option maxHeartbeats 16000000
set_option linter.all false
open Go.Proofs.Tryz
open Bool renaming and_eq_true→aW
open Int renaming tdiv_eq_ediv_of_nonneg→dS,tmod_eq_emod_of_nonneg→bQ
open Go.IntWalk renaming i64_in→aF
open Go.Lib renaming cell_of_heap→ae,frozen_of_heap→aE,hid→aa
open List renaming getElem?_eq_getElem→ai,getElem_mem→bD,length_append→ax,length_map→aX,length_singleton→aG,map_append→eX,take_add_one→aL,take_length→aT,toArray→aq
open Nat renaming le_trans→bu
open Option renaming toList_some→cU
open Go.RowKit renaming Below→ac,intOf→aw
open Go.Ending renaming returned→JT
open Go.IntKind renaming i64→JP
open Go.Obj renaming cells→JU
open Go.Value renaming int→JO,string→JQ,slice→JR,pointer→JS
open Option renaming some→JV,none→JW
namespace Go.Proofs.YtnlhbdmeodbblaaGreatDoor
open Go Go.RowKit Go.Sort Go.Lib
section
structure BrtV where
 b:BrtE
 p:Option Addr
 c:Nat
def fY (x:BrtV):List Value:=[JO JP x.b.fro,JO JP x.b.student,JO JP x.b.root,JR x.p x.b.ents.length x.c]
theorem vn:∀ x:BrtV,(fY x).length=4:=fun _=>rfl
structure BrtIn (w:World) (v:Value) (L:List BrtV):Prop where
 row:LK fY w v L
 ents:∀ x∈L,LK bK w (JR x.p x.b.ents.length x.c) x.b.ents
 few:∀ x∈L,x.b.ents.length≤100000
theorem BrtIn.below {w w':World} {v:Value} {L:List BrtV} (h:BrtIn w v L) (hb:ac w.heap.size w w'):BrtIn w' v L:=⟨h.row.below hb,fun x hx=>(h.ents x hx).below hb,h.few⟩
theorem Q8 {p q:Prop} (h:q) (f:Wq q→p:=by
 intro hq;refine Jy (S:=fun u=>ac w.heap.size w u∧u.cell? ⟨g1,o1+k*4,JW⟩=JV (JO JP f1)∧u.cell? ⟨g1,o1+k*4+1,JW⟩=JV (JO JP s1)∧u.cell? ⟨g1,o1+k*4+2,JW⟩=JV (JO JP r1)∧u.cell? ⟨g2,o2+k*4,JW⟩=JV (JO JP f2)∧u.cell? ⟨g2,o2+k*4+1,JW⟩=JV (JO JP s2)∧u.cell? ⟨g2,o2+k*4+2,JW⟩=JV (JO JP r2)) [(0,true),(1,true),(2,true),(3,true),(4,true),(5,true),(6,true),(7,true),(8,true),(9,true),(10,true),(11,true),(12,true),(13,true),(14,true),(15,true),(16,true),(17,true),(18,true),(19,true),(20,true),(21,true),(22,true),(23,true),(24,true),(25,true),(26,true),(27,true),(28,true),(29,true),(30,true),(31,true),(32,true),(33,true),(34,true),(35,true),(36,true),(37,true),(38,true),(39,true),(40,true)] hS7 ?_;have hS:=hS7
 revert hS
 exact hq.1):p:=f ⟨h⟩
theorem JD {p:Prop} (h:p:=by
 go_wp2_with fail;refine Q8 ?_;intro hS
 iterate 41 (first | refine aj ?_ | refine cN ?_)
 simp only [aO,bj];go_wp2_with fail;go_ret
 exact ⟨false,rfl,⟨fun e=>(by cases e),fun h=>absurd h HN.out⟩,hbD⟩):p:=h
theorem Ad (a b:List BrtV) (p1 p2:Option Addr) (c1 c2:Nat) (w:World) (ha:BrtIn w (JR p1 a.length c1) a) (hb:BrtIn w (JR p2 b.length c2) b) (hn:a.length≤1000000) :
  Calls prog 18 #[JR p1 a.length c1,JR p2 b.length c2] w (ic (a.map BrtV.b=b.map BrtV.b) w):=by
 have HA:=aa ha;have HB:=aa hb;clear ha hb;go_enter func18,ntmps18;by_cases hl:a.length=b.length
 rotate_left 1
 ·have t1:((a.length:Int) != (b.length:Int))=true:=by rw [bne_iff_ne];omega
  have HN:Hid (¬ a.map BrtV.b=b.map BrtV.b):=aa (fun e=>hl (by have:=congrArg List.length e;rwa [aX,aX] at this));clear hl;go_wp2_with fail;go_ret;exact ⟨false,rfl,⟨fun e=>(by cases e),fun h=>absurd h HN.out⟩,Below.refl _ _⟩
 have t1:((a.length:Int) != (b.length:Int))=false:=by rw [bne_eq_false_iff_eq];omega
 have HLN:=aa hl;clear hl;go_wp2_with fail
 go_loopw [5] (fun i wr=>∃ k:Nat,k≤a.length∧i=JO JP k∧Hid ((a.take k).map BrtV.b=(b.take k).map BrtV.b)∧ac w.heap.size w wr) (fun i _=>a.length - (aw i).toNat)
 case atStart=>exact ⟨0,Nat.zero_le _,rfl,aa rfl,Below.refl _ _⟩
 case round =>
  obtain ⟨k,hk,rfl,HI,hb⟩:=hrel;by_cases hlt:k < a.length
  ·obtain ⟨g1,o1,rfl,hbl1,hcv1⟩:=dc (kk:=4) HA.out.row vn rfl mOm;obtain ⟨g2,o2,rfl,hbl2,hcv2⟩:=dc (kk:=4) HB.out.row vn rfl (by have:=HLN.out;omega);have hg1:=ai hlt;have hg2:=ai (show k < b.length by have:=HLN.out;omega);have c01:=hcv1 k _ hg1;have c02:=hcv2 k _ hg2;have HG:=aa (And.intro hg1 hg2);have hx:=HA.out.ents _ (bD hlt);have hxf:=HA.out.few _ (bD hlt);have hy:=HB.out.ents _ (bD (show k < b.length by have:=HLN.out;omega));generalize a[k]=x at *;generalize b[k]=y at *;have i1:(k:Int) < (a.length:Int):=mOm;have i2:(k:Int) < (b.length:Int):=by have:=HLN.out;omega
   have i3:(0:Int)≤(k:Int):=mOm;have ks:=fun u (hbu:ac w.heap.size w u)=>sK x.b.ents y.b.ents x.p y.p x.c y.c u (hx.below hbu) (hy.below hbu) mOm
   have HRX:Hid (∀ u,ac w.heap.size w u→u.rangeAt g1 (o1+k*4) (fY x)):=aa (fun u hu j v hv=>(hu.cell (p:=⟨g1,o1+k*4+j,JW⟩) hbl1).trans (c01 j v hv));have HRY:Hid (∀ u,ac w.heap.size w u→u.rangeAt g2 (o2+k*4) (fY y)):=aa (fun u hu j v hv=>(hu.cell (p:=⟨g2,o2+k*4+j,JW⟩) hbl2).trans (c02 j v hv))
   have keepS:∀ {u v:World},(ac w.heap.size w u∧u.cell? ⟨g1,o1+k*4+3,JW⟩=JV (JR x.p x.b.ents.length x.c)∧u.cell? ⟨g2,o2+k*4+3,JW⟩=JV (JR y.p y.b.ents.length y.c))→ac u.heap.size u v→(ac w.heap.size w v∧v.cell? ⟨g1,o1+k*4+3,JW⟩=JV (JR x.p x.b.ents.length x.c)∧v.cell? ⟨g2,o2+k*4+3,JW⟩=JV (JR y.p y.b.ents.length y.c)):=fun h hb =>
    ⟨ah h.1 hb,HRX.out _ (ah h.1 hb) 3 _ rfl,HRY.out _ (ah h.1 hb) 3 _ rfl⟩
   have hS0:=keepS ⟨hb,HRX.out _ hb 3 _ rfl,HRY.out _ hb 3 _ rfl⟩ (Below.refl _ wr).drew
   have KS:=aa ks;clear hcv1 hcv2 hg1 hg2 c01 c02 hx hy ks hxf;go_wp2_with fail;refine Jy (S:=fun u=>ac w.heap.size w u∧u.cell? ⟨g1,o1+k*4+3,JW⟩=JV (JR x.p x.b.ents.length x.c)∧u.cell? ⟨g2,o2+k*4+3,JW⟩=JV (JR y.p y.b.ents.length y.c)) [(0,true),(1,true),(2,true),(3,true),(4,true),(5,true),(6,true),(7,true),(8,true),(9,true),(10,false),(11,true)] hS0 ?_;have hS:=hS0
   iterate 10 refine aj ?_
   refine aH 52 call52 (KS.out _ hS.1) ?_;rintro x wn ⟨t,rfl,ht,hb⟩;replace hS:=keepS hS hb;(have HT:=aa ht;clear ht);refine ⟨_,rfl,hS,?_⟩;(try clear hb);refine ar ?_;refine aj ?_;simp only [aO,bj];have hbF:=hS.1;have hbD:=ah hbF (Below.refl _ wn).drew;have hS7:=And.intro hbD (And.intro (HRX.out _ hbD 0 _ rfl) (And.intro (HRX.out _ hbD 1 _ rfl) (And.intro (HRX.out _ hbD 2 _ rfl) (And.intro (HRY.out _ hbD 0 _ rfl) (And.intro (HRY.out _ hbD 1 _ rfl) (HRY.out _ hbD 2 _ rfl))))))
   have HNO:Hid (¬ x.b=y.b→¬ a.map BrtV.b=b.map BrtV.b):=aa (fun hne e=>hne (by
    have h1:=congrArg (fun l=>l[k]?) e;simp only [List.getElem?_map,HG.out.1,HG.out.2,Option.map_some,Option.some_inj] at h1
    exact h1))
   have HYES:Hid (x.b=y.b→(a.take (k+1)).map BrtV.b=(b.take (k+1)).map BrtV.b):=aa (fun he=>by
    rw [aL,aL,HG.out.1,HG.out.2,eX,eX,HI.out,cU,cU,List.map_singleton,List.map_singleton,he])
   clear hS hS0 keepS KS HRX HRY HG HI
   obtain ⟨⟨f1,s1,r1,e1⟩,px,cx⟩:=x;obtain ⟨⟨f2,s2,r2,e2⟩,py,cy⟩:=y;simp only at hS7 HT HNO HYES
   cases t
   ·have HN:Hid (¬ a.map BrtV.b=b.map BrtV.b):=aa (HNO.out (fun e=>by have:=HT.out.2 (congrArg BrtE.ents e);cases this));clear HNO HYES HT;exact JD
   have HE:=aa (HT.out.1 rfl)
   clear HT;by_cases q1:f1=f2
   rotate_left 1
   ·have t1:(f1 != f2)=true:=by rw [bne_iff_ne];exact q1
    have HN:Hid (¬ a.map BrtV.b=b.map BrtV.b):=aa (HNO.out (fun e=>q1 (congrArg BrtE.fro e)));clear HNO HYES q1;exact JD
   have t1:(f1 != f2)=false:=by rw [bne_eq_false_iff_eq];exact q1
   by_cases q2:s1=s2
   rotate_left 1
   ·have t2:(s1 != s2)=true:=by rw [bne_iff_ne];exact q2
    have HN:Hid (¬ a.map BrtV.b=b.map BrtV.b):=aa (HNO.out (fun e=>q2 (congrArg BrtE.student e)));clear HNO HYES q1 q2;exact JD
   have t2:(s1 != s2)=false:=by rw [bne_eq_false_iff_eq];exact q2
   by_cases q3:r1=r2
   rotate_left 1
   ·have t3:(r1 != r2)=true:=by rw [bne_iff_ne];exact q3
    have HN:Hid (¬ a.map BrtV.b=b.map BrtV.b):=aa (HNO.out (fun e=>q3 (congrArg BrtE.root e)));clear HNO HYES q1 q2 q3;go_wp2_with fail;refine Q8 ?_;intro hS
    iterate 41 refine aj ?_
    simp only [aO,bj];go_wp2_with fail;go_ret;exact ⟨false,rfl,⟨fun e=>(by cases e),fun h=>absurd h HN.out⟩,hbD⟩
   have t3:(r1 != r2)=false:=by rw [bne_eq_false_iff_eq];exact q3
   have HY:=aa (HYES.out (by rw [q1,q2,q3,HE.out]));clear HNO HYES HE q1 q2 q3;go_wp2_with fail;refine Q8 ?_;intro hS
   iterate 41 refine aj ?_
   simp only [aO,bj];go_wp2_with fail
   go_roundw
   case rel=>exact ⟨k+1,mOm,by go_num,HY,hbD⟩
   case measure=>simp [aw];omega
  ·obtain rfl:k=a.length:=mOm;have i1:¬ (a.length:Int) < (a.length:Int):=mOm
   have HE:Hid (a.map BrtV.b=b.map BrtV.b):=aa (by
    have:=HI.out
    rwa [aT,HLN.out,aT] at this)
   go_wp2_with fail
   go_ret;exact ⟨true,rfl,⟨fun _=>HE.out,fun _=>rfl⟩,hb⟩
end
section
variable {s0 s1 s2 s3 s4 s5 s6 s7 s8 s9 ad af ag ao b0 b1 b2 b4 b6 b7 b8 ba bb bc bd bf bg bh bk bm bo bs bt bv c0 c2 c4 c5 cy cA cB cC cD cE cG cO cS cW cX d0 c6 c7 c8 ca cb cc cd ce cf cg ch ci cj ck cl co cp cr cs ct cv cx:Value}
attribute [local go_sem ↓] mJ mK
theorem kyT:RowT prog kD 4 78 31 where
 len _:=rfl
 one x u hu:=by
  simp only [kD,List.mem_cons,List.not_mem_nil,or_false] at hu;rcases hu with rfl | rfl | rfl | rfl <;> rfl
 pos:=mDe
 und:=underlying31
 info:=⟨_,_,rfl,rfl,rfl,mDe,mDe⟩
theorem Iu (sc:Int) (d k:Nat) (SK DS:ByteArray) (W:World) (Q:Exit→Act→World→Prop) (hk:k < 3) (hsk:(#[JQ ⟨#[111,97,107]⟩,JQ ⟨#[101,108,109]⟩,JQ ⟨#[97,115,104]⟩]:Array Value)[k]? = JV (JQ SK)) (hz1:SK.size≤3) (hz2:DS.size≤100) (kd:∀ u,Calls prog 79 #[JO JP sc] u (fun e w'=>e=JT (JQ DS)∧ac u.heap.size u w'))
  (hQ:∀ (a3 a4 a5 a6 a9 ab:Value) (bx:Nat) (wx:World),ac W.heap.size W wx→W.heap.size≤bx→wx.heap[bx]? = JV (JU #[JO JP (1+2*(k:Int)),JQ (SK++DS),JO JP (d:Int),JO JP 0] 78 (0,0))→Q .normal ⟨aq (JO JP sc::s1::s2::s3::s4::s5::JO JP (d:Int)::JO JP (k:Int)::s8::JS (JV ⟨bx,0,JW⟩)::ad::af::ag::ao::b0::b1::b2::b4::b6::b7::b8::ba::bb::bc::bd::bf::bg::bh::bk::bm::bo::bs::bt::bv::c0::c2::c4::c5::JO JP (k:Int)::JO JP (2*(k:Int))::JO JP (1+2*(k:Int))::a3::JO JP (k:Int)::a4::a5::JO JP sc::a6::a9::JO JP (d:Int)::[ab,c6,c7,c8,ca,cb,cc,cd,ce,cf,cg,ch,ci,cj,ck,cl,co,cp,cr,cs,ct,cv,cx]),[]⟩ wx) :
  (bW f31 10).wp prog Q ⟨aq (JO JP sc::s1::s2::s3::s4::s5::JO JP (d:Int)::JO JP (k:Int)::s8::[s9,ad,af,ag,ao,b0,b1,b2,b4,b6,b7,b8,ba,bb,bc,bd,bf,bg,bh,bk,bm,bo,bs,bt,bv,c0,c2,c4,c5,cy,cA,cB,cC,cD,cE,cG,cO,cS,cW,cX,d0,c6,c7,c8,ca,cb,cc,cd,ce,cf,cg,ch,ci,cj,ck,cl,co,cp,cr,cs,ct,cv,cx]),[]⟩ W:=by
 refine mOn ?_;generalize Q .normal=K at hQ ⊢;have HQ:=aa hQ;clear hQ
 conv=>arg 2;whnf
 have a1:IntKind.i64.wrap (2*(k:Int))=2*(k:Int):=aF _ mOm
 have a2:IntKind.i64.wrap (1+2*(k:Int))=1+2*(k:Int):=aF _ mOm;have k1:(0:Int)≤(k:Int):=mOm;have k2:(k:Int) < 3:=mOm;have c1:¬ 9223372036854775807 < SK.size+DS.size:=mOm;have KD:=aa kd;clear kd;refine fV (S:=fun w=>ac W.heap.size W w) (I:=fun L' a w=>∃ a3 a4 a5 a6 a9 ab u9:Value,a=⟨aq (JO JP sc::s1::s2::s3::s4::s5::JO JP (d:Int)::JO JP (k:Int)::s8::u9::ad::af::ag::ao::b0::b1::b2::b4::b6::b7::b8::ba::bb::bc::bd::bf::bg::bh::bk::bm::bo::bs::bt::bv::c0::c2::c4::c5::JO JP (k:Int)::JO JP (2*(k:Int))::JO JP (1+2*(k:Int))::a3::JO JP (k:Int)::a4::a5::JO JP sc::a6::a9::JO JP (d:Int)::[ab,c6,c7,c8,ca,cb,cc,cd,ce,cf,cg,ch,ci,cj,ck,cl,co,cp,cr,cs,ct,cv,cx]),[]⟩∧(ac W.heap.size W w)∧(L'.getD 3 false=true→L'.getD 6 false=false→∃ b,a3=JR (JV ⟨b,0,JW⟩) 3 3∧w.heap[b]? = JV (JU #[JQ ⟨#[111,97,107]⟩,JQ ⟨#[101,108,109]⟩,JQ ⟨#[97,115,104]⟩] 9 (0,0)))∧(L'.getD 5 false=true→∃ b,a3=JR (JV ⟨b,0,JW⟩) 3 3∧a4=JS (JV ⟨b,k,JW⟩))∧(L'.getD 6 false=true→a5=JQ SK)∧(L'.getD 8 false=true→a6=JQ DS)∧(L'.getD 9 false=true→a9=JQ (SK++DS))∧(L'.getD 11 false=true→ab=.agg #[JO JP (1+2*(k:Int)),JQ (SK++DS),JO JP (d:Int),JO JP 0])∧(L'.getD 12 false=true→L'.getD 13 false=false→∃ b,u9=JS (JV ⟨b,0,JW⟩)∧W.heap.size≤b∧w.heap[b]? = JV (JU #[JO JP 0,JQ ⟨#[]⟩,JO JP 0,JO JP 0] 78 (0,0)))∧(L'.getD 13 false=true→∃ b,u9=JS (JV ⟨b,0,JW⟩)∧W.heap.size≤b∧w.heap[b]? = JV (JU #[JO JP (1+2*(k:Int)),JQ (SK++DS),JO JP (d:Int),JO JP 0] 78 (0,0)))) (pre:=fun i L'=>L'.size==14&&((i==3 && !L'.getD 3 false && !L'.getD 5 false && !L'.getD 6 false && !L'.getD 9 false && !L'.getD 11 false && !L'.getD 13 false)||(i==5&&L'.getD 3 false && !L'.getD 5 false && !L'.getD 6 false && !L'.getD 9 false && !L'.getD 11 false && !L'.getD 13 false)||(i==6&&L'.getD 3 false&&L'.getD 5 false && !L'.getD 6 false && !L'.getD 9 false && !L'.getD 11 false && !L'.getD 13 false)||(i==8 && !L'.getD 8 false && !L'.getD 9 false && !L'.getD 11 false && !L'.getD 13 false)||(i==9&&L'.getD 6 false&&L'.getD 8 false && !L'.getD 9 false && !L'.getD 11 false && !L'.getD 13 false)||(i==11&&L'.getD 9 false && !L'.getD 11 false && !L'.getD 13 false)||(i==12 && !L'.getD 12 false && !L'.getD 13 false)||(i==13&&L'.getD 11 false&&L'.getD 12 false&&L'.getD 6 false && !L'.getD 13 false))) (fin:=fun L'=>L'.getD 13 false) [0,1,2,4,7,10] 8 mKr mKr mKr mKr mDe ((Below.refl _ _).drew) ?_ ?_ ?_
 ·intro i L' a w hp hI;obtain ⟨a3,a4,a5,a6,a9,ab,u9,rfl,hSw,hP3,hP5,hP6,hP8,hP9,hP11,hP12,hP13⟩:=hI;simp only [aW,Bool.or_eq_true,beq_iff_eq,Bool.not_eq_true'] at hp;obtain ⟨hsz,hp⟩:=hp;rcases hp with (((((((⟨⟨⟨⟨⟨⟨rfl,gn3⟩,gn5⟩,gn6⟩,gn9⟩,gn11⟩,gn13⟩ | ⟨⟨⟨⟨⟨⟨rfl,gd3⟩,gn5⟩,gn6⟩,gn9⟩,gn11⟩,gn13⟩) | ⟨⟨⟨⟨⟨⟨rfl,gd3⟩,gd5⟩,gn6⟩,gn9⟩,gn11⟩,gn13⟩) | ⟨⟨⟨⟨rfl,gn8⟩,gn9⟩,gn11⟩,gn13⟩) | ⟨⟨⟨⟨⟨rfl,gd6⟩,gd8⟩,gn9⟩,gn11⟩,gn13⟩) | ⟨⟨⟨rfl,gd9⟩,gn11⟩,gn13⟩) | ⟨⟨rfl,gn12⟩,gn13⟩) | ⟨⟨⟨⟨rfl,gd11⟩,gd12⟩,gd6⟩,gn13⟩)
  ·have g3:=cK (L:=L') (i:=3);have g5:=ak (L:=L') (i:=3) (j:=5);have g6:=ak (L:=L') (i:=3) (j:=6);have g8:=ak (L:=L') (i:=3) (j:=8);have g9:=ak (L:=L') (i:=3) (j:=9);have g11:=ak (L:=L') (i:=3) (j:=11);have g12:=ak (L:=L') (i:=3) (j:=12);have g13:=ak (L:=L') (i:=3) (j:=13);have hb:ac w.heap.size w (w.alloc (JU #[JQ ⟨#[111,97,107]⟩,JQ ⟨#[101,108,109]⟩,JQ ⟨#[97,115,104]⟩] 9)):=al _ _;have hSn:=ah hSw hb;refine cQ ⟨_,_,_,_,_,_⟩ (JR (JV ⟨w.heap.size,0,JW⟩) 3 3) (w.alloc (JU #[JQ ⟨#[111,97,107]⟩,JQ ⟨#[101,108,109]⟩,JQ ⟨#[97,115,104]⟩] 9)) rfl mRf (by go_simp) ?_;exact ⟨hSn,(JR (JV ⟨w.heap.size,0,JW⟩) 3 3),(a4),(a5),(a6),(a9),(ab),(u9),mPt,hSn,fun _ _=>⟨_,rfl,heap_alloc_new _ _⟩,by rw [g5];exact fun e=>absurd (e.symm.trans gn5) mDe,by rw [g6];exact fun e=>absurd (e.symm.trans gn6) mDe,by rw [g8];exact hP8,by rw [g9];exact fun e=>absurd (e.symm.trans gn9) mDe,by rw [g11];exact fun e=>absurd (e.symm.trans gn11) mDe,by rw [g12,g13];exact fun e e2=>(by obtain ⟨b,h1,h2,h3⟩:=(hP12 e e2);exact ⟨b,h1,h2,hb.heap_of h3⟩),by rw [g13];exact fun e=>absurd (e.symm.trans gn13) mDe⟩
  ·have g3:=ak (L:=L') (i:=5) (j:=3);have g5:=cK (L:=L') (i:=5);have g6:=ak (L:=L') (i:=5) (j:=6);have g8:=ak (L:=L') (i:=5) (j:=8);have g9:=ak (L:=L') (i:=5) (j:=9);have g11:=ak (L:=L') (i:=5) (j:=11);have g12:=ak (L:=L') (i:=5) (j:=12);have g13:=ak (L:=L') (i:=5) (j:=13);have hD3:=hP3 gd3 gn6;obtain ⟨b3,e3,h3⟩:=hD3;subst e3;have hSn:=hSw;refine cQ ⟨_,_,_,_,_,_⟩ (JS (JV ⟨b3,k,JW⟩)) w rfl mRf (by go_simp) ?_;exact ⟨hSn,(JR (JV ⟨b3,0,JW⟩) 3 3),(JS (JV ⟨b3,k,JW⟩)),(a5),(a6),(a9),(ab),(u9),mPt,hSn,by rw [g3,g6];exact hP3,fun _=>⟨b3,rfl,rfl⟩,by rw [g6];exact fun e=>absurd (e.symm.trans gn6) mDe,by rw [g8];exact hP8,by rw [g9];exact fun e=>absurd (e.symm.trans gn9) mDe,by rw [g11];exact fun e=>absurd (e.symm.trans gn11) mDe,by rw [g12,g13];exact hP12,by rw [g13];exact fun e=>absurd (e.symm.trans gn13) mDe⟩
  ·have g3:=ak (L:=L') (i:=6) (j:=3);have g5:=ak (L:=L') (i:=6) (j:=5);have g6:=cK (L:=L') (i:=6);have g8:=ak (L:=L') (i:=6) (j:=8);have g9:=ak (L:=L') (i:=6) (j:=9);have g11:=ak (L:=L') (i:=6) (j:=11);have g12:=ak (L:=L') (i:=6) (j:=12);have g13:=ak (L:=L') (i:=6) (j:=13);have hD3:=hP3 gd3 gn6;have hD5:=hP5 gd5;obtain ⟨b5,e3,e5⟩:=hD5;subst e5;obtain ⟨b3,e4,h3⟩:=hD3;rw [e3] at e4;injection e4 with e4 _ _;injection e4 with e4;injection e4 with e4 _ _;subst e4;have hc:w.cell? ⟨b5,k,JW⟩=JV (JQ SK):=by rw [ae h3];exact hsk
   have hSn:=hSw;refine cQ ⟨_,_,_,_,_,_⟩ (JQ SK) w rfl mRf (by go_simp) ?_;exact ⟨hSn,(a3),(JS (JV ⟨b5,k,JW⟩)),(JQ SK),(a6),(a9),(ab),(u9),mPt,hSn,by rw [g6];exact fun _ e=>absurd e mDe,by rw [g5];exact hP5,fun _=>rfl,by rw [g8];exact hP8,by rw [g9];exact fun e=>absurd (e.symm.trans gn9) mDe,by rw [g11];exact fun e=>absurd (e.symm.trans gn11) mDe,by rw [g12,g13];exact hP12,by rw [g13];exact fun e=>absurd (e.symm.trans gn13) mDe⟩
  ·have g3:=ak (L:=L') (i:=8) (j:=3);have g5:=ak (L:=L') (i:=8) (j:=5);have g6:=ak (L:=L') (i:=8) (j:=6);have g8:=cK (L:=L') (i:=8);have g9:=ak (L:=L') (i:=8) (j:=9);have g11:=ak (L:=L') (i:=8) (j:=11);have g12:=ak (L:=L') (i:=8) (j:=12);have g13:=ak (L:=L') (i:=8) (j:=13);refine tN ⟨_,_,_,_,_,_⟩ rfl mRf 79 _ _ mRf _ mRf call79 (KD.out w) ?_;rintro e wn ⟨rfl,hb⟩;have hSn:=ah hSw hb;exact ⟨_,rfl,hSn,(a3),(a4),(a5),(JQ DS),(a9),(ab),(u9),mPt,hSn,by rw [g3,g6];exact fun e e2=>(by obtain ⟨b,h1,h2⟩:=(hP3 e e2);exact ⟨b,h1,hb.heap_of h2⟩),by rw [g5];exact hP5,by rw [g6];exact hP6,fun _=>rfl,by rw [g9];exact fun e=>absurd (e.symm.trans gn9) mDe,by rw [g11];exact fun e=>absurd (e.symm.trans gn11) mDe,by rw [g12,g13];exact fun e e2=>(by obtain ⟨b,h1,h2,h3⟩:=(hP12 e e2);exact ⟨b,h1,h2,hb.heap_of h3⟩),by rw [g13];exact fun e=>absurd (e.symm.trans gn13) mDe⟩
  ·have g3:=ak (L:=L') (i:=9) (j:=3);have g5:=ak (L:=L') (i:=9) (j:=5);have g6:=ak (L:=L') (i:=9) (j:=6);have g8:=ak (L:=L') (i:=9) (j:=8);have g9:=cK (L:=L') (i:=9);have g11:=ak (L:=L') (i:=9) (j:=11);have g12:=ak (L:=L') (i:=9) (j:=12);have g13:=ak (L:=L') (i:=9) (j:=13);have hD6:=hP6 gd6;have hD8:=hP8 gd8;subst hD6;subst hD8;have hSn:=hSw;refine cQ ⟨_,_,_,_,_,_⟩ (JQ (SK++DS)) w rfl mRf (by go_simp) ?_;exact ⟨hSn,(a3),(a4),(JQ SK),(JQ DS),(JQ (SK++DS)),(ab),(u9),mPt,hSn,by rw [g3,g6];exact hP3,by rw [g5];exact hP5,by rw [g6];exact hP6,by rw [g8];exact hP8,fun _=>rfl,by rw [g11];exact fun e=>absurd (e.symm.trans gn11) mDe,by rw [g12,g13];exact hP12,by rw [g13];exact fun e=>absurd (e.symm.trans gn13) mDe⟩
  ·have g3:=ak (L:=L') (i:=11) (j:=3);have g5:=ak (L:=L') (i:=11) (j:=5);have g6:=ak (L:=L') (i:=11) (j:=6);have g8:=ak (L:=L') (i:=11) (j:=8);have g9:=ak (L:=L') (i:=11) (j:=9);have g11:=cK (L:=L') (i:=11);have g12:=ak (L:=L') (i:=11) (j:=12);have g13:=ak (L:=L') (i:=11) (j:=13);have hD9:=hP9 gd9;subst hD9;have hSn:=hSw;refine cQ ⟨_,_,_,_,_,_⟩ (.agg #[JO JP (1+2*(k:Int)),JQ (SK++DS),JO JP (d:Int),JO JP 0]) w rfl mRf (by go_simp) ?_;exact ⟨hSn,(a3),(a4),(a5),(a6),(JQ (SK++DS)),(.agg #[JO JP (1+2*(k:Int)),JQ (SK++DS),JO JP (d:Int),JO JP 0]),(u9),mPt,hSn,by rw [g3,g6];exact hP3,by rw [g5];exact hP5,by rw [g6];exact hP6,by rw [g8];exact hP8,by rw [g9];exact hP9,fun _=>rfl,by rw [g12,g13];exact hP12,by rw [g13];exact fun e=>absurd (e.symm.trans gn13) mDe⟩
  ·have g3:=ak (L:=L') (i:=12) (j:=3);have g5:=ak (L:=L') (i:=12) (j:=5);have g6:=ak (L:=L') (i:=12) (j:=6);have g8:=ak (L:=L') (i:=12) (j:=8);have g9:=ak (L:=L') (i:=12) (j:=9);have g11:=ak (L:=L') (i:=12) (j:=11);have g12:=cK (L:=L') (i:=12);have g13:=ak (L:=L') (i:=12) (j:=13);have hb:ac w.heap.size w (w.alloc (JU #[JO JP 0,JQ ⟨#[]⟩,JO JP 0,JO JP 0] 78)):=al _ _;have hSn:=ah hSw hb;refine cQ ⟨_,_,_,_,_,_⟩ (JS (JV ⟨w.heap.size,0,JW⟩)) (w.alloc (JU #[JO JP 0,JQ ⟨#[]⟩,JO JP 0,JO JP 0] 78)) rfl mRf (by go_simp) ?_;exact ⟨hSn,(a3),(a4),(a5),(a6),(a9),(ab),(JS (JV ⟨w.heap.size,0,JW⟩)),mPt,hSn,by rw [g3,g6];exact fun e e2=>(by obtain ⟨b,h1,h2⟩:=(hP3 e e2);exact ⟨b,h1,hb.heap_of h2⟩),by rw [g5];exact hP5,by rw [g6];exact hP6,by rw [g8];exact hP8,by rw [g9];exact hP9,by rw [g11];exact hP11,fun _ _=>⟨_,rfl,hSw.size,heap_alloc_new _ _⟩,by rw [g13];exact fun e=>absurd (e.symm.trans gn13) mDe⟩
  ·have g3:=ak (L:=L') (i:=13) (j:=3);have g5:=ak (L:=L') (i:=13) (j:=5);have g6:=ak (L:=L') (i:=13) (j:=6);have g8:=ak (L:=L') (i:=13) (j:=8);have g9:=ak (L:=L') (i:=13) (j:=9);have g11:=ak (L:=L') (i:=13) (j:=11);have g12:=ak (L:=L') (i:=13) (j:=12);have g13:=cK (L:=L') (i:=13);have hD11:=hP11 gd11;have hD12:=hP12 gd12 gn13;obtain ⟨b9,e9,hl9,h9⟩:=hD12;subst e9;subst hD11;have hSn:=aQ hSw hl9 #[JO JP (1+2*(k:Int)),JQ (SK++DS),JO JP (d:Int),JO JP 0];refine bH ⟨_,_,_,_,_,_⟩ rfl mRf 78 _ _ mRf b9 #[JO JP (1+2*(k:Int)),JQ (SK++DS),JO JP (d:Int),JO JP 0] mRf mRf _ _ h9 mKr rfl (by simp [Value.oneCell']) ?_;exact ⟨hSn,(a3),(a4),(a5),(a6),(a9),(.agg #[JO JP (1+2*(k:Int)),JQ (SK++DS),JO JP (d:Int),JO JP 0]),(JS (JV ⟨b9,0,JW⟩)),by simp only [Act.put],hSn,by rw [g3,g6];exact fun e e2=>absurd (gd6.symm.trans e2) mDe,by rw [g5];exact hP5,by rw [g6];exact hP6,by rw [g8];exact hP8,by rw [g9];exact hP9,by rw [g11];exact hP11,by rw [g13];exact fun _ e=>absurd e mDe,fun _=>⟨b9,rfl,hl9,setRow_heap w b9 _ _ _ _ h9⟩⟩
 ·intro L' a w hp hI;obtain ⟨a3,a4,a5,a6,a9,ab,u9,rfl,hSw,hP3,hP5,hP6,hP8,hP9,hP11,hP12,hP13⟩:=hI
  (try simp only [aW] at hp)
  have p13:=hp;obtain ⟨b9,e9,hl9,h9⟩:=hP13 p13;subst e9;exact HQ.out _ _ _ _ _ _ b9 w hSw hl9 h9
 ·refine aV ⟨_,_,_,_,_,_⟩ ?_ rfl mRf ?_ ?_
  rotate_left 1
  ·intro w hSw;(try dsimp only at hSw);go_simp;(try with_reducible rfl)
  refine ar ?_
  refine aV ⟨_,_,_,_,_,_⟩ ?_ rfl mRf ?_ ?_
  rotate_left 1
  ·intro w hSw;(try dsimp only at hSw);go_simp;(try with_reducible rfl)
  refine ar ?_
  refine aV ⟨_,_,_,_,_,_⟩ ?_ rfl mRf ?_ ?_
  rotate_left 1
  ·intro w hSw;(try dsimp only at hSw);go_simp;(try with_reducible rfl)
  refine ar ?_
  refine aV ⟨_,_,_,_,_,_⟩ ?_ rfl mRf ?_ ?_
  rotate_left 1
  ·intro w hSw;(try dsimp only at hSw);go_simp;(try with_reducible rfl)
  refine ar ?_
  refine aV ⟨_,_,_,_,_,_⟩ ?_ rfl mRf ?_ ?_
  rotate_left 1
  ·intro w hSw;(try dsimp only at hSw);go_simp;(try with_reducible rfl)
  refine ar ?_
  refine aV ⟨_,_,_,_,_,_⟩ ?_ rfl mRf ?_ ?_
  rotate_left 1
  ·intro w hSw;(try dsimp only at hSw);go_simp;(try with_reducible rfl)
  refine ar ?_
  exact ⟨_,_,_,_,_,_,_,rfl,((Below.refl _ _).drew),(fun e=>absurd e (by decide +kernel)),(fun e=>absurd e (by decide +kernel)),(fun e=>absurd e (by decide +kernel)),(fun e=>absurd e (by decide +kernel)),(fun e=>absurd e (by decide +kernel)),(fun e=>absurd e (by decide +kernel)),(fun e=>absurd e (by decide +kernel)),(fun e=>absurd e (by decide +kernel))⟩
structure RmI (w:World) (xb N:Nat) (sc:Int) (K:List LU) (u:World):Prop where
 low:ac w.heap.size w u
 box:∃ p c,u.heap[xb]? = JV (JU #[JO JP sc,JR p K.length c] 33 (0,0))∧u.ownsRow N 78 4 (JR p K.length c) K.length (br kD K)
 size:N≤u.heap.size
 at_:w.heap.size < xb∧xb < N
 good:∀ k∈K,k.secret.size≤103∧I64 k.id
theorem RmI.grow {w u u':World} {xb N:Nat} {sc:Int} {K:List LU} (h:RmI w xb N sc K u) (hb:ac u.heap.size u u'):RmI w xb N sc K u':=by
 obtain ⟨p,c,h1,h2⟩:=h.box;exact ⟨ah h.low hb,⟨p,c,hb.heap_of h1,bE h2 (LM.of (S:=fun _=>False) hb) (fun _ _ e=>e)⟩,bu h.size hb.size,h.at_,h.good⟩
theorem RmI.put {w u u':World} {xb N:Nat} {sc:Int} {K:List LU} (h:RmI w xb N sc K u) (hb:ac u.heap.size u u') {b:Nat} (hbb:u.heap.size≤b) (j:Nat) (v:Value):RmI w xb N sc K (u'.setCell ⟨b,j,JW⟩ v):=by
 obtain ⟨p,c,h1,h2⟩:=h.box;have hB:LM (fun q=>q=b) u (u'.setCell ⟨b,j,JW⟩ v):=(LM.of hb).trans (LM.set (S:=fun q=>q=b) u' rfl j v);have hx:=aU h1;refine ⟨(ah h.low hb).trans ((LM.set (S:=fun q=>q=b) u' rfl j v).below (fun q hq e=>by have:=h.low.size;omega) (ah h.low hb).size),⟨p,c,hB.heap h1 mOm,bE h2 hB (fun q hq e=>by have:=(h2.lt q hq).2;omega)⟩,bu h.size hB.size,h.at_,h.good⟩
theorem RmI.app {w u u':World} {xb N:Nat} {sc:Int} {K:List LU} {y:LU} {p:Option Addr} {c:Nat} {v9:Value} (h:RmI w xb N sc K u) (hy:y.secret.size≤103∧I64 y.id) (hx:u.heap[xb]? = JV (JU #[JO JP sc,JR p K.length c] 33 (0,0))) (ho:u.ownsRow N 78 4 (JR p K.length c) K.length (br kD K)) (hA:AppT kD 4 78 u N (JR p K.length c) K [y] v9 u'):RmI w xb N sc (K++[y]) (u'.setCell ⟨xb,1,JW⟩ v9):=by
 have hlo:∀ q,(Value.slice p K.length c).ownBlock=JV q→N≤q:=fun q hq=>(ho.lt q hq).1
 have hbA:=LM.grown hA.grown;have hset:=LM.set (S:=fun q=>q=xb) u' rfl 1 v9;have hx':=hbA.heap hx (fun e=>by have:=hlo _ e;have:=h.at_;omega);obtain ⟨p9,c9,rfl⟩:=eI hA.own;refine ⟨?_,⟨p9,c9,?_,?_⟩,?_,h.at_,?_⟩
 ·have h1:=h.low.grown hA.grown h.low.size (fun q e=>by have:=hlo _ e;have:=h.at_;omega);exact h1.trans (hset.below (fun q hq e=>by have:=h.at_;omega) h1.size)
 ·have:=bp hx' 1 (JR p9 (K++[y]).length c9);rw [this];rfl
 ·exact bE hA.own hset (fun q hq e=>by have:=(hA.own.lt q hq).1;have:=h.at_;omega)
 ·have:=hbA.size;have:=hset.size;have:=h.size;omega
 ·intro k hk;rcases List.mem_append.1 hk with hk | hk
  ·exact h.good k hk
  ·obtain rfl:=List.mem_singleton.1 hk;exact hy
theorem Io {z:Int} (hz:I64 z):∃ (z1 z2:Int) (n:Nat),IntKind.i64.wrap (z+1)=z1∧IntKind.i64.wrap (-z1)=z2∧mx z z2=(n:Int)∧(n:Int)≤9223372036854775807:=by
 have h1:=hz.1;have h2:=hz.2;clear hz;by_cases hm:z=9223372036854775807
 ·subst hm;exact ⟨-9223372036854775808,-9223372036854775808,9223372036854775807,mDe,mDe,mDe,mDe⟩
 ·refine ⟨z+1,-(z+1),(if -(z+1) > z then -(z+1) else z).toNat,aF _ mOm,aF _ mOm,?_,?_⟩
  ·unfold mx;split <;> omega
  ·split <;> omega
def vX (sc:Int) (w:World) (e:Ending) (w':World):Prop:=
 ∃ (g c:Nat) (K:List LU),e=JT (.agg #[JO JP sc,JR (JV ⟨g,0,JW⟩) K.length c])∧1≤K.length∧K.length≤3∧(∀ k∈K,k.secret.size≤103∧I64 k.id)∧LQ kD 4 78 w w' (JR (JV ⟨g,0,JW⟩) K.length c) K
theorem Iv (k:Nat) (hk:k < 3):∃ SK:ByteArray,(#[JQ ⟨#[111,97,107]⟩,JQ ⟨#[101,108,109]⟩,JQ ⟨#[97,115,104]⟩]:Array Value)[k]? = JV (JQ SK)∧SK.size≤3:=by
 match k,hk with
 | 0,_=>exact ⟨_,rfl,mDe⟩
 | 1,_=>exact ⟨_,rfl,mDe⟩
 | 2,_=>exact ⟨_,rfl,mDe⟩
theorem Fz {w u:World} {xb N:Nat} {sc:Int} {K:List LU} {p:Option Addr} {c:Nat} {o4:Obj} (h:RmI w xb N sc K u) (ho:u.ownsRow N 78 4 (JR p K.length c) K.length (br kD K)) (_e4:u.heap[w.heap.size]? = JV o4) (h1:1≤K.length) (h3:K.length≤3):vX sc w (JT (.agg #[JO JP sc,JR p K.length c])) (u.setRow w.heap.size #[JO JP sc,JR p K.length c]):=by
 have hown:(u.setRow w.heap.size #[JO JP sc,JR p K.length c]).ownsRow N 78 4 (JR p K.length c) K.length (br kD K):=bE ho (LM.setRow u w.heap.size _) (fun q hq e=>by have:=(ho.lt q hq).1;have:=h.at_;omega);obtain ⟨g,rfl⟩:∃ g,p=JV ⟨g,0,JW⟩:=by
  rcases ho.2 with ⟨_,h0⟩ | ⟨g,_,_,hv,_⟩
  ·omega
  ·injection hv with hv;exact ⟨g,hv⟩
 exact ⟨g,c,K,rfl,h1,h3,h.good,⟨⟨_,_,rfl⟩,iO hown (by have:=h.at_;omega),aQ h.low (Nat.le_refl _) _⟩⟩
theorem oS {p:Prop} (h:p:=by
 obtain ⟨p9,c9,hbx9,ho9⟩:=HX9.out.box;have e4:=E4.is;have q0:=ae hbx9 0;have q1:=ae hbx9 1;have HO9:=aa ho9;have hl4:=aU E4.is;clear hbx9 ho9;go_wp2_with ((with_reducible refine wpList_store_row (o:=⟨JW,.store 33 (.tmp 4) (.tmp 71),_,_,_,_⟩) ?_ 33 (.tmp 4) (.tmp 71) ?_ w.heap.size #[JO JP sc,JR p9 K.length c9] ?_ ?_ 33 #[JO JP 0,JR JW 0 0] ?_ ?_ ?_ ?_ ?_);rfl;rfl;rfl;rfl;exact e4;kernel_rfl;rfl;simp [Value.oneCell'])
 (try simp only [Exit.inBlock,Exit.then]);refine bodyPost_ret (v:=.agg #[JO JP sc,JR p9 K.length c9]) (results_cell_row (P:=prog) results31 _ _ w.heap.size 33 #[JO JP sc,JR p9 K.length c9] (0,0) _ rfl (setRow_heap _ _ _ _ _ _ e4) underlying33 rfl mKr) rfl ?_
 exact Fz HX9.out HO9.out e4 KLEN1 KLEN3):p:=h
theorem Ck (sc:Int) (A:Option Addr) (n cn:Nat) (w:World) (hsc:0≤sc∧sc≤100) (hI:LW w.heap.size A n w) :
  Calls prog 31 #[JO JP sc,JR A n cn] w (vX sc w):=by
 have HIN:=aa hI;have kd:=fun u=>ql 101 sc u hsc.1 mOm mOm
 have hds:(⟨(Lib.itoa sc).toArray⟩:ByteArray).size≤100:=by rw [bw];exact bu (Lib.itoa_length_le sc mOm mOm) mDe
 generalize (⟨(Lib.itoa sc).toArray⟩:ByteArray)=DS at *;have hb0:=ah (al w (JU #[JO JP 0,JR JW 0 0] 33)) (al _ (JU #[JO JP sc,JR JW 0 0] 33));have hh2:=heap_alloc_new (w.alloc (JU #[JO JP 0,JR JW 0 0] 33)) (JU #[JO JP sc,JR JW 0 0] 33);have hh1:=eG (heap_alloc_new w (JU #[JO JP 0,JR JW 0 0] 33)) (JU #[JO JP sc,JR JW 0 0] 33);rw [size_alloc] at hh2;obtain ⟨W,hW⟩:∃ u,u=(w.alloc (JU #[JO JP 0,JR JW 0 0] 33)).alloc (JU #[JO JP sc,JR JW 0 0] 33):=⟨_,rfl⟩;have hws:W.heap.size=w.heap.size+1+1:=by rw [hW,size_alloc,size_alloc]
 rw [← hW] at hb0 hh1 hh2;have hX0:RmI w (w.heap.size+1) (w.heap.size+1+1) sc [] W:=⟨hb0,⟨JW,0,hh2,World.ownsRow_nil _ _ _ _⟩,mOm,mOm,fun k hk=>by cases hk⟩;have HX0:=aa hX0;have E40:=LP.mk hh1;have KD:=aa kd;clear hI kd hh1 hh2 hX0;go_enter func31,ntmps31;go_wp2_with fail;rw [← hW];clear hW
 go_loopw [6,7] (fun v i wr=>∃ (d k:Nat) (K:List LU),k≤3∧d≤120*k∧K.length=k∧v=JO JP (d:Int)∧i=JO JP (k:Int)∧Hid (RmI w (w.heap.size+1) (w.heap.size+1+1) sc K wr)∧LP wr w.heap.size (JU #[JO JP 0,JR JW 0 0] 33 (0,0))) (fun _ i _=>3 - (aw i).toNat)
 case atStart=>exact ⟨0,0,[],mOm,mOm,rfl,rfl,rfl,HX0,E40⟩
 case round =>
  obtain ⟨d,k,K,hk3,hdk,hKl,rfl,rfl,HX,E4⟩:=hrel;subst hKl;by_cases hlt:K.length < 3
  rotate_left 1
  ·have i1:¬ (K.length:Int) < 3:=mOm;have HX9:=HX;have KLEN1:1≤K.length:=mOm;have KLEN3:K.length≤3:=mOm;exact oS
  have i1:(K.length:Int) < 3:=mOm
  have i2:(0:Int)≤(K.length:Int):=mOm
  go_upto_if 19 with fail
  go_cut [8] (fun v wx=>∃ m:Nat,v=JO JP (m:Int)∧(m:Int)≤9223372036854775807∧ac wr.heap.size wr wx)
  case first =>
   by_cases hkn:K.length < n
   rotate_left 1
   ·have j1:¬ (K.length:Int) < (n:Int):=mOm;go_wp2_with fail
    go_meet
    case rel=>exact ⟨0,rfl,mOm,Below.refl _ _⟩
   ·have j1:(K.length:Int) < (n:Int):=mOm;obtain ⟨ib,io,z,rfl,hib,hzc,hz⟩:=HIN.out.2 K.length hkn;have z0:wr.cell? ⟨ib,io+K.length,JW⟩=JV (JO JP z):=(HX.out.low.cell (p:=⟨ib,io+K.length,JW⟩) hib).trans hzc;obtain ⟨z1,z2,m,e1,e2,e3,hm⟩:=Io hz;have hS0:ac wr.heap.size wr wr.drew∧wr.drew.cell? ⟨ib,io+K.length,JW⟩=JV (JO JP z):=⟨(Below.refl _ _).drew,z0⟩;have keepZ:∀ {u v:World},(ac wr.heap.size wr u∧u.cell? ⟨ib,io+K.length,JW⟩=JV (JO JP z))→ac u.heap.size u v→(ac wr.heap.size wr v∧v.cell? ⟨ib,io+K.length,JW⟩=JV (JO JP z)):=fun h hb=>⟨ah h.1 hb,(hb.cell (World.block_lt_of_cell? _ _ h.2)).trans h.2⟩
    clear hzc z0;go_wp2_with fail;refine Jy (S:=fun u=>ac wr.heap.size wr u∧u.cell? ⟨ib,io+K.length,JW⟩=JV (JO JP z)) [(0,true),(1,true),(2,true),(3,true),(4,true),(5,true),(6,true),(7,true),(8,true),(9,true),(10,true),(11,true)] hS0 ?_;have hS:=hS0
    iterate 12 refine aj ?_
    simp only [aO,bj];have hbd:=hS.1;clear hS hS0 keepZ;go_wp2_with fail
    go_meet
    case rel=>exact ⟨m,rfl,hm,hbd⟩
  case rest =>
   obtain ⟨m,rfl,hm,hbc⟩:=hcut;have HXc:=aa (HX.out.grow hbc);have E4c:=LP.mk (hbc.heap_of E4.is);clear HX E4 hbc;obtain ⟨r3,hr3⟩:∃ r:Nat,(m:Int).tmod 3=(r:Int):=⟨m%3,by rw [bQ mOm];omega⟩;obtain ⟨r5,hr5⟩:∃ r:Nat,(m:Int).tmod 5=(r:Int):=⟨m%5,by rw [bQ mOm];omega⟩;obtain ⟨r7,hr7⟩:∃ r:Nat,(m:Int).tmod 7=(r:Int)∧r < 7:=⟨m%7,by rw [bQ mOm];omega,mOm⟩;obtain ⟨q5,hq5⟩:∃ q:Nat,(m:Int).tdiv 5=(q:Int)∧IntKind.i64.wrap ((m:Int).tdiv 5)=(q:Int):=⟨m / 5,by rw [dS mOm];omega,by rw [dS mOm];exact aF _ mOm⟩;obtain ⟨s5,hs5⟩:∃ s:Nat,(q5:Int).tmod 300=(s:Int)∧s < 300:=⟨q5%300,by rw [bQ mOm];omega,mOm⟩;have hr7l:=hr7.2;have hr7e:=hr7.1;have hs5l:=hs5.2;have hs5e:=hs5.1;have a0:IntKind.i64.wrap (q5:Int)=(q5:Int):=by rw [← hq5.2];rw [hq5.2];exact hq5.1 ▸ hq5.2
   have hq5e2:=hq5.1;clear hr7 hs5 hq5;obtain ⟨bq,hbq⟩:∃ b,b=(decide (0 < K.length)&&decide (r3=0)):=⟨_,rfl⟩;have HBQ:=aa hbq;clear hbq
   go_upto_region 9 with fail
   go_cut [37] (fun v wx=>v=.bool bq∧wx=wc)
   case first =>
    by_cases hk0:0 < K.length
    ·have p1:(0:Int) < (K.length:Int):=mOm;by_cases h3:r3=0
     ·have b3:((r3:Int)==0)=true:=by rw [beq_iff_eq];omega
      have e:bq=true:=by rw [HBQ.out,decide_eq_true hk0,decide_eq_true h3];rfl
      subst e;clear h3 hk0;go_wp2_with fail
      go_meet
      case rel=>exact ⟨rfl,rfl⟩
     ·have b3:((r3:Int)==0)=false:=by rw [beq_eq_false_iff_ne];omega
      have e:bq=false:=by rw [HBQ.out,decide_eq_false h3,Bool.and_false]
      subst e;clear h3 hk0;go_wp2_with fail
      go_meet
      case rel=>exact ⟨rfl,rfl⟩
    ·have p0:decide ((0:Int) < (K.length:Int))=false:=decide_eq_false mOm;have p0n:decide (0 < K.length)=false:=decide_eq_false hk0;have e:bq=false:=by rw [HBQ.out,p0n,Bool.false_and]
     subst e;clear hk0;go_wp2_with fail
     go_meet
     case rel=>exact ⟨rfl,rfl⟩
   case rest =>
    obtain ⟨rfl,rfl⟩:=hcut
    cases bq
    rotate_left 1
    ·have hk1:0 < K.length:=by
      have:=HBQ.out;have:=(aW _ _ ▸ this.symm:(decide (0 < K.length)=true∧decide (r3=0)=true)).1;exact of_decide_eq_true this
     have HX9:=HXc
     have E4:=E4c;have KLEN1:1≤K.length:=mOm;have KLEN3:K.length≤3:=mOm;clear hk1;exact oS
    ·obtain ⟨SK,hsk,hzk⟩:=Iv K.length hlt
     go_upto_region 10 with fail
     refine Iu sc d K.length SK DS _ _ hlt hsk hzk hds (fun u=>KD.out u) ?_
     intros
     rename_i bx wx hbx hlx hxx
     have HXx:=aa (HXc.out.grow hbx)
     have E4x:=LP.mk (hbx.heap_of E4c.is);have EX:=LP.mk hxx;have hl4:=aU E4c.is;have hne4:bx ≠ w.heap.size:=mOm;have HBX:=aa hbx;clear hbx hxx hsk
     go_upto_if 52 with fail
     go_cut [] (fun wy=>∃ st:Int,Hid (RmI w (w.heap.size+1) (w.heap.size+1+1) sc K wy)∧LP wy bx (JU #[JO JP (1+2*(K.length:Int)),JQ (SK++DS),JO JP (d:Int),JO JP st] 78 (0,0))∧LP wy w.heap.size (JU #[JO JP 0,JR JW 0 0] 33 (0,0)))
     case first =>
      by_cases h5:r5=4
      ·have b5:((r5:Int)==4)=true:=by rw [beq_iff_eq];omega
       have a1:IntKind.i64.wrap ((d:Int)+1)=(d:Int)+1:=aF _ mOm;have a2:IntKind.i64.wrap ((d:Int)+1+(s5:Int))=(d:Int)+1+(s5:Int):=aF _ mOm;have c3:=ae EX.is 3;have f3:=aE EX.is 3;clear h5;go_wp2_with fail
       go_meet
       case rel=>exact ⟨(d:Int)+1+(s5:Int),aa (HXc.out.put HBX.out hlx 3 _),⟨bp EX.is 3 _⟩,⟨(de hne4 3 _).trans E4x.is⟩⟩
      ·have b5:((r5:Int)==4)=false:=by rw [beq_eq_false_iff_ne];omega
       clear h5;go_wp2_with fail
       go_meet
       case rel=>exact ⟨0,HXx,EX,E4x⟩
     case rest =>
      obtain ⟨st,HXy,EY,E4y⟩:=hcut;clear HXx EX E4x HXc E4c;obtain ⟨p9,c9,hb9x,ho9⟩:=HXy.out.box;have q1:wc.cell? ⟨w.heap.size+1,1,JW⟩=JV (JR p9 K.length c9):=ae hb9x 1;have y0:wc.cell? ⟨bx,0,JW⟩=JV (JO JP (1+2*(K.length:Int))):=ae EY.is 0;have y1:wc.cell? ⟨bx,1,JW⟩=JV (JQ (SK++DS)):=ae EY.is 1;have y2:wc.cell? ⟨bx,2,JW⟩=JV (JO JP (d:Int)):=ae EY.is 2;have y3:wc.cell? ⟨bx,3,JW⟩=JV (JO JP st):=ae EY.is 3;have hba:=al wc (JU #[JO JP (1+2*(K.length:Int)),JQ (SK++DS),JO JP (d:Int),JO JP st] 78);have hlit:LK kD (wc.alloc (JU #[JO JP (1+2*(K.length:Int)),JQ (SK++DS),JO JP (d:Int),JO JP st] 78)) (JR (JV ⟨wc.heap.size,0,JW⟩) 1 1) [(⟨1+2*(K.length:Int),SK++DS,(d:Int),st⟩:LU)]:=cF (heap_alloc_new wc _) _ rfl rfl;have hown:=bE ho9 (LM.of (S:=fun _=>False) hba) (fun _ _ e=>e);have hbA:=hba.heap_of hb9x;have XA:=aa (HXy.out.grow hba);have HBA:=LP.mk hbA;have HOA:=aa hown;have E4A:=LP.mk (hba.heap_of E4y.is);have hsz:=bu HXy.out.size hba.size;have hyg:(SK++DS).size≤103∧I64 (1+2*(K.length:Int)):=⟨by rw [ByteArray.size_append];omega,mOm,mOm⟩;have a7:IntKind.i64.wrap (20*(r7:Int))=20*(r7:Int):=aF _ mOm;have a8:IntKind.i64.wrap ((d:Int)+20*(r7:Int))=(d:Int)+20*(r7:Int):=aF _ mOm;clear hb9x ho9 hba hbA HXy EY E4y;go_wp2_with (at_builtin;refine bB kyT rfl (.tmp 61) (.tmp 63) rfl (w.heap.size+1+1) (JR p9 K.length c9) (JR (JV ⟨wc.heap.size,0,JW⟩) 1 1) K [(⟨1+2*(K.length:Int),SK++DS,(d:Int),st⟩:LU)] rfl rfl hown hlit (by simp only [aG];omega) hsz ?_;intro v9 w10 hA9;obtain ⟨g9,c10,hv9⟩:=iP hA9.own;subst hv9;rw [ax,aG] at hA9;have HA9:=aa hA9;have k9:=(LM.grown hA9.grown).heap HBA.is (fun e2=>by have:=(HOA.out.lt _ e2).1;omega);have c19:=ae k9 1;have f19:=aE k9 1;have k4:=LP.mk ((LM.grown hA9.grown).heap E4A.is (fun e2=>by have:=(HOA.out.lt _ e2).1;omega));clear hA9 hown hlit hsz k9)
      go_roundw
      case rel=>exact ⟨d+20*r7,K.length+1,K++[⟨1+2*(K.length:Int),SK++DS,(d:Int),st⟩],mOm,mOm,by rw [ax,aG],by first | rfl | push_cast,by go_num,aa (XA.out.app hyg HBA.is HOA.out HA9.out),⟨(de mOm 1 _).trans k4.is⟩⟩
      case measure=>simp [aw];omega
