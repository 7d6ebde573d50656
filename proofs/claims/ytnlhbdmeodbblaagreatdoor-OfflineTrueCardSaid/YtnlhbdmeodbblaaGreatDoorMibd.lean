/- Lemmas. -/
import Derived.Test.YtnlhbdmeodbblaaGreatDoorMibb
set_option maxRecDepth 100000
set_option maxHeartbeats 16000000
set_option linter.all false
open Go.Proofs.Tryz
open Int renaming emod_lt_of_pos→fy,emod_nonneg→f9
open Go.Lib renaming cell_of_heap→ae,hid→aa
open Nat renaming lt_of_lt_of_le→av
open Go.RowKit renaming Below→ac
open Go.IntKind renaming i64→JP
open Go.Obj renaming cells→JU
open Go.Value renaming int→JO,slice→JR
open Option renaming some→JV,none→JW
namespace Go.Proofs.YtnlhbdmeodbblaaGreatDoor
section
open Go Go.Proofs Go.RowKit Go.Sort Go.Lib
attribute [local go_sem ↓] mJ mK
theorem Ki {p q:Prop} (h:q) (f:Wq q→p:=by
 intro hq;have F1:=LP.mk (hbd.heap_of F1.is);have F2:=LP.mk (hbd.heap_of F2.is);have FR:=LP.mk (hbd.heap_of FR.is)
 revert F1 F2 FR
 exact hq.1):p:=f ⟨h⟩
theorem EG (A B D:Option Addr) (n m q cA cB cD:Nat) (a0 a1 a2 a3 a4:Int) (w:World) (hA:LW w.heap.size A n w) (hB:LW w.heap.size B m w) (hD:LW w.heap.size D q w) (hqc:q≤cD) (hDn:D=JW→cD=0) (hT:Tabs w) :
  Calls prog 8 #[.agg #[JR A n cA,JR B m cB,JR D q cD,JO JP a0,JO JP a1,JO JP a2,JO JP a3,JO JP a4]] w (CX w):=by
 have HA:=aa hA;have HB:=aa hB;have HD:=aa hD;have HT:=aa hT;have HDN:=aa hDn;have e0:=heap_alloc_new w (JU #[JR A n cA,JR B m cB,JR D q cD,JO JP a0,JO JP a1,JO JP a2,JO JP a3,JO JP a4] 25);have e1:=heap_alloc_new (w.alloc (JU #[JR A n cA,JR B m cB,JR D q cD,JO JP a0,JO JP a1,JO JP a2,JO JP a3,JO JP a4] 25)) (JU #[JO JP 0,JR JW 0 0] 33);have e2:=heap_alloc_new ((w.alloc (JU #[JR A n cA,JR B m cB,JR D q cD,JO JP a0,JO JP a1,JO JP a2,JO JP a3,JO JP a4] 25)).alloc (JU #[JO JP 0,JR JW 0 0] 33)) (JU #[JO JP 0,JO JP 0,JO JP 0,JO JP 0,JO JP 0,JR JW 0 0,JR JW 0 0] 39);rw [size_alloc] at e1;rw [size_alloc,size_alloc] at e2;have k0:=eG (eG e0 (JU #[JO JP 0,JR JW 0 0] 33)) (JU #[JO JP 0,JO JP 0,JO JP 0,JO JP 0,JO JP 0,JR JW 0 0,JR JW 0 0] 39);have k1:=eG e1 (JU #[JO JP 0,JO JP 0,JO JP 0,JO JP 0,JO JP 0,JR JW 0 0,JR JW 0 0] 39);have hb0:=ah (al w (JU #[JR A n cA,JR B m cB,JR D q cD,JO JP a0,JO JP a1,JO JP a2,JO JP a3,JO JP a4] 25)) (ah (al _ (JU #[JO JP 0,JR JW 0 0] 33)) (al _ (JU #[JO JP 0,JO JP 0,JO JP 0,JO JP 0,JO JP 0,JR JW 0 0,JR JW 0 0] 39)));obtain ⟨W,hW⟩:∃ u,u=((w.alloc (JU #[JR A n cA,JR B m cB,JR D q cD,JO JP a0,JO JP a1,JO JP a2,JO JP a3,JO JP a4] 25)).alloc (JU #[JO JP 0,JR JW 0 0] 33)).alloc (JU #[JO JP 0,JO JP 0,JO JP 0,JO JP 0,JO JP 0,JR JW 0 0,JR JW 0 0] 39):=⟨_,rfl⟩;rw [← hW] at e2 k0 k1 hb0;clear e0 e1 hA hB hD hT hDn;have z0:=ae k0 0;have F0:=LP.mk k0;have F1:=LP.mk k1;have F2:=LP.mk e2;have HB0:=aa hb0;have hWs:=ay e2;have km:=Ck 1 A n cA W mDe (HA.out.up hb0 hb0.size);clear k0 k1 e2 hb0;go_enter func8,ntmps8
 go_upto_region 1 with fail
 rw [← hW];clear hW;go_wp2_with fail;refine km.mono ?_;clear km z0;rintro _ w1 ⟨g,cg,K,rfl,hk1,hk3,hks,hO1⟩;have hb1:=ah HB0.out hO1.low;have hx:=heap_alloc_new w1 (JU #[JO JP 1,JR (JV ⟨g,0,JW⟩) K.length cg] 33);have hba:=al w1 (JU #[JO JP 1,JR (JV ⟨g,0,JW⟩) K.length cg] 33);obtain ⟨W2,hW2⟩:∃ u,u=w1.alloc (JU #[JO JP 1,JR (JV ⟨g,0,JW⟩) K.length cg] 33):=⟨_,rfl⟩;have F0:=LP.mk ((hO1.low.heap_of F0.is));have F1:=LP.mk ((hO1.low.heap_of F1.is));have F2:=LP.mk ((hO1.low.heap_of F2.is));rw [← hW2] at hx hba;obtain ⟨rb,hrb⟩:∃ b,b=w1.heap.size:=⟨_,rfl⟩;have F0:=LP.mk (hba.heap_of F0.is);have F1:=LP.mk (hba.heap_of F1.is);have F2:=LP.mk (hba.heap_of F2.is);have HOK:=aa (hO1.next hba);have HBW:=aa (ah hO1.low hba);have HKS:=aa hks;have hb2:=ah hb1 hba;have hKA:=uy HOK.out hk1;have HG:=aa hKA
 go_upto_region 2 with fail
 rw [← hW2,← hrb];rw [← hrb] at hx;have hrl:w.heap.size+3≤rb:=by have:=hO1.low.size;rw [hrb];omega
 have FR:=LP.mk hx;have hS0:ac w.heap.size w W2∧(w.heap.size < W2.heap.size∧rb < W2.heap.size)∧(∀ j,W2.cell? ⟨w.heap.size,j,JW⟩=(#[JR A n cA,JR B m cB,JR D q cD,JO JP a0,JO JP a1,JO JP a2,JO JP a3,JO JP a4]:Array Value)[j]?)∧(∀ j,W2.cell? ⟨rb,j,JW⟩=(#[JO JP 1,JR (JV ⟨g,0,JW⟩) K.length cg]:Array Value)[j]?):=⟨hb2,⟨ay F0.is,ay hx⟩,ae F0.is,ae hx⟩;have hS1:=bT hS0 (Below.refl _ W2).drew;have KM:Hid (∀ u,ac w.heap.size w u→Calls prog 33 #[JR B m cB,JO JP 1] u _):=aa (fun u hu=>Cl B m cB u (HB.out.up hu hu.size));have KS:Hid (∀ u,ac W2.heap.size W2 u→∀ es p c,LK bK u (JR p es.length c) es→Hid (L4 1 es)→Calls prog 32 #[.agg #[JO JP 1,JR (JV ⟨g,0,JW⟩) K.length cg],JR p es.length c] u _):=aa (fun u hu es p c h hm=>CG K g cg es p c u h hm (HG.out.1.below hu HG.out.2) (av HG.out.2 hu.size) hk1 hk3 HKS.out (HT.out.below (ah hb2 hu)));have HB2:=aa hb2;clear hW2 hrb hx hba hO1 hb1 hKA hS0 hb2 hks;refine Jy (S:=fun u=>ac w.heap.size w u∧(w.heap.size < u.heap.size∧rb < u.heap.size)∧(∀ j,u.cell? ⟨w.heap.size,j,JW⟩=(#[JR A n cA,JR B m cB,JR D q cD,JO JP a0,JO JP a1,JO JP a2,JO JP a3,JO JP a4]:Array Value)[j]?)∧(∀ j,u.cell? ⟨rb,j,JW⟩=(#[JO JP 1,JR (JV ⟨g,0,JW⟩) K.length cg]:Array Value)[j]?)) [(0,true),(1,true),(2,true),(3,false),(4,false),(5,true)] hS1 ?_;have hS:=hS1
 iterate 3 refine aj ?_
 refine aH 33 call33 (KM.out _ hS.1) ?_;rintro x wn ⟨es,pe,ce,rfl,hMO,hEN,hb⟩;replace hS:=bT hS hb;have hbd:=ah (Below.refl _ W2).drew hb;refine ⟨_,rfl,hS,?_⟩;(try clear hb);refine ar ?_;refine aH 32 call32 (KS.out _ hbd es pe ce hEN hMO) ?_;rintro x wn ⟨l,pl,cl,rfl,hLS,hOL,hb⟩;replace hS:=bT hS hb;have hOL:=hOL.from_ hbd;replace hbd:=ah hbd hb;refine ⟨_,rfl,hS,?_⟩;(try clear hb);refine ar ?_;refine aj ?_;simp only [aO,bj];obtain ⟨w2,rfl⟩:∃ u,u=wn:=⟨_,rfl⟩;have hS2:=bT hS (Below.refl _ w2).drew;have HOL:=aa (hOL.from_ HBW.out);have HOK:=aa (HOK.out.next hbd);have HBD:=aa hbd;have HB2:=aa hS.1;have F0:=LP.mk (hbd.heap_of F0.is);refine Ki ?_;intro F1 F2 FR;have hlr:=HOL.out.row dH mDe;have hcap:l.length≤cl:=by obtain ⟨p',c',e',h1,_⟩:=hlr;injection e' with _ _ e3;omega
 have hpn:pl=JW→cl=0:=by obtain ⟨p',c',e',_,h1,_⟩:=hlr;injection e' with e1 _ e3;rw [e1,e3];exact h1
 have HPN:=aa hpn;have HLR:=aa hlr;obtain ⟨mm,hmm,hmq⟩:∃ mm:Nat,mn (q:Int) 4=(mm:Int)∧mm≤q:=by
  unfold mn
  split
  ·exact ⟨4,rfl,mOm⟩
  ·exact ⟨q,rfl,mOm⟩
 have KC:Hid (∀ u,ac w2.heap.size w2 u→Calls prog 34 #[.agg #[JO JP 1,JR (JV ⟨g,0,JW⟩) K.length cg],JR pl l.length cl,JR D mm cD] u _):=aa (fun u hu=>C5 K g cg l pl cl D mm cD u (HLR.out.below hu) hLS ((HD.out.few hmq).up (ah HB2.out hu) (ah HB2.out hu).size) (HG.out.1.below (ah HBD.out hu) HG.out.2) (av HG.out.2 (ah HBD.out hu).size) hk3 HKS.out)
 clear hS hS1 hOL hbd hlr hpn hEN hMO
 go_upto_region 3 with fail
 refine Jy (S:=fun u=>ac w.heap.size w u∧(w.heap.size < u.heap.size∧rb < u.heap.size)∧(∀ j,u.cell? ⟨w.heap.size,j,JW⟩=(#[JR A n cA,JR B m cB,JR D q cD,JO JP a0,JO JP a1,JO JP a2,JO JP a3,JO JP a4]:Array Value)[j]?)∧(∀ j,u.cell? ⟨rb,j,JW⟩=(#[JO JP 1,JR (JV ⟨g,0,JW⟩) K.length cg]:Array Value)[j]?)) [(0,true),(1,true),(2,true),(3,true),(4,true),(5,true),(6,true),(7,true),(8,true),(9,false),(10,true)] hS2 ?_;have hS:=hS2
 iterate 7 refine aj ?_
 refine fU ⟨_,_,_,_,_,_⟩ (JO JP (mm:Int)) rfl mRf (by intro w hSw;go_simp) ?_;refine ar ?_;refine nE ⟨_,_,_,_,_,_⟩ rfl mRf 22 3 (.tmp 29) (.tmp 33) mRf underlying22 sizeOf3 D q cD mm mRf mRf hmq hqc HDN.out ?_;refine ar ?_;refine aH 34 call34 (KC.out _ (Below.refl _ w2).drew) ?_;rintro x wn ⟨R,pr,cr,rfl,hCH,hOR,hb⟩;replace hS:=bT hS hb;have hbd:=ah (Below.refl _ w2).drew hb;have hOR:=hOR.from_ (Below.refl _ w2).drew;refine ⟨_,rfl,hS,?_⟩;(try clear hb);refine ar ?_;refine aj ?_;simp only [aO,bj];obtain ⟨w3,rfl⟩:∃ u,u=wn:=⟨_,rfl⟩;have HOR:=aa ((hOR.from_ HBD.out).from_ HBW.out);have HOL:=aa (HOL.out.next hbd);have HOK:=aa (HOK.out.next hbd);have HB3:=aa hS.1;have F0:=LP.mk (hbd.heap_of F0.is);refine Ki ?_;intro F1 F2 FR;have HLR:=aa (HLR.out.below hbd);have hS3:=bT hS (Below.refl _ w3).drew;have HCH:=hCH;have hb1W:w.heap.size≤w.heap.size+1∧w.heap.size+1 < W.heap.size:=⟨mOm,mOm⟩;have hb2W:w.heap.size≤w.heap.size+2∧w.heap.size+2 < W.heap.size:=⟨mOm,mOm⟩;clear hS hS2 hOR hbd hCH hmm KC;by_cases h0:R.length=0
 ·have t1:((R.length:Int)==0)=true:=by rw [beq_iff_eq];omega
  clear h0;have s1:=F1.is;have s2:∀ cs,(w3.setRow (w.heap.size+1) cs).heap[w.heap.size+2]? = JV (JU #[JO JP 0,JO JP 0,JO JP 0,JO JP 0,JO JP 0,JR JW 0 0,JR JW 0 0] 39 (0,0)):=fun cs=>(fZ mOm).trans F2.is
  have r0:=ae FR.is 0;have r1:=ae FR.is 1;go_wp2_with (first | ((with_reducible refine wpList_store_row (o:=⟨none,.store 33 (.tmp 2) (.tmp 39),_,_,_,_⟩) ?_ 33 (.tmp 2) (.tmp 39) ?_ (w.heap.size+1) #[.int .i64 1,.slice (some ⟨g,0,none⟩) K.length cg] ?_ ?_ 33 #[.int .i64 0,.slice none 0 0] ?_ ?_ ?_ ?_ ?_);rfl;rfl;rfl;rfl;exact s1;kernel_rfl;rfl;simp [Value.oneCell']) | ((with_reducible refine wpList_store_row (o:=⟨none,.store 39 (.tmp 5) (.tmp 42),_,_,_,_⟩) ?_ 39 (.tmp 5) (.tmp 42) ?_ (w.heap.size+2) #[.int .i64 0,.int .i64 0,.int .i64 0,.int .i64 0,.int .i64 0,.slice none 0 0,.slice none 0 0] ?_ ?_ 39 #[.int .i64 0,.int .i64 0,.int .i64 0,.int .i64 0,.int .i64 0,.slice none 0 0,.slice none 0 0] ?_ ?_ ?_ ?_ ?_);rfl;rfl;rfl;rfl;exact s2 _;kernel_rfl;rfl;simp [Value.oneCell']))
  (try simp only [Exit.inBlock,Exit.then]);refine bodyPost_ret (rD results8 _ _ (w.heap.size+1) (w.heap.size+2) #[JO JP 1,JR (JV ⟨g,0,JW⟩) K.length cg] #[JO JP 0,JO JP 0,JO JP 0,JO JP 0,JO JP 0,JR JW 0 0,JR JW 0 0] rfl rfl ((fZ mOm).trans (setRow_heap _ _ _ _ _ _ s1)) (setRow_heap _ _ _ _ _ _ (s2 _)) rfl rfl) rfl ?_
  exact ⟨⟨1,K⟩,l,R,g,cg,pl,cl,pr,cr,#[.int .i64 0,.int .i64 0,.int .i64 0,.int .i64 0,.int .i64 0,.slice none 0 0,.slice none 0 0],false,rfl,⟨_,_,_,_,_,_,_,_,_,_,_,rfl⟩,⟨rfl,⟨hk1,hk3⟩,HKS.out,hLS.out,HCH.out⟩,HOK.out.boxes HB0.out hb1W hb2W _ _,HOL.out.boxes HB0.out hb1W hb2W _ _,HOR.out.boxes HB0.out hb1W hb2W _ _,fun h=>nomatch h⟩
 have t1:((R.length:Int)==0)=false:=by rw [beq_eq_false_iff_ne];omega
 obtain ⟨rg,ro,hpr,hrg,hrr⟩:=dc (kk:=7) (HOR.out.row df mDe) df rfl mOm;subst hpr;obtain ⟨k,hk,hkR⟩:∃ k:Nat,a3%(R.length:Int)=(k:Int)∧k < R.length:=by have e1:=f9 a3 (b:=(R.length:Int)) mOm;have e2:=fy a3 (b:=(R.length:Int)) mOm;exact ⟨(a3%(R.length:Int)).toNat,mOm,mOm⟩
 have hfew:=HCH.out.few
 have km3:=fun u=>nH a3 R.length u mOm mOm
 rw [hk] at km3;have KM3:=aa km3;have hge:=List.getElem?_eq_getElem hkR;obtain ⟨-,-,mS,hm1,-,hsz,-⟩:=HCH.out.each _ (List.mem_of_getElem? hge);have x1:=hrr k _ hge 1 _ rfl;rw [hsz] at x1;have HX1:=aa x1;have g0:=f9 a0 (b:=3) mDe;have g1:=fy a0 (b:=3) mDe;have g2:=f9 a1 (b:=500) mDe;have g3:=fy a1 (b:=500) mDe;have g4:=f9 a2 (b:=400) mDe;have g5:=fy a2 (b:=400) mDe;have KM0:=aa (fun u=>nH a0 3 u mDe mDe);have KM1:=aa (fun u=>nH a1 500 u mDe mDe);have KM2:=aa (fun u=>nH a2 400 u mDe mDe);generalize a0%3=d0 at *;generalize a1%500=d1 at *;generalize a2%400=d2 at *;have w1d:IntKind.i64.wrap (1+d0)=1+d0:=IntWalk.i64_in _ mOm;clear hk km3 hge hsz x1 hrr;go_wp2_with fail;refine Jy (S:=fun u=>ac w.heap.size w u∧(w.heap.size < u.heap.size∧rb < u.heap.size)∧(∀ j,u.cell? ⟨w.heap.size,j,JW⟩=(#[JR A n cA,JR B m cB,JR D q cD,JO JP a0,JO JP a1,JO JP a2,JO JP a3,JO JP a4]:Array Value)[j]?)∧(∀ j,u.cell? ⟨rb,j,JW⟩=(#[JO JP 1,JR (JV ⟨g,0,JW⟩) K.length cg]:Array Value)[j]?)) [(0,true),(1,true),(2,true),(5,true),(6,true),(7,true),(9,true),(10,true),(11,true),(12,true),(13,true),(3,false),(4,true),(8,false),(14,false),(15,true),(16,true),(17,true)] hS3 ?_;have hS:=hS3
 iterate 11 refine aj ?_
 (first | (refine aH 12 call12 (KM0.out _) ?_;rintro x wn ⟨rfl,rfl⟩;refine ⟨_,rfl,hS,?_⟩) | (refine aH 12 call12 (KM1.out _) ?_;rintro x wn ⟨rfl,rfl⟩;refine ⟨_,rfl,hS,?_⟩) | (refine aH 12 call12 (KM3.out _) ?_;rintro x wn ⟨rfl,rfl⟩;refine ⟨_,rfl,hS,?_⟩))
 refine ar ?_
 refine aj ?_
 (first | (refine aH 12 call12 (KM0.out _) ?_;rintro x wn ⟨rfl,rfl⟩;refine ⟨_,rfl,hS,?_⟩) | (refine aH 12 call12 (KM1.out _) ?_;rintro x wn ⟨rfl,rfl⟩;refine ⟨_,rfl,hS,?_⟩) | (refine aH 12 call12 (KM3.out _) ?_;rintro x wn ⟨rfl,rfl⟩;refine ⟨_,rfl,hS,?_⟩))
 refine ar ?_
 (first | (refine aH 12 call12 (KM0.out _) ?_;rintro x wn ⟨rfl,rfl⟩;refine ⟨_,rfl,hS,?_⟩) | (refine aH 12 call12 (KM1.out _) ?_;rintro x wn ⟨rfl,rfl⟩;refine ⟨_,rfl,hS,?_⟩) | (refine aH 12 call12 (KM3.out _) ?_;rintro x wn ⟨rfl,rfl⟩;refine ⟨_,rfl,hS,?_⟩))
 refine ar ?_
 iterate 3 refine aj ?_
 simp only [aO,bj];obtain ⟨w4,hw4⟩:∃ u,u=w3.drew:=⟨_,rfl⟩;rw [← hw4] at hS ⊢;have hb4:ac w3.heap.size w3 w4:=by rw [hw4];exact (Below.refl _ _).drew
 have HOR:=aa (HOR.out.next hb4);have HOL:=aa (HOL.out.next hb4);have HOK:=aa (HOK.out.next hb4);have F0:=LP.mk (hb4.heap_of F0.is);have F1:=LP.mk (hb4.heap_of F1.is);have F2:=LP.mk (hb4.heap_of F2.is);have FR:=LP.mk (hb4.heap_of FR.is);have HLR:=aa (HLR.out.below hb4);have HX1:=aa ((hb4.cell (p:=⟨rg,ro+k*7+1,JW⟩) hrg).trans HX1.out);have HB4:=aa hS.1;have hrg:=av hrg hb4.size;have z5:=ae F0.is 5;clear hw4 hb4 hS hS3 KM0 KM1 KM3 t1 HB3
 go_upto_region 7 with fail
 go_wp2_with fail;refine (KM2.out _).mono ?_;rintro _ _ ⟨rfl,rfl⟩;clear KM2;have q0:=Int.lt_tmod_of_pos a2 (b:=3) mDe;have q1:=Int.tmod_lt_of_pos a2 (b:=3) mDe;obtain ⟨r3,hr3⟩:∃ r:Int,a2.tmod 3=r:=⟨_,rfl⟩;rw [hr3] at q0 q1
 go_upto_if 68 with fail
 go_cut [11,13] (fun v11 v13 wx=>∃ fi la:Int,v11=JO JP fi∧v13=JO JP la∧wx=w4)
 case first =>
  by_cases h3:r3=0
  ·have t3:(r3==0)=true:=by rw [beq_iff_eq];exact h3
   clear h3;go_wp2_with fail
   go_meet
   case rel=>exact ⟨0,100000,rfl,rfl,rfl⟩
  ·have t3:(r3==0)=false:=by rw [beq_eq_false_iff_ne];exact h3
   clear h3;go_wp2_with fail
   go_meet
   case rel=>exact ⟨_,_,rfl,rfl,rfl⟩
 case rest =>
  obtain ⟨fi,la,rfl,rfl,rfl⟩:=hcut;obtain ⟨w4,rfl⟩:∃ u,u=wc:=⟨_,rfl⟩;have x1:=HX1.out;have i1:(k:Int) < (R.length:Int):=mOm;have i2:(0:Int)≤(k:Int):=mOm;clear z5 q0 q1 hr3
  go_upto_region 11 with fail
  have htl:(l.take mS).length=mS:=by rw [List.length_take];omega
  have hrl:∀ u,ac w4.heap.size w4 u→LK bK u (JR pl mS cl) (l.take mS):=fun u hu=>(HLR.out.below hu).take rfl hm1
  have h24:l.length≤24:=by obtain ⟨es,h1,h2⟩:=hLS.out;exact qw h1 h2
  have ksh:=fun (bits:Int) u (hu:ac w4.heap.size w4 u)=>Ef (l.take mS) pl cl (1+d0) fi la bits u (by rw [htl];exact hrl u hu) mOm
  rw [htl] at ksh;have KSH:=aa ksh;have hsl:∀ u,(Instr.sliceAt 34 (JR pl l.length cl) JW (JV (JO JP (mS:Int))) JW).run prog u=.ok (JR pl mS cl) u:=fun u=>nu 34 67 underlying34 sizeOf67 pl l.length cl mS hm1 hcap HPN.out u
  have HSL:=aa hsl;have hS4:ac w.heap.size w w4∧(w.heap.size < w4.heap.size∧rb < w4.heap.size)∧(∀ j,w4.cell? ⟨w.heap.size,j,JW⟩=(#[JR A n cA,JR B m cB,JR D q cD,JO JP a0,JO JP a1,JO JP a2,JO JP a3,JO JP a4]:Array Value)[j]?)∧(∀ j,w4.cell? ⟨rb,j,JW⟩=(#[JO JP 1,JR (JV ⟨g,0,JW⟩) K.length cg]:Array Value)[j]?):=⟨HB4.out,⟨ay F0.is,ay FR.is⟩,ae F0.is,ae FR.is⟩;have hS5:=bT hS4 (Below.refl _ w4).drew;clear htl hrl ksh x1 i1 i2 hS4 hsl;refine Jy (S:=fun u=>ac w.heap.size w u∧(w.heap.size < u.heap.size∧rb < u.heap.size)∧(∀ j,u.cell? ⟨w.heap.size,j,JW⟩=(#[JR A n cA,JR B m cB,JR D q cD,JO JP a0,JO JP a1,JO JP a2,JO JP a3,JO JP a4]:Array Value)[j]?)∧(∀ j,u.cell? ⟨rb,j,JW⟩=(#[JO JP 1,JR (JV ⟨g,0,JW⟩) K.length cg]:Array Value)[j]?)) [(0,true),(1,true),(2,true),(3,true),(4,true),(5,true),(6,true),(7,true),(8,true),(9,false),(10,true)] hS5 ?_;have hS:=hS5
  iterate 2 refine aj ?_
  refine nE ⟨_,_,_,_,_,_⟩ rfl mRf 34 67 (.tmp 74) (.tmp 75) mRf underlying34 sizeOf67 pl l.length cl mS mRf mRf hm1 hcap HPN.out ?_;refine ar ?_
  iterate 6 refine aj ?_
  refine aH 35 call35 (KSH.out _ _ (Below.refl _ w4).drew) ?_;rintro x wn ⟨ids,pi,ci,rfl,hil,hIDS,hb⟩;replace hS:=bT hS hb;have hbd:=ah (Below.refl _ w4).drew hb;have hIDS:=hIDS.row jP mDe;refine ⟨_,rfl,hS,?_⟩;(try clear hb);refine ar ?_;refine aj ?_;simp only [aO,bj];obtain ⟨w5,rfl⟩:∃ u,u=wn:=⟨_,rfl⟩;have HBD:=aa hbd;have HIDS:=aa hIDS;have z7:=(hbd.heap_of F0.is);have z7:=ae z7 7;clear hS hS5 hbd hIDS;have q0:=Int.lt_tmod_of_pos a4 (b:=2) mDe;have q1:=Int.tmod_lt_of_pos a4 (b:=2) mDe;obtain ⟨r2,hr2⟩:∃ r:Int,a4.tmod 2=r:=⟨_,rfl⟩;rw [hr2] at q0 q1
  go_upto_if 88 with fail
  go_cut [15] (fun v wx=>∃ (ids:List Int) (pi:Option Addr) (ci:Nat),v=JR pi ids.length ci∧ids.length≤24∧Hid (LK jD wx (JR pi ids.length ci) ids)∧Hid (ac w4.heap.size w4 wx))
  case first =>
   by_cases h3:r2=0
   ·have t3:(r2==0)=true:=by rw [beq_iff_eq];exact h3
    have hsl:=HSL.out;clear h3;go_wp2_with fail;refine (KSH.out _ _ HBD.out).mono ?_;clear hsl;rintro _ w6 ⟨ids2,pi2,ci2,rfl,hil2,hIDT,hb6⟩;have HR6:=aa (hIDT.row jP mDe);have HB6:=aa (ah HBD.out hb6);clear hIDT hb6;go_wp2_with fail
    go_meet
    case rel=>exact ⟨ids2,pi2,ci2,rfl,hil2,HR6,HB6⟩
   ·have t3:(r2==0)=false:=by rw [beq_eq_false_iff_ne];exact h3
    clear h3;go_wp2_with fail
    go_meet
    case rel=>exact ⟨ids,pi,ci,rfl,hil,HIDS,HBD⟩
  case rest =>
   obtain ⟨ids,pi,ci,rfl,hil,HRI,HBD⟩:=hcut;have hbd:=HBD.out;have HOR:=aa (HOR.out.next hbd);have HOL:=aa (HOL.out.next hbd);have HOK:=aa (HOK.out.next hbd);refine Ki ?_;intro F1 F2 FR;have HB5:=aa (ah HB4.out hbd);obtain ⟨es,hes1,hes2⟩:=hLS.out;have kx:=Et l (rK hes1 hes2 (fun k hk=>(HKS.out k hk).2)) pl cl R (JV ⟨rg,ro,JW⟩) cr k (1+d0) fi la ids pi ci wc (HOL.out.row dH mDe) h24 (HOR.out.row df mDe) hfew hkR HRI.out hil;clear hbd z7 q0 q1 hr2 hes1 hes2 KSH HSL;go_wp2_with fail;refine kx.mono ?_;clear kx;rintro _ w7 ⟨x0,x1,x2,x3,x4,p1,p2,n1,c1,n2,c2,er,rfl,HCX,hb7⟩;have hx:=heap_alloc_new w7 (JU #[JO JP x0,JO JP x1,JO JP x2,JO JP x3,JO JP x4,JR p1 n1 c1,JR p2 n2 c2] 39);have hba:=al w7 (JU #[JO JP x0,JO JP x1,JO JP x2,JO JP x3,JO JP x4,JR p1 n1 c1,JR p2 n2 c2] 39);have hbd:=ah hb7 hba;obtain ⟨w8,hw8⟩:∃ u,u=w7.alloc (JU #[JO JP x0,JO JP x1,JO JP x2,JO JP x3,JO JP x4,JR p1 n1 c1,JR p2 n2 c2] 39):=⟨_,rfl⟩;obtain ⟨xb,hxb⟩:∃ b,b=w7.heap.size:=⟨_,rfl⟩;rw [← hw8] at hx hba hbd
   go_upto_region 15 with fail
   rw [← hw8,← hxb];rw [← hxb] at hx;have HX8:=aa (fun h=>(HCX.out h).next HOL.out.low hba);have hd:=ah hbd (Below.refl _ w8).drew;have hd8:=(Below.refl w8.heap.size w8).drew;have HX8:=aa (fun h=>(HX8.out h).next (Below.refl _ _) hd8);have HOR:=aa (HOR.out.next hd);have HOL:=aa (HOL.out.next hd);have HOK:=aa (HOK.out.next hd);have hs1:=hd.heap_of F1.is;have hs2:=hd.heap_of F2.is;have hsr:=hd.heap_of FR.is;have hsx:=hd8.heap_of hx;have hrne:w.heap.size+1 ≠ rb∧w.heap.size+2 ≠ rb:=⟨mOm,mOm⟩;have hxne:w.heap.size+1 ≠ xb∧w.heap.size+2 ≠ xb:=by
    have:=HOL.out.low.size;have:=hb7.size;have:=ay hs1;have e1:=HB5.out.size;have e2:=ay F2.is;constructor <;> omega
   have k0:(∀ j,w8.drew.cell? ⟨rb,j,JW⟩=(#[JO JP 1,JR (JV ⟨g,0,JW⟩) K.length cg]:Array Value)[j]?)∧(∀ j,w8.drew.cell? ⟨xb,j,JW⟩=(#[JO JP x0,JO JP x1,JO JP x2,JO JP x3,JO JP x4,JR p1 n1 c1,JR p2 n2 c2]:Array Value)[j]?):=⟨ae hsr,ae hsx⟩
   have k1:(∀ j,(w8.drew.setRow (w.heap.size+1) #[JO JP 1,JR (JV ⟨g,0,JW⟩) K.length cg]).cell? ⟨rb,j,JW⟩=(#[JO JP 1,JR (JV ⟨g,0,JW⟩) K.length cg]:Array Value)[j]?)∧(∀ j,(w8.drew.setRow (w.heap.size+1) #[JO JP 1,JR (JV ⟨g,0,JW⟩) K.length cg]).cell? ⟨xb,j,JW⟩=(#[JO JP x0,JO JP x1,JO JP x2,JO JP x3,JO JP x4,JR p1 n1 c1,JR p2 n2 c2]:Array Value)[j]?):=⟨ae ((fZ hrne.1).trans hsr),ae ((fZ hxne.1).trans hsx)⟩;have hs3:(w8.drew.setRow (w.heap.size+1) #[JO JP 1,JR (JV ⟨g,0,JW⟩) K.length cg]).heap[w.heap.size+2]? = JV (JU #[JO JP 0,JO JP 0,JO JP 0,JO JP 0,JO JP 0,JR JW 0 0,JR JW 0 0] 39 (0,0)):=(fZ mOm).trans hs2;have k2:(∀ j,((w8.drew.setRow (w.heap.size+1) #[JO JP 1,JR (JV ⟨g,0,JW⟩) K.length cg]).setRow (w.heap.size+2) #[JO JP x0,JO JP x1,JO JP x2,JO JP x3,JO JP x4,JR p1 n1 c1,JR p2 n2 c2]).cell? ⟨rb,j,JW⟩=(#[JO JP 1,JR (JV ⟨g,0,JW⟩) K.length cg]:Array Value)[j]?)∧(∀ j,((w8.drew.setRow (w.heap.size+1) #[JO JP 1,JR (JV ⟨g,0,JW⟩) K.length cg]).setRow (w.heap.size+2) #[JO JP x0,JO JP x1,JO JP x2,JO JP x3,JO JP x4,JR p1 n1 c1,JR p2 n2 c2]).cell? ⟨xb,j,JW⟩=(#[JO JP x0,JO JP x1,JO JP x2,JO JP x3,JO JP x4,JR p1 n1 c1,JR p2 n2 c2]:Array Value)[j]?):=⟨ae ((fZ hrne.2).trans ((fZ hrne.1).trans hsr)),ae ((fZ hxne.2).trans ((fZ hxne.1).trans hsx))⟩;clear hw8 hxb hx hba hbd hd hd8 hb7 hsr hsx;refine Jy (S:=fun u=>(∀ j,u.cell? ⟨rb,j,JW⟩=(#[JO JP 1,JR (JV ⟨g,0,JW⟩) K.length cg]:Array Value)[j]?)∧(∀ j,u.cell? ⟨xb,j,JW⟩=(#[JO JP x0,JO JP x1,JO JP x2,JO JP x3,JO JP x4,JR p1 n1 c1,JR p2 n2 c2]:Array Value)[j]?)) [(0,true),(1,true),(2,true),(3,true),(4,true),(5,true),(6,false),(7,true),(8,true),(9,false),(10,true)] k0 ?_;have hS:=k0
   iterate 6 refine aj ?_
   refine iV ⟨_,_,_,_,_,_⟩ rfl mRf (wp_store_row 33 (.tmp 2) (.tmp 107) mRf (w.heap.size+1) #[JO JP 1,JR (JV ⟨g,0,JW⟩) K.length cg] mRf mRf 33 #[JO JP 0,JR JW 0 0] hs1 mKr rfl (by simp [Value.oneCell']) ?_);refine ⟨k1,?_⟩;replace hS:=k1
   (try simp only [Act.put])
   iterate 2 refine aj ?_
   refine iV ⟨_,_,_,_,_,_⟩ rfl mRf (wp_store_row 39 (.tmp 5) (.tmp 110) mRf (w.heap.size+2) #[JO JP x0,JO JP x1,JO JP x2,JO JP x3,JO JP x4,JR p1 n1 c1,JR p2 n2 c2] mRf mRf 39 #[JO JP 0,JO JP 0,JO JP 0,JO JP 0,JO JP 0,JR JW 0 0,JR JW 0 0] hs3 mKr rfl (by simp [Value.oneCell']) ?_);refine ⟨k2,?_⟩;replace hS:=k2
   (try simp only [Act.put])
   refine aj ?_;simp only [aO,bj];clear k0 k1 k2 hS;go_wp2_with fail
   (try simp only [Exit.inBlock,Exit.then]);refine bodyPost_ret (rD results8 _ _ (w.heap.size+1) (w.heap.size+2) #[JO JP 1,JR (JV ⟨g,0,JW⟩) K.length cg] #[JO JP x0,JO JP x1,JO JP x2,JO JP x3,JO JP x4,JR p1 n1 c1,JR p2 n2 c2] rfl rfl ((fZ mOm).trans (setRow_heap _ _ _ _ _ _ hs1)) (setRow_heap _ _ _ _ _ _ hs3) rfl rfl) rfl ?_
   exact ⟨⟨1,K⟩,l,R,g,cg,pl,cl,JV ⟨rg,ro,JW⟩,cr,#[JO JP x0,JO JP x1,JO JP x2,JO JP x3,JO JP x4,JR p1 n1 c1,JR p2 n2 c2],_,rfl,⟨_,_,_,_,_,_,_,_,_,_,_,rfl⟩,⟨rfl,⟨hk1,hk3⟩,HKS.out,hLS.out,HCH.out⟩,HOK.out.boxes HB0.out hb1W hb2W _ _,HOL.out.boxes HB0.out hb1W hb2W _ _,HOR.out.boxes HB0.out hb1W hb2W _ _,fun h=>(HX8.out (by simpa using h)).boxes HB0.out hb1W hb2W _ _⟩
