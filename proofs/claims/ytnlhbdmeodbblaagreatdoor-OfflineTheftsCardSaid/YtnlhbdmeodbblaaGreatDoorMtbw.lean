/- The law OfflineThefts, as a tied card: for every input it returns true, and each argument reads as it read before; the variables of the library that it lists hold what the program's text lays (tied). -/
import Derived.Test.YtnlhbdmeodbblaaGreatDoorMtbv
import Derived.Test.YtnlhbdmeodbblaaGreatDoorCards
import Derived.Test.YtnlhbdmeodbblaaGreatDoorTie
set_option maxRecDepth 100000
set_option maxHeartbeats 16000000
set_option linter.all false
open Go.Proofs.Tryz
open Go.IntWalk renaming i64_in->aH
open Go.Lib renaming cell_of_heap->ae,hid->aa
open List renaming all_eq_true->gh,getElem?_eq_getElem->ai,getElem?_eq_some_iff->aA,mem_append->bI,mem_singleton->bE
open Nat renaming lt_of_lt_of_le->ax
open Go.RowKit renaming Below->ac,intOf->aw
open Go.Ending renaming returned->Oe
open Go.IntKind renaming i64->Oa
open Go.Obj renaming cells->Of
open Go.Value renaming int->N9,slice->Oc
open Option renaming some->Og,none->Oh
namespace Go.Proofs.YtnlhbdmeodbblaaGreatDoor
section
open Go Go.Proofs Go.RowKit Go.Maps Go.Sort Go.Lib
theorem GX(A B D:Option Addr)(n m q cA cB cD:Nat)(d0 d1 d2 d3 d4 wh dy:Int)(w:World)(hi:CaseRows w A B D n m q cD)(hwh:0<=wh/\wh<256)(hdy:0<=dy/\dy<65536)(hr:Wr.Ready w) :
  Calls prog 5 #[.agg #[Oc A n cA,Oc B m cB,Oc D q cD,N9 Oa d0,N9 Oa d1,N9 Oa d2,N9 Oa d3,N9 Oa d4],N9 .u8 wh,N9 .u16 dy] w fun e w'=>e=Oe (.bool true)/\ac w.heap.size w w':=by
 have hx:=heap_alloc_new w (Of #[Oc A n cA,Oc B m cB,Oc D q cD,N9 Oa d0,N9 Oa d1,N9 Oa d2,N9 Oa d3,N9 Oa d4] 25);have hba:=aj w (Of #[Oc A n cA,Oc B m cB,Oc D q cD,N9 Oa d0,N9 Oa d1,N9 Oa d2,N9 Oa d3,N9 Oa d4] 25);obtain⟨W,hW⟩:∃u,u=w.alloc (Of #[Oc A n cA,Oc B m cB,Oc D q cD,N9 Oa d0,N9 Oa d1,N9 Oa d2,N9 Oa d3,N9 Oa d4] 25):=⟨_,rfl⟩;rw[<-hW] at hx hba;have ks:=vT W (bC hr hba);have HI:=aa hi;have HR0:=aa hr;have HX:=aO.mk hx;have HB0:=aa hba;clear hi hr hx hba;go_enter func5,ntmps5
 go_upto_region 1 with fail
 rw[<-hW];clear hW;go_wp2_with fail;refine ks.mono ?_;clear ks;rintro _ w1⟨rfl,hb1⟩;have HB1:=aa (ah HB0.out hb1);have HX1:=aO.mk (hb1.heap_of HX.is);have HR1:=aa (bC HR0.out HB1.out);clear hb1 HX HB0
 go_upto_region 2 with fail
 refine NG w.heap.size A B D n m q cA cB cD d0 d1 d2 d3 d4 w1 _ (ae HX1.is) (Jt A B D n m q cA cB cD d0 d1 d2 d3 d4 w1 (HI.out.up HB1.out).hA (HI.out.up HB1.out).hB (HI.out.up HB1.out).hD HI.out.cap HI.out.nil HR1.out.sane.1) ?_
 intros
 rename_i r l R g cg pl cl pr cr rb xb x0 x1 x2 x3 x4 p1 n1 c1 p2 n2 c2 bo w2 hm
 have HM:=aa hm
 clear hm HX1
 cases bo
 .have HBF:=aa (ah HB1.out HM.out.low);go_wp2_with fail;go_ret;exact⟨rfl,HBF.out⟩
 obtain⟨k,st,fi,la,ids,q1,q2,e1,e2,hk,h0,hXe,hO1,hO2⟩:=HM.out.ext rfl
 obtain⟨m0,rt,hMd⟩:=NU HM.out.case_ hk h0;rw[hMd.cells] at hXe;simp only[Array.mk.injEq,List.cons.injEq,Value.int.injEq,Value.slice.injEq,and_true,true_and] at hXe;obtain⟨rfl,h1e,h2e,h3e,rfl,⟨h5e,rfl,h7e⟩,h8e,rfl,h10e⟩:=hXe;obtain rfl:=h1e.symm;obtain rfl:=h2e.symm;obtain rfl:=h3e.symm;obtain rfl:=h5e.symm;obtain rfl:=h7e.symm;obtain rfl:=h8e.symm;obtain rfl:=h10e.symm;clear h1e h2e h3e h5e h7e h8e h10e;have HMd:=aa hMd;have HC:=aa HM.out.case_;have hlen:=HC.out.len;have hfew:=HC.out.chain.few;have hsc:=HC.out.school;have hm0:=hMd.many;have hln:=hMd.few;have hB2:=ah HB1.out HM.out.low;have HR2:=aa (bC HR0.out hB2);have HOR:=aa (HM.out.roots.row dp mDe);have HOX:Hid (ExtIn (cE l R k st fi la ids) q1 q2 e1 e2 w2):=aa ⟨hO1.row (fun _=>rfl) mDe,hO2.row fH mDe⟩;have HKA:=aa (zn HM.out.keys HC.out.keys.1);have HKR:=aa (HM.out.keys.row ow mDe);have HFIT:=aa (hMd.fit mOm mOm);have HCE:=aa (fun (pl pp:Option Addr) (cl cp:Nat)=>hMd.cells pl pp cl cp);have HB2:=aa hB2;have hne:R ≠ []:=by intro e;rw[e] at hk;exact Nat.not_lt_zero _ hk
 have HCHK:=aa (ph (HC.out.chain.chk hne) (k+1))
 have KCA:Hid (∀u,ac w2.heap.size w2 u->Calls prog 13 #[.agg #[N9 Oa 1,N9 Oa st,N9 Oa fi,N9 Oa la,N9 Oa (k:Int),Oc q1 (cE l R k st fi la ids).lines.length e1,Oc q2 (cE l R k st fi la ids).proof.length e2],Oc pr R.length cr,.agg #[N9 Oa r.school,Oc (Og ⟨g,0,Oh⟩) r.keys.length cg],N9 Oa 100000] u fun e w'=>∃p c,e=Oe (.tuple #[.agg #[Oc p (fA r rt (cE l R k st fi la ids).lines).length c,N9 Oa (fE (cE l R k st fi la ids).lines),.bool (gN (cE l R k st fi la ids).lines)],N9 Oa 0])/\ar bL w' (Oc p (fA r rt (cE l R k st fi la ids).lines).length c) (fA r rt (cE l R k st fi la ids).lines)/\ac u.heap.size u w'):=aa (fun u hu=>by
  have kc:=qn (cE l R k st fi la ids) q1 q2 e1 e2 R pr cr r g cg 100000 u (HC.out.judOk HFIT.out) ⟨HOX.out.below hu,HOR.out.below hu,HKA.out.1.below hu HKA.out.2,ax HKA.out.2 hu.size,bC HR2.out hu⟩;rw[HCE.out,HMd.out.jud,DA HMd.out.jud HMd.out.at_] at kc
  exact kc)
 have KCB:Hid (∀u (pz:Option Addr) (cz:Nat),ac w2.heap.size w2 u->ar cY u (Oc pz ([rtTwo]++R.take (k+1)++[rtThree]).length cz) ([rtTwo]++R.take (k+1)++[rtThree])->Calls prog 13 #[.agg #[N9 Oa 1,N9 Oa st,N9 Oa fi,N9 Oa la,N9 Oa (k:Int),Oc q1 (cE l R k st fi la ids).lines.length e1,Oc q2 (cE l R k st fi la ids).proof.length e2],Oc pz ([rtTwo]++R.take (k+1)++[rtThree]).length cz,.agg #[N9 Oa r.school,Oc (Og ⟨g,0,Oh⟩) r.keys.length cg],N9 Oa 100000] u fun e w'=>∃p c,e=Oe (.tuple #[.agg #[Oc p (fA r rt (cE l R k st fi la ids).lines).length c,N9 Oa (fE (cE l R k st fi la ids).lines),.bool (gN (cE l R k st fi la ids).lines)],N9 Oa 0])/\ar bL w' (Oc p (fA r rt (cE l R k st fi la ids).lines).length c) (fA r rt (cE l R k st fi la ids).lines)/\ac u.heap.size u w'):=aa (fun u pz cz hu hrow=>by
  have hj2:=HMd.out.jud2 mOm mOm (roots:=[rtTwo]++R.take (k+1)++[rtThree]) (own:=R.take (k+1)) (r2:=r) hsc (Dw (fun x hx=>by rw[(HC.out.chain.each x hx).2.1,hsc]) k) (by rw[List.getElem?_take_of_lt mOm];exact HMd.out.root) (by rw[List.take_take,Nat.min_self];exact HCHK.out);have hok:=HC.out.judOk HFIT.out
  have kc:=qn (cE l R k st fi la ids) q1 q2 e1 e2 ([rtTwo]++R.take (k+1)++[rtThree]) pz cz r g cg 100000 u ⟨hok.ext,by simp only[List.length_append,List.length_take,List.length_singleton];omega,fun y hy=>by
   rcases bI.1 hy with hy|hy
   .rcases bI.1 hy with hy|hy
    .rw[bE.1 hy];exact KG
    .exact hok.roots y (List.mem_of_mem_take hy)
   .rw[bE.1 hy];exact GN,hok.keys,hok.secrets,hok.school⟩ ⟨HOX.out.below hu,hrow,HKA.out.1.below hu HKA.out.2,ax HKA.out.2 hu.size,bC HR2.out hu⟩
  rw[HCE.out,hj2.1,DA hj2.1 hj2.2] at kc
  exact kc)
 have KCS:Hid (∀u (g2 cg2:Nat) (j:Nat) (ke:bG) (day:Int),ac w2.heap.size w2 u->r.keys[j]? = Og ke->ar fp u (Oc (Og ⟨g2,0,Oh⟩) (dr r j ke day).keys.length cg2) (dr r j ke day).keys->Calls prog 13 #[.agg #[N9 Oa 1,N9 Oa st,N9 Oa fi,N9 Oa la,N9 Oa (k:Int),Oc q1 (cE l R k st fi la ids).lines.length e1,Oc q2 (cE l R k st fi la ids).proof.length e2],Oc pr R.length cr,.agg #[N9 Oa r.school,Oc (Og ⟨g2,0,Oh⟩) (dr r j ke day).keys.length cg2],N9 Oa 100000] u fun e w'=>∃p c,e=Oe (.tuple #[.agg #[Oc p (ip (cE l R k st fi la ids) R (dr r j ke day) 100000).ents.length c,N9 Oa (ip (cE l R k st fi la ids) R (dr r j ke day) 100000).hidden,.bool (ip (cE l R k st fi la ids) R (dr r j ke day) 100000).clean],N9 Oa (dS (cE l R k st fi la ids) R (dr r j ke day) 100000)])/\ar bL w' (Oc p (ip (cE l R k st fi la ids) R (dr r j ke day) 100000).ents.length c) (ip (cE l R k st fi la ids) R (dr r j ke day) 100000).ents/\ac u.heap.size u w'):=aa (fun u g2 cg2 j ke day hu hj hrow=>by
  have hlk:0<(dr r j ke day).keys.length:=by show 0<(r.keys.set j _).length;rw[List.length_set];exact HC.out.keys.1
  have hk2:=pm hrow hlk;have kc:=qn (cE l R k st fi la ids) q1 q2 e1 e2 R pr cr (dr r j ke day) g2 cg2 100000 u (HC.out.stolenOk HFIT.out hj) ⟨HOX.out.below hu,HOR.out.below hu,hk2.1,hk2.2,bC HR2.out hu⟩;rw[HCE.out] at kc
  exact kc)
 clear hO1 hO2 hB2 hMd hne h0
 obtain⟨LN,hLN⟩:∃z,z=(cE l R k st fi la ids).lines.length:=⟨_,rfl⟩;obtain⟨PN,hPN⟩:∃z,z=(cE l R k st fi la ids).proof.length:=⟨_,rfl⟩;have HXB:=aa HM.out.xbox;have HRB:=aa HM.out.rbox
 have HSV:Hid (∀(L:List Ent)(hv:Int)(cv:Bool)(p p':Option Addr)(c c':Nat) u,ar bL u (Oc p L.length c) L->ar bL u (Oc p' L.length c') L->L.length<=1000000->Calls prog 17 #[.agg #[Oc p L.length c,N9 Oa hv,.bool cv],.agg #[Oc p' L.length c',N9 Oa hv,.bool cv]] u fun e w'=>e=Oe (.bool true)/\ac u.heap.size u w'):=aa (fun L hv cv p p' c c' u h1 h2 h3=>by
  refine(oK ⟨L,hv,cv⟩ ⟨L,hv,cv⟩ p p' c c' u h1 h2 h3).mono ?_;rintro e w'⟨t,rfl,ht,hb⟩;obtain rfl:t=true:=ht.2 rfl
  exact⟨rfl,hb⟩)
 have hEl:(fA r rt (cE l R k st fi la ids).lines).length<=24:=by unfold fA;exact Nat.le_trans (List.length_filterMap_le _ _) mOm
 have HV0:Hid (∀r2,dS (cE l R k st fi la ids) R r2 100000=0->ip (cE l R k st fi la ids) R r2 100000=⟨fA r2 rt (cE l R k st fi la ids).lines,fE (cE l R k st fi la ids).lines,gN (cE l R k st fi la ids).lines⟩):=aa (fun r2 h=>DA h HMd.out.at_)
 have HLATE:Hid (∀j ke day,r.keys[j]? = Og ke->1<=day->day<=100000->ke.fro<=day->rt.day<day->dS (cE l R k st fi la ids) R (dr r j ke day) 100000=0/\fA (dr r j ke day) rt (cE l R k st fi la ids).lines=fA r rt (cE l R k st fi la ids).lines):=aa (fun j ke day hj a1 a2 a3 a4=>⟨(HMd.out.jud2 mOm mOm (r2:=dr r j ke day) (own:=R) hsc (sP fun x hx=>by rw[(HC.out.chain.each x hx).2.1,hsc]) HMd.out.root (HC.out.late HMd.out.root hj a1 a2 a3 a4)).1,G3 hj a1 a4 _⟩);have HLESS:Hid (∀j ke day,r.keys[j]? = Og ke->1<=day->(fA (dr r j ke day) rt (cE l R k st fi la ids).lines).length<=(fA r rt (cE l R k st fi la ids).lines).length/\(day<=rt.day->∀y∈fA (dr r j ke day) rt (cE l R k st fi la ids).lines,cw r.keys y.key≠j)):=aa (fun j ke day hj a1=>⟨zS hj a1 _ _,fun hs y hy=>Jc hj a1 hs _ hy⟩);generalize fA r rt (cE l R k st fi la ids).lines=EV at *;generalize (fE (cE l R k st fi la ids).lines:Int)=hv at *;generalize gN (cE l R k st fi la ids).lines=cv at *
 go_upto_region 5 with fail
 refine NH rb xb r.school g cg r.keys pr R.length cr 1 st fi la (k:Int) q1 q2 (cE l R k st fi la ids).lines.length e1 (cE l R k st fi la ids).proof.length e2 EV hv 0 cv w2 _ HRB.out.2 HXB.out.2 (KCA.out w2 (Below.refl _ _)) ?_
 intros
 rename_i vb pe ce w3 h5
 obtain⟨h5b,h5l,h5c,h5r⟩:=h5
 have H5C:=aa h5c;have H5R:=aa h5r;have HB3:=aa h5b;clear h5b h5c h5r
 go_upto_region 6 with fail
 refine NI rb xb r.school g cg r.keys pr R.length cr k R 1 st fi la q1 q2 (cE l R k st fi la ids).lines.length e1 (cE l R k st fi la ids).proof.length e2 EV hv 0 cv w3 _ (gp HB3.out HRB.out.1 HRB.out.2) (gp HB3.out HXB.out.1 HXB.out.2) ⟨ax HRB.out.1 HB3.out.size,ax HXB.out.1 HB3.out.size⟩ rfl (by have:=(aA.1 HMd.out.root).1;omega) mOm (HOR.out.below HB3.out) (fun u pz cz hu hrow=>KCB.out u pz cz (ah HB3.out hu) hrow) ?_
 intros
 rename_i w4 b4 p4 c4 hr4 hlo4 hx4 hb4
 have HB4:=aa (ah HB3.out hb4)
 have H5R:=aa (H5R.out.below hb4);have H5C:=aa (gp hb4 h5l H5C.out);have h5l4:=ax h5l hb4.size;have v0:w4.cell? ⟨vb,0,Oh⟩=Og (Oc pe EV.length ce):=H5C.out 0;have v1:w4.cell? ⟨vb,1,Oh⟩=Og (N9 Oa hv):=H5C.out 1;have v2:w4.cell? ⟨vb,2,Oh⟩=Og (.bool cv):=H5C.out 2;have y0:w4.cell? ⟨b4,0,Oh⟩=Og (Oc p4 EV.length c4):=ae hx4 0;have y1:w4.cell? ⟨b4,1,Oh⟩=Og (N9 Oa hv):=ae hx4 1;have y2:w4.cell? ⟨b4,2,Oh⟩=Og (.bool cv):=ae hx4 2;have ksame:=HSV.out EV hv cv pe p4 ce c4 w4 H5R.out hr4 mOm;clear hb4 hx4 hlo4 hr4;go_wp2_with fail;refine ksame.mono ?_;clear ksame v0 v1 v2 y0 y1 y2;rintro _ w5⟨rfl,hb5⟩;have HB5:=aa (ah HB4.out hb5);have H5R:=aa (H5R.out.below hb5);have H5C:=aa (gp hb5 h5l4 H5C.out);have h5l5:=ax h5l4 hb5.size;clear hb5;have hkl:=HC.out.keys;obtain⟨j,hj,hjl⟩:∃j:Nat,wh%(r.keys.length:Int)=(j:Int)/\j<r.keys.length:=by have a1:=Int.emod_nonneg wh (b:=(r.keys.length:Int)) mOm;have a2:=Int.emod_lt_of_pos wh (b:=(r.keys.length:Int)) mOm;exact⟨(wh%(r.keys.length:Int)).toNat,mOm,mOm⟩
 go_upto_region 9 with fail
 refine NJ rb wh r.school g cg r.keys j w5 _ (gp HB5.out HRB.out.1 HRB.out.2) hwh ⟨hkl.1,mOm⟩ hj ?_
 intros
 obtain⟨dm,hdm⟩:∃z,dy%700=z:=⟨_,rfl⟩
 have hdm0:0<=dm/\dm<700:=mOm;have hje:=ai hjl;generalize r.keys[j]=kj at *;have HKID:Hid (∀u,ac w2.heap.size w2 u->u.cell? ⟨g,j*4,Oh⟩=Og (N9 Oa kj.id)):=aa (fun u hu=>(HKA.out.1.below hu HKA.out.2) j kj hje 0 _ rfl)
 go_upto_region 10 with fail
 refine Nc rb dy dm r.school g cg r.keys j kj.id w5 _ (gp HB5.out HRB.out.1 HRB.out.2) ⟨ax HRB.out.1 HB5.out.size,ax HKA.out.2 HB5.out.size⟩ hjl hdy hdm (HKID.out w5 HB5.out) (fun u hu=>Et r.school r.keys g cg kj.id (1+dm) u (HKR.out.below (ah HB5.out hu)) mOm hkl.1) ?_
 intros
 rename_i w6 sb s2 ps K2 cs2 er2 hrk hok hlo6 hx6 hb6
 have HB6:=aa (ah HB5.out hb6)
 have H5R:=aa (H5R.out.below hb6);have H5C:=aa (gp hb6 h5l5 H5C.out);have h5l6:=ax h5l5 hb6.size;have SB:=aO.mk hx6;have HRK:=aa hrk;clear hb6 hx6 hlo6 hrk;by_cases he2:er2=0
 rotate_left 1
 .have t1:(er2 != 0)=true:=by rw[bne_iff_ne];exact he2
  have HBF:=aa (ah HB2.out HB6.out);clear he2;go_wp2_with fail;go_ret;exact⟨rfl,HBF.out⟩
 obtain⟨-,hs2,⟨g2,hps⟩,ke,hke,hd1,hd2,hd3,hK2⟩:=hok.out he2
 have hring:(⟨r.school,r.keys⟩:bH)=r:=by cases r;rfl
 rw[hring] at hs2 hke hK2;subst he2;subst hps;subst hK2;subst hs2;obtain⟨j2,hj2⟩:∃z,z=cw r.keys kj.id:=⟨_,rfl⟩;rw[<-hj2] at hke;have HKE:=aa hke;have HJ2:=aa hj2;rw[<-hj2] at HRK SB;have hx13:=SB.is;have KC13:=KCS.out w6 g2 cs2 j2 ke (1+dm) HB6.out HKE.out HRK.out;obtain⟨rg,ro,hpr,hrg,hrr⟩:=dh (kk:=7) HOR.out dp rfl mOm;subst hpr;have HDAY:Hid (∀u,ac w2.heap.size w2 u->u.cell? ⟨rg,ro+k*7+2,Oh⟩=Og (N9 Oa rt.day)):=aa (fun u hu=>(hu.cell (p:=⟨rg,ro+k*7+2,Oh⟩) hrg).trans (hrr k rt HMd.out.root 2 _ rfl));have hkR:=(aA.1 HMd.out.root).1;have k0:(0:Int)<=(k:Int):=mOm;have k1:(k:Int)<(R.length:Int):=mOm;have w1d:IntKind.i64.wrap dy=dy:=aH _ mOm;have w2d:Int.tmod dy 700=dm:=by rw[Int.tmod_eq_emod_of_nonneg hdy.1];exact hdm
 have w3d:IntKind.i64.wrap (1+dm)=1+dm:=aH _ mOm;have w4d:IntKind.i64.wrap dm=dm:=aH _ mOm;have HDM:=aa hdm
 go_upto_region 13 with fail
 clear hok hj2 hke hrr hdm;by_cases hlate:rt.day<1+dm
 .have hL:=HLATE.out j2 ke (1+dm) HKE.out hd1 hd2 hd3 hlate;have hV2:ip (cE l R k st fi la ids) R (dr r j2 ke (1+dm)) 100000=⟨EV,hv,cv⟩:=by rw[HV0.out _ hL.1,hL.2]
  rw[hV2,hL.1] at KC13;clear hV2 hL;refine I7 sb xb r.school g2 cs2 (dr r j2 ke (1+dm)).keys (Og ⟨rg,ro,Oh⟩) R.length cr 1 st fi la (k:Int) q1 q2 (cE l R k st fi la ids).lines.length e1 (cE l R k st fi la ids).proof.length e2 EV hv 0 cv w6 _ (ae hx13) (gp HB6.out HXB.out.1 HXB.out.2) KC13 ?_
  intros
  rename_i vb2 pe2 ce2 w7 h13
  obtain⟨h13b,h13l,h13c,h13r⟩:=h13
  have HB7:=aa (ah HB6.out h13b);have x4:w7.cell? ⟨xb,4,Oh⟩=Og (N9 Oa (k:Int)):=(gp HB7.out HXB.out.1 HXB.out.2) 4;have dday:=HDAY.out w7 HB7.out;have t5:decide (rt.day<1+dm)=true:=decide_eq_true hlate;have v0:w7.cell? ⟨vb,0,Oh⟩=Og (Oc pe EV.length ce):=(h13b.cell (p:=⟨vb,0,Oh⟩) h5l6).trans (H5C.out 0);have v1:w7.cell? ⟨vb,1,Oh⟩=Og (N9 Oa hv):=(h13b.cell (p:=⟨vb,1,Oh⟩) h5l6).trans (H5C.out 1);have v2:w7.cell? ⟨vb,2,Oh⟩=Og (.bool cv):=(h13b.cell (p:=⟨vb,2,Oh⟩) h5l6).trans (H5C.out 2);have y0:w7.cell? ⟨vb2,0,Oh⟩=Og (Oc pe2 EV.length ce2):=h13c 0;have y1:w7.cell? ⟨vb2,1,Oh⟩=Og (N9 Oa hv):=h13c 1;have y2:w7.cell? ⟨vb2,2,Oh⟩=Og (.bool cv):=h13c 2;have ksame:=HSV.out EV hv cv pe2 pe ce2 ce w7 h13r (H5R.out.below h13b) mOm;clear hlate KC13 h13b h13c h13r hx13;go_wp2_with fail;refine ksame.mono ?_;clear ksame v0 v1 v2 y0 y1 y2 dday x4;rintro _ w8⟨rfl,hb8⟩;have HBF:=aa (ah HB2.out (ah HB7.out hb8));clear hb8;go_wp2_with fail;go_ret;exact⟨rfl,HBF.out⟩
 have hless:=HLESS.out j2 ke (1+dm) HKE.out hd1
 have HV2:=aa (HV0.out (dr r j2 ke (1+dm)));obtain⟨V2,hV2⟩:∃v,v=ip (cE l R k st fi la ids) R (dr r j2 ke (1+dm)) 100000:=⟨_,rfl⟩;obtain⟨er3,her3⟩:∃v,v=dS (cE l R k st fi la ids) R (dr r j2 ke (1+dm)) 100000:=⟨_,rfl⟩;rw[<-hV2,<-her3] at KC13
 have HV3:Hid (er3=0->V2.ents.length<=EV.length/\∀y∈V2.ents,cw r.keys y.key≠j2):=aa (fun h=>by
  rw[her3] at h;have e:=HV2.out h;rw[<-hV2] at e;rw[e]
  exact⟨hless.1,fun y hy=>hless.2 mOm y hy⟩)
 obtain⟨EV2,hv2,cv2⟩:=V2
 simp only at KC13 HV3;clear hV2 her3 hless;refine I7 sb xb r.school g2 cs2 (dr r j2 ke (1+dm)).keys (Og ⟨rg,ro,Oh⟩) R.length cr 1 st fi la (k:Int) q1 q2 (cE l R k st fi la ids).lines.length e1 (cE l R k st fi la ids).proof.length e2 EV2 hv2 er3 cv2 w6 _ (ae hx13) (gp HB6.out HXB.out.1 HXB.out.2) KC13 ?_
 intros
 rename_i vb2 pe2 ce2 w7 h13
 obtain⟨h13b,h13l,h13c,h13r⟩:=h13
 have HB7:=aa (ah HB6.out h13b);have x4:w7.cell? ⟨xb,4,Oh⟩=Og (N9 Oa (k:Int)):=(gp HB7.out HXB.out.1 HXB.out.2) 4;have dday:=HDAY.out w7 HB7.out;have t5:decide (rt.day<1+dm)=false:=decide_eq_false hlate;have H13C:=aa h13c;have H13R:=aa h13r;have HVB:Hid (∀j,w7.cell? ⟨vb,j,Oh⟩=(#[Oc pe EV.length ce,N9 Oa hv,.bool cv]:Array Value)[j]?):=aa (gp h13b h5l6 H5C.out);have hvl7:=ax h5l6 h13b.size;clear hlate KC13 h13b h13c h13r hx13;by_cases he3:er3=0
 rotate_left 1
 .have t6:(er3 != 0)=true:=by rw[bne_iff_ne];exact he3
  have HBF:=aa (ah HB2.out HB7.out);clear he3;go_wp2_with fail;go_ret;exact⟨rfl,HBF.out⟩
 obtain⟨hle,hnk⟩:=HV3.out he3
 subst he3;have HNK:=aa hnk;clear hnk HV3;go_wp2_with fail
 go_loopw [23] (fun i wr=>∃i':Nat,i'<=EV2.length/\i=N9 Oa i'/\ac w7.heap.size w7 wr) (fun i _=>EV2.length-(aw i).toNat)
 case atStart=>exact⟨0,Nat.zero_le _,rfl,Below.refl _ _⟩
 case round =>
  obtain⟨i',hi',rfl,hb⟩:=hrel;have y0:wr.cell? ⟨vb2,0,Oh⟩=Og (Oc pe2 EV2.length ce2):=(hb.cell (p:=⟨vb2,0,Oh⟩) h13l).trans (H13C.out 0);by_cases hlt:i'<EV2.length
  .have hge:=ai hlt;have hmem:=List.getElem_mem hlt;generalize EV2[i']=y at *;have hkk:(y.key==kj.id)=false:=by
    rw[beq_eq_false_iff_ne];intro e;exact HNK.out y hmem (by rw[e];exact HJ2.out.symm)
   have i1:(i':Int)<(EV2.length:Int):=mOm
   have HB:=aa hb;have HGE:=aa hge;clear hge hmem hb
   go_upto_region 22 with fail
   refine Nd rb vb2 i' j r.school g cg r.keys pe2 ce2 EV2 hv2 cv2 y kj.id wr _ (gp (ah HB7.out HB.out) HRB.out.1 HRB.out.2) (gp HB.out h13l H13C.out) (H13R.out.below HB.out) HGE.out hjl (HKID.out wr (ah HB7.out HB.out)) ?_
   intros
   rename_i w9 hb9
   have HB9:=aa (ah HB.out hb9)
   rw[hkk];clear hb9 y0;go_wp2_with fail
   go_roundw
   case rel=>exact⟨i'+1,mOm,by go_num,HB9.out⟩
   case measure=>simp[aw];omega
  .obtain rfl:i'=EV2.length:=mOm;have i1:¬(EV2.length:Int)<(EV2.length:Int):=mOm;have v0:wr.cell? ⟨vb,0,Oh⟩=Og (Oc pe EV.length ce):=(hb.cell (p:=⟨vb,0,Oh⟩) hvl7).trans (HVB.out 0);have t7:decide ((EV2.length:Int)<=(EV.length:Int))=true:=decide_eq_true mOm;have t8:(EV2.length:Int)<=(EV.length:Int):=mOm;have HBF:=aa (ah HB2.out (ah HB7.out hb));clear hb;go_wp2_with fail;go_ret;exact⟨rfl,HBF.out⟩
end
section
open Go Go.ChangeShapes Go.WideShapes Go.ChangeAt Go.WideElems Go.RowKit Go.Lib
def Lc:Array Value:=#[.agg #[.slice none 0 0,.slice none 0 0,.slice none 0 0,.int .i64 0,.int .i64 0,.int .i64 0,.int .i64 0,.int .i64 0],.int .u8 0,.int .u16 0]
theorem tT(os:Os)(started:os.Started)(H:Type)(enc:TypeId×Value->H) :
  ReturnsInHanded {} Tryz.checked os 5 .any (fun w args=>(Rows.offlineTheftsSpec.pre enc prog Tryz.f5 [] false w args/\laidMetH prog laidRow w)/\sizedMet enc prog Tryz.f5 (OpenSpec.ofChange Rows.offlineTheftsSpec) false w args)
   (Rows.offlineTheftsSpec.post enc prog Tryz.f5 false true false false):=by
 refine ld (C:=Tryz.checked) (X:=fun w _=>laidMetH prog laidRow w) (fun _ _ _ hh h=>h.of_heap hh) own started mKr func5
  (ChangeSpec.witness_shaped (enc:=enc) (C:=Tryz.checked) (os:=os) (X:=fun w _=>laidMetH prog laidRow w) false (World.doorLaid prog 4000 os) Lc 8 rfl (World.shaped_of_RefB mKr mKr) mKr mKr mKr (Cu os _)) ?_
 intro W base args ds gs before hval0 hW _ hsz0 hL hsh _
 have hval:∀(j:Nat) t v,Tryz.f5.params[j]? = some t->args[j]? = some v->Value.okWide prog W .any base t v:=hval0;have hW':=hW;obtain⟨p,q,hA0,hV,rfl,hfz,hnd⟩:=hW;have hA:DataW.TrodAll enc prog W 0 (fun _=>true) true Tryz.f5.params.toList args.toList ds p:=hA0;have hA2:=hA;obtain⟨rfl,rfl⟩:=trodVars_none hV;simp only[List.append_nil] at hW' hsz0;rw[params5] at hA2 hval;obtain⟨v0,v1,v2,d0,d1,d2,p0,p1,p2,rfl,rfl,rfl,h0,h1,h2⟩:=trodAll_three hA2
 have hsw:∀z∈d0.weights prog 25,z<=reachBytes:=fun z hz=>by
  have:=gh.1 hsz0 _ (DataW.weights_mem_each (j:=0) (t:=25) (d:=d0) (by rw[params5];rfl) rfl z hz)
  simpa using this
 obtain⟨A,B,D,n,m,q,cA,cB,cD,q0,q1,q2,q3,q4,rfl,gA,gB,gD,gc,gn⟩:=Eb h0 (hval 0 25 v0 rfl rfl) hsw
 obtain⟨wh,rfl,rfl,rfl,wwh⟩:=open_int underlying5 (hval 1 5 v1 rfl rfl) h1;obtain⟨dy,rfl,rfl,rfl,wdy⟩:=open_int underlying74 (hval 2 74 v2 rfl rfl) h2;refine(GX A B D n m q cA cB cD q0 q1 q2 q3 q4 wh dy W ⟨gA,gB,gD,gc,gn⟩ (E1 wwh) (K6 wdy) (C8 hL hsh)).mono fun e W' ⟨he,hbe⟩=>?_
 subst he;exact⟨_,rfl,CU AJ (by rw[params5];decide +kernel) rfl mKr underlying4 rfl hW' hA hbe⟩
theorem uC:Rows.OfflineTheftsSaid:=
 OpenClaim.holds_of_wide 5 Tryz.f5 rfl rfl rfl rfl rfl rfl rfl ⟨rfl,rfl,rfl,rfl,rfl⟩ rfl rfl rfl rfl rfl mKr func5 tS
  (of_decide_eq_true mKr) (by unfold Func.isWrapper;first|(rw[if_pos (by decide +kernel)];kernel_rfl)|(rw[if_neg (by decide +kernel)];exact⟨rfl,rfl⟩))
  (fun os started H enc _=>tT os started H enc)
end
section
open Go
theorem offlineThefts_card:Rows.OfflineTheftsCardSaid:=
 Claim7.holds_tied_plain_at .later [] [.data,.data,.data,.sentinel,.sentinel] true Rows.offlineTheftsCard.stood.harness true
  uC (fun _ h=>by cases h) mKr (fun _ h=>by cases h) offlineThefts_row_tie rfl ⟨rfl,rfl⟩ mKr rfl
  (fun f fn hf hfn=>by
   obtain rfl : f = 5 := Option.some.inj ((show prog.funcNamed "quadrivium/quadriviumlaw23.OfflineThefts" = some 5 by kernel_rfl).symm.trans hf) |>.symm
   obtain rfl:fn=Tryz.f5:=(Option.some.inj (func5.symm.trans hfn)).symm
   exact⟨mKr,fun j t ht=>by
    rw[params5] at ht;have hm:t∈[25,5,74]:=by simpa using Array.mem_of_getElem? ht
    have hall:([25,5,74].all fun u=>!Tryz.prog.wantsStandIn u)=true:=mKr
    exact(show prog.wantsStandIn t=false by simpa using gh.1 hall t hm)⟩)
  mKr
