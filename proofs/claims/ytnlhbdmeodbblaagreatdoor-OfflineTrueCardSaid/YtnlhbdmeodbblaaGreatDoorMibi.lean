/- The law OfflineTrue, as a tied card: for every input it returns true, and each argument reads as it read before; the variables of the library that it lists hold what the program's text lays (tied). -/
import Derived.Test.YtnlhbdmeodbblaaGreatDoorMibf
import Derived.Test.YtnlhbdmeodbblaaGreatDoorMibg
import Derived.Test.YtnlhbdmeodbblaaGreatDoorMiak
import Derived.Test.YtnlhbdmeodbblaaGreatDoorCards
import Derived.Test.YtnlhbdmeodbblaaGreatDoorTie
set_option maxRecDepth 100000
set_option maxHeartbeats 16000000
set_option linter.all false
open Go.Proofs.Tryz
open Go.Lib renaming hid→aa
open List renaming all_eq_true→ep
open Nat renaming lt_of_lt_of_le→av
open Go.Ending renaming returned→JT
open Go.IntKind renaming i64→JP
open Go.Obj renaming cells→JU
open Go.Value renaming int→JO,string→JQ,slice→JR
open Option renaming some→JV,none→JW
namespace Go.Proofs.YtnlhbdmeodbblaaGreatDoor
section
open Go Go.Proofs Go.RowKit Go.Maps Go.Sort Go.Lib
theorem Gh (A B D:Option Addr) (n m q cA cB cD:Nat) (d0 d1 d2 d3 d4:Int) (w:World) (hi:CaseRows w A B D n m q cD) (hr:Wr.Ready w) :
  Calls prog 4 #[.agg #[JR A n cA,JR B m cB,JR D q cD,JO JP d0,JO JP d1,JO JP d2,JO JP d3,JO JP d4]] w fun e w'=>e=JT (.bool true)∧RowKit.Below w.heap.size w w':=by
 have hx:=heap_alloc_new w (JU #[JR A n cA,JR B m cB,JR D q cD,JO JP d0,JO JP d1,JO JP d2,JO JP d3,JO JP d4] 25);have hba:=al w (JU #[JR A n cA,JR B m cB,JR D q cD,JO JP d0,JO JP d1,JO JP d2,JO JP d3,JO JP d4] 25);obtain ⟨W,hW⟩:∃ u,u=w.alloc (JU #[JR A n cA,JR B m cB,JR D q cD,JO JP d0,JO JP d1,JO JP d2,JO JP d3,JO JP d4] 25):=⟨_,rfl⟩;rw [← hW] at hx hba;have ks:=yR W (bz hr hba);have HI:=aa hi;have HR0:=aa hr;have HX:=LP.mk hx;have HB0:=aa hba;clear hi hr hx hba;go_enter func4,ntmps4
 go_upto_region 1 with fail
 rw [← hW];clear hW;go_wp2_with fail;refine ks.mono ?_;clear ks;rintro _ w1 ⟨rfl,hb1⟩;have HB1:=aa (ah HB0.out hb1);have HX1:=LP.mk (hb1.heap_of HX.is);have HR1:=aa (bz HR0.out HB1.out);clear hb1 HX HB0
 go_upto_region 2 with fail
 refine IP w.heap.size A B D n m q cA cB cD d0 d1 d2 d3 d4 w1 _ (Lib.cell_of_heap HX1.is) (EG A B D n m q cA cB cD d0 d1 d2 d3 d4 w1 (HI.out.up HB1.out).hA (HI.out.up HB1.out).hB (HI.out.up HB1.out).hD HI.out.cap HI.out.nil HR1.out.sane.1) ?_
 intros
 rename_i r l R g cg pl cl pr cr rb xb x0 x1 x2 x3 x4 p1 n1 c1 p2 n2 c2 bo w2 hm
 have HM:=aa hm
 clear hm HX1
 cases bo
 ·have HBF:=aa (ah HB1.out HM.out.low);go_wp2_with fail;go_ret;exact ⟨rfl,HBF.out⟩
 obtain ⟨k,st,fi,la,ids,q1,q2,e1,e2,hk,h0,hXe,hO1,hO2⟩:=HM.out.ext rfl
 obtain ⟨m0,rt,hMd⟩:=Jm HM.out.case_ hk h0;rw [hMd.cells] at hXe;simp only [Array.mk.injEq,List.cons.injEq,Value.int.injEq,Value.slice.injEq,and_true,true_and] at hXe;obtain ⟨rfl,h1e,h2e,h3e,rfl,⟨h5e,rfl,h7e⟩,h8e,rfl,h10e⟩:=hXe;obtain rfl:=h1e.symm;obtain rfl:=h2e.symm;obtain rfl:=h3e.symm;obtain rfl:=h5e.symm;obtain rfl:=h7e.symm;obtain rfl:=h8e.symm;obtain rfl:=h10e.symm;clear h1e h2e h3e h5e h7e h8e h10e;have HMd:=aa hMd;have hlen:=HM.out.case_.len;have hfew:=HM.out.case_.chain.few;have hm0:=hMd.many;have hln:=hMd.few;have hB2:=ah HB1.out HM.out.low;have hrd2:=bz HR0.out hB2;have hrowR:=HM.out.roots.row df mDe;have hrowE:=HM.out.ents.row dH mDe;have hrowL:=hO1.row (fun _=>rfl) mDe;have hka:=uy HM.out.keys HM.out.case_.keys.1;have kc:=wi (d5 l R k st fi la ids) q1 q2 e1 e2 R pr cr r g cg 100000 w2 (HM.out.case_.judOk (hMd.fit mOm mOm)) ⟨⟨hrowL,hO2.row eW mDe⟩,hrowR,hka.1,hka.2,hrd2⟩;rw [hMd.cells,hMd.jud] at kc;have hT:=hMd.tally;have hHas:=fun y hy hq hi=>hMd.has (y:=y) hy hq hi
 have hEl:(gw (d5 l R k st fi la ids) R r 100000).ents.length≤24:=by rw [hT.1];unfold shQ;refine Nat.le_trans (List.length_filter_le _ _) ?_;rw [List.length_take];omega
 have hOp:∀ y∈l.take m0,inQ st fi la y=true→kG (dE y) (d5 l R k st fi la ids).lines=decide (y.id∈ids):=fun y hy hq=>hMd.open_ hy hq
 have HOR:=aa hrowR;have HOE:=aa hrowE;have HOL:=aa hrowL;have HKA:=aa hka;have HB2:=aa hB2;have HR2:=aa hrd2;generalize gw (d5 l R k st fi la ids) R r 100000=V at *;obtain ⟨EV,hv,cv⟩:=V;simp only at kc hT hHas hEl;have HT:=aa hT;have HHas:=aa hHas;have HOp:=aa hOp;clear hk h0 hO1 hO2 hrowR hrowE hrowL hka hB2 hrd2 hT hHas hOp hMd
 go_upto_region 5 with fail
 refine IR rb xb r.school g cg r.keys pr R.length cr 1 st fi la (k:Int) q1 q2 (d5 l R k st fi la ids).lines.length e1 (d5 l R k st fi la ids).proof.length e2 EV hv 0 cv w2 _ HM.out.rbox.2 HM.out.xbox.2 kc ?_
 intros
 rename_i vb pe ce w3 h5
 clear kc
 obtain ⟨h5b,h5l,h5c,h5r⟩:=h5;have H5C:=aa h5c;have H5R:=aa h5r;have HB3:=aa h5b;clear h5b h5c h5r
 go_upto_region 8 with fail
 refine IS xb 1 st fi la k q1 q2 (d5 l R k st fi la ids).lines.length e1 (d5 l R k st fi la ids).proof.length e2 pr R.length cr R rt w3 _ (gK HB3.out HM.out.xbox.1 HM.out.xbox.2) rfl (HOR.out.below HB3.out) HMd.out.root ?_
 intros
 rename_i ab w4 h8
 obtain ⟨h8b,h8l,h8c⟩:=h8
 have HB4:=aa (ah HB3.out h8b);have H8C:Hid (∀ i,w4.cell? ⟨ab,i,JW⟩=(#[JO JP rt.school,JO JP (m0:Int),JO JP rt.day,JQ rt.tree,JQ rt.before,JO JP rt.key,JQ rt.mark]:Array Value)[i]?):=aa (by rw [← HMd.out.size];exact h8c);have H5R:=aa (H5R.out.below h8b);have H5C:=aa (gK h8b h5l H5C.out);have h5l4:=av h5l h8b.size;clear h8b h8c
 go_upto_block 0 with fail
 refine IN rb xb vb ab r.school g cg r.keys 1 st fi la (k:Int) q1 q2 (d5 l R k st fi la ids).lines.length e1 (d5 l R k st fi la ids).proof.length e2 (d5 l R k st fi la ids).lines l pl l.length cl m0 rt rt.school rt.key rt.tree rt.before rt.mark ids EV pe ce hv cv w4 _ rfl rfl
  ⟨⟨hm0,mOm,mOm,mOm⟩,fun y hy=>(HMd.out.each y hy).1,HOp.out,HHas.out,HOE.out.below HB4.out,HOL.out.below HB4.out,H5R.out,⟨HKA.out.1.below HB4.out HKA.out.2,av HKA.out.2 HB4.out.size,by have:=HM.out.case_.keys.2;omega,fun k hk=>by have:=(HM.out.case_.sec k hk).1;omega,by rw [HM.out.case_.school];exact ⟨mDe,mDe⟩⟩,bz HR2.out HB4.out⟩
  ⟨av HM.out.rbox.1 HB4.out.size,av HM.out.xbox.1 HB4.out.size,h5l4,h8l⟩ (gK HB4.out HM.out.rbox.1 HM.out.rbox.2) (gK HB4.out HM.out.xbox.1 HM.out.xbox.2) H5C.out H8C.out ?_
 intros
 rename_i w5 hb5
 obtain ⟨t1,t2,t3⟩:=HT.out
 have hring:(⟨r.school,r.keys⟩:LR)=r:=by cases r;rfl
 rw [hring,← t1,← t3];obtain ⟨hn,hhn⟩:∃ z:Nat,nh st fi la ids (l.take m0)=z:=⟨_,rfl⟩;rw [hhn];have hv2:hv=(hn:Int):=by rw [t2,hhn]
 subst hv2;have v0:w5.cell? ⟨vb,0,JW⟩=JV (JR pe EV.length ce):=(hb5.cell (p:=⟨vb,0,JW⟩) h5l4).trans (H5C.out 0);have v1:w5.cell? ⟨vb,1,JW⟩=JV (JO JP (hn:Int)):=(hb5.cell (p:=⟨vb,1,JW⟩) h5l4).trans (H5C.out 1);have v2:w5.cell? ⟨vb,2,JW⟩=JV (.bool cv):=(hb5.cell (p:=⟨vb,2,JW⟩) h5l4).trans (H5C.out 2);have b1:((EV.length:Int)==(EV.length:Int))=true:=beq_self_eq_true _;have b2:((hn:Int)==(hn:Int))=true:=beq_self_eq_true _;have b3:(cv==cv)=true:=beq_self_eq_true _;have kcm:=mX ⟨EV,(hn:Int),cv⟩ pe ce w5;have HB5:=aa (ah HB2.out (ah HB4.out hb5));clear t1 t2 t3 hring hhn hb5;go_wp2_with fail;refine kcm.mono ?_;clear kcm v0 v1 v2;rintro _ w6 ⟨rfl,hb6⟩;have HB6:=aa (ah HB5.out hb6);obtain ⟨z,hz⟩:∃ z,((hn:Int)==0)=z:=⟨_,rfl⟩;have b4:(z==z)=true:=beq_self_eq_true _;simp only [hz];clear hb6;go_wp2_with fail;go_ret;exact ⟨mSi,HB6.out⟩
end
section
open Go Go.ChangeShapes Go.WideShapes Go.ChangeAt Go.WideElems Go.RowKit Go.Lib
def Gj:Array Value:=#[.agg #[.slice none 0 0,.slice none 0 0,.slice none 0 0,.int .i64 0,.int .i64 0,.int .i64 0,.int .i64 0,.int .i64 0]]
theorem rk (os:Os) (started:os.Started) (H:Type) (enc:TypeId×Value→H) :
  ReturnsInHanded {} Tryz.checked os 4 .any (fun w args=>(Rows.offlineTrueSpec.pre enc prog f4 [] false w args∧laidMetH prog laidRow w)∧sizedMet enc prog f4 (OpenSpec.ofChange Rows.offlineTrueSpec) false w args)
   (Rows.offlineTrueSpec.post enc prog f4 false true false false):=by
 refine mC (C:=Tryz.checked) (X:=fun w _=>laidMetH prog laidRow w) (fun _ _ _ hh h=>h.of_heap hh) own started mKr func4
  (ChangeSpec.witness_shaped (enc:=enc) (C:=Tryz.checked) (os:=os) (X:=fun w _=>laidMetH prog laidRow w) false (World.doorLaid prog 4000 os) Gj 8 rfl (World.shaped_of_RefB mKr mKr) mKr mKr mKr (E1 os _)) ?_
 intro W base args ds gs before hval0 hW _ hsz0 hL hsh _
 have hval:∀ (j:Nat) t v,f4.params[j]? = some t→args[j]? = some v→Value.okWide prog W .any base t v:=hval0;have hW':=hW;obtain ⟨p,q,hA0,hV,rfl,hfz,hnd⟩:=hW;have hA:DataW.TrodAll enc prog W 0 (fun _=>true) true f4.params.toList args.toList ds p:=hA0;have hA2:=hA;obtain ⟨rfl,rfl⟩:=trodVars_none hV;simp only [List.append_nil] at hW' hsz0;rw [params4] at hA2 hval;obtain ⟨v0,d0,rfl,rfl,h0⟩:=trodAll_one hA2
 have hsw:∀ z∈d0.weights prog 25,z≤reachBytes:=fun z hz=>by
  have:=ep.1 hsz0 _ (DataW.weights_mem_each (j:=0) (t:=25) (d:=d0) (by rw [params4];rfl) rfl z hz)
  simpa using this
 obtain ⟨A,B,D,n,m,q,cA,cB,cD,q0,q1,q2,q3,q4,rfl,gA,gB,gD,gc,gn⟩:=zR h0 (hval 0 25 v0 rfl rfl) hsw
 refine (Gh A B D n m q cA cB cD q0 q1 q2 q3 q4 W ⟨gA,gB,gD,gc,gn⟩ (FZ hL hsh)).mono fun e W' ⟨he,hbe⟩=>?_
 subst he;exact ⟨_,rfl,Fv CW (by rw [params4];decide +kernel) rfl mKr underlying4 rfl hW' hA hbe⟩
theorem r8:Rows.OfflineTrueSaid:=
 OpenClaim.holds_of_wide 4 f4 rfl rfl rfl rfl rfl rfl rfl ⟨rfl,rfl,rfl,rfl,rfl⟩ rfl rfl rfl rfl rfl mKr func4 rj
  (of_decide_eq_true mKr) (by unfold Func.isWrapper;first | (rw [if_pos (by decide +kernel)];kernel_rfl) | (rw [if_neg (by decide +kernel)];exact ⟨rfl,rfl⟩))
  (fun os started H enc _=>rk os started H enc)
end
section
open Go
theorem offlineTrue_card:Rows.OfflineTrueCardSaid:=
 Claim7.holds_tied_plain_at .later [] [.data,.data,.data,.sentinel,.sentinel] true Rows.offlineTrueCard.stood.harness true
  r8 (fun _ h=>by cases h) mKr (fun _ h=>by cases h) offlineTrue_row_tie rfl ⟨rfl,rfl⟩ mKr rfl
  (fun f fn hf hfn=>by
   obtain rfl : f = 4 := Option.some.inj ((show prog.funcNamed "quadrivium/quadriviumlaw23.OfflineTrue" = some 4 by kernel_rfl).symm.trans hf) |>.symm
   obtain rfl:fn=f4:=(Option.some.inj (func4.symm.trans hfn)).symm
   exact ⟨mKr,fun j t ht=>by
    rw [params4] at ht;have hm:t∈[25]:=by simpa using Array.mem_of_getElem? ht
    have hall:([25].all fun u=>!Tryz.prog.wantsStandIn u)=true:=mKr
    exact (show prog.wantsStandIn t=false by simpa using ep.1 hall t hm)⟩)
  mKr
