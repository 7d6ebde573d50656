/- Lemmas. -/
import Derived.Test.YtnlhbdmeodbblaaGreatDoorMiau
set_option maxRecDepth 100000
set_option maxHeartbeats 16000000
set_option linter.all false
open Go.Proofs.Tryz
open Array renaming getElem?_modify→dX,getElem?_toList→Zgt
open Go.IntWalk renaming i64_in→aF
open Go.Lib renaming cell_of_heap→ae,frozen_of_heap→aE,hid→aa
open List renaming cons_append→eJ,filterMap_cons_none→Ml,filterMap_cons_some→Mk,filter_append→Zfa,filter_cons_of_neg→cM,filter_cons_of_pos→dh,getD_eq_getElem?_getD→bi,getElem?_eq_getElem→ai,getElem?_take_of_lt→dJ,getElem_mem→bD,length_append→ax,length_cons→bA,length_filter_le→dY,length_map→aX,length_nil→cu,length_singleton→aG,length_take→aM,length_zipIdx→iu,nil_append→dt,size_toArray→dz,take_add_one→aL,take_length→aT,toArray→aq
open Nat renaming le_refl→aD,le_trans→bu,lt_of_lt_of_le→av,zero_add→bM,zero_le→aR
open Option renaming toList_some→cU
open Go.RowKit renaming Below→ac,intOf→aw
open Go.World renaming ownsRow_nil→dK,size_alloc→fF
open Go.Ending renaming returned→JT
open Go.IntKind renaming i64→JP
open Go.Obj renaming cells→JU
open Go.Value renaming int→JO,string→JQ,slice→JR,pointer→JS
open Option renaming some→JV,none→JW
namespace Go.Proofs.YtnlhbdmeodbblaaGreatDoor
open Go Go.RowKit Go.Sort Go.Lib
section
attribute [local go_sem] Ent.cells
attribute [local go_sem] Oper.semAt_some
open Classical in
noncomputable def gw (x:LY) (roots:List LL) (r:LR) (asof:Int):VerE:=if ec x roots r asof=0 then ⟨mh r (dI x roots) x.lines,fq x.lines,gh x.lines⟩ else ⟨[],0,false⟩
theorem sO {fn:Func} {p u:Tmp} (h:fn.results=#[.cell p 51,.tmp u]) (tmps:Array Value) (w:World) (g:Nat) (v0 v1 v2:Value) (hp:tmps.getD p undef=JS (JV ⟨g,0,JW⟩)) (hg:w.heap[g]? = JV (JU #[v0,v1,v2] 51 (0,0))) :
  (results fn tmps).run prog w=.ok (.tuple #[.agg #[v0,v1,v2],tmps.getD u undef]) w:=by
 rw [results_cell_tmp h,hp];have:=run_loadVar_row (P:=prog) w g 51 51 #[v0,v1,v2] (0,0) _ hg underlying51 rfl mKr;simp only [asAddr,Sem.run_pure,Result.andThen_ok,this]
theorem Ij {P:Program} {fn:Func} {tmps:Array Value} {R:Ending→World→Prop} {W:World} (h:∃ v,(results fn tmps).run P W=.ok v W∧R (JT v) W):LeavesInM Fence.wide 4 P fn tmps R [] .returning W:=h
theorem enT:RowT prog bK 15 67 34 where
 len _:=rfl
 one x u hu:=by
  simp only [bK,Ent.cells,List.mem_cons,List.not_mem_nil,or_false] at hu;rcases hu with rfl | rfl | rfl | rfl | rfl | rfl | rfl | rfl | rfl | rfl | rfl | rfl | rfl | rfl | rfl <;> rfl
 pos:=mDe
 und:=underlying34
 info:=⟨_,_,rfl,rfl,rfl,mDe,mDe⟩
def okE (r:LR) (at_:LL) (e:Ent):Bool:=decide (e.day≤at_.day)&&ia r at_ e
theorem zn (r:LR) (at_:LL):∀ L:List LT,mh r at_ L=(cI L).filter (okE r at_)
 | []=>rfl
 | y::L=>by
  have ih:=zn r at_ L;unfold mh cI at ih ⊢;by_cases h0:(el y.body.data.toList).2=0
  ·have hy:vu y=JV (el y.body.data.toList).1:=if_pos h0;rw [Mk hy];by_cases hc:okE r at_ (el y.body.data.toList).1=true
   ·have hs:lB r at_ y=JV (el y.body.data.toList).1:=by
     unfold lB;unfold okE ia at hc;rw [Bool.and_eq_true,decide_eq_true_eq,decide_eq_true_eq] at hc;rw [if_pos ⟨h0,hc.1,hc.2⟩]
    rw [Mk hs,dh hc,ih]
   ·have hs:lB r at_ y=JW:=by
     unfold lB;rw [if_neg];rintro ⟨-,h1,h2⟩;refine hc ?_;unfold okE ia;rw [decide_eq_true h1,decide_eq_true h2];rfl
    rw [Ml hs,cM hc,ih]
  ·have hy:vu y=JW:=if_neg h0;have hs:lB r at_ y=JW:=by
    unfold lB;rw [if_neg (fun h=>h0 h.1)]
   rw [Ml hy,Ml hs,ih]
theorem my {w:World} {base k n:Nat} {e:TypeId} {v:Value} {xs:List Value} (h:w.ownsRow base e k v n xs) {q:Nat} (hq:v.ownBlock=JV q):∃ o,w.heap[q]? = JV o∧o.isCells=true:=by
 obtain ⟨-,(⟨rfl,-⟩ | ⟨g,c,cur,rfl,-,hg,-⟩)⟩:=h
 ·cases hq
 ·obtain rfl:=Option.some.inj hq;exact ⟨_,hg,rfl⟩
structure CkI (w:World) (vb N rg rs at_:Nat) (o1 o2 o3:Obj) (hid:Int) (cl:Bool) (M:List Ent) (W:World):Prop where
 low:ac w.heap.size w W
 size:N≤W.heap.size
 ring:W.heap[rg]? = JV o1
 res:W.heap[rs]? = JV o2
 root:W.heap[at_]? = JV o3
 own:∃ p c,W.heap[vb]? = JV (JU #[JR p M.length c,JO JP hid,.bool cl] 51 (0,0))∧W.ownsRow N 67 15 (JR p M.length c) M.length (br bK M)
theorem CkI.buts {w W W':World} {vb N rg rs at_:Nat} {o1 o2 o3:Obj} {hid:Int} {cl:Bool} {M:List Ent} {S:Nat→Prop} (h:CkI w vb N rg rs at_ o1 o2 o3 hid cl M W) (hb:LM S W W') (hN:vb < N∧rg < N∧rs < N∧at_ < N∧w.heap.size≤N) (hS:∀ q,S q→N≤q) (hnc:∀ q,S q→∃ o,W.heap[q]? = JV o∧o.isCells=false):CkI w vb N rg rs at_ o1 o2 o3 hid cl M W':=by
 obtain ⟨p,c,h1,h2⟩:=h.own;have ne:∀ q,q < N→¬ S q:=fun q hq hs=>by have:=hS q hs;omega
 refine ⟨h.low.trans (hb.below (fun q hq e=>by have:=hS q e;omega) h.low.size),bu h.size hb.size,hb.heap h.ring (ne _ hN.2.1),hb.heap h.res (ne _ hN.2.2.1),hb.heap h.root (ne _ hN.2.2.2.1),p,c,hb.heap h1 (ne _ hN.1),bE h2 hb fun q hq hs=>?_⟩;obtain ⟨o,e1,e2⟩:=my h2 hq;obtain ⟨o',e3,e4⟩:=hnc q hs;rw [e1] at e3;obtain rfl:=Option.some.inj e3;rw [e2] at e4;cases e4
theorem CkI.app {w W W':World} {vb N rg rs at_:Nat} {o1 o2 o3:Obj} {hid:Int} {cl:Bool} {M:List Ent} {e:Ent} {p:Option Addr} {c:Nat} {v9:Value} {w8:World} (h:CkI w vb N rg rs at_ o1 o2 o3 hid cl M W) (hb:ac W.heap.size W w8) (hN:vb < N∧rg < N∧rs < N∧at_ < N∧w.heap.size≤N∧w.heap.size≤vb∧rg ≠ vb∧rs ≠ vb∧at_ ≠ vb)
  (h1:W.heap[vb]? = JV (JU #[JR p M.length c,JO JP hid,.bool cl] 51 (0,0))) (h2:W.ownsRow N 67 15 (JR p M.length c) M.length (br bK M)) (hA:AppT bK 15 67 w8 N (JR p M.length c) M [e] v9 W') :
  CkI w vb N rg rs at_ o1 o2 o3 hid cl (M++[e]) (W'.setCell ⟨vb,0,JW⟩ v9)∧LM (fun q=>q=vb∨(Value.slice p M.length c).ownBlock=JV q) W (W'.setCell ⟨vb,0,JW⟩ v9):=by
 have hg:=LM.grown hA.grown;have hlt:∀ q,(Value.slice p M.length c).ownBlock=JV q→N≤q∧q < W.heap.size:=fun q hq=>h2.lt q hq
 have hb2:LM (fun q=>(Value.slice p M.length c).ownBlock=JV q) W W':=(LM.of hb).trans hg;have ne:∀ q,q < N→¬ (Value.slice p M.length c).ownBlock=JV q:=fun q hq hs=>by have:=hlt q hs;omega
 have hset:=LM.set (S:=fun q=>q=vb) W' rfl 0 v9;obtain ⟨p9,c9,hv9⟩:=eI hA.own;subst hv9;refine ⟨⟨?_,?_,?_,?_,?_,p9,c9,?_,?_⟩,?_⟩
 ·exact (h.low.trans (hb2.below (fun q hq e=>by have:=hlt q e;omega) h.low.size)).trans (hset.below (fun q hq e=>by omega) (bu h.low.size hb2.size))
 ·exact bu h.size (bu hb2.size hset.size)
 ·rw [de (Ne.symm hN.2.2.2.2.2.2.1)];exact hb2.heap h.ring (ne _ hN.2.1)
 ·rw [de (Ne.symm hN.2.2.2.2.2.2.2.1)];exact hb2.heap h.res (ne _ hN.2.2.1)
 ·rw [de (Ne.symm hN.2.2.2.2.2.2.2.2)];exact hb2.heap h.root (ne _ hN.2.2.2.1)
 ·have:=bp (hb2.heap h1 (ne _ hN.1)) 0 (JR p9 (M++[e]).length c9);rw [this];rfl
 ·exact bE hA.own hset fun q hq e2=>by have:=(hA.own.lt q hq).1;omega
 ·exact (hb2.mono (fun _ _ h=>.inr h)).trans (hset.mono (fun _ _ h=>.inl h))
theorem Hk (l:List UInt8):Lib.hasSuffix l [53]=(l.getLast? == JV 53):=by
 unfold Lib.hasSuffix;rw [Bool.eq_iff_iff,List.isSuffixOf_iff_suffix,beq_iff_eq];constructor
 ·rintro ⟨t,rfl⟩;simp
 ·intro h;obtain ⟨t,rfl⟩:=List.getLast?_eq_some_iff.1 h;exact ⟨t,rfl⟩
theorem zC {L:List LT} {k:Nat} {y:LT} (h:L[k]? = JV y):fq (L.take (k+1))=fq (L.take k)+(if y.body.size=0 then 1 else 0):=by
 unfold fq;rw [aL,h,cU,Zfa,ax];by_cases h0:y.body.size=0
 ·rw [if_pos h0,dh (by rw [beq_iff_eq];exact h0)];rfl
 ·rw [if_neg h0,cM (by rw [beq_iff_eq];exact h0)];rfl
theorem Bb {L:List LT} {k:Nat} {y:LT} (h:L[k]? = JV y):gh (L.take (k+1))=(gh (L.take k) && !(y.key.data.toList.getLast? == JV 53)):=by unfold gh;rw [aL,h,cU,List.all_append,List.all_cons,List.all_nil,Bool.and_true]
theorem Dv (L:List LT):fq L≤L.length:=by unfold fq;exact dY _ _
theorem Kn {p q:Prop} (h:q) (f:Wq q→p:=by
 intro hq;refine me ?_ (fun _ _ h=>h);refine kJ (S:=fun u=>ac W.heap.size W u∧u.cell? ⟨w.heap.size+1,0,JW⟩=JV (JO JP r.school)∧u.cell? ⟨w.heap.size+1,1,JW⟩=JV (JR (JV ⟨g,0,JW⟩) r.keys.length c)∧u.cell? ⟨w1.heap.size,2,JW⟩=JV (JO JP rd)∧u.cell? ⟨N1,4,JW⟩=JV (JO JP e4)∧u.cell? ⟨N1,13,JW⟩=JV (JO JP e13)∧u.cell? ⟨N1,14,JW⟩=JV (JQ e14)) [(0,true),(1,true),(2,true),(3,true),(4,true),(5,true),(6,true),(7,true),(8,true),(9,true),(11,true),(12,true),(13,true),(14,true),(15,true),(16,true),(10,false),(17,false),(18,true),(19,true)] mKr mKr mKr mKr mDe (hS0) ?_;have hS:=hS0
 revert hS
 exact hq.1):p:=f ⟨h⟩
theorem Lq {p q:Prop} (h:q) (f:Wq q→p:=by
 intro hq
 iterate 9 refine aj ?_
 refine dC ⟨_,_,_,_,_,_⟩ rfl mRf 67 (.tmp 15) mRf N1 0 mRf (#[JO JP e0,JO JP e1,JO JP e2,JO JP e3,JO JP e4,JO JP e5,JQ e6,JO JP e7,JO JP e8,JO JP e9,JO JP e10,JO JP e11,JO JP e12,JO JP e13,JQ e14]:Array Value).toList _ (fun w hSw j v hv=>(hSw.1.cell (p:=⟨N1,0+j,JW⟩) hN1l).trans (by rw [bM,ae HBX.out];simpa using hv)) underlying67 rfl mKr ?_;refine ar ?_
 iterate 6 refine aj ?_
 exact hq.1):p:=f ⟨h⟩
theorem wi (x:LY) (pl pp:Option Addr) (cl cp:Nat) (roots:List LL) (pr:Option Addr) (cr:Nat) (r:LR) (g c:Nat) (asof:Int) (w:World) (hkJ:JudOk x roots r) (hi:JudIn x pl pp cl cp roots pr cr r g w) :
  Calls prog 13 #[.agg (x.cells pl pp cl cp),JR pr roots.length cr,.agg #[JO JP r.school,JR (JV ⟨g,0,JW⟩) r.keys.length c],JO JP asof] w fun e w'=>∃ p c,e=JT (.tuple #[(gw x roots r asof).val p c,JO JP (ec x roots r asof)])∧LK bK w' (JR p (gw x roots r asof).ents.length c) (gw x roots r asof).ents∧ac w.heap.size w w':=by
 obtain ⟨hb3,h0,h1,h2⟩:=rL (w:=w) (JU #[JO JP x.school,JO JP x.student,JO JP x.first,JO JP x.last,JO JP x.root,JR pl x.lines.length cl,JR pp x.proof.length cp] 39) (JU #[JO JP r.school,JR (JV ⟨g,0,JW⟩) r.keys.length c] 33) (JU #[JR JW 0 0,JO JP 0,.bool false] 51);have HV:Hid (ec x roots r asof=0→gw x roots r asof=⟨mh r (dI x roots) x.lines,fq x.lines,gh x.lines⟩):=aa (fun h=>if_pos h);have HVN:Hid (¬ ec x roots r asof=0→gw x roots r asof=⟨[],0,false⟩):=aa (fun h=>if_neg h);have HRT:Hid (ec x roots r asof=0→mG x roots r asof=dI x roots):=aa (fun h=>if_pos h);obtain ⟨W3,hW3⟩:∃ u,u=((w.alloc (JU #[JO JP x.school,JO JP x.student,JO JP x.first,JO JP x.last,JO JP x.root,JR pl x.lines.length cl,JR pp x.proof.length cp] 39)).alloc (JU #[JO JP r.school,JR (JV ⟨g,0,JW⟩) r.keys.length c] 33)).alloc (JU #[JR JW 0 0,JO JP 0,.bool false] 51):=⟨_,rfl⟩;rw [← hW3] at hb3 h0 h1 h2;have kj:Calls prog 39 #[.agg #[JO JP x.school,JO JP x.student,JO JP x.first,JO JP x.last,JO JP x.root,JR pl x.lines.length cl,JR pp x.proof.length cp],JR pr roots.length cr,.agg #[JO JP r.school,JR (JV ⟨g,0,JW⟩) r.keys.length c],JO JP asof] W3 fun e w'=>e=JT (.tuple #[(mG x roots r asof).val,JO JP (ec x roots r asof)])∧ac W3.heap.size W3 w':=
  wA x pl pp cl cp roots pr cr r g c asof W3 hkJ (hi.below hb3)
 generalize ec x roots r asof=V at *
 generalize gw x roots r asof=VV at *;generalize mG x roots r asof=RT at *;have HI:=aa hi;clear hi;have hxl:=aU h0;have hgl:=aU h1;have hzl:=aU h2;refine (callsIn_wide (n:=4)).1 ?_;refine callsIn_of_wp_marks func13 rfl trivial ?_ rfl;refine wpIn_wide.2 ?_;simp only [ntmps13,dz,bA,cu,Nat.reduceAdd,Nat.reduceSub,Array.replicate_succ,Array.replicate_zero,List.push_toArray,List.append_toArray,dt,eJ];unfold LY.cells;go_wp2_with fail;rw [← hW3];clear hW3;refine kj.mono ?_;clear kj;rintro _ w1 ⟨rfl,hb1⟩;have hbw1:=ah hb3 hb1;have m0:=(hb1.block _ hxl).trans h0;have m1:=(hb1.block _ hgl).trans h1;have m2:=(hb1.block _ hzl).trans h2;clear h0 h1 h2 hb1 hb3 hxl hgl hzl;obtain ⟨rs,rz,rd,rtr,rb,rky,rmk⟩:=RT;have hxl:=aU m0;have hgl:=aU m1;have hzl:=aU m2;have hba:=al w1 (JU #[JO JP rs,JO JP rz,JO JP rd,JQ rtr,JQ rb,JO JP rky,JQ rmk] 65);have hr2:=heap_alloc_new w1 (JU #[JO JP rs,JO JP rz,JO JP rd,JQ rtr,JQ rb,JO JP rky,JQ rmk] 65);obtain ⟨w2,hE2⟩:∃ u,u=w1.alloc (JU #[JO JP rs,JO JP rz,JO JP rd,JQ rtr,JQ rb,JO JP rky,JQ rmk] 65):=⟨_,rfl⟩;rw [← hE2] at hba hr2;have hz2:w2.heap.size=w1.heap.size+1:=by rw [hE2];exact fF ..
 have hbw2:=ah hbw1 hba;have n0:=(hba.block _ hxl).trans m0;have n1:=(hba.block _ hgl).trans m1;have n2:=(hba.block _ hzl).trans m2;clear m0 m1 m2 hba
 go_upto_region 2 with fail
 rw [← hE2];clear hE2;by_cases hV:V=0
 rotate_left 1
 ·have t1:(V != 0)=true:=by rw [bne_iff_ne];exact hV
  have HN:=aa (HVN.out hV);clear HV HVN HRT hV;have a0:w2.cell? ⟨w.heap.size+1+1,0,JW⟩=JV (JR JW 0 0):=ae n2 0;have af0:w2.frozen? ⟨w.heap.size+1+1,0,JW⟩=false:=aE n2 0;have a1:w2.cell? ⟨w.heap.size+1+1,1,JW⟩=JV (JO JP 0):=ae n2 1;have af1:w2.frozen? ⟨w.heap.size+1+1,1,JW⟩=false:=aE n2 1;have a2:w2.cell? ⟨w.heap.size+1+1,2,JW⟩=JV (.bool false):=ae n2 2;have af2:w2.frozen? ⟨w.heap.size+1+1,2,JW⟩=false:=aE n2 2;have HZZ:=aa (bp (bp (bp n2 0 (JR JW 0 0)) 1 (JO JP 0)) 2 (.bool false));have hbb:=(((hbw2.setCell (p:=⟨w.heap.size+1+1,0,JW⟩) (show w.heap.size≤w.heap.size+1+1 by omega) (JR JW 0 0)).setCell (p:=⟨w.heap.size+1+1,1,JW⟩) (show w.heap.size≤w.heap.size+1+1 by omega) (JO JP 0)).setCell (p:=⟨w.heap.size+1+1,2,JW⟩) (show w.heap.size≤w.heap.size+1+1 by omega) (.bool false));clear n2 n0 n1 hr2;go_wp2_with fail;refine Ij ⟨_,sO results13 _ _ (w.heap.size+1+1) _ _ _ rfl HZZ.out,JW,0,?_,?_,hbb⟩
  ·rw [HN.out];rfl
  ·rw [HN.out];exact LK.nil _ _
 have t1:(V != 0)=false:=by rw [bne_eq_false_iff_eq];exact hV
 have HN:=aa (HV.out hV);have HAT:=aa (HRT.out hV);clear HV HVN HRT;subst hV;obtain ⟨lines,HLN⟩:∃ l,Hid (l=x.lines):=⟨_,aa rfl⟩;have hba:=al w2 (JU #[JR JW 0 0,JO JP 0,.bool true] 51);have hv4:=heap_alloc_new w2 (JU #[JR JW 0 0,JO JP 0,.bool true] 51);obtain ⟨w4,hE4⟩:∃ u,u=w2.alloc (JU #[JR JW 0 0,JO JP 0,.bool true] 51):=⟨_,rfl⟩;rw [← hE4] at hba hv4;have hbw4:=ah hbw2 hba;have o0:=hba.heap_of n0;have o1:=hba.heap_of n1;have o2:=hba.heap_of n2;have o3:=hba.heap_of hr2;rw [hz2] at hv4;clear n0 n1 n2 hr2 hba
 go_upto_region 5 with fail
 rw [← hE4];clear hE4;have x5:w4.cell? ⟨w.heap.size,5,JW⟩=JV (JR pl x.lines.length cl):=ae o0 5;have HFL:=aa hkJ.ext.lines;have hmany:=hkJ.ext.many;have hlr:=HI.out.ext.lines.below hbw4;have HLR:=aa HI.out.ext.lines;clear hlr;go_wp2_with fail
 go_loopw [32] (fun i wr=>∃ k:Nat,k≤x.lines.length∧i=JO JP k∧LM (fun b=>b=w1.heap.size+1) w4 wr∧wr.heap[w1.heap.size+1]? = JV (JU #[JR JW 0 0,JO JP (fq (x.lines.take k):Int),.bool (gh (x.lines.take k))] 51 (0,0))) (fun i _=>x.lines.length - (aw i).toNat)
 case atStart=>exact ⟨0,aR _,rfl,LM.refl _ _,hv4⟩
 case round =>
  obtain ⟨k,hk9,rfl,hbu,hvr⟩:=hrel;by_cases hlt:k < x.lines.length
  ·obtain ⟨lg,lo,hlp,hlgl,hrr⟩:=dc (kk:=3) HLR.out vD rfl mOm;have hge:=ai hlt;have hra:=hrr k _ hge;have hlow:ac w.heap.size w wr:=hbw4.trans (hbu.below (fun q hq e=>by omega) hbw4.size);have hks:=HFL.out _ (bD hlt);have HHS:=aa (zC hge);have HCS:=aa (Bb hge);have HHL:=aa (bu (Dv (x.lines.take k)) (by rw [aM];omega:(x.lines.take k).length≤4000));generalize x.lines[k]=y at *;subst hlp;have hrx:=fun i v hv=>(hlow.cell (p:=⟨lg,lo+k*3+i,JW⟩) hlgl).trans (hra i v hv)
   have y0:wr.cell? ⟨lg,lo+k*3,JW⟩=JV (JQ y.key):=hrx 0 _ rfl;have y1:wr.cell? ⟨lg,lo+k*3+1,JW⟩=JV (JQ y.hash):=hrx 1 _ rfl;have y2:wr.cell? ⟨lg,lo+k*3+2,JW⟩=JV (JQ y.body):=hrx 2 _ rfl;generalize fq (x.lines.take k)=hn at *;generalize gh (x.lines.take k)=cb at *;have i0:(0:Int)≤(k:Int):=mOm;have i1:(k:Int) < (x.lines.length:Int):=mOm;have a1:IntKind.i64.wrap ((k:Int)+1)=(k:Int)+1:=aF _ mOm;have a2:IntKind.i64.wrap ((hn:Int)+1)=(hn:Int)+1:=aF _ (by have:=HHL.out;omega);have hba:=al wr (JU #[JQ y.key,JQ y.hash,JQ y.body] 69);have hw5:=heap_alloc_new wr (JU #[JQ y.key,JQ y.hash,JQ y.body] 69);obtain ⟨w5,hE5⟩:∃ u,u=wr.alloc (JU #[JQ y.key,JQ y.hash,JQ y.body] 69):=⟨_,rfl⟩;rw [← hE5] at hba hw5;have hv5:=hba.heap_of hvr;have hbu5:LM (fun b=>b=w1.heap.size+1) w4 w5:=hbu.trans (LM.of hba);have khs:=fun u=>Tryz.strings_HasSuffix y.key ⟨#[53]⟩ u (by have:=hks.1;omega)
   have hsx:Lib.hasSuffix y.key.data.toList (⟨#[53]⟩:ByteArray).data.toList=(y.key.data.toList.getLast? == JV 53):=Hk _;rw [hsx] at khs;have z0:w5.cell? ⟨wr.heap.size,0,JW⟩=JV (JQ y.key):=ae hw5 0;have z2:w5.cell? ⟨wr.heap.size,2,JW⟩=JV (JQ y.body):=ae hw5 2;have HBU:=aa hbu5;have HV5:=aa hv5;have hvl:w1.heap.size+1 ≠ wr.heap.size:=by have:=aU hvr;omega
   have v1:w5.cell? ⟨w1.heap.size+1,1,JW⟩=JV (JO JP (hn:Int)):=ae hv5 1;have vf1:w5.frozen? ⟨w1.heap.size+1,1,JW⟩=false:=aE hv5 1;have v2:w5.cell? ⟨w1.heap.size+1,2,JW⟩=JV (.bool cb):=ae hv5 2;have vf2:w5.frozen? ⟨w1.heap.size+1,2,JW⟩=false:=aE hv5 2;generalize (y.key.data.toList.getLast? == JV 53)=sf at *;clear hra hrr hrx hge hvr hbu hlow hba hw5 hv5 hbu5 hks hsx
   go_upto_region 8 with fail
   rw [← hE5];clear hE5 y0 y1 y2;go_wp2_with fail;refine (khs _).mono ?_;clear khs;rintro _ w6 ⟨rfl,rfl⟩;have FIN:Hid (∀ (u:World) (hn':Int) (cb':Bool),LM (fun b=>b=w1.heap.size+1) w6 u→u.heap[w1.heap.size+1]? = JV (JU #[JR JW 0 0,JO JP hn',.bool cb'] 51 (0,0))→hn'=((hn+(if y.body.size=0 then 1 else 0):Nat):Int)→cb'=(cb && !sf)→LM (fun b=>b=w1.heap.size+1) w4 u∧u.heap[w1.heap.size+1]? = JV (JU #[JR JW 0 0,JO JP (fq (x.lines.take (k+1)):Int),.bool (gh (x.lines.take (k+1)))] 51 (0,0))):=aa (fun u hn' cb' hb hh e1 e2=>⟨HBU.out.trans hb,by rw [HHS.out,HCS.out,← e1,← e2];exact hh⟩);clear HHS HCS HBU;by_cases hem:y.body.size=0
   ·have hem1:y.body.toList=[]:=by rw [iw hem,ByteArray.toList_eq]
    have hem2:y.body.toList.isEmpty=true:=by rw [hem1];rfl
    rw [if_pos hem] at FIN;clear hem
    cases sf
    ·go_wp2_with fail
     go_roundw
     case rel=>exact ⟨k+1,mOm,by go_num,FIN.out _ _ _ ((LM.refl _ _).trans (LM.set (S:=fun b=>b=w1.heap.size+1) _ rfl 1 (JO JP ((hn:Int)+1)))) (bp HV5.out 1 (JO JP ((hn:Int)+1))) (by push_cast;rfl) (by cases cb <;> rfl)⟩
     case measure=>simp [aw];omega
    ·go_wp2_with fail
     go_roundw
     case rel=>exact ⟨k+1,mOm,by go_num,FIN.out _ _ _ (((LM.refl _ _).trans (LM.set (S:=fun b=>b=w1.heap.size+1) _ rfl 2 (.bool false))).trans (LM.set (S:=fun b=>b=w1.heap.size+1) _ rfl 1 (JO JP ((hn:Int)+1)))) (bp (bp HV5.out 2 (.bool false)) 1 (JO JP ((hn:Int)+1))) (by push_cast;rfl) (by cases cb <;> rfl)⟩
     case measure=>simp [aw];omega
   ·obtain ⟨hem1,hem2⟩:=jp hem;rw [if_neg hem] at FIN;clear hem
    cases sf
    ·go_wp2_with fail
     go_roundw
     case rel=>exact ⟨k+1,mOm,by go_num,FIN.out _ _ _ (LM.refl _ _) HV5.out mSi (by cases cb <;> rfl)⟩
     case measure=>simp [aw];omega
    ·go_wp2_with fail
     go_roundw
     case rel=>exact ⟨k+1,mOm,by go_num,FIN.out _ _ _ ((LM.refl _ _).trans (LM.set (S:=fun b=>b=w1.heap.size+1) _ rfl 2 (.bool false))) (bp HV5.out 2 (.bool false)) mSi (by cases cb <;> rfl)⟩
     case measure=>simp [aw];omega
  ·obtain rfl:k=x.lines.length:=mOm;have i1:¬ (x.lines.length:Int) < (x.lines.length:Int):=mOm;rw [aT] at hvr;have hlow:ac w.heap.size w wr:=hbw4.trans (hbu.below (fun q hq e=>by omega) hbw4.size);have hzr:w1.heap.size+1 < wr.heap.size:=aU hvr;have p0:=hbu.heap o0 (show ¬ w.heap.size=w1.heap.size+1 by omega);have p1:=hbu.heap o1 (show ¬ w.heap.size+1=w1.heap.size+1 by omega);have p2:=hbu.heap o2 (show ¬ w.heap.size+1+1=w1.heap.size+1 by omega);have p3:=hbu.heap o3 (show ¬ w1.heap.size=w1.heap.size+1 by omega);clear hbu o0 o1 o2 o3 hv4 x5 hbw4 hbw2 hbw1;have x5:wr.cell? ⟨w.heap.size,5,JW⟩=JV (JR pl x.lines.length cl):=ae p0 5;go_wp2_with fail;refine (wQ _ pl x.lines.length cl rfl wr).mono ?_;rintro _ w8 ⟨rfl,hw8⟩;go_wp2_with fail;have hb8:ac wr.heap.size wr w8:=by rw [hw8];exact al _ _
   have hz8:w8.heap.size=wr.heap.size+1:=by rw [hw8];exact fF ..
   have hsb:w8.heap[wr.heap.size]? = JV (JU #[JR pl x.lines.length cl] 36 (0,0)):=by rw [hw8];exact heap_alloc_new wr _
   rw [← hw8];clear hw8 x5;have hbw8:=ah hlow hb8;have hI0:CkI w (w1.heap.size+1) w8.heap.size (w.heap.size+1) (w.heap.size+1+1) w1.heap.size _ _ _ (fq x.lines:Int) (gh x.lines) [] w8:=⟨hbw8,aD _,hb8.heap_of p1,hb8.heap_of p2,hb8.heap_of p3,JW,0,hb8.heap_of hvr,dK _ _ _ _⟩;have hNN:w1.heap.size+1 < w8.heap.size∧w.heap.size+1 < w8.heap.size∧w.heap.size+1+1 < w8.heap.size∧w1.heap.size < w8.heap.size∧w.heap.size≤w8.heap.size∧w.heap.size≤w1.heap.size+1∧w.heap.size+1 ≠ w1.heap.size+1∧w.heap.size+1+1 ≠ w1.heap.size+1∧w1.heap.size ≠ w1.heap.size+1:=mOm;clear p0 p1 p2 p3 hvr;have hit:=uQ wr.heap.size pl cl x.lines w mOm HFL.out HLR.out HI.out.ready
   have HEO:Hid (∀ k,k < (cI x.lines).length→∃ e,(cI x.lines)[k]? = JV e∧(cI x.lines).getD k entZ=e∧e.Ok):=aa (fun k hk=>by
    have hge:=ai hk;have hm:=bD hk;generalize (cI x.lines)[k]=e at *;refine ⟨e,hge,by rw [bi,hge];rfl,?_⟩;obtain ⟨y,hy,hye⟩:=List.mem_filterMap.1 hm;unfold vu at hye;by_cases h0:(el y.body.data.toList).2=0
    ·rw [if_pos h0] at hye;rw [← Option.some.inj hye];exact As (by have:=(HFL.out y hy).2.2;rw [bw] at this;exact this)
    ·rw [if_neg h0] at hye;cases hye)
   generalize Value.agg #[JO JP x.school,JO JP x.student,JO JP x.first,JO JP x.last,JO JP x.root,JR pl x.lines.length cl,JR pp x.proof.length cp]=AX
   generalize Value.agg #[JO JP r.school,JR (JV ⟨g,0,JW⟩) r.keys.length c]=AG;generalize Value.tuple #[LL.val ⟨rs,rz,rd,rtr,rb,rky,rmk⟩,JO JP 0]=TP;generalize LL.val ⟨rs,rz,rd,rtr,rb,rky,rmk⟩=RV;generalize Value.agg #[JR JW 0 0,JO JP 0,.bool true]=AV;have HI8:=aa hI0;clear hI0
   refine rZ rfl (enters_of func94 mKr rfl) hit (fun _=>rfl) (fun k hk=>hk.elim)
    (fun k A B h hle hb=>⟨hb.heap h.1 mOm,h.2.trans (hb.below (fun q hq e=>by omega) h.2.size)⟩) ⟨hsb,hbw8⟩
    (fun k W=>CkI w (w1.heap.size+1) w8.heap.size (w.heap.size+1) (w.heap.size+1+1) w1.heap.size (JU #[JO JP r.school,JR (JV ⟨g,0,JW⟩) r.keys.length c] 33 (0,0)) (JU #[JR JW 0 0,JO JP 0,.bool false] 51 (0,0)) (JU #[JO JP rs,JO JP rz,JO JP rd,JQ rtr,JQ rb,JO JP rky,JQ rmk] 65 (0,0)) (fq x.lines:Int) (gh x.lines) (((cI x.lines).take k).filter (okE r (dI x roots))) W) (fun _ _=>False)
    ?hIs ?hXs ?hIp ?hXp ?hI0 (fun k N a' W=>a'=⟨aq (AX::JR pr roots.length cr::AG::JO JP asof::JS (JV ⟨w.heap.size,0,JW⟩)::undef::JS (JV ⟨w.heap.size+1,0,JW⟩)::undef::JS (JV ⟨w.heap.size+1+1,0,JW⟩)::JO JP 0::JS (JV ⟨w1.heap.size,0,JW⟩)::JO JP 0::JS (JV ⟨w1.heap.size+1,0,JW⟩)::undef::u14::JS (JV ⟨N,0,JW⟩)::TP::AX::JR pr roots.length cr::AG::JO JP asof::TP::RV::JO JP 0::JO JP 0::.bool false::undef::undef::AV::JS (JV ⟨w.heap.size,5,JW⟩)::JR pl x.lines.length cl::JO JP (x.lines.length:Int)::JO JP (x.lines.length:Int)::.bool false::u34::u35::u36::u37::u38::u39::u40::u41::u42::u43::u44::u45::u46::u47::JS (JV ⟨w.heap.size,5,JW⟩)::JR pl x.lines.length cl::.func (.func 94) #[] #[JS (JV ⟨wr.heap.size,0,JW⟩)]::((cI x.lines).getD k entZ).val::undef::undef::undef::undef::undef::undef::undef::undef::undef::undef::undef::undef::undef::undef::undef::undef::undef::undef::undef::undef::undef::undef::undef::undef::undef::undef::undef::[]),[]⟩∧W.heap[N]? = JV (JU ((cI x.lines).getD k entZ).cells 67 (0,0))) ?hBp ?hassign ?hbody ?hdone ?hstop
   case hIs=>exact fun k A B h hb=>h.buts hb ⟨hNN.1,hNN.2.1,hNN.2.2.1,hNN.2.2.2.1,hNN.2.2.2.2.1⟩ (fun _ h=>h.elim) (fun _ h=>h.elim)
   case hXs=>exact fun _ _ _ h _=>h
   case hIp =>
    rintro k A l r0 r' hle hl h;exact h.buts (nq A l (.loop r')) ⟨hNN.1,hNN.2.1,hNN.2.2.1,hNN.2.2.2.1,hNN.2.2.2.2.1⟩ (fun q e=>by omega) (fun q e=>⟨.loop r0,by subst e;exact hl,rfl⟩)
   case hXp=>exact fun _ _ _ _ _ _ _ h=>h
   case hI0=>exact HI8.out
   case hBp=>exact fun k N a' A l r0 r' _ hlN hl h=>⟨h.1,(nq A l (.loop r')).heap h.2 (fun e=>by have:=h.2;rw [e,hl] at this;cases this)⟩
   case hassign =>
    intro lp k W K hI hK;generalize (cI x.lines).getD k entZ=e at hK ⊢;obtain ⟨e0,e1,e2,e3,e4,e5,e6,e7,e8,e9,e10,e11,e12,e13,e14⟩:=e;have hve:Ent.val ⟨e0,e1,e2,e3,e4,e5,e6,e7,e8,e9,e10,e11,e12,e13,e14⟩=.agg #[JO JP e0,JO JP e1,JO JP e2,JO JP e3,JO JP e4,JO JP e5,JQ e6,JO JP e7,JO JP e8,JO JP e9,JO JP e10,JO JP e11,JO JP e12,JO JP e13,JQ e14]:=rfl;rw [hve];rw [hve] at hK
    gi_wp2
    exact hK _ _ ⟨rfl,heap_alloc_new W _⟩ (LM.alloc _ _ _)
   case hstop=>exact fun _ _ _ _ h _=>h.elim
   case hbody =>
    rintro lp k a' N1 W0 W hk hI0 ⟨r0,hlr⟩ hlp hb hKp ⟨rfl,hbx⟩ hle hN0 hN1;have hb':LM (fun q=>q=lp) W0 W:=hb.mono (fun q _ e=>e.resolve_left id);have hIW:=hI0.buts hb' ⟨hNN.1,hNN.2.1,hNN.2.2.1,hNN.2.2.2.1,hNN.2.2.2.2.1⟩ (fun q e=>by omega) (fun q e=>⟨.loop r0,by subst e;exact hlr,rfl⟩);obtain ⟨p,c9,hv0,ho0⟩:=hI0.own;obtain ⟨e,he1,he2,heo⟩:=HEO.out k hk;rw [he2] at hbx ⊢;have HT:Hid ((cI x.lines).take (k+1)=(cI x.lines).take k++[e]):=aa (by rw [aL,he1];rfl)
    have HML:Hid ((((cI x.lines).take k).filter (okE r (dI x roots))).length≤4000):=aa (by
     refine bu (dY _ _) ?_;rw [aM];have:(cI x.lines).length≤x.lines.length:=by unfold cI;exact List.length_filterMap_le ..
     omega)
    have hMN:((cI x.lines).take (k+1)).filter (okE r (dI x roots))=((cI x.lines).take k).filter (okE r (dI x roots))++(if okE r (dI x roots) e=true then [e] else []):=by
     rw [HT.out,Zfa]
     congr 1
     by_cases hc:okE r (dI x roots) e=true
     ·rw [if_pos hc,dh hc];rfl
     ·rw [if_neg hc,cM hc];rfl
    have hvW:=hb'.heap hv0 (show ¬ w1.heap.size+1=lp by omega)
    have hoW:=bE ho0 hb' (fun q hq e2=>by obtain ⟨o,e3,e4⟩:=my ho0 hq;rw [e2,hlr] at e3;obtain rfl:=Option.some.inj e3;cases e4)
    have FINS:Hid (¬ okE r (dI x roots) e=true→∀ u,ac W.heap.size W u→CkI w (w1.heap.size+1) w8.heap.size (w.heap.size+1) (w.heap.size+1+1) w1.heap.size (JU #[JO JP r.school,JR (JV ⟨g,0,JW⟩) r.keys.length c] 33 (0,0)) (JU #[JR JW 0 0,JO JP 0,.bool false] 51 (0,0)) (JU #[JO JP rs,JO JP rz,JO JP rd,JQ rtr,JQ rb,JO JP rky,JQ rmk] 65 (0,0)) (fq x.lines:Int) (gh x.lines) (((cI x.lines).take (k+1)).filter (okE r (dI x roots))) u∧tR wr.heap.size (JR pl x.lines.length cl) w k u∧L5 W u∧∀ g,W0.heap.size≤g→g < N1→u.heap[g]? = W.heap[g]?):=aa (fun hc u hu=>by
     rw [hMN,if_neg hc,List.append_nil]
     exact ⟨hIW.buts (S:=fun _=>False) (LM.of hu) ⟨hNN.1,hNN.2.1,hNN.2.2.1,hNN.2.2.2.1,hNN.2.2.2.2.1⟩ (fun _ h=>h.elim) (fun _ h=>h.elim),⟨hu.heap_of hKp.1,ah hKp.2 hu⟩,L5.of hu,fun g2 _ h2=>hu.block g2 mOm⟩)
    have FINA:Hid (okE r (dI x roots) e=true→∀ u8 v9 u',ac W.heap.size W u8→AppT bK 15 67 u8 w8.heap.size (JR p (((cI x.lines).take k).filter (okE r (dI x roots))).length c9) (((cI x.lines).take k).filter (okE r (dI x roots))) [e] v9 u'→CkI w (w1.heap.size+1) w8.heap.size (w.heap.size+1) (w.heap.size+1+1) w1.heap.size (JU #[JO JP r.school,JR (JV ⟨g,0,JW⟩) r.keys.length c] 33 (0,0)) (JU #[JR JW 0 0,JO JP 0,.bool false] 51 (0,0)) (JU #[JO JP rs,JO JP rz,JO JP rd,JQ rtr,JQ rb,JO JP rky,JQ rmk] 65 (0,0)) (fq x.lines:Int) (gh x.lines) (((cI x.lines).take (k+1)).filter (okE r (dI x roots))) (u'.setCell ⟨w1.heap.size+1,0,JW⟩ v9)∧tR wr.heap.size (JR pl x.lines.length cl) w k (u'.setCell ⟨w1.heap.size+1,0,JW⟩ v9)∧L5 W (u'.setCell ⟨w1.heap.size+1,0,JW⟩ v9)∧∀ g,W0.heap.size≤g→g < N1→(u'.setCell ⟨w1.heap.size+1,0,JW⟩ v9).heap[g]? = W.heap[g]?):=aa (fun hc u8 v9 u' hu hA=>by
     rw [hMN,if_pos hc];obtain ⟨q1,q2⟩:=hIW.app hu hNN hvW hoW hA;have hlt:∀ q,(Value.slice p (((cI x.lines).take k).filter (okE r (dI x roots))).length c9).ownBlock=JV q→w8.heap.size≤q∧q < W0.heap.size:=fun q hq=>ho0.lt q hq
     refine ⟨q1,⟨q2.heap hKp.1 ?_,q1.low⟩,q2.nc ?_,fun g2 h1 h2=>q2.block g2 mOm ?_⟩
     ·rintro (e2 | e2)
      ·omega
      ·have:=hlt _ e2;omega
     ·rintro q o (e2 | e2) ho
      ·subst e2;rw [hvW] at ho;obtain rfl:=Option.some.inj ho;rfl
      ·obtain ⟨o2,e3,e4⟩:=my hoW e2;rw [ho] at e3;obtain rfl:=Option.some.inj e3;exact e4
     ·rintro (e2 | e2)
      ·omega
      ·have:=hlt _ e2;omega)
    have hN1l:=aU hbx
    have HSZW:=aa hIW.size;have HT8:Hid (∀ u,ac W.heap.size W u→Tabs u):=aa (fun u hu=>(bz HI.out.ready (ah hIW.low hu)).sane.1);have HKS:Hid (∀ u,ac W.heap.size W u→LV u g r.keys∧g < u.heap.size):=aa (fun u hu=>⟨HI.out.keys.below (ah hIW.low hu) HI.out.at_,av HI.out.at_ (ah hIW.low hu).size⟩);have kb:=fun u (hu:ac W.heap.size W u)=>EE e heo u (HT8.out u hu)
    have hbl:(⟨e.body.toArray⟩:ByteArray).size≤1000000:=by rw [bw];have h1:=lR e heo;have h2:=heo.course;show e.body.length≤_;omega
    have kv:=fun u (hu:ac W.heap.size W u)=>rN g c r e.key ⟨e.body.toArray⟩ e.mark e.day rd u hkJ.keys (HKS.out u hu).1 hkJ.secrets (HKS.out u hu).2 hkJ.school heo.key hbl (HT8.out u hu)
    have HOK:Hid (okE r (dI x roots) e=(decide (e.day≤rd)&&decide (eh r e.key ⟨e.body.toArray⟩ e.mark e.day rd=0))):=aa (by rw [← HAT.out];rfl);generalize okE r (dI x roots) e=OK at *;generalize ((cI x.lines).take k).filter (okE r (dI x roots))=M at *;generalize eh r e.key ⟨e.body.toArray⟩ e.mark e.day rd=VL at *;generalize (⟨e.body.toArray⟩:ByteArray)=BT at *;obtain ⟨e0,e1,e2,e3,e4,e5,e6,e7,e8,e9,e10,e11,e12,e13,e14⟩:=e;simp only [Ent.cells] at hbx;have KB:=aa kb;have KV:=aa kv;have HBX:=aa hbx;have g0:W.cell? ⟨w.heap.size+1,0,JW⟩=JV (JO JP r.school):=ae hIW.ring 0;have g1:W.cell? ⟨w.heap.size+1,1,JW⟩=JV (JR (JV ⟨g,0,JW⟩) r.keys.length c):=ae hIW.ring 1;have r2:W.cell? ⟨w1.heap.size,2,JW⟩=JV (JO JP rd):=ae hIW.root 2;have z0:W.cell? ⟨N1,0,JW⟩=JV (JO JP e0):=ae hbx 0;have z1:W.cell? ⟨N1,1,JW⟩=JV (JO JP e1):=ae hbx 1;have z2:W.cell? ⟨N1,2,JW⟩=JV (JO JP e2):=ae hbx 2;have z3:W.cell? ⟨N1,3,JW⟩=JV (JO JP e3):=ae hbx 3;have z4:W.cell? ⟨N1,4,JW⟩=JV (JO JP e4):=ae hbx 4;have z5:W.cell? ⟨N1,5,JW⟩=JV (JO JP e5):=ae hbx 5;have z6:W.cell? ⟨N1,6,JW⟩=JV (JQ e6):=ae hbx 6;have z7:W.cell? ⟨N1,7,JW⟩=JV (JO JP e7):=ae hbx 7;have z8:W.cell? ⟨N1,8,JW⟩=JV (JO JP e8):=ae hbx 8;have z9:W.cell? ⟨N1,9,JW⟩=JV (JO JP e9):=ae hbx 9;have z10:W.cell? ⟨N1,10,JW⟩=JV (JO JP e10):=ae hbx 10;have z11:W.cell? ⟨N1,11,JW⟩=JV (JO JP e11):=ae hbx 11;have z12:W.cell? ⟨N1,12,JW⟩=JV (JO JP e12):=ae hbx 12;have z13:W.cell? ⟨N1,13,JW⟩=JV (JO JP e13):=ae hbx 13;have z14:W.cell? ⟨N1,14,JW⟩=JV (JQ e14):=ae hbx 14;have hS0:=qY (W:=W) ⟨Below.refl _ _,g0,g1,r2,z4,z13,z14⟩ (Below.refl _ W).drew;have HVW:=aa hvW;have HOW:=aa hoW;clear hb hb' hIW hI0 hKp hv0 ho0 he1 he2 heo hMN hvW hoW hbx kb kv hbl hk hle hN0 hN1;by_cases hd:e4≤rd
    rotate_left 1
    ·have t1:decide (e4≤rd)=false:=decide_eq_false hd;have HNO:Hid (¬ OK=true):=aa (by rw [HOK.out,t1,Bool.false_and];decide);clear hd
     gi_wp2
     refine Kn ?_;intro hS
     iterate 16 (first | refine aj ?_ | refine cN ?_)
     refine gC ⟨_,_,_,_,_,_⟩ rfl mRf hS ?_;refine ar ?_;refine gC ⟨_,_,_,_,_,_⟩ rfl mRf hS ?_;refine ar ?_
     iterate 2 (first | refine aj ?_ | refine cN ?_)
     simp only [aO,bj]
     gi_wp2
     exact FINS.out HNO.out _ hS.1
    have t1:decide (e4≤rd)=true:=decide_eq_true hd
    by_cases hv9:VL=0
    rotate_left 1
    ·have t2:(VL==0)=false:=by rw [beq_eq_false_iff_ne];exact hv9
     have HNO:Hid (¬ OK=true):=aa (by rw [HOK.out,decide_eq_false hv9,Bool.and_false];decide);clear hd hv9
     gi_wp2
     refine Kn ?_;intro hS
     refine Lq ?_;refine aH 42 call42 (KB.out _ hS.1) ?_;rintro x wn ⟨rfl,hb⟩;replace hS:=qY hS hb;refine ⟨_,rfl,hS,?_⟩;(try clear hb);refine ar ?_;refine aH 22 call22 (KV.out _ hS.1) ?_;rintro x wn ⟨rfl,hb⟩;replace hS:=qY hS hb;refine ⟨_,rfl,hS,?_⟩;(try clear hb);refine ar ?_
     iterate 2 refine aj ?_
     simp only [aO,bj]
     gi_wp2
     exact FINS.out HNO.out _ hS.1
    have t2:(VL==0)=true:=by rw [beq_iff_eq];exact hv9
    have HYE:Hid (OK=true):=aa (by rw [HOK.out,t1,decide_eq_true hv9];rfl);clear hd hv9
    gi_wp2
    refine Kn ?_;intro hS
    refine Lq ?_;refine aH 42 call42 (KB.out _ hS.1) ?_;rintro x wn ⟨rfl,hb⟩;replace hS:=qY hS hb;refine ⟨_,rfl,hS,?_⟩;(try clear hb);refine ar ?_;refine aH 22 call22 (KV.out _ hS.1) ?_;rintro x wn ⟨rfl,hb⟩;replace hS:=qY hS hb;refine ⟨_,rfl,hS,?_⟩;(try clear hb);refine ar ?_
    iterate 2 refine aj ?_
    simp only [aO,bj];have HSB:=aa hS.1;have hvn:=hS.1.heap_of HVW.out;have q0:wn.cell? ⟨w1.heap.size+1,0,JW⟩=JV (JR p M.length c9):=ae hvn 0;have hbn:=hS.1.heap_of HBX.out;clear hS hS0 z0 z1 z2 z3 z4 z5 z6 z7 z8 z9 z10 z11 z12 z13 z14 g0 g1 r2;have z0:wn.cell? ⟨N1,0,JW⟩=JV (JO JP e0):=ae hbn 0;have z1:wn.cell? ⟨N1,1,JW⟩=JV (JO JP e1):=ae hbn 1;have z2:wn.cell? ⟨N1,2,JW⟩=JV (JO JP e2):=ae hbn 2;have z3:wn.cell? ⟨N1,3,JW⟩=JV (JO JP e3):=ae hbn 3;have z4:wn.cell? ⟨N1,4,JW⟩=JV (JO JP e4):=ae hbn 4;have z5:wn.cell? ⟨N1,5,JW⟩=JV (JO JP e5):=ae hbn 5;have z6:wn.cell? ⟨N1,6,JW⟩=JV (JQ e6):=ae hbn 6;have z7:wn.cell? ⟨N1,7,JW⟩=JV (JO JP e7):=ae hbn 7;have z8:wn.cell? ⟨N1,8,JW⟩=JV (JO JP e8):=ae hbn 8;have z9:wn.cell? ⟨N1,9,JW⟩=JV (JO JP e9):=ae hbn 9;have z10:wn.cell? ⟨N1,10,JW⟩=JV (JO JP e10):=ae hbn 10;have z11:wn.cell? ⟨N1,11,JW⟩=JV (JO JP e11):=ae hbn 11;have z12:wn.cell? ⟨N1,12,JW⟩=JV (JO JP e12):=ae hbn 12;have z13:wn.cell? ⟨N1,13,JW⟩=JV (JO JP e13):=ae hbn 13;have z14:wn.cell? ⟨N1,14,JW⟩=JV (JQ e14):=ae hbn 14;have hba:=al wn (JU #[JO JP e0,JO JP e1,JO JP e2,JO JP e3,JO JP e4,JO JP e5,JQ e6,JO JP e7,JO JP e8,JO JP e9,JO JP e10,JO JP e11,JO JP e12,JO JP e13,JQ e14] 67);have hlit:LK bK (wn.alloc (JU #[JO JP e0,JO JP e1,JO JP e2,JO JP e3,JO JP e4,JO JP e5,JQ e6,JO JP e7,JO JP e8,JO JP e9,JO JP e10,JO JP e11,JO JP e12,JO JP e13,JQ e14] 67)) (JR (JV ⟨wn.heap.size,0,JW⟩) 1 1) [(⟨e0,e1,e2,e3,e4,e5,e6,e7,e8,e9,e10,e11,e12,e13,e14⟩:Ent)]:=cF (heap_alloc_new wn _) _ rfl rfl;have HB8:=aa (ah HSB.out hba);have hown:=bE HOW.out (LM.of (S:=fun _=>False) HB8.out) (fun _ _ e=>e);have hsz:w8.heap.size≤(wn.alloc (JU #[JO JP e0,JO JP e1,JO JP e2,JO JP e3,JO JP e4,JO JP e5,JQ e6,JO JP e7,JO JP e8,JO JP e9,JO JP e10,JO JP e11,JO JP e12,JO JP e13,JQ e14] 67)).heap.size:=bu HSZW.out (bu HSB.out.size hba.size);have hv8:=hba.heap_of hvn;have HV8:=aa hv8;clear hvn hbn hba hv8
    gi_wp2_with (gi_at_builtin;go_loud (refine lO enT rfl (.tmp 73) (.tmp 75) rfl w8.heap.size (JR p M.length c9) (JR (JV ⟨wn.heap.size,0,JW⟩) 1 1) M [(⟨e0,e1,e2,e3,e4,e5,e6,e7,e8,e9,e10,e11,e12,e13,e14⟩:Ent)] rfl rfl hown hlit (by have:=HML.out;simp only [aG];omega) hsz ?_;intro v9 w10 hA9;obtain ⟨g9,c10,hv9⟩:=iP hA9.own;subst hv9;rw [ax,aG] at hA9;have HA9:=aa hA9;have k9:=(LM.grown hA9.grown).heap HV8.out (fun e2=>by have:=(HOW.out.lt _ e2).1;omega);have c19:=ae k9 0;have f19:=aE k9 0;clear hA9 hown hlit k9))
    exact FINA.out HYE.out _ _ _ HB8.out HA9.out
   case hdone =>
    intro D W hD hI hDW;rw [aT,← zn] at hI;obtain ⟨p,c9,hv,ho⟩:=hI.own;generalize mh r (dI x roots) x.lines=M at *;generalize (fq x.lines:Int)=hn at *;generalize gh x.lines=cb at *;have hr9:=hI.res;have v0:W.cell? ⟨w1.heap.size+1,0,JW⟩=JV (JR p M.length c9):=ae hv 0;have v1:W.cell? ⟨w1.heap.size+1,1,JW⟩=JV (JO JP hn):=ae hv 1;have v2:W.cell? ⟨w1.heap.size+1,2,JW⟩=JV (.bool cb):=ae hv 2;have a0:W.cell? ⟨w.heap.size+1+1,0,JW⟩=JV (JR JW 0 0):=ae hr9 0;have af0:W.frozen? ⟨w.heap.size+1+1,0,JW⟩=false:=aE hr9 0;have a1:W.cell? ⟨w.heap.size+1+1,1,JW⟩=JV (JO JP 0):=ae hr9 1;have af1:W.frozen? ⟨w.heap.size+1+1,1,JW⟩=false:=aE hr9 1;have a2:W.cell? ⟨w.heap.size+1+1,2,JW⟩=JV (.bool false):=ae hr9 2;have af2:W.frozen? ⟨w.heap.size+1+1,2,JW⟩=false:=aE hr9 2;have hzz:=(bp (bp (bp hr9 0 (JR p M.length c9)) 1 (JO JP hn)) 2 (.bool cb));have HZZ:=aa hzz;obtain ⟨WZ,hWZ⟩:∃ u,u=((W.setCell ⟨w.heap.size+1+1,0,JW⟩ (JR p M.length c9)).setCell ⟨w.heap.size+1+1,1,JW⟩ (JO JP hn)).setCell ⟨w.heap.size+1+1,2,JW⟩ (.bool cb):=⟨_,rfl⟩;have hbz:LM (fun q=>q=w.heap.size+1+1) W WZ:=by
     rw [hWZ];exact ((LM.set (S:=fun q=>q=w.heap.size+1+1) W rfl 0 _).trans (LM.set (S:=fun q=>q=w.heap.size+1+1) _ rfl 1 _)).trans (LM.set (S:=fun q=>q=w.heap.size+1+1) _ rfl 2 _)
    have HBZ:=aa hbz
    have HI2:=aa hI.low;have HO2:=aa ho;rw [← hWZ] at hzz;have HZ3:=aa hzz;clear hzz hr9 hv ho hI hbz;go_wp2_with fail;rw [← hWZ];refine re D _ (HBZ.out.heap hDW mOm) fun w' hw'=>⟨_,sO results13 _ _ (w.heap.size+1+1) _ _ _ rfl (hw'.heap HZ3.out mOm),p,c9,?_,?_,?_⟩
    ·rw [HN.out];rfl
    ·rw [HN.out];refine eH dH mDe (bE (bE HO2.out HBZ.out (fun q hq e2=>by have:=(HO2.out.lt q hq).1;omega)) hw' (fun q hq e2=>?_));obtain ⟨o,e3,e4⟩:=my HO2.out hq;rw [e2,hDW] at e3;obtain rfl:=Option.some.inj e3
     cases e4
    ·exact (HI2.out.trans (HBZ.out.below (fun q hq e2=>by omega) HI2.out.size)).trans (hw'.below (fun q hq e2=>by omega) (bu HI2.out.size HBZ.out.size))
end
section
variable {s0 s1 s2 s3 s4 s5 s6 s7 s8 s9 bq a0 a1 a2 a3 a4 a5 a6 a7 a8 a9 ab ad af ag ao b0 b2 b3 b4 b5 b6 b7 b8 b9 ba bb bc bd bf bt bv c0 c1 c2 c3 c4 c5 c6 c7 bg bh bk bm bo:Value}
attribute [local go_sem] Ent.cells
def Ig:List LU→Int
 | []=>0
 | k::_=>k.id
def sgK (l:List LU) (d:Int):Int:=match jd l d with | some x=>x.id | none=>Ig l
def sgE (r:LR) (e:Ent):Ent:=(mf r.keys r.school (sgK r.keys e.day) e).1
theorem Bj {l:List LU} {d:Int} (h:(jd l d).isSome=true):sgK l d=jc l d:=by
 unfold sgK jc
 cases hc:jd l d with
 | none=>rw [hc] at h;cases h
 | some x=>rfl
theorem Ar {l:List LU} {d:Int} {x:LU} (h:jd l d=JV x):x∈l:=by unfold jd at h;exact List.mem_reverse.1 (List.mem_of_find?_eq_some h)
theorem F5 {l:List LU} {d:Int} (h:(jd l d).isSome=false):sgK l d=(Ig l):=by
 unfold sgK
 cases hc:jd l d with
 | none=>rfl
 | some x=>rw [hc] at h;cases h
theorem Jc (rb g m cg eg eo n c k:Nat) (sc id er:Int) (x E:Ent) (W:World) (Q:Exit→Act→World→Prop) (h0:W.cell? ⟨rb,0,JW⟩=JV (JO JP sc)) (h1:W.cell? ⟨rb,1,JW⟩=JV (JR (JV ⟨g,0,JW⟩) m cg)) (hx:W.rangeAt eg (eo+k*15) x.cells.toList) (hrb:rb < W.heap.size) (heg:eg < W.heap.size) (j1:(k:Int) < (n:Int)) (ksg:∀ u,ac W.heap.size W u→Calls prog 81 #[.agg #[JO JP sc,JR (JV ⟨g,0,JW⟩) m cg],JO JP id,x.val] u (fun e w'=>e=JT (.tuple #[E.val,JO JP er])∧ac u.heap.size u w'))
  (hQ:∀ (c8 c9 ca cb cc cd ce cf ch ci cj:Value) (wx:World) (bx:Nat),W.heap.size≤bx→wx.heap[bx]? = JV (JU E.cells 67 (0,0))→ac W.heap.size W wx→Q .normal ⟨aq (s0::JR (JV ⟨eg,eo,JW⟩) n c::JS (JV ⟨rb,0,JW⟩)::s3::s4::s5::JO JP (k:Int)::JO JP id::s8::JS (JV ⟨bx,0,JW⟩)::[c8,a0,a1,a2,a3,a4,a5,a6,a7,a8,a9,ab,ad,af,ag,ao,b0,b2,b3,b4,b5,b6,b7,b8,b9,ba,bb,bc,bd,bf,c9,ca,cb,cc,cd,ce,cf,ch,ci,cj,bg,bh,bk,bm,bo]),[]⟩ wx) :
  (bW f32 8).wp prog Q ⟨aq (s0::JR (JV ⟨eg,eo,JW⟩) n c::JS (JV ⟨rb,0,JW⟩)::s3::s4::s5::JO JP (k:Int)::JO JP id::[s8,s9,bq,a0,a1,a2,a3,a4,a5,a6,a7,a8,a9,ab,ad,af,ag,ao,b0,b2,b3,b4,b5,b6,b7,b8,b9,ba,bb,bc,bd,bf,bt,bv,c0,c1,c2,c3,c4,c5,c6,c7,bg,bh,bk,bm,bo]),[]⟩ W:=by
 refine mOn ?_;generalize Q .normal=K at hQ ⊢;have HQ:=aa hQ;clear hQ
 conv=>arg 2;whnf
 have j2:(0:Int)≤(k:Int):=mOm
 have KSG:=aa ksg;have KS:∀ u,ac W.heap.size W u→ac W.heap.size W u∧u.cell? ⟨rb,0,JW⟩=JV (JO JP sc)∧u.cell? ⟨rb,1,JW⟩=JV (JR (JV ⟨g,0,JW⟩) m cg)∧u.rangeAt eg (eo+k*15) x.cells.toList:=fun u hu=>⟨hu,(hu.cell (p:=⟨rb,0,JW⟩) hrb).trans h0,(hu.cell (p:=⟨rb,1,JW⟩) hrb).trans h1,fun j v hv=>(hu.cell (p:=⟨eg,eo+k*15+j,JW⟩) heg).trans (hx j v hv)⟩
 clear ksg h0 h1 hx hrb heg;have hS:ac W.heap.size W W.drew∧W.drew.cell? ⟨rb,0,JW⟩=JV (JO JP sc)∧W.drew.cell? ⟨rb,1,JW⟩=JV (JR (JV ⟨g,0,JW⟩) m cg)∧W.drew.rangeAt eg (eo+k*15) x.cells.toList:=KS _ (Below.refl _ _).drew;refine JB (S:=fun u=>ac W.heap.size W u∧u.cell? ⟨rb,0,JW⟩=JV (JO JP sc)∧u.cell? ⟨rb,1,JW⟩=JV (JR (JV ⟨g,0,JW⟩) m cg)∧u.rangeAt eg (eo+k*15) x.cells.toList) (.take 0 (.take 1 (.take 2 (.take 3 (.take 4 (.take 5 (.two 6 10 (.take 7 (.take 8 (.take 9 (.one 10 (.one 11 (.take 12 .done)))))) (.one 6 (.take 7 (.take 8 (.take 9 (.one 11 (.take 12 .done))))))))))))) hS ?_
 iterate 5 refine aJ ?_
 refine xy ⟨_,_,_,_,_,_⟩ rfl mRf 67 (.tmp 45) mRf eg (eo+k*15) mRf x.cells.toList _ (fun w hSw=>hSw.2.2.2) underlying67 rfl mKr ?_;refine ar ?_;refine dn ?_ ?_
 ·refine bn ⟨_,_,_,_,_,_⟩ rfl mRf 81 _ _ mRf _ mRf call81 (KSG.out _ hS.1) ?_;rintro x x1 ⟨rfl,hb⟩;replace hS:=KS _ (ah hS.1 hb);refine ⟨_,rfl,hS,?_⟩
  (try clear hb)
  refine ar ?_
  iterate 3 refine aJ ?_
  have hlo_bx:W.heap.size≤x1.heap.size:=hS.1.size;refine aZ (bR ⟨_,_,_,_,_,_⟩ (JS (JV ⟨x1.heap.size,0,JW⟩)) (x1.alloc (JU entZ.cells 67)) rfl mRf (by go_simp;try rfl) ⟨KS _ (ah hS.1 (al _ _)),?_⟩);have hb:=al (x1) (JU entZ.cells 67);replace hS:=KS _ (ah hS.1 hb);have hx_bx:=heap_alloc_new (x1) (JU entZ.cells 67)
  (try clear hb)
  refine ar ?_;have hset:=KS _ (aQ hS.1 hlo_bx E.cells);refine aZ (bH ⟨_,_,_,_,_,_⟩ rfl mRf 67 _ _ mRf (x1.heap.size) E.cells mRf mRf _ _ hx_bx mKr rfl (by simp [Ent.cells,Value.oneCell']) ⟨hset,?_⟩);replace hS:=hset;clear hset;replace hx_bx:=setRow_heap (x1.alloc (JU entZ.cells 67)) (x1.heap.size) _ E.cells _ _ hx_bx
  (try simp only [Act.put])
  refine aJ ?_;simp only [dp,bj];exact HQ.out _ _ _ _ _ _ _ _ _ _ _ _ _ hlo_bx hx_bx hS.1
 ·have hlo_bx:W.heap.size≤W.heap.size:=aD _;refine bR ⟨_,_,_,_,_,_⟩ (JS (JV ⟨W.heap.size,0,JW⟩)) (W.drew.alloc (JU entZ.cells 67)) rfl mRf (by go_simp;try rfl) ⟨KS _ (ah hS.1 (al _ _)),?_⟩;have hb:=al (W.drew) (JU entZ.cells 67);replace hS:=KS _ (ah hS.1 hb);have hx_bx:=heap_alloc_new (W.drew) (JU entZ.cells 67);replace hx_bx:(W.drew.alloc (JU entZ.cells 67)).heap[W.heap.size]? = JV _:=hx_bx
  (try clear hb)
  refine ar ?_;refine aZ (bn ⟨_,_,_,_,_,_⟩ rfl mRf 81 _ _ mRf _ mRf call81 (KSG.out _ hS.1) ?_);rintro x x2 ⟨rfl,hb⟩;replace hS:=KS _ (ah hS.1 hb);replace hx_bx:=hb.heap_of hx_bx;refine ⟨_,rfl,hS,?_⟩
  (try clear hb)
  refine ar ?_
  iterate 3 refine aJ ?_
  have hset:=KS _ (aQ hS.1 hlo_bx E.cells);refine aZ (bH ⟨_,_,_,_,_,_⟩ rfl mRf 67 _ _ mRf (W.heap.size) E.cells mRf mRf _ _ hx_bx mKr rfl (by simp [Ent.cells,Value.oneCell']) ⟨hset,?_⟩);replace hS:=hset;clear hset;replace hx_bx:=setRow_heap x2 (W.heap.size) _ E.cells _ _ hx_bx
  (try simp only [Act.put])
  refine aJ ?_;simp only [dp,bj];exact HQ.out _ _ _ _ _ _ _ _ _ _ _ _ _ hlo_bx hx_bx hS.1
theorem AL {l:List LU} {d:Int} (h:∀ k∈l,I64 k.id):I64 (sgK l d):=by
 unfold sgK
 cases hc:jd l d with
 | some x=>exact h _ (Ar hc)
 |none=>cases l with
  | nil=>exact ⟨mDe,mDe⟩
  | cons a t=>exact h _ List.mem_cons_self
theorem nW {p:Prop} (h:p:=by
 go_wp2_with fail
 go_upto_region 8 with fail
 refine Jc w.heap.size g r.keys.length cg eg eo l.length c k r.school (sgK r.keys x.day) (mf r.keys r.school (sgK r.keys x.day) x).2 x (sgE r x) _ _ (ae hhn 0) (ae hhn 1) (HRX.out _ hbn) (ay hhn) (av heg hbn.size) j1 (KSG.out _ hbn) ?_
 intros
 rename_i wx bx hlo hbx hbr
 have HOX:=aa ((HO.out.next hbl).next hbr)
 generalize sgE r x=E at *;obtain ⟨e0,e1,e2,e3,e4,e5,e6,e7,e8,e9,e10,e11,e12,e13,e14⟩:=E;simp only [Ent.cells] at hbx;have z0:wx.cell? ⟨bx,0,JW⟩=JV (JO JP e0):=ae hbx 0;have z1:wx.cell? ⟨bx,1,JW⟩=JV (JO JP e1):=ae hbx 1;have z2:wx.cell? ⟨bx,2,JW⟩=JV (JO JP e2):=ae hbx 2;have z3:wx.cell? ⟨bx,3,JW⟩=JV (JO JP e3):=ae hbx 3;have z4:wx.cell? ⟨bx,4,JW⟩=JV (JO JP e4):=ae hbx 4;have z5:wx.cell? ⟨bx,5,JW⟩=JV (JO JP e5):=ae hbx 5;have z6:wx.cell? ⟨bx,6,JW⟩=JV (JQ e6):=ae hbx 6;have z7:wx.cell? ⟨bx,7,JW⟩=JV (JO JP e7):=ae hbx 7;have z8:wx.cell? ⟨bx,8,JW⟩=JV (JO JP e8):=ae hbx 8;have z9:wx.cell? ⟨bx,9,JW⟩=JV (JO JP e9):=ae hbx 9;have z10:wx.cell? ⟨bx,10,JW⟩=JV (JO JP e10):=ae hbx 10;have z11:wx.cell? ⟨bx,11,JW⟩=JV (JO JP e11):=ae hbx 11;have z12:wx.cell? ⟨bx,12,JW⟩=JV (JO JP e12):=ae hbx 12;have z13:wx.cell? ⟨bx,13,JW⟩=JV (JO JP e13):=ae hbx 13;have z14:wx.cell? ⟨bx,14,JW⟩=JV (JQ e14):=ae hbx 14;have hP:=HOX.out.next (al wx (JU #[JO JP e0,JO JP e1,JO JP e2,JO JP e3,JO JP e4,JO JP e5,JQ e6,JO JP e7,JO JP e8,JO JP e9,JO JP e10,JO JP e11,JO JP e12,JO JP e13,JQ e14] 67));have hlit:LK bK (wx.alloc (JU #[JO JP e0,JO JP e1,JO JP e2,JO JP e3,JO JP e4,JO JP e5,JQ e6,JO JP e7,JO JP e8,JO JP e9,JO JP e10,JO JP e11,JO JP e12,JO JP e13,JQ e14] 67)) (JR (JV ⟨wx.heap.size,0,JW⟩) 1 1) [(⟨e0,e1,e2,e3,e4,e5,e6,e7,e8,e9,e10,e11,e12,e13,e14⟩:Ent)]:=cF (heap_alloc_new wx _) _ rfl rfl;have hown:=hP.own;have hsz:=hP.low.size;have HP:=aa hP;clear hP hbx hlo hbr hhn hbn hbl;go_wp2_with (at_builtin;refine bB enT rfl (.tmp 50) (.tmp 52) rfl W.heap.size _ _ M [(⟨e0,e1,e2,e3,e4,e5,e6,e7,e8,e9,e10,e11,e12,e13,e14⟩:Ent)] rfl rfl hown hlit (by have:=HLM.out;simp only [aG];omega) hsz ?_;intro v9 w10 hA9;have H9:=aa (HP.out.app hA9);clear hA9 hown hsz hlit)
 go_roundw
 case rel=>exact ⟨k+1,mOm,by go_num,by rw [HNEW.out];exact H9.out⟩
 case measure=>simp [aw];omega):p:=h
theorem uT (r:LR) (g cg:Nat) (l:List Ent) (hok:∀ e∈l,e.Ok) (p:Option Addr) (c:Nat) (w:World) (h:LK bK w (JR p l.length c) l) (hl:l.length≤100000) (hk:LV w g r.keys) (hg:g < w.heap.size) (hkl:0 < r.keys.length∧r.keys.length≤1000) (hsz:∀ k∈r.keys,k.secret.size≤100000∧I64 k.id) (hs:I64 r.school) (hT:Tabs w) :
  Calls prog 32 #[.agg #[JO JP r.school,JR (JV ⟨g,0,JW⟩) r.keys.length cg],JR p l.length c] w fun e w'=>∃ v,e=JT v∧LQ bK 15 67 w w' v (l.map (sgE r)):=by
 have HL:=aa h;have HOK:=aa hok;have HK:=aa hk;have HSZ:=aa hsz;have HT:=aa hT;have hb0:=al w (JU #[JO JP r.school,JR (JV ⟨g,0,JW⟩) r.keys.length cg] 33);have hh:=heap_alloc_new w (JU #[JO JP r.school,JR (JV ⟨g,0,JW⟩) r.keys.length cg] 33);obtain ⟨W,hW⟩:∃ u,u=w.alloc (JU #[JO JP r.school,JR (JV ⟨g,0,JW⟩) r.keys.length cg] 33):=⟨_,rfl⟩;rw [← hW] at hb0 hh;clear h hok hk hsz hT;go_enter func32,ntmps32;go_wp2_with fail;rw [← hW];clear hW
 go_loopw [5,6] (fun v i wr=>∃ k:Nat,k≤l.length∧i=JO JP k∧LQ bK 15 67 W wr v ((l.take k).map (sgE r))) (fun _ i _=>l.length - (aw i).toNat)
 case atStart=>exact ⟨0,aR _,rfl,LQ.nil _ _ _ _⟩
 case round =>
  obtain ⟨k,hk,rfl,hO⟩:=hrel;obtain ⟨pv,cv,hv⟩:=hO.form;subst hv;by_cases hlt:k < l.length
  ·obtain ⟨eg,eo,hpe,heg,hrow⟩:=dc (kk:=15) HL.out dH rfl mOm;have hge:=ai hlt;have hra:=hrow k _ hge;have hx:=HOK.out _ (bD hlt);have j1:(k:Int) < (l.length:Int):=mOm;have j2:(0:Int)≤(k:Int):=mOm;have HNEW:Hid ((l.take (k+1)).map (sgE r)=(l.take k).map (sgE r)++[sgE r l[k]]):=aa (by rw [aL,hge,cU,List.map_append];rfl);have HLM:Hid (((l.take k).map (sgE r)).length≤100000):=aa (by rw [aX,aM];omega);generalize l[k]=x at *;have HRX:Hid (∀ u,ac w.heap.size w u→u.rangeAt eg (eo+k*15) x.cells.toList):=aa (fun u hu j v hv=>(hu.cell (p:=⟨eg,eo+k*15+j,JW⟩) heg).trans (hra j v hv));have hlow:=hO.low;have hbw:=ah hb0 hlow;have hhr:=hlow.heap_of hh;have HXO:=aa hx;have kc:=fun u (hu:ac w.heap.size w u)=>sj g cg r.school r.keys x.day u hkl.2 (HK.out.below hu hg) (av hg hu.size)
   have KC:=aa kc;have hS0:=Dz (W:=w) ⟨hbw,ae hhr 0,ae hhr 1,(HRX.out _ hbw 4 _ rfl:wr.cell? ⟨eg,eo+k*15+4,JW⟩=JV (JO JP x.day))⟩ (Below.refl _ wr).drew;have HO:=aa hO;generalize (l.take k).map (sgE r)=M at *;subst hpe;clear hra hrow hge hx kc hhr hO;have KSG:Hid (∀ u,ac w.heap.size w u→∀ v,ac u.heap.size u v→Calls prog 81 #[.agg #[JO JP r.school,JR (JV ⟨g,0,JW⟩) r.keys.length cg],JO JP (sgK r.keys x.day),x.val] v (fun e w'=>e=JT (.tuple #[(sgE r x).val,JO JP (mf r.keys r.school (sgK r.keys x.day) x).2])∧ac v.heap.size v w')):=aa (fun u hu v hv=>zY g cg r.school r.keys (sgK r.keys x.day) x v hkl.2 (HK.out.below (ah hu hv) hg) (fun k hk=>(HSZ.out k hk).1) (av hg (ah hu hv).size) hs (AL (fun k hk=>(HSZ.out k hk).2)) HXO.out (HT.out.below (ah hu hv)));obtain ⟨bs,hbs⟩:∃ b,b=(jd r.keys x.day).isSome:=⟨_,rfl⟩;rw [← hbs] at KC;have HCT:Hid (bs=true→jc r.keys x.day=sgK r.keys x.day):=aa (fun h=>(Bj (hbs ▸ h)).symm)
   have HCF:Hid (bs=false→∀ kk,r.keys[0]? = JV kk→sgK r.keys x.day=kk.id):=aa (fun h kk hkk=>by
    rw [F5 (hbs ▸ h)]
    revert hkk
    cases r.keys with
    | nil=>intro hh;cases hh
    | cons a t=>intro hh;injection hh with hh;rw [hh];rfl)
   have HNEW:Hid ((l.take (k+1)).map (sgE r)=M++[sgE r x]):=HNEW
   clear hbs;obtain ⟨w5,hw5⟩:∃ u,u=wr:=⟨_,rfl⟩
   go_upto_region 5 with fail
   refine Jy (S:=fun u=>ac w.heap.size w u∧u.cell? ⟨w.heap.size,0,JW⟩=JV (JO JP r.school)∧u.cell? ⟨w.heap.size,1,JW⟩=JV (JR (JV ⟨g,0,JW⟩) r.keys.length cg)∧u.cell? ⟨eg,eo+k*15+4,JW⟩=JV (JO JP x.day)) [(0,true),(1,true),(2,true),(3,true),(4,true),(5,true),(6,false),(7,true),(8,true),(9,true),(10,true),(11,true)] hS0 ?_;have hS:=hS0
   iterate 6 refine aj ?_
   refine aH 80 call80 (KC.out _ hS.1) ?_;rintro x wn ⟨rfl,hb⟩;replace hS:=Dz hS hb;have hbd:=ah (Below.refl _ wr).drew hb;refine ⟨_,rfl,hS,?_⟩;(try clear hb);refine ar ?_
   iterate 5 refine aj ?_
   simp only [aO,bj];have hbl:=hbd;have hbn:=hS.1;have hhn:=hbl.heap_of (hlow.heap_of hh);clear hS hS0 hbd
   cases bs
   rotate_left 1
   ·have hid:=HCT.out rfl;rw [hid];clear hid;exact nW
   ·obtain ⟨kk,hkk⟩:∃ kk,r.keys[0]? = JV kk:=⟨_,ai hkl.1⟩;have hid:=HCF.out rfl kk hkk;have hk0:=(HK.out.below hbn hg) 0 kk hkk;rw [Nat.zero_mul] at hk0;have k0:=hk0 0 _ rfl;have b1:=ae hhn 1;have j0:(0:Int) < (r.keys.length:Int):=mOm;rw [← hid] at k0;clear hid hkk hk0;exact nW
  ·obtain rfl:k=l.length:=mOm;have i1:¬ (l.length:Int) < (l.length:Int):=mOm;rw [aT] at hO ⊢;have hO:=hO.from_ hb0;rw [aX] at hO;have HO:=aa hO;clear hO;go_wp2_with fail;go_ret;exact ⟨_,rfl,HO.out⟩
end
section
attribute [local go_sem] Ent.cells
attribute [local go_sem] Oper.semAt_some
structure AqI (w:World) (M:List Ent) (W:World):Prop where
 low:ac w.heap.size w W
 size:w.heap.size+1≤W.heap.size
 own:∃ p c,W.heap[w.heap.size]? = JV (JU #[JR p M.length c] 34 (0,0))∧W.ownsRow (w.heap.size+1) 67 15 (JR p M.length c) M.length (br bK M)
theorem AqI.buts {w W W':World} {M:List Ent} {S:Nat→Prop} (h:AqI w M W) (hb:LM S W W') (hS:∀ q,S q→w.heap.size+1≤q) (hnc:∀ q,S q→∃ o,W.heap[q]? = JV o∧o.isCells=false):AqI w M W':=by
 obtain ⟨p,c,h1,h2⟩:=h.own;have ne:∀ q,q < w.heap.size+1→¬ S q:=fun q hq hs=>by have:=hS q hs;omega
 refine ⟨h.low.trans (hb.below (fun q hq e=>by have:=hS q e;omega) h.low.size),bu h.size hb.size,p,c,hb.heap h1 (ne _ mOm),bE h2 hb fun q hq hs=>?_⟩;obtain ⟨o,e1,e2⟩:=my h2 hq;obtain ⟨o',e3,e4⟩:=hnc q hs;rw [e1] at e3;obtain rfl:=Option.some.inj e3;rw [e4] at e2
 cases e2
theorem AqI.app {w W W' w8:World} {M:List Ent} {e:Ent} {p:Option Addr} {c:Nat} {v9:Value} (h:AqI w M W) (hb:ac W.heap.size W w8)
  (h1:W.heap[w.heap.size]? = JV (JU #[JR p M.length c] 34 (0,0))) (h2:W.ownsRow (w.heap.size+1) 67 15 (JR p M.length c) M.length (br bK M)) (hA:AppT bK 15 67 w8 (w.heap.size+1) (JR p M.length c) M [e] v9 W') :
  AqI w (M++[e]) (W'.setCell ⟨w.heap.size,0,JW⟩ v9)∧LM (fun q=>q=w.heap.size∨(Value.slice p M.length c).ownBlock=JV q) W (W'.setCell ⟨w.heap.size,0,JW⟩ v9):=by
 have hg:=LM.grown hA.grown;have hlt:∀ q,(Value.slice p M.length c).ownBlock=JV q→w.heap.size+1≤q∧q < W.heap.size:=fun q hq=>h2.lt q hq
 have hb2:LM (fun q=>(Value.slice p M.length c).ownBlock=JV q) W W':=(LM.of hb).trans hg;have ne:∀ q,q < w.heap.size+1→¬ (Value.slice p M.length c).ownBlock=JV q:=fun q hq hs=>by have:=hlt q hs;omega
 have hset:=LM.set (S:=fun q=>q=w.heap.size) W' rfl 0 v9;obtain ⟨p9,c9,hv9⟩:=eI hA.own;subst hv9;refine ⟨⟨?_,?_,p9,c9,?_,?_⟩,?_⟩
 ·exact (h.low.trans (hb2.below (fun q hq e=>by have:=hlt q e;omega) h.low.size)).trans (hset.below (fun q hq e=>by omega) (bu h.low.size hb2.size))
 ·exact bu h.size (bu hb2.size hset.size)
 ·have:=bp (hb2.heap h1 (ne _ mOm)) 0 (JR p9 (M++[e]).length c9);rw [this];rfl
 ·exact bE hA.own hset fun q hq e2=>by have:=(hA.own.lt q hq).1;omega
 ·exact (hb2.mono (fun _ _ h=>.inr h)).trans (hset.mono (fun _ _ h=>.inl h))
theorem AY (sb:Nat) (p:Option Addr) (c:Nat) (L:List LT) (w0 w:World) (hL:L.length≤4000) (hf:∀ y∈L,y.Fit) (hrow:LK fg w0 (JR p L.length c) L) (hr:Wr.Ready w0) (hsb:w.heap[sb]? = JV (JU #[JR p L.length c] 36 (0,0))) (hb0:ac w0.heap.size w0 w) :
  Calls prog 112 #[JR JW 0 0,.func (.func 94) #[] #[JS (JV ⟨sb,0,JW⟩)]] w fun e w'=>∃ v,e=JT v∧LQ bK 15 67 w w' v (cI L):=by
 have hsl:=ay hsb;have hx:=heap_alloc_new w (JU #[JR JW 0 0] 34);have hba:=al w (JU #[JR JW 0 0] 34);have hz:(w.alloc (JU #[JR JW 0 0] 34)).heap.size=w.heap.size+1:=fF ..;obtain ⟨W1,hW1⟩:∃ u,u=w.alloc (JU #[JR JW 0 0] 34):=⟨_,rfl⟩;rw [← hW1] at hx hba hz;have hI0:AqI w [] W1:=⟨hba,Nat.le_of_eq hz.symm,JW,0,hx,dK _ _ _ _⟩;have hK0:tR sb (JR p L.length c) w0 0 W1:=⟨hba.heap_of hsb,ah hb0 hba⟩;have hit:=uQ sb p c L w0 mOm hf hrow hr;have hb0l:=hb0.size
 have HEO:Hid (∀ k,k < (cI L).length→∃ e,(cI L)[k]? = JV e∧(cI L).getD k entZ=e):=aa (fun k hk=>by
  have hge:=ai hk
  exact ⟨_,hge,by rw [bi,hge];rfl⟩)
 have HLE:Hid ((cI L).length≤4000):=aa (by
  have:(cI L).length≤L.length:=by unfold cI;exact List.length_filterMap_le ..
  omega)
 generalize cI L=EL at *
 have HI0:=aa hI0;have HK0:=aa hK0;clear hrow hr hf hb0 hx hba hI0 hK0 hsb;refine (callsIn_wide (n:=4)).1 ?_;refine callsIn_of_wp_marks func112 rfl trivial ?_ rfl;refine wpIn_wide.2 ?_;simp only [ntmps112,dz,bA,cu,Nat.reduceAdd,Nat.reduceSub,Array.replicate_succ,Array.replicate_zero,List.push_toArray,List.append_toArray,dt,eJ];go_wp2_with fail;rw [← hW1];clear hW1
 refine rZ rfl (enters_of func94 mKr rfl) hit (fun _=>rfl) (fun k hk=>hk.elim)
  (fun k A B h hle hb=>⟨hb.heap h.1 mOm,h.2.trans (hb.below (fun q hq e=>by omega) h.2.size)⟩) HK0.out
  (fun k W=>AqI w (EL.take k) W) (fun _ _=>False)
  ?hIs ?hXs ?hIp ?hXp ?hI0 (fun k N a' W=>a'=⟨aq (JR JW 0 0::.func (.func 94) #[] #[JS (JV ⟨sb,0,JW⟩)]::JS (JV ⟨w.heap.size,0,JW⟩)::undef::JR JW 0 0::JS (JV ⟨N,0,JW⟩)::.func (.func 94) #[] #[JS (JV ⟨sb,0,JW⟩)]::(EL.getD k entZ).val::undef::undef::undef::undef::undef::[]),[]⟩∧W.heap[N]? = JV (JU (EL.getD k entZ).cells 67 (0,0))) ?hBp ?hassign ?hbody ?hdone ?hstop
 case hIs=>exact fun k A B h hb=>h.buts hb (fun _ h=>h.elim) (fun _ h=>h.elim)
 case hXs=>exact fun _ _ _ h _=>h
 case hIp =>
  rintro k A l r0 r' hle hl h;exact h.buts (nq A l (.loop r')) (fun q e=>by omega) (fun q e=>⟨.loop r0,by subst e;exact hl,rfl⟩)
 case hXp=>exact fun _ _ _ _ _ _ _ h=>h
 case hI0=>exact HI0.out
 case hBp=>exact fun k N a' A l r0 r' _ hlN hl h=>⟨h.1,(nq A l (.loop r')).heap h.2 (fun e=>by have:=h.2;rw [e,hl] at this;cases this)⟩
 case hassign =>
  intro lp k W K hI hK;generalize EL.getD k entZ=e at hK ⊢;obtain ⟨e0,e1,e2,e3,e4,e5,e6,e7,e8,e9,e10,e11,e12,e13,e14⟩:=e;have hve:Ent.val ⟨e0,e1,e2,e3,e4,e5,e6,e7,e8,e9,e10,e11,e12,e13,e14⟩=.agg #[JO JP e0,JO JP e1,JO JP e2,JO JP e3,JO JP e4,JO JP e5,JQ e6,JO JP e7,JO JP e8,JO JP e9,JO JP e10,JO JP e11,JO JP e12,JO JP e13,JQ e14]:=rfl;rw [hve];rw [hve] at hK
  gi_wp2
  exact hK _ _ ⟨rfl,heap_alloc_new W _⟩ (LM.alloc _ _ _)
 case hstop=>exact fun _ _ _ _ h _=>h.elim
 case hbody =>
  rintro lp k a' N1 W0 W hk hI0 ⟨r0,hlr⟩ hlp hb hKp ⟨rfl,hbx⟩ hle hN0 hN1;have hb':LM (fun q=>q=lp) W0 W:=hb.mono (fun q _ e=>e.resolve_left id);have hIW:=hI0.buts hb' (fun q e=>by omega) (fun q e=>⟨.loop r0,by subst e;exact hlr,rfl⟩);obtain ⟨p9,c9,hv0,ho0⟩:=hI0.own;obtain ⟨e,he1,he2⟩:=HEO.out k hk;rw [he2] at hbx ⊢;have HT:Hid (EL.take (k+1)=EL.take k++[e]):=aa (by rw [aL,he1];rfl);have HML:Hid ((EL.take k).length≤4000):=aa (by have:=HLE.out;rw [aM];omega);have hvW:=hb'.heap hv0 (show ¬ w.heap.size=lp by omega);have hoW:=bE ho0 hb' (fun q hq e2=>by obtain ⟨o,e3,e4⟩:=my ho0 hq;rw [e2,hlr] at e3;obtain rfl:=Option.some.inj e3;cases e4);have hn1:=aU hbx;generalize EL.take k=M at *
  have FINA:Hid (∀ u8 v9 u',ac W.heap.size W u8→AppT bK 15 67 u8 (w.heap.size+1) (JR p9 M.length c9) M [e] v9 u'→AqI w (EL.take (k+1)) (u'.setCell ⟨w.heap.size,0,JW⟩ v9)∧tR sb (JR p L.length c) w0 k (u'.setCell ⟨w.heap.size,0,JW⟩ v9)∧L5 W (u'.setCell ⟨w.heap.size,0,JW⟩ v9)∧∀ g,W0.heap.size≤g→g < N1→(u'.setCell ⟨w.heap.size,0,JW⟩ v9).heap[g]? = W.heap[g]?):=aa (fun u8 v9 u' hu hA=>by
   rw [HT.out];obtain ⟨q1,q2⟩:=hIW.app hu hvW hoW hA;have hlt:∀ q,(Value.slice p9 M.length c9).ownBlock=JV q→w.heap.size+1≤q∧q < W0.heap.size:=fun q hq=>ho0.lt q hq
   refine ⟨q1,⟨q2.heap hKp.1 ?_,hKp.2.trans (q2.below ?_ hKp.2.size)⟩,q2.nc ?_,fun g2 h1 h2=>q2.block g2 mOm ?_⟩
   ·rintro (e2 | e2)
    ·omega
    ·have:=hlt _ e2;omega
   ·rintro q hq (e2 | e2)
    ·omega
    ·have:=hlt _ e2;omega
   ·rintro q o (e2 | e2) ho
    ·subst e2;rw [hvW] at ho;obtain rfl:=Option.some.inj ho;rfl
    ·obtain ⟨o2,e3,e4⟩:=my hoW e2;rw [ho] at e3;obtain rfl:=Option.some.inj e3;exact e4
   ·rintro (e2 | e2)
    ·omega
    ·have:=hlt _ e2;omega)
  obtain ⟨e0,e1,e2,e3,e4,e5,e6,e7,e8,e9,e10,e11,e12,e13,e14⟩:=e
  simp only [Ent.cells] at hbx;have z0:W.cell? ⟨N1,0,JW⟩=JV (JO JP e0):=ae hbx 0;have z1:W.cell? ⟨N1,1,JW⟩=JV (JO JP e1):=ae hbx 1;have z2:W.cell? ⟨N1,2,JW⟩=JV (JO JP e2):=ae hbx 2;have z3:W.cell? ⟨N1,3,JW⟩=JV (JO JP e3):=ae hbx 3;have z4:W.cell? ⟨N1,4,JW⟩=JV (JO JP e4):=ae hbx 4;have z5:W.cell? ⟨N1,5,JW⟩=JV (JO JP e5):=ae hbx 5;have z6:W.cell? ⟨N1,6,JW⟩=JV (JQ e6):=ae hbx 6;have z7:W.cell? ⟨N1,7,JW⟩=JV (JO JP e7):=ae hbx 7;have z8:W.cell? ⟨N1,8,JW⟩=JV (JO JP e8):=ae hbx 8;have z9:W.cell? ⟨N1,9,JW⟩=JV (JO JP e9):=ae hbx 9;have z10:W.cell? ⟨N1,10,JW⟩=JV (JO JP e10):=ae hbx 10;have z11:W.cell? ⟨N1,11,JW⟩=JV (JO JP e11):=ae hbx 11;have z12:W.cell? ⟨N1,12,JW⟩=JV (JO JP e12):=ae hbx 12;have z13:W.cell? ⟨N1,13,JW⟩=JV (JO JP e13):=ae hbx 13;have z14:W.cell? ⟨N1,14,JW⟩=JV (JQ e14):=ae hbx 14;have v0:W.cell? ⟨w.heap.size,0,JW⟩=JV (JR p9 M.length c9):=ae hvW 0;have hba:=al W (JU #[JO JP e0,JO JP e1,JO JP e2,JO JP e3,JO JP e4,JO JP e5,JQ e6,JO JP e7,JO JP e8,JO JP e9,JO JP e10,JO JP e11,JO JP e12,JO JP e13,JQ e14] 67);have hlit:LK bK (W.alloc (JU #[JO JP e0,JO JP e1,JO JP e2,JO JP e3,JO JP e4,JO JP e5,JQ e6,JO JP e7,JO JP e8,JO JP e9,JO JP e10,JO JP e11,JO JP e12,JO JP e13,JQ e14] 67)) (JR (JV ⟨W.heap.size,0,JW⟩) 1 1) [(⟨e0,e1,e2,e3,e4,e5,e6,e7,e8,e9,e10,e11,e12,e13,e14⟩:Ent)]:=cF (heap_alloc_new W _) _ rfl rfl;have HBA:=aa hba;have hown:=bE hoW (LM.of (S:=fun _=>False) hba) (fun _ _ e=>e);have hsz:w.heap.size+1≤(W.alloc (JU #[JO JP e0,JO JP e1,JO JP e2,JO JP e3,JO JP e4,JO JP e5,JQ e6,JO JP e7,JO JP e8,JO JP e9,JO JP e10,JO JP e11,JO JP e12,JO JP e13,JQ e14] 67)).heap.size:=bu hIW.size hba.size;have HV8:=aa (hba.heap_of hvW);have HOW:=aa hoW;clear hb hb' hIW hI0 hKp hv0 ho0 he1 he2 hvW hoW hbx hk hle hN0 hN1 hba hn1
  gi_wp2_with (gi_at_builtin;go_loud (refine lO enT rfl (.tmp 8) (.tmp 10) rfl (w.heap.size+1) (JR p9 M.length c9) (JR (JV ⟨W.heap.size,0,JW⟩) 1 1) M [(⟨e0,e1,e2,e3,e4,e5,e6,e7,e8,e9,e10,e11,e12,e13,e14⟩:Ent)] rfl rfl hown hlit (by have:=HML.out;simp only [aG];omega) hsz ?_;intro v9 w10 hA9;obtain ⟨g9,c10,hv9⟩:=iP hA9.own;subst hv9;rw [ax,aG] at hA9;have HA9:=aa hA9;have k9:=(LM.grown hA9.grown).heap HV8.out (fun e2=>by have:=(HOW.out.lt _ e2).1;omega);have c19:=ae k9 0;have f19:=aE k9 0;clear hA9 hown hlit k9))
  exact FINA.out _ _ _ HBA.out HA9.out
 case hdone =>
  intro D W hD hI hDW;rw [aT] at hI;obtain ⟨p9,c9,hv,ho⟩:=hI.own;have v0:W.cell? ⟨w.heap.size,0,JW⟩=JV (JR p9 EL.length c9):=ae hv 0;have HI:=aa hI;have HO:=aa ho;clear hI ho hv;go_wp2_with fail;refine re D _ hDW fun w' hw'=>⟨JR p9 EL.length c9,by simp [results,results112],_,rfl,?_⟩
  refine LQ.of (iO (bE HO.out hw' (fun q hq e2=>?_)) mOm) (HI.out.low.trans (hw'.below (fun q hq e2=>by omega) HI.out.low.size));obtain ⟨o,e3,e4⟩:=my HO.out hq;rw [e2,hDW] at e3;obtain rfl:=Option.some.inj e3
  cases e4
theorem xa (sb:Nat) (p:Option Addr) (c:Nat) (L:List LT) (w0 w:World) (hL:L.length≤4000) (hf:∀ y∈L,y.Fit) (hrow:LK fg w0 (JR p L.length c) L) (hr:Wr.Ready w0) (hsb:w.heap[sb]? = JV (JU #[JR p L.length c] 36 (0,0))) (hb0:ac w0.heap.size w0 w) :
  Calls prog 48 #[.func (.func 94) #[] #[JS (JV ⟨sb,0,JW⟩)]] w fun e w'=>∃ v,e=JT v∧LQ bK 15 67 w w' v (cI L):=by
 have ks:=AY sb p c L w0 w hL hf hrow hr hsb hb0;clear hf hrow hr hsb hb0;go_enter func48,ntmps48;go_wp2_with fail;refine ks.mono ?_;clear ks;rintro _ w1 ⟨v,rfl,hO⟩;obtain ⟨p9,c9,rfl⟩:=hO.form;have HO:=aa hO;clear hO;go_wp2_with fail;go_ret;exact ⟨_,rfl,HO.out⟩
theorem B6 (y:LT) (w:World):Calls prog 47 #[.agg #[JQ y.key,JQ y.hash,JQ y.body]] w fun e w'=>e=JT (.bool (y.body.toList.isEmpty))∧ac w.heap.size w w':=by
 obtain ⟨k,h,b⟩:=y;have hba:=al w (JU #[JQ k,JQ h,JQ b] 69);by_cases hb:b.toList=[]
 ·have t1:b.toList.isEmpty=true:=by rw [hb];rfl
  go_enter func47,ntmps47;go_wp2_with fail;go_ret;exact ⟨by simp [t1],hba⟩
 ·have t1:b.toList.isEmpty=false:=by cases hx:b.toList with
   | nil=>exact absurd hx hb
   | cons _ _=>rfl
  go_enter func47,ntmps47
  go_wp2_with fail;go_ret;exact ⟨by simp [t1],hba⟩
end
section
def lm (ks:List TE):List Value:=ks.flatMap fun r=>r.1.cells.toList
theorem sT:∀ ks:List TE,lm ks=br bK (ks.map Prod.fst)
 | []=>rfl
 | k::ks=>by
  show k.1.cells.toList++lm ks=_
  rw [sT ks]
  rfl
theorem E5 (L:List Ent):lm L.zipIdx=br bK L:=by rw [sT,List.zipIdx_map_fst]
theorem lT (ks:List TE):(lm ks).length=ks.length*15:=by
 induction ks with
 | nil=>rfl
 | cons r l ih =>
  show (r.1.cells.toList++lm l).length=_
  rw [ax,ih]
  show 15+_=_
  simp only [bA];omega
theorem yc:∀ (ks:List TE) (t:Nat),(lm ks)[t]? = (ks[t / 15]?).bind (fun r=>r.1.cells.toList[t%15]?)
 | [],t=>by simp [lm]
 | r::l,t=>by
  show (r.1.cells.toList++lm l)[t]? = _
  have h15:r.1.cells.toList.length=15:=rfl
  by_cases ht:t < 15
  ·rw [List.getElem?_append_left mOm,show t / 15=0 by omega,show t%15=t by omega];rfl
  ·rw [List.getElem?_append_right mOm,h15,yc l (t - 15),show t / 15=(t - 15) / 15+1 by omega,show t%15=(t - 15)%15 by omega];rfl
theorem ym (ks:List TE):flatK ek 15 ks.toArray=(lm ks).toArray:=by
 apply Array.ext
 ·simp [lT]
 ·intro t h1 h2;have hl:t < ks.length*15:=by simpa using h1
  have hk:t / 15 < ks.length:=mOm;have hg:=yc ks t;rw [ai hk,ai (by rw [lT];exact hl)] at hg;simp only [Option.bind_some] at hg;have h15:t%15 < (ks[t / 15]).1.cells.toList.length:=by show t%15 < 15;omega
  rw [ai h15] at hg;simp only [Option.some.injEq] at hg;have h3:(flatK ek 15 ks.toArray)[t]=(ek ks.toArray[t / 15]!)[t%15]!:=by
   have:=get_flatK ek 15 ks.toArray t (by simpa using hl)
   rwa [getElem!_pos _ t h1] at this
  rw [h3]
  simp only [List.getElem_toArray];rw [hg,getElem!_pos ks.toArray (t / 15) (by simpa using hk)];simp only [List.getElem_toArray,ek];rw [getElem!_pos _ (t%15) h15]
theorem B7 {w:World} {g:Nat} {cur:Array Value} {e:TypeId} {ks:List TE} (hb:w.heap[g]? = JV (JU cur e (0,0))) (ht:cur.toList.take (ks.length*15)=lm ks):HoldsK ek 15 w g 0 ks.toArray:=by
 unfold HoldsK;rw [ym];intro j hj;have hj':j < (lm ks).length:=by simpa using hj
 have hj15:j < ks.length*15:=by rwa [lT] at hj'
 refine ⟨?_,by simp [World.frozen?,hb]⟩;have h1:(cur.toList.take (ks.length*15))[j]? = (lm ks)[j]?:=by rw [ht]
 rw [dJ hj15] at h1;simp only [World.cell?,hb,bM];simp only [Option.isSome_none,Bool.false_eq_true,if_false];rw [← Zgt,h1,ai hj',getElem!_pos _ j hj];simp
theorem Ek (cur:Array Value) (xs:List Value) (h:xs.length≤cur.size):(putCells id 0 xs.toArray cur).toList.take xs.length=xs:=by
 apply List.ext_getElem?;intro j;by_cases hj:j < xs.length
 ·rw [dJ hj,Zgt];simp [putCells,hj,show j < cur.size by omega]
 ·rw [List.getElem?_take_eq_none mOm,List.getElem?_eq_none mOm]
theorem zB {w:World} {g n:Nat} {os:Array Obj} {cur:Array Value} {e:TypeId} {fr:Nat×Nat} (ts:List TE) (hb:w.heap[g]? = JV (JU cur e fr)) :
  (sortWorldK ek 15 w g 0 n ts.toArray os).heap[g]? = JV (JU (putCells id 0 (lm ts).toArray cur) e fr):=by
 have hg:g < w.heap.size:=(Array.getElem?_eq_some_iff.1 hb).1;unfold sortWorldK putRowK;rw [ym,heap_grow_old _ _ (by simpa using hg)];simp [putRow,mapBlock,Sort.ahead,dX,hb,onCells]
theorem vz {w:World} {g n:Nat} {os:Array Obj} (d:Array TE):w.grownBy (sortWorldK ek 15 w g 0 n d os) (JV g):=by
 unfold sortWorldK putRowK;refine ⟨rfl,rfl,rfl,mSi,fun k hk hne=>?_⟩;rw [heap_grow_old _ _ (by simpa using hk)];have:g ≠ k:=fun e=>hne (by rw [e])
 simp [putRow,mapBlock,Sort.ahead,dX,this]
theorem vH {w:World} {base g cap n:Nat} {e:TypeId} {os:Array Obj} {cur:Array Value} {ks ts:List TE} (hl:ts.length=ks.length) (hbase:base≤g) (hb:w.heap[g]? = JV (JU cur e (0,0)))
  (h1:ks.length≤cap) (h2:cap≤maxLen) (h3:cur.size=cap*15) :
  (sortWorldK ek 15 w g 0 n ts.toArray os).ownsRow base e 15 (JR (JV ⟨g,0,JW⟩) ks.length cap) ks.length (lm ts):=
 ⟨by rw [lT,hl],.inr ⟨g,cap,_,rfl,hbase,zB _ hb,h1,h2,by simp [putCells,h3],by rw [← hl,← lT];exact Ek cur _ (by rw [lT];omega)⟩⟩
theorem Fo (p:Option Addr) (cap:Nat) (W:World) :
  Calls prog 178 #[JR p 0 cap,JO JP 0,JO JP (0:Nat),.func (.func 50) #[] #[]] W fun e w'=>e=JT (.tuple #[])∧w'=W:=by
 go_enter func178,ntmps178;go_wp2_with fail;refine wp_loop_rounds 1 ?_;rw [rounds_succ];go_wp2_with fail;exact ⟨rfl,_,results_none rfl _ _ _,rfl,rfl⟩
theorem Ga (w0 w:World) (v:Value) (L:List Ent) (h:LQ bK 15 67 w0 w v L) (hl:L.length≤19) :
  Calls prog 49 #[v,.func (.func 50) #[] #[]] w fun e w'=>e=JT (.tuple #[])∧∃ L',L'.length=L.length∧BrS Ent.id L L'∧LQ bK 15 67 w0 w' v L'∧LM (fun q=>v.ownBlock=JV q) w w':=by
 have hown:=h.own;rcases hown.2 with ⟨rfl,h0⟩ | ⟨g,cap,cur,rfl,hbase,hgb,h1,h2,h3,h4⟩
 ·obtain rfl:=List.eq_nil_of_length_eq_zero h0;exact (uW JW 0 0 w (fun w'=>w'=w) mOm (Fo JW 0 w)).mono fun e w' ⟨he,hw⟩=>⟨he,[],rfl,BrS.nil,by rw [hw];exact h,by rw [hw];exact LM.refl _ _⟩
 ·have hH:HoldsK ek 15 w g 0 (aq L.zipIdx):=B7 hgb (by rw [iu,h4,E5]);have hgl:g < w.heap.size:=aU hgb;refine (il g cap L w hH hgl hl).mono ?_;rintro e w' ⟨rfl,k,os,ts,rfl,hp,hs⟩;have hlen:ts.length=L.length:=by rw [hp.length_eq,iu]
  have hlm:(ts.map Prod.fst).length=L.length:=by rw [aX,hlen]
  have hgr:w.grownBy (sortWorldK ek 15 w g 0 k ts.toArray os) (JV g):=vz _;have hbt:LM (fun q=>(Value.slice (JV ⟨g,0,JW⟩) L.length cap).ownBlock=JV q) w (sortWorldK ek 15 w g 0 k ts.toArray os):=LM.grown hgr;have how:=vH (base:=w0.heap.size) (n:=k) (os:=os) (ks:=L.zipIdx) (ts:=ts) (by rw [hlen,iu]) hbase hgb (by rw [iu];exact h1) h2 h3;rw [iu,sT] at how;refine ⟨rfl,ts.map Prod.fst,hlm,BrS.of hp hs,⟨⟨_,_,by rw [hlm]⟩,by rw [hlm];exact how,h.low.trans (hbt.below (fun q hq e=>by have e:g=q:=Option.some.inj e;omega) h.low.size)⟩,hbt⟩
end
section
def pL (L:List LT):Prop:=∃ y∈L,y.body.toList=[]
theorem zD (p:Option Addr) (c:Nat) (L:List LT) (w:World) (h:LK fg w (JR p L.length c) L) (hl:L.length≤100000) :
  Calls prog 111 #[JR p L.length c,.func (.func 47) #[] #[]] w fun e w'=>∃ k:Int,e=JT (JO JP k)∧(0≤k↔pL L)∧ac w.heap.size w w':=by
 have HL:=aa h;clear h;go_enter func111,ntmps111;go_wp2_with fail
 go_loopw [8] (fun i wr=>∃ j:Nat,j≤L.length∧i=JO JP j∧ac w.heap.size w wr∧Hid (∀ y∈L.take j,y.body.toList ≠ [])) (fun i _=>L.length - (aw i).toNat)
 case atStart=>exact ⟨0,aR _,rfl,Below.refl _ _,aa (fun y hy=>by cases hy)⟩
 case round =>
  obtain ⟨j,hj,rfl,hb,HN⟩:=hrel;by_cases hlt:j < L.length
  ·obtain ⟨g,o,hp,hg,hr⟩:=dc (kk:=3) HL.out (fun _=>rfl) rfl mOm;have hge:=ai hlt;have hrx:=hr j _ hge;have HT:Hid (L.take (j+1)=L.take j++[L[j]]):=aa (by rw [aL,hge];rfl);have HM:Hid (L[j]∈L):=aa (bD hlt);generalize L[j]=y at *;have kh:=B6 y wr;obtain ⟨yk,yh,yb⟩:=y;have z0:wr.cell? ⟨g,o+j*3,JW⟩=JV (JQ yk):=(hb.cell (p:=⟨g,o+j*3,JW⟩) hg).trans (hrx 0 _ rfl);have z1:wr.cell? ⟨g,o+j*3+1,JW⟩=JV (JQ yh):=(hb.cell (p:=⟨g,o+j*3+1,JW⟩) hg).trans (hrx 1 _ rfl);have z2:wr.cell? ⟨g,o+j*3+2,JW⟩=JV (JQ yb):=(hb.cell (p:=⟨g,o+j*3+2,JW⟩) hg).trans (hrx 2 _ rfl);have i1:(j:Int) < (L.length:Int):=mOm;have i2:(0:Int)≤(j:Int):=mOm;subst hp;clear hr hrx hge;obtain ⟨bt,hbt⟩:∃ b,yb.toList.isEmpty=b:=⟨_,rfl⟩;simp only at kh;rw [hbt] at kh;have HBT:=aa hbt;clear hbt;have HB:=aa hb;clear hb;go_wp2_with fail;refine kh.mono ?_;clear kh;rintro _ w5 ⟨rfl,hb5⟩;have HB5:=aa (ah HB.out hb5);clear hb5 z0 z1 z2
   cases bt
   ·have HN2:Hid (∀ y∈L.take (j+1),y.body.toList ≠ []):=aa (by
     rw [HT.out];intro y hy;rcases List.mem_append.1 hy with hy | hy
     ·exact HN.out y hy
     ·rw [List.mem_singleton.1 hy];intro e;have:=HBT.out;rw [show yb.toList=[] from e] at this
      cases this)
    go_wp2_with fail
    go_roundw
    case rel=>exact ⟨j+1,mOm,by go_num,HB5.out,HN2⟩
    case measure=>simp [aw];omega
   ·go_wp2_with fail;go_ret;refine ⟨(j:Int),rfl,⟨fun _=>⟨_,HM.out,?_⟩,fun _=>by omega⟩,HB5.out⟩;exact List.isEmpty_iff.1 HBT.out
  ·obtain rfl:j=L.length:=mOm;have i1:¬ (L.length:Int) < (L.length:Int):=mOm;have HB:=aa hb;clear hb;go_wp2_with fail;go_ret;refine ⟨-1,rfl,⟨fun h=>absurd h mDe,fun ⟨y,hy,he⟩=>?_⟩,HB.out⟩;have:=HN.out y (by rw [aT];exact hy);exact absurd he this
theorem vo (p:Option Addr) (c:Nat) (L:List LT) (w:World) (h:LK fg w (JR p L.length c) L) (hl:L.length≤100000) :
  Calls prog 46 #[JR p L.length c,.func (.func 47) #[] #[]] w (ic (pL L) w):=by
 have ki:=zD p c L w h hl;have HP:=aa (fun (e:Ending) (w':World) (h:∃ b:Bool,e=JT (.bool b)∧(b=true↔pL L)∧ac w.heap.size w w')=>(show ic (pL L) w e w' from h));clear h;go_enter func46,ntmps46;go_wp2_with fail;refine ki.mono ?_;clear ki;rintro _ w1 ⟨k,rfl,hk,hb⟩;have HK:=aa hk;clear hk;by_cases h0:0≤k
 ·have t1:decide ((0:Int)≤k)=true:=decide_eq_true h0;go_wp2_with fail;go_ret;exact HP.out _ _ ⟨true,mSi,⟨fun _=>HK.out.1 h0,fun _=>rfl⟩,hb⟩
 ·have t1:decide ((0:Int)≤k)=false:=decide_eq_false h0;go_wp2_with fail;go_ret;exact HP.out _ _ ⟨false,mSi,⟨fun h=>(nomatch h),fun h=>absurd (HK.out.2 h) mOm⟩,hb⟩
