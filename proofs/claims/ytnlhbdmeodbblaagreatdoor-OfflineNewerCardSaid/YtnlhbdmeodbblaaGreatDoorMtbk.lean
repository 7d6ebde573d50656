/- Lemmas. -/
import Derived.Test.YtnlhbdmeodbblaaGreatDoorMtbi
set_option maxRecDepth 100000
set_option maxHeartbeats 16000000
set_option linter.all false
open Go.Proofs.Tryz
open Go.IntWalk renaming i64_in->aH
open Go.Lib renaming cell_of_heap->ae,frozen_of_heap->aE,hid->aa
open List renaming cons_append->eY,filterMap_cons_some->gM,filter_append->dV,filter_cons_of_neg->de,filter_cons_of_pos->dG,getD_eq_getElem?_getD->bi,getElem?_eq_getElem->ai,getElem_mem->bA,length_append->ap,length_cons->bB,length_filter_le->eK,length_map->aU,length_nil->cJ,length_singleton->aB,length_take->aI,nil_append->dI,size_toArray->fa,take_add_one->aR,take_length->aT,toArray->aK
open Nat renaming le_refl->az,le_trans->aV,lt_of_lt_of_le->ax,zero_le->aP
open Option renaming toList_some->df
open Go.RowKit renaming Below->ac,intOf->aw
open Go.World renaming ownsRow_nil->dX,size_alloc->fJ
open Go.Ending renaming returned->Oe
open Go.IntKind renaming i64->Oa
open Go.Obj renaming cells->Of
open Go.Value renaming int->N9,string->Ob,slice->Oc,pointer->Od
open Option renaming some->Og,none->Oh
namespace Go.Proofs.YtnlhbdmeodbblaaGreatDoor
open Go Go.RowKit Go.Sort Go.Lib
section
attribute [local go_sem] Ent.cells
attribute [local go_sem] Oper.semAt_some
open Classical in
noncomputable def ip(x:fc)(roots:List aC)(r:bH)(asof:Int):VerE:=if dS x roots r asof=0 then ⟨fA r (dW x roots) x.lines,fE x.lines,gN x.lines⟩ else ⟨[],0,false⟩
theorem xR{fn:Func}{p u:Tmp}(h:fn.results=#[.cell p 51,.tmp u])(tmps:Array Value)(w:World)(g:Nat)(v0 v1 v2:Value)(hp:tmps.getD p undef=Od (Og ⟨g,0,Oh⟩))(hg:w.heap[g]? = Og (Of #[v0,v1,v2] 51 (0,0))) :
  (results fn tmps).run prog w=.ok (.tuple #[.agg #[v0,v1,v2],tmps.getD u undef]) w:=by
 rw[results_cell_tmp h,hp];have:=run_loadVar_row (P:=prog) w g 51 51 #[v0,v1,v2] (0,0) _ hg underlying51 rfl mKr;simp only[asAddr,Sem.run_pure,Result.andThen_ok,this]
theorem MI{P:Program}{fn:Func}{tmps:Array Value}{R:Ending->World->Prop}{W:World}(h:∃v,(results fn tmps).run P W=.ok v W/\R (Oe v) W):LeavesInM Fence.wide 4 P fn tmps R [] .returning W:=h
theorem enT:RowT prog bL 15 67 34 where
 len _:=rfl
 one x u hu:=by
  simp only[bL,Ent.cells,List.mem_cons,List.not_mem_nil,or_false] at hu;rcases hu with rfl|rfl|rfl|rfl|rfl|rfl|rfl|rfl|rfl|rfl|rfl|rfl|rfl|rfl|rfl <;> rfl
 pos:=mDe
 und:=underlying34
 info:=⟨_,_,rfl,rfl,rfl,mDe,mDe⟩
def okE(r:bH)(at_:aC)(e:Ent):Bool:=decide (e.day<=at_.day)&&zR r at_ e
theorem Dz(r:bH)(at_:aC):∀L:List bT,fA r at_ L=(cT L).filter (okE r at_)
 | []=>rfl
 | y::L=>by
  have ih:=Dz r at_ L;unfold fA cT at ih |-;by_cases h0:(ek y.body.data.toList).2=0
  .have hy:Af y=Og (ek y.body.data.toList).1:=if_pos h0;rw[gM hy];by_cases hc:okE r at_ (ek y.body.data.toList).1=true
   .have hs:jM r at_ y=Og (ek y.body.data.toList).1:=by
     unfold jM;unfold okE zR at hc;rw[Bool.and_eq_true,decide_eq_true_eq,decide_eq_true_eq] at hc;rw[if_pos ⟨h0,hc.1,hc.2⟩]
    rw[gM hs,dG hc,ih]
   .have hs:jM r at_ y=Oh:=by
     unfold jM;rw[if_neg];rintro⟨-,h1,h2⟩;refine hc ?_;unfold okE zR;rw[decide_eq_true h1,decide_eq_true h2];rfl
    rw[List.filterMap_cons_none hs,de hc,ih]
  .have hy:Af y=Oh:=if_neg h0;have hs:jM r at_ y=Oh:=by
    unfold jM;rw[if_neg (fun h=>h0 h.1)]
   rw[List.filterMap_cons_none hy,List.filterMap_cons_none hs,ih]
theorem oY{w:World}{base k n:Nat}{e:TypeId}{v:Value}{xs:List Value}(h:w.ownsRow base e k v n xs){q:Nat}(hq:v.ownBlock=Og q):∃o,w.heap[q]? = Og o/\o.isCells=true:=by
 obtain⟨-,(⟨rfl,-⟩|⟨g,c,cur,rfl,-,hg,-⟩)⟩:=h
 .cases hq
 .obtain rfl:=Option.some.inj hq;exact⟨_,hg,rfl⟩
structure CkI (w:World) (vb N rg rs at_:Nat) (o1 o2 o3:Obj) (hid:Int) (cl:Bool) (M:List Ent) (W:World):Prop where
 low:ac w.heap.size w W
 size:N<=W.heap.size
 ring:W.heap[rg]? = Og o1
 res:W.heap[rs]? = Og o2
 root:W.heap[at_]? = Og o3
 own:∃p c,W.heap[vb]? = Og (Of #[Oc p M.length c,N9 Oa hid,.bool cl] 51 (0,0))/\W.ownsRow N 67 15 (Oc p M.length c) M.length (aN bL M)
theorem CkI.buts{w W W':World}{vb N rg rs at_:Nat}{o1 o2 o3:Obj}{hid:Int}{cl:Bool}{M:List Ent}{S:Nat->Prop}(h:CkI w vb N rg rs at_ o1 o2 o3 hid cl M W)(hb:aF S W W')(hN:vb<N/\rg<N/\rs<N/\at_<N/\w.heap.size<=N)(hS:∀q,S q->N<=q)(hnc:∀q,S q->∃o,W.heap[q]? = Og o/\o.isCells=false):CkI w vb N rg rs at_ o1 o2 o3 hid cl M W':=by
 obtain⟨p,c,h1,h2⟩:=h.own;have ne:∀q,q<N->¬S q:=fun q hq hs=>by have:=hS q hs;omega
 refine⟨h.low.trans (hb.below (fun q hq e=>by have:=hS q e;omega) h.low.size),aV h.size hb.size,hb.heap h.ring (ne _ hN.2.1),hb.heap h.res (ne _ hN.2.2.1),hb.heap h.root (ne _ hN.2.2.2.1),p,c,hb.heap h1 (ne _ hN.1),bK h2 hb fun q hq hs=>?_⟩;obtain⟨o,e1,e2⟩:=oY h2 hq;obtain⟨o',e3,e4⟩:=hnc q hs;rw[e1] at e3;obtain rfl:=Option.some.inj e3;rw[e2] at e4;cases e4
theorem CkI.app{w W W':World}{vb N rg rs at_:Nat}{o1 o2 o3:Obj}{hid:Int}{cl:Bool}{M:List Ent}{e:Ent}{p:Option Addr}{c:Nat}{v9:Value}{w8:World}(h:CkI w vb N rg rs at_ o1 o2 o3 hid cl M W)(hb:ac W.heap.size W w8)(hN:vb<N/\rg<N/\rs<N/\at_<N/\w.heap.size<=N/\w.heap.size<=vb/\rg≠vb/\rs≠vb/\at_≠vb)
  (h1:W.heap[vb]? = Og (Of #[Oc p M.length c,N9 Oa hid,.bool cl] 51 (0,0))) (h2:W.ownsRow N 67 15 (Oc p M.length c) M.length (aN bL M)) (hA:AppT bL 15 67 w8 N (Oc p M.length c) M [e] v9 W') :
  CkI w vb N rg rs at_ o1 o2 o3 hid cl (M++[e]) (W'.setCell ⟨vb,0,Oh⟩ v9)/\aF (fun q=>q=vb\/(Value.slice p M.length c).ownBlock=Og q) W (W'.setCell ⟨vb,0,Oh⟩ v9):=by
 have hg:=aF.grown hA.grown;have hlt:∀q,(Value.slice p M.length c).ownBlock=Og q->N<=q/\q<W.heap.size:=fun q hq=>h2.lt q hq
 have hb2:aF (fun q=>(Value.slice p M.length c).ownBlock=Og q) W W':=(aF.of hb).trans hg;have ne:∀q,q<N->¬(Value.slice p M.length c).ownBlock=Og q:=fun q hq hs=>by have:=hlt q hs;omega
 have hset:=aF.set (S:=fun q=>q=vb) W' rfl 0 v9;obtain⟨p9,c9,hv9⟩:=fZ hA.own;subst hv9;refine⟨⟨?_,?_,?_,?_,?_,p9,c9,?_,?_⟩,?_⟩
 .exact(h.low.trans (hb2.below (fun q hq e=>by have:=hlt q e;omega) h.low.size)).trans (hset.below (fun q hq e=>by omega) (aV h.low.size hb2.size))
 .exact aV h.size (aV hb2.size hset.size)
 .rw[dA (Ne.symm hN.2.2.2.2.2.2.1)];exact hb2.heap h.ring (ne _ hN.2.1)
 .rw[dA (Ne.symm hN.2.2.2.2.2.2.2.1)];exact hb2.heap h.res (ne _ hN.2.2.1)
 .rw[dA (Ne.symm hN.2.2.2.2.2.2.2.2)];exact hb2.heap h.root (ne _ hN.2.2.2.1)
 .have:=bj (hb2.heap h1 (ne _ hN.1)) 0 (Oc p9 (M++[e]).length c9);rw[this];rfl
 .exact bK hA.own hset fun q hq e2=>by have:=(hA.own.lt q hq).1;omega
 .exact(hb2.mono (fun _ _ h=>.inr h)).trans (hset.mono (fun _ _ h=>.inl h))
theorem Mi(l:List UInt8):Lib.hasSuffix l [53]=(l.getLast? == Og 53):=by
 unfold Lib.hasSuffix;rw[Bool.eq_iff_iff,List.isSuffixOf_iff_suffix,beq_iff_eq];constructor
 .rintro⟨t,rfl⟩;simp
 .intro h;obtain⟨t,rfl⟩:=List.getLast?_eq_some_iff.1 h;exact⟨t,rfl⟩
theorem DQ{L:List bT}{k:Nat}{y:bT}(h:L[k]? = Og y):fE (L.take (k+1))=fE (L.take k)+(if y.body.size=0 then 1 else 0):=by
 unfold fE;rw[aR,h,df,dV,ap];by_cases h0:y.body.size=0
 .rw[if_pos h0,dG (by rw[beq_iff_eq];exact h0)];rfl
 .rw[if_neg h0,de (by rw[beq_iff_eq];exact h0)];rfl
theorem Fj{L:List bT}{k:Nat}{y:bT}(h:L[k]? = Og y):gN (L.take (k+1))=(gN (L.take k) && !(y.key.data.toList.getLast? == Og 53)):=by unfold gN;rw[aR,h,df,List.all_append,List.all_cons,List.all_nil,Bool.and_true]
theorem Ih(L:List bT):fE L<=L.length:=by unfold fE;exact eK _ _
theorem nw{p q:Prop}(h:q) (f:Wq q->p:=by
 intro hq;refine xE ?_ (fun _ _ h=>h);refine uz (S:=fun u=>ac W.heap.size W u/\u.cell? ⟨w.heap.size+1,0,Oh⟩=Og (N9 Oa r.school)/\u.cell? ⟨w.heap.size+1,1,Oh⟩=Og (Oc (Og ⟨g,0,Oh⟩) r.keys.length c)/\u.cell? ⟨w1.heap.size,2,Oh⟩=Og (N9 Oa rd)/\u.cell? ⟨N1,4,Oh⟩=Og (N9 Oa e4)/\u.cell? ⟨N1,13,Oh⟩=Og (N9 Oa e13)/\u.cell? ⟨N1,14,Oh⟩=Og (Ob e14)) [(0,true),(1,true),(2,true),(3,true),(4,true),(5,true),(6,true),(7,true),(8,true),(9,true),(11,true),(12,true),(13,true),(14,true),(15,true),(16,true),(10,false),(17,false),(18,true),(19,true)] mKr mKr mKr mKr mDe (hS0) ?_;have hS:=hS0
 revert hS
 exact hq.1):p:=f ⟨h⟩
theorem qN{p q:Prop}(h:q) (f:Wq q->p:=by
 intro hq
 iterate 9 refine ak ?_
 refine iO ⟨_,_,_,_,_,_⟩ rfl mRf 67 (.tmp 15) mRf N1 0 mRf (#[N9 Oa e0,N9 Oa e1,N9 Oa e2,N9 Oa e3,N9 Oa e4,N9 Oa e5,Ob e6,N9 Oa e7,N9 Oa e8,N9 Oa e9,N9 Oa e10,N9 Oa e11,N9 Oa e12,N9 Oa e13,Ob e14]:Array Value).toList _ (fun w hSw j v hv=>(hSw.1.cell (p:=⟨N1,0+j,Oh⟩) hN1l).trans (by rw[Nat.zero_add,ae HBX.out];simpa using hv)) underlying67 rfl mKr ?_;refine ay ?_
 iterate 6 refine ak ?_
 exact hq.1):p:=f ⟨h⟩
theorem qn(x:fc)(pl pp:Option Addr)(cl cp:Nat)(roots:List aC)(pr:Option Addr)(cr:Nat)(r:bH)(g c:Nat)(asof:Int)(w:World)(hkJ:JudOk x roots r)(hi:JudIn x pl pp cl cp roots pr cr r g w) :
  Calls prog 13 #[.agg (x.cells pl pp cl cp),Oc pr roots.length cr,.agg #[N9 Oa r.school,Oc (Og ⟨g,0,Oh⟩) r.keys.length c],N9 Oa asof] w fun e w'=>∃p c,e=Oe (.tuple #[(ip x roots r asof).val p c,N9 Oa (dS x roots r asof)])/\ar bL w' (Oc p (ip x roots r asof).ents.length c) (ip x roots r asof).ents/\ac w.heap.size w w':=by
 obtain⟨hb3,h0,h1,h2⟩:=vY (w:=w) (Of #[N9 Oa x.school,N9 Oa x.student,N9 Oa x.first,N9 Oa x.last,N9 Oa x.root,Oc pl x.lines.length cl,Oc pp x.proof.length cp] 39) (Of #[N9 Oa r.school,Oc (Og ⟨g,0,Oh⟩) r.keys.length c] 33) (Of #[Oc Oh 0 0,N9 Oa 0,.bool false] 51);have HV:Hid (dS x roots r asof=0->ip x roots r asof=⟨fA r (dW x roots) x.lines,fE x.lines,gN x.lines⟩):=aa (fun h=>if_pos h);have HVN:Hid (¬dS x roots r asof=0->ip x roots r asof=⟨[],0,false⟩):=aa (fun h=>if_neg h);have HRT:Hid (dS x roots r asof=0->pk x roots r asof=dW x roots):=aa (fun h=>if_pos h);obtain⟨W3,hW3⟩:∃u,u=((w.alloc (Of #[N9 Oa x.school,N9 Oa x.student,N9 Oa x.first,N9 Oa x.last,N9 Oa x.root,Oc pl x.lines.length cl,Oc pp x.proof.length cp] 39)).alloc (Of #[N9 Oa r.school,Oc (Og ⟨g,0,Oh⟩) r.keys.length c] 33)).alloc (Of #[Oc Oh 0 0,N9 Oa 0,.bool false] 51):=⟨_,rfl⟩;rw[<-hW3] at hb3 h0 h1 h2;have kj:Calls prog 39 #[.agg #[N9 Oa x.school,N9 Oa x.student,N9 Oa x.first,N9 Oa x.last,N9 Oa x.root,Oc pl x.lines.length cl,Oc pp x.proof.length cp],Oc pr roots.length cr,.agg #[N9 Oa r.school,Oc (Og ⟨g,0,Oh⟩) r.keys.length c],N9 Oa asof] W3 fun e w'=>e=Oe (.tuple #[(pk x roots r asof).val,N9 Oa (dS x roots r asof)])/\ac W3.heap.size W3 w':=
  A0 x pl pp cl cp roots pr cr r g c asof W3 hkJ (hi.below hb3)
 generalize dS x roots r asof=V at *
 generalize ip x roots r asof=VV at *;generalize pk x roots r asof=RT at *;have HI:=aa hi;clear hi;have hxl:=aG h0;have hgl:=aG h1;have hzl:=aG h2;refine(callsIn_wide (n:=4)).1 ?_;refine callsIn_of_wp_marks func13 rfl trivial ?_ rfl;refine wpIn_wide.2 ?_;simp only[ntmps13,fa,bB,cJ,Nat.reduceAdd,Nat.reduceSub,Array.replicate_succ,Array.replicate_zero,List.push_toArray,List.append_toArray,dI,eY];unfold fc.cells;go_wp2_with fail;rw[<-hW3];clear hW3;refine kj.mono ?_;clear kj;rintro _ w1⟨rfl,hb1⟩;have hbw1:=ah hb3 hb1;have m0:=(hb1.block _ hxl).trans h0;have m1:=(hb1.block _ hgl).trans h1;have m2:=(hb1.block _ hzl).trans h2;clear h0 h1 h2 hb1 hb3 hxl hgl hzl;obtain⟨rs,rz,rd,rtr,rb,rky,rmk⟩:=RT;have hxl:=aG m0;have hgl:=aG m1;have hzl:=aG m2;have hba:=aj w1 (Of #[N9 Oa rs,N9 Oa rz,N9 Oa rd,Ob rtr,Ob rb,N9 Oa rky,Ob rmk] 65);have hr2:=heap_alloc_new w1 (Of #[N9 Oa rs,N9 Oa rz,N9 Oa rd,Ob rtr,Ob rb,N9 Oa rky,Ob rmk] 65);obtain⟨w2,hE2⟩:∃u,u=w1.alloc (Of #[N9 Oa rs,N9 Oa rz,N9 Oa rd,Ob rtr,Ob rb,N9 Oa rky,Ob rmk] 65):=⟨_,rfl⟩;rw[<-hE2] at hba hr2;have hz2:w2.heap.size=w1.heap.size+1:=by rw[hE2];exact fJ ..
 have hbw2:=ah hbw1 hba;have n0:=(hba.block _ hxl).trans m0;have n1:=(hba.block _ hgl).trans m1;have n2:=(hba.block _ hzl).trans m2;clear m0 m1 m2 hba
 go_upto_region 2 with fail
 rw[<-hE2];clear hE2;by_cases hV:V=0
 rotate_left 1
 .have t1:(V != 0)=true:=by rw[bne_iff_ne];exact hV
  have HN:=aa (HVN.out hV);clear HV HVN HRT hV;have a0:w2.cell? ⟨w.heap.size+1+1,0,Oh⟩=Og (Oc Oh 0 0):=ae n2 0;have af0:w2.frozen? ⟨w.heap.size+1+1,0,Oh⟩=false:=aE n2 0;have a1:w2.cell? ⟨w.heap.size+1+1,1,Oh⟩=Og (N9 Oa 0):=ae n2 1;have af1:w2.frozen? ⟨w.heap.size+1+1,1,Oh⟩=false:=aE n2 1;have a2:w2.cell? ⟨w.heap.size+1+1,2,Oh⟩=Og (.bool false):=ae n2 2;have af2:w2.frozen? ⟨w.heap.size+1+1,2,Oh⟩=false:=aE n2 2;have HZZ:=aa (bj (bj (bj n2 0 (Oc Oh 0 0)) 1 (N9 Oa 0)) 2 (.bool false));have hbb:=(((hbw2.setCell (p:=⟨w.heap.size+1+1,0,Oh⟩) (show w.heap.size<=w.heap.size+1+1 by omega) (Oc Oh 0 0)).setCell (p:=⟨w.heap.size+1+1,1,Oh⟩) (show w.heap.size<=w.heap.size+1+1 by omega) (N9 Oa 0)).setCell (p:=⟨w.heap.size+1+1,2,Oh⟩) (show w.heap.size<=w.heap.size+1+1 by omega) (.bool false));clear n2 n0 n1 hr2;go_wp2_with fail;refine MI ⟨_,xR results13 _ _ (w.heap.size+1+1) _ _ _ rfl HZZ.out,Oh,0,?_,?_,hbb⟩
  .rw[HN.out];rfl
  .rw[HN.out];exact ar.nil _ _
 have t1:(V != 0)=false:=by rw[bne_eq_false_iff_eq];exact hV
 have HN:=aa (HV.out hV);have HAT:=aa (HRT.out hV);clear HV HVN HRT;subst hV;obtain⟨lines,HLN⟩:∃l,Hid (l=x.lines):=⟨_,aa rfl⟩;have hba:=aj w2 (Of #[Oc Oh 0 0,N9 Oa 0,.bool true] 51);have hv4:=heap_alloc_new w2 (Of #[Oc Oh 0 0,N9 Oa 0,.bool true] 51);obtain⟨w4,hE4⟩:∃u,u=w2.alloc (Of #[Oc Oh 0 0,N9 Oa 0,.bool true] 51):=⟨_,rfl⟩;rw[<-hE4] at hba hv4;have hbw4:=ah hbw2 hba;have o0:=hba.heap_of n0;have o1:=hba.heap_of n1;have o2:=hba.heap_of n2;have o3:=hba.heap_of hr2;rw[hz2] at hv4;clear n0 n1 n2 hr2 hba
 go_upto_region 5 with fail
 rw[<-hE4];clear hE4;have x5:w4.cell? ⟨w.heap.size,5,Oh⟩=Og (Oc pl x.lines.length cl):=ae o0 5;have HFL:=aa hkJ.ext.lines;have hmany:=hkJ.ext.many;have hlr:=HI.out.ext.lines.below hbw4;have HLR:=aa HI.out.ext.lines;clear hlr;go_wp2_with fail
 go_loopw [32] (fun i wr=>∃k:Nat,k<=x.lines.length/\i=N9 Oa k/\aF (fun b=>b=w1.heap.size+1) w4 wr/\wr.heap[w1.heap.size+1]? = Og (Of #[Oc Oh 0 0,N9 Oa (fE (x.lines.take k):Int),.bool (gN (x.lines.take k))] 51 (0,0))) (fun i _=>x.lines.length-(aw i).toNat)
 case atStart=>exact⟨0,aP _,rfl,aF.refl _ _,hv4⟩
 case round =>
  obtain⟨k,hk9,rfl,hbu,hvr⟩:=hrel;by_cases hlt:k<x.lines.length
  .obtain⟨lg,lo,hlp,hlgl,hrr⟩:=dh (kk:=3) HLR.out An rfl mOm;have hge:=ai hlt;have hra:=hrr k _ hge;have hlow:ac w.heap.size w wr:=hbw4.trans (hbu.below (fun q hq e=>by omega) hbw4.size);have hks:=HFL.out _ (bA hlt);have HHS:=aa (DQ hge);have HCS:=aa (Fj hge);have HHL:=aa (aV (Ih (x.lines.take k)) (by rw[aI];omega:(x.lines.take k).length<=4000));generalize x.lines[k]=y at *;subst hlp;have hrx:=fun i v hv=>(hlow.cell (p:=⟨lg,lo+k*3+i,Oh⟩) hlgl).trans (hra i v hv)
   have y0:wr.cell? ⟨lg,lo+k*3,Oh⟩=Og (Ob y.key):=hrx 0 _ rfl;have y1:wr.cell? ⟨lg,lo+k*3+1,Oh⟩=Og (Ob y.hash):=hrx 1 _ rfl;have y2:wr.cell? ⟨lg,lo+k*3+2,Oh⟩=Og (Ob y.body):=hrx 2 _ rfl;generalize fE (x.lines.take k)=hn at *;generalize gN (x.lines.take k)=cb at *;have i0:(0:Int)<=(k:Int):=mOm;have i1:(k:Int)<(x.lines.length:Int):=mOm;have a1:IntKind.i64.wrap ((k:Int)+1)=(k:Int)+1:=aH _ mOm;have a2:IntKind.i64.wrap ((hn:Int)+1)=(hn:Int)+1:=aH _ (by have:=HHL.out;omega);have hba:=aj wr (Of #[Ob y.key,Ob y.hash,Ob y.body] 69);have hw5:=heap_alloc_new wr (Of #[Ob y.key,Ob y.hash,Ob y.body] 69);obtain⟨w5,hE5⟩:∃u,u=wr.alloc (Of #[Ob y.key,Ob y.hash,Ob y.body] 69):=⟨_,rfl⟩;rw[<-hE5] at hba hw5;have hv5:=hba.heap_of hvr;have hbu5:aF (fun b=>b=w1.heap.size+1) w4 w5:=hbu.trans (aF.of hba);have khs:=fun u=>Tryz.strings_HasSuffix y.key ⟨#[53]⟩ u (by have:=hks.1;omega)
   have hsx:Lib.hasSuffix y.key.data.toList (⟨#[53]⟩:ByteArray).data.toList=(y.key.data.toList.getLast? == Og 53):=Mi _;rw[hsx] at khs;have z0:w5.cell? ⟨wr.heap.size,0,Oh⟩=Og (Ob y.key):=ae hw5 0;have z2:w5.cell? ⟨wr.heap.size,2,Oh⟩=Og (Ob y.body):=ae hw5 2;have HBU:=aa hbu5;have HV5:=aa hv5;have hvl:w1.heap.size+1≠wr.heap.size:=by have:=aG hvr;omega
   have v1:w5.cell? ⟨w1.heap.size+1,1,Oh⟩=Og (N9 Oa (hn:Int)):=ae hv5 1;have vf1:w5.frozen? ⟨w1.heap.size+1,1,Oh⟩=false:=aE hv5 1;have v2:w5.cell? ⟨w1.heap.size+1,2,Oh⟩=Og (.bool cb):=ae hv5 2;have vf2:w5.frozen? ⟨w1.heap.size+1,2,Oh⟩=false:=aE hv5 2;generalize (y.key.data.toList.getLast? == Og 53)=sf at *;clear hra hrr hrx hge hvr hbu hlow hba hw5 hv5 hbu5 hks hsx
   go_upto_region 8 with fail
   rw[<-hE5];clear hE5 y0 y1 y2;go_wp2_with fail;refine(khs _).mono ?_;clear khs;rintro _ w6⟨rfl,rfl⟩;have FIN:Hid (∀(u:World)(hn':Int)(cb':Bool),aF (fun b=>b=w1.heap.size+1) w6 u->u.heap[w1.heap.size+1]? = Og (Of #[Oc Oh 0 0,N9 Oa hn',.bool cb'] 51 (0,0))->hn'=((hn+(if y.body.size=0 then 1 else 0):Nat):Int)->cb'=(cb && !sf)->aF (fun b=>b=w1.heap.size+1) w4 u/\u.heap[w1.heap.size+1]? = Og (Of #[Oc Oh 0 0,N9 Oa (fE (x.lines.take (k+1)):Int),.bool (gN (x.lines.take (k+1)))] 51 (0,0))):=aa (fun u hn' cb' hb hh e1 e2=>⟨HBU.out.trans hb,by rw[HHS.out,HCS.out,<-e1,<-e2];exact hh⟩);clear HHS HCS HBU;by_cases hem:y.body.size=0
   .have hem1:y.body.toList=[]:=by rw[ku hem,ByteArray.toList_eq]
    have hem2:y.body.toList.isEmpty=true:=by rw[hem1];rfl
    rw[if_pos hem] at FIN;clear hem
    cases sf
    .go_wp2_with fail
     go_roundw
     case rel=>exact⟨k+1,mOm,by go_num,FIN.out _ _ _ ((aF.refl _ _).trans (aF.set (S:=fun b=>b=w1.heap.size+1) _ rfl 1 (N9 Oa ((hn:Int)+1)))) (bj HV5.out 1 (N9 Oa ((hn:Int)+1))) (by push_cast;rfl) (by cases cb <;> rfl)⟩
     case measure=>simp[aw];omega
    .go_wp2_with fail
     go_roundw
     case rel=>exact⟨k+1,mOm,by go_num,FIN.out _ _ _ (((aF.refl _ _).trans (aF.set (S:=fun b=>b=w1.heap.size+1) _ rfl 2 (.bool false))).trans (aF.set (S:=fun b=>b=w1.heap.size+1) _ rfl 1 (N9 Oa ((hn:Int)+1)))) (bj (bj HV5.out 2 (.bool false)) 1 (N9 Oa ((hn:Int)+1))) (by push_cast;rfl) (by cases cb <;> rfl)⟩
     case measure=>simp[aw];omega
   .obtain⟨hem1,hem2⟩:=lI hem;rw[if_neg hem] at FIN;clear hem
    cases sf
    .go_wp2_with fail
     go_roundw
     case rel=>exact⟨k+1,mOm,by go_num,FIN.out _ _ _ (aF.refl _ _) HV5.out mSi (by cases cb <;> rfl)⟩
     case measure=>simp[aw];omega
    .go_wp2_with fail
     go_roundw
     case rel=>exact⟨k+1,mOm,by go_num,FIN.out _ _ _ ((aF.refl _ _).trans (aF.set (S:=fun b=>b=w1.heap.size+1) _ rfl 2 (.bool false))) (bj HV5.out 2 (.bool false)) mSi (by cases cb <;> rfl)⟩
     case measure=>simp[aw];omega
  .obtain rfl:k=x.lines.length:=mOm;have i1:¬(x.lines.length:Int)<(x.lines.length:Int):=mOm;rw[aT] at hvr;have hlow:ac w.heap.size w wr:=hbw4.trans (hbu.below (fun q hq e=>by omega) hbw4.size);have hzr:w1.heap.size+1<wr.heap.size:=aG hvr;have p0:=hbu.heap o0 (show ¬w.heap.size=w1.heap.size+1 by omega);have p1:=hbu.heap o1 (show ¬w.heap.size+1=w1.heap.size+1 by omega);have p2:=hbu.heap o2 (show ¬w.heap.size+1+1=w1.heap.size+1 by omega);have p3:=hbu.heap o3 (show ¬w1.heap.size=w1.heap.size+1 by omega);clear hbu o0 o1 o2 o3 hv4 x5 hbw4 hbw2 hbw1;have x5:wr.cell? ⟨w.heap.size,5,Oh⟩=Og (Oc pl x.lines.length cl):=ae p0 5;go_wp2_with fail;refine(Bq _ pl x.lines.length cl rfl wr).mono ?_;rintro _ w8⟨rfl,hw8⟩;go_wp2_with fail;have hb8:ac wr.heap.size wr w8:=by rw[hw8];exact aj _ _
   have hz8:w8.heap.size=wr.heap.size+1:=by rw[hw8];exact fJ ..
   have hsb:w8.heap[wr.heap.size]? = Og (Of #[Oc pl x.lines.length cl] 36 (0,0)):=by rw[hw8];exact heap_alloc_new wr _
   rw[<-hw8];clear hw8 x5;have hbw8:=ah hlow hb8;have hI0:CkI w (w1.heap.size+1) w8.heap.size (w.heap.size+1) (w.heap.size+1+1) w1.heap.size _ _ _ (fE x.lines:Int) (gN x.lines) [] w8:=⟨hbw8,az _,hb8.heap_of p1,hb8.heap_of p2,hb8.heap_of p3,Oh,0,hb8.heap_of hvr,dX _ _ _ _⟩;have hNN:w1.heap.size+1<w8.heap.size/\w.heap.size+1<w8.heap.size/\w.heap.size+1+1<w8.heap.size/\w1.heap.size<w8.heap.size/\w.heap.size<=w8.heap.size/\w.heap.size<=w1.heap.size+1/\w.heap.size+1≠w1.heap.size+1/\w.heap.size+1+1≠w1.heap.size+1/\w1.heap.size≠w1.heap.size+1:=mOm;clear p0 p1 p2 p3 hvr;have hit:=zE wr.heap.size pl cl x.lines w mOm HFL.out HLR.out HI.out.ready
   have HEO:Hid (∀k,k<(cT x.lines).length->∃e,(cT x.lines)[k]? = Og e/\(cT x.lines).getD k entZ=e/\e.Ok):=aa (fun k hk=>by
    have hge:=ai hk;have hm:=bA hk;generalize (cT x.lines)[k]=e at *;refine⟨e,hge,by rw[bi,hge];rfl,?_⟩;obtain⟨y,hy,hye⟩:=List.mem_filterMap.1 hm;unfold Af at hye;by_cases h0:(ek y.body.data.toList).2=0
    .rw[if_pos h0] at hye;rw[<-Option.some.inj hye];exact EG (by have:=(HFL.out y hy).2.2;rw[bF] at this;exact this)
    .rw[if_neg h0] at hye;cases hye)
   generalize Value.agg #[N9 Oa x.school,N9 Oa x.student,N9 Oa x.first,N9 Oa x.last,N9 Oa x.root,Oc pl x.lines.length cl,Oc pp x.proof.length cp]=AX
   generalize Value.agg #[N9 Oa r.school,Oc (Og ⟨g,0,Oh⟩) r.keys.length c]=AG;generalize Value.tuple #[aC.val ⟨rs,rz,rd,rtr,rb,rky,rmk⟩,N9 Oa 0]=TP;generalize aC.val ⟨rs,rz,rd,rtr,rb,rky,rmk⟩=RV;generalize Value.agg #[Oc Oh 0 0,N9 Oa 0,.bool true]=AV;have HI8:=aa hI0;clear hI0
   refine wu rfl (enters_of func94 mKr rfl) hit (fun _=>rfl) (fun k hk=>hk.elim)
    (fun k A B h hle hb=>⟨hb.heap h.1 mOm,h.2.trans (hb.below (fun q hq e=>by omega) h.2.size)⟩) ⟨hsb,hbw8⟩
    (fun k W=>CkI w (w1.heap.size+1) w8.heap.size (w.heap.size+1) (w.heap.size+1+1) w1.heap.size (Of #[N9 Oa r.school,Oc (Og ⟨g,0,Oh⟩) r.keys.length c] 33 (0,0)) (Of #[Oc Oh 0 0,N9 Oa 0,.bool false] 51 (0,0)) (Of #[N9 Oa rs,N9 Oa rz,N9 Oa rd,Ob rtr,Ob rb,N9 Oa rky,Ob rmk] 65 (0,0)) (fE x.lines:Int) (gN x.lines) (((cT x.lines).take k).filter (okE r (dW x roots))) W) (fun _ _=>False)
    ?hIs ?hXs ?hIp ?hXp ?hI0 (fun k N a' W=>a'=⟨aK (AX::Oc pr roots.length cr::AG::N9 Oa asof::Od (Og ⟨w.heap.size,0,Oh⟩)::undef::Od (Og ⟨w.heap.size+1,0,Oh⟩)::undef::Od (Og ⟨w.heap.size+1+1,0,Oh⟩)::N9 Oa 0::Od (Og ⟨w1.heap.size,0,Oh⟩)::N9 Oa 0::Od (Og ⟨w1.heap.size+1,0,Oh⟩)::undef::u14::Od (Og ⟨N,0,Oh⟩)::TP::AX::Oc pr roots.length cr::AG::N9 Oa asof::TP::RV::N9 Oa 0::N9 Oa 0::.bool false::undef::undef::AV::Od (Og ⟨w.heap.size,5,Oh⟩)::Oc pl x.lines.length cl::N9 Oa (x.lines.length:Int)::N9 Oa (x.lines.length:Int)::.bool false::u34::u35::u36::u37::u38::u39::u40::u41::u42::u43::u44::u45::u46::u47::Od (Og ⟨w.heap.size,5,Oh⟩)::Oc pl x.lines.length cl::.func (.func 94) #[] #[Od (Og ⟨wr.heap.size,0,Oh⟩)]::((cT x.lines).getD k entZ).val::undef::undef::undef::undef::undef::undef::undef::undef::undef::undef::undef::undef::undef::undef::undef::undef::undef::undef::undef::undef::undef::undef::undef::undef::undef::undef::undef::[]),[]⟩/\W.heap[N]? = Og (Of ((cT x.lines).getD k entZ).cells 67 (0,0))) ?hBp ?hassign ?hbody ?hdone ?hstop
   case hIs=>exact fun k A B h hb=>h.buts hb ⟨hNN.1,hNN.2.1,hNN.2.2.1,hNN.2.2.2.1,hNN.2.2.2.2.1⟩ (fun _ h=>h.elim) (fun _ h=>h.elim)
   case hXs=>exact fun _ _ _ h _=>h
   case hIp =>
    rintro k A l r0 r' hle hl h;exact h.buts (qe A l (.loop r')) ⟨hNN.1,hNN.2.1,hNN.2.2.1,hNN.2.2.2.1,hNN.2.2.2.2.1⟩ (fun q e=>by omega) (fun q e=>⟨.loop r0,by subst e;exact hl,rfl⟩)
   case hXp=>exact fun _ _ _ _ _ _ _ h=>h
   case hI0=>exact HI8.out
   case hBp=>exact fun k N a' A l r0 r' _ hlN hl h=>⟨h.1,(qe A l (.loop r')).heap h.2 (fun e=>by have:=h.2;rw[e,hl] at this;cases this)⟩
   case hassign =>
    intro lp k W K hI hK;generalize (cT x.lines).getD k entZ=e at hK |-;obtain⟨e0,e1,e2,e3,e4,e5,e6,e7,e8,e9,e10,e11,e12,e13,e14⟩:=e;have hve:Ent.val ⟨e0,e1,e2,e3,e4,e5,e6,e7,e8,e9,e10,e11,e12,e13,e14⟩=.agg #[N9 Oa e0,N9 Oa e1,N9 Oa e2,N9 Oa e3,N9 Oa e4,N9 Oa e5,Ob e6,N9 Oa e7,N9 Oa e8,N9 Oa e9,N9 Oa e10,N9 Oa e11,N9 Oa e12,N9 Oa e13,Ob e14]:=rfl;rw[hve];rw[hve] at hK
    gi_wp2
    exact hK _ _ ⟨rfl,heap_alloc_new W _⟩ (aF.alloc _ _ _)
   case hstop=>exact fun _ _ _ _ h _=>h.elim
   case hbody =>
    rintro lp k a' N1 W0 W hk hI0⟨r0,hlr⟩ hlp hb hKp ⟨rfl,hbx⟩ hle hN0 hN1;have hb':aF (fun q=>q=lp) W0 W:=hb.mono (fun q _ e=>e.resolve_left id);have hIW:=hI0.buts hb' ⟨hNN.1,hNN.2.1,hNN.2.2.1,hNN.2.2.2.1,hNN.2.2.2.2.1⟩ (fun q e=>by omega) (fun q e=>⟨.loop r0,by subst e;exact hlr,rfl⟩);obtain⟨p,c9,hv0,ho0⟩:=hI0.own;obtain⟨e,he1,he2,heo⟩:=HEO.out k hk;rw[he2] at hbx |-;have HT:Hid ((cT x.lines).take (k+1)=(cT x.lines).take k++[e]):=aa (by rw[aR,he1];rfl)
    have HML:Hid ((((cT x.lines).take k).filter (okE r (dW x roots))).length<=4000):=aa (by
     refine aV (eK _ _) ?_;rw[aI];have:(cT x.lines).length<=x.lines.length:=by unfold cT;exact List.length_filterMap_le ..
     omega)
    have hMN:((cT x.lines).take (k+1)).filter (okE r (dW x roots))=((cT x.lines).take k).filter (okE r (dW x roots))++(if okE r (dW x roots) e=true then [e] else []):=by
     rw[HT.out,dV]
     congr 1
     by_cases hc:okE r (dW x roots) e=true
     .rw[if_pos hc,dG hc];rfl
     .rw[if_neg hc,de hc];rfl
    have hvW:=hb'.heap hv0 (show ¬w1.heap.size+1=lp by omega)
    have hoW:=bK ho0 hb' (fun q hq e2=>by obtain⟨o,e3,e4⟩:=oY ho0 hq;rw[e2,hlr] at e3;obtain rfl:=Option.some.inj e3;cases e4)
    have FINS:Hid (¬okE r (dW x roots) e=true->∀u,ac W.heap.size W u->CkI w (w1.heap.size+1) w8.heap.size (w.heap.size+1) (w.heap.size+1+1) w1.heap.size (Of #[N9 Oa r.school,Oc (Og ⟨g,0,Oh⟩) r.keys.length c] 33 (0,0)) (Of #[Oc Oh 0 0,N9 Oa 0,.bool false] 51 (0,0)) (Of #[N9 Oa rs,N9 Oa rz,N9 Oa rd,Ob rtr,Ob rb,N9 Oa rky,Ob rmk] 65 (0,0)) (fE x.lines:Int) (gN x.lines) (((cT x.lines).take (k+1)).filter (okE r (dW x roots))) u/\yA wr.heap.size (Oc pl x.lines.length cl) w k u/\fN W u/\∀g,W0.heap.size<=g->g<N1->u.heap[g]? = W.heap[g]?):=aa (fun hc u hu=>by
     rw[hMN,if_neg hc,List.append_nil]
     exact⟨hIW.buts (S:=fun _=>False) (aF.of hu) ⟨hNN.1,hNN.2.1,hNN.2.2.1,hNN.2.2.2.1,hNN.2.2.2.2.1⟩ (fun _ h=>h.elim) (fun _ h=>h.elim),⟨hu.heap_of hKp.1,ah hKp.2 hu⟩,fN.of hu,fun g2 _ h2=>hu.block g2 mOm⟩)
    have FINA:Hid (okE r (dW x roots) e=true->∀u8 v9 u',ac W.heap.size W u8->AppT bL 15 67 u8 w8.heap.size (Oc p (((cT x.lines).take k).filter (okE r (dW x roots))).length c9) (((cT x.lines).take k).filter (okE r (dW x roots))) [e] v9 u'->CkI w (w1.heap.size+1) w8.heap.size (w.heap.size+1) (w.heap.size+1+1) w1.heap.size (Of #[N9 Oa r.school,Oc (Og ⟨g,0,Oh⟩) r.keys.length c] 33 (0,0)) (Of #[Oc Oh 0 0,N9 Oa 0,.bool false] 51 (0,0)) (Of #[N9 Oa rs,N9 Oa rz,N9 Oa rd,Ob rtr,Ob rb,N9 Oa rky,Ob rmk] 65 (0,0)) (fE x.lines:Int) (gN x.lines) (((cT x.lines).take (k+1)).filter (okE r (dW x roots))) (u'.setCell ⟨w1.heap.size+1,0,Oh⟩ v9)/\yA wr.heap.size (Oc pl x.lines.length cl) w k (u'.setCell ⟨w1.heap.size+1,0,Oh⟩ v9)/\fN W (u'.setCell ⟨w1.heap.size+1,0,Oh⟩ v9)/\∀g,W0.heap.size<=g->g<N1->(u'.setCell ⟨w1.heap.size+1,0,Oh⟩ v9).heap[g]? = W.heap[g]?):=aa (fun hc u8 v9 u' hu hA=>by
     rw[hMN,if_pos hc];obtain⟨q1,q2⟩:=hIW.app hu hNN hvW hoW hA;have hlt:∀q,(Value.slice p (((cT x.lines).take k).filter (okE r (dW x roots))).length c9).ownBlock=Og q->w8.heap.size<=q/\q<W0.heap.size:=fun q hq=>ho0.lt q hq
     refine⟨q1,⟨q2.heap hKp.1 ?_,q1.low⟩,q2.nc ?_,fun g2 h1 h2=>q2.block g2 mOm ?_⟩
     .rintro(e2|e2)
      .omega
      .have:=hlt _ e2;omega
     .rintro q o (e2|e2) ho
      .subst e2;rw[hvW] at ho;obtain rfl:=Option.some.inj ho;rfl
      .obtain⟨o2,e3,e4⟩:=oY hoW e2;rw[ho] at e3;obtain rfl:=Option.some.inj e3;exact e4
     .rintro(e2|e2)
      .omega
      .have:=hlt _ e2;omega)
    have hN1l:=aG hbx
    have HSZW:=aa hIW.size;have HT8:Hid (∀u,ac W.heap.size W u->Tabs u):=aa (fun u hu=>(bC HI.out.ready (ah hIW.low hu)).sane.1);have HKS:Hid (∀u,ac W.heap.size W u->cR u g r.keys/\g<u.heap.size):=aa (fun u hu=>⟨HI.out.keys.below (ah hIW.low hu) HI.out.at_,ax HI.out.at_ (ah hIW.low hu).size⟩);have kb:=fun u (hu:ac W.heap.size W u)=>Jq e heo u (HT8.out u hu)
    have hbl:(⟨e.body.toArray⟩:ByteArray).size<=1000000:=by rw[bF];have h1:=pL e heo;have h2:=heo.course;show e.body.length<=_;omega
    have kv:=fun u (hu:ac W.heap.size W u)=>Bu g c r e.key ⟨e.body.toArray⟩ e.mark e.day rd u hkJ.keys (HKS.out u hu).1 hkJ.secrets (HKS.out u hu).2 hkJ.school heo.key hbl (HT8.out u hu)
    have HOK:Hid (okE r (dW x roots) e=(decide (e.day<=rd)&&decide (eu r e.key ⟨e.body.toArray⟩ e.mark e.day rd=0))):=aa (by rw[<-HAT.out];rfl);generalize okE r (dW x roots) e=OK at *;generalize ((cT x.lines).take k).filter (okE r (dW x roots))=M at *;generalize eu r e.key ⟨e.body.toArray⟩ e.mark e.day rd=VL at *;generalize (⟨e.body.toArray⟩:ByteArray)=BT at *;obtain⟨e0,e1,e2,e3,e4,e5,e6,e7,e8,e9,e10,e11,e12,e13,e14⟩:=e;simp only[Ent.cells] at hbx;have KB:=aa kb;have KV:=aa kv;have HBX:=aa hbx;have g0:W.cell? ⟨w.heap.size+1,0,Oh⟩=Og (N9 Oa r.school):=ae hIW.ring 0;have g1:W.cell? ⟨w.heap.size+1,1,Oh⟩=Og (Oc (Og ⟨g,0,Oh⟩) r.keys.length c):=ae hIW.ring 1;have r2:W.cell? ⟨w1.heap.size,2,Oh⟩=Og (N9 Oa rd):=ae hIW.root 2;have z0:W.cell? ⟨N1,0,Oh⟩=Og (N9 Oa e0):=ae hbx 0;have z1:W.cell? ⟨N1,1,Oh⟩=Og (N9 Oa e1):=ae hbx 1;have z2:W.cell? ⟨N1,2,Oh⟩=Og (N9 Oa e2):=ae hbx 2;have z3:W.cell? ⟨N1,3,Oh⟩=Og (N9 Oa e3):=ae hbx 3;have z4:W.cell? ⟨N1,4,Oh⟩=Og (N9 Oa e4):=ae hbx 4;have z5:W.cell? ⟨N1,5,Oh⟩=Og (N9 Oa e5):=ae hbx 5;have z6:W.cell? ⟨N1,6,Oh⟩=Og (Ob e6):=ae hbx 6;have z7:W.cell? ⟨N1,7,Oh⟩=Og (N9 Oa e7):=ae hbx 7;have z8:W.cell? ⟨N1,8,Oh⟩=Og (N9 Oa e8):=ae hbx 8;have z9:W.cell? ⟨N1,9,Oh⟩=Og (N9 Oa e9):=ae hbx 9;have z10:W.cell? ⟨N1,10,Oh⟩=Og (N9 Oa e10):=ae hbx 10;have z11:W.cell? ⟨N1,11,Oh⟩=Og (N9 Oa e11):=ae hbx 11;have z12:W.cell? ⟨N1,12,Oh⟩=Og (N9 Oa e12):=ae hbx 12;have z13:W.cell? ⟨N1,13,Oh⟩=Og (N9 Oa e13):=ae hbx 13;have z14:W.cell? ⟨N1,14,Oh⟩=Og (Ob e14):=ae hbx 14;have hS0:=uT (W:=W) ⟨Below.refl _ _,g0,g1,r2,z4,z13,z14⟩ (Below.refl _ W).drew;have HVW:=aa hvW;have HOW:=aa hoW;clear hb hb' hIW hI0 hKp hv0 ho0 he1 he2 heo hMN hvW hoW hbx kb kv hbl hk hle hN0 hN1;by_cases hd:e4<=rd
    rotate_left 1
    .have t1:decide (e4<=rd)=false:=decide_eq_false hd;have HNO:Hid (¬OK=true):=aa (by rw[HOK.out,t1,Bool.false_and];decide);clear hd
     gi_wp2
     refine nw ?_;intro hS
     iterate 16 (first|refine ak ?_|refine dw ?_)
     refine jF ⟨_,_,_,_,_,_⟩ rfl mRf hS ?_;refine ay ?_;refine jF ⟨_,_,_,_,_,_⟩ rfl mRf hS ?_;refine ay ?_
     iterate 2 (first|refine ak ?_|refine dw ?_)
     simp only[aQ,aZ]
     gi_wp2
     exact FINS.out HNO.out _ hS.1
    have t1:decide (e4<=rd)=true:=decide_eq_true hd
    by_cases hv9:VL=0
    rotate_left 1
    .have t2:(VL==0)=false:=by rw[beq_eq_false_iff_ne];exact hv9
     have HNO:Hid (¬OK=true):=aa (by rw[HOK.out,decide_eq_false hv9,Bool.and_false];decide);clear hd hv9
     gi_wp2
     refine nw ?_;intro hS
     refine qN ?_;refine aJ 42 call42 (KB.out _ hS.1) ?_;rintro x wn⟨rfl,hb⟩;replace hS:=uT hS hb;refine⟨_,rfl,hS,?_⟩;(try clear hb);refine ay ?_;refine aJ 22 call22 (KV.out _ hS.1) ?_;rintro x wn⟨rfl,hb⟩;replace hS:=uT hS hb;refine⟨_,rfl,hS,?_⟩;(try clear hb);refine ay ?_
     iterate 2 refine ak ?_
     simp only[aQ,aZ]
     gi_wp2
     exact FINS.out HNO.out _ hS.1
    have t2:(VL==0)=true:=by rw[beq_iff_eq];exact hv9
    have HYE:Hid (OK=true):=aa (by rw[HOK.out,t1,decide_eq_true hv9];rfl);clear hd hv9
    gi_wp2
    refine nw ?_;intro hS
    refine qN ?_;refine aJ 42 call42 (KB.out _ hS.1) ?_;rintro x wn⟨rfl,hb⟩;replace hS:=uT hS hb;refine⟨_,rfl,hS,?_⟩;(try clear hb);refine ay ?_;refine aJ 22 call22 (KV.out _ hS.1) ?_;rintro x wn⟨rfl,hb⟩;replace hS:=uT hS hb;refine⟨_,rfl,hS,?_⟩;(try clear hb);refine ay ?_
    iterate 2 refine ak ?_
    simp only[aQ,aZ];have HSB:=aa hS.1;have hvn:=hS.1.heap_of HVW.out;have q0:wn.cell? ⟨w1.heap.size+1,0,Oh⟩=Og (Oc p M.length c9):=ae hvn 0;have hbn:=hS.1.heap_of HBX.out;clear hS hS0 z0 z1 z2 z3 z4 z5 z6 z7 z8 z9 z10 z11 z12 z13 z14 g0 g1 r2;have z0:wn.cell? ⟨N1,0,Oh⟩=Og (N9 Oa e0):=ae hbn 0;have z1:wn.cell? ⟨N1,1,Oh⟩=Og (N9 Oa e1):=ae hbn 1;have z2:wn.cell? ⟨N1,2,Oh⟩=Og (N9 Oa e2):=ae hbn 2;have z3:wn.cell? ⟨N1,3,Oh⟩=Og (N9 Oa e3):=ae hbn 3;have z4:wn.cell? ⟨N1,4,Oh⟩=Og (N9 Oa e4):=ae hbn 4;have z5:wn.cell? ⟨N1,5,Oh⟩=Og (N9 Oa e5):=ae hbn 5;have z6:wn.cell? ⟨N1,6,Oh⟩=Og (Ob e6):=ae hbn 6;have z7:wn.cell? ⟨N1,7,Oh⟩=Og (N9 Oa e7):=ae hbn 7;have z8:wn.cell? ⟨N1,8,Oh⟩=Og (N9 Oa e8):=ae hbn 8;have z9:wn.cell? ⟨N1,9,Oh⟩=Og (N9 Oa e9):=ae hbn 9;have z10:wn.cell? ⟨N1,10,Oh⟩=Og (N9 Oa e10):=ae hbn 10;have z11:wn.cell? ⟨N1,11,Oh⟩=Og (N9 Oa e11):=ae hbn 11;have z12:wn.cell? ⟨N1,12,Oh⟩=Og (N9 Oa e12):=ae hbn 12;have z13:wn.cell? ⟨N1,13,Oh⟩=Og (N9 Oa e13):=ae hbn 13;have z14:wn.cell? ⟨N1,14,Oh⟩=Og (Ob e14):=ae hbn 14;have hba:=aj wn (Of #[N9 Oa e0,N9 Oa e1,N9 Oa e2,N9 Oa e3,N9 Oa e4,N9 Oa e5,Ob e6,N9 Oa e7,N9 Oa e8,N9 Oa e9,N9 Oa e10,N9 Oa e11,N9 Oa e12,N9 Oa e13,Ob e14] 67);have hlit:ar bL (wn.alloc (Of #[N9 Oa e0,N9 Oa e1,N9 Oa e2,N9 Oa e3,N9 Oa e4,N9 Oa e5,Ob e6,N9 Oa e7,N9 Oa e8,N9 Oa e9,N9 Oa e10,N9 Oa e11,N9 Oa e12,N9 Oa e13,Ob e14] 67)) (Oc (Og ⟨wn.heap.size,0,Oh⟩) 1 1) [(⟨e0,e1,e2,e3,e4,e5,e6,e7,e8,e9,e10,e11,e12,e13,e14⟩:Ent)]:=cN (heap_alloc_new wn _) _ rfl rfl;have HB8:=aa (ah HSB.out hba);have hown:=bK HOW.out (aF.of (S:=fun _=>False) HB8.out) (fun _ _ e=>e);have hsz:w8.heap.size<=(wn.alloc (Of #[N9 Oa e0,N9 Oa e1,N9 Oa e2,N9 Oa e3,N9 Oa e4,N9 Oa e5,Ob e6,N9 Oa e7,N9 Oa e8,N9 Oa e9,N9 Oa e10,N9 Oa e11,N9 Oa e12,N9 Oa e13,Ob e14] 67)).heap.size:=aV HSZW.out (aV HSB.out.size hba.size);have hv8:=hba.heap_of hvn;have HV8:=aa hv8;clear hvn hbn hba hv8
    gi_wp2_with (gi_at_builtin;go_loud (refine oj enT rfl (.tmp 73) (.tmp 75) rfl w8.heap.size (Oc p M.length c9) (Oc (Og ⟨wn.heap.size,0,Oh⟩) 1 1) M [(⟨e0,e1,e2,e3,e4,e5,e6,e7,e8,e9,e10,e11,e12,e13,e14⟩:Ent)] rfl rfl hown hlit (by have:=HML.out;simp only[aB];omega) hsz ?_;intro v9 w10 hA9;obtain⟨g9,c10,hv9⟩:=jU hA9.own;subst hv9;rw[ap,aB] at hA9;have HA9:=aa hA9;have k9:=(aF.grown hA9.grown).heap HV8.out (fun e2=>by have:=(HOW.out.lt _ e2).1;omega);have c19:=ae k9 0;have f19:=aE k9 0;clear hA9 hown hlit k9))
    exact FINA.out HYE.out _ _ _ HB8.out HA9.out
   case hdone =>
    intro D W hD hI hDW;rw[aT,<-Dz] at hI;obtain⟨p,c9,hv,ho⟩:=hI.own;generalize fA r (dW x roots) x.lines=M at *;generalize (fE x.lines:Int)=hn at *;generalize gN x.lines=cb at *;have hr9:=hI.res;have v0:W.cell? ⟨w1.heap.size+1,0,Oh⟩=Og (Oc p M.length c9):=ae hv 0;have v1:W.cell? ⟨w1.heap.size+1,1,Oh⟩=Og (N9 Oa hn):=ae hv 1;have v2:W.cell? ⟨w1.heap.size+1,2,Oh⟩=Og (.bool cb):=ae hv 2;have a0:W.cell? ⟨w.heap.size+1+1,0,Oh⟩=Og (Oc Oh 0 0):=ae hr9 0;have af0:W.frozen? ⟨w.heap.size+1+1,0,Oh⟩=false:=aE hr9 0;have a1:W.cell? ⟨w.heap.size+1+1,1,Oh⟩=Og (N9 Oa 0):=ae hr9 1;have af1:W.frozen? ⟨w.heap.size+1+1,1,Oh⟩=false:=aE hr9 1;have a2:W.cell? ⟨w.heap.size+1+1,2,Oh⟩=Og (.bool false):=ae hr9 2;have af2:W.frozen? ⟨w.heap.size+1+1,2,Oh⟩=false:=aE hr9 2;have hzz:=(bj (bj (bj hr9 0 (Oc p M.length c9)) 1 (N9 Oa hn)) 2 (.bool cb));have HZZ:=aa hzz;obtain⟨WZ,hWZ⟩:∃u,u=((W.setCell ⟨w.heap.size+1+1,0,Oh⟩ (Oc p M.length c9)).setCell ⟨w.heap.size+1+1,1,Oh⟩ (N9 Oa hn)).setCell ⟨w.heap.size+1+1,2,Oh⟩ (.bool cb):=⟨_,rfl⟩;have hbz:aF (fun q=>q=w.heap.size+1+1) W WZ:=by
     rw[hWZ];exact((aF.set (S:=fun q=>q=w.heap.size+1+1) W rfl 0 _).trans (aF.set (S:=fun q=>q=w.heap.size+1+1) _ rfl 1 _)).trans (aF.set (S:=fun q=>q=w.heap.size+1+1) _ rfl 2 _)
    have HBZ:=aa hbz
    have HI2:=aa hI.low;have HO2:=aa ho;rw[<-hWZ] at hzz;have HZ3:=aa hzz;clear hzz hr9 hv ho hI hbz;go_wp2_with fail;rw[<-hWZ];refine uW D _ (HBZ.out.heap hDW mOm) fun w' hw'=>⟨_,xR results13 _ _ (w.heap.size+1+1) _ _ _ rfl (hw'.heap HZ3.out mOm),p,c9,?_,?_,?_⟩
    .rw[HN.out];rfl
    .rw[HN.out];refine fo eG mDe (bK (bK HO2.out HBZ.out (fun q hq e2=>by have:=(HO2.out.lt q hq).1;omega)) hw' (fun q hq e2=>?_));obtain⟨o,e3,e4⟩:=oY HO2.out hq;rw[e2,hDW] at e3;obtain rfl:=Option.some.inj e3
     cases e4
    .exact(HI2.out.trans (HBZ.out.below (fun q hq e2=>by omega) HI2.out.size)).trans (hw'.below (fun q hq e2=>by omega) (aV HI2.out.size HBZ.out.size))
end
section
variable {s0 s1 s2 s3 s4 s5 s6 s7 s8 s9 bo a0 a1 a2 a3 a4 a5 a6 a7 a8 a9 ab ad af ag ao b0 b2 b3 b4 b5 b6 b7 b8 b9 ba bb bc bd be bp bq br bt bv c0 c1 c2 c3 c4 bf bg bh bk bm:Value}
attribute [local go_sem] Ent.cells
def MD:List bG->Int
 | []=>0
 | k::_=>k.id
def sgK(l:List bG)(d:Int):Int:=match kN l d with|some x=>x.id|none=>MD l
def sgE(r:bH)(e:Ent):Ent:=(oL r.keys r.school (sgK r.keys e.day) e).1
theorem Ft{l:List bG}{d:Int}(h:(kN l d).isSome=true):sgK l d=kM l d:=by
 unfold sgK kM
 cases hc:kN l d with
 | none=>rw[hc] at h;cases h
 | some x=>rfl
theorem EE{l:List bG}{d:Int}{x:bG}(h:kN l d=Og x):x∈l:=by unfold kN at h;exact List.mem_reverse.1 (List.mem_of_find?_eq_some h)
theorem KI{l:List bG}{d:Int}(h:(kN l d).isSome=false):sgK l d=(MD l):=by
 unfold sgK
 cases hc:kN l d with
 | none=>rfl
 | some x=>rw[hc] at h;cases h
theorem NB(rb g m cg eg eo n c k:Nat)(sc id er:Int)(x E:Ent)(W:World)(Q:Exit->Act->World->Prop)(h0:W.cell? ⟨rb,0,Oh⟩=Og (N9 Oa sc))(h1:W.cell? ⟨rb,1,Oh⟩=Og (Oc (Og ⟨g,0,Oh⟩) m cg))(hx:W.rangeAt eg (eo+k*15) x.cells.toList)(hrb:rb<W.heap.size)(heg:eg<W.heap.size)(j1:(k:Int)<(n:Int))(ksg:∀u,ac W.heap.size W u->Calls prog 81 #[.agg #[N9 Oa sc,Oc (Og ⟨g,0,Oh⟩) m cg],N9 Oa id,x.val] u (fun e w'=>e=Oe (.tuple #[E.val,N9 Oa er])/\ac u.heap.size u w'))
  (hQ:∀(c5 c6 c7 c8 c9 ca cb cc cd ce cf:Value)(wx:World)(bx:Nat),W.heap.size<=bx->wx.heap[bx]? = Og (Of E.cells 67 (0,0))->ac W.heap.size W wx->Q .normal ⟨aK (s0::Oc (Og ⟨eg,eo,Oh⟩) n c::Od (Og ⟨rb,0,Oh⟩)::s3::s4::s5::N9 Oa (k:Int)::N9 Oa id::s8::Od (Og ⟨bx,0,Oh⟩)::[c5,a0,a1,a2,a3,a4,a5,a6,a7,a8,a9,ab,ad,af,ag,ao,b0,b2,b3,b4,b5,b6,b7,b8,b9,ba,bb,bc,bd,be,c6,c7,c8,c9,ca,cb,cc,cd,ce,cf,bf,bg,bh,bk,bm]),[]⟩ wx) :
  (db f32 8).wp prog Q ⟨aK (s0::Oc (Og ⟨eg,eo,Oh⟩) n c::Od (Og ⟨rb,0,Oh⟩)::s3::s4::s5::N9 Oa (k:Int)::N9 Oa id::[s8,s9,bo,a0,a1,a2,a3,a4,a5,a6,a7,a8,a9,ab,ad,af,ag,ao,b0,b2,b3,b4,b5,b6,b7,b8,b9,ba,bb,bc,bd,be,bp,bq,br,bt,bv,c0,c1,c2,c3,c4,bf,bg,bh,bk,bm]),[]⟩ W:=by
 refine mOn ?_;generalize Q .normal=K at hQ |-;have HQ:=aa hQ;clear hQ
 conv=>arg 2;whnf
 have j2:(0:Int)<=(k:Int):=mOm
 have KSG:=aa ksg;have KS:∀u,ac W.heap.size W u->ac W.heap.size W u/\u.cell? ⟨rb,0,Oh⟩=Og (N9 Oa sc)/\u.cell? ⟨rb,1,Oh⟩=Og (Oc (Og ⟨g,0,Oh⟩) m cg)/\u.rangeAt eg (eo+k*15) x.cells.toList:=fun u hu=>⟨hu,(hu.cell (p:=⟨rb,0,Oh⟩) hrb).trans h0,(hu.cell (p:=⟨rb,1,Oh⟩) hrb).trans h1,fun j v hv=>(hu.cell (p:=⟨eg,eo+k*15+j,Oh⟩) heg).trans (hx j v hv)⟩
 clear ksg h0 h1 hx hrb heg;have hS:ac W.heap.size W W.drew/\W.drew.cell? ⟨rb,0,Oh⟩=Og (N9 Oa sc)/\W.drew.cell? ⟨rb,1,Oh⟩=Og (Oc (Og ⟨g,0,Oh⟩) m cg)/\W.drew.rangeAt eg (eo+k*15) x.cells.toList:=KS _ (Below.refl _ _).drew;refine gJ (S:=fun u=>ac W.heap.size W u/\u.cell? ⟨rb,0,Oh⟩=Og (N9 Oa sc)/\u.cell? ⟨rb,1,Oh⟩=Og (Oc (Og ⟨g,0,Oh⟩) m cg)/\u.rangeAt eg (eo+k*15) x.cells.toList) (.take 0 (.take 1 (.take 2 (.take 3 (.take 4 (.take 5 (.two 6 10 (.take 7 (.take 8 (.take 9 (.one 10 (.one 11 (.take 12 .done)))))) (.one 6 (.take 7 (.take 8 (.take 9 (.one 11 (.take 12 .done))))))))))))) hS ?_
 iterate 5 refine aW ?_
 refine BW ⟨_,_,_,_,_,_⟩ rfl mRf 67 (.tmp 45) mRf eg (eo+k*15) mRf x.cells.toList _ (fun w hSw=>hSw.2.2.2) underlying67 rfl mKr ?_;refine ay ?_;refine ft ?_ ?_
 .refine bY ⟨_,_,_,_,_,_⟩ rfl mRf 81 _ _ mRf _ mRf call81 (KSG.out _ hS.1) ?_;rintro x x1⟨rfl,hb⟩;replace hS:=KS _ (ah hS.1 hb);refine⟨_,rfl,hS,?_⟩
  (try clear hb)
  refine ay ?_
  iterate 3 refine aW ?_
  have hlo_bx:W.heap.size<=x1.heap.size:=hS.1.size;refine bW (bU ⟨_,_,_,_,_,_⟩ (Od (Og ⟨x1.heap.size,0,Oh⟩)) (x1.alloc (Of entZ.cells 67)) rfl mRf (by go_simp;try rfl) ⟨KS _ (ah hS.1 (aj _ _)),?_⟩);have hb:=aj (x1) (Of entZ.cells 67);replace hS:=KS _ (ah hS.1 hb);have hx_bx:=heap_alloc_new (x1) (Of entZ.cells 67)
  (try clear hb)
  refine ay ?_;have hset:=KS _ (bu hS.1 hlo_bx E.cells);refine bW (di ⟨_,_,_,_,_,_⟩ rfl mRf 67 _ _ mRf (x1.heap.size) E.cells mRf mRf _ _ hx_bx mKr rfl (by simp[Ent.cells,Value.oneCell']) ⟨hset,?_⟩);replace hS:=hset;clear hset;replace hx_bx:=setRow_heap (x1.alloc (Of entZ.cells 67)) (x1.heap.size) _ E.cells _ _ hx_bx
  (try simp only[Act.put])
  refine aW ?_;simp only[dB,aZ];exact HQ.out _ _ _ _ _ _ _ _ _ _ _ _ _ hlo_bx hx_bx hS.1
 .have hlo_bx:W.heap.size<=W.heap.size:=az _;refine bU ⟨_,_,_,_,_,_⟩ (Od (Og ⟨W.heap.size,0,Oh⟩)) (W.drew.alloc (Of entZ.cells 67)) rfl mRf (by go_simp;try rfl) ⟨KS _ (ah hS.1 (aj _ _)),?_⟩;have hb:=aj (W.drew) (Of entZ.cells 67);replace hS:=KS _ (ah hS.1 hb);have hx_bx:=heap_alloc_new (W.drew) (Of entZ.cells 67);replace hx_bx:(W.drew.alloc (Of entZ.cells 67)).heap[W.heap.size]? = Og _:=hx_bx
  (try clear hb)
  refine ay ?_;refine bW (bY ⟨_,_,_,_,_,_⟩ rfl mRf 81 _ _ mRf _ mRf call81 (KSG.out _ hS.1) ?_);rintro x x2⟨rfl,hb⟩;replace hS:=KS _ (ah hS.1 hb);replace hx_bx:=hb.heap_of hx_bx;refine⟨_,rfl,hS,?_⟩
  (try clear hb)
  refine ay ?_
  iterate 3 refine aW ?_
  have hset:=KS _ (bu hS.1 hlo_bx E.cells);refine bW (di ⟨_,_,_,_,_,_⟩ rfl mRf 67 _ _ mRf (W.heap.size) E.cells mRf mRf _ _ hx_bx mKr rfl (by simp[Ent.cells,Value.oneCell']) ⟨hset,?_⟩);replace hS:=hset;clear hset;replace hx_bx:=setRow_heap x2 (W.heap.size) _ E.cells _ _ hx_bx
  (try simp only[Act.put])
  refine aW ?_;simp only[dB,aZ];exact HQ.out _ _ _ _ _ _ _ _ _ _ _ _ _ hlo_bx hx_bx hS.1
theorem EZ{l:List bG}{d:Int}(h:∀k∈l,I64 k.id):I64 (sgK l d):=by
 unfold sgK
 cases hc:kN l d with
 | some x=>exact h _ (EE hc)
 |none=>cases l with
  | nil=>exact⟨mDe,mDe⟩
  | cons a t=>exact h _ List.mem_cons_self
theorem rB{p:Prop} (h:p:=by
 go_wp2_with fail
 go_upto_region 8 with fail
 refine NB w.heap.size g r.keys.length cg eg eo l.length c k r.school (sgK r.keys x.day) (oL r.keys r.school (sgK r.keys x.day) x).2 x (sgE r x) _ _ (ae hhn 0) (ae hhn 1) (HRX.out _ hbn) (av hhn) (ax heg hbn.size) j1 (KSG.out _ hbn) ?_
 intros
 rename_i wx bx hlo hbx hbr
 have HOX:=aa ((HO.out.next hbl).next hbr)
 generalize sgE r x=E at *;obtain⟨e0,e1,e2,e3,e4,e5,e6,e7,e8,e9,e10,e11,e12,e13,e14⟩:=E;simp only[Ent.cells] at hbx;have z0:wx.cell? ⟨bx,0,Oh⟩=Og (N9 Oa e0):=ae hbx 0;have z1:wx.cell? ⟨bx,1,Oh⟩=Og (N9 Oa e1):=ae hbx 1;have z2:wx.cell? ⟨bx,2,Oh⟩=Og (N9 Oa e2):=ae hbx 2;have z3:wx.cell? ⟨bx,3,Oh⟩=Og (N9 Oa e3):=ae hbx 3;have z4:wx.cell? ⟨bx,4,Oh⟩=Og (N9 Oa e4):=ae hbx 4;have z5:wx.cell? ⟨bx,5,Oh⟩=Og (N9 Oa e5):=ae hbx 5;have z6:wx.cell? ⟨bx,6,Oh⟩=Og (Ob e6):=ae hbx 6;have z7:wx.cell? ⟨bx,7,Oh⟩=Og (N9 Oa e7):=ae hbx 7;have z8:wx.cell? ⟨bx,8,Oh⟩=Og (N9 Oa e8):=ae hbx 8;have z9:wx.cell? ⟨bx,9,Oh⟩=Og (N9 Oa e9):=ae hbx 9;have z10:wx.cell? ⟨bx,10,Oh⟩=Og (N9 Oa e10):=ae hbx 10;have z11:wx.cell? ⟨bx,11,Oh⟩=Og (N9 Oa e11):=ae hbx 11;have z12:wx.cell? ⟨bx,12,Oh⟩=Og (N9 Oa e12):=ae hbx 12;have z13:wx.cell? ⟨bx,13,Oh⟩=Og (N9 Oa e13):=ae hbx 13;have z14:wx.cell? ⟨bx,14,Oh⟩=Og (Ob e14):=ae hbx 14;have hP:=HOX.out.next (aj wx (Of #[N9 Oa e0,N9 Oa e1,N9 Oa e2,N9 Oa e3,N9 Oa e4,N9 Oa e5,Ob e6,N9 Oa e7,N9 Oa e8,N9 Oa e9,N9 Oa e10,N9 Oa e11,N9 Oa e12,N9 Oa e13,Ob e14] 67));have hlit:ar bL (wx.alloc (Of #[N9 Oa e0,N9 Oa e1,N9 Oa e2,N9 Oa e3,N9 Oa e4,N9 Oa e5,Ob e6,N9 Oa e7,N9 Oa e8,N9 Oa e9,N9 Oa e10,N9 Oa e11,N9 Oa e12,N9 Oa e13,Ob e14] 67)) (Oc (Og ⟨wx.heap.size,0,Oh⟩) 1 1) [(⟨e0,e1,e2,e3,e4,e5,e6,e7,e8,e9,e10,e11,e12,e13,e14⟩:Ent)]:=cN (heap_alloc_new wx _) _ rfl rfl;have hown:=hP.own;have hsz:=hP.low.size;have HP:=aa hP;clear hP hbx hlo hbr hhn hbn hbl;go_wp2_with (at_builtin;refine bl enT rfl (.tmp 50) (.tmp 52) rfl W.heap.size _ _ M [(⟨e0,e1,e2,e3,e4,e5,e6,e7,e8,e9,e10,e11,e12,e13,e14⟩:Ent)] rfl rfl hown hlit (by have:=HLM.out;simp only[aB];omega) hsz ?_;intro v9 w10 hA9;have H9:=aa (HP.out.app hA9);clear hA9 hown hsz hlit)
 go_roundw
 case rel=>exact⟨k+1,mOm,by go_num,by rw[HNEW.out];exact H9.out⟩
 case measure=>simp[aw];omega):p:=h
theorem zG(r:bH)(g cg:Nat)(l:List Ent)(hok:∀e∈l,e.Ok)(p:Option Addr)(c:Nat)(w:World)(h:ar bL w (Oc p l.length c) l)(hl:l.length<=100000)(hk:cR w g r.keys)(hg:g<w.heap.size)(hkl:0<r.keys.length/\r.keys.length<=1000)(hsz:∀k∈r.keys,k.secret.size<=100000/\I64 k.id)(hs:I64 r.school)(hT:Tabs w) :
  Calls prog 32 #[.agg #[N9 Oa r.school,Oc (Og ⟨g,0,Oh⟩) r.keys.length cg],Oc p l.length c] w fun e w'=>∃v,e=Oe v/\bz bL 15 67 w w' v (l.map (sgE r)):=by
 have HL:=aa h;have HOK:=aa hok;have HK:=aa hk;have HSZ:=aa hsz;have HT:=aa hT;have hb0:=aj w (Of #[N9 Oa r.school,Oc (Og ⟨g,0,Oh⟩) r.keys.length cg] 33);have hh:=heap_alloc_new w (Of #[N9 Oa r.school,Oc (Og ⟨g,0,Oh⟩) r.keys.length cg] 33);obtain⟨W,hW⟩:∃u,u=w.alloc (Of #[N9 Oa r.school,Oc (Og ⟨g,0,Oh⟩) r.keys.length cg] 33):=⟨_,rfl⟩;rw[<-hW] at hb0 hh;clear h hok hk hsz hT;go_enter func32,ntmps32;go_wp2_with fail;rw[<-hW];clear hW
 go_loopw [5,6] (fun v i wr=>∃k:Nat,k<=l.length/\i=N9 Oa k/\bz bL 15 67 W wr v ((l.take k).map (sgE r))) (fun _ i _=>l.length-(aw i).toNat)
 case atStart=>exact⟨0,aP _,rfl,bz.nil _ _ _ _⟩
 case round =>
  obtain⟨k,hk,rfl,hO⟩:=hrel;obtain⟨pv,cv,hv⟩:=hO.form;subst hv;by_cases hlt:k<l.length
  .obtain⟨eg,eo,hpe,heg,hrow⟩:=dh (kk:=15) HL.out eG rfl mOm;have hge:=ai hlt;have hra:=hrow k _ hge;have hx:=HOK.out _ (bA hlt);have j1:(k:Int)<(l.length:Int):=mOm;have j2:(0:Int)<=(k:Int):=mOm;have HNEW:Hid ((l.take (k+1)).map (sgE r)=(l.take k).map (sgE r)++[sgE r l[k]]):=aa (by rw[aR,hge,df,List.map_append];rfl);have HLM:Hid (((l.take k).map (sgE r)).length<=100000):=aa (by rw[aU,aI];omega);generalize l[k]=x at *;have HRX:Hid (∀u,ac w.heap.size w u->u.rangeAt eg (eo+k*15) x.cells.toList):=aa (fun u hu j v hv=>(hu.cell (p:=⟨eg,eo+k*15+j,Oh⟩) heg).trans (hra j v hv));have hlow:=hO.low;have hbw:=ah hb0 hlow;have hhr:=hlow.heap_of hh;have HXO:=aa hx;have kc:=fun u (hu:ac w.heap.size w u)=>xw g cg r.school r.keys x.day u hkl.2 (HK.out.below hu hg) (ax hg hu.size)
   have KC:=aa kc;have hS0:=Io (W:=w) ⟨hbw,ae hhr 0,ae hhr 1,(HRX.out _ hbw 4 _ rfl:wr.cell? ⟨eg,eo+k*15+4,Oh⟩=Og (N9 Oa x.day))⟩ (Below.refl _ wr).drew;have HO:=aa hO;generalize (l.take k).map (sgE r)=M at *;subst hpe;clear hra hrow hge hx kc hhr hO;have KSG:Hid (∀u,ac w.heap.size w u->∀v,ac u.heap.size u v->Calls prog 81 #[.agg #[N9 Oa r.school,Oc (Og ⟨g,0,Oh⟩) r.keys.length cg],N9 Oa (sgK r.keys x.day),x.val] v (fun e w'=>e=Oe (.tuple #[(sgE r x).val,N9 Oa (oL r.keys r.school (sgK r.keys x.day) x).2])/\ac v.heap.size v w')):=aa (fun u hu v hv=>Ek g cg r.school r.keys (sgK r.keys x.day) x v hkl.2 (HK.out.below (ah hu hv) hg) (fun k hk=>(HSZ.out k hk).1) (ax hg (ah hu hv).size) hs (EZ (fun k hk=>(HSZ.out k hk).2)) HXO.out (HT.out.below (ah hu hv)));obtain⟨bs,hbs⟩:∃b,b=(kN r.keys x.day).isSome:=⟨_,rfl⟩;rw[<-hbs] at KC;have HCT:Hid (bs=true->kM r.keys x.day=sgK r.keys x.day):=aa (fun h=>(Ft (hbs ▸ h)).symm)
   have HCF:Hid (bs=false->∀kk,r.keys[0]? = Og kk->sgK r.keys x.day=kk.id):=aa (fun h kk hkk=>by
    rw[KI (hbs ▸ h)]
    revert hkk
    cases r.keys with
    | nil=>intro hh;cases hh
    | cons a t=>intro hh;injection hh with hh;rw[hh];rfl)
   have HNEW:Hid ((l.take (k+1)).map (sgE r)=M++[sgE r x]):=HNEW
   clear hbs;obtain⟨w5,hw5⟩:∃u,u=wr:=⟨_,rfl⟩
   go_upto_region 5 with fail
   refine aD (S:=fun u=>ac w.heap.size w u/\u.cell? ⟨w.heap.size,0,Oh⟩=Og (N9 Oa r.school)/\u.cell? ⟨w.heap.size,1,Oh⟩=Og (Oc (Og ⟨g,0,Oh⟩) r.keys.length cg)/\u.cell? ⟨eg,eo+k*15+4,Oh⟩=Og (N9 Oa x.day)) [(0,true),(1,true),(2,true),(3,true),(4,true),(5,true),(6,false),(7,true),(8,true),(9,true),(10,true),(11,true)] hS0 ?_;have hS:=hS0
   iterate 6 refine ak ?_
   refine aJ 80 call80 (KC.out _ hS.1) ?_;rintro x wn⟨rfl,hb⟩;replace hS:=Io hS hb;have hbd:=ah (Below.refl _ wr).drew hb;refine⟨_,rfl,hS,?_⟩;(try clear hb);refine ay ?_
   iterate 5 refine ak ?_
   simp only[aQ,aZ];have hbl:=hbd;have hbn:=hS.1;have hhn:=hbl.heap_of (hlow.heap_of hh);clear hS hS0 hbd
   cases bs
   rotate_left 1
   .have hid:=HCT.out rfl;rw[hid];clear hid;exact rB
   .obtain⟨kk,hkk⟩:∃kk,r.keys[0]? = Og kk:=⟨_,ai hkl.1⟩;have hid:=HCF.out rfl kk hkk;have hk0:=(HK.out.below hbn hg) 0 kk hkk;rw[Nat.zero_mul] at hk0;have k0:=hk0 0 _ rfl;have b1:=ae hhn 1;have j0:(0:Int)<(r.keys.length:Int):=mOm;rw[<-hid] at k0;clear hid hkk hk0;exact rB
  .obtain rfl:k=l.length:=mOm;have i1:¬(l.length:Int)<(l.length:Int):=mOm;rw[aT] at hO |-;have hO:=hO.from_ hb0;rw[aU] at hO;have HO:=aa hO;clear hO;go_wp2_with fail;go_ret;exact⟨_,rfl,HO.out⟩
end
section
attribute [local go_sem] Ent.cells
attribute [local go_sem] Oper.semAt_some
structure AqI (w:World) (M:List Ent) (W:World):Prop where
 low:ac w.heap.size w W
 size:w.heap.size+1<=W.heap.size
 own:∃p c,W.heap[w.heap.size]? = Og (Of #[Oc p M.length c] 34 (0,0))/\W.ownsRow (w.heap.size+1) 67 15 (Oc p M.length c) M.length (aN bL M)
theorem AqI.buts{w W W':World}{M:List Ent}{S:Nat->Prop}(h:AqI w M W)(hb:aF S W W')(hS:∀q,S q->w.heap.size+1<=q)(hnc:∀q,S q->∃o,W.heap[q]? = Og o/\o.isCells=false):AqI w M W':=by
 obtain⟨p,c,h1,h2⟩:=h.own;have ne:∀q,q<w.heap.size+1->¬S q:=fun q hq hs=>by have:=hS q hs;omega
 refine⟨h.low.trans (hb.below (fun q hq e=>by have:=hS q e;omega) h.low.size),aV h.size hb.size,p,c,hb.heap h1 (ne _ mOm),bK h2 hb fun q hq hs=>?_⟩;obtain⟨o,e1,e2⟩:=oY h2 hq;obtain⟨o',e3,e4⟩:=hnc q hs;rw[e1] at e3;obtain rfl:=Option.some.inj e3;rw[e4] at e2
 cases e2
theorem AqI.app{w W W' w8:World}{M:List Ent}{e:Ent}{p:Option Addr}{c:Nat}{v9:Value}(h:AqI w M W)(hb:ac W.heap.size W w8)
  (h1:W.heap[w.heap.size]? = Og (Of #[Oc p M.length c] 34 (0,0))) (h2:W.ownsRow (w.heap.size+1) 67 15 (Oc p M.length c) M.length (aN bL M)) (hA:AppT bL 15 67 w8 (w.heap.size+1) (Oc p M.length c) M [e] v9 W') :
  AqI w (M++[e]) (W'.setCell ⟨w.heap.size,0,Oh⟩ v9)/\aF (fun q=>q=w.heap.size\/(Value.slice p M.length c).ownBlock=Og q) W (W'.setCell ⟨w.heap.size,0,Oh⟩ v9):=by
 have hg:=aF.grown hA.grown;have hlt:∀q,(Value.slice p M.length c).ownBlock=Og q->w.heap.size+1<=q/\q<W.heap.size:=fun q hq=>h2.lt q hq
 have hb2:aF (fun q=>(Value.slice p M.length c).ownBlock=Og q) W W':=(aF.of hb).trans hg;have ne:∀q,q<w.heap.size+1->¬(Value.slice p M.length c).ownBlock=Og q:=fun q hq hs=>by have:=hlt q hs;omega
 have hset:=aF.set (S:=fun q=>q=w.heap.size) W' rfl 0 v9;obtain⟨p9,c9,hv9⟩:=fZ hA.own;subst hv9;refine⟨⟨?_,?_,p9,c9,?_,?_⟩,?_⟩
 .exact(h.low.trans (hb2.below (fun q hq e=>by have:=hlt q e;omega) h.low.size)).trans (hset.below (fun q hq e=>by omega) (aV h.low.size hb2.size))
 .exact aV h.size (aV hb2.size hset.size)
 .have:=bj (hb2.heap h1 (ne _ mOm)) 0 (Oc p9 (M++[e]).length c9);rw[this];rfl
 .exact bK hA.own hset fun q hq e2=>by have:=(hA.own.lt q hq).1;omega
 .exact(hb2.mono (fun _ _ h=>.inr h)).trans (hset.mono (fun _ _ h=>.inl h))
theorem Fc(sb:Nat)(p:Option Addr)(c:Nat)(L:List bT)(w0 w:World)(hL:L.length<=4000)(hf:∀y∈L,y.Fit)(hrow:ar fX w0 (Oc p L.length c) L)(hr:Wr.Ready w0)(hsb:w.heap[sb]? = Og (Of #[Oc p L.length c] 36 (0,0)))(hb0:ac w0.heap.size w0 w) :
  Calls prog 112 #[Oc Oh 0 0,.func (.func 94) #[] #[Od (Og ⟨sb,0,Oh⟩)]] w fun e w'=>∃v,e=Oe v/\bz bL 15 67 w w' v (cT L):=by
 have hsl:=av hsb;have hx:=heap_alloc_new w (Of #[Oc Oh 0 0] 34);have hba:=aj w (Of #[Oc Oh 0 0] 34);have hz:(w.alloc (Of #[Oc Oh 0 0] 34)).heap.size=w.heap.size+1:=fJ ..;obtain⟨W1,hW1⟩:∃u,u=w.alloc (Of #[Oc Oh 0 0] 34):=⟨_,rfl⟩;rw[<-hW1] at hx hba hz;have hI0:AqI w [] W1:=⟨hba,Nat.le_of_eq hz.symm,Oh,0,hx,dX _ _ _ _⟩;have hK0:yA sb (Oc p L.length c) w0 0 W1:=⟨hba.heap_of hsb,ah hb0 hba⟩;have hit:=zE sb p c L w0 mOm hf hrow hr;have hb0l:=hb0.size
 have HEO:Hid (∀k,k<(cT L).length->∃e,(cT L)[k]? = Og e/\(cT L).getD k entZ=e):=aa (fun k hk=>by
  have hge:=ai hk
  exact⟨_,hge,by rw[bi,hge];rfl⟩)
 have HLE:Hid ((cT L).length<=4000):=aa (by
  have:(cT L).length<=L.length:=by unfold cT;exact List.length_filterMap_le ..
  omega)
 generalize cT L=EL at *
 have HI0:=aa hI0;have HK0:=aa hK0;clear hrow hr hf hb0 hx hba hI0 hK0 hsb;refine(callsIn_wide (n:=4)).1 ?_;refine callsIn_of_wp_marks func112 rfl trivial ?_ rfl;refine wpIn_wide.2 ?_;simp only[ntmps112,fa,bB,cJ,Nat.reduceAdd,Nat.reduceSub,Array.replicate_succ,Array.replicate_zero,List.push_toArray,List.append_toArray,dI,eY];go_wp2_with fail;rw[<-hW1];clear hW1
 refine wu rfl (enters_of func94 mKr rfl) hit (fun _=>rfl) (fun k hk=>hk.elim)
  (fun k A B h hle hb=>⟨hb.heap h.1 mOm,h.2.trans (hb.below (fun q hq e=>by omega) h.2.size)⟩) HK0.out
  (fun k W=>AqI w (EL.take k) W) (fun _ _=>False)
  ?hIs ?hXs ?hIp ?hXp ?hI0 (fun k N a' W=>a'=⟨aK (Oc Oh 0 0::.func (.func 94) #[] #[Od (Og ⟨sb,0,Oh⟩)]::Od (Og ⟨w.heap.size,0,Oh⟩)::undef::Oc Oh 0 0::Od (Og ⟨N,0,Oh⟩)::.func (.func 94) #[] #[Od (Og ⟨sb,0,Oh⟩)]::(EL.getD k entZ).val::undef::undef::undef::undef::undef::[]),[]⟩/\W.heap[N]? = Og (Of (EL.getD k entZ).cells 67 (0,0))) ?hBp ?hassign ?hbody ?hdone ?hstop
 case hIs=>exact fun k A B h hb=>h.buts hb (fun _ h=>h.elim) (fun _ h=>h.elim)
 case hXs=>exact fun _ _ _ h _=>h
 case hIp =>
  rintro k A l r0 r' hle hl h;exact h.buts (qe A l (.loop r')) (fun q e=>by omega) (fun q e=>⟨.loop r0,by subst e;exact hl,rfl⟩)
 case hXp=>exact fun _ _ _ _ _ _ _ h=>h
 case hI0=>exact HI0.out
 case hBp=>exact fun k N a' A l r0 r' _ hlN hl h=>⟨h.1,(qe A l (.loop r')).heap h.2 (fun e=>by have:=h.2;rw[e,hl] at this;cases this)⟩
 case hassign =>
  intro lp k W K hI hK;generalize EL.getD k entZ=e at hK |-;obtain⟨e0,e1,e2,e3,e4,e5,e6,e7,e8,e9,e10,e11,e12,e13,e14⟩:=e;have hve:Ent.val ⟨e0,e1,e2,e3,e4,e5,e6,e7,e8,e9,e10,e11,e12,e13,e14⟩=.agg #[N9 Oa e0,N9 Oa e1,N9 Oa e2,N9 Oa e3,N9 Oa e4,N9 Oa e5,Ob e6,N9 Oa e7,N9 Oa e8,N9 Oa e9,N9 Oa e10,N9 Oa e11,N9 Oa e12,N9 Oa e13,Ob e14]:=rfl;rw[hve];rw[hve] at hK
  gi_wp2
  exact hK _ _ ⟨rfl,heap_alloc_new W _⟩ (aF.alloc _ _ _)
 case hstop=>exact fun _ _ _ _ h _=>h.elim
 case hbody =>
  rintro lp k a' N1 W0 W hk hI0⟨r0,hlr⟩ hlp hb hKp ⟨rfl,hbx⟩ hle hN0 hN1;have hb':aF (fun q=>q=lp) W0 W:=hb.mono (fun q _ e=>e.resolve_left id);have hIW:=hI0.buts hb' (fun q e=>by omega) (fun q e=>⟨.loop r0,by subst e;exact hlr,rfl⟩);obtain⟨p9,c9,hv0,ho0⟩:=hI0.own;obtain⟨e,he1,he2⟩:=HEO.out k hk;rw[he2] at hbx |-;have HT:Hid (EL.take (k+1)=EL.take k++[e]):=aa (by rw[aR,he1];rfl);have HML:Hid ((EL.take k).length<=4000):=aa (by have:=HLE.out;rw[aI];omega);have hvW:=hb'.heap hv0 (show ¬w.heap.size=lp by omega);have hoW:=bK ho0 hb' (fun q hq e2=>by obtain⟨o,e3,e4⟩:=oY ho0 hq;rw[e2,hlr] at e3;obtain rfl:=Option.some.inj e3;cases e4);have hn1:=aG hbx;generalize EL.take k=M at *
  have FINA:Hid (∀u8 v9 u',ac W.heap.size W u8->AppT bL 15 67 u8 (w.heap.size+1) (Oc p9 M.length c9) M [e] v9 u'->AqI w (EL.take (k+1)) (u'.setCell ⟨w.heap.size,0,Oh⟩ v9)/\yA sb (Oc p L.length c) w0 k (u'.setCell ⟨w.heap.size,0,Oh⟩ v9)/\fN W (u'.setCell ⟨w.heap.size,0,Oh⟩ v9)/\∀g,W0.heap.size<=g->g<N1->(u'.setCell ⟨w.heap.size,0,Oh⟩ v9).heap[g]? = W.heap[g]?):=aa (fun u8 v9 u' hu hA=>by
   rw[HT.out];obtain⟨q1,q2⟩:=hIW.app hu hvW hoW hA;have hlt:∀q,(Value.slice p9 M.length c9).ownBlock=Og q->w.heap.size+1<=q/\q<W0.heap.size:=fun q hq=>ho0.lt q hq
   refine⟨q1,⟨q2.heap hKp.1 ?_,hKp.2.trans (q2.below ?_ hKp.2.size)⟩,q2.nc ?_,fun g2 h1 h2=>q2.block g2 mOm ?_⟩
   .rintro(e2|e2)
    .omega
    .have:=hlt _ e2;omega
   .rintro q hq (e2|e2)
    .omega
    .have:=hlt _ e2;omega
   .rintro q o (e2|e2) ho
    .subst e2;rw[hvW] at ho;obtain rfl:=Option.some.inj ho;rfl
    .obtain⟨o2,e3,e4⟩:=oY hoW e2;rw[ho] at e3;obtain rfl:=Option.some.inj e3;exact e4
   .rintro(e2|e2)
    .omega
    .have:=hlt _ e2;omega)
  obtain⟨e0,e1,e2,e3,e4,e5,e6,e7,e8,e9,e10,e11,e12,e13,e14⟩:=e
  simp only[Ent.cells] at hbx;have z0:W.cell? ⟨N1,0,Oh⟩=Og (N9 Oa e0):=ae hbx 0;have z1:W.cell? ⟨N1,1,Oh⟩=Og (N9 Oa e1):=ae hbx 1;have z2:W.cell? ⟨N1,2,Oh⟩=Og (N9 Oa e2):=ae hbx 2;have z3:W.cell? ⟨N1,3,Oh⟩=Og (N9 Oa e3):=ae hbx 3;have z4:W.cell? ⟨N1,4,Oh⟩=Og (N9 Oa e4):=ae hbx 4;have z5:W.cell? ⟨N1,5,Oh⟩=Og (N9 Oa e5):=ae hbx 5;have z6:W.cell? ⟨N1,6,Oh⟩=Og (Ob e6):=ae hbx 6;have z7:W.cell? ⟨N1,7,Oh⟩=Og (N9 Oa e7):=ae hbx 7;have z8:W.cell? ⟨N1,8,Oh⟩=Og (N9 Oa e8):=ae hbx 8;have z9:W.cell? ⟨N1,9,Oh⟩=Og (N9 Oa e9):=ae hbx 9;have z10:W.cell? ⟨N1,10,Oh⟩=Og (N9 Oa e10):=ae hbx 10;have z11:W.cell? ⟨N1,11,Oh⟩=Og (N9 Oa e11):=ae hbx 11;have z12:W.cell? ⟨N1,12,Oh⟩=Og (N9 Oa e12):=ae hbx 12;have z13:W.cell? ⟨N1,13,Oh⟩=Og (N9 Oa e13):=ae hbx 13;have z14:W.cell? ⟨N1,14,Oh⟩=Og (Ob e14):=ae hbx 14;have v0:W.cell? ⟨w.heap.size,0,Oh⟩=Og (Oc p9 M.length c9):=ae hvW 0;have hba:=aj W (Of #[N9 Oa e0,N9 Oa e1,N9 Oa e2,N9 Oa e3,N9 Oa e4,N9 Oa e5,Ob e6,N9 Oa e7,N9 Oa e8,N9 Oa e9,N9 Oa e10,N9 Oa e11,N9 Oa e12,N9 Oa e13,Ob e14] 67);have hlit:ar bL (W.alloc (Of #[N9 Oa e0,N9 Oa e1,N9 Oa e2,N9 Oa e3,N9 Oa e4,N9 Oa e5,Ob e6,N9 Oa e7,N9 Oa e8,N9 Oa e9,N9 Oa e10,N9 Oa e11,N9 Oa e12,N9 Oa e13,Ob e14] 67)) (Oc (Og ⟨W.heap.size,0,Oh⟩) 1 1) [(⟨e0,e1,e2,e3,e4,e5,e6,e7,e8,e9,e10,e11,e12,e13,e14⟩:Ent)]:=cN (heap_alloc_new W _) _ rfl rfl;have HBA:=aa hba;have hown:=bK hoW (aF.of (S:=fun _=>False) hba) (fun _ _ e=>e);have hsz:w.heap.size+1<=(W.alloc (Of #[N9 Oa e0,N9 Oa e1,N9 Oa e2,N9 Oa e3,N9 Oa e4,N9 Oa e5,Ob e6,N9 Oa e7,N9 Oa e8,N9 Oa e9,N9 Oa e10,N9 Oa e11,N9 Oa e12,N9 Oa e13,Ob e14] 67)).heap.size:=aV hIW.size hba.size;have HV8:=aa (hba.heap_of hvW);have HOW:=aa hoW;clear hb hb' hIW hI0 hKp hv0 ho0 he1 he2 hvW hoW hbx hk hle hN0 hN1 hba hn1
  gi_wp2_with (gi_at_builtin;go_loud (refine oj enT rfl (.tmp 8) (.tmp 10) rfl (w.heap.size+1) (Oc p9 M.length c9) (Oc (Og ⟨W.heap.size,0,Oh⟩) 1 1) M [(⟨e0,e1,e2,e3,e4,e5,e6,e7,e8,e9,e10,e11,e12,e13,e14⟩:Ent)] rfl rfl hown hlit (by have:=HML.out;simp only[aB];omega) hsz ?_;intro v9 w10 hA9;obtain⟨g9,c10,hv9⟩:=jU hA9.own;subst hv9;rw[ap,aB] at hA9;have HA9:=aa hA9;have k9:=(aF.grown hA9.grown).heap HV8.out (fun e2=>by have:=(HOW.out.lt _ e2).1;omega);have c19:=ae k9 0;have f19:=aE k9 0;clear hA9 hown hlit k9))
  exact FINA.out _ _ _ HBA.out HA9.out
 case hdone =>
  intro D W hD hI hDW;rw[aT] at hI;obtain⟨p9,c9,hv,ho⟩:=hI.own;have v0:W.cell? ⟨w.heap.size,0,Oh⟩=Og (Oc p9 EL.length c9):=ae hv 0;have HI:=aa hI;have HO:=aa ho;clear hI ho hv;go_wp2_with fail;refine uW D _ hDW fun w' hw'=>⟨Oc p9 EL.length c9,by simp[results,results112],_,rfl,?_⟩
  refine bz.of (jT (bK HO.out hw' (fun q hq e2=>?_)) mOm) (HI.out.low.trans (hw'.below (fun q hq e2=>by omega) HI.out.low.size));obtain⟨o,e3,e4⟩:=oY HO.out hq;rw[e2,hDW] at e3;obtain rfl:=Option.some.inj e3
  cases e4
theorem BG(sb:Nat)(p:Option Addr)(c:Nat)(L:List bT)(w0 w:World)(hL:L.length<=4000)(hf:∀y∈L,y.Fit)(hrow:ar fX w0 (Oc p L.length c) L)(hr:Wr.Ready w0)(hsb:w.heap[sb]? = Og (Of #[Oc p L.length c] 36 (0,0)))(hb0:ac w0.heap.size w0 w) :
  Calls prog 48 #[.func (.func 94) #[] #[Od (Og ⟨sb,0,Oh⟩)]] w fun e w'=>∃v,e=Oe v/\bz bL 15 67 w w' v (cT L):=by
 have ks:=Fc sb p c L w0 w hL hf hrow hr hsb hb0;clear hf hrow hr hsb hb0;go_enter func48,ntmps48;go_wp2_with fail;refine ks.mono ?_;clear ks;rintro _ w1⟨v,rfl,hO⟩;obtain⟨p9,c9,rfl⟩:=hO.form;have HO:=aa hO;clear hO;go_wp2_with fail;go_ret;exact⟨_,rfl,HO.out⟩
theorem Gd(y:bT)(w:World):Calls prog 47 #[.agg #[Ob y.key,Ob y.hash,Ob y.body]] w fun e w'=>e=Oe (.bool (y.body.toList.isEmpty))/\ac w.heap.size w w':=by
 obtain⟨k,h,b⟩:=y;have hba:=aj w (Of #[Ob k,Ob h,Ob b] 69);by_cases hb:b.toList=[]
 .have t1:b.toList.isEmpty=true:=by rw[hb];rfl
  go_enter func47,ntmps47;go_wp2_with fail;go_ret;exact⟨by simp[t1],hba⟩
 .have t1:b.toList.isEmpty=false:=by cases hx:b.toList with
   | nil=>exact absurd hx hb
   | cons _ _=>rfl
  go_enter func47,ntmps47
  go_wp2_with fail;go_ret;exact⟨by simp[t1],hba⟩
