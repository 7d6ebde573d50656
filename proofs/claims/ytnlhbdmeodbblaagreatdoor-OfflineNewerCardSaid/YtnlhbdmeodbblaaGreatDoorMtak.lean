/- Lemmas. -/
import Derived.Test.YtnlhbdmeodbblaaGreatDoorMtag
set_option maxRecDepth 100000
set_option maxHeartbeats 16000000
set_option linter.all false
open Go.Proofs.Tryz
open Go.IntWalk renaming i64_in->aH
open Go.Lib renaming cell_of_heap->ae,compareBytes->gY,frozen_of_heap->aE,hid->aa
open List renaming cons_append->eY,foldl_append->fO,getD_eq_getElem?_getD->bi,getElem?_eq_getElem->ai,getElem?_eq_some_iff->aA,getElem?_map->en,length->jQ,length_append->ap,length_cons->bB,length_map->aU,length_nil->cJ,length_reverse->fF,length_singleton->aB,length_take->aI,mem_append->bI,mem_cons->bM,mem_cons_self->cM,mem_of_getElem?->cZ,mem_reverse->iL,mem_singleton->bE,nil_append->dI,not_mem_nil->eZ,reverse_append->gI,reverse_reverse->eS,size_toArray->fa,take_add_one->aR,take_of_length_le->du,toArray->aK
open Nat renaming le_refl->az,le_succ->pK,le_trans->aV,zero_add->bP,zero_le->aP
open Go.RowKit renaming Below->ac,intOf->aw
open Go.World renaming block_lt_of_cell?->al,putObj_heap_other->ee
open Go.Ending renaming returned->Oe
open Go.IntKind renaming i64->Oa
open Go.Obj renaming cells->Of
open Go.Value renaming int->N9,string->Ob,slice->Oc,pointer->Od
open Option renaming some->Og,none->Oh
namespace Go.Proofs.YtnlhbdmeodbblaaGreatDoor
open Go Go.RowKit Go.Sort Go.Lib
section
theorem aF.next{S T:Nat->Prop}{a b c:World}(h:aF S a b)(h2:aF T b c)(hT:∀k,k<a.heap.size->T k->S k):aF S a c:=
 ⟨h2.os.trans h.os,h2.tape.trans h.tape,h2.output.trans h.output,aV h.size h2.size,fun k hk hs=>(h2.block k (Nat.lt_of_lt_of_le hk h.size) (fun e=>hs (hT k hk e))).trans (h.block k hk hs)⟩
def Blk.fit(x:Blk):Prop:=x.b<=1099511627776/\0<x.s/\x.s<=1099511627776/\x.d.size=8
theorem C6(nd:ByteArray->ByteArray->ByteArray)(hn:∀x y,(nd x y).size=8):∀(st:List Blk)(x:Blk),(∀y∈st,Blk.fit y)->Blk.fit x->x.b+x.s<=1099511627776->∀y∈fU nd st x,Blk.fit y
 | [],x,_,hx,_=>fun y hy=>by
  obtain rfl:y=x:=by simpa [fU] using hy
  exact hx
 | a::st,x,hst,hx,hb=>by
  have ha:=hst a (cM ..);unfold fU
  split
  .rename_i e
   exact C6 nd hn st ⟨a.b,2*a.s,nd a.d x.d⟩ (fun y hy=>hst y (List.mem_cons_of_mem _ hy)) ⟨ha.1,by have:=ha.2.1;show 0<2*a.s;omega,by show 2*a.s<=_;omega,hn _ _⟩ (by show a.b+2*a.s<=_;omega)
  .intro y hy;rcases bM.1 hy with rfl|hy
   .exact hx
   .exact hst y hy
theorem C7(nd:ByteArray->ByteArray->ByteArray):∀(st:List Blk)(x:Blk),(fU nd st x).length<=st.length+1
 | [],_=>az _
 | a::st,x=>by
  unfold fU
  split
  .exact aV (C7 nd st _) mSi
  .exact az _
theorem fu.last{fb:Nat}{bv dv:Value}{M:List Blk}{a:Blk}{w:World}(h:fu fb bv dv (M++[a]) w) :
  ∃g g2 c c2,bv=Oc (Og ⟨g,0,Oh⟩) (M.length+1) c/\dv=Oc (Og ⟨g2,0,Oh⟩) (M.length+1) c2/\w.rangeAt g (M.length*2) (lu a)/\w.cell? ⟨g2,M.length,Oh⟩=Og (Ob a.d)/\(g<w.heap.size/\g2<w.heap.size)/\(fb<g/\fb<g2)/\M.length+1<=c/\M.length+1<=c2:=by
 have hl:(M++[a]).length=M.length+1:=mSi;have hget:(M++[a])[M.length]? = some a:=mSi;have h1:=h.bs;have h2:=h.ds;rw[hl] at h1 h2;obtain⟨-,(⟨-,h0⟩|⟨g,c,cur,rfl,hg,hgh,hc,-⟩)⟩:=id h1
 .omega
 obtain⟨-,(⟨-,h0⟩|⟨g2,c2,cur2,rfl,hg2,hgh2,hc2,-⟩)⟩:=id h2
 .omega
 refine⟨g,g2,c,c2,rfl,rfl,fun j v hv=>?_,?_,⟨aG hgh,aG hgh2⟩,⟨hg,hg2⟩,hc,hc2⟩
 .have:=h1.cells (g:=g) rfl (M.length*2+j) v (jp (enc:=lu) (k:=2) (fun _=>rfl) hget hv);rw[add_plain,bP] at this;exact this
 .have:=h2.cells (g:=g2) rfl (M.length*1+0) (Ob a.d) (jp (enc:=pR) (k:=1) (fun _=>rfl) hget rfl);rw[add_plain,bP] at this
  simpa using this
theorem fu.cut{fb g g2 c c2:Nat}{M:List Blk}{a:Blk}{w w':World}(h:fu fb (Oc (Og ⟨g,0,Oh⟩) (M.length+1) c) (Oc (Og ⟨g2,0,Oh⟩) (M.length+1) c2) (M++[a]) w)(hg:fb<g)(hg2:fb<g2)(hb:aF (fun k=>k=fb) w w')
  (hbx:w'.heap[fb]? = Og (Of #[Oc (Og ⟨g,0,Oh⟩) M.length c,Oc (Og ⟨g2,0,Oh⟩) M.length c2] 264 (0,0))) :
  fu fb (Oc (Og ⟨g,0,Oh⟩) M.length c) (Oc (Og ⟨g2,0,Oh⟩) M.length c2) M w':=by
 have hl:(M++[a]).length=M.length+1:=mSi;have h1:=h.bs;have h2:=h.ds;rw[hl] at h1 h2;have k1:=tU h1 (pK M.length);have k2:=tU h2 (pK M.length);rw[iV (k:=2) (fun _=>rfl),List.take_left'  rfl] at k1;rw[iV (k:=1) (fun _=>rfl),List.take_left' rfl] at k2;have hf:=h.few;exact⟨hbx,bK k1 hb (fun q hq e=>by injection hq with hq;simp only at hq;omega),bK k2 hb (fun q hq e=>by injection hq with hq;simp only at hq;omega),mOm,fun x hx=>h.fit x (List.mem_append_left _ hx)⟩
theorem fZ{w:World}{base k n:Nat}{e:TypeId}{v:Value}{xs:List Value}(h:w.ownsRow base e k v n xs):∃p c,v=Oc p n c:=by
 obtain⟨-,(⟨rfl,rfl⟩|⟨g,c,cur,rfl,-⟩)⟩:=h
 .exact⟨_,_,rfl⟩
 .exact⟨_,_,rfl⟩
structure AddSt (fb xb:Nat) (bv dv:Value) (L:List Blk) (x:Blk) (w:World) (M:List Blk) (z:Blk) (bm dm:Value) (wr:World):Prop where
 at_:fu fb bm dm M wr
 box:wr.heap[xb]? = Og (Of #[N9 Oa z.b,N9 Oa z.s] 293 (0,0))
 buts:aF (gU fb bv dv) w wr
 eqb:bm.ownBlock=bv.ownBlock
 eqd:dm.ownBlock=dv.ownBlock
 push:fU bw M.reverse z=fU bw L.reverse x
 zf:Blk.fit z
 zb:z.b+z.s<=1099511627776
 len:M.length<=L.length
structure me (fb:Nat) (bv dv:Value) (L:List Blk) (x:Blk) (w w':World):Prop where
 at_:∃bv' dv',fu fb bv' dv' (fU bw L.reverse x).reverse w'/\(∀q,bv'.ownBlock=Og q->bv.ownBlock=Og q\/w.heap.size<=q)/\(∀q,dv'.ownBlock=Og q->dv.ownBlock=Og q\/w.heap.size<=q)
 buts:aF (gU fb bv dv) w w'
theorem AddSt.below{fb xb:Nat}{bv dv:Value}{L:List Blk}{x:Blk}{w:World}{M:List Blk}{z:Blk}{bm dm:Value}{wr wx:World}(h:AddSt fb xb bv dv L x w M z bm dm wr)(hb:ac wr.heap.size wr wx):AddSt fb xb bv dv L x w M z bm dm wx:=
 ⟨h.at_.buts (aF.of (S:=fun _=>False) hb) id (fun _ _ h=>h) (fun _ _ h=>h),hb.heap_of h.box,h.buts.trans (aF.of hb),h.eqb,h.eqd,h.push,h.zf,h.zb,h.len⟩
theorem AddSt.done{fb xb:Nat}{bv dv:Value}{L:List Blk}{x:Blk}{w:World}{M:List Blk}{z:Blk}{bm dm:Value}{wr wx:World}{u v:Value}(h:AddSt fb xb bv dv L x w M z bm dm wr)(hp:fU bw M.reverse z=z::M.reverse)(hL:L.length<10000)
  (h1:aF (gU fb bm dm) wr wx) (hbx:wx.heap[fb]? = Og (Of #[u,v] 264 (0,0)))
  (h2:wx.ownsRow (fb+1) 293 2 u (M++[z]).length (aN lu (M++[z]))/\(∀q,u.ownBlock=Og q->bm.ownBlock=Og q\/wr.heap.size<=q))
  (h3:wx.ownsRow (fb+1) 9 1 v (M++[z]).length (aN pR (M++[z]))/\(∀q,v.ownBlock=Og q->dm.ownBlock=Og q\/wr.heap.size<=q)):me fb bv dv L x w wx:=by
 have e:(fU bw L.reverse x).reverse=M++[z]:=by rw[<-h.push,hp];simp
 have hsz:=h.buts.size;have hl:=h.len;refine⟨⟨u,v,?_,fun q hq=>?_,fun q hq=>?_⟩,h.buts.trans (h1.mono fun k _ hk=>?_)⟩
 .rw[e]
  exact⟨hbx,h2.1,h3.1,by rw[ap];simp only[aB];omega,fun y hy=>by
   rcases bI.1 hy with hy|hy
   .exact h.at_.fit y hy
   .obtain rfl:y=z:=by simpa using hy
    exact h.zf⟩
 .rcases h2.2 q hq with e|e
  .exact .inl (h.eqb ▸ e)
  .exact .inr (aV hsz e)
 .rcases h3.2 q hq with e|e
  .exact .inl (h.eqd ▸ e)
  .exact .inr (aV hsz e)
 .rcases hk with e|e|e
  .exact .inl e
  .exact .inr (.inl (h.eqb ▸ e))
  .exact .inr (.inr (h.eqd ▸ e))
theorem AddSt.step{fb xb:Nat}{bv dv:Value}{L:List Blk}{x:Blk}{w:World}{M:List Blk}{a z:Blk}{g g2 c c2:Nat}{wr wx wy:World}
  (h:AddSt fb xb bv dv L x w (M++[a]) z (Oc (Og ⟨g,0,Oh⟩) (M.length+1) c) (Oc (Og ⟨g2,0,Oh⟩) (M.length+1) c2) wr) (hh:ot a.b a.s z.b z.s=true) (hg:fb<g) (hg2:fb<g2) (hxb:w.heap.size<=xb) (hx1:g≠xb) (hx2:g2≠xb) (hx3:fb≠xb)
  (h1:aF (fun k=>k=xb) wr wx) (hbx:wx.heap[xb]? = Og (Of #[N9 Oa a.b,N9 Oa (2*(a.s:Int))] 293 (0,0)))
  (h2:aF (fun k=>k=fb) wx wy) (hby:wy.heap[fb]? = Og (Of #[Oc (Og ⟨g,0,Oh⟩) M.length c,Oc (Og ⟨g2,0,Oh⟩) M.length c2] 264 (0,0))) :
  AddSt fb xb bv dv L x w M ⟨a.b,2*a.s,bw a.d z.d⟩ (Oc (Og ⟨g,0,Oh⟩) M.length c) (Oc (Og ⟨g2,0,Oh⟩) M.length c2) wy:=by
 unfold ot at hh;rw[decide_eq_true_eq] at hh;obtain⟨e1,e2,e3⟩:=hh;have hxlt:=aG hbx;have hat:=h.at_.buts h1 (fun e=>hx3 e) (fun k hk e=>by injection hk with hk;simp only at hk;omega) (fun k hk e=>by injection hk with hk;simp only at hk;omega);have haf:=h.at_.fit a (List.mem_append_right _ (bE.2 rfl));have hzb:=h.zb;have hl:=h.len;simp only[ap,aB] at hl;refine⟨hat.cut hg hg2 h2 hby,?_,?_,h.eqb,h.eqd,?_,⟨haf.1,?_,?_,rfl⟩,?_,mOm⟩
 .have:=h2.heap hbx (fun e=>hx3 e.symm);rw[this];push_cast;rfl
 .exact(h.buts.next h1 (fun k hk e=>absurd hk mOm)).next h2 (fun k _ e=>.inl e)
 .have hp:=h.push;rw[gI,List.reverse_singleton,List.singleton_append,fU,if_pos ⟨e1,e2,e3⟩] at hp;exact hp
 .show 0<2*a.s
  have:=haf.2.1;omega
 .show 2*a.s<=_
  omega
 .show a.b+2*a.s<=_
  omega
theorem EA(fb:Nat)(bv dv:Value)(L:List Blk)(x:Blk)(w:World)(hF:fu fb bv dv L w)(hL:L.length<10000)(hx:x.b+x.s<=1099511627776)(hx0:0<x.s)(hxd:x.d.size=8) :
  Calls prog 271 #[Od (Og ⟨fb,0,Oh⟩),.agg #[N9 Oa x.b,N9 Oa x.s],Ob x.d] w fun e w'=>(∃v,e=Oe v)/\me fb bv dv L x w w':=by
 have hfl:=aG hF.box;have hbl:∀q,bv.ownBlock=Og q->fb<q/\q<w.heap.size:=fun q hq=>hF.bs.lt q hq
 have hdl:∀q,dv.ownBlock=Og q->fb<q/\q<w.heap.size:=fun q hq=>hF.ds.lt q hq
 obtain⟨pb,cb,hbv⟩:=fZ hF.bs;have c0:=ae hF.box 0;rw[hbv] at c0;have a1:IntKind.i64.wrap ((L.length:Int)-1)=(L.length:Int)-1:=aH _ mOm;have hxf:Blk.fit x:=⟨mOm,hx0,mOm,hxd⟩;have hS0:AddSt fb w.heap.size bv dv L x w L x bv dv (w.alloc (Of #[N9 Oa x.b,N9 Oa x.s] 293)):=
  ⟨hF.buts (aF.alloc (fun _=>False) w _) id (fun _ _ h=>h) (fun _ _ h=>h),heap_alloc_new w _,aF.alloc _ w _,rfl,rfl,rfl,hxf,hx,az _⟩
 have HBV:=aa hbv
 clear hbv;go_enter func271,ntmps271;go_wp2_with fail
 go_loopg [2,6] L.length (fun r dg n wr=>∃M z bm dm,M.length=r/\dg=Ob z.d/\n=N9 Oa ((M.length:Int)-1)/\AddSt fb w.heap.size bv dv L x w M z bm dm wr)
 case atStart=>exact⟨L,x,bv,dv,rfl,rfl,rfl,hS0⟩
 case round =>
  obtain⟨M,z,bm,dm,hr,rfl,rfl,hS⟩:=hrel;have hxs:¬gU fb bm dm w.heap.size:=by
   rintro(e|e|e)
   .omega
   .rw[hS.eqb] at e;have:=(hbl _ e).2;omega
   .rw[hS.eqd] at e;have:=(hdl _ e).2;omega
  have HXS:=aa hxs
  clear hxs;rcases List.eq_nil_or_concat M with rfl|⟨M',a,rfl⟩
  .have hn:((([]:List Blk).length:Int)-1) = -1:=rfl;rw[hn];have hp:fU bw ([]:List Blk).reverse z=z::([]:List Blk).reverse:=rfl
   go_upto_region 2 with fail
   refine MB fb w.heap.size wr _ ?_;intro u13 u14 u15 u16 u17 u18 u19 u20 u21 u22 u23 u24 w1 hb1;have hS1:AddSt fb w.heap.size bv dv L x w [] z bm dm w1:=hS.below hb1
   go_upto_region 6 with fail
   refine Lf fb w.heap.size bm dm [] z w1 _ hS1.at_ hS1.box HXS.out ?_;intro u69 u71 u72 u76 u78 u79 u80 u81 u82 u83 w2 k1 k2 k3 k4;have hD:=hS1.done hp hL k1 k2 k3 k4;go_wp2_with fail
   go_end0
   exact⟨⟨_,rfl⟩,hD⟩
  .rw[List.concat_eq_append] at hS hr |-;obtain⟨g,g2,c,c2,rfl,rfl,q1,q2,⟨q3,q4⟩,⟨q5,q6⟩,q7,q8⟩:=hS.at_.last;have hml:(M'++[a]).length=M'.length+1:=mSi;have hn:(((M'++[a]).length:Nat):Int)-1=(M'.length:Int):=by rw[hml];omega
   rw[hn];rw[hml] at hr;have hgb:Og g=bv.ownBlock:=hS.eqb;have hgd:Og g2=dv.ownBlock:=hS.eqd;have hg1:=(hbl g hgb.symm).2;have hg2:=(hdl g2 hgd.symm).2;have hfew:=hS.at_.few;rw[hml] at hfew;have haf:=hS.at_.fit a (List.mem_append_right _ (bE.2 rfl));have hzd:=hS.zf.2.2.2
   go_upto_region 2 with fail
   refine No fb w.heap.size g g2 (M'.length+1) c c2 M'.length a z wr _ hS.at_.box hS.box q1 q3 mOm hfew haf.1 haf.2.2.1 haf.2.1 ?_;intro u13 u14 u15 u16 u17 u18 u19 u20 u21 u22 u23 u24 w1 hb1;have hS1:=hS.below hb1;generalize hH:ot a.b a.s z.b z.s=H
   cases H
   .have hp:fU bw (M'++[a]).reverse z=z::(M'++[a]).reverse:=by
     unfold ot at hH;rw[decide_eq_false_iff_not] at hH;rw[gI,List.reverse_singleton,List.singleton_append,fU,if_neg hH]
    clear hH
    go_upto_region 6 with fail
    refine Lf fb w.heap.size _ _ (M'++[a]) z w1 _ hS1.at_ hS1.box HXS.out ?_;intro u69 u71 u72 u76 u78 u79 u80 u81 u82 u83 w2 k1 k2 k3 k4;have hD:=hS1.done hp hL k1 k2 k3 k4;go_wp2_with fail
    go_end0
    exact⟨⟨_,rfl⟩,hD⟩
   .have HH:=aa hH;clear hH;have r1:w1.rangeAt g (M'.length*2) (lu a):=fun j v hv=>(hb1.cell (p:=⟨g,M'.length*2+j,Oh⟩) q3).trans (q1 j v hv)
    have r2:w1.cell? ⟨g2,M'.length,Oh⟩=Og (Ob a.d):=(hb1.cell (p:=⟨g2,M'.length,Oh⟩) q4).trans q2;have hsz:=hb1.size;have hw1:=hS.buts.size
    go_upto_region 4 with fail
    refine Np fb w.heap.size g g2 (M'.length+1) c c2 M'.length a z z.d w1 _ hS1.at_.box hS1.box r1 r2 mOm mOm mOm mOm mOm mOm hfew haf.2.2.1 haf.2.2.2 hzd ?_;intro u35 u44 u45 w2 k1 k2;have hbx2:=k1.heap hS1.at_.box mOm
    go_upto_region 5 with fail
    refine Nq fb g g2 (M'.length+1) c c2 M'.length w2 _ hbx2 mOm hfew q7 q8 ?_;intro u51 u53 u57 u59 u60 u61 u62 u63 w3 k3 k4;have hS3:=hS1.step HH.out q5 q6 (az _) mOm mOm mOm k1 k2 k3 k4;have a2:IntKind.i64.wrap ((M'.length:Int)-1)=(M'.length:Int)-1:=aH _ mOm;clear hn;go_wp2_with fail
    go_roundg M'.length
    case measure=>omega
    case rel=>exact⟨M',_,_,_,rfl,rfl,rfl,hS3⟩
end
section
def rh(s:ByteArray):ByteArray:=dgB (dR [⟨#[3]⟩,s])
theorem GC(b c:Nat)(x:ByteArray)(hx:x.size<=100000000)(w:World)(h:w.heap[b]? = Og (Of #[Ob ⟨#[3]⟩,Ob x] 9 (0,0))) :
  Calls prog 181 #[Oc (Og ⟨b,0,Oh⟩) 2 c] w fun e w'=>e=Oe (Ob (rh x))/\ac w.heap.size w w':=
 th b c [⟨#[3]⟩,x] 2 rfl mOm w (qc h _ rfl (by
  intro z hz;simp only[bM,eZ,or_false] at hz;rcases hz with rfl|rfl
  .decide
  .exact hx))
def bV(s:ByteArray):List Value:=[Ob s]
theorem ta{fb:Nat}{bv dv:Value}{L:List Blk}{w:World}(h:fu fb bv dv L w){k:Nat}(hk:gU fb bv dv k):fb<=k/\k<w.heap.size:=by
 rcases hk with rfl|e|e
 .exact⟨az _,aG h.box⟩
 .have:=h.bs.lt k e;omega
 .have:=h.ds.lt k e;omega
theorem fu.below{fb:Nat}{bv dv:Value}{L:List Blk}{w w':World}(h:fu fb bv dv L w)(hb:ac w.heap.size w w'):fu fb bv dv L w':=
 h.buts (aF.of (S:=fun _=>False) hb) id (fun _ _ h=>h) (fun _ _ h=>h)
theorem me.from_{fb:Nat}{bv dv:Value}{L:List Blk}{x:Blk}{w w1 w2:World}(hb:ac w.heap.size w w1)(h:me fb bv dv L x w1 w2):me fb bv dv L x w w2:=by
 obtain⟨⟨bv',dv',h1,h2,h3⟩,h4⟩:=h;have hsz:=hb.size;exact⟨⟨bv',dv',h1,fun q hq=>(h2 q hq).imp id (aV hsz),fun q hq=>(h3 q hq).imp id (aV hsz)⟩,(aF.of hb).trans h4⟩
structure ij (fb:Nat) (bv dv:Value) (L xs:List Blk) (w w':World):Prop where
 at_:∃bv' dv',fu fb bv' dv' (eO bw L.reverse xs).reverse w'/\(∀q,bv'.ownBlock=Og q->bv.ownBlock=Og q\/w.heap.size<=q)/\(∀q,dv'.ownBlock=Og q->dv.ownBlock=Og q\/w.heap.size<=q)
 buts:aF (gU fb bv dv) w w'
theorem ij.nil{fb:Nat}{bv dv:Value}{L:List Blk}{w:World}(h:fu fb bv dv L w):ij fb bv dv L [] w w:=
 ⟨⟨bv,dv,by show fu fb bv dv L.reverse.reverse w;rw[eS];exact h,fun _ h=>.inl h,fun _ h=>.inl h⟩,aF.refl _ _⟩
theorem ij.snoc{fb:Nat}{bv dv bv1 dv1:Value}{L xs:List Blk}{x:Blk}{w w1 w2:World}(hF:aF (gU fb bv dv) w w1)(hb:∀q,bv1.ownBlock=Og q->bv.ownBlock=Og q\/w.heap.size<=q)(hd:∀q,dv1.ownBlock=Og q->dv.ownBlock=Og q\/w.heap.size<=q)
  (h2:me fb bv1 dv1 (eO bw L.reverse xs).reverse x w1 w2):ij fb bv dv L (xs++[x]) w w2:=by
 obtain⟨⟨bv',dv',k1,k2,k3⟩,k4⟩:=h2;have hsz:=hF.size;refine⟨⟨bv',dv',?_,fun q hq=>?_,fun q hq=>?_⟩,hF.next k4 (fun k hk e=>?_)⟩
 .rw[eS] at k1;have:eO bw L.reverse (xs++[x])=fU bw (eO bw L.reverse xs) x:=by unfold eO;rw[fO];rfl
  rw[this];exact k1
 .rcases k2 q hq with e|e
  .exact hb q e
  .exact .inr (aV hsz e)
 .rcases k3 q hq with e|e
  .exact hd q e
  .exact .inr (aV hsz e)
 .rcases e with e|e|e
  .exact .inl e
  .exact .inr (.inl ((hb k e).resolve_right mOm))
  .exact .inr (.inr ((hd k e).resolve_right mOm))
theorem nN(nd:ByteArray->ByteArray->ByteArray):∀(xs st:List Blk),(eO nd st xs).length<=st.length+xs.length
 | [],st=>az _
 | x::xs,st=>by
  have h1:=nN nd xs (fU nd st x);have h2:=C7 nd st x
  show(eO nd (fU nd st x) xs).length<=_
  simp only[bB];omega
def ie(b:Nat)(l:List ByteArray):List Blk:=l.mapIdx fun i s=>⟨b+i,1,rh s⟩
theorem sM(b:Nat)(l:List ByteArray)(s:ByteArray):ie b (l++[s])=ie b l++[⟨b+l.length,1,rh s⟩]:=by unfold ie;rw[List.mapIdx_append];simp
theorem gb{w:World}{v:Value}{l:List ByteArray}{p:Option Addr}{n c:Nat}(h:ar bV w v l)(hv:v=Oc p n c)(hl:0<l.length):∃b o,p=Og ⟨b,o,Oh⟩/\b<w.heap.size/\∀k s,l[k]? = Og s->w.cell? ⟨b,o+k,Oh⟩=Og (Ob s):=by
 obtain⟨p',c',e,h1,h2,h3⟩:=h;rw[hv] at e;injection e with e1 e2 e3;subst e1;obtain⟨b,o,rfl,hb,hx⟩:=h3 hl;refine⟨b,o,rfl,hb,fun k s hk=>?_⟩;have:=hx (k*1+0) (Ob s) (jp (enc:=bV) (k:=1) (fun _=>rfl) hk rfl)
 simpa using this
theorem Gt(fb bg:Nat)(bv dv:Value)(L:List Blk)(l:List ByteArray)(p:Option Addr)(c:Nat)(w0 w:World)(hF:fu fb bv dv L w)(hL:L.length+l.length<10000)(hbg:bg+l.length<=1099511627776)(hl:ar bV w0 (Oc p l.length c) l)(hz:∀s∈l,s.size<=100000000)(h0:w0.heap.size<=fb)(hb0:ac w0.heap.size w0 w) :
  Calls prog 247 #[Od (Og ⟨fb,0,Oh⟩),N9 Oa bg,Oc p l.length c] w fun e w'=>(∃v,e=Oe v)/\ij fb bv dv L (ie bg l) w w':=by
 have HL:=aa hl;have HZ:=aa hz;have HF:=aa hF;clear hl hz;go_enter func247,ntmps247;go_wp2_with fail
 go_loopw [10] (fun i wr=>∃k:Nat,k<=l.length/\i=N9 Oa k/\ij fb bv dv L (ie bg (l.take k)) w wr) (fun i _=>l.length-(aw i).toNat)
 case atStart=>exact⟨0,aP _,rfl,ij.nil hF⟩
 case round =>
  obtain⟨k,hk,rfl,hA⟩:=hrel;by_cases hkl:k<l.length
  .obtain⟨b,o,rfl,hbl,hcv⟩:=gb HL.out rfl mOm;have hget:=ai hkl;have hwr:ac w0.heap.size w0 wr:=hb0.trans (hA.buts.below (fun q hq e=>by have:=(ta HF.out e).1;omega) hb0.size);have hc:=(hwr.cell (p:=⟨b,o+k,Oh⟩) hbl).trans (hcv k _ hget);have hsz:=HZ.out _ (List.getElem_mem hkl);have HT:=aa (show l.take (k+1)=l.take k++[l[k]] by rw[aR,hget];rfl);generalize l[k]=s at *;have hlt:=nN bw (ie bg (l.take k)) L.reverse;have hlk:(ie bg (l.take k)).length=k:=by unfold ie;rw[List.length_mapIdx,aI];omega
   have hlr:(l.take k).length=k:=by rw[aI];omega
   obtain⟨⟨b1,d1,k1,k2,k3⟩,k4⟩:=hA;have K2:=aa (And.intro k2 k3);have i2:(k:Int)<(l.length:Int):=mOm;clear hcv hget k2 k3;rw[fF] at hlt;have a1:IntKind.i64.wrap ((bg:Int)+(k:Int))=((bg+k:Nat):Int):=fY _ _ mOm mOm;have hlen:(eO bw L.reverse (ie bg (l.take k))).reverse.length<10000:=by rw[fF];omega
   have hbk:bg+k+1<=1099511627776:=mOm;have HK1:=aa k1;have HK4:=aa k4;clear k1 k4;go_wp2_with fail;refine(GC wr.heap.size 2 s hsz _ (heap_alloc_new wr _)).mono ?_;rintro _ wn⟨rfl,hb⟩;have hb1:ac wr.heap.size wr wn:=(aj wr _).trans (hb.mono mSi);go_wp2_with fail;refine(EA fb b1 d1 _ ⟨bg+k,1,rh s⟩ wn (HK1.out.below hb1) hlen hbk Nat.one_pos rfl).mono ?_;rintro _ wx⟨⟨v,rfl⟩,hA2⟩;replace hA2:=me.from_ hb1 hA2;have k4:=HK4.out;have hA3:=ij.snoc k4 K2.out.1 K2.out.2 hA2;have hAN:ij fb bv dv L (ie bg (l.take (k+1))) w wx:=by rw[HT.out,sM,hlr];exact hA3
   clear hA2 hA3 k4 hlt hlr hlk hlen hbk a1;go_wp2_with fail
   go_roundw
   case rel=>exact⟨k+1,mOm,by go_num,hAN⟩
   case measure=>simp[aw];omega
  .obtain rfl:k=l.length:=mOm;rw[List.take_length] at hA;go_wp2_with fail
   go_end0
   exact⟨⟨_,rfl⟩,hA⟩
end
section
attribute [local go_sem] Oper.semAt_some
theorem Mq(w W:World)(o0 o1 o2 o3 o4 o5:Obj)(h:W=(((((w.alloc o0).alloc o1).alloc o2).alloc o3).alloc o4).alloc o5) :
  (W.heap[w.heap.size]? = Og o0/\W.heap[w.heap.size+1]? = Og o1/\W.heap[w.heap.size+2]? = Og o2/\W.heap[w.heap.size+3]? = Og o3/\W.heap[w.heap.size+4]? = Og o4/\W.heap[w.heap.size+5]? = Og o5)/\W.heap.size=w.heap.size+6/\ac w.heap.size w W:=by
 have hb:ac w.heap.size w W:=by subst h;exact((((((Below.refl _ w).alloc (az _) _).alloc mSi _).alloc (by simp;omega) _).alloc (by simp;omega) _).alloc (by simp;omega) _).alloc (by simp;omega) _
 obtain⟨w1,hw1⟩:∃w1,w.alloc o0=w1:=⟨_,rfl⟩
 obtain⟨w2,hw2⟩:∃w2,w1.alloc o1=w2:=⟨_,rfl⟩;obtain⟨w3,hw3⟩:∃w3,w2.alloc o2=w3:=⟨_,rfl⟩;obtain⟨w4,hw4⟩:∃w4,w3.alloc o3=w4:=⟨_,rfl⟩;obtain⟨w5,hw5⟩:∃w5,w4.alloc o4=w5:=⟨_,rfl⟩;rw[hw1,hw2,hw3,hw4,hw5] at h;have n0:=heap_alloc_new w o0;have n1:=heap_alloc_new w1 o1;have n2:=heap_alloc_new w2 o2;have n3:=heap_alloc_new w3 o3;have n4:=heap_alloc_new w4 o4;have n5:=heap_alloc_new w5 o5;have b1:=aj w1 o1;have b2:=aj w2 o2;have b3:=aj w3 o3;have b4:=aj w4 o4;have b5:=aj w5 o5;have e0:(w.alloc o0).heap.size=w.heap.size+1:=mSi;have e1:(w1.alloc o1).heap.size=w1.heap.size+1:=mSi;have e2:(w2.alloc o2).heap.size=w2.heap.size+1:=mSi;have e3:(w3.alloc o3).heap.size=w3.heap.size+1:=mSi;have e4:(w4.alloc o4).heap.size=w4.heap.size+1:=mSi;have e5:(w5.alloc o5).heap.size=w5.heap.size+1:=mSi;rw[<-h] at n5 b5 e5;rw[hw1] at n0 e0;rw[hw2] at n1 b1 e1;rw[hw3] at n2 b2 e2;rw[hw4] at n3 b3 e3;rw[hw5] at n4 b4 e4;clear h hw1 hw2 hw3 hw4 hw5;refine⟨⟨b5.heap_of (b4.heap_of (b3.heap_of (b2.heap_of (b1.heap_of n0)))),?_,?_,?_,?_,?_⟩,mOm,hb⟩
 .rw[<-e0];exact b5.heap_of (b4.heap_of (b3.heap_of (b2.heap_of n1)))
 .rw[show w.heap.size+2=w2.heap.size by omega];exact b5.heap_of (b4.heap_of (b3.heap_of n2))
 .rw[show w.heap.size+3=w3.heap.size by omega];exact b5.heap_of (b4.heap_of n3)
 .rw[show w.heap.size+4=w4.heap.size by omega];exact b5.heap_of n4
 .rw[show w.heap.size+5=w5.heap.size by omega];exact n5
def okK(pr:List ByteArray)(n:Nat):Prop:=n<=pr.length/\∀s∈pr.take n,s.size=8
structure KnI (fb:Nat) (bv dv:Value) (L:List Blk) (B:List (Nat×Nat)) (pr:List ByteArray) (w0 w:World) (k:Nat) (W:World):Prop where
 ok:okK pr k
 far:w.heap.size+6<=W.heap.size
 at_:∃bv' dv',fu fb bv' dv' (eO bw L.reverse ((dF B pr).take k)).reverse W/\(∀q,bv'.ownBlock=Og q->bv.ownBlock=Og q\/w.heap.size+6<=q)/\(∀q,dv'.ownBlock=Og q->dv.ownBlock=Og q\/w.heap.size+6<=q)
 buts:aF (gU fb bv dv) w W
 b0:W.heap[w.heap.size]? = Og (Of #[Od (Og ⟨fb,0,Oh⟩)] 288 (0,0))
 b1:∃v,W.heap[w.heap.size+1]? = Og (Of #[v] 37 (0,0))/\ar bV w0 v (pr.drop k)
 b2:W.heap[w.heap.size+2]? = Og (Of #[Oc Oh 0 0] 37 (0,0))
 b3:W.heap[w.heap.size+3]? = Og (Of #[.bool false] 4 (0,0))
theorem DB{B:List (Nat×Nat)}{pr:List ByteArray}{k:Nat}{z:Nat×Nat}{s:ByteArray}(hz:B[k]? = Og z)(hs:pr[k]? = Og s):(dF B pr).take (k+1)=(dF B pr).take k++[⟨z.1,z.2,s⟩]:=by
 have:(dF B pr)[k]? = Og ⟨z.1,z.2,s⟩:=by unfold dF;have h2:(B.zip pr)[k]? = Og (z,s):=List.getElem?_zip_eq_some.2 ⟨hz,hs⟩;rw[en,h2];rfl
 rw[aR,this];rfl
theorem zZ{i j k:Nat}{z:Nat×Nat}(_hij:i<=j)(h:(cV i j)[k]? = Og z):z.1+z.2<=j/\0<z.2:=by have hk:=(aA.1 h).1;obtain⟨h1,h2⟩:=wj j k i hk;rw[h] at h2;obtain rfl:=Option.some.inj h2;have:=mh h1;exact⟨this.2.1,this.2.2⟩
theorem uW{P:Program}{fn:Func}{tmps:Array Value}{R:Ending->World->Prop}(D:Nat)(W:World)(hD:W.heap[D]? = Og (.deferred (Og [])))(h:∀w',aF (fun q=>q=D) W w'->∃v,(results fn tmps).run P w'=.ok v w'/\R (Oe v) w') :
  LeavesInM Fence.wide 4 P fn tmps R [{ target:=.collected D,args:=#[] }] .returning W:=by
 refine⟨mSi,.inl ⟨D,_,rfl,run_takeDeferred hD,?_⟩⟩;exact h _ ⟨rfl,rfl,rfl,mSi,fun k _ hk=>ee hk⟩
theorem qe(A:World)(l:Nat)(o:Obj):aF (fun q=>q=l) A (A.putObj l o):=⟨rfl,rfl,rfl,mSi,fun j _ hne=>ee hne⟩
theorem fu.nc{fb:Nat}{bv dv:Value}{L:List Blk}{w:World}(h:fu fb bv dv L w){k:Nat}(hk:gU fb bv dv k):∃o,w.heap[k]? = Og o/\o.isCells=true:=by
 rcases hk with rfl|e|e
 .exact⟨_,h.box,rfl⟩
 .obtain⟨-,(⟨rfl,-⟩|⟨g,c,cur,rfl,-,hg,-⟩)⟩:=h.bs
  .cases e
  .obtain rfl:=Option.some.inj e;exact⟨_,hg,rfl⟩
 .obtain⟨-,(⟨rfl,-⟩|⟨g,c,cur,rfl,-,hg,-⟩)⟩:=h.ds
  .cases e
  .obtain rfl:=Option.some.inj e;exact⟨_,hg,rfl⟩
theorem KnI.buts_{fb:Nat}{bv dv:Value}{L:List Blk}{B:List (Nat×Nat)}{pr:List ByteArray}{w0 w:World}{k:Nat}{W W':World}{T:Nat->Prop}(h:KnI fb bv dv L B pr w0 w k W)(hb:aF T W W')(hT:∀q,T q->w.heap.size+4<=q)
  (hn:∀bv' dv',fu fb bv' dv' (eO bw L.reverse ((dF B pr).take k)).reverse W->(∀q,bv'.ownBlock=Og q->bv.ownBlock=Og q\/w.heap.size+6<=q)->(∀q,dv'.ownBlock=Og q->dv.ownBlock=Og q\/w.heap.size+6<=q)->∀q,T q->¬gU fb bv' dv' q):KnI fb bv dv L B pr w0 w k W':=by
 obtain⟨bv',dv',h1,h2,h3⟩:=h.at_;have hq:=hn bv' dv' h1 h2 h3
 refine⟨h.ok,aV h.far hb.size,⟨bv',dv',h1.buts hb (fun e=>hq _ e (.inl rfl)) (fun q hq2 e=>hq q e (.inr (.inl hq2))) (fun q hq2 e=>hq q e (.inr (.inr hq2))),h2,h3⟩,
  h.buts.next hb (fun q hq e=>by have:=hT q e;omega),hb.heap h.b0 (fun e=>by have:=hT _ e;omega),?_,hb.heap h.b2 (fun e=>by have:=hT _ e;omega),hb.heap h.b3 (fun e=>by have:=hT _ e;omega)⟩
 obtain⟨v,k1,k2⟩:=h.b1
 exact⟨v,hb.heap k1 (fun e=>by have:=hT _ e;omega),k2⟩
theorem KnI.put{fb:Nat}{bv dv:Value}{L:List Blk}{B:List (Nat×Nat)}{pr:List ByteArray}{w0 w:World}{k l:Nat}{W:World}{r r':Loop}(h:KnI fb bv dv L B pr w0 w k W)(hl:W.heap[l]? = Og (.loop r))(hle:w.heap.size+6<=l):KnI fb bv dv L B pr w0 w k (W.putObj l (.loop r')):=
 h.buts_ (qe W l _) (fun q e=>by omega) (fun bv' dv' h1 _ _ q e hf=>by
  subst e;obtain⟨o,ho,hc⟩:=h1.nc hf;rw[hl] at ho;obtain rfl:=Option.some.inj ho
  cases hc)
theorem KnI.out{fb:Nat}{bv dv:Value}{L:List Blk}{B:List (Nat×Nat)}{pr:List ByteArray}{w0 w:World}{k n:Nat}{W W2:World}(h:KnI fb bv dv L B pr w0 w k W)(hno:¬okK pr n)(_hfl:fb<w.heap.size)(hW:W2=(W.setCell ⟨w.heap.size+1+1,0,Oh⟩ (Oc Oh 0 0)).setCell ⟨w.heap.size+1+1+1,0,Oh⟩ (.bool false)) :
  (Code.ret=.ret/\¬okK pr n/\aF (gU fb bv dv) w W2/\W2.heap[w.heap.size+2]? = Og (Of #[Oc Oh 0 0] 37 (0,0))/\W2.heap[w.heap.size+3]? = Og (Of #[.bool false] 4 (0,0))/\w.heap.size+6<=W2.heap.size)/\fN W W2:=by
 have q2:W2.heap[w.heap.size+2]? = Og (Of #[Oc Oh 0 0] 37 (0,0)):=by rw[hW,dA mOm];exact bj h.b2 0 _
 have q3:W2.heap[w.heap.size+3]? = Og (Of #[.bool false] 4 (0,0)):=by rw[hW];exact bj ((dA mOm 0 _).trans h.b3) 0 _
 have hbu:aF (fun q=>q=w.heap.size+2\/q=w.heap.size+3) W W2:=by
  rw[hW];exact(aF.set (S:=fun q=>q=w.heap.size+2\/q=w.heap.size+3) W (.inl rfl) 0 _).trans (aF.set _ (.inr rfl) 0 _)
 refine⟨⟨rfl,hno,h.buts.next hbu (fun q hq e=>by omega),q2,q3,aV h.far hbu.size⟩,hbu.nc (fun q o e ho=>?_)⟩
 rcases e with e|e
 .subst e;rw[h.b2] at ho;obtain rfl:=Option.some.inj ho;rfl
 .subst e;rw[h.b3] at ho;obtain rfl:=Option.some.inj ho;rfl
theorem KnI.add{fb:Nat}{bv dv b1 d1 v2:Value}{L:List Blk}{B:List (Nat×Nat)}{pr:List ByteArray}{w0 w:World}{k:Nat}{W wx:World}{z:Nat×Nat}{s:ByteArray}(h:KnI fb bv dv L B pr w0 w k W)(hz:B[k]? = Og z)(hs:pr[k]? = Og s)(h8:s.size=8)
  (hbl:∀q,bv.ownBlock=Og q->q<w.heap.size) (hdl:∀q,dv.ownBlock=Og q->q<w.heap.size) (hfl:fb<w.heap.size)
  (h2:∀q,b1.ownBlock=Og q->bv.ownBlock=Og q\/w.heap.size+6<=q) (h3:∀q,d1.ownBlock=Og q->dv.ownBlock=Og q\/w.heap.size+6<=q)
  (hA:me fb b1 d1 (eO bw L.reverse ((dF B pr).take k)).reverse ⟨z.1,z.2,s⟩ W wx) (hv:ar bV w0 v2 (pr.drop (k+1))):KnI fb bv dv L B pr w0 w (k+1) (wx.setCell ⟨w.heap.size+1,0,Oh⟩ v2):=by
 obtain⟨⟨b2,d2,j1,j2,j3⟩,hb⟩:=hA;have hfar:=h.far;have hkl:=(aA.1 hs).1;have hno:∀q,w.heap.size<=q->q<w.heap.size+6->¬gU fb b1 d1 q:=by
  rintro q hq hq2 (e|e|e)
  .omega
  .rcases h2 q e with e|e
   .have:=hbl q e;omega
   .omega
  .rcases h3 q e with e|e
   .have:=hdl q e;omega
   .omega
 have hno2:¬gU fb b2 d2 (w.heap.size+1):=by
  rintro(e|e|e)
  .omega
  .rcases j2 _ e with e|e
   .exact hno _ mOm mOm (.inr (.inl e))
   .omega
  .rcases j3 _ e with e|e
   .exact hno _ mOm mOm (.inr (.inr e))
   .omega
 have hset:=aF.set (S:=fun q=>q=w.heap.size+1) wx rfl 0 v2
 obtain⟨v,k1,k2⟩:=h.b1;refine⟨⟨mOm,fun x hx=>?_⟩,by rw[Dg];exact aV hfar hb.size,⟨b2,d2,?_,fun q hq=>?_,fun q hq=>?_⟩,?_,?_,⟨v2,?_,hv⟩,?_,?_⟩
 .rw[aR,hs,bI] at hx;rcases hx with hx|hx
  .exact h.ok.2 x hx
  .obtain rfl:x=s:=by simpa using hx
   exact h8
 .have e:eO bw L.reverse ((dF B pr).take (k+1))=fU bw (eO bw L.reverse ((dF B pr).take k)) ⟨z.1,z.2,s⟩:=by
   rw[DB hz hs];unfold eO;rw[fO];rfl
  rw[eS,<-e] at j1
  exact j1.buts hset (fun e=>by omega) (fun q hq e=>hno2 (by subst e;exact .inr (.inl hq))) (fun q hq e=>hno2 (by subst e;exact .inr (.inr hq)))
 .rcases j2 q hq with e|e
  .exact h2 q e
  .exact .inr mOm
 .rcases j3 q hq with e|e
  .exact h3 q e
  .exact .inr mOm
 .refine(h.buts.next hb (fun q hq e=>?_)).next hset (fun q hq e=>by omega);rcases e with e|e|e
  .exact .inl e
  .exact .inr (.inl ((h2 q e).resolve_right mOm))
  .exact .inr (.inr ((h3 q e).resolve_right mOm))
 .rw[dA mOm];exact hb.heap h.b0 (hno _ (az _) mOm)
 .exact bj (hb.heap k1 (hno _ mOm mOm)) 0 v2
 .rw[dA mOm];exact hb.heap h.b2 (hno _ mOm mOm)
 .rw[dA mOm];exact hb.heap h.b3 (hno _ mOm mOm)
theorem A9(fb i j:Nat)(bv dv:Value)(L:List Blk)(pr:List ByteArray)(p:Option Addr)(c:Nat)(w0 w:World)(hij:i<=j)(hj:j<=1099511627776)(hF:fu fb bv dv L w)(hL:L.length+(cV i j).length<10000)(hl:ar bV w0 (Oc p pr.length c) pr)(h0:w0.heap.size<=fb)(hb0:ac w0.heap.size w0 w) :
  Calls prog 246 #[Od (Og ⟨fb,0,Oh⟩),N9 Oa i,N9 Oa j,Oc p pr.length c] w fun e w'=>∃v t,e=Oe (.tuple #[v,.bool t])/\
   ((t=true/\okK pr (cV i j).length/\ar bV w0 v (pr.drop (cV i j).length)/\ij fb bv dv L (dF (cV i j) pr) w w')\/(t=false/\¬okK pr (cV i j).length/\aF (gU fb bv dv) w w')):=by
 have hfl:=aG hF.box;have hbl:∀q,bv.ownBlock=Og q->fb<q/\q<w.heap.size:=fun q hq=>hF.bs.lt q hq
 have hdl:∀q,dv.ownBlock=Og q->fb<q/\q<w.heap.size:=fun q hq=>hF.ds.lt q hq
 refine(callsIn_wide (n:=4)).1 ?_;refine callsIn_of_wp_marks func246 rfl trivial ?_ rfl;refine wpIn_wide.2 ?_;simp only[ntmps246,fa,bB,cJ,Nat.reduceAdd,Nat.reduceSub,Array.replicate_succ,Array.replicate_zero,List.push_toArray,List.append_toArray,dI,eY];go_wp2_with fail;refine(Fh i j _).mono ?_;rintro _ w1⟨rfl,hw1⟩;go_wp2_with fail;rw[<-hw1];obtain⟨⟨x0,x1,x2,x3,x4,x5⟩,hz1,hbw⟩:=Mq w w1 _ _ _ _ _ _ hw1;clear hw1;have hF1:=hF.below hbw
 refine wu rfl (enters_of func287 mKr rfl) (DC (w.heap.size+4) i j hij hj) (fun _=>rfl) (fun k hk=>by subst hk;omega)
  (fun k A B h hle hb=>⟨hb.heap h.1 mOm,hb.heap h.2 mOm⟩) ⟨x4,x5⟩
  (KnI fb bv dv L (cV i j) pr w0 w) (fun cd W=>cd=.ret/\¬okK pr (cV i j).length/\aF (gU fb bv dv) w W/\W.heap[w.heap.size+2]? = Og (Of #[Oc Oh 0 0] 37 (0,0))/\W.heap[w.heap.size+3]? = Og (Of #[.bool false] 4 (0,0))/\w.heap.size+6<=W.heap.size)
  ?hIs ?hXs ?hIp ?hXp ?hI0
  (fun k N a' W=>∃b,a'=⟨aK (Od (Og ⟨fb,0,Oh⟩)::N9 Oa i::N9 Oa j::Oc p pr.length c::Od (Og ⟨w.heap.size,0,Oh⟩)::undef::undef::Od (Og ⟨w.heap.size+1,0,Oh⟩)::Od (Og ⟨w.heap.size+1+1,0,Oh⟩)::Od (Og ⟨w.heap.size+1+1+1,0,Oh⟩)::Od (Og ⟨b,0,Oh⟩)::N9 Oa i::N9 Oa j::.func (.func 287) #[] #[Od (Og ⟨w.heap.size+1+1+1+1,0,Oh⟩),Od (Og ⟨w.heap.size+1+1+1+1+1,0,Oh⟩)]::Fg ((cV i j).getD k (0,0))::undef::undef::undef::undef::undef::undef::undef::undef::undef::undef::undef::undef::undef::undef::undef::undef::undef::undef::undef::[]),[]⟩/\N<=b/\
   W.heap[b]? = Og (Of #[N9 Oa ((cV i j).getD k (0,0)).1,N9 Oa ((cV i j).getD k (0,0)).2] 293 (0,0)))
  ?hBp ?hassign ?hbody ?hdone ?hstop
 case hIs =>
  rintro k A B h hb
  exact h.buts_ hb (fun q e=>by omega) (fun bv' dv' _ h2 h3 q e hf=>by
   subst e;rcases hf with e|e|e
   .omega
   .rcases h2 _ e with e|e
    .have:=(hbl _ e).2;omega
    .omega
   .rcases h3 _ e with e|e
    .have:=(hdl _ e).2;omega
    .omega)
 case hXs =>
  rintro cd A B⟨h1,h2,h3,h4,h5,h6⟩ hb;exact⟨h1,h2,h3.next hb (fun q hq e=>by omega),hb.heap h4 mOm,hb.heap h5 mOm,aV h6 hb.size⟩
 case hIp =>
  rintro k A l r r' hle hl h;exact h.put hl mOm
 case hXp =>
  rintro cd A l r r' hle hl⟨h1,h2,h3,h4,h5,h6⟩;have hb:=qe A l (.loop r');exact⟨h1,h2,h3.next hb (fun q hq e=>by omega),hb.heap h4 mOm,hb.heap h5 mOm,aV h6 hb.size⟩
 case hI0 =>
  exact⟨⟨aP _,mSi⟩,mOm,⟨bv,dv,by rw[List.take_zero];show fu fb bv dv L.reverse.reverse w1;rw[eS];exact hF1,fun _ h=>.inl h,fun _ h=>.inl h⟩,aF.of hbw,x0,⟨_,x1,hl⟩,x2,x3⟩
 case hBp =>
  rintro k N a' A l r r' hle hlN hl⟨b,h1,h2,h3⟩;exact⟨b,h1,h2,(ee mOm).trans h3⟩
 case hassign =>
  intro lp k W K hI hK;generalize (cV i j).getD k (0,0)=zz at hK |-;unfold Fg
  gi_wp2
  refine hK _ _ ⟨_,?_,az _,?_⟩ (aF.alloc _ _ _)
  .rfl
  .exact heap_alloc_new W _
 case hdone =>
  intro D W hD hI hDW;obtain⟨v,k1,k2⟩:=hI.b1;obtain⟨p',c',rfl,_⟩:=k2.form;generalize (List.drop (cV i j).length pr).length=m at k1 k2;have c1:=ae k1 0;have f2:=aE hI.b2 0;have f3:=aE hI.b3 0;have c2:=ae hI.b2 0;have c3:=ae hI.b3 0;have K2:=aa k2;have HI:=aa hI;clear k1 k2 hI hF hl hF1;go_wp2_with fail;obtain⟨W2,hW2⟩:∃W2,(W.setCell ⟨w.heap.size+2,0,Oh⟩ (Oc p' m c')).setCell ⟨w.heap.size+3,0,Oh⟩ (.bool true)=W2:=⟨_,rfl⟩;have q2:W2.heap[w.heap.size+2]? = Og (Of #[Oc p' m c'] 37 (0,0)):=by rw[<-hW2,dA mOm];exact bj HI.out.b2 0 _
  have q3:W2.heap[w.heap.size+3]? = Og (Of #[.bool true] 4 (0,0)):=by rw[<-hW2];exact bj ((dA mOm 0 _).trans HI.out.b3) 0 _
  have hbu:aF (fun q=>q=w.heap.size+2\/q=w.heap.size+3) W W2:=by
   rw[<-hW2];exact(aF.set (S:=fun q=>q=w.heap.size+2\/q=w.heap.size+3) W (.inl rfl) 0 _).trans (aF.set _ (.inr rfl) 0 _)
  refine uW D _ ?_ fun w' hw'=>⟨.tuple #[Oc p' m c',.bool true],?_,?_⟩
  .rw[show((W.setCell ⟨w.heap.size+1+1,0,Oh⟩ _).setCell ⟨w.heap.size+1+1+1,0,Oh⟩ _)=W2 from hW2];exact hbu.heap hDW (by have:=HI.out.far;omega)
  .have hw2:aF (fun q=>q=D) W2 w':=by rw[<-hW2];exact hw'
   have y2:=ae (hw2.heap q2 (by show ¬_=D;omega)) 0;have y3:=ae (hw2.heap q3 (by show ¬_=D;omega)) 0;simp[results,results246,go_sem,y2,y3]
  .have hw2:aF (fun q=>q=D) W2 w':=by rw[<-hW2];exact hw'
   obtain⟨bv',dv',j1,j2,j3⟩:=HI.out.at_;have hfull:(dF (cV i j) pr).take (cV i j).length=dF (cV i j) pr:=du (by unfold dF;simp;omega);rw[hfull] at j1;have hfar:=HI.out.far;have hno:∀q,(q=w.heap.size+2\/q=w.heap.size+3)\/q=D->¬gU fb bv' dv' q:=by
    rintro q (e|e) hf
    .rcases hf with hf|hf|hf
     .omega
     .rcases j2 q hf with hf|hf
      .have:=(hbl _ hf).2;omega
      .omega
     .rcases j3 q hf with hf|hf
      .have:=(hdl _ hf).2;omega
      .omega
    .subst e;obtain⟨o,ho,hc⟩:=j1.nc hf;rw[hDW] at ho;obtain rfl:=Option.some.inj ho
     cases hc
   have hall:aF (fun q=>(q=w.heap.size+2\/q=w.heap.size+3)\/q=D) W w':=(hbu.mono (S2:=fun q=>(q=w.heap.size+2\/q=w.heap.size+3)\/q=D) fun _ _ e=>.inl e).trans (hw2.mono fun _ _ e=>.inr e)
   refine⟨_,true,rfl,.inl ⟨rfl,HI.out.ok,K2.out,⟨bv',dv',j1.buts hall (fun e=>hno _ e (.inl rfl)) (fun q hq e=>hno q e (.inr (.inl hq))) (fun q hq e=>hno q e (.inr (.inr hq))),fun q hq=>(j2 q hq).imp id mOm,fun q hq=>(j3 q hq).imp id mOm⟩,HI.out.buts.next hall (fun q hq e=>by omega)⟩⟩
 case hstop =>
  rintro D cd W hD⟨rfl,h2,h3,h4,h5,h6⟩ hDW;refine(wpIn_wide (n:=4)).2 ?_;go_wp2_with fail;refine uW D _ hDW fun w' hw'=>⟨.tuple #[Oc Oh 0 0,.bool false],?_,?_⟩
  .have y2:=ae (hw'.heap h4 mOm) 0;have y3:=ae (hw'.heap h5 mOm) 0;simp[results,results246,go_sem,y2,y3]
  .exact⟨_,false,rfl,.inr ⟨rfl,h2,h3.next hw' (fun q hq e=>by omega)⟩⟩
 case hbody =>
  rintro lp k a' N1 W0 W hk hI0⟨r,hlr⟩ hlp hb ⟨hkp1,hkp2⟩⟨b,rfl,hNb,hbx⟩ hle hN0 hN1
  have hIW:KnI fb bv dv L (cV i j) pr w0 w k W:=hI0.buts_ hb (fun q e=>by omega) (fun bv' dv' g1 h2 h3 q e hf=>by
   rcases e with e|e
   .subst e;rcases hf with e|e|e
    .omega
    .rcases h2 _ e with e|e
     .have:=(hbl _ e).2;omega
     .omega
    .rcases h3 _ e with e|e
     .have:=(hdl _ e).2;omega
     .omega
   .subst e;obtain⟨o,ho,hc⟩:=g1.nc hf;rw[hlr] at ho;obtain rfl:=Option.some.inj ho
    cases hc)
  obtain⟨zp,hzk⟩:∃z,(cV i j)[k]? = Og z:=⟨_,ai hk⟩
  have hgd:(cV i j).getD k (0,0)=zp:=by rw[bi,hzk];rfl
  rw[hgd] at hbx |-;have c0:=ae hIW.b0 0;obtain⟨v,k1,k2⟩:=hIW.b1;obtain⟨p',c',rfl,hcl⟩:=k2.form;have c1:=ae k1 0;have f1:=aE k1 0;have c2:=ae hIW.b2 0;have f2:=aE hIW.b2 0;have c3:=ae hIW.b3 0;have f3:=aE hIW.b3 0;have hbW:ac w0.heap.size w0 W:=hb0.trans (hIW.buts.below (fun q hq e=>by have:=(ta hF e).1;omega) hb0.size);have HIW:=aa hIW;have HI0:=aa hI0;have HB:=aa hb;have HKP:=aa (And.intro hkp1 hkp2);have HK1:=aa k1;have HF:=aa hF;have HBX:=aa hbx;clear hIW hI0 hb hkp1 hkp2 hF hF1 hl hbx x0 x1 x2 x3 x4 x5;generalize hdr:pr.drop k=R at k1 k2 c1 hcl
  cases R with
  | nil =>
   have K2:=aa k2;clear k2
   gi_wp2
   refine HIW.out.out ?_ hfl rfl
   rintro⟨h1,-⟩;have:=congrArg jQ hdr;rw[List.length_drop] at this;simp only[cJ] at this;omega
  | cons s R =>
   have hget:pr[k]? = Og s:=by
    have:=congrArg (fun l=>l[0]?) hdr
    simpa [List.getElem?_drop] using this
   have hd1:pr.drop (k+1)=R:=by rw[<-List.drop_drop,hdr];rfl
   obtain⟨pb,po,rfl,hpb,hcv⟩:=gb k2 rfl mSi;have cs:=(hbW.cell (p:=⟨pb,po+0,Oh⟩) hpb).trans (hcv 0 s rfl);rw[Nat.add_zero] at cs;have K2:=aa k2;have HD:=aa (And.intro hget hd1);have hlen:(s::R).length=R.length+1:=rfl;rw[hlen] at k1 c1 hcl;have r0:(0:Int)<((R.length+1:Nat):Int):=mOm;clear k2 hcv hdr hget hd1 hlen;by_cases h8:s.size=8
   .have t1:((s.size:Int)==8)=true:=by rw[beq_iff_eq];omega
    have t2:((s.size:Int) != 8)=false:=by rw[bne_eq_false_iff_eq];omega
    have t0:((R.length:Int)+1==0)=false:=by rw[beq_eq_false_iff_ne];omega
    obtain⟨b1,d1,g1,g2,g3⟩:=HI0.out.at_;have hfar:=HI0.out.far;have hbn:∀q,q<w0.heap.size\/(w.heap.size<=q/\q<w.heap.size+6)\/W0.heap.size<=q->¬gU fb b1 d1 q:=by
     rintro q hq hf;have hlo:=ta g1 hf;rcases hf with e|e|e
     .omega
     .rcases g2 q e with e|e
      .have:=(hbl q e).2;omega
      .omega
     .rcases g3 q e with e|e
      .have:=(hdl q e).2;omega
      .omega
    have hnlp:¬gU fb b1 d1 lp:=fun hf=>by
     obtain⟨o,ho,hc⟩:=g1.nc hf;rw[hlr] at ho;obtain rfl:=Option.some.inj ho
     cases hc
    have gW:fu fb b1 d1 (eO bw L.reverse ((dF (cV i j) pr).take k)).reverse W:=by
     have hq:∀q,(q=w.heap.size+4\/q=lp)->¬gU fb b1 d1 q:=by
      rintro q (rfl|rfl)
      .exact hbn _ (.inr (.inl ⟨mOm,mOm⟩))
      .exact hnlp
     exact g1.buts HB.out (fun e=>hq _ e (.inl rfl)) (fun q h e=>hq q e (.inr (.inl h))) (fun q h e=>hq q e (.inr (.inr h)))
    have hzf:=zZ hij hzk
    have hlt:=nN bw ((dF (cV i j) pr).take k) L.reverse;rw[fF,aI] at hlt;have GW:=aa gW;have hn0:=hbn w.heap.size (.inr (.inl ⟨mOm,mOm⟩));have hn1:=hbn (w.heap.size+1) (.inr (.inl ⟨mOm,mOm⟩));have hn4:=hbn (w.heap.size+4) (.inr (.inl ⟨mOm,mOm⟩));have hn5:=hbn (w.heap.size+5) (.inr (.inl ⟨mOm,mOm⟩));have hnp:=hbn pb (.inl hpb);have hnb:=hbn b (.inr (.inr mOm));have HNN:=aa (And.intro hn0 (And.intro hn1 (And.intro hnp (And.intro hnb (And.intro hn4 hn5)))));have HBN:=aa hbn;clear hn0 hn1 hnp hnb hn4 hn5;have hpb0:pb<w0.heap.size:=hpb;have hS0:W.drew.cell? ⟨w.heap.size,0,Oh⟩=Og (Od (Og ⟨fb,0,Oh⟩))/\W.drew.cell? ⟨w.heap.size+1,0,Oh⟩=Og (Oc (Og ⟨pb,po,Oh⟩) (R.length+1) c')/\W.drew.cell? ⟨pb,po,Oh⟩=Og (Ob s)/\∀j,W.drew.cell? ⟨b,j,Oh⟩=(#[N9 Oa zp.1,N9 Oa zp.2]:Array Value)[j]?:=
     ⟨c0,c1,cs,fun j=>ae HBX.out j⟩
    have G23:=aa (And.intro g2 g3)
    clear g1 g2 g3 hbn gW
    gi_wp2
    refine xE ?_ (fun _ _ h=>h)
    refine uz (S:=fun w'=>w'.cell? ⟨w.heap.size,0,Oh⟩=Og (Od (Og ⟨fb,0,Oh⟩))/\w'.cell? ⟨w.heap.size+1,0,Oh⟩=Og (Oc (Og ⟨pb,po,Oh⟩) (R.length+1) c')/\w'.cell? ⟨pb,po,Oh⟩=Og (Ob s)/\∀j,w'.cell? ⟨b,j,Oh⟩=(#[N9 Oa zp.1,N9 Oa zp.2]:Array Value)[j]?) [(0,true),(1,true),(2,true),(3,true),(4,true),(5,false)] mKr mKr mKr mKr mDe (hS0) ?_;have hS:=hS0;refine ak ?_;refine iO ⟨_,_,_,_,_,_⟩ rfl mRf 293 (.tmp 10) mRf b 0 mRf [N9 Oa zp.1,N9 Oa zp.2] _ (fun w hSw j v hv=>(by rw[bP,hSw.2.2.2 j];simpa using hv)) underlying293 rfl mKr ?_;refine ay ?_
    iterate 3 refine ak ?_
    refine aJ 271 call271 (EA fb b1 d1 _ ⟨zp.1,zp.2,s⟩ W.drew (GW.out.below (Below.refl _ _).drew) (by rw[fF];omega) (aV hzf.1 hj) hzf.2 h8) ?_;rintro e wx⟨⟨ve,rfl⟩,hA⟩;have hA:=me.from_ (w:=W) (Below.refl _ _).drew hA;have hAb:=hA.buts;replace hS:wx.cell? ⟨w.heap.size,0,Oh⟩=Og (Od (Og ⟨fb,0,Oh⟩))/\wx.cell? ⟨w.heap.size+1,0,Oh⟩=Og (Oc (Og ⟨pb,po,Oh⟩) (R.length+1) c')/\wx.cell? ⟨pb,po,Oh⟩=Og (Ob s)/\∀j,wx.cell? ⟨b,j,Oh⟩=(#[N9 Oa zp.1,N9 Oa zp.2]:Array Value)[j]?:=⟨(hAb.cell (al _ _ c0) HNN.out.1 _ _).trans c0,(hAb.cell (al _ _ c1) HNN.out.2.1 _ _).trans c1,(hAb.cell (al _ _ cs) HNN.out.2.2.1 _ _).trans cs,fun j=>(hAb.cell (aG HBX.out) HNN.out.2.2.2.1 _ _).trans (ae HBX.out j)⟩;refine⟨_,rfl,hS,?_⟩;refine ay ?_;simp only[aQ,aZ];have kx:=hAb.heap HK1.out HNN.out.2.1;have f1x:=aE kx 0;have c1x:=hS.2.1;have r1:(1:Int)<=((R.length+1:Nat):Int):=mOm;have HA:=aa hA;have HAB:=aa hAb;clear hA hAb kx hS hS0 c0 c1 f1 cs c2 c3 f2 f3 t0 t1 t2
    have fin:∀v2,ar bV w0 v2 (pr.drop (k+1))->KnI fb bv dv L (cV i j) pr w0 w (k+1) (wx.setCell ⟨w.heap.size+1,0,Oh⟩ v2)/\yK (w.heap.size+4) i j k (wx.setCell ⟨w.heap.size+1,0,Oh⟩ v2)/\fN W (wx.setCell ⟨w.heap.size+1,0,Oh⟩ v2)/\∀g,W0.heap.size<=g->g<N1->(wx.setCell ⟨w.heap.size+1,0,Oh⟩ v2).heap[g]? = W.heap[g]?:=fun v2 hv=>by
     have hset:=aF.set (S:=fun q=>q=w.heap.size+1) wx rfl 0 v2;have hkx:=HAB.out.heap HK1.out HNN.out.2.1;refine⟨HIW.out.add hzk HD.out.1 h8 (fun q h=>(hbl q h).2) (fun q h=>(hdl q h).2) hfl G23.out.1 G23.out.2 HA.out hv,⟨?_,?_⟩,?_,fun g hg hg2=>?_⟩
     .rw[dA mOm];exact HAB.out.heap HKP.out.1 HNN.out.2.2.2.2.1
     .rw[dA mOm];exact HAB.out.heap HKP.out.2 HNN.out.2.2.2.2.2
     .refine(HAB.out.nc (fun q o e ho=>?_)).trans (hset.nc (fun q o e ho=>?_))
      .obtain⟨o2,ho2,hc2⟩:=GW.out.nc e;rw[ho] at ho2;obtain rfl:=Option.some.inj ho2;exact hc2
      .subst e;rw[hkx] at ho;obtain rfl:=Option.some.inj ho;rfl
     .rw[dA mOm];exact HAB.out.block g mOm (HBN.out g (.inr (.inr hg)))
    have FIN:=aa fin
    clear fin;by_cases hc1:c'=1
    .obtain rfl:R=[]:=List.eq_nil_of_length_eq_zero mOm;subst hc1
     gi_wp2
     exact FIN.out _ (by rw[HD.out.2];exact⟨_,_,rfl,az _,fun e=>(by cases e),fun e=>(by cases e)⟩)
    .gi_wp2
     refine FIN.out _ ?_
     have:=K2.out.drop (m:=1) (fun _=>rfl) mSi;rw[HD.out.2]
     simpa using this
   .have t1:((s.size:Int)==8)=false:=by rw[beq_eq_false_iff_ne];omega
    have t2:((s.size:Int) != 8)=true:=by rw[bne_iff_ne];omega
    gi_wp2
    refine HIW.out.out ?_ hfl rfl
    rintro⟨h1,h2⟩;exact h8 (h2 s (cZ (by rw[List.getElem?_take_of_lt hk];exact HD.out.1)))
end
section
attribute [local go_sem] Oper.semAt_some
theorem Cc(v:Value)(p:Option Addr)(n c:Nat)(hv:v=Oc p n c)(w:World) :
  Calls prog 272 #[v] w fun x w'=>x=Oe (.func (.func 290) #[] #[Od (Og ⟨w.heap.size,0,Oh⟩)])/\w'=w.alloc (Of #[v] 37):=by
 subst hv;go_enter func272,ntmps272;go_wp2_with fail;go_ret;exact⟨rfl,rfl⟩
def Fi(sb:Nat)(v:Value)(w1:World)(_k:Nat)(W:World):Prop:=W.heap[sb]? = Og (Of #[v] 37 (0,0))/\∀b,v.ownBlock=Og b->W.heap[b]? = w1.heap[b]?
theorem BA(sb:Nat)(v:Value)(l:List ByteArray)(w1:World)(hl:l.length<=1000000)(hrow:ar bV w1 v l) :
  yE 290 #[Od (Og ⟨sb,0,Oh⟩)] (fun k=>#[N9 Oa ((l.length-1-k:Nat):Int),Ob (l.getD (l.length-1-k) ⟨#[]⟩)]) l.length (fun _=>False) (Fi sb v w1):=by
 intro lp I X wL hIs hXs hK0 hI0 hY;have HYY:=aa hY;have HIS:=aa hIs;clear hIs hXs hY;have hb0:=hK0.1;obtain⟨p,c,hv,hc⟩:=hrow.form;subst hv;have c0:=ae hb0 0;have a1:IntKind.i64.wrap ((l.length:Int)-1)=(l.length:Int)-1:=aH _ mOm;go_enter func290,ntmps290;go_wp2_with fail
 go_loopg [3] l.length (fun r i wr=>∃k,k+r=l.length/\i=N9 Oa ((l.length:Int)-1-k)/\Fi sb (Oc p l.length c) w1 k wr/\Hid (I k wr))
 case atStart=>exact⟨0,bP _,mSi,hK0,aa hI0⟩
 case round =>
  obtain⟨k,hk,rfl,hKp,HI⟩:=hrel;obtain⟨hb,hsame⟩:=id hKp;have cb:=ae hb 0;by_cases hlt:k<l.length
  .obtain⟨b,o,rfl,hbl,hcv⟩:=gb hrow rfl mOm;obtain⟨q,hq⟩:∃q:Nat,q=l.length-1-k:=⟨_,rfl⟩;have hqi:(l.length:Int)-1-k=(q:Int):=mOm;have hql:q<l.length:=mOm;have hcq:=(World.cell?_of_block (a:=⟨b,o+q,Oh⟩) (hsame b rfl)).trans (hcv q _ (ai hql));have hgd:l.getD (l.length-1-k) ⟨#[]⟩=l[q]:=by rw[<-hq,bi,ai hql];rfl
   obtain⟨fn,tmps,assign,body,hy,hR⟩:=HYY.out k wr wr hlt HI.out (aF.refl _ _) hKp 2;rw[hgd,<-hq] at hy;generalize l[q]=s at hcq hy;have q0:(0:Int)<=(q:Int):=mOm;have q1:(q:Int)<(l.length:Int):=mOm;have a2:IntKind.i64.wrap ((q:Int)-1)=(q:Int)-1:=aH _ mOm;rw[hqi];have HQ:=aa hqi;clear hcv hgd hqi hKp hb hrow hsame a1 hq
   go_upto_region 3 with fail
   refine(wpIn_wide (n:=3)).1 ?_
   gi_wp2
   refine hR.mono ?_
   clear hR hy;rintro _ w3 (⟨rfl,hI3,hK3,hf3⟩|⟨rfl,hX⟩)
   .have HI3:=aa hI3;have HK3:=aa hK3;clear hI3 hK3 hf3
    gi_wp2
    go_wp2_with fail
    go_roundg (l.length-(k+1))
    case measure=>omega
    case rel=>exact⟨k+1,mOm,by have:=HQ.out;push_cast;rw[<-this];simp;omega,HK3.out,HI3⟩
   .have HX:=aa hX;clear hX
    gi_wp2
    go_wp2_with fail
    refine bodyPost_ret (results_none rfl _ _ _) rfl ?_;exact⟨⟨_,rfl⟩,.inr HX.out⟩
  .obtain rfl:k=l.length:=mOm;have hn:(l.length:Int)-1-(l.length:Int) = -1:=mOm;rw[hn];clear hn;go_wp2_with fail
   go_end0
   exact⟨⟨_,rfl⟩,.inl HI.out⟩
def iw:ByteArray:=dgB (dR [⟨#[5]⟩])
def oH(n:Nat)(top:ByteArray):ByteArray:=dgB (dR [⟨#[6]⟩,⟨(be8 n).toArray⟩,top])
def sS(L:List Blk):ByteArray:=jx bw iw L.reverse
theorem GY(nd:ByteArray->ByteArray->ByteArray)(e:ByteArray)(st:List Blk)(x:Blk)(h:st ≠ []):jx nd e (st++[x])=nd x.d (jx nd e st):=by
 cases st with
 | nil=>exact absurd rfl h
 | cons a st=>show(st++[x]).foldl _ _=_;rw[fO];rfl
theorem NW{w:World}{v:Value}{L:List Blk}(h:ar pR w v L):ar bV w v (L.map Bk.d):=by
 have e:aN bV (L.map Bk.d)=aN pR L:=by unfold aN;rw[List.flatMap_map];rfl
 obtain⟨p,c,rfl,h1,h2,h3⟩:=h;refine⟨p,c,by rw[aU],by rw[aU];exact h1,h2,fun hl=>?_⟩;rw[aU] at hl;obtain⟨b,o,hp,hb,hx⟩:=h3 hl;exact⟨b,o,hp,hb,fun j u hj=>hx j u (by rw[<-e];exact hj)⟩
structure RtI (fb fx tb:Nat) (bv dv:Value) (L:List Blk) (w:World) (k:Nat) (W:World):Prop where
 top:W.heap[tb]? = Og (Of #[Ob (jx bw iw (L.reverse.take k))] 9 (0,0))
 box:W.heap[fx]? = Og (Of #[Od (Og ⟨fb,0,Oh⟩)] 288 (0,0))
 at_:fu fb bv dv L W
 low:ac w.heap.size w W
theorem MV{L:List Blk}{k:Nat}(hk:k<L.length):∃x,L.reverse[k]? = Og x/\(L.map Bk.d).getD (L.length-1-k) ⟨#[]⟩=x.d:=by
 have hk2:L.length-1-k<L.length:=mOm;refine⟨L[L.length-1-k],?_,?_⟩
 .rw[List.getElem?_reverse hk,ai hk2]
 .rw[bi,en,ai hk2];rfl
theorem K4{L:List Blk}{k:Nat}{x:Blk}(h:L.reverse[k]? = Og x):jx bw iw (L.reverse.take (k+1))=if k=0 then x.d else bw x.d (jx bw iw (L.reverse.take k)):=by
 have hl:=(aA.1 h).1;have e:L.reverse.take (k+1)=L.reverse.take k++[x]:=by rw[aR,h];rfl
 rw[e];by_cases h0:k=0
 .subst h0;rfl
 .rw[if_neg h0,GY];intro e2;have:=congrArg jQ e2;rw[aI] at this;simp only[cJ] at this;omega
theorem RtI.step{fb fx tb sb:Nat}{bv dv:Value}{L:List Blk}{w w1:World}{k:Nat}{W W5:World}{t:ByteArray}(h:RtI fb fx tb bv dv L w k W)(hb:ac W.heap.size W W5)(ht:t=jx bw iw (L.reverse.take (k+1)))(hfx:fx≠tb)(hw:w.heap.size<=tb)(hsb:sb≠tb)(hdl:∀q,dv.ownBlock=Og q->q≠tb)(hbl:∀q,bv.ownBlock=Og q->q≠tb)(hft:fb≠tb)(hK:Fi sb dv w1 k W)(N0 N1:Nat)(hN:tb<N0)(hN1:N1<=W.heap.size) :
  RtI fb fx tb bv dv L w (k+1) (W5.setCell ⟨tb,0,Oh⟩ (Ob t))/\Fi sb dv w1 k (W5.setCell ⟨tb,0,Oh⟩ (Ob t))/\fN W (W5.setCell ⟨tb,0,Oh⟩ (Ob t))/\∀g,N0<=g->g<N1->(W5.setCell ⟨tb,0,Oh⟩ (Ob t)).heap[g]? = W.heap[g]?:=by
 have hset:=aF.set (S:=fun q=>q=tb) W5 rfl 0 (Ob t);have ht5:=hb.heap_of h.top;have hF5:=h.at_.below hb;refine⟨⟨?_,?_,hF5.buts hset (fun e=>hft e) (fun q hq e=>hbl q hq e) (fun q hq e=>hdl q hq e),(ah h.low hb).trans (hset.below (fun q hq e=>by omega) (ah h.low hb).size)⟩,⟨?_,fun b hbq=>?_⟩,?_,fun g hg hg2=>?_⟩
 .have:=bj ht5 0 (Ob t);rw[this,ht];rfl
 .rw[dA (Ne.symm hfx)];exact hb.heap_of h.box
 .rw[dA (Ne.symm hsb)];exact hb.heap_of hK.1
 .rw[dA (Ne.symm (hdl b hbq))];have hb3:b<W.heap.size:=(h.at_.ds.lt b hbq).2;exact(hb.block b hb3).trans (hK.2 b hbq)
 .refine(fN.of hb).trans (hset.nc (fun q o e ho=>?_));subst e;rw[ht5] at ho;obtain rfl:=Option.some.inj ho;rfl
 .rw[dA mOm];exact hb.block g mOm
theorem Kz(fb n:Nat)(bv dv:Value)(L:List Blk)(w:World)(hF:fu fb bv dv L w)(hn:n<=1099511627776) :
  Calls prog 248 #[Od (Og ⟨fb,0,Oh⟩),N9 Oa n] w fun e w'=>e=Oe (Ob (oH n (sS L)))/\ac w.heap.size w w':=by
 have hfl:=aG hF.box;have HF:=aa hF;refine(callsIn_wide (n:=4)).1 ?_;refine callsIn_of_wp_marks func248 rfl trivial ?_ rfl;refine wpIn_wide.2 ?_;simp only[ntmps248,fa,bB,cJ,Nat.reduceAdd,Nat.reduceSub,Array.replicate_succ,Array.replicate_zero,List.push_toArray,List.append_toArray,dI,eY];clear hF;go_wp2_with fail
 refine(th (w.heap.size+1) 1 [⟨#[5]⟩] 1 rfl mOm _ (qc (by have h:=heap_alloc_new (w.alloc (Of #[Od (Og ⟨fb,0,Oh⟩)] 288)) (Of #[Ob ⟨#[5]⟩] 9);rw[World.size_alloc] at h;exact h) _ rfl (by
  intro z hz;obtain rfl:z=⟨#[5]⟩:=by simpa using hz
  decide))).mono ?_
 rintro _ w1⟨rfl,hb1⟩
 have hbw1:ac w.heap.size w w1:=((aj w _).alloc mSi _).trans (hb1.mono (by simp;omega));have hfx1:w1.heap[w.heap.size]? = Og (Of #[Od (Og ⟨fb,0,Oh⟩)] 288 (0,0)):=hb1.heap_of ((aj _ _).heap_of (heap_alloc_new w _));have hsz1:=aG hfx1;obtain⟨W2,hW2⟩:∃W2,w1.alloc (Of #[Ob (dgB (dR [⟨#[5]⟩]))] 9)=W2:=⟨_,rfl⟩;have hb2:ac w1.heap.size w1 W2:=by rw[<-hW2];exact aj _ _
 have htb:W2.heap[w1.heap.size]? = Og (Of #[Ob (dgB (dR [⟨#[5]⟩]))] 9 (0,0)):=by rw[<-hW2];exact heap_alloc_new w1 _
 have hz2:W2.heap.size=w1.heap.size+1:=by rw[<-hW2];simp
 have hfx2:=hb2.heap_of hfx1;have hF2:=(HF.out.below hbw1).below hb2;have cf:=ae hfx2 0;have cd:=ae hF2.box 1;obtain⟨pd,cdv,hdv⟩:=fZ hF2.ds;subst hdv;have hW2b:=ah hbw1 hb2;have HF2:=aa hF2;clear hF2 hb1 hbw1 hfx1;go_wp2_with fail;clear hW2;refine(Cc _ pd L.length cdv rfl W2).mono ?_;rintro _ w3⟨rfl,hw3⟩;go_wp2_with fail;have hFw:=HF2.out;have hdw:∀q,(Value.slice pd L.length cdv).ownBlock=Og q->q<w.heap.size:=fun q hq=>(HF.out.ds.lt q hq).2
 have hbw:∀q,bv.ownBlock=Og q->q<w.heap.size:=fun q hq=>(HF.out.bs.lt q hq).2
 have hdl:∀q,(Value.slice pd L.length cdv).ownBlock=Og q->q<W2.heap.size:=fun q hq=>(hFw.ds.lt q hq).2
 have hb3:ac W2.heap.size W2 w3:=by rw[hw3];exact aj _ _
 have hsb:w3.heap[w1.heap.size+1]? = Og (Of #[Oc pd L.length cdv] 37 (0,0)):=by rw[hw3,<-hz2];exact heap_alloc_new W2 _
 have hz3:w3.heap.size=W2.heap.size+1:=by rw[hw3];simp
 have hml:(L.map Bk.d).length=L.length:=aU ..;have hF3:=hFw.below hb3;have hrow3:ar bV w3 (Oc pd L.length cdv) (L.map Bk.d):=NW (fo (enc:=pR) (k:=1) (fun _=>rfl) mDe hF3.ds);have hit:=BA (w1.heap.size+1) (Oc pd L.length cdv) (L.map Bk.d) w3 (by rw[hml];have:=hFw.few;omega) hrow3;rw[hml] at hit;have hfx3:=hb3.heap_of hfx2;have htb3:=hb3.heap_of htb;have hwz:=hW2b.size;rw[<-hw3];clear hw3
 refine wu rfl (enters_of func290 mKr rfl) hit (fun _=>rfl) (fun k hk=>hk.elim)
  (fun k A B h hle hb=>⟨hb.heap h.1 mOm,fun b hbq=>(hb.block b (by have:=hdl b hbq;omega) (by have:=hdl b hbq;omega)).trans (h.2 b hbq)⟩) ⟨hsb,fun _ _=>rfl⟩
  (RtI fb w.heap.size w1.heap.size bv (Oc pd L.length cdv) L w) (fun _ _=>False)
  ?hIs ?hXs ?hIp ?hXp ?hI0 (fun k _ a' _=>a'=⟨aK (Od (Og ⟨fb,0,Oh⟩)::N9 Oa n::Od (Og ⟨w.heap.size,0,Oh⟩)::undef::Ob ⟨#[]⟩::Od (Og ⟨w1.heap.size,0,Oh⟩)::N9 Oa ((L.length-1-k:Nat):Int)::Ob ((L.map Bk.d).getD (L.length-1-k) ⟨#[]⟩)::Oc (Og ⟨w.heap.size+1,0,Oh⟩) 1 1::Ob (dgB (dR [⟨#[5]⟩]))::Od (Og ⟨fb,0,Oh⟩)::Od (Og ⟨fb,0,Oh⟩)::Od (Og ⟨fb,1,Oh⟩)::Oc pd L.length cdv::.func (.func 290) #[] #[Od (Og ⟨w1.heap.size+1,0,Oh⟩)]::N9 Oa ((L.length-1-k:Nat):Int)::Ob ((L.map Bk.d).getD (L.length-1-k) ⟨#[]⟩)::undef::undef::undef::undef::undef::undef::undef::undef::undef::undef::undef::undef::undef::undef::undef::undef::undef::undef::[]),[]⟩) ?hBp ?hassign ?hbody ?hdone ?hstop
 case hIs =>
  rintro k A B h hb;have hb2:ac A.heap.size A B:=hb.below (fun _ _=>id) (az _);exact⟨hb2.heap_of h.top,hb2.heap_of h.box,h.at_.below hb2,ah h.low hb2⟩
 case hXs=>exact fun _ _ _ h _=>h
 case hIp =>
  rintro k A l r r' hle hl h;have hb:=qe A l (.loop r');refine⟨hb.heap h.top mOm,hb.heap h.box mOm,h.at_.buts hb (fun e=>?_) (fun q hq e=>?_) (fun q hq e=>?_),h.low.trans (hb.below (fun q hq e=>by omega) h.low.size)⟩
  .have hx:=h.at_.box;rw[e,hl] at hx;cases hx
  .subst e;obtain⟨o,ho,hc⟩:=h.at_.nc (.inr (.inl hq));rw[hl] at ho;obtain rfl:=Option.some.inj ho;cases hc
  .subst e;obtain⟨o,ho,hc⟩:=h.at_.nc (.inr (.inr hq));rw[hl] at ho;obtain rfl:=Option.some.inj ho;cases hc
 case hXp=>exact fun _ _ _ _ _ _ _ h=>h
 case hI0=>exact⟨htb3,hfx3,hF3,ah hW2b hb3⟩
 case hBp=>exact fun _ _ _ _ _ _ _ _ _ _ h=>h
 case hassign =>
  intro lp k W K hI hK;generalize (L.map Bk.d).getD (L.length-1-k) ⟨#[]⟩=dd at hK |-;generalize ((L.length-1-k:Nat):Int)=ii at hK |-
  gi_wp2
  exact hK _ _ rfl (aF.refl _ _)
 case hstop=>exact fun _ _ _ _ h _=>h.elim
 case hbody =>
  rintro lp k a' N1 W0 W hk hI0⟨r,hlr⟩ hlp hb hKp rfl hle hN0 hN1;have hIW:RtI fb w.heap.size w1.heap.size bv (Oc pd L.length cdv) L w k W:=by
   have hb:=hb.mono (S2:=fun q=>q=lp) (fun q _ e=>e.resolve_left id);refine⟨hb.heap hI0.top mOm,hb.heap hI0.box mOm,hI0.at_.buts hb (fun e=>?_) (fun q hq e=>?_) (fun q hq e=>?_),hI0.low.trans (hb.below (fun q hq e=>by omega) hI0.low.size)⟩
   .have hx:=hI0.at_.box;rw[e,hlr] at hx;cases hx
   .subst e;obtain⟨o,ho,hc⟩:=hI0.at_.nc (.inr (.inl hq));rw[hlr] at ho;obtain rfl:=Option.some.inj ho;cases hc
   .subst e;obtain⟨o,ho,hc⟩:=hI0.at_.nc (.inr (.inr hq));rw[hlr] at ho;obtain rfl:=Option.some.inj ho;cases hc
  obtain⟨x,hx,hxd⟩:=MV hk
  rw[hxd];obtain⟨q,hq⟩:∃q:Nat,q=L.length-1-k:=⟨_,rfl⟩;rw[<-hq];have hx8:=(hIW.at_.fit x (iL.1 (cZ hx))).2.2.2;have ht8:(jx bw iw (L.reverse.take k)).size=8:=by
   cases hst:L.reverse.take k with
   | nil=>rfl
   | cons a st =>
    have:∀(st:List Blk)(d:ByteArray),d.size=8->(st.foldl (fun t y=>bw y.d t) d).size=8:=by
     intro st
     induction st with
     | nil=>exact fun d h=>h
     | cons y st ih=>exact fun d _=>ih _ rfl
    exact this st a.d (hIW.at_.fit a (iL.1 (List.mem_of_mem_take (by rw[hst];exact cM)))).2.2.2
  have htop:=K4 hx
  have fin:=fun (W5:World) (t:ByteArray) (hb5:ac W.heap.size W W5) (ht:t=jx bw iw (L.reverse.take (k+1))) =>
   hIW.step (sb:=w1.heap.size+1) (w1:=w3) hb5 ht mOm mOm mOm (fun q hq=>by have:=hdw q hq;omega) (fun q hq=>by have:=hbw q hq;omega) mOm hKp W0.heap.size N1 mOm hN1
  have FIN:=aa fin
  have c1:=ae hIW.box 0;have c2:=ae hIW.at_.box 1;have c3:=ae hIW.top 0;have f3:=aE hIW.top 0;have a1:IntKind.i64.wrap ((L.length:Int)-1)=(L.length:Int)-1:=aH _ (by have:=hIW.at_.few;omega);have HQ:=aa hq;have HTP:=aa hIW.top;generalize jx bw iw (L.reverse.take k)=tk at *;by_cases h0:k=0
  .have t1:((q:Int)==(L.length:Int)-1)=true:=by rw[beq_iff_eq];omega
   rw[if_pos h0] at htop;have HT:=aa htop;clear hq fin htop hIW hI0 hxd hx hKp
   gi_wp2
   exact FIN.out _ _ (Below.refl _ _) HT.out.symm
  .have t1:((q:Int)==(L.length:Int)-1)=false:=by rw[beq_eq_false_iff_ne];omega
   rw[if_neg h0] at htop;have HT:=aa htop;have ht9:tk.size<=100000000:=mOm;have hx9:x.d.size<=100000000:=mOm;clear hq fin htop hIW hI0 hxd hx hKp
   gi_wp2_with (refine⟨trivial,?_⟩;gi_at_call 181;refine(CallsIn.inRound lp (callsIn_wide.2 (zw W.heap.size 3 x.d tk hx9 ht9 _ (heap_alloc_new W _)))).mono ?_;rintro _ w5⟨rfl,hb5⟩;have hb6:ac W.heap.size W w5:=(aj W _).trans (hb5.mono mSi);have HB6:=aa hb6;have k5:=hb6.heap_of HTP.out;have c5:=ae k5 0;have f5:=aE k5 0;clear k5 hb6)
   exact FIN.out _ _ HB6.out HT.out.symm
 case hdone =>
  intro D W hD hI hDW;have ht:jx bw iw (L.reverse.take L.length)=sS L:=by unfold sS;rw[du mSi]
  have htop:=hI.top;rw[ht] at htop;have hTs:(sS L).size=8:=by
   unfold sS
   cases hst:L.reverse with
   | nil=>rfl
   | cons a st =>
    have:∀(st:List Blk)(d:ByteArray),d.size=8->(st.foldl (fun t y=>bw y.d t) d).size=8:=by
     intro st
     induction st with
     | nil=>exact fun d h=>h
     | cons y st ih=>exact fun d _=>ih _ rfl
    exact this st a.d (hI.at_.fit a (iL.1 (by rw[hst];exact cM))).2.2.2
  have HLOW:=aa hI.low
  generalize hTe:sS L=T at *;have HTE:=aa hTe;clear hTe;have ctop:=ae htop 0;have hS0:ac W.heap.size W W.drew/\W.drew.cell? ⟨w1.heap.size,0,Oh⟩=Og (Ob T):=⟨(Below.refl _ _).drew,ctop⟩;have keepS:∀w',ac W.heap.size W w'->ac W.heap.size W w'/\w'.cell? ⟨w1.heap.size,0,Oh⟩=Og (Ob T):=fun w' hb=>⟨hb,(hb.cell (p:=⟨w1.heap.size,0,Oh⟩) (aG htop)).trans ctop⟩
  clear hI ht htop cf cd hfx2 hfx3 htb htb3 hsb hFw hF3 hrow3 hit
  go_upto_region 8 with fail
  refine aD (S:=fun w'=>ac W.heap.size W w'/\w'.cell? ⟨w1.heap.size,0,Oh⟩=Og (Ob T)) [(0,true),(2,true),(1,false),(3,false),(4,false),(5,true)] hS0 ?_;have hS:=hS0
  iterate 2 refine ak ?_
  refine aJ 182 call182 (kR n mOm _) ?_;rintro x wn⟨rfl,hb⟩;replace hS:=(fun hS hb=>keepS _ (ah hS.1 hb)) hS hb;refine⟨_,rfl,hS,?_⟩;(try clear hb);refine ay ?_;obtain⟨wq,hwq⟩:∃wq,wn=wq:=⟨_,rfl⟩;subst hwq;refine lQ ⟨_,_,_,_,_,_⟩ (.slice (some ⟨wn.heap.size,0,none⟩) 3 3) (wn.alloc (.cells #[.string ⟨#[6]⟩,.string ⟨(be8 n).toArray⟩,.string T] 9)) rfl mRf (by go_simp) (keepS _ (ah hS.1 (aj _ _))) ?_;have hbq:=ah hS.1 (aj wn (.cells #[.string ⟨#[6]⟩,.string ⟨(be8 n).toArray⟩,.string T] 9));replace hS:=keepS _ hbq;refine ay ?_;refine aJ 181 call181 (th wn.heap.size 3 [⟨#[6]⟩,⟨(be8 n).toArray⟩,T] 3 rfl mOm _ (qc (heap_alloc_new wn _) _ rfl (by intro z hz;simp only[bM,eZ,or_false] at hz;rcases hz with rfl|rfl|rfl;decide;exact(by decide:(8:Nat)<=100000000);omega))) ?_;rintro e wm⟨rfl,hb⟩;replace hS:=keepS wm (ah hS.1 hb);refine⟨_,rfl,hS,?_⟩;refine ay ?_;refine ak ?_;simp only[aQ,aZ];have HS:=aa hS.1;clear hS hS0 keepS;go_wp2_with fail;have hD2:=HS.out.heap_of hDW;have hz:=HLOW.out.size;refine uW D _ hD2 fun w' hw'=>⟨.string (oH n T),?_,by rw[HTE.out],(ah HLOW.out HS.out).trans (hw'.below (fun q hq e=>by omega) (ah HLOW.out HS.out).size)⟩
  simp[results,results248,oH]
end
section
def cC(a b:ByteArray):Int:=gY a.data.toList b.data.toList
def fq(l:List ByteArray):Prop:=∀i a b,l[i]? = Og a->l[i+1]? = Og b->cC a b<0
theorem GT(l:List ByteArray)(p:Option Addr)(c:Nat)(w:World)(hl:ar bV w (Oc p l.length c) l)(hn:l.length<=1000000) :
  Calls prog 215 #[Oc p l.length c] w fun e w'=>∃t:Bool,e=Oe (.bool t)/\(t=true↔fq l)/\ac w.heap.size w w':=by
 have HL:=aa hl;clear hl;go_enter func215,ntmps215;go_wp2_with fail
 go_loopw [6] (fun i wr=>∃k:Nat,k<=l.length/\i=N9 Oa k/\Hid (∀i a b,i+1<k->l[i]? = Og a->l[i+1]? = Og b->cC a b<0)/\ac w.heap.size w wr) (fun i _=>l.length-(aw i).toNat)
 case atStart=>exact⟨0,aP _,rfl,aa (fun i a b h=>absurd h mOm),Below.refl _ _⟩
 case round =>
  obtain⟨k,hk,rfl,HI,hb⟩:=hrel;by_cases hlt:k<l.length
  .obtain⟨b,o,rfl,hbl,hcv⟩:=gb HL.out rfl mOm;have i1:(k:Int)<(l.length:Int):=mOm;have hg1:=ai hlt;by_cases h0:k=0
   .subst h0;have hS0:ac w.heap.size w wr.drew:=hb.trans ((Below.refl _ wr).drew.mono hb.size);have HN:Hid (∀i a b,i+1<0+1->l[i]? = Og a->l[i+1]? = Og b->cC a b<0):=aa (fun i a b h=>absurd h mOm);clear hcv hg1
    go_upto_region 4 with fail
    refine aD (S:=fun w'=>ac w.heap.size w w') [(0,true),(1,true),(2,true),(3,true),(4,true),(5,true),(6,true),(7,true),(8,true),(9,true),(10,true),(11,true),(12,false),(13,true),(14,true)] hS0 ?_;have hS:=hS0
    iterate 12 (first|refine ak ?_|refine dw ?_)
    refine jF ⟨_,_,_,_,_,_⟩ rfl mRf hS ?_;refine ay ?_
    iterate 2 (first|refine ak ?_|refine dw ?_)
    simp only[aQ,aZ];have hS1:=aa hS;clear hS hS0 hb;go_wp2_with fail
    go_roundw
    case rel=>exact⟨0+1,mOm,by go_num,HN,hS1.out⟩
    case measure=>simp[aw];omega
   .obtain⟨j,rfl⟩:∃j,k=j+1:=⟨k-1,mOm⟩;have hg0:=ai (show j<l.length by omega);have c0:=(hb.cell (p:=⟨b,o+j,Oh⟩) hbl).trans (hcv j _ hg0);have c1:=(hb.cell (p:=⟨b,o+(j+1),Oh⟩) hbl).trans (hcv (j+1) _ hg1);have HG:=aa (And.intro hg0 hg1);generalize l[j]=x at *;generalize l[j+1]=y at *;have i0:(0:Int)<((j+1:Nat):Int):=mOm;have i2:(j:Int)<(l.length:Int):=mOm;have i3:(0:Int)<=(j:Int):=mOm;have i4:(0:Int)<=(j:Int)+1:=mOm;have i5:(j:Int)+1<(l.length:Int):=mOm;have a1:IntKind.i64.wrap (j:Int)=(j:Int):=fY _ _ rfl mOm;have S2:=aa hb.size;have keepS:∀{u v:World},(ac w.heap.size w u/\u.cell? ⟨b,o+j,Oh⟩=Og (Ob x)/\u.cell? ⟨b,o+(j+1),Oh⟩=Og (Ob y))->ac u.heap.size u v->(ac w.heap.size w v/\v.cell? ⟨b,o+j,Oh⟩=Og (Ob x)/\v.cell? ⟨b,o+(j+1),Oh⟩=Og (Ob y)):=fun h hb=>⟨ah h.1 hb,(hb.cell (p:=⟨b,o+j,Oh⟩) (al _ _ h.2.1)).trans h.2.1,(hb.cell (p:=⟨b,o+(j+1),Oh⟩) (al _ _ h.2.2)).trans h.2.2⟩
    have hS0:ac w.heap.size w wr.drew/\wr.drew.cell? ⟨b,o+j,Oh⟩=Og (Ob x)/\wr.drew.cell? ⟨b,o+(j+1),Oh⟩=Og (Ob y):=keepS ⟨hb,c0,c1⟩ (Below.refl _ wr).drew;have HC:Hid (gY x.data.toList y.data.toList=cC x y):=aa rfl;clear hcv hg0 hg1
    go_upto_region 4 with fail
    refine aD (S:=fun w'=>ac w.heap.size w w'/\w'.cell? ⟨b,o+j,Oh⟩=Og (Ob x)/\w'.cell? ⟨b,o+(j+1),Oh⟩=Og (Ob y)) [(0,true),(1,true),(2,true),(3,true),(4,true),(5,true),(6,true),(7,true),(8,true),(9,true),(10,true),(11,true),(12,false),(13,true),(14,true)] hS0 ?_;have hS:=hS0
    iterate 12 refine ak ?_
    refine aJ 249 call249 (Tryz.strings_Compare x y _) ?_;rintro x wn⟨rfl,rfl⟩;refine⟨_,rfl,hS,?_⟩;refine ay ?_
    iterate 2 refine ak ?_
    simp only[aQ,aZ];have hS1:=aa hS.1;clear hS hS0 hb keepS c0 c1;by_cases hc:cC x y<0
    .have t1:¬(0:Int)<=gY x.data.toList y.data.toList:=by have:=HC.out;omega
     have HN:Hid (∀i a b,i+1<j+1+1->l[i]? = Og a->l[i+1]? = Og b->cC a b<0):=aa (fun i a b h ha hb=>by
      by_cases e:i=j
      .subst e;rw[HG.out.1] at ha;rw[HG.out.2] at hb;obtain rfl:=Option.some.inj ha;obtain rfl:=Option.some.inj hb;exact hc
      .exact HI.out i a b mOm ha hb)
     clear hc
     go_wp2_with fail
     go_roundw
     case rel=>exact⟨j+1+1,mOm,by go_num,HN,hS1.out⟩
     case measure=>simp[aw];omega
    .have t1:(0:Int)<=gY x.data.toList y.data.toList:=by have:=HC.out;omega
     have HN:Hid (¬fq l):=aa (fun h=>hc (h j x y HG.out.1 HG.out.2));clear hc;go_wp2_with fail;go_ret;exact⟨false,rfl,⟨fun e=>(by cases e),fun h=>absurd h HN.out⟩,hS1.out⟩
  .obtain rfl:k=l.length:=mOm;go_wp2_with fail;go_ret;exact⟨true,rfl,⟨fun _=>fun i a b ha hb=>HI.out i a b (aA.1 hb).1 ha hb,fun _=>rfl⟩,hb⟩
