/- Lemmas. -/
import Derived.Test.YtnlhbdmeodbblaaGreatDoorMiad
import Derived.Lib.AtoiAll
import Derived.Lib.IndexMore
import Derived.Lib.ItoaNum
set_option maxRecDepth 100000
set_option maxHeartbeats 16000000
set_option linter.all false
open Go.Proofs.Tryz
open Int renaming toNat_natCast→cm
open Go.IntWalk renaming i64_in→aF
open Go.Lib renaming cell_of_heap→ae,compareBytes→fT,frozen_of_heap→aE,hid→aa
open List renaming cons_append→eJ,drop_drop→jv,foldl_append→fm,getD_eq_getElem?_getD→bi,getElem?_eq_getElem→ai,getElem?_eq_some_iff→ap,getElem?_map→fo,length→gT,length_append→ax,length_cons→bA,length_drop→bF,length_map→aX,length_nil→cu,length_reverse→eT,length_singleton→aG,length_take→aM,map_cons→ev,mem_append→bN,mem_cons→cR,mem_cons_self→dw,mem_of_getElem?→bP,mem_of_mem_take→cT,mem_reverse→jo,mem_singleton→bJ,nil_append→dt,not_mem_nil→et,reverse_reverse→dT,size_toArray→dz,take_add_one→aL,take_length→aT,take_of_length_le→dR,toArray→aq
open Nat renaming le_refl→aD,le_trans→bu,zero_add→bM,zero_le→aR
open Go.RowKit renaming Below→ac,intOf→aw
open Go.World renaming block_lt_of_cell?→am,ownsRow_nil→dK,putObj_heap_other→dD
open Go.Ending renaming returned→JT
open Go.IntKind renaming i64→JP
open Go.Obj renaming cells→JU
open Go.Value renaming int→JO,string→JQ,slice→JR,pointer→JS
open Option renaming some→JV,none→JW
namespace Go.Proofs.YtnlhbdmeodbblaaGreatDoor
section
open Go Go.Proofs Go.RowKit Go.Sort Go.Lib
attribute [local go_sem] Oper.semAt_some
theorem Hv (w W:World) (o0 o1 o2 o3 o4 o5:Obj) (h:W=(((((w.alloc o0).alloc o1).alloc o2).alloc o3).alloc o4).alloc o5) :
  (W.heap[w.heap.size]? = JV o0∧W.heap[w.heap.size+1]? = JV o1∧W.heap[w.heap.size+2]? = JV o2∧W.heap[w.heap.size+3]? = JV o3∧W.heap[w.heap.size+4]? = JV o4∧W.heap[w.heap.size+5]? = JV o5)∧W.heap.size=w.heap.size+6∧ac w.heap.size w W:=by
 have hb:ac w.heap.size w W:=by subst h;exact ((((((Below.refl _ w).alloc (aD _) _).alloc mSi _).alloc (by simp;omega) _).alloc (by simp;omega) _).alloc (by simp;omega) _).alloc (by simp;omega) _
 obtain ⟨w1,hw1⟩:∃ w1,w.alloc o0=w1:=⟨_,rfl⟩
 obtain ⟨w2,hw2⟩:∃ w2,w1.alloc o1=w2:=⟨_,rfl⟩;obtain ⟨w3,hw3⟩:∃ w3,w2.alloc o2=w3:=⟨_,rfl⟩;obtain ⟨w4,hw4⟩:∃ w4,w3.alloc o3=w4:=⟨_,rfl⟩;obtain ⟨w5,hw5⟩:∃ w5,w4.alloc o4=w5:=⟨_,rfl⟩;rw [hw1,hw2,hw3,hw4,hw5] at h;have n0:=heap_alloc_new w o0;have n1:=heap_alloc_new w1 o1;have n2:=heap_alloc_new w2 o2;have n3:=heap_alloc_new w3 o3;have n4:=heap_alloc_new w4 o4;have n5:=heap_alloc_new w5 o5;have b1:=al w1 o1;have b2:=al w2 o2;have b3:=al w3 o3;have b4:=al w4 o4;have b5:=al w5 o5;have e0:(w.alloc o0).heap.size=w.heap.size+1:=mSi;have e1:(w1.alloc o1).heap.size=w1.heap.size+1:=mSi;have e2:(w2.alloc o2).heap.size=w2.heap.size+1:=mSi;have e3:(w3.alloc o3).heap.size=w3.heap.size+1:=mSi;have e4:(w4.alloc o4).heap.size=w4.heap.size+1:=mSi;have e5:(w5.alloc o5).heap.size=w5.heap.size+1:=mSi;rw [← h] at n5 b5 e5;rw [hw1] at n0 e0;rw [hw2] at n1 b1 e1;rw [hw3] at n2 b2 e2;rw [hw4] at n3 b3 e3;rw [hw5] at n4 b4 e4;clear h hw1 hw2 hw3 hw4 hw5;refine ⟨⟨b5.heap_of (b4.heap_of (b3.heap_of (b2.heap_of (b1.heap_of n0)))),?_,?_,?_,?_,?_⟩,mOm,hb⟩
 ·rw [← e0];exact b5.heap_of (b4.heap_of (b3.heap_of (b2.heap_of n1)))
 ·rw [show w.heap.size+2=w2.heap.size by omega];exact b5.heap_of (b4.heap_of (b3.heap_of n2))
 ·rw [show w.heap.size+3=w3.heap.size by omega];exact b5.heap_of (b4.heap_of n3)
 ·rw [show w.heap.size+4=w4.heap.size by omega];exact b5.heap_of n4
 ·rw [show w.heap.size+5=w5.heap.size by omega];exact n5
def okK (pr:List ByteArray) (n:Nat):Prop:=n≤pr.length∧∀ s∈pr.take n,s.size=8
structure KnI (fb:Nat) (bv dv:Value) (L:List Blk) (B:List (Nat×Nat)) (pr:List ByteArray) (w0 w:World) (k:Nat) (W:World):Prop where
 ok:okK pr k
 far:w.heap.size+6≤W.heap.size
 at_:∃ bv' dv',LZ fb bv' dv' (dO be L.reverse ((bZ B pr).take k)).reverse W∧(∀ q,bv'.ownBlock=JV q→bv.ownBlock=JV q∨w.heap.size+6≤q)∧(∀ q,dv'.ownBlock=JV q→dv.ownBlock=JV q∨w.heap.size+6≤q)
 buts:LM (fR fb bv dv) w W
 b0:W.heap[w.heap.size]? = JV (JU #[JS (JV ⟨fb,0,JW⟩)] 288 (0,0))
 b1:∃ v,W.heap[w.heap.size+1]? = JV (JU #[v] 37 (0,0))∧LK bL w0 v (pr.drop k)
 b2:W.heap[w.heap.size+2]? = JV (JU #[JR JW 0 0] 37 (0,0))
 b3:W.heap[w.heap.size+3]? = JV (JU #[.bool false] 4 (0,0))
theorem zo {B:List (Nat×Nat)} {pr:List ByteArray} {k:Nat} {z:Nat×Nat} {s:ByteArray} (hz:B[k]? = JV z) (hs:pr[k]? = JV s):(bZ B pr).take (k+1)=(bZ B pr).take k++[⟨z.1,z.2,s⟩]:=by
 have:(bZ B pr)[k]? = JV ⟨z.1,z.2,s⟩:=by unfold bZ;have h2:(B.zip pr)[k]? = JV (z,s):=List.getElem?_zip_eq_some.2 ⟨hz,hs⟩;rw [fo,h2];rfl
 rw [aL,this];rfl
theorem vm {i j k:Nat} {z:Nat×Nat} (_hij:i≤j) (h:(bY i j)[k]? = JV z):z.1+z.2≤j∧0 < z.2:=by have hk:=(ap.1 h).1;obtain ⟨h1,h2⟩:=rQ j k i hk;rw [h] at h2;obtain rfl:=Option.some.inj h2;have:=jx h1;exact ⟨this.2.1,this.2.2⟩
theorem re {P:Program} {fn:Func} {tmps:Array Value} {R:Ending→World→Prop} (D:Nat) (W:World) (hD:W.heap[D]? = JV (.deferred (JV []))) (h:∀ w',LM (fun q=>q=D) W w'→∃ v,(results fn tmps).run P w'=.ok v w'∧R (JT v) w') :
  LeavesInM Fence.wide 4 P fn tmps R [{ target:=.collected D,args:=#[] }] .returning W:=by
 refine ⟨mSi,.inl ⟨D,_,rfl,run_takeDeferred hD,?_⟩⟩;exact h _ ⟨rfl,rfl,rfl,mSi,fun k _ hk=>dD hk⟩
theorem nq (A:World) (l:Nat) (o:Obj):LM (fun q=>q=l) A (A.putObj l o):=⟨rfl,rfl,rfl,mSi,fun j _ hne=>dD hne⟩
theorem LZ.nc {fb:Nat} {bv dv:Value} {L:List Blk} {w:World} (h:LZ fb bv dv L w) {k:Nat} (hk:fR fb bv dv k):∃ o,w.heap[k]? = JV o∧o.isCells=true:=by
 rcases hk with rfl | e | e
 ·exact ⟨_,h.box,rfl⟩
 ·obtain ⟨-,(⟨rfl,-⟩ | ⟨g,c,cur,rfl,-,hg,-⟩)⟩:=h.bs
  ·cases e
  ·obtain rfl:=Option.some.inj e;exact ⟨_,hg,rfl⟩
 ·obtain ⟨-,(⟨rfl,-⟩ | ⟨g,c,cur,rfl,-,hg,-⟩)⟩:=h.ds
  ·cases e
  ·obtain rfl:=Option.some.inj e;exact ⟨_,hg,rfl⟩
theorem KnI.buts_ {fb:Nat} {bv dv:Value} {L:List Blk} {B:List (Nat×Nat)} {pr:List ByteArray} {w0 w:World} {k:Nat} {W W':World} {T:Nat→Prop} (h:KnI fb bv dv L B pr w0 w k W) (hb:LM T W W') (hT:∀ q,T q→w.heap.size+4≤q)
  (hn:∀ bv' dv',LZ fb bv' dv' (dO be L.reverse ((bZ B pr).take k)).reverse W→(∀ q,bv'.ownBlock=JV q→bv.ownBlock=JV q∨w.heap.size+6≤q)→(∀ q,dv'.ownBlock=JV q→dv.ownBlock=JV q∨w.heap.size+6≤q)→∀ q,T q→¬ fR fb bv' dv' q):KnI fb bv dv L B pr w0 w k W':=by
 obtain ⟨bv',dv',h1,h2,h3⟩:=h.at_;have hq:=hn bv' dv' h1 h2 h3
 refine ⟨h.ok,bu h.far hb.size,⟨bv',dv',h1.buts hb (fun e=>hq _ e (.inl rfl)) (fun q hq2 e=>hq q e (.inr (.inl hq2))) (fun q hq2 e=>hq q e (.inr (.inr hq2))),h2,h3⟩,
  h.buts.next hb (fun q hq e=>by have:=hT q e;omega),hb.heap h.b0 (fun e=>by have:=hT _ e;omega),?_,hb.heap h.b2 (fun e=>by have:=hT _ e;omega),hb.heap h.b3 (fun e=>by have:=hT _ e;omega)⟩
 obtain ⟨v,k1,k2⟩:=h.b1
 exact ⟨v,hb.heap k1 (fun e=>by have:=hT _ e;omega),k2⟩
theorem KnI.put {fb:Nat} {bv dv:Value} {L:List Blk} {B:List (Nat×Nat)} {pr:List ByteArray} {w0 w:World} {k l:Nat} {W:World} {r r':Loop} (h:KnI fb bv dv L B pr w0 w k W) (hl:W.heap[l]? = JV (.loop r)) (hle:w.heap.size+6≤l):KnI fb bv dv L B pr w0 w k (W.putObj l (.loop r')):=
 h.buts_ (nq W l _) (fun q e=>by omega) (fun bv' dv' h1 _ _ q e hf=>by
  subst e;obtain ⟨o,ho,hc⟩:=h1.nc hf;rw [hl] at ho;obtain rfl:=Option.some.inj ho
  cases hc)
theorem KnI.out {fb:Nat} {bv dv:Value} {L:List Blk} {B:List (Nat×Nat)} {pr:List ByteArray} {w0 w:World} {k n:Nat} {W W2:World} (h:KnI fb bv dv L B pr w0 w k W) (hno:¬ okK pr n) (_hfl:fb < w.heap.size) (hW:W2=(W.setCell ⟨w.heap.size+1+1,0,JW⟩ (JR JW 0 0)).setCell ⟨w.heap.size+1+1+1,0,JW⟩ (.bool false)) :
  (Code.ret=.ret∧¬ okK pr n∧LM (fR fb bv dv) w W2∧W2.heap[w.heap.size+2]? = JV (JU #[JR JW 0 0] 37 (0,0))∧W2.heap[w.heap.size+3]? = JV (JU #[.bool false] 4 (0,0))∧w.heap.size+6≤W2.heap.size)∧L5 W W2:=by
 have q2:W2.heap[w.heap.size+2]? = JV (JU #[JR JW 0 0] 37 (0,0)):=by rw [hW,de mOm];exact bp h.b2 0 _
 have q3:W2.heap[w.heap.size+3]? = JV (JU #[.bool false] 4 (0,0)):=by rw [hW];exact bp ((de mOm 0 _).trans h.b3) 0 _
 have hbu:LM (fun q=>q=w.heap.size+2∨q=w.heap.size+3) W W2:=by
  rw [hW];exact (LM.set (S:=fun q=>q=w.heap.size+2∨q=w.heap.size+3) W (.inl rfl) 0 _).trans (LM.set _ (.inr rfl) 0 _)
 refine ⟨⟨rfl,hno,h.buts.next hbu (fun q hq e=>by omega),q2,q3,bu h.far hbu.size⟩,hbu.nc (fun q o e ho=>?_)⟩
 rcases e with e | e
 ·subst e;rw [h.b2] at ho;obtain rfl:=Option.some.inj ho;rfl
 ·subst e;rw [h.b3] at ho;obtain rfl:=Option.some.inj ho;rfl
theorem KnI.add {fb:Nat} {bv dv b1 d1 v2:Value} {L:List Blk} {B:List (Nat×Nat)} {pr:List ByteArray} {w0 w:World} {k:Nat} {W wx:World} {z:Nat×Nat} {s:ByteArray} (h:KnI fb bv dv L B pr w0 w k W) (hz:B[k]? = JV z) (hs:pr[k]? = JV s) (h8:s.size=8)
  (hbl:∀ q,bv.ownBlock=JV q→q < w.heap.size) (hdl:∀ q,dv.ownBlock=JV q→q < w.heap.size) (hfl:fb < w.heap.size)
  (h2:∀ q,b1.ownBlock=JV q→bv.ownBlock=JV q∨w.heap.size+6≤q) (h3:∀ q,d1.ownBlock=JV q→dv.ownBlock=JV q∨w.heap.size+6≤q)
  (hA:Ma fb b1 d1 (dO be L.reverse ((bZ B pr).take k)).reverse ⟨z.1,z.2,s⟩ W wx) (hv:LK bL w0 v2 (pr.drop (k+1))):KnI fb bv dv L B pr w0 w (k+1) (wx.setCell ⟨w.heap.size+1,0,JW⟩ v2):=by
 obtain ⟨⟨b2,d2,j1,j2,j3⟩,hb⟩:=hA;have hfar:=h.far;have hkl:=(ap.1 hs).1;have hno:∀ q,w.heap.size≤q→q < w.heap.size+6→¬ fR fb b1 d1 q:=by
  rintro q hq hq2 (e | e | e)
  ·omega
  ·rcases h2 q e with e | e
   ·have:=hbl q e;omega
   ·omega
  ·rcases h3 q e with e | e
   ·have:=hdl q e;omega
   ·omega
 have hno2:¬ fR fb b2 d2 (w.heap.size+1):=by
  rintro (e | e | e)
  ·omega
  ·rcases j2 _ e with e | e
   ·exact hno _ mOm mOm (.inr (.inl e))
   ·omega
  ·rcases j3 _ e with e | e
   ·exact hno _ mOm mOm (.inr (.inr e))
   ·omega
 have hset:=LM.set (S:=fun q=>q=w.heap.size+1) wx rfl 0 v2
 obtain ⟨v,k1,k2⟩:=h.b1;refine ⟨⟨mOm,fun x hx=>?_⟩,by rw [yS];exact bu hfar hb.size,⟨b2,d2,?_,fun q hq=>?_,fun q hq=>?_⟩,?_,?_,⟨v2,?_,hv⟩,?_,?_⟩
 ·rw [aL,hs,bN] at hx;rcases hx with hx | hx
  ·exact h.ok.2 x hx
  ·obtain rfl:x=s:=by simpa using hx
   exact h8
 ·have e:dO be L.reverse ((bZ B pr).take (k+1))=fh be (dO be L.reverse ((bZ B pr).take k)) ⟨z.1,z.2,s⟩:=by
   rw [zo hz hs];unfold dO;rw [fm];rfl
  rw [dT,← e] at j1
  exact j1.buts hset (fun e=>by omega) (fun q hq e=>hno2 (by subst e;exact .inr (.inl hq))) (fun q hq e=>hno2 (by subst e;exact .inr (.inr hq)))
 ·rcases j2 q hq with e | e
  ·exact h2 q e
  ·exact .inr mOm
 ·rcases j3 q hq with e | e
  ·exact h3 q e
  ·exact .inr mOm
 ·refine (h.buts.next hb (fun q hq e=>?_)).next hset (fun q hq e=>by omega);rcases e with e | e | e
  ·exact .inl e
  ·exact .inr (.inl ((h2 q e).resolve_right mOm))
  ·exact .inr (.inr ((h3 q e).resolve_right mOm))
 ·rw [de mOm];exact hb.heap h.b0 (hno _ (aD _) mOm)
 ·exact bp (hb.heap k1 (hno _ mOm mOm)) 0 v2
 ·rw [de mOm];exact hb.heap h.b2 (hno _ mOm mOm)
 ·rw [de mOm];exact hb.heap h.b3 (hno _ mOm mOm)
theorem wC (fb i j:Nat) (bv dv:Value) (L:List Blk) (pr:List ByteArray) (p:Option Addr) (c:Nat) (w0 w:World) (hij:i≤j) (hj:j≤1099511627776) (hF:LZ fb bv dv L w) (hL:L.length+(bY i j).length < 10000) (hl:LK bL w0 (JR p pr.length c) pr) (h0:w0.heap.size≤fb) (hb0:ac w0.heap.size w0 w) :
  Calls prog 246 #[JS (JV ⟨fb,0,JW⟩),JO JP i,JO JP j,JR p pr.length c] w fun e w'=>∃ v t,e=JT (.tuple #[v,.bool t])∧
   ((t=true∧okK pr (bY i j).length∧LK bL w0 v (pr.drop (bY i j).length)∧L6 fb bv dv L (bZ (bY i j) pr) w w')∨(t=false∧¬ okK pr (bY i j).length∧LM (fR fb bv dv) w w')):=by
 have hfl:=aU hF.box;have hbl:∀ q,bv.ownBlock=JV q→fb < q∧q < w.heap.size:=fun q hq=>hF.bs.lt q hq
 have hdl:∀ q,dv.ownBlock=JV q→fb < q∧q < w.heap.size:=fun q hq=>hF.ds.lt q hq
 refine (callsIn_wide (n:=4)).1 ?_;refine callsIn_of_wp_marks func246 rfl trivial ?_ rfl;refine wpIn_wide.2 ?_;simp only [ntmps246,dz,bA,cu,Nat.reduceAdd,Nat.reduceSub,Array.replicate_succ,Array.replicate_zero,List.push_toArray,List.append_toArray,dt,eJ];go_wp2_with fail;refine (A9 i j _).mono ?_;rintro _ w1 ⟨rfl,hw1⟩;go_wp2_with fail;rw [← hw1];obtain ⟨⟨x0,x1,x2,x3,x4,x5⟩,hz1,hbw⟩:=Hv w w1 _ _ _ _ _ _ hw1;clear hw1;have hF1:=hF.below hbw
 refine rZ rfl (enters_of func287 mKr rfl) (zq (w.heap.size+4) i j hij hj) (fun _=>rfl) (fun k hk=>by subst hk;omega)
  (fun k A B h hle hb=>⟨hb.heap h.1 mOm,hb.heap h.2 mOm⟩) ⟨x4,x5⟩
  (KnI fb bv dv L (bY i j) pr w0 w) (fun cd W=>cd=.ret∧¬ okK pr (bY i j).length∧LM (fR fb bv dv) w W∧W.heap[w.heap.size+2]? = JV (JU #[JR JW 0 0] 37 (0,0))∧W.heap[w.heap.size+3]? = JV (JU #[.bool false] 4 (0,0))∧w.heap.size+6≤W.heap.size)
  ?hIs ?hXs ?hIp ?hXp ?hI0
  (fun k N a' W=>∃ b,a'=⟨aq (JS (JV ⟨fb,0,JW⟩)::JO JP i::JO JP j::JR p pr.length c::JS (JV ⟨w.heap.size,0,JW⟩)::undef::undef::JS (JV ⟨w.heap.size+1,0,JW⟩)::JS (JV ⟨w.heap.size+1+1,0,JW⟩)::JS (JV ⟨w.heap.size+1+1+1,0,JW⟩)::JS (JV ⟨b,0,JW⟩)::JO JP i::JO JP j::.func (.func 287) #[] #[JS (JV ⟨w.heap.size+1+1+1+1,0,JW⟩),JS (JV ⟨w.heap.size+1+1+1+1+1,0,JW⟩)]::A8 ((bY i j).getD k (0,0))::undef::undef::undef::undef::undef::undef::undef::undef::undef::undef::undef::undef::undef::undef::undef::undef::undef::undef::undef::[]),[]⟩∧N≤b∧
   W.heap[b]? = JV (JU #[JO JP ((bY i j).getD k (0,0)).1,JO JP ((bY i j).getD k (0,0)).2] 293 (0,0)))
  ?hBp ?hassign ?hbody ?hdone ?hstop
 case hIs =>
  rintro k A B h hb
  exact h.buts_ hb (fun q e=>by omega) (fun bv' dv' _ h2 h3 q e hf=>by
   subst e;rcases hf with e | e | e
   ·omega
   ·rcases h2 _ e with e | e
    ·have:=(hbl _ e).2;omega
    ·omega
   ·rcases h3 _ e with e | e
    ·have:=(hdl _ e).2;omega
    ·omega)
 case hXs =>
  rintro cd A B ⟨h1,h2,h3,h4,h5,h6⟩ hb;exact ⟨h1,h2,h3.next hb (fun q hq e=>by omega),hb.heap h4 mOm,hb.heap h5 mOm,bu h6 hb.size⟩
 case hIp =>
  rintro k A l r r' hle hl h;exact h.put hl mOm
 case hXp =>
  rintro cd A l r r' hle hl ⟨h1,h2,h3,h4,h5,h6⟩;have hb:=nq A l (.loop r');exact ⟨h1,h2,h3.next hb (fun q hq e=>by omega),hb.heap h4 mOm,hb.heap h5 mOm,bu h6 hb.size⟩
 case hI0 =>
  exact ⟨⟨aR _,mSi⟩,mOm,⟨bv,dv,by rw [List.take_zero];show LZ fb bv dv L.reverse.reverse w1;rw [dT];exact hF1,fun _ h=>.inl h,fun _ h=>.inl h⟩,LM.of hbw,x0,⟨_,x1,hl⟩,x2,x3⟩
 case hBp =>
  rintro k N a' A l r r' hle hlN hl ⟨b,h1,h2,h3⟩;exact ⟨b,h1,h2,(dD mOm).trans h3⟩
 case hassign =>
  intro lp k W K hI hK;generalize (bY i j).getD k (0,0)=zz at hK ⊢;unfold A8
  gi_wp2
  refine hK _ _ ⟨_,?_,aD _,?_⟩ (LM.alloc _ _ _)
  ·rfl
  ·exact heap_alloc_new W _
 case hdone =>
  intro D W hD hI hDW;obtain ⟨v,k1,k2⟩:=hI.b1;obtain ⟨p',c',rfl,_⟩:=k2.form;generalize (List.drop (bY i j).length pr).length=m at k1 k2;have c1:=ae k1 0;have f2:=aE hI.b2 0;have f3:=aE hI.b3 0;have c2:=ae hI.b2 0;have c3:=ae hI.b3 0;have K2:=aa k2;have HI:=aa hI;clear k1 k2 hI hF hl hF1;go_wp2_with fail;obtain ⟨W2,hW2⟩:∃ W2,(W.setCell ⟨w.heap.size+2,0,JW⟩ (JR p' m c')).setCell ⟨w.heap.size+3,0,JW⟩ (.bool true)=W2:=⟨_,rfl⟩;have q2:W2.heap[w.heap.size+2]? = JV (JU #[JR p' m c'] 37 (0,0)):=by rw [← hW2,de mOm];exact bp HI.out.b2 0 _
  have q3:W2.heap[w.heap.size+3]? = JV (JU #[.bool true] 4 (0,0)):=by rw [← hW2];exact bp ((de mOm 0 _).trans HI.out.b3) 0 _
  have hbu:LM (fun q=>q=w.heap.size+2∨q=w.heap.size+3) W W2:=by
   rw [← hW2];exact (LM.set (S:=fun q=>q=w.heap.size+2∨q=w.heap.size+3) W (.inl rfl) 0 _).trans (LM.set _ (.inr rfl) 0 _)
  refine re D _ ?_ fun w' hw'=>⟨.tuple #[JR p' m c',.bool true],?_,?_⟩
  ·rw [show ((W.setCell ⟨w.heap.size+1+1,0,JW⟩ _).setCell ⟨w.heap.size+1+1+1,0,JW⟩ _)=W2 from hW2];exact hbu.heap hDW (by have:=HI.out.far;omega)
  ·have hw2:LM (fun q=>q=D) W2 w':=by rw [← hW2];exact hw'
   have y2:=ae (hw2.heap q2 (by show ¬ _=D;omega)) 0;have y3:=ae (hw2.heap q3 (by show ¬ _=D;omega)) 0;simp [results,results246,go_sem,y2,y3]
  ·have hw2:LM (fun q=>q=D) W2 w':=by rw [← hW2];exact hw'
   obtain ⟨bv',dv',j1,j2,j3⟩:=HI.out.at_;have hfull:(bZ (bY i j) pr).take (bY i j).length=bZ (bY i j) pr:=dR (by unfold bZ;simp;omega);rw [hfull] at j1;have hfar:=HI.out.far;have hno:∀ q,(q=w.heap.size+2∨q=w.heap.size+3)∨q=D→¬ fR fb bv' dv' q:=by
    rintro q (e | e) hf
    ·rcases hf with hf | hf | hf
     ·omega
     ·rcases j2 q hf with hf | hf
      ·have:=(hbl _ hf).2;omega
      ·omega
     ·rcases j3 q hf with hf | hf
      ·have:=(hdl _ hf).2;omega
      ·omega
    ·subst e;obtain ⟨o,ho,hc⟩:=j1.nc hf;rw [hDW] at ho;obtain rfl:=Option.some.inj ho
     cases hc
   have hall:LM (fun q=>(q=w.heap.size+2∨q=w.heap.size+3)∨q=D) W w':=(hbu.mono (S2:=fun q=>(q=w.heap.size+2∨q=w.heap.size+3)∨q=D) fun _ _ e=>.inl e).trans (hw2.mono fun _ _ e=>.inr e)
   refine ⟨_,true,rfl,.inl ⟨rfl,HI.out.ok,K2.out,⟨bv',dv',j1.buts hall (fun e=>hno _ e (.inl rfl)) (fun q hq e=>hno q e (.inr (.inl hq))) (fun q hq e=>hno q e (.inr (.inr hq))),fun q hq=>(j2 q hq).imp id mOm,fun q hq=>(j3 q hq).imp id mOm⟩,HI.out.buts.next hall (fun q hq e=>by omega)⟩⟩
 case hstop =>
  rintro D cd W hD ⟨rfl,h2,h3,h4,h5,h6⟩ hDW;refine (wpIn_wide (n:=4)).2 ?_;go_wp2_with fail;refine re D _ hDW fun w' hw'=>⟨.tuple #[JR JW 0 0,.bool false],?_,?_⟩
  ·have y2:=ae (hw'.heap h4 mOm) 0;have y3:=ae (hw'.heap h5 mOm) 0;simp [results,results246,go_sem,y2,y3]
  ·exact ⟨_,false,rfl,.inr ⟨rfl,h2,h3.next hw' (fun q hq e=>by omega)⟩⟩
 case hbody =>
  rintro lp k a' N1 W0 W hk hI0 ⟨r,hlr⟩ hlp hb ⟨hkp1,hkp2⟩ ⟨b,rfl,hNb,hbx⟩ hle hN0 hN1
  have hIW:KnI fb bv dv L (bY i j) pr w0 w k W:=hI0.buts_ hb (fun q e=>by omega) (fun bv' dv' g1 h2 h3 q e hf=>by
   rcases e with e | e
   ·subst e;rcases hf with e | e | e
    ·omega
    ·rcases h2 _ e with e | e
     ·have:=(hbl _ e).2;omega
     ·omega
    ·rcases h3 _ e with e | e
     ·have:=(hdl _ e).2;omega
     ·omega
   ·subst e;obtain ⟨o,ho,hc⟩:=g1.nc hf;rw [hlr] at ho;obtain rfl:=Option.some.inj ho
    cases hc)
  obtain ⟨zp,hzk⟩:∃ z,(bY i j)[k]? = JV z:=⟨_,ai hk⟩
  have hgd:(bY i j).getD k (0,0)=zp:=by rw [bi,hzk];rfl
  rw [hgd] at hbx ⊢;have c0:=ae hIW.b0 0;obtain ⟨v,k1,k2⟩:=hIW.b1;obtain ⟨p',c',rfl,hcl⟩:=k2.form;have c1:=ae k1 0;have f1:=aE k1 0;have c2:=ae hIW.b2 0;have f2:=aE hIW.b2 0;have c3:=ae hIW.b3 0;have f3:=aE hIW.b3 0;have hbW:ac w0.heap.size w0 W:=hb0.trans (hIW.buts.below (fun q hq e=>by have:=(pI hF e).1;omega) hb0.size);have HIW:=aa hIW;have HI0:=aa hI0;have HB:=aa hb;have HKP:=aa (And.intro hkp1 hkp2);have HK1:=aa k1;have HF:=aa hF;have HBX:=aa hbx;clear hIW hI0 hb hkp1 hkp2 hF hF1 hl hbx x0 x1 x2 x3 x4 x5;generalize hdr:pr.drop k=R at k1 k2 c1 hcl
  cases R with
  | nil =>
   have K2:=aa k2;clear k2
   gi_wp2
   refine HIW.out.out ?_ hfl rfl
   rintro ⟨h1,-⟩;have:=congrArg gT hdr;rw [bF] at this;simp only [cu] at this;omega
  | cons s R =>
   have hget:pr[k]? = JV s:=by
    have:=congrArg (fun l=>l[0]?) hdr
    simpa [List.getElem?_drop] using this
   have hd1:pr.drop (k+1)=R:=by rw [← jv,hdr];rfl
   obtain ⟨pb,po,rfl,hpb,hcv⟩:=eO k2 rfl mSi;have cs:=(hbW.cell (p:=⟨pb,po+0,JW⟩) hpb).trans (hcv 0 s rfl);rw [Nat.add_zero] at cs;have K2:=aa k2;have HD:=aa (And.intro hget hd1);have hlen:(s::R).length=R.length+1:=rfl;rw [hlen] at k1 c1 hcl;have r0:(0:Int) < ((R.length+1:Nat):Int):=mOm;clear k2 hcv hdr hget hd1 hlen;by_cases h8:s.size=8
   ·have t1:((s.size:Int)==8)=true:=by rw [beq_iff_eq];omega
    have t2:((s.size:Int) != 8)=false:=by rw [bne_eq_false_iff_eq];omega
    have t0:((R.length:Int)+1==0)=false:=by rw [beq_eq_false_iff_ne];omega
    obtain ⟨b1,d1,g1,g2,g3⟩:=HI0.out.at_;have hfar:=HI0.out.far;have hbn:∀ q,q < w0.heap.size∨(w.heap.size≤q∧q < w.heap.size+6)∨W0.heap.size≤q→¬ fR fb b1 d1 q:=by
     rintro q hq hf;have hlo:=pI g1 hf;rcases hf with e | e | e
     ·omega
     ·rcases g2 q e with e | e
      ·have:=(hbl q e).2;omega
      ·omega
     ·rcases g3 q e with e | e
      ·have:=(hdl q e).2;omega
      ·omega
    have hnlp:¬ fR fb b1 d1 lp:=fun hf=>by
     obtain ⟨o,ho,hc⟩:=g1.nc hf;rw [hlr] at ho;obtain rfl:=Option.some.inj ho
     cases hc
    have gW:LZ fb b1 d1 (dO be L.reverse ((bZ (bY i j) pr).take k)).reverse W:=by
     have hq:∀ q,(q=w.heap.size+4∨q=lp)→¬ fR fb b1 d1 q:=by
      rintro q (rfl | rfl)
      ·exact hbn _ (.inr (.inl ⟨mOm,mOm⟩))
      ·exact hnlp
     exact g1.buts HB.out (fun e=>hq _ e (.inl rfl)) (fun q h e=>hq q e (.inr (.inl h))) (fun q h e=>hq q e (.inr (.inr h)))
    have hzf:=vm hij hzk
    have hlt:=lx be ((bZ (bY i j) pr).take k) L.reverse;rw [eT,aM] at hlt;have GW:=aa gW;have hn0:=hbn w.heap.size (.inr (.inl ⟨mOm,mOm⟩));have hn1:=hbn (w.heap.size+1) (.inr (.inl ⟨mOm,mOm⟩));have hn4:=hbn (w.heap.size+4) (.inr (.inl ⟨mOm,mOm⟩));have hn5:=hbn (w.heap.size+5) (.inr (.inl ⟨mOm,mOm⟩));have hnp:=hbn pb (.inl hpb);have hnb:=hbn b (.inr (.inr mOm));have HNN:=aa (And.intro hn0 (And.intro hn1 (And.intro hnp (And.intro hnb (And.intro hn4 hn5)))));have HBN:=aa hbn;clear hn0 hn1 hnp hnb hn4 hn5;have hpb0:pb < w0.heap.size:=hpb;have hS0:W.drew.cell? ⟨w.heap.size,0,JW⟩=JV (JS (JV ⟨fb,0,JW⟩))∧W.drew.cell? ⟨w.heap.size+1,0,JW⟩=JV (JR (JV ⟨pb,po,JW⟩) (R.length+1) c')∧W.drew.cell? ⟨pb,po,JW⟩=JV (JQ s)∧∀ j,W.drew.cell? ⟨b,j,JW⟩=(#[JO JP zp.1,JO JP zp.2]:Array Value)[j]?:=
     ⟨c0,c1,cs,fun j=>ae HBX.out j⟩
    have G23:=aa (And.intro g2 g3)
    clear g1 g2 g3 hbn gW
    gi_wp2
    refine me ?_ (fun _ _ h=>h)
    refine kJ (S:=fun w'=>w'.cell? ⟨w.heap.size,0,JW⟩=JV (JS (JV ⟨fb,0,JW⟩))∧w'.cell? ⟨w.heap.size+1,0,JW⟩=JV (JR (JV ⟨pb,po,JW⟩) (R.length+1) c')∧w'.cell? ⟨pb,po,JW⟩=JV (JQ s)∧∀ j,w'.cell? ⟨b,j,JW⟩=(#[JO JP zp.1,JO JP zp.2]:Array Value)[j]?) [(0,true),(1,true),(2,true),(3,true),(4,true),(5,false)] mKr mKr mKr mKr mDe (hS0) ?_;have hS:=hS0;refine aj ?_;refine dC ⟨_,_,_,_,_,_⟩ rfl mRf 293 (.tmp 10) mRf b 0 mRf [JO JP zp.1,JO JP zp.2] _ (fun w hSw j v hv=>(by rw [bM,hSw.2.2.2 j];simpa using hv)) underlying293 rfl mKr ?_;refine ar ?_
    iterate 3 refine aj ?_
    refine aH 271 call271 (Ao fb b1 d1 _ ⟨zp.1,zp.2,s⟩ W.drew (GW.out.below (Below.refl _ _).drew) (by rw [eT];omega) (bu hzf.1 hj) hzf.2 h8) ?_;rintro e wx ⟨⟨ve,rfl⟩,hA⟩;have hA:=Ma.from_ (w:=W) (Below.refl _ _).drew hA;have hAb:=hA.buts;replace hS:wx.cell? ⟨w.heap.size,0,JW⟩=JV (JS (JV ⟨fb,0,JW⟩))∧wx.cell? ⟨w.heap.size+1,0,JW⟩=JV (JR (JV ⟨pb,po,JW⟩) (R.length+1) c')∧wx.cell? ⟨pb,po,JW⟩=JV (JQ s)∧∀ j,wx.cell? ⟨b,j,JW⟩=(#[JO JP zp.1,JO JP zp.2]:Array Value)[j]?:=⟨(hAb.cell (am _ _ c0) HNN.out.1 _ _).trans c0,(hAb.cell (am _ _ c1) HNN.out.2.1 _ _).trans c1,(hAb.cell (am _ _ cs) HNN.out.2.2.1 _ _).trans cs,fun j=>(hAb.cell (aU HBX.out) HNN.out.2.2.2.1 _ _).trans (ae HBX.out j)⟩;refine ⟨_,rfl,hS,?_⟩;refine ar ?_;simp only [aO,bj];have kx:=hAb.heap HK1.out HNN.out.2.1;have f1x:=aE kx 0;have c1x:=hS.2.1;have r1:(1:Int)≤((R.length+1:Nat):Int):=mOm;have HA:=aa hA;have HAB:=aa hAb;clear hA hAb kx hS hS0 c0 c1 f1 cs c2 c3 f2 f3 t0 t1 t2
    have fin:∀ v2,LK bL w0 v2 (pr.drop (k+1))→KnI fb bv dv L (bY i j) pr w0 w (k+1) (wx.setCell ⟨w.heap.size+1,0,JW⟩ v2)∧ud (w.heap.size+4) i j k (wx.setCell ⟨w.heap.size+1,0,JW⟩ v2)∧L5 W (wx.setCell ⟨w.heap.size+1,0,JW⟩ v2)∧∀ g,W0.heap.size≤g→g < N1→(wx.setCell ⟨w.heap.size+1,0,JW⟩ v2).heap[g]? = W.heap[g]?:=fun v2 hv=>by
     have hset:=LM.set (S:=fun q=>q=w.heap.size+1) wx rfl 0 v2;have hkx:=HAB.out.heap HK1.out HNN.out.2.1;refine ⟨HIW.out.add hzk HD.out.1 h8 (fun q h=>(hbl q h).2) (fun q h=>(hdl q h).2) hfl G23.out.1 G23.out.2 HA.out hv,⟨?_,?_⟩,?_,fun g hg hg2=>?_⟩
     ·rw [de mOm];exact HAB.out.heap HKP.out.1 HNN.out.2.2.2.2.1
     ·rw [de mOm];exact HAB.out.heap HKP.out.2 HNN.out.2.2.2.2.2
     ·refine (HAB.out.nc (fun q o e ho=>?_)).trans (hset.nc (fun q o e ho=>?_))
      ·obtain ⟨o2,ho2,hc2⟩:=GW.out.nc e;rw [ho] at ho2;obtain rfl:=Option.some.inj ho2;exact hc2
      ·subst e;rw [hkx] at ho;obtain rfl:=Option.some.inj ho;rfl
     ·rw [de mOm];exact HAB.out.block g mOm (HBN.out g (.inr (.inr hg)))
    have FIN:=aa fin
    clear fin;by_cases hc1:c'=1
    ·obtain rfl:R=[]:=List.eq_nil_of_length_eq_zero mOm;subst hc1
     gi_wp2
     exact FIN.out _ (by rw [HD.out.2];exact ⟨_,_,rfl,aD _,fun e=>(by cases e),fun e=>(by cases e)⟩)
    ·gi_wp2
     refine FIN.out _ ?_
     have:=K2.out.drop (m:=1) (fun _=>rfl) mSi;rw [HD.out.2]
     simpa using this
   ·have t1:((s.size:Int)==8)=false:=by rw [beq_eq_false_iff_ne];omega
    have t2:((s.size:Int) != 8)=true:=by rw [bne_iff_ne];omega
    gi_wp2
    refine HIW.out.out ?_ hfl rfl
    rintro ⟨h1,h2⟩;exact h8 (h2 s (bP (by rw [List.getElem?_take_of_lt hk];exact HD.out.1)))
end
section
open Go Go.Proofs Go.RowKit Go.Sort Go.Lib
attribute [local go_sem] Oper.semAt_some
theorem xL (v:Value) (p:Option Addr) (n c:Nat) (hv:v=JR p n c) (w:World) :
  Calls prog 272 #[v] w fun x w'=>x=JT (.func (.func 290) #[] #[JS (JV ⟨w.heap.size,0,JW⟩)])∧w'=w.alloc (JU #[v] 37):=by
 subst hv;go_enter func272,ntmps272;go_wp2_with fail;go_ret;exact ⟨rfl,rfl⟩
def Ba (sb:Nat) (v:Value) (w1:World) (_k:Nat) (W:World):Prop:=W.heap[sb]? = JV (JU #[v] 37 (0,0))∧∀ b,v.ownBlock=JV b→W.heap[b]? = w1.heap[b]?
theorem wX (sb:Nat) (v:Value) (l:List ByteArray) (w1:World) (hl:l.length≤1000000) (hrow:LK bL w1 v l) :
  tU 290 #[JS (JV ⟨sb,0,JW⟩)] (fun k=>#[JO JP ((l.length - 1 - k:Nat):Int),JQ (l.getD (l.length - 1 - k) ⟨#[]⟩)]) l.length (fun _=>False) (Ba sb v w1):=by
 intro lp I X wL hIs hXs hK0 hI0 hY;have HYY:=aa hY;have HIS:=aa hIs;clear hIs hXs hY;have hb0:=hK0.1;obtain ⟨p,c,hv,hc⟩:=hrow.form;subst hv;have c0:=ae hb0 0;have a1:IntKind.i64.wrap ((l.length:Int) - 1)=(l.length:Int) - 1:=aF _ mOm;go_enter func290,ntmps290;go_wp2_with fail
 go_loopg [3] l.length (fun r i wr=>∃ k,k+r=l.length∧i=JO JP ((l.length:Int) - 1 - k)∧Ba sb (JR p l.length c) w1 k wr∧Hid (I k wr))
 case atStart=>exact ⟨0,bM _,mSi,hK0,aa hI0⟩
 case round =>
  obtain ⟨k,hk,rfl,hKp,HI⟩:=hrel;obtain ⟨hb,hsame⟩:=id hKp;have cb:=ae hb 0;by_cases hlt:k < l.length
  ·obtain ⟨b,o,rfl,hbl,hcv⟩:=eO hrow rfl mOm;obtain ⟨q,hq⟩:∃ q:Nat,q=l.length - 1 - k:=⟨_,rfl⟩;have hqi:(l.length:Int) - 1 - k=(q:Int):=mOm;have hql:q < l.length:=mOm;have hcq:=(World.cell?_of_block (a:=⟨b,o+q,JW⟩) (hsame b rfl)).trans (hcv q _ (ai hql));have hgd:l.getD (l.length - 1 - k) ⟨#[]⟩=l[q]:=by rw [← hq,bi,ai hql];rfl
   obtain ⟨fn,tmps,assign,body,hy,hR⟩:=HYY.out k wr wr hlt HI.out (LM.refl _ _) hKp 2;rw [hgd,← hq] at hy;generalize l[q]=s at hcq hy;have q0:(0:Int)≤(q:Int):=mOm;have q1:(q:Int) < (l.length:Int):=mOm;have a2:IntKind.i64.wrap ((q:Int) - 1)=(q:Int) - 1:=aF _ mOm;rw [hqi];have HQ:=aa hqi;clear hcv hgd hqi hKp hb hrow hsame a1 hq
   go_upto_region 3 with fail
   refine (wpIn_wide (n:=3)).1 ?_
   gi_wp2
   refine hR.mono ?_
   clear hR hy;rintro _ w3 (⟨rfl,hI3,hK3,hf3⟩ | ⟨rfl,hX⟩)
   ·have HI3:=aa hI3;have HK3:=aa hK3;clear hI3 hK3 hf3
    gi_wp2
    go_wp2_with fail
    go_roundg (l.length - (k+1))
    case measure=>omega
    case rel=>exact ⟨k+1,mOm,by have:=HQ.out;push_cast;rw [← this];simp;omega,HK3.out,HI3⟩
   ·have HX:=aa hX;clear hX
    gi_wp2
    go_wp2_with fail
    refine bodyPost_ret (results_none rfl _ _ _) rfl ?_;exact ⟨⟨_,rfl⟩,.inr HX.out⟩
  ·obtain rfl:k=l.length:=mOm;have hn:(l.length:Int) - 1 - (l.length:Int) = -1:=mOm;rw [hn];clear hn;go_wp2_with fail
   go_end0
   exact ⟨⟨_,rfl⟩,.inl HI.out⟩
def fP:ByteArray:=dgB (du [⟨#[5]⟩])
def lz (n:Nat) (top:ByteArray):ByteArray:=dgB (du [⟨#[6]⟩,⟨(be8 n).toArray⟩,top])
def nw (L:List Blk):ByteArray:=gp be fP L.reverse
theorem CO (nd:ByteArray→ByteArray→ByteArray) (e:ByteArray) (st:List Blk) (x:Blk) (h:st ≠ []):gp nd e (st++[x])=nd x.d (gp nd e st):=by
 cases st with
 | nil=>exact absurd rfl h
 | cons a st=>show (st++[x]).foldl _ _=_;rw [fm];rfl
theorem Jn {w:World} {v:Value} {L:List Blk} (h:LK m7 w v L):LK bL w v (L.map Bk.d):=by
 have e:br bL (L.map Bk.d)=br m7 L:=by unfold br;rw [List.flatMap_map];rfl
 obtain ⟨p,c,rfl,h1,h2,h3⟩:=h;refine ⟨p,c,by rw [aX],by rw [aX];exact h1,h2,fun hl=>?_⟩;rw [aX] at hl;obtain ⟨b,o,hp,hb,hx⟩:=h3 hl;exact ⟨b,o,hp,hb,fun j u hj=>hx j u (by rw [← e];exact hj)⟩
structure RtI (fb fx tb:Nat) (bv dv:Value) (L:List Blk) (w:World) (k:Nat) (W:World):Prop where
 top:W.heap[tb]? = JV (JU #[JQ (gp be fP (L.reverse.take k))] 9 (0,0))
 box:W.heap[fx]? = JV (JU #[JS (JV ⟨fb,0,JW⟩)] 288 (0,0))
 at_:LZ fb bv dv L W
 low:ac w.heap.size w W
theorem It {L:List Blk} {k:Nat} (hk:k < L.length):∃ x,L.reverse[k]? = JV x∧(L.map Bk.d).getD (L.length - 1 - k) ⟨#[]⟩=x.d:=by
 have hk2:L.length - 1 - k < L.length:=mOm;refine ⟨L[L.length - 1 - k],?_,?_⟩
 ·rw [List.getElem?_reverse hk,ai hk2]
 ·rw [bi,fo,ai hk2];rfl
theorem Gg {L:List Blk} {k:Nat} {x:Blk} (h:L.reverse[k]? = JV x):gp be fP (L.reverse.take (k+1))=if k=0 then x.d else be x.d (gp be fP (L.reverse.take k)):=by
 have hl:=(ap.1 h).1;have e:L.reverse.take (k+1)=L.reverse.take k++[x]:=by rw [aL,h];rfl
 rw [e];by_cases h0:k=0
 ·subst h0;rfl
 ·rw [if_neg h0,CO];intro e2;have:=congrArg gT e2;rw [aM] at this;simp only [cu] at this;omega
theorem RtI.step {fb fx tb sb:Nat} {bv dv:Value} {L:List Blk} {w w1:World} {k:Nat} {W W5:World} {t:ByteArray} (h:RtI fb fx tb bv dv L w k W) (hb:ac W.heap.size W W5) (ht:t=gp be fP (L.reverse.take (k+1))) (hfx:fx ≠ tb) (hw:w.heap.size≤tb) (hsb:sb ≠ tb) (hdl:∀ q,dv.ownBlock=JV q→q ≠ tb) (hbl:∀ q,bv.ownBlock=JV q→q ≠ tb) (hft:fb ≠ tb) (hK:Ba sb dv w1 k W) (N0 N1:Nat) (hN:tb < N0) (hN1:N1≤W.heap.size) :
  RtI fb fx tb bv dv L w (k+1) (W5.setCell ⟨tb,0,JW⟩ (JQ t))∧Ba sb dv w1 k (W5.setCell ⟨tb,0,JW⟩ (JQ t))∧L5 W (W5.setCell ⟨tb,0,JW⟩ (JQ t))∧∀ g,N0≤g→g < N1→(W5.setCell ⟨tb,0,JW⟩ (JQ t)).heap[g]? = W.heap[g]?:=by
 have hset:=LM.set (S:=fun q=>q=tb) W5 rfl 0 (JQ t);have ht5:=hb.heap_of h.top;have hF5:=h.at_.below hb;refine ⟨⟨?_,?_,hF5.buts hset (fun e=>hft e) (fun q hq e=>hbl q hq e) (fun q hq e=>hdl q hq e),(ah h.low hb).trans (hset.below (fun q hq e=>by omega) (ah h.low hb).size)⟩,⟨?_,fun b hbq=>?_⟩,?_,fun g hg hg2=>?_⟩
 ·have:=bp ht5 0 (JQ t);rw [this,ht];rfl
 ·rw [de (Ne.symm hfx)];exact hb.heap_of h.box
 ·rw [de (Ne.symm hsb)];exact hb.heap_of hK.1
 ·rw [de (Ne.symm (hdl b hbq))];have hb3:b < W.heap.size:=(h.at_.ds.lt b hbq).2;exact (hb.block b hb3).trans (hK.2 b hbq)
 ·refine (L5.of hb).trans (hset.nc (fun q o e ho=>?_));subst e;rw [ht5] at ho;obtain rfl:=Option.some.inj ho;rfl
 ·rw [de mOm];exact hb.block g mOm
theorem F4 (fb n:Nat) (bv dv:Value) (L:List Blk) (w:World) (hF:LZ fb bv dv L w) (hn:n≤1099511627776) :
  Calls prog 248 #[JS (JV ⟨fb,0,JW⟩),JO JP n] w fun e w'=>e=JT (JQ (lz n (nw L)))∧ac w.heap.size w w':=by
 have hfl:=aU hF.box;have HF:=aa hF;refine (callsIn_wide (n:=4)).1 ?_;refine callsIn_of_wp_marks func248 rfl trivial ?_ rfl;refine wpIn_wide.2 ?_;simp only [ntmps248,dz,bA,cu,Nat.reduceAdd,Nat.reduceSub,Array.replicate_succ,Array.replicate_zero,List.push_toArray,List.append_toArray,dt,eJ];clear hF;go_wp2_with fail
 refine (pM (w.heap.size+1) 1 [⟨#[5]⟩] 1 rfl mOm _ (nk (by have h:=heap_alloc_new (w.alloc (JU #[JS (JV ⟨fb,0,JW⟩)] 288)) (JU #[JQ ⟨#[5]⟩] 9);rw [World.size_alloc] at h;exact h) _ rfl (by
  intro z hz;obtain rfl:z=⟨#[5]⟩:=by simpa using hz
  decide))).mono ?_
 rintro _ w1 ⟨rfl,hb1⟩
 have hbw1:ac w.heap.size w w1:=((al w _).alloc mSi _).trans (hb1.mono (by simp;omega));have hfx1:w1.heap[w.heap.size]? = JV (JU #[JS (JV ⟨fb,0,JW⟩)] 288 (0,0)):=hb1.heap_of ((al _ _).heap_of (heap_alloc_new w _));have hsz1:=aU hfx1;obtain ⟨W2,hW2⟩:∃ W2,w1.alloc (JU #[JQ (dgB (du [⟨#[5]⟩]))] 9)=W2:=⟨_,rfl⟩;have hb2:ac w1.heap.size w1 W2:=by rw [← hW2];exact al _ _
 have htb:W2.heap[w1.heap.size]? = JV (JU #[JQ (dgB (du [⟨#[5]⟩]))] 9 (0,0)):=by rw [← hW2];exact heap_alloc_new w1 _
 have hz2:W2.heap.size=w1.heap.size+1:=by rw [← hW2];simp
 have hfx2:=hb2.heap_of hfx1;have hF2:=(HF.out.below hbw1).below hb2;have cf:=ae hfx2 0;have cd:=ae hF2.box 1;obtain ⟨pd,cdv,hdv⟩:=eI hF2.ds;subst hdv;have hW2b:=ah hbw1 hb2;have HF2:=aa hF2;clear hF2 hb1 hbw1 hfx1;go_wp2_with fail;clear hW2;refine (xL _ pd L.length cdv rfl W2).mono ?_;rintro _ w3 ⟨rfl,hw3⟩;go_wp2_with fail;have hFw:=HF2.out;have hdw:∀ q,(Value.slice pd L.length cdv).ownBlock=JV q→q < w.heap.size:=fun q hq=>(HF.out.ds.lt q hq).2
 have hbw:∀ q,bv.ownBlock=JV q→q < w.heap.size:=fun q hq=>(HF.out.bs.lt q hq).2
 have hdl:∀ q,(Value.slice pd L.length cdv).ownBlock=JV q→q < W2.heap.size:=fun q hq=>(hFw.ds.lt q hq).2
 have hb3:ac W2.heap.size W2 w3:=by rw [hw3];exact al _ _
 have hsb:w3.heap[w1.heap.size+1]? = JV (JU #[JR pd L.length cdv] 37 (0,0)):=by rw [hw3,← hz2];exact heap_alloc_new W2 _
 have hz3:w3.heap.size=W2.heap.size+1:=by rw [hw3];simp
 have hml:(L.map Bk.d).length=L.length:=aX ..;have hF3:=hFw.below hb3;have hrow3:LK bL w3 (JR pd L.length cdv) (L.map Bk.d):=Jn (eH (enc:=m7) (k:=1) (fun _=>rfl) mDe hF3.ds);have hit:=wX (w1.heap.size+1) (JR pd L.length cdv) (L.map Bk.d) w3 (by rw [hml];have:=hFw.few;omega) hrow3;rw [hml] at hit;have hfx3:=hb3.heap_of hfx2;have htb3:=hb3.heap_of htb;have hwz:=hW2b.size;rw [← hw3];clear hw3
 refine rZ rfl (enters_of func290 mKr rfl) hit (fun _=>rfl) (fun k hk=>hk.elim)
  (fun k A B h hle hb=>⟨hb.heap h.1 mOm,fun b hbq=>(hb.block b (by have:=hdl b hbq;omega) (by have:=hdl b hbq;omega)).trans (h.2 b hbq)⟩) ⟨hsb,fun _ _=>rfl⟩
  (RtI fb w.heap.size w1.heap.size bv (JR pd L.length cdv) L w) (fun _ _=>False)
  ?hIs ?hXs ?hIp ?hXp ?hI0 (fun k _ a' _=>a'=⟨aq (JS (JV ⟨fb,0,JW⟩)::JO JP n::JS (JV ⟨w.heap.size,0,JW⟩)::undef::JQ ⟨#[]⟩::JS (JV ⟨w1.heap.size,0,JW⟩)::JO JP ((L.length - 1 - k:Nat):Int)::JQ ((L.map Bk.d).getD (L.length - 1 - k) ⟨#[]⟩)::JR (JV ⟨w.heap.size+1,0,JW⟩) 1 1::JQ (dgB (du [⟨#[5]⟩]))::JS (JV ⟨fb,0,JW⟩)::JS (JV ⟨fb,0,JW⟩)::JS (JV ⟨fb,1,JW⟩)::JR pd L.length cdv::.func (.func 290) #[] #[JS (JV ⟨w1.heap.size+1,0,JW⟩)]::JO JP ((L.length - 1 - k:Nat):Int)::JQ ((L.map Bk.d).getD (L.length - 1 - k) ⟨#[]⟩)::undef::undef::undef::undef::undef::undef::undef::undef::undef::undef::undef::undef::undef::undef::undef::undef::undef::undef::[]),[]⟩) ?hBp ?hassign ?hbody ?hdone ?hstop
 case hIs =>
  rintro k A B h hb;have hb2:ac A.heap.size A B:=hb.below (fun _ _=>id) (aD _);exact ⟨hb2.heap_of h.top,hb2.heap_of h.box,h.at_.below hb2,ah h.low hb2⟩
 case hXs=>exact fun _ _ _ h _=>h
 case hIp =>
  rintro k A l r r' hle hl h;have hb:=nq A l (.loop r');refine ⟨hb.heap h.top mOm,hb.heap h.box mOm,h.at_.buts hb (fun e=>?_) (fun q hq e=>?_) (fun q hq e=>?_),h.low.trans (hb.below (fun q hq e=>by omega) h.low.size)⟩
  ·have hx:=h.at_.box;rw [e,hl] at hx;cases hx
  ·subst e;obtain ⟨o,ho,hc⟩:=h.at_.nc (.inr (.inl hq));rw [hl] at ho;obtain rfl:=Option.some.inj ho;cases hc
  ·subst e;obtain ⟨o,ho,hc⟩:=h.at_.nc (.inr (.inr hq));rw [hl] at ho;obtain rfl:=Option.some.inj ho;cases hc
 case hXp=>exact fun _ _ _ _ _ _ _ h=>h
 case hI0=>exact ⟨htb3,hfx3,hF3,ah hW2b hb3⟩
 case hBp=>exact fun _ _ _ _ _ _ _ _ _ _ h=>h
 case hassign =>
  intro lp k W K hI hK;generalize (L.map Bk.d).getD (L.length - 1 - k) ⟨#[]⟩=dd at hK ⊢;generalize ((L.length - 1 - k:Nat):Int)=ii at hK ⊢
  gi_wp2
  exact hK _ _ rfl (LM.refl _ _)
 case hstop=>exact fun _ _ _ _ h _=>h.elim
 case hbody =>
  rintro lp k a' N1 W0 W hk hI0 ⟨r,hlr⟩ hlp hb hKp rfl hle hN0 hN1;have hIW:RtI fb w.heap.size w1.heap.size bv (JR pd L.length cdv) L w k W:=by
   have hb:=hb.mono (S2:=fun q=>q=lp) (fun q _ e=>e.resolve_left id);refine ⟨hb.heap hI0.top mOm,hb.heap hI0.box mOm,hI0.at_.buts hb (fun e=>?_) (fun q hq e=>?_) (fun q hq e=>?_),hI0.low.trans (hb.below (fun q hq e=>by omega) hI0.low.size)⟩
   ·have hx:=hI0.at_.box;rw [e,hlr] at hx;cases hx
   ·subst e;obtain ⟨o,ho,hc⟩:=hI0.at_.nc (.inr (.inl hq));rw [hlr] at ho;obtain rfl:=Option.some.inj ho;cases hc
   ·subst e;obtain ⟨o,ho,hc⟩:=hI0.at_.nc (.inr (.inr hq));rw [hlr] at ho;obtain rfl:=Option.some.inj ho;cases hc
  obtain ⟨x,hx,hxd⟩:=It hk
  rw [hxd];obtain ⟨q,hq⟩:∃ q:Nat,q=L.length - 1 - k:=⟨_,rfl⟩;rw [← hq];have hx8:=(hIW.at_.fit x (jo.1 (bP hx))).2.2.2;have ht8:(gp be fP (L.reverse.take k)).size=8:=by
   cases hst:L.reverse.take k with
   | nil=>rfl
   | cons a st =>
    have:∀ (st:List Blk) (d:ByteArray),d.size=8→(st.foldl (fun t y=>be y.d t) d).size=8:=by
     intro st
     induction st with
     | nil=>exact fun d h=>h
     | cons y st ih=>exact fun d _=>ih _ rfl
    exact this st a.d (hIW.at_.fit a (jo.1 (cT (by rw [hst];exact dw)))).2.2.2
  have htop:=Gg hx
  have fin:=fun (W5:World) (t:ByteArray) (hb5:ac W.heap.size W W5) (ht:t=gp be fP (L.reverse.take (k+1))) =>
   hIW.step (sb:=w1.heap.size+1) (w1:=w3) hb5 ht mOm mOm mOm (fun q hq=>by have:=hdw q hq;omega) (fun q hq=>by have:=hbw q hq;omega) mOm hKp W0.heap.size N1 mOm hN1
  have FIN:=aa fin
  have c1:=ae hIW.box 0;have c2:=ae hIW.at_.box 1;have c3:=ae hIW.top 0;have f3:=aE hIW.top 0;have a1:IntKind.i64.wrap ((L.length:Int) - 1)=(L.length:Int) - 1:=aF _ (by have:=hIW.at_.few;omega);have HQ:=aa hq;have HTP:=aa hIW.top;generalize gp be fP (L.reverse.take k)=tk at *;by_cases h0:k=0
  ·have t1:((q:Int)==(L.length:Int) - 1)=true:=by rw [beq_iff_eq];omega
   rw [if_pos h0] at htop;have HT:=aa htop;clear hq fin htop hIW hI0 hxd hx hKp
   gi_wp2
   exact FIN.out _ _ (Below.refl _ _) HT.out.symm
  ·have t1:((q:Int)==(L.length:Int) - 1)=false:=by rw [beq_eq_false_iff_ne];omega
   rw [if_neg h0] at htop;have HT:=aa htop;have ht9:tk.size≤100000000:=mOm;have hx9:x.d.size≤100000000:=mOm;clear hq fin htop hIW hI0 hxd hx hKp
   gi_wp2_with (refine ⟨trivial,?_⟩;gi_at_call 181;refine (CallsIn.inRound lp (callsIn_wide.2 (uB W.heap.size 3 x.d tk hx9 ht9 _ (heap_alloc_new W _)))).mono ?_;rintro _ w5 ⟨rfl,hb5⟩;have hb6:ac W.heap.size W w5:=(al W _).trans (hb5.mono mSi);have HB6:=aa hb6;have k5:=hb6.heap_of HTP.out;have c5:=ae k5 0;have f5:=aE k5 0;clear k5 hb6)
   exact FIN.out _ _ HB6.out HT.out.symm
 case hdone =>
  intro D W hD hI hDW;have ht:gp be fP (L.reverse.take L.length)=nw L:=by unfold nw;rw [dR mSi]
  have htop:=hI.top;rw [ht] at htop;have hTs:(nw L).size=8:=by
   unfold nw
   cases hst:L.reverse with
   | nil=>rfl
   | cons a st =>
    have:∀ (st:List Blk) (d:ByteArray),d.size=8→(st.foldl (fun t y=>be y.d t) d).size=8:=by
     intro st
     induction st with
     | nil=>exact fun d h=>h
     | cons y st ih=>exact fun d _=>ih _ rfl
    exact this st a.d (hI.at_.fit a (jo.1 (by rw [hst];exact dw))).2.2.2
  have HLOW:=aa hI.low
  generalize hTe:nw L=T at *;have HTE:=aa hTe;clear hTe;have ctop:=ae htop 0;have hS0:ac W.heap.size W W.drew∧W.drew.cell? ⟨w1.heap.size,0,JW⟩=JV (JQ T):=⟨(Below.refl _ _).drew,ctop⟩;have keepS:∀ w',ac W.heap.size W w'→ac W.heap.size W w'∧w'.cell? ⟨w1.heap.size,0,JW⟩=JV (JQ T):=fun w' hb=>⟨hb,(hb.cell (p:=⟨w1.heap.size,0,JW⟩) (aU htop)).trans ctop⟩
  clear hI ht htop cf cd hfx2 hfx3 htb htb3 hsb hFw hF3 hrow3 hit
  go_upto_region 8 with fail
  refine Jy (S:=fun w'=>ac W.heap.size W w'∧w'.cell? ⟨w1.heap.size,0,JW⟩=JV (JQ T)) [(0,true),(2,true),(1,false),(3,false),(4,false),(5,true)] hS0 ?_;have hS:=hS0
  iterate 2 refine aj ?_
  refine aH 182 call182 (jh n mOm _) ?_;rintro x wn ⟨rfl,hb⟩;replace hS:=(fun hS hb=>keepS _ (ah hS.1 hb)) hS hb;refine ⟨_,rfl,hS,?_⟩;(try clear hb);refine ar ?_;obtain ⟨wq,hwq⟩:∃ wq,wn=wq:=⟨_,rfl⟩;subst hwq;refine lV ⟨_,_,_,_,_,_⟩ (.slice (some ⟨wn.heap.size,0,none⟩) 3 3) (wn.alloc (.cells #[.string ⟨#[6]⟩,.string ⟨(be8 n).toArray⟩,.string T] 9)) rfl mRf (by go_simp) (keepS _ (ah hS.1 (al _ _))) ?_;have hbq:=ah hS.1 (al wn (.cells #[.string ⟨#[6]⟩,.string ⟨(be8 n).toArray⟩,.string T] 9));replace hS:=keepS _ hbq;refine ar ?_;refine aH 181 call181 (pM wn.heap.size 3 [⟨#[6]⟩,⟨(be8 n).toArray⟩,T] 3 rfl mOm _ (nk (heap_alloc_new wn _) _ rfl (by intro z hz;simp only [cR,et,or_false] at hz;rcases hz with rfl | rfl | rfl;decide;exact (by decide:(8:Nat)≤100000000);omega))) ?_;rintro e wm ⟨rfl,hb⟩;replace hS:=keepS wm (ah hS.1 hb);refine ⟨_,rfl,hS,?_⟩;refine ar ?_;refine aj ?_;simp only [aO,bj];have HS:=aa hS.1;clear hS hS0 keepS;go_wp2_with fail;have hD2:=HS.out.heap_of hDW;have hz:=HLOW.out.size;refine re D _ hD2 fun w' hw'=>⟨.string (lz n T),?_,by rw [HTE.out],(ah HLOW.out HS.out).trans (hw'.below (fun q hq e=>by omega) (ah HLOW.out HS.out).size)⟩
  simp [results,results248,lz]
end
section
open Go Go.Proofs Go.RowKit Go.Sort Go.Lib
def bU (a b:ByteArray):Int:=fT a.data.toList b.data.toList
def eL (l:List ByteArray):Prop:=∀ i a b,l[i]? = JV a→l[i+1]? = JV b→bU a b < 0
theorem CI (l:List ByteArray) (p:Option Addr) (c:Nat) (w:World) (hl:LK bL w (JR p l.length c) l) (hn:l.length≤1000000) :
  Calls prog 215 #[JR p l.length c] w fun e w'=>∃ t:Bool,e=JT (.bool t)∧(t=true↔eL l)∧ac w.heap.size w w':=by
 have HL:=aa hl;clear hl;go_enter func215,ntmps215;go_wp2_with fail
 go_loopw [6] (fun i wr=>∃ k:Nat,k≤l.length∧i=JO JP k∧Hid (∀ i a b,i+1 < k→l[i]? = JV a→l[i+1]? = JV b→bU a b < 0)∧ac w.heap.size w wr) (fun i _=>l.length - (aw i).toNat)
 case atStart=>exact ⟨0,aR _,rfl,aa (fun i a b h=>absurd h mOm),Below.refl _ _⟩
 case round =>
  obtain ⟨k,hk,rfl,HI,hb⟩:=hrel;by_cases hlt:k < l.length
  ·obtain ⟨b,o,rfl,hbl,hcv⟩:=eO HL.out rfl mOm;have i1:(k:Int) < (l.length:Int):=mOm;have hg1:=ai hlt;by_cases h0:k=0
   ·subst h0;have hS0:ac w.heap.size w wr.drew:=hb.trans ((Below.refl _ wr).drew.mono hb.size);have HN:Hid (∀ i a b,i+1 < 0+1→l[i]? = JV a→l[i+1]? = JV b→bU a b < 0):=aa (fun i a b h=>absurd h mOm);clear hcv hg1
    go_upto_region 4 with fail
    refine Jy (S:=fun w'=>ac w.heap.size w w') [(0,true),(1,true),(2,true),(3,true),(4,true),(5,true),(6,true),(7,true),(8,true),(9,true),(10,true),(11,true),(12,false),(13,true),(14,true)] hS0 ?_;have hS:=hS0
    iterate 12 (first | refine aj ?_ | refine cN ?_)
    refine gC ⟨_,_,_,_,_,_⟩ rfl mRf hS ?_;refine ar ?_
    iterate 2 (first | refine aj ?_ | refine cN ?_)
    simp only [aO,bj];have hS1:=aa hS;clear hS hS0 hb;go_wp2_with fail
    go_roundw
    case rel=>exact ⟨0+1,mOm,by go_num,HN,hS1.out⟩
    case measure=>simp [aw];omega
   ·obtain ⟨j,rfl⟩:∃ j,k=j+1:=⟨k - 1,mOm⟩;have hg0:=ai (show j < l.length by omega);have c0:=(hb.cell (p:=⟨b,o+j,JW⟩) hbl).trans (hcv j _ hg0);have c1:=(hb.cell (p:=⟨b,o+(j+1),JW⟩) hbl).trans (hcv (j+1) _ hg1);have HG:=aa (And.intro hg0 hg1);generalize l[j]=x at *;generalize l[j+1]=y at *;have i0:(0:Int) < ((j+1:Nat):Int):=mOm;have i2:(j:Int) < (l.length:Int):=mOm;have i3:(0:Int)≤(j:Int):=mOm;have i4:(0:Int)≤(j:Int)+1:=mOm;have i5:(j:Int)+1 < (l.length:Int):=mOm;have a1:IntKind.i64.wrap (j:Int)=(j:Int):=eR _ _ rfl mOm;have S2:=aa hb.size;have keepS:∀ {u v:World},(ac w.heap.size w u∧u.cell? ⟨b,o+j,JW⟩=JV (JQ x)∧u.cell? ⟨b,o+(j+1),JW⟩=JV (JQ y))→ac u.heap.size u v→(ac w.heap.size w v∧v.cell? ⟨b,o+j,JW⟩=JV (JQ x)∧v.cell? ⟨b,o+(j+1),JW⟩=JV (JQ y)):=fun h hb=>⟨ah h.1 hb,(hb.cell (p:=⟨b,o+j,JW⟩) (am _ _ h.2.1)).trans h.2.1,(hb.cell (p:=⟨b,o+(j+1),JW⟩) (am _ _ h.2.2)).trans h.2.2⟩
    have hS0:ac w.heap.size w wr.drew∧wr.drew.cell? ⟨b,o+j,JW⟩=JV (JQ x)∧wr.drew.cell? ⟨b,o+(j+1),JW⟩=JV (JQ y):=keepS ⟨hb,c0,c1⟩ (Below.refl _ wr).drew;have HC:Hid (fT x.data.toList y.data.toList=bU x y):=aa rfl;clear hcv hg0 hg1
    go_upto_region 4 with fail
    refine Jy (S:=fun w'=>ac w.heap.size w w'∧w'.cell? ⟨b,o+j,JW⟩=JV (JQ x)∧w'.cell? ⟨b,o+(j+1),JW⟩=JV (JQ y)) [(0,true),(1,true),(2,true),(3,true),(4,true),(5,true),(6,true),(7,true),(8,true),(9,true),(10,true),(11,true),(12,false),(13,true),(14,true)] hS0 ?_;have hS:=hS0
    iterate 12 refine aj ?_
    refine aH 249 call249 (Tryz.strings_Compare x y _) ?_;rintro x wn ⟨rfl,rfl⟩;refine ⟨_,rfl,hS,?_⟩;refine ar ?_
    iterate 2 refine aj ?_
    simp only [aO,bj];have hS1:=aa hS.1;clear hS hS0 hb keepS c0 c1;by_cases hc:bU x y < 0
    ·have t1:¬ (0:Int)≤fT x.data.toList y.data.toList:=by have:=HC.out;omega
     have HN:Hid (∀ i a b,i+1 < j+1+1→l[i]? = JV a→l[i+1]? = JV b→bU a b < 0):=aa (fun i a b h ha hb=>by
      by_cases e:i=j
      ·subst e;rw [HG.out.1] at ha;rw [HG.out.2] at hb;obtain rfl:=Option.some.inj ha;obtain rfl:=Option.some.inj hb;exact hc
      ·exact HI.out i a b mOm ha hb)
     clear hc
     go_wp2_with fail
     go_roundw
     case rel=>exact ⟨j+1+1,mOm,by go_num,HN,hS1.out⟩
     case measure=>simp [aw];omega
    ·have t1:(0:Int)≤fT x.data.toList y.data.toList:=by have:=HC.out;omega
     have HN:Hid (¬ eL l):=aa (fun h=>hc (h j x y HG.out.1 HG.out.2));clear hc;go_wp2_with fail;go_ret;exact ⟨false,rfl,⟨fun e=>(by cases e),fun h=>absurd h HN.out⟩,hS1.out⟩
  ·obtain rfl:k=l.length:=mOm;go_wp2_with fail;go_ret;exact ⟨true,rfl,⟨fun _=>fun i a b ha hb=>HI.out i a b (ap.1 hb).1 ha hb,fun _=>rfl⟩,hb⟩
end
section
open Go Go.Proofs Go.RowKit Go.Sort Go.Lib
def ic (P:Prop) (w:World) (e:Ending) (w':World):Prop:=∃ t:Bool,e=JT (.bool t)∧(t=true↔P)∧ac w.heap.size w w'
def nz (n i:Nat) (leaves proof:List ByteArray):List Blk:=bZ (bY 0 i) proof++dZ i leaves++bZ (bY (i+leaves.length) n) (proof.drop (bY 0 i).length)
def mB (n i:Nat) (leaves proof:List ByteArray):ByteArray:=lz n (nw (dO be [] (nz n i leaves proof)).reverse)
def gP (root:ByteArray) (n i:Int) (leaves proof:List ByteArray):Prop:=
 (0≤n∧n≤1099511627776∧0≤i∧i≤n∧(leaves.length:Int)≤n - i)∧(∀ s∈proof,s.size=8)∧proof.length=(bY 0 i.toNat).length+(bY (i.toNat+leaves.length) n.toNat).length∧root=mB n.toNat i.toNat leaves proof
theorem verify_ok {pr:List ByteArray} {a b:Nat}:(okK pr a∧okK (pr.drop a) b∧(pr.drop a).drop b=[])↔((∀ s∈pr,s.size=8)∧pr.length=a+b):=by
 constructor
 ·rintro ⟨⟨h1,h2⟩,⟨h3,h4⟩,h5⟩;have hl:pr.length=a+b:=by
   have:=congrArg gT h5;simp only [bF,cu] at this h3;omega
  refine ⟨fun s hs=>?_,hl⟩
  rw [← List.take_append_drop a pr,bN] at hs;rcases hs with hs | hs
  ·exact h2 s hs
  ·exact h4 s (by rw [dR (by rw [bF];omega)];exact hs)
 ·rintro ⟨h1,h2⟩;refine ⟨⟨mOm,fun s hs=>h1 s (cT hs)⟩,⟨by rw [bF];omega,fun s hs=>h1 s (List.mem_of_mem_drop (cT hs))⟩,?_⟩;rw [jv,List.drop_eq_nil_of_le mOm]
theorem gq (j:Nat):∀ f i,j - i≤f→(bY i j).length≤j - i
 | 0,i,h=>by rw [iM mOm];exact aR _
 | f+1,i,h=>by
  by_cases hij:i < j
  ·have hb:=jx hij;have:=gq j f (i+gg i j) mOm;rw [kR hij,bA];omega
  ·rw [iM hij];exact aR _
theorem pj (l:List (Nat×Nat)) (d:List ByteArray):(bZ l d).length≤l.length:=by unfold bZ;simp;omega
theorem jH {p:Prop} (h:p:=by
 go_wp2_with fail;go_ret
 exact ⟨false,rfl,⟨fun e=>(by cases e),fun hv=>absurd hv.1 HN.out⟩,Below.refl _ _⟩):p:=h
theorem CQ (root:ByteArray) (n i:Int) (leaves proof:List ByteArray) (p1 p2:Option Addr) (c1 c2:Nat) (w:World) (i1:I64 n) (i2:I64 i) (hn:n≤5000) (hl:LK bL w (JR p1 leaves.length c1) leaves) (hz:∀ s∈leaves,s.size≤100000000) (hp:LK bL w (JR p2 proof.length c2) proof) :
  Calls prog 214 #[JQ root,JO JP n,JO JP i,JR p1 leaves.length c1,JR p2 proof.length c2] w (ic (gP root n i leaves proof) w):=by
 have HL:=aa hl;have HP:=aa hp;have HZ:=aa hz;clear hl hp hz;go_enter func214,ntmps214;by_cases q1:n < 0
 ·have HN:Hid (¬ (0≤n∧n≤1099511627776∧0≤i∧i≤n∧(leaves.length:Int)≤n - i)):=aa mOm;exact jH
 have q2:¬ (1099511627776:Int) < n:=mOm
 by_cases q3:i < 0
 ·have HN:Hid (¬ (0≤n∧n≤1099511627776∧0≤i∧i≤n∧(leaves.length:Int)≤n - i)):=aa mOm;exact jH
 by_cases q4:n < i
 ·have HN:Hid (¬ (0≤n∧n≤1099511627776∧0≤i∧i≤n∧(leaves.length:Int)≤n - i)):=aa mOm;exact jH
 obtain ⟨m,rfl⟩:∃ m:Nat,n=m:=⟨n.toNat,mOm⟩
 obtain ⟨k,rfl⟩:∃ k:Nat,i=k:=⟨i.toNat,mOm⟩;have a1:IntKind.i64.wrap ((m:Int) - (k:Int))=(m:Int) - (k:Int):=aF _ mOm;by_cases q5:(m:Int) - (k:Int) < (leaves.length:Int)
 ·have HN:Hid (¬ (0≤(m:Int)∧(m:Int)≤1099511627776∧0≤(k:Int)∧(k:Int)≤(m:Int)∧(leaves.length:Int)≤(m:Int) - (k:Int))):=aa mOm;exact jH
 clear i1 i2
 have a2:IntKind.i64.wrap ((k:Int)+(leaves.length:Int))=((k+leaves.length:Nat):Int):=eR _ _ mOm mOm;have hb0:ac w.heap.size w (w.alloc (JU #[JR JW 0 0,JR JW 0 0] 264)):=al w _;have hF0:LZ w.heap.size (JR JW 0 0) (JR JW 0 0) [] (w.alloc (JU #[JR JW 0 0,JR JW 0 0] 264)):=
  ⟨heap_alloc_new w _,dK _ _ _ _,dK _ _ _ _,aR _,fun x hx=>(by cases hx)⟩
 have hl0:=gq k k 0 mOm
 have hl1:=gq m (m - (k+leaves.length)) (k+leaves.length) mOm;have hw0:=pj (bY 0 k) proof;have k1:=wC w.heap.size 0 k (.slice none 0 0) (.slice none 0 0) [] proof p2 c2 w (w.alloc (.cells #[.slice none 0 0,.slice none 0 0] 264)) mOm mOm hF0 (by simp only [cu];omega) HP.out (aD _) hb0;rw [show ((0:Nat):Int)=0 from rfl] at k1;clear hF0;go_wp2_with fail;refine k1.mono ?_;clear k1;rintro _ w1 ⟨v,t,rfl,(⟨rfl,g1,g2,g3⟩ | ⟨rfl,g1,g2⟩)⟩
 rotate_left 1
 ·have hb1:ac w.heap.size w w1:=hb0.trans (g2.below (fun q hq e=>by rcases e with e | e | e;omega;cases e;cases e) mSi);have HN:Hid (¬ gP root m k leaves proof):=aa (fun hv=>g1 (verify_ok.2 ⟨hv.2.1,by simpa using hv.2.2.1⟩).1);clear g1 g2;go_wp2_with fail;go_ret;exact ⟨false,rfl,⟨fun e=>(by cases e),fun hv=>absurd hv HN.out⟩,hb1⟩
 obtain ⟨R,hR⟩:∃ R,List.drop (bY 0 k).length proof=R:=⟨_,rfl⟩
 rw [hR] at g2;obtain ⟨pr,cr,rfl,_⟩:=g2.form;have HR:=aa hR;clear hR;obtain ⟨⟨b1,d1,F1,e1,e2⟩,g4⟩:=g3;have hb1:ac w.heap.size w w1:=hb0.trans (g4.below (fun q hq e=>by rcases e with e | e | e;omega;cases e;cases e) mSi);have lo1:∀ q,fR w.heap.size b1 d1 q→w.heap.size≤q:=fun q hq=>(pI F1 hq).1
 obtain ⟨L1,hL1⟩:∃ L1,(dO be ([]:List Blk).reverse (bZ (bY 0 k) proof)).reverse=L1:=⟨_,rfl⟩;have hlen1:L1.length≤k:=by rw [← hL1,eT];have:=lx be (bZ (bY 0 k) proof) ([]:List Blk).reverse;rw [eT] at this;simp only [cu] at this;omega
 rw [hL1] at F1
 have k2:=Cj w.heap.size k b1 d1 L1 leaves p1 c1 w w1 F1 mOm mOm HL.out HZ.out (aD _) hb1;have G1:=aa g1;have G2:=aa g2;clear g1 g2 g4 e1 e2 F1;go_wp2_with fail;refine k2.mono ?_;clear k2;rintro _ w2 ⟨⟨ve,rfl⟩,⟨⟨b2,d2,F2,-,-⟩,g5⟩⟩;have hb2:ac w.heap.size w w2:=hb1.trans (g5.below (fun q hq e=>by have:=lo1 q e;omega) hb1.size);obtain ⟨L2,hL2⟩:∃ L2,(dO be L1.reverse (dZ k leaves)).reverse=L2:=⟨_,rfl⟩;have hlen2:L2.length≤k+leaves.length:=by
  rw [← hL2,eT];have:=lx be (dZ k leaves) L1.reverse;have hll:(dZ k leaves).length=leaves.length:=by unfold dZ;rw [List.length_mapIdx]
  rw [eT] at this;omega
 rw [hL2] at F2
 have lo2:∀ q,fR w.heap.size b2 d2 q→w.heap.size≤q:=fun q hq=>(pI F2 hq).1
 have k3:=wC w.heap.size (k+leaves.length) m b2 d2 L2 R pr cr w w2 mOm mOm F2 mOm G2.out (aD _) hb2;rw [show ((k+leaves.length:Nat):Int)=(k:Int)+(leaves.length:Int) from by push_cast;rfl] at k3;have hwl:=pj (bY (k+leaves.length) m) R;clear F2 g5;go_wp2_with fail;refine k3.mono ?_;clear k3
 have hdec:∀ (a b:Nat),a=(bY 0 k).length→b=(bY (k+leaves.length) m).length→(gP root m k leaves proof↔(okK proof a∧okK R b∧R.drop b=[])∧root=mB m k leaves proof):=fun a b ha hb=>by
  subst ha;subst hb;have hv:=verify_ok (pr:=proof) (a:=(bY 0 k).length) (b:=(bY (k+leaves.length) m).length);rw [HR.out] at hv;unfold gP;rw [hv,cm,cm];exact ⟨fun h=>⟨⟨h.2.1,h.2.2.1⟩,h.2.2.2⟩,fun h=>⟨⟨mOm,mOm,mOm,mOm,mOm⟩,h.1.1,h.1.2,h.2⟩⟩
 have HD:=aa (hdec _ _ rfl rfl)
 clear hdec;rintro _ w3 ⟨v3,t3,rfl,(⟨rfl,g6,g7,⟨⟨b3,d3,F3,-,-⟩,g8⟩⟩ | ⟨rfl,g6,g7⟩)⟩
 rotate_left 1
 ·have hb3:ac w.heap.size w w3:=hb2.trans (g7.below (fun q hq e=>by have:=lo2 q e;omega) hb2.size);have HN:Hid (¬ gP root m k leaves proof):=aa (fun hv=>g6 (HD.out.1 hv).1.2.1);clear g6 g7;go_wp2_with fail;go_ret;exact ⟨false,rfl,⟨fun e=>(by cases e),fun hv=>absurd hv HN.out⟩,hb3⟩
 obtain ⟨R2,hR2⟩:∃ R2,List.drop (bY (k+leaves.length) m).length R=R2:=⟨_,rfl⟩
 rw [hR2] at g7;obtain ⟨p3,c3,rfl,_⟩:=g7.form;have hb3:ac w.heap.size w w3:=hb2.trans (g8.below (fun q hq e=>by have:=lo2 q e;omega) hb2.size);have HR2:=aa hR2;have H6:=aa g6;have HF3:=aa F3;clear hR2 g6 g7 g8 F3
 cases R2 with
 | cons x R3 =>
  have HN:Hid (¬ gP root m k leaves proof):=aa (fun hv=>by have:=(HD.out.1 hv).1.2.2;rw [HR2.out] at this;cases this);have hne:(((x::R3).length:Nat):Int) ≠ 0:=by simp;omega
  have t1:((((x::R3).length:Nat):Int)==0)=false:=by rw [beq_eq_false_iff_ne];exact hne
  generalize (x::R3).length=len at *;go_wp2_with fail;go_ret;exact ⟨false,rfl,⟨fun e=>(by cases e),fun hv=>absurd hv HN.out⟩,hb3⟩
 | nil =>
  have hled:lz m (nw (dO be L2.reverse (bZ (bY (k+leaves.length) m) R)).reverse)=mB m k leaves proof:=by unfold mB nz dO;rw [fm,fm,HR.out,← hL2,← hL1];unfold dO;rw [dT,dT];rfl
  have hvs:gP root m k leaves proof↔root=mB m k leaves proof:=by
   rw [HD.out];exact ⟨fun h=>h.2,fun h=>⟨⟨G1.out,H6.out,HR2.out⟩,h⟩⟩
  have HV:=aa hvs
  have HL3:=aa hled;clear hvs hled;have kr:=F4 w.heap.size m b3 d3 _ w3 HF3.out mOm;generalize lz m (nw (dO be L2.reverse (bZ (bY (k+leaves.length) m) R)).reverse)=rr at kr HL3;go_wp2_with fail;refine kr.mono ?_;clear kr;rintro _ w4 ⟨rfl,hb4⟩;have hb5:=ah hb3 hb4;clear hb3 hb4;by_cases heq:rr=root
  ·subst heq;go_wp2_with fail;go_ret;exact ⟨true,rfl,⟨fun _=>HV.out.2 HL3.out,fun _=>rfl⟩,hb5⟩
  ·have HE:=aa heq;have te:(rr.toList==root.toList)=false:=by rw [beq_eq_false_iff_ne];exact fun h=>heq (ba_toList.1 h)
   go_wp2_with fail;go_ret;exact ⟨false,rfl,⟨fun e=>(by cases e),fun hv=>absurd ((HV.out.1 hv).trans HL3.out.symm).symm HE.out⟩,hb5⟩
end
section
open Go Go.Proofs Go.RowKit Go.Sort Go.Lib
def fQ (x:Blk):List Value:=[JO JP x.b,JO JP x.s,JQ x.d]
theorem vJ:RowT prog fQ 3 278 247 where
 len _:=rfl
 one x u hu:=by simp [fQ] at hu;rcases hu with rfl | rfl | rfl <;> rfl
 pos:=mDe
 und:=underlying247
 info:=by
  obtain ⟨i0,hi,h1,h2,h3⟩:=info_parts (show (prog.info? 278).map (fun i=>(i.zero,i.size,i.bytes))=JV (JV (.agg #[JO JP 0,JO JP 0,JQ ⟨#[]⟩]),3,32) by kernel_rfl);exact ⟨i0,_,hi,h1,h2,rfl,mOm⟩
def fp (l:List (Nat×Nat)):List Blk:=l.map fun x=>⟨x.1,x.2,⟨#[]⟩⟩
theorem kH (i j:Nat) (hij:i≤j) (hj:j≤1000000) (w:World) :
  Calls prog 227 #[JO JP i,JO JP j] w fun e w'=>∃ v,e=JT v∧w'.ownsRow w.heap.size 278 3 v (fp (bY i j)).length (br fQ (fp (bY i j)))∧ac w.heap.size w w':=by
 have HEND:=aa (sS j j i mOm hij);have HAT:=aa (fun k=>rQ j k i);have hlen:=gq j (j - i) i (aD _);generalize hL:bY i j=L at *;clear hL;go_enter func227,ntmps227;go_wp2_with fail
 go_loopg [0,5] L.length (fun r x v wr=>∃ k,k+r=L.length∧x=JO JP (iT i j k)∧(∃ p c,v=JR p k c)∧wr.ownsRow w.heap.size 278 3 v k (br fQ (fp (L.take k)))∧ac w.heap.size w wr)
 case atStart=>exact ⟨0,bM _,rfl,⟨_,_,rfl⟩,dK _ _ _ _,Below.refl _ _⟩
 case round =>
  obtain ⟨k,hk,rfl,⟨pv,cv,rfl⟩,hown,hb⟩:=hrel;by_cases hlt:k < L.length
  ·obtain ⟨hp,hget⟩:=HAT.out k hlt;have hbn:iT i j (k+1)=iT i j k+gg (iT i j k) j:=rfl;have HBN:=aa hbn;clear hbn;generalize iT i j k=p at *;have hp':(p:Int) < (j:Int):=mOm;have hb0:=jx hp;have HG:=aa (show ig p j 64 (2 ^ 0)=gg p j from rfl);have HZ0:=aa hget;clear hget;generalize gg p j=z at *;have HOWN:=aa hown;clear hown;go_wp2_with fail
   go_loopg [6] 64 (fun f x w2=>∃ s t:Nat,x=JO JP s∧t+f=64∧Hid (s=2 ^ t∧ig p j f s=z)∧(p+s≤j∧1≤s)∧w2=wr)
   case atStart=>exact ⟨1,0,rfl,rfl,aa ⟨rfl,HG.out⟩,mOm,rfl⟩
   case round =>
    obtain ⟨s,t,rfl,htf,HS,⟨hs1,hs2⟩,rfl⟩:=hrel;have a1:IntKind.i64.wrap (2*(s:Int))=2*(s:Int):=aF _ mOm;have a3:IntKind.i64.wrap ((p:Int)+2*(s:Int))=(p:Int)+2*(s:Int):=aF _ mOm;have a5:IntKind.i64.wrap ((p:Int)+(s:Int))=((p+s:Nat):Int):=eR _ _ rfl mOm
    have HN:Hid (∀ f,gk=f+1→p%(2*s)=0→p+2*s≤j→2*s=2 ^ (t+1)∧ig p j f (2*s)=z):=aa (fun f hf e1 e2=>⟨by rw [HS.out.1,Nat.pow_succ];omega,by
     have h:=HS.out.2;rw [hf,ig,if_pos ⟨e1,e2⟩] at h;exact h⟩)
    have em:(p:Int)%(2*(s:Int))=((p%(2*s):Nat):Int):=by push_cast;rfl
    have HEM:=aa em;clear em;by_cases e1:p%(2*s)=0∧p+2*s≤j
    ·obtain ⟨e1,e2⟩:=e1;have t1:((p:Int)%(2*(s:Int))==0)=true:=by rw [beq_iff_eq,HEM.out,e1];rfl
     have t2:(p:Int)+2*(s:Int)≤(j:Int):=mOm;clear hs1 hb0;obtain ⟨f',rfl⟩:∃ f',gk=f'+1:=by
      cases gk with
      | zero =>
       exfalso;obtain rfl:t=64:=mOm;have:=HS.out.1;omega
      | succ f'=>exact ⟨f',rfl⟩
     have HN2:=aa (HN.out f' rfl e1 e2)
     clear e1;go_wp2_with fail
     go_roundg f'
     case measure=>omega
     case rel=>exact ⟨2*s,t+1,by push_cast;rfl,mOm,HN2,mOm,rfl⟩
    ·have HZ:s=z:=by
      have h:=HS.out.2
      cases gk with
      | zero=>exact h
      | succ f'=>rw [ig,if_neg e1] at h;exact h
     have hor:((p:Int)%(2*(s:Int))==0)=false∨((p:Int)%(2*(s:Int))==0)=true∧¬ (p:Int)+2*(s:Int)≤(j:Int):=by
      by_cases e0:p%(2*s)=0
      ·exact .inr ⟨by rw [beq_iff_eq,HEM.out,e0];rfl,mOm⟩
      ·exact .inl (by rw [beq_eq_false_iff_ne,HEM.out];omega)
     subst HZ
     have hbl:=al wr (JU #[JO JP p,JO JP s,JQ ⟨#[]⟩] 278);have hown2:(wr.alloc (JU #[JO JP p,JO JP s,JQ ⟨#[]⟩] 278)).ownsRow w.heap.size 278 3 (JR pv k cv) (fp (L.take k)).length (br fQ (fp (L.take k))):=by have:=HOWN.out.alloc (JU #[JO JP p,JO JP s,JQ ⟨#[]⟩] 278);rw [show (fp (L.take k)).length=k by unfold fp;rw [aX,aM];omega];exact this
     have hlit:LK fQ (wr.alloc (JU #[JO JP p,JO JP s,JQ ⟨#[]⟩] 278)) (JR (JV ⟨wr.heap.size,0,JW⟩) 1 1) [(⟨p,s,⟨#[]⟩⟩:Blk)]:=cF (heap_alloc_new wr _) _ rfl rfl
     have hll:(fp (L.take k)).length≤1000000 - 1:=by unfold fp;rw [aX,aM];omega
     have hsz:w.heap.size≤(wr.alloc (JU #[JO JP p,JO JP s,JQ ⟨#[]⟩] 278)).heap.size:=bu hb.size hbl.size;have HTK:Hid (fp (L.take (k+1))=fp (L.take k)++[⟨p,s,⟨#[]⟩⟩]):=aa (by unfold fp;rw [aL,HZ0.out,List.map_append];rfl);have HB:=aa (ah hb hbl);clear e1 HS HN HEM htf hbl hb
     have hrec:∀ (v9:Value) (w9:World),AppT fQ 3 278 (wr.alloc (JU #[JO JP p,JO JP s,JQ ⟨#[]⟩] 278)) w.heap.size (JR pv k cv) (fp (L.take k)) [⟨p,s,⟨#[]⟩⟩] v9 w9→
       (∃ p c,v9=JR p (k+1) c)∧w9.ownsRow w.heap.size 278 3 v9 (k+1) (br fQ (fp (L.take (k+1))))∧ac w.heap.size w w9:=fun v9 w9 hA=>by
      have ho:=hA.own;rw [← HTK.out,show (fp (L.take (k+1))).length=k+1 by unfold fp;rw [aX,aM];omega] at ho;exact ⟨eI ho,ho,HB.out.grown hA.grown HB.out.size (fun q e=>(hown2.lt q e).1)⟩
     have HREC:=aa hrec
     clear hrec;rcases hor with t1 | ⟨t1,t2⟩
     all_goals
      go_wp2_with (at_builtin;refine bB vJ rfl (.tmp 25) (.tmp 29) rfl w.heap.size _ _ (fp (L.take k)) [(⟨p,s,⟨#[]⟩⟩:Blk)] rfl rfl hown2 hlit (by simp only [aG];omega) hsz ?_;intro v9 w9 hA9;obtain ⟨⟨p9,c9,rfl⟩,ho9,hb9⟩:=HREC.out v9 w9 hA9;have HO9:=aa ho9;clear ho9 hA9)
      go_roundg (L.length - (k+1))
      case measure=>omega
      case rel=>exact ⟨k+1,mOm,by rw [HBN.out];push_cast;rfl,⟨_,_,rfl⟩,HO9.out,hb9⟩
  ·obtain rfl:k=L.length:=mOm;rw [HEND.out];have hl2:(fp L).length=L.length:=by unfold fp;rw [aX]
   rw [aT] at hown;have HO:=aa hown;clear hown;go_wp2_with fail;go_ret;exact ⟨_,rfl,by rw [hl2];exact HO.out,hb⟩
end
section
open Go Go.Proofs Go.RowKit Go.Sort Go.Lib
theorem iB {α:Type} {enc:α→List Value} {k:Nat} {P:Program} {e t:TypeId} (R:RowT P enc k e t) {ops:Array Oper} {Q:Exit→Act→World→Prop} {S:World→Prop} {i:Nat} {σ:List (Nat×Bool)} {a:Act} {w:World} (oi:Oper) (hi:ops[i]? = JV oi) (hw:Region.wanted oi (yielded ops a.tmps)=true)
  (s x:Operand) (ho:oi.op=.call { callee:=.builtin .append,args:=#[s,x],argTypes:=#[t,t] })
  (base:Nat) (v xv:Value) (X Y:List α) (hs:a.eval s=v) (hxv:a.eval x=xv) (hown:w.ownsRow base e k v X.length (br enc X)) (hx:LK enc w xv Y) (hl:X.length+Y.length≤1000000) (hb:base≤w.heap.size)
  (h:∀ v' w',AppT enc k e w base v X Y v' w'→S w'∧aO P ops Q S σ (a.put oi.dst v') w'):aO P ops Q S ((i,false)::σ) a w:=
 iV oi hi hw (by
  obtain ⟨v',w',hr,hA⟩:=lZ R w base oi.type v xv X Y hown hx hl hb;unfold Oper.wp execOp;simp only [ho,resolve,invoke,builtin,Sem.run_bind,Sem.run_pure,Result.andThen_ok,List.map_toArray,ev,List.map_nil,hs,hxv,hr]
  exact h v' w' hA)
theorem qB:∀ (l:List (Nat×Nat)) (d:List ByteArray) (k:Nat),bZ (l.take k) d=(bZ l d).take k
 | [],d,k=>by unfold bZ;simp
 | x::l,[],k=>by unfold bZ;simp
 | x::l,y::d,0=>by unfold bZ;simp
 | x::l,y::d,k+1=>by
  have:=qB l d k;unfold bZ at this ⊢;simp only [List.take_succ_cons,List.zip_cons_cons,ev,this]
theorem dc {α:Type} {enc:α→List Value} {kk:Nat} {w:World} {v:Value} {L:List α} {p:Option Addr} {n c:Nat} (h:LK enc w v L) (hk:∀ x,(enc x).length=kk) (hv:v=JR p n c) (hl:0 < L.length):∃ b o,p=JV ⟨b,o,JW⟩∧b < w.heap.size∧∀ k x,L[k]? = JV x→w.rangeAt b (o+k*kk) (enc x):=by
 obtain ⟨p',c',e,h1,h2,h3⟩:=h;rw [hv] at e;injection e with e1 e2 e3;subst e1;obtain ⟨b,o,rfl,hb,hx⟩:=h3 hl;refine ⟨b,o,rfl,hb,fun k x hx2 j u hj=>?_⟩;have:=hx (k*kk+j) u (m9 hk hx2 hj);rw [← Nat.add_assoc] at this;exact this
theorem tT (l:List (Nat×Nat)) (d:List ByteArray) (v1:Value) (p2:Option Addr) (n2 c2:Nat) (w:World) (h1:LK fQ w v1 (fp l)) (h2:LK bL w (JR p2 n2 c2) d) (hl:l.length≤d.length) (hn:l.length≤1000000 - 1) :
  Calls prog 226 #[v1,JR p2 n2 c2] w fun e w'=>∃ v,e=JT v∧w'.ownsRow w.heap.size 278 3 v (bZ l d).length (br fQ (bZ l d))∧ac w.heap.size w w':=by
 have hbl0:(fp l).length=l.length:=by unfold fp;rw [aX]
 obtain ⟨p1,c1,rfl,_⟩:=h1.form;rw [hbl0] at h1;have H1:=aa h1;have H2:=aa h2;have hn2:n2=d.length:=by obtain ⟨_,_,e,_⟩:=h2.form;injection e
 have hwl:∀ k,k≤l.length→(bZ (l.take k) d).length=k:=fun k hk=>by unfold bZ;rw [aX,List.length_zip,aM];omega
 rw [hbl0];clear h1 h2;go_enter func226,ntmps226;go_wp2_with fail
 go_loopw [5,6] (fun v i wr=>∃ k:Nat,k≤l.length∧i=JO JP k∧(∃ p c,v=JR p k c)∧wr.ownsRow w.heap.size 278 3 v k (br fQ (bZ (l.take k) d))∧ac w.heap.size w wr) (fun _ i _=>l.length - (aw i).toNat)
 case atStart=>exact ⟨0,aR _,rfl,⟨_,_,rfl⟩,dK _ _ _ _,Below.refl _ _⟩
 case round =>
  obtain ⟨k,hk,rfl,⟨pv,cv,rfl⟩,hown,hb⟩:=hrel;by_cases hlt:k < l.length
  ·obtain ⟨b1,o1,rfl,hb1,hr1⟩:=dc (kk:=3) H1.out (fun _=>rfl) rfl mOm;obtain ⟨b2,o2,rfl,hb2,hr2⟩:=eO H2.out rfl mOm;have hg:=ai hlt;have hg2:=ai (show k < d.length by omega);have hge:(fp l)[k]? = JV ⟨l[k].1,l[k].2,⟨#[]⟩⟩:=by unfold fp;rw [fo,hg];rfl
   have q0:=(hb.cell (p:=⟨b1,o1+k*3+0,JW⟩) hb1).trans (hr1 k _ hge 0 _ rfl);have q1:=(hb.cell (p:=⟨b1,o1+k*3+1,JW⟩) hb1).trans (hr1 k _ hge 1 _ rfl);have qd:=(hb.cell (p:=⟨b2,o2+k,JW⟩) hb2).trans (hr2 k _ hg2)
   have HTK:Hid (bZ (l.take (k+1)) d=bZ (l.take k) d++[⟨l[k].1,l[k].2,d[k]⟩]):=aa (by
    rw [qB,qB];exact zo hg hg2)
   generalize l[k]=z at *
   generalize d[k]=s at *;have i1:(k:Int) < (l.length:Int):=mOm;have i2:(k:Int) < (d.length:Int):=mOm;have i3:(0:Int)≤(k:Int):=mOm;subst hn2;have HOWN:=aa hown;have hB:=hb.size;have keepS:∀ {u v:World},(ac w.heap.size w u∧u.cell? ⟨b1,o1+k*3,JW⟩=JV (JO JP z.1)∧u.cell? ⟨b1,o1+k*3+1,JW⟩=JV (JO JP z.2)∧u.cell? ⟨b2,o2+k,JW⟩=JV (JQ s))→ac u.heap.size u v→(ac w.heap.size w v∧v.cell? ⟨b1,o1+k*3,JW⟩=JV (JO JP z.1)∧v.cell? ⟨b1,o1+k*3+1,JW⟩=JV (JO JP z.2)∧v.cell? ⟨b2,o2+k,JW⟩=JV (JQ s)):=fun h hb=>⟨ah h.1 hb,(hb.cell (p:=⟨b1,o1+k*3,JW⟩) (am _ _ h.2.1)).trans h.2.1,(hb.cell (p:=⟨b1,o1+k*3+1,JW⟩) (am _ _ h.2.2.1)).trans h.2.2.1,(hb.cell (p:=⟨b2,o2+k,JW⟩) (am _ _ h.2.2.2)).trans h.2.2.2⟩
   have hS0:ac w.heap.size w wr.drew∧wr.drew.cell? ⟨b1,o1+k*3,JW⟩=JV (JO JP z.1)∧wr.drew.cell? ⟨b1,o1+k*3+1,JW⟩=JV (JO JP z.2)∧wr.drew.cell? ⟨b2,o2+k,JW⟩=JV (JQ s):=keepS ⟨hb,q0,q1,qd⟩ (Below.refl _ wr).drew;clear hown hr1 hr2 hg hg2 hge q0 q1 qd
   go_upto_region 5 with fail
   refine Jy (S:=fun w'=>ac w.heap.size w w'∧w'.cell? ⟨b1,o1+k*3,JW⟩=JV (JO JP z.1)∧w'.cell? ⟨b1,o1+k*3+1,JW⟩=JV (JO JP z.2)∧w'.cell? ⟨b2,o2+k,JW⟩=JV (JQ s)) [(0,true),(1,true),(2,true),(3,true),(4,true),(5,true),(6,true),(7,true),(8,true),(9,true),(10,true),(11,true),(12,true),(13,true),(14,true),(15,true),(16,false),(17,false),(18,true)] hS0 ?_;have hS:=hS0
   iterate 16 refine aj ?_
   refine lV ⟨_,_,_,_,_,_⟩ (JR (JV ⟨wr.heap.size,0,JW⟩) 1 1) (wr.drew.alloc (JU #[JO JP z.1,JO JP z.2,JQ s] 278)) rfl mRf (by go_simp) (keepS hS (al _ _)) ?_;replace hS:=keepS hS (al wr.drew (JU #[JO JP z.1,JO JP z.2,JQ s] 278));refine ar ?_;refine iB vJ ⟨_,_,_,_,_,_⟩ rfl mRf (.tmp 13) (.tmp 29) mRf w.heap.size _ _ (bZ (l.take k) d) [(⟨z.1,z.2,s⟩:Blk)] mRf mRf (by rw [hwl k mOm];exact HOWN.out.drew.alloc _) (cF (heap_alloc_new wr.drew _) _ rfl rfl) (by rw [hwl k mOm];simp only [aG];omega) hS.1.size ?_;intro v9 w9 hA9;have hb9:ac w.heap.size w w9:=hS.1.grown hA9.grown hS.1.size (fun q e=>(HOWN.out.lt q e).1);have ho9:=hA9.own;rw [← HTK.out,hwl (k+1) mOm] at ho9;obtain ⟨p9,c9,rfl⟩:=eI ho9;replace hS:ac w.heap.size w w9∧w9.cell? ⟨b1,o1+k*3,JW⟩=JV (JO JP z.1)∧w9.cell? ⟨b1,o1+k*3+1,JW⟩=JV (JO JP z.2)∧w9.cell? ⟨b2,o2+k,JW⟩=JV (JQ s):=⟨hb9,(hb9.cell (p:=⟨b1,o1+k*3,JW⟩) hb1).trans ((hS.1.cell (p:=⟨b1,o1+k*3,JW⟩) hb1).symm.trans hS.2.1),(hb9.cell (p:=⟨b1,o1+k*3+1,JW⟩) hb1).trans ((hS.1.cell (p:=⟨b1,o1+k*3+1,JW⟩) hb1).symm.trans hS.2.2.1),(hb9.cell (p:=⟨b2,o2+k,JW⟩) hb2).trans ((hS.1.cell (p:=⟨b2,o2+k,JW⟩) hb2).symm.trans hS.2.2.2)⟩;refine ⟨hS,?_⟩;refine ar ?_;refine aj ?_;simp only [aO,bj];have HO9:=aa ho9;have HB9:=aa hb9;clear hS hS0 keepS ho9 hb9 hA9;go_wp2_with fail
   go_roundw
   case rel=>exact ⟨k+1,mOm,by go_num,⟨_,_,rfl⟩,HO9.out,HB9.out⟩
   case measure=>simp [aw];omega
  ·obtain rfl:k=l.length:=mOm;rw [aT] at hown;have hw2:=hwl l.length (aD _);rw [aT] at hw2;have HO:=aa hown;clear hown;go_wp2_with fail;go_ret;exact ⟨_,rfl,by rw [hw2];exact HO.out,hb⟩
end
section
open Go Go.Proofs Go.RowKit Go.Sort Go.Lib
def jL (before s:ByteArray):ByteArray:=dgB (du [⟨#[1]⟩,⟨(be8 before.size).toArray⟩,before,s])
theorem ry (p:ByteArray) (l:List ByteArray) (hp:p.size≤1000000000) (h:p.data.toList=du l) (w:World) :
  Calls prog 186 #[JQ p] w fun e w'=>e=JT (JQ (dgB (du l)))∧ac w.heap.size w w':=by
 have:=nK p hp w;rw [h] at this;exact this
theorem ta (a b:ByteArray) (ha:a.size≤100000000) (hb:b.size≤100000000) (w:World) :
  Calls prog 257 #[JQ a,JQ b] w fun e w'=>e=JT (JQ (be a b))∧ac w.heap.size w w':=by
 have l1:¬ 9223372036854775807 < 1+a.size:=mOm;have l2:¬ 9223372036854775807 < 1+a.size+b.size:=mOm;have hD:((⟨#[4]⟩:ByteArray)++a++b).data.toList=du [⟨#[4]⟩,a,b]:=by simp [du]
 have hS:((⟨#[4]⟩:ByteArray)++a++b).size≤1000000000:=by have h1:=bw a;have h2:=bw b;rw [bw,gb,gb];simp only [ax,bA,cu];omega
 have co:=ry _ _ hS hD w
 clear hD hS;go_enter func257,ntmps257;go_wp2_with fail;refine co.mono ?_;rintro _ w1 ⟨rfl,hb1⟩;go_wp2_with fail;go_ret;exact ⟨rfl,hb1⟩
theorem sD (a:ByteArray) (ha:a.size≤100000000) (w:World) :
  Calls prog 276 #[JQ a] w fun e w'=>e=JT (JQ (jE a))∧ac w.heap.size w w':=by
 have l1:¬ 9223372036854775807 < 1+a.size:=mOm;have hD:((⟨#[3]⟩:ByteArray)++a).data.toList=du [⟨#[3]⟩,a]:=by simp [du]
 have hS:((⟨#[3]⟩:ByteArray)++a).size≤1000000000:=by have h1:=bw a;rw [bw,gb];simp only [ax,bA,cu];omega
 have co:=ry _ _ hS hD w
 clear hD hS;go_enter func276,ntmps276;go_wp2_with fail;refine co.mono ?_;rintro _ w1 ⟨rfl,hb1⟩;go_wp2_with fail;go_ret;exact ⟨rfl,hb1⟩
theorem nU {p:Prop} (h:p:=by
 go_wp2_with fail;refine cn.mono ?_;rintro _ w1 ⟨rfl,hb1⟩;go_wp2_with fail;refine (co _).mono ?_;rintro _ w2 ⟨rfl,hb2⟩;go_wp2_with fail;go_ret
 exact ⟨rfl,ah hb1 hb2⟩):p:=h
theorem sG (n:Nat) (t:ByteArray) (hn:n≤1099511627776) (ht:t.size≤100000000) (w:World) :
  Calls prog 224 #[JO JP n,JQ t] w fun e w'=>e=JT (JQ (lz n t))∧ac w.heap.size w w':=by
 have cn:=mt n mOm w;have hl8:(⟨(be8 n).toArray⟩:ByteArray).size=8:=rfl;have hJ:Hid (dgB (du [⟨#[6]⟩,⟨(be8 n).toArray⟩,t])=lz n t):=aa rfl;generalize (⟨(be8 n).toArray⟩:ByteArray)=B at cn hl8 hJ;have l1:¬ 9223372036854775807 < 1+B.size:=mOm;have l2:¬ 9223372036854775807 < 1+B.size+t.size:=mOm;have hD:((⟨#[6]⟩:ByteArray)++B++t).data.toList=du [⟨#[6]⟩,B,t]:=by simp [du]
 have hS:((⟨#[6]⟩:ByteArray)++B++t).size≤1000000000:=by have h1:=bw B;have h2:=bw t;rw [bw,gb,gb];simp only [ax,bA,cu];omega
 have co:=fun w=>ry _ _ hS hD w
 rw [hJ.out] at co;clear hD hS hl8;go_enter func224,ntmps224;exact nU
theorem yL (a t:ByteArray) (ha:a.size≤100000000) (ht:t.size≤100000000) (w:World) :
  Calls prog 132 #[JQ a,JQ t] w fun e w'=>e=JT (JQ (jL a t))∧ac w.heap.size w w':=by
 have cn:=mt a.size mOm w;have hl8:(⟨(be8 a.size).toArray⟩:ByteArray).size=8:=rfl;have hJ:Hid (dgB (du [⟨#[1]⟩,⟨(be8 a.size).toArray⟩,a,t])=jL a t):=aa rfl;generalize (⟨(be8 a.size).toArray⟩:ByteArray)=B at cn hl8 hJ;have l1:¬ 9223372036854775807 < 1+B.size:=mOm;have l2:¬ 9223372036854775807 < 1+B.size+a.size:=mOm;have l3:¬ 9223372036854775807 < 1+B.size+a.size+t.size:=mOm;have hD:((⟨#[1]⟩:ByteArray)++B++a++t).data.toList=du [⟨#[1]⟩,B,a,t]:=by simp [du]
 have hS:((⟨#[1]⟩:ByteArray)++B++a++t).size≤1000000000:=by have h1:=bw B;have h2:=bw t;have h3:=bw a;rw [bw,gb,gb,gb];simp only [ax,bA,cu];omega
 have co:=fun w=>ry _ _ hS hD w
 rw [hJ.out] at co;clear hD hS hl8;go_enter func132,ntmps132;exact nU
theorem C3 (a t:ByteArray) (ha:a.size≤100000000) (ht:t.size≤100000000) (w:World) :
  Calls prog 209 #[JQ a,JQ t] w fun e w'=>e=JT (JQ (jL a t))∧ac w.heap.size w w':=by
 have cn:=jh a.size mOm w;have hl8:(⟨(be8 a.size).toArray⟩:ByteArray).size=8:=rfl;have hJ:Hid (dgB (du [⟨#[1]⟩,⟨(be8 a.size).toArray⟩,a,t])=jL a t):=aa rfl;generalize (⟨(be8 a.size).toArray⟩:ByteArray)=B at cn hl8 hJ;go_enter func209,ntmps209;go_wp2_with fail;refine cn.mono ?_;rintro _ w1 ⟨rfl,hb1⟩;go_wp2_with fail
 refine (pM w1.heap.size 4 [⟨#[1]⟩,B,a,t] 4 rfl mOm _ (nk (heap_alloc_new w1 _) _ rfl (by
  intro z hz;simp only [cR,et,or_false] at hz;rcases hz with rfl | rfl | rfl | rfl
  ·decide
  ·omega
  ·exact ha
  ·exact ht))).mono ?_
 rintro _ w2 ⟨rfl,hb2⟩
 go_wp2_with fail;go_ret;exact ⟨cJ hJ.out,ah hb1 ((al w1 _).trans (hb2.mono mSi))⟩
end
section
namespace Wr
open Go Go.Lib
theorem lS {m:Nat} (h:¬ m < 10):decDigits m=decDigits (m / 10)++[UInt8.ofNat (48+m%10)]:=by rw [decDigits,dif_neg h]
theorem nB (k:Nat) (h:k < 10):(UInt8.ofNat (48+k)).toNat=48+k:=by rw [UInt8.toNat_ofNat'];omega
theorem mA (m:Nat):∀ c∈decDigits m,48≤c.toNat∧c.toNat≤57:=by
 induction m using Nat.strongRecOn with
 | _ m ih =>
  by_cases h:m < 10
  ·rw [decDigits,dif_pos h];intro c hc;simp only [bJ] at hc;subst hc;rw [nB m h];omega
  ·rw [lS h];intro c hc;rcases bN.1 hc with hc | hc
   ·exact ih (m / 10) mOm c hc
   ·simp only [bJ] at hc;subst hc;rw [nB _ mOm];omega
theorem mY (m:Nat):decDigits m ≠ []:=by intro h;have:=decDigits_length m;rw [h] at this;have:=nDigits_pos m;simp at *;omega
theorem AJ:∀ (l:List UInt8) (a u:Nat) (c:UInt8),parseUint10 a l=.ok u→parseUint10 a (l++[c])=parseUint10 u [c]
 | [],a,u,c,h=>by simp only [parseUint10] at h;injection h with h;rw [h];rfl
 | b::l,a,u,c,h=>by
  simp only [parseUint10,eJ] at h ⊢
  split at h
  ·rename_i h1
   rw [if_pos h1]
   split at h
   ·cases h
   ·rename_i h2
    rw [if_neg h2]
    split at h
    ·cases h
    ·rename_i h3
     rw [if_neg h3]
     exact AJ l _ u c h
  ·cases h
theorem D3 (m:Nat) (hm:m < 18446744073709551616):parseUint10 0 (decDigits m)=.ok m:=by
 induction m using Nat.strongRecOn with
 | _ m ih =>
  by_cases h:m < 10
  ·rw [decDigits,dif_pos h];have e:=nB m h;simp only [parseUint10];rw [if_pos mOm,if_neg mOm,if_neg mOm,e]
   congr 1;omega
  ·rw [lS h,AJ _ _ _ _ (ih (m / 10) mOm mOm)];have e:=nB (m%10) mOm;simp only [parseUint10];rw [if_pos mOm,if_neg mOm,if_neg mOm,e]
   congr 1;omega
theorem EW (m:Nat):∃ c r,decDigits m=c::r∧48≤c.toNat∧c.toNat≤57:=by
 cases h:decDigits m with
 | nil=>exact absurd h (mY m)
 | cons c r=>exact ⟨c,r,rfl,mA m c (by rw [h];simp)⟩
theorem jg (n:Int):(0≤n∧itoa n=decDigits n.toNat)∨(n < 0∧itoa n=45::decDigits (-n).toNat):=by
 by_cases h:n < 0
 ·refine .inr ⟨h,?_⟩;unfold itoa;rw [if_pos h];congr 2;omega
 ·refine .inl ⟨mOm,?_⟩;unfold itoa;rw [if_neg h]
theorem atoi_itoa (n:Int) (h : -9223372036854775808≤n∧n≤9223372036854775807):atoiAll (itoa n)=.ok n:=by
 rcases jg n with ⟨h0,e⟩ | ⟨h0,e⟩
 ·rw [e];obtain ⟨c,r,hc,c1,c2⟩:=EW n.toNat;have hp:=D3 n.toNat mOm;have hne:=mY n.toNat;have hm:parseMag (decDigits n.toNat)=.ok n.toNat:=by unfold parseMag;rw [if_neg hne];exact hp
  rw [hc] at hm ⊢;unfold atoiAll;simp only;rw [if_neg mOm,hm];simp only;rw [if_neg mOm,if_neg mOm,if_neg mOm]
  congr 1;omega
 ·rw [e];have hp:=D3 (-n).toNat mOm;have hne:=mY (-n).toNat;have hm:parseMag (decDigits (-n).toNat)=.ok (-n).toNat:=by unfold parseMag;rw [if_neg hne];exact hp
  unfold atoiAll;simp only;rw [if_pos mDe,hm];simp only;rw [if_neg mSi,if_neg mOm,if_pos mDe]
  congr 1;omega
end Wr
