/- Lemmas. -/
import Derived.Test.YtnlhbdmeodbblaaGreatDoorMiag
import Derived.WalkMore
import Derived.ScopeJumps
set_option maxRecDepth 100000
set_option maxHeartbeats 16000000
set_option linter.all false
open Go.Proofs.Tryz
open Array renaming getElem?_eq_none→fC
open Int renaming neg_neg→kK,tdiv_eq_ediv_of_nonneg→dS,tmod_eq_emod_of_nonneg→bQ
open Go.IntWalk renaming i64_in→aF
open Go.Lib renaming atoiAll→kL,cell_of_heap→ae,cut→jB,hid→aa,itoa_length_le→bI
open List renaming append_assoc→cq,getElem?_append_right→aK,getElem?_eq_getElem→ai,length_append→ax,length_drop→bF,length_singleton→aG,length_take→aM,reverse_append→fI,reverse_reverse→dT,take_add_one→aL,take_length→aT
open Nat renaming le_refl→aD,lt_or_ge→gH,zero_le→aR
open Option renaming map_some→MD
open Go.RowKit renaming Below→ac,intOf→aw
open Go.World renaming block_lt_of_cell?→am
open Go.Ending renaming returned→JT
open Go.IntKind renaming i64→JP
open Go.Obj renaming cells→JU
open Go.Value renaming int→JO,string→JQ,slice→JR,pointer→JS
open Option renaming some→JV,none→JW
namespace Go.Proofs.YtnlhbdmeodbblaaGreatDoor
section
open Go Go.Proofs Go.RowKit Go.Sort Go.Lib
def OwnR (w0 w:World) (v:Value) (n:Nat) (M:List Blk):Prop:=(∃ p c,v=JR p n c)∧M.length=n∧w.ownsRow w0.heap.size 278 3 v n (br fQ M)∧ac w0.heap.size w0 w∧(∀ x∈M,Blk.fit x)
theorem OwnR.next {w0 w w':World} {v:Value} {n:Nat} {M:List Blk} (h:OwnR w0 w v n M) (hb:ac w.heap.size w w'):OwnR w0 w' v n M:=
 ⟨h.1,h.2.1,bE h.2.2.1 (LM.of (S:=fun _=>False) hb) (fun _ _ e=>e),ah h.2.2.2.1 hb,h.2.2.2.2⟩
theorem OwnR.at_ {w0 w:World} {p:Option Addr} {n c:Nat} {M:List Blk} (h:OwnR w0 w (JR p n c) n M) (hn:0 < n):∃ g,p=JV ⟨g,0,JW⟩∧w0.heap.size≤g∧g < w.heap.size∧n≤c∧∀ k x,M[k]? = JV x→w.cell? ⟨g,k*3,JW⟩=JV (JO JP x.b)∧w.cell? ⟨g,k*3+1,JW⟩=JV (JO JP x.s)∧w.cell? ⟨g,k*3+2,JW⟩=JV (JQ x.d):=by
 obtain ⟨-,hl,ho,-,-⟩:=h;obtain ⟨-,(⟨-,h0⟩ | ⟨g,c',cur,hv,hg,hgh,hc,-⟩)⟩:=id ho
 ·omega
 ·injection hv with e1 _ e3;subst e1;subst e3;refine ⟨g,rfl,hg,aU hgh,hc,fun k x hx=>?_⟩;have hh:=fun j u (hj:(fQ x)[j]? = JV u)=>ho.cells (g:=g) rfl (k*3+j) u (m9 (enc:=fQ) (k:=3) (fun _=>rfl) hx hj)
  have h0:=hh 0 _ rfl;have h1:=hh 1 _ rfl;have h2:=hh 2 _ rfl;rw [add_plain,Nat.zero_add] at h0 h1 h2;exact ⟨h0,h1,h2⟩
theorem OwnR.app {w0 w w':World} {v v':Value} {n:Nat} {M:List Blk} {z:Blk} (h:OwnR w0 w v n M) (hA:AppT fQ 3 278 w w0.heap.size v M [z] v' w') (hz:Blk.fit z):OwnR w0 w' v' (n+1) (M++[z]):=by
 have hl:(M++[z]).length=n+1:=by rw [ax,h.2.1];rfl
 have ho:=hA.own;rw [hl] at ho;refine ⟨eI ho,hl,ho,h.2.2.2.1.grown hA.grown h.2.2.2.1.size (fun q e=>(h.2.2.1.lt q e).1),fun x hx=>?_⟩;rcases List.mem_append.1 hx with hx | hx
 ·exact h.2.2.2.2 x hx
 ·obtain rfl:x=z:=by simpa using hx
  exact hz
theorem OwnR.cut {w0 w:World} {p:Option Addr} {n c m:Nat} {M:List Blk} (h:OwnR w0 w (JR p n c) n M) (hm:m≤n):OwnR w0 w (JR p m c) m (M.take m):=by
 have:=qp h.2.2.1 hm;rw [j7 (k:=3) (fun _=>rfl)] at this;exact ⟨⟨_,_,rfl⟩,by rw [aM,h.2.1];omega,this,h.2.2.2.1,fun x hx=>h.2.2.2.2 x (List.mem_of_mem_take hx)⟩
def BoxS (base b:Nat) (ab sa:Nat) (ad xd:ByteArray) (w0 u:World):Prop:=ac base w0 u∧u.cell? ⟨b,0,JW⟩=JV (JO JP ab)∧u.cell? ⟨b,1,JW⟩=JV (JO JP sa)∧u.cell? ⟨b,2,JW⟩=JV (JQ ad)∧u.cell? ⟨b+1,2,JW⟩=JV (JQ xd)
theorem BoxS.next {b ab sa:Nat} {ad xd:ByteArray} {w0 u v:World} (h:BoxS w0.heap.size b ab sa ad xd w0 u) (hb:ac u.heap.size u v):BoxS w0.heap.size b ab sa ad xd w0 v:=
 ⟨ah h.1 hb,(hb.cell (p:=⟨b,0,JW⟩) (am _ _ h.2.1)).trans h.2.1,(hb.cell (p:=⟨b,1,JW⟩) (am _ _ h.2.2.1)).trans h.2.2.1,(hb.cell (p:=⟨b,2,JW⟩) (am _ _ h.2.2.2.1)).trans h.2.2.2.1,(hb.cell (p:=⟨b+1,2,JW⟩) (am _ _ h.2.2.2.2)).trans h.2.2.2.2⟩
theorem BoxS.app {b ab sa:Nat} {ad xd:ByteArray} {w0 u v:World} {o:Option Nat} (h:BoxS w0.heap.size b ab sa ad xd w0 u) (hb:ac w0.heap.size w0 v) (hg:u.grownBy v o) (ho:∀ q,o=JV q→q < b):BoxS w0.heap.size b ab sa ad xd w0 v:=by
 obtain ⟨h1,h2,h3,h4,h5⟩:=h
 have k:∀ c j u1,u.cell? ⟨c,j,JW⟩=JV u1→b≤c→v.cell? ⟨c,j,JW⟩=JV u1:=fun c j u1 e hc =>
  (World.cell?_of_block (a:=⟨c,j,JW⟩) (hg.block c (am _ _ e) (fun e2=>by have:=ho c e2.symm;omega))).trans e
 exact ⟨hb,k _ _ _ h2 (aD _),k _ _ _ h3 (aD _),k _ _ _ h4 (aD _),k _ _ _ h5 (Nat.le_succ _)⟩
theorem Gw {w:World} {ab sa xb sx:Nat} {ad xd:ByteArray} {t u:TypeId}:((w.alloc (JU #[JO JP ab,JO JP sa,JQ ad] t)).alloc (JU #[JO JP xb,JO JP sx,JQ xd] u)).cell? ⟨w.heap.size,0,JW⟩=JV (JO JP ab)∧((w.alloc (JU #[JO JP ab,JO JP sa,JQ ad] t)).alloc (JU #[JO JP xb,JO JP sx,JQ xd] u)).cell? ⟨w.heap.size,1,JW⟩=JV (JO JP sa)∧((w.alloc (JU #[JO JP ab,JO JP sa,JQ ad] t)).alloc (JU #[JO JP xb,JO JP sx,JQ xd] u)).cell? ⟨w.heap.size,2,JW⟩=JV (JQ ad)∧((w.alloc (JU #[JO JP ab,JO JP sa,JQ ad] t)).alloc (JU #[JO JP xb,JO JP sx,JQ xd] u)).cell? ⟨w.heap.size+1,2,JW⟩=JV (JQ xd):=by have h1:=heap_alloc_new w (JU #[JO JP ab,JO JP sa,JQ ad] t);have h2:=(al (w.alloc (JU #[JO JP ab,JO JP sa,JQ ad] t)) (JU #[JO JP xb,JO JP sx,JQ xd] u)).heap_of h1;have h3:=heap_alloc_new (w.alloc (JU #[JO JP ab,JO JP sa,JQ ad] t)) (JU #[JO JP xb,JO JP sx,JQ xd] u);rw [show (w.alloc (JU #[JO JP ab,JO JP sa,JQ ad] t)).heap.size=w.heap.size+1 from Array.size_push _] at h3;exact ⟨ae h2 0,ae h2 1,ae h2 2,ae h3 2⟩
theorem ou {p:Prop} (h:p:=by
 go_wp2_with fail
 go_roundw
 case rel=>exact ⟨k+1,N,_,mOm,by go_num,by have:=HNK.out;have:=HNM.out;omega,HR,by
  rw [cq];exact (HO.out.next (al _ _)).next (al _ _)⟩
 case measure=>simp [aw];omega):p:=h
theorem AN (l:List Blk) (v:Value) (w:World) (hl:LK fQ w v l) (hn:l.length≤100000) (hfit:∀ x∈l,Blk.fit x∧x.b+x.s≤1099511627776) (hrow:∀ k z,l.take (k+1)=l.take k++[z]→mR (iX be [] (l.take k)) z.b) :
  Calls prog 225 #[v] w fun e w'=>e=JT (JQ (gp be fP (iX be [] l)))∧ac w.heap.size w w':=by
 obtain ⟨p,c,rfl,_⟩:=hl.form;have HL:=aa hl;have HFIT:=aa hfit;have HROW:=aa hrow;obtain ⟨Z,hZ⟩:∃ Z,Z=gp be fP (iX be [] l):=⟨_,rfl⟩;have HZT:=aa hZ;rw [← hZ];clear hl hfit hrow hZ;go_enter func225,ntmps225;go_wp2_with fail
 go_loopw [3,4] (fun v i wr=>∃ (k N:Nat) (M:List Blk),k≤l.length∧i=JO JP k∧N≤k∧Hid (M=(iX be [] (l.take k)).reverse)∧OwnR w wr v N M) (fun _ i _=>l.length - (aw i).toNat)
 case atStart=>exact ⟨0,0,[],aR _,rfl,aD _,aa rfl,⟨⟨_,_,rfl⟩,rfl,World.ownsRow_nil _ _ _ _,Below.refl _ _,fun x hx=>(by cases hx)⟩⟩
 case round =>
  obtain ⟨k,N,M,hk,rfl,hNk,HM,hO⟩:=hrel;obtain ⟨⟨pv,cv,rfl⟩,-,-,-,-⟩:=id hO;by_cases hlt:k < l.length
  ·obtain ⟨b1,o1,rfl,hb1,hr1⟩:=dc (kk:=3) HL.out (fun _=>rfl) rfl mOm;have hg:=ai hlt;have hb:=hO.2.2.2.1;have q0:=(hb.cell (p:=⟨b1,o1+k*3+0,JW⟩) hb1).trans (hr1 k _ hg 0 _ rfl);have q1:=(hb.cell (p:=⟨b1,o1+k*3+1,JW⟩) hb1).trans (hr1 k _ hg 1 _ rfl);have q2:=(hb.cell (p:=⟨b1,o1+k*3+2,JW⟩) hb1).trans (hr1 k _ hg 2 _ rfl);have hz:=HFIT.out _ (List.getElem_mem hlt);have HTK:=aa (show l.take (k+1)=l.take k++[l[k]] by rw [aL,hg];rfl);generalize l[k]=z at *;have i1:(k:Int) < (l.length:Int):=mOm;rw [Nat.add_zero] at q0;have hO1:=hO.next (al wr (JU #[JO JP z.b,JO JP z.s,JQ z.d] 278));have hlit:LK fQ (wr.alloc (JU #[JO JP z.b,JO JP z.s,JQ z.d] 278)) (JR (JV ⟨wr.heap.size,0,JW⟩) 1 1) [z]:=cF (heap_alloc_new wr _) _ rfl rfl;have hown2:=hO1.2.2.1;have hMl:=hO.2.1;rw [← hMl] at hown2;have hsz:=hO1.2.2.2.1.size;have HO1:=aa hO1;have HZ:=aa hz;clear hr1 hg hO hO1 hz hb;subst hMl;go_wp2_with (at_builtin;refine bB vJ rfl (.tmp 15) (.tmp 20) rfl w.heap.size _ _ M [z] rfl rfl hown2 hlit (by simp only [aG];omega) hsz ?_;intro v9 w9 hA9;have hO9:=HO1.out.app hA9 HZ.out.1;obtain ⟨⟨p9,c9,rfl⟩,-,-,-,-⟩:=id hO9;have HO9:=aa hO9;clear hO9 hA9);clear HO1 q0 q1 q2 hlit hown2 hsz;have HZF:mR M.reverse z.b:=by rw [HM.out,dT];exact HROW.out k z HTK.out
   have HN9:=aa (show M.length+1≤100000 by omega);obtain ⟨n9,hn9⟩:∃ n9,n9=M.length+1:=⟨_,rfl⟩;rw [← hn9] at HO9 ⊢
   have HEX:Hid (∀ (X:List Blk) (x:Blk),lw be X.reverse x=x::X.reverse→lw be X.reverse x=lw be M.reverse z→X++[x]=(iX be [] (l.take (k+1))).reverse):=aa (fun X x h1 h2=>by
    have h3:iX be [] (l.take (k+1))=lw be (iX be [] (l.take k)) z:=by rw [HTK.out];unfold iX;rw [List.foldl_append];rfl
    rw [HM.out,dT,← h3,h1] at h2
    rw [← h2,List.reverse_cons,dT])
   clear HTK HM
   have HNK:=aa hNk;clear hNk
   go_loopg [3] M.length (fun r v w2=>∃ (X:List Blk) (x:Blk) (N:Nat),X.length=r∧N=X.length+1∧(∃ p c,v=JR p N c)∧N≤M.length+1∧Hid (mR X.reverse x.b∧x.b+x.s≤1099511627776∧lw be X.reverse x=lw be M.reverse z)∧OwnR w w2 v N (X++[x]))
   case atStart=>exact ⟨M,z,n9,rfl,hn9,⟨_,_,rfl⟩,mOm,aa ⟨HZF,HZ.out.2,rfl⟩,HO9.out⟩
   case round =>
    clear HO9 hn9 hlt HZ;obtain ⟨X,x,N,hXr,hN,⟨p2,c2,rfl⟩,hNm,HX,hOX⟩:=hrel;rcases List.eq_nil_or_concat X with rfl | ⟨X',a,rfl⟩
    ·obtain rfl:N=1:=hN;have HR:=aa (HEX.out [] x rfl HX.out.2.2);have HOX:=aa hOX;clear hOX;go_wp2_with fail
     go_roundw
     case rel=>exact ⟨k+1,1,[x],mOm,by go_num,mOm,HR,HOX.out⟩
     case measure=>simp [aw];omega
    ·simp only [List.concat_eq_append] at *;obtain ⟨m,hm⟩:∃ m,m=X'.length:=⟨_,rfl⟩;obtain ⟨q,hq⟩:∃ q,q=X'.length+1:=⟨_,rfl⟩;have hNq:N=q+1:=by rw [hN,ax,hq];rfl
     have hNmm:N=m+2:=mOm;have hXa:(X'++[a])++[x]=X'++[a,x]:=by rw [cq];rfl
     have ga:(X'++[a,x])[m]? = JV a:=by rw [hm,aK (aD _),Nat.sub_self];rfl
     have gx:(X'++[a,x])[q]? = JV x:=by rw [hq,aK mOm,show X'.length+1 - X'.length=1 by omega];rfl
     rw [hXa] at hOX;obtain ⟨g,rfl,hg0,hg1,hgc,hcc⟩:=hOX.at_ mOm;obtain ⟨a0,a1,a2⟩:=hcc m a ga;obtain ⟨x0,x1,x2⟩:=hcc q x gx;have i2:(m:Int) < (N:Int):=mOm;have i3:(q:Int) < (N:Int):=mOm;have i4:(0:Int)≤(m:Int):=mOm;have i5:(0:Int)≤(q:Int):=mOm;have w1:IntKind.i64.wrap ((N:Int) - 2)=(m:Int):=by rw [show (N:Int) - 2=(m:Int) by omega];exact aF _ (by have:=HN9.out;omega)
     have w2:IntKind.i64.wrap ((N:Int) - 1)=(q:Int):=by rw [show (N:Int) - 1=(q:Int) by omega];exact aF _ (by have:=HN9.out;omega)
     have t0:(1:Int) < (N:Int):=mOm;have HAX:=aa (And.intro hXr (And.intro hN (And.intro hm hq)));have HNM:=aa (And.intro hNmm (And.intro hq hNm));have HA:=aa ga;have HGX:=aa gx;have HO:=aa hOX;clear hXr hN hm hq hNq ga gx hXa hcc hOX hNmm hNm;have HFA:=aa (HO.out.2.2.2.2 a mSi);have HFX:=aa (HO.out.2.2.2.2 x mSi);have HBLO:=aa HO.out.2.2.2.1;obtain ⟨ab,sa,ad⟩:=a;obtain ⟨xb,xs,xd⟩:=x;dsimp only at a0 a1 a2 x0 x1 x2;by_cases hs:sa=xs
     ·subst hs;have hs40:sa≤1099511627776:=HFA.out.2.2.1;have hs0:0 < sa:=HFA.out.2.1;have tw:IntKind.i64.wrap (2*(sa:Int))=2*(sa:Int):=aF _ mOm;have tw':IntKind.i64.wrap ((sa:Int)*2)=2*(sa:Int):=by rw [Int.mul_comm];exact tw
      have tz:¬ (2*(sa:Int))=0:=mOm;have em:(ab:Int)%(2*(sa:Int))=((ab%(2*sa):Nat):Int):=by push_cast;rfl
      have HEM:=aa em;clear em hs40 hs0;by_cases hd:ab%(2*sa)=0
      ·have t1:((ab:Int)%(2*(sa:Int)) != 0)=false:=by rw [bne_eq_false_iff_eq,HEM.out,hd];rfl
       have HD:=aa hd;clear hd
       go_upto_region 10 with fail
       have hb4:ac wr.heap.size wr ((wr.alloc (JU #[JO JP ab,JO JP sa,JQ ad] 278)).alloc (JU #[JO JP xb,JO JP sa,JQ xd] 278)):=ah (al _ _) (al _ _);have k4:=Gw (w:=wr) (ab:=ab) (sa:=sa) (ad:=ad) (xb:=xb) (sx:=sa) (xd:=xd) (t:=278) (u:=278);generalize ((wr.alloc (JU #[JO JP ab,JO JP sa,JQ ad] 278)).alloc (JU #[JO JP xb,JO JP sa,JQ xd] 278))=w4 at hb4 k4 ⊢
       have HOc:Hid (OwnR w w4 (JR (JV ⟨g,0,JW⟩) m c2) m X'):=aa (by
        have:=(HO.out.next hb4).cut (m:=m) mOm
        rwa [show (X'++[(⟨ab,sa,ad⟩:Blk),⟨xb,sa,xd⟩]).take m=X' by rw [HAX.out.2.2.1,List.take_left'];rfl] at this)
       have keepS:∀ {u v:World},BoxS w.heap.size wr.heap.size ab sa ad xd w u→ac u.heap.size u v→BoxS w.heap.size wr.heap.size ab sa ad xd w v:=fun h hb=>h.next hb
       have hS0:BoxS w.heap.size wr.heap.size ab sa ad xd w w4.drew:=keepS (u:=w4) ⟨ah HBLO.out hb4,k4⟩ (Below.refl _ w4).drew;have hd1:ad.size≤100000000:=by have:ad.size=8:=HFA.out.2.2.2;omega
       have hd2:xd.size≤100000000:=by have:xd.size=8:=HFX.out.2.2.2;omega
       have im:(m:Int)≤(c2:Int):=mOm
       have hNF:Hid (Blk.fit ⟨ab,2*sa,be ad xd⟩):=aa (by
        have h1:=HFA.out;have h2:=HX.out;have h3:ab+sa=xb:=by have:=h2.1;rw [fI] at this;exact this.1
        exact ⟨h1.1,by have:=h1.2.1;show 0 < 2*sa;dsimp only at this;omega,by have:=h2.2.1;dsimp only at this;show 2*sa≤_;omega,rfl⟩)
       have inm:(m:Int)≤(N:Int):=mOm
       clear a0 a1 a2 x0 x1 x2 hb4 k4;refine Jy (S:=fun u=>ac w.heap.size w u∧u.cell? ⟨wr.heap.size,0,JW⟩=JV (JO JP ab)∧u.cell? ⟨wr.heap.size,1,JW⟩=JV (JO JP sa)∧u.cell? ⟨wr.heap.size,2,JW⟩=JV (JQ ad)∧u.cell? ⟨wr.heap.size+1,2,JW⟩=JV (JQ xd)) [(0,true),(1,true),(2,true),(3,true),(4,true),(5,true),(6,true),(7,true),(8,true),(9,true),(10,true),(11,true),(12,true),(13,true),(14,false),(15,true),(16,false),(17,false),(18,true)] hS0 ?_;have hS:=hS0
       iterate 14 refine aj ?_
       refine aH 257 call257 (ta ad xd hd1 hd2 _) ?_;rintro x wn ⟨rfl,hb⟩;replace hS:=keepS hS hb;have HOn:=aa (HOc.out.next (ah (Below.refl _ w4).drew hb));refine ⟨_,rfl,hS,?_⟩;(try clear hb);refine ar ?_;refine aj ?_;refine lV ⟨_,_,_,_,_,_⟩ (JR (JV ⟨wn.heap.size,0,JW⟩) 1 1) (wn.alloc (JU #[JO JP ab,JO JP (2*sa),JQ (be ad xd)] 278)) rfl mRf (by go_simp) (keepS hS (al _ _)) ?_;replace hS:=keepS hS (al wn (JU #[JO JP ab,JO JP (2*sa),JQ (be ad xd)] 278));have hOm:=HOn.out.next (al wn (JU #[JO JP ab,JO JP (2*sa),JQ (be ad xd)] 278));refine ar ?_;refine iB vJ ⟨_,_,_,_,_,_⟩ rfl mRf (.tmp 55) (.tmp 67) mRf w.heap.size _ _ X' [(⟨ab,2*sa,be ad xd⟩:Blk)] mRf mRf (by have:=hOm.2.2.1;rw [HAX.out.2.2.1] at this ⊢;exact this) (cF (heap_alloc_new wn _) _ rfl (by push_cast;rfl)) (by simp only [aG];have:=HN9.out;have:=HNM.out;omega) hS.1.size ?_;intro v9 w9 hA9;have hO9:=hOm.app hA9 (hNF.out);obtain ⟨⟨p9,c9,rfl⟩,-,-,-,-⟩:=id hO9;replace hS:=hS.app hO9.2.2.2.1 hA9.grown (by intro q e;injection e with e;subst e;exact hg1);refine ⟨hS,?_⟩;refine ar ?_;refine aj ?_;simp only [aO,bj];have HO9:=aa hO9;clear hS hS0 keepS hO9 hA9 hOm;go_wp2_with fail
       go_roundg X'.length
       case measure=>have:=HAX.out.1;simp only [ax,aG] at this;omega
       case rel=>exact ⟨X',⟨ab,2*sa,be ad xd⟩,m+1,rfl,by rw [HAX.out.2.2.1],⟨_,_,rfl⟩,by have:=HNM.out;omega,aa (by
        have h2:=HX.out;rw [fI] at h2;obtain ⟨⟨h3,h4⟩,h5,h6⟩:=h2;dsimp only at h3 h5;refine ⟨h4,by dsimp only;omega,?_⟩;rw [← h6]
        show _=(if sa=sa∧ab%(2*sa)=0 then _ else _)
        rw [if_pos ⟨rfl,HD.out⟩];rfl),HO9.out⟩
      ·have t1:((ab:Int)%(2*(sa:Int)) != 0)=true:=by rw [bne_iff_ne,HEM.out];omega
       have HR:=aa (HEX.out _ _ (by
        rw [fI]
        show (if sa=sa∧ab%(2*sa)=0 then _ else _)=_
        rw [if_neg (fun e=>hd e.2)];rfl) HX.out.2.2)
       clear hd
       exact ou
     ·have t1:¬ (sa:Int)=(xs:Int):=mOm
      have HR:=aa (HEX.out _ _ (by
       rw [fI]
       show (if sa=xs∧ab%(2*sa)=0 then _ else _)=_
       rw [if_neg (fun e=>hs e.1)];rfl) HX.out.2.2)
      clear hs
      exact ou
  ·obtain rfl:k=l.length:=mOm;have HZ:Hid (gp be fP M.reverse=Z):=aa (by rw [HZT.out,HM.out,dT,aT]);have hML:=hO.2.1;clear HM HROW HFIT HZT;rcases List.eq_nil_or_concat M with rfl | ⟨M',y,rfl⟩
   ·obtain rfl:N=0:=hML.symm;have hb:=hO.2.2.2.1;obtain rfl:fP=Z:=HZ.out;have co:=fun w=>ry ⟨#[5]⟩ [⟨#[5]⟩] mDe rfl w
    have HCO:=aa co;clear co hO;go_wp2_with fail;refine (HCO.out _).mono ?_;rintro _ w2 ⟨rfl,hb2⟩;go_wp2_with fail;go_ret;exact ⟨rfl,ah hb hb2⟩
   ·simp only [List.concat_eq_append] at *;obtain ⟨m,hm⟩:∃ m,m=M'.length:=⟨_,rfl⟩;have hNm:N=m+1:=by rw [← hML,ax,hm];rfl
    have gy:(M'++[y])[m]? = JV y:=by rw [hm,aK (aD _),Nat.sub_self];rfl
    obtain ⟨g,rfl,hg0,hg1,hgc,hcc⟩:=hO.at_ mOm;obtain ⟨y0,y1,y2⟩:=hcc m y gy;have i2:(m:Int) < (N:Int):=mOm;have i4:(0:Int)≤(m:Int):=mOm;have w1:IntKind.i64.wrap ((N:Int) - 2)=(m:Int) - 1:=by rw [show (N:Int) - 2=(m:Int) - 1 by omega];exact aF _ mOm
    have w2:IntKind.i64.wrap ((N:Int) - 1)=(m:Int):=by rw [show (N:Int) - 1=(m:Int) by omega];exact aF _ mOm
    have t0:((N:Int)==0)=false:=by rw [beq_eq_false_iff_ne];omega
    have HNM:=aa (And.intro hNm (And.intro hm hNk));have HO:=aa hO;have hyd:y.d.size=8:=(HO.out.2.2.2.2 y mSi).2.2.2;have HYD:=aa hyd;clear hML hNm hm hNk gy hcc hO hyd;go_wp2_with fail
    go_loopg [7,8] m (fun r t i w2=>∃ (d:ByteArray),t=JQ d∧Hid (d.size=8)∧i=JO JP ((r:Int) - 1)∧r≤m∧Hid ((M'.take r).reverse.foldl (fun t x=>be x.d t) d=Z)∧OwnR w w2 (JR (JV ⟨g,0,JW⟩) N cv) N (M'++[y]))
    case atStart=>exact ⟨y.d,rfl,HYD,rfl,aD _,aa (by
     rw [HNM.out.2.1,aT,← HZ.out,fI];rfl),HO.out⟩
    case round =>
     obtain ⟨d,rfl,HDS,rfl,hrm,HF,hOr⟩:=hrel;rcases gk with _ | r
     ·have HR:=aa hOr;have t1:¬ (0:Int)≤((0:Nat):Int) - 1:=mOm;obtain rfl:d=Z:=HF.out;clear hOr;go_wp2_with fail;go_ret;exact ⟨rfl,HR.out.2.2.2.1⟩
     ·obtain ⟨x,hx⟩:∃ x,M'[r]? = JV x:=⟨_,ai (by have:=HNM.out.2.1;omega)⟩;have gr:(M'++[y])[r]? = JV x:=by rw [List.getElem?_append_left (by have:=HNM.out.2.1;omega)];exact hx
      have hxd:x.d.size=8:=(hOr.2.2.2.2 x (List.mem_of_getElem? gr)).2.2.2;obtain ⟨g',eg,-,-,-,hcc⟩:=hOr.at_ (by have:=HNM.out.1;omega);injection eg with eg;injection eg with eg _ _;subst eg;obtain ⟨x0,x1,x2⟩:=hcc r x gr
      have HF2:Hid ((M'.take r).reverse.foldl (fun t x=>be x.d t) (be x.d d)=Z):=aa (by
       have:=HF.out;rw [aL,hx] at this
       simpa using this)
      have i5:(r:Int) < (N:Int):=by have:=HNM.out.1;omega
      have i6:(0:Int)≤(r:Int):=mOm;have co:=fun w=>ta x.d d mOm (by have:=HDS.out;omega) w
      have HCO:=aa co;have HOR:=aa hOr;have w6:IntKind.i64.wrap ((r:Int) - 1)=(r:Int) - 1:=aF _ (by have:=HNM.out;omega);rw [show (((r+1:Nat):Int) - 1)=(r:Int) by omega];clear co hOr hx gr hxd hcc i2 i4 w1 w2 t0 HF;go_wp2_with fail;refine (HCO.out _).mono ?_;rintro _ w5 ⟨rfl,hb5⟩;go_wp2_with fail
      go_roundg r
      case measure=>omega
      case rel=>exact ⟨_,rfl,aa rfl,by first | rfl | go_num,mOm,HF2,HOR.out.next hb5⟩
end
section
open Go Go.Proofs Go.RowKit Go.Sort Go.Lib
theorem wN:∀ {l m:List Blk} {p r:Nat},Row (l++m) p r→∃ q,Row l p q∧Row m q r
 | [],_,p,_,h=>⟨p,rfl,h⟩
 | x::l,m,p,r,h=>by
  obtain ⟨q,h1,h2⟩:=wN (l:=l) h.2;exact ⟨q,⟨h.1,h1⟩,h2⟩
theorem yO {l:List Blk} {n:Nat} (h:Row l 0 n):∀ k z,l.take (k+1)=l.take k++[z]→mR (iX be [] (l.take k)) z.b:=fun k z e=>by
 have h1:=h;rw [← List.take_append_drop (k+1) l,e,cq] at h1;obtain ⟨q,h2,h3⟩:=wN h1;rw [mH be _ [] 0 q rfl h2,show z.b=q from h3.1];exact sv be _ [] 0 q rfl h2
theorem qn (b:Nat) (l:List ByteArray):∀ n,n≤l.length→Row (dZ b (l.take n)) b (b+n)
 | 0,_=>rfl
 | n+1,h=>by
  rw [aL,ai (show n < l.length from h),Option.toList_some,mc];have hl:(l.take n).length=n:=by rw [aM];omega
  rw [hl];exact jk (qn b l n mOm) ⟨rfl,rfl⟩
theorem Es {l:List (Nat×Nat)} {d:List ByteArray} {x:Blk} (h:x∈bZ l d):(x.b,x.s)∈l∧x.d∈d:=by unfold bZ at h;obtain ⟨y,hy,rfl⟩:=List.mem_map.1 h;exact ⟨(List.of_mem_zip hy).1,(List.of_mem_zip hy).2⟩
theorem mz {i j:Nat} {d:List ByteArray} (hij:i≤j) (hj:j≤1000000) (hd:∀ s∈d,s.size=8):∀ x∈bZ (bY i j) d,Blk.fit x∧x.b+x.s≤1099511627776:=fun x hx=>by
 obtain ⟨h1,h2⟩:=Es hx;obtain ⟨k,hk⟩:=List.getElem?_of_mem h1;have h3:=vm hij hk;dsimp only at h3;exact ⟨⟨mOm,h3.2,mOm,hd _ h2⟩,mOm⟩
theorem qr:∀ (l st:List Blk),(∀ y∈st,Blk.fit y)→(∀ x∈l,Blk.fit x∧x.b+x.s≤1099511627776)→∀ y∈dO be st l,Blk.fit y
 | [],_,h,_=>h
 | x::l,st,h,hl=>qr l (fh be st x) (yJ be (fun _ _=>rfl) st x h (hl x mSi).1 (hl x mSi).2) (fun y hy=>hl y (List.mem_cons_of_mem _ hy))
theorem ws:∀ (st:List Blk) (d:ByteArray),d.size=8→(st.foldl (fun t x=>be x.d t) d).size=8
 | [],_,h=>h
 | x::st,d,_=>ws st (be x.d d) rfl
theorem zj {st:List Blk} (h:∀ y∈st,Blk.fit y):(gp be fP st).size=8:=by
 cases st with
 | nil=>rfl
 | cons a st=>exact ws st a.d (h a mSi).2.2.2
theorem nt {w:World} {p:Option Addr} {n c m:Nat} {L:List ByteArray} (h:LK bL w (JR p n c) L) (hm:m≤n):((p=JW∨c=m→LK bL w (JR p (n - m) (c - m)) (L.drop m))∧(p=JW∨c=m→LK bL w (JR p (n - m) 0) (L.drop m)))∧(∀ a,p=JV a→LK bL w (JR (JV (a.add m)) (n - m) (c - m)) (L.drop m)):=by
 obtain ⟨p',c',e,h1,h2,h3⟩:=id h;injection e with e1 e2 e3;subst e1 e2 e3;constructor
 ·suffices H:(p=JW∨c=m→LK bL w (JR p (L.length - m) (c - m)) (L.drop m)) from ⟨H,fun hc=>by
   have e:c - m=0:=by
    rcases hc with hc | hc
    ·have:=h2 hc;omega
    ·omega
   have:=H hc
   rwa [e] at this⟩
  intro hc
  have hl:L.length - m=0:=by
   rcases hc with hc | hc
   ·have:=h2 hc;omega
   ·omega
  refine ⟨p,c - m,by rw [bF],by rw [bF];omega,fun e=>?_,fun hl2=>?_⟩
  ·have:=h2 e;omega
  ·rw [bF] at hl2;omega
 ·rintro a rfl;by_cases hl:m < L.length
  ·obtain ⟨b,o,e,hb,_⟩:=h3 mOm;injection e with e;subst e;have:=h.drop (k:=1) (fun _=>rfl) (m:=m) mOm;rw [Nat.mul_one] at this;unfold Addr.add
   split
   ·rename_i e;subst e;simpa using this
   ·exact this
  ·exact ⟨_,_,by rw [bF],by rw [bF];omega,fun e=>(by cases e),fun hl2=>by rw [bF] at hl2;omega⟩
end
section
namespace Wr
open Go Go.RowKit Go.Sort Go.Lib
attribute [local go_sem] kz
theorem iz {n:Int} (h:0≤n) (h2:n < 10):itoa n=[UInt8.ofNat (48+n).toNat]:=by
 rcases jg n with ⟨_,e⟩ | ⟨h0,_⟩
 ·rw [e,decDigits,dif_pos mOm];have:(48+n).toNat=48+n.toNat:=mOm;rw [this]
 ·omega
theorem jM {n:Int} (h:10≤n):itoa n=itoa (n / 10)++itoa (n%10):=by
 rcases jg n with ⟨_,e⟩ | ⟨h0,_⟩
 ·rw [e,lS mOm,iz (n:=n%10) mOm mOm];rcases jg (n / 10) with ⟨_,e2⟩ | ⟨h0,_⟩
  ·rw [e2];have h1:n.toNat / 10=(n / 10).toNat:=mOm;have h2:48+n.toNat%10=(48+n%10).toNat:=mOm;rw [h1,h2]
  ·omega
 ·omega
theorem vp {n:Int} (h:n < 0):itoa n=45::itoa (-n):=by
 rcases jg n with ⟨_,_⟩ | ⟨_,e⟩
 ·omega
 ·rcases jg (-n) with ⟨_,e2⟩ | ⟨_,_⟩
  ·rw [e,e2]
  ·omega
theorem uZ {n:Int} (h:n < 0):n.tdiv 10 = -((-n) / 10):=by
 have:n.tdiv 10 = -((-n).tdiv 10):=by rw [Int.neg_tdiv,kK]
 rw [this,dS mOm]
theorem vc {n:Int} (h:n < 0):n.tmod 10 = -((-n)%10):=by
 have:n.tmod 10 = -((-n).tmod 10):=by rw [Int.neg_tmod,kK]
 rw [this,bQ mOm]
theorem Dd {n:Int} (h:n≤-10):itoa n=itoa (n.tdiv 10)++itoa (-(n.tmod 10)):=by rw [uZ mOm,vc mOm,vp (n:=n) mOm,jM (n:=-n) mOm,vp (n:=-(-n / 10)) mOm];simp
theorem nr (n:Int) (w:World) (hn:0≤n) (hs:n < 10) :
  Calls prog 122 #[JO JP n] w fun e w'=>e=JT (JQ ⟨(itoa n).toArray⟩)∧ac w.heap.size w w':=by
 have hw:IntKind.i64.wrap (48+n)=48+n:=aF _ mOm;have H:=aa (iz hn hs);go_enter func122,ntmps122;go_wp2_with fail;go_ret;exact ⟨cJ (by rw [H.out]),au _ _⟩
theorem nT {p:Prop} (h:p:=by
 go_enter func122,ntmps122;go_wp2_with fail;refine (c1 _).mono ?_;rintro x w1 ⟨rfl,hb1⟩;go_wp2_with fail;refine (c2 _).mono ?_;rintro x w2 ⟨rfl,hb2⟩;go_wp2_with fail;go_ret
 exact ⟨cJ (dl (by simp [H.out])),A7 hb1 hb2⟩):p:=h
theorem Cu (k:Nat):∀ (n:Int) (w:World),n.natAbs < k→-9223372036854775808≤n→n≤9223372036854775807→
  Calls prog 122 #[JO JP n] w fun e w'=>e=JT (JQ ⟨(itoa n).toArray⟩)∧ac w.heap.size w w':=by
 induction k with
 | zero=>intro n w h0;omega
 | succ k ih =>
  intro n w h1 h2 h3;by_cases hn:0≤n
  ·by_cases hs:n < 10
   ·exact nr n w hn hs
   ·have hl1:=bI (n / 10) mOm mOm;have hl2:=bI (n%10) mOm mOm;have H:=aa (jM (n:=n) mOm);have e1:n.tdiv 10=n / 10:=dS hn;have e2:n.tmod 10=n%10:=bQ hn;have c1:=fun w=>ih (n / 10) w mOm mOm mOm
    have c2:=fun w=>ih (n%10) w mOm mOm mOm
    clear ih;exact nT
  ·have hn':n < 0:=mOm;have t1:=uZ hn';have t2:=vc hn';by_cases hs : -10 < n
   ·have z:n.tdiv 10=0:=mOm;have e:n.tmod 10=n:=mOm;have hw:IntKind.i64.wrap (-n) = -n:=aF _ mOm;have H:=aa (vp hn');have hl:=bI (-n) mOm mOm;have c:=fun w=>nr (-n) w mOm mOm
    clear t1 t2 ih;go_enter func122,ntmps122;go_wp2_with fail;refine (c _).mono ?_;rintro x w1 ⟨rfl,hb1⟩;go_wp2_with fail;go_ret;exact ⟨cJ (dl (by simp [H.out])),hb1⟩
   ·have hl1:=bI (n.tdiv 10) mOm mOm;have hl2:=bI (-(n.tmod 10)) mOm mOm;have H:=aa (Dd (n:=n) mOm);have z:¬ n.tdiv 10=0:=mOm;have hw:IntKind.i64.wrap (-(n.tmod 10)) = -(n.tmod 10):=aF _ mOm;have c1:=fun w=>ih (n.tdiv 10) w mOm mOm mOm
    have c2:=fun w=>nr (-(n.tmod 10)) w mOm mOm
    clear ih t1 t2;exact nT
theorem uN (n:Int) (h0 : -9223372036854775808≤n) (h1:n≤9223372036854775807) (w:World) :
  Calls prog 122 #[JO JP n] w fun e w'=>e=JT (JQ ⟨(itoa n).toArray⟩)∧ac w.heap.size w w':=
 Cu (n.natAbs+1) n w mOm h0 h1
theorem ji (n:Int) (h0 : -9223372036854775808≤n) (h1:n≤9223372036854775807) (w:World) :
  Calls prog 58 #[JO JP n] w fun e w'=>e=JT (JQ ⟨(dj n).toArray⟩)∧ac w.heap.size w w':=by
 have hl:=bI n h0 h1;have c:=fun w=>uN n h0 h1 w
 go_enter func58,ntmps58;go_wp2_with fail;refine (c _).mono ?_;rintro x w1 ⟨rfl,hb1⟩;go_wp2_with fail;go_ret;exact ⟨cJ (dl (by simp [dj])),hb1⟩
theorem kC (s:ByteArray) (hs:s.size≤1000000) (w:World) :
  Calls prog 59 #[JQ s] w fun e w'=>e=JT (JQ ⟨(d8 s).toArray⟩)∧ac w.heap.size w w':=by
 have hl:=bI s.size mOm mOm;have c:=fun w=>uN s.size mOm mOm w
 go_enter func59,ntmps59;go_wp2_with fail;refine (c _).mono ?_;rintro x w1 ⟨rfl,hb1⟩;go_wp2_with fail;go_ret;exact ⟨cJ (dl (by simp [d8])),hb1⟩
end Wr
end
section
namespace Wr
open Go Go.RowKit Go.Sort Go.Lib
structure But (p:Nat) (w w':World):Prop where
 os:w'.os=w.os
 tape:w'.tape=w.tape
 output:w'.output=w.output
 size:w.heap.size≤w'.heap.size
 block:∀ k,k < w.heap.size→k ≠ p→w'.heap[k]? = w.heap[k]?
theorem But.refl (p:Nat) (w:World):But p w w:=⟨rfl,rfl,rfl,aD _,fun _ _ _=>rfl⟩
theorem But.trans {p:Nat} {a b c:World} (h:But p a b) (k:But p b c):But p a c:=
 ⟨k.os.trans h.os,k.tape.trans h.tape,k.output.trans h.output,Nat.le_trans h.size k.size,fun i hi hp=>(k.block i (Nat.lt_of_lt_of_le hi h.size) hp).trans (h.block i hi hp)⟩
theorem But.of {p:Nat} {w w':World} (h:ac w.heap.size w w'):But p w w':=⟨h.os,h.tape,h.output,h.size,fun k hk _=>h.block k hk⟩
theorem But.below {p B:Nat} {w w':World} (h:But p w w') (hp:B≤p) (hB:B≤w.heap.size):ac B w w':=⟨h.os,h.tape,h.output,h.size,fun k hk=>h.block k mOm mOm⟩
theorem But.set {p:Nat} {a w:World} (h:But p a w) (o:Nat) (v:Value):But p a (w.setCell ⟨p,o,JW⟩ v):=
 h.trans ⟨rfl,rfl,rfl,by simp [World.setCell],fun k _ hk=>Below.heap_setCell _ _ _ _ hk⟩
theorem But.cell {p:Nat} {w w':World} (h:But p w w') {b o:Nat} (hb:b ≠ p) {v:Value} (hc:w.cell? ⟨b,o,JW⟩=JV v):w'.cell? ⟨b,o,JW⟩=JV v:=by have hl:=am w _ hc;have hh:=h.block b hl hb;simp only [World.cell?] at hc ⊢;rw [hh];exact hc
def RdAt (w:World) (p:Nat) (s:ByteArray) (b:Bool):Prop:=w.cell? ⟨p,0,JW⟩=JV (JQ s)∧w.cell? ⟨p,1,JW⟩=JV (.bool b)∧w.frozen? ⟨p,0,JW⟩=false∧w.frozen? ⟨p,1,JW⟩=false
theorem RdAt.lt {w:World} {p:Nat} {s:ByteArray} {b:Bool} (h:RdAt w p s b):p < w.heap.size:=am w _ h.1
theorem RdAt.below {w w':World} {p:Nat} {s:ByteArray} {b:Bool} (h:RdAt w p s b) (hb:ac w.heap.size w w'):RdAt w' p s b:=
 ⟨mv0 hb h.1,mv0 hb h.2.1,((tY hb).2 _ _ h.lt).trans h.2.2.1,((tY hb).2 _ _ h.lt).trans h.2.2.2⟩
theorem Is (w:World) (s:ByteArray) (b:Bool) (t:TypeId):RdAt (w.alloc (JU #[JQ s,.bool b] t)) w.heap.size s b:=⟨by simp [go_sem],by simp [go_sem],by simp [go_sem],by simp [go_sem]⟩
def Ji (s:ByteArray) (w:World) (e:Ending) (w':World):Prop:=∃ p:Nat,e=JT (JS (JV ⟨p,0,JW⟩))∧w.heap.size≤p∧RdAt w' p s false∧ac w.heap.size w w'
theorem new_any (s:ByteArray) (w:World):Calls prog 161 #[JQ s] w (Ji s w):=by have h:=Is w s false 241;go_enter func161,ntmps161;go_wp2_with fail;go_ret;exact ⟨_,rfl,aD _,h,au _ _⟩
theorem bad_any (p:Nat) (s:ByteArray) (b:Bool) (w:World) (h:RdAt w p s b):Calls prog 164 #[JS (JV ⟨p,0,JW⟩)] w fun e w'=>e=JT (.bool b)∧w=w':=by obtain ⟨h0,h1,-,-⟩:=h;go_enter func164,ntmps164;go_wp2_with fail;go_ret;exact ⟨rfl,rfl⟩
theorem left_any (p:Nat) (s:ByteArray) (b:Bool) (w:World) (h:RdAt w p s b):Calls prog 165 #[JS (JV ⟨p,0,JW⟩)] w fun e w'=>e=JT (JO JP (if b=true then 0 else (s.size:Int)))∧w=w':=by
 have c:=bad_any p s b w h;obtain ⟨h0,h1,-,-⟩:=h
 cases b
 all_goals
  go_enter func165,ntmps165
  go_wp2_with fail;refine c.mono ?_;rintro x _ ⟨rfl,rfl⟩;go_wp2_with fail;go_ret;exact ⟨rfl,rfl⟩
theorem RdAt.set {w:World} {p:Nat} {s:ByteArray} {b:Bool} (h:RdAt w p s b) (s':ByteArray):RdAt (w.setCell ⟨p,0,JW⟩ (JQ s')) p s' b:=by obtain ⟨h0,h1,f0,f1⟩:=h;exact ⟨World.cell?_setCell_same _ _ _ h0,(World.cell?_setCell_other _ _ _ _ mSi).trans h1,by simpa using f0,by simpa using f1⟩
theorem RdAt.spoil {w:World} {p:Nat} {s:ByteArray} {b:Bool} (h:RdAt w p s b) (b':Bool):RdAt (w.setCell ⟨p,1,JW⟩ (.bool b')) p s b':=by obtain ⟨h0,h1,f0,f1⟩:=h;exact ⟨(World.cell?_setCell_other _ _ _ _ mSi).trans h0,World.cell?_setCell_same _ _ _ h1,by simpa using f0,by simpa using f1⟩
theorem qi (p:Nat) (s:ByteArray) (b:Bool) (w:World) (h:RdAt w p s b):Calls prog 217 #[JS (JV ⟨p,0,JW⟩)] w fun e w'=>e=JT (.tuple #[])∧RdAt w' p ⟨#[]⟩ true∧But p w w':=by
 have hE:=(h.spoil true).set ⟨#[]⟩;have hB:=((But.refl p w).set 1 (.bool true)).set 0 (JQ ⟨#[]⟩);have hl:=h.lt;obtain ⟨h0,h1,f0,f1⟩:=h;go_enter func217,ntmps217;go_wp2_with fail
 go_end0
 exact ⟨rfl,hE,hB⟩
end Wr
end
section
namespace Wr
open Go Go.RowKit Go.Sort Go.Lib
def gF (s:List UInt8) (c:UInt8):Option (Int×List UInt8):=
 if (jB s [c]).2.2=true then
  match atoiAll (jB s [c]).1 with
  | .ok n=>if itoa n=(jB s [c]).1 then some (n,(jB s [c]).2.1) else none
  | _=>none
 else JW
theorem atoi_ok (s:ByteArray) (hs:s.size≤4294967280) (v:Int) (h:kL s.data.toList=.ok v) (w:World) :
  Calls prog 212 #[JQ s] w fun e w'=>e=JT (.tuple #[JO JP v,.nilIface])∧ac w.heap.size w w':=
 (Tryz.strconv_Atoi_ok s mOm v h w).mono fun e w' ⟨he,hw⟩=>⟨he,by
  rcases hw with rfl | ⟨t,rfl⟩
  ·exact Below.refl _ _
  ·exact Lib.bytesWorld_below _ _ _⟩
def Sane (w:World):Prop:=Tabs w∧∃ m,w.cell? ⟨1,0,JW⟩=JV (JO JP m)
theorem Sane.below {w w':World} (h:Sane w) (hb:ac w.heap.size w w'):Sane w':=by obtain ⟨h1,m,h2⟩:=h;exact ⟨h1.below hb,m,by rw [(tY hb).1 _ _ (am w _ h2)];exact h2⟩
theorem xM {B:Nat} {a w:World} (h:ac B a w) (n:Nat):ac B a (w.drewN n):=⟨h.os,h.tape,h.output,h.size,h.block⟩
theorem rS (s sep:ByteArray) (w:World) (h:Sane w) (hs:s.size≤4294967280) :
  Calls prog 250 #[JQ s,JQ sep] w fun e w'=>e=JT (.tuple #[JQ ⟨(jB s.data.toList sep.data.toList).1.toArray⟩,JQ ⟨(jB s.data.toList sep.data.toList).2.1.toArray⟩,.bool (jB s.data.toList sep.data.toList).2.2])∧ac w.heap.size w w':=by
 obtain ⟨_,m,hm⟩:=h;exact (Tryz.strings_Cut s sep m w mOm hm).mono fun e w' ⟨he,n,hw⟩=>⟨he,by rw [hw];exact xM (Below.refl _ _) n⟩
def tW (p:Nat) (w:World) (e:Ending) (w':World):Prop:=e=JT (.tuple #[JO JP 0,.bool false])∧RdAt w' p ⟨#[]⟩ true∧But p w w'
@[local go_sem] theorem yv {l:Nat} {J:Act→World→Prop} {Q:Exit→Act→World→Prop} {a:Act} {w:World}:Exit.jump l J Q .ret a w=Q .ret a w:=rfl
def AR (p:Nat) (w0:World) (a:Act) (w:World):Prop:=(∃ u1 u2 u3 u4 u5 u6 u7 u8 u9 a0 a1 a2 a3 a4 a5 a6 a7 a8 a9 ab ad af ag ao b0 b1 b2 b3 b4 b5 b6 b7 b8 b9 ba bb bc bd bf bg:Value,a=⟨List.toArray (JS (JV ⟨p,0,JW⟩)::[u1,u2,u3,u4,u5,u6,u7,u8,u9,a0,a1,a2,a3,a4,a5,a6,a7,a8,a9,ab,ad,af,ag,ao,b0,b1,b2,b3,b4,b5,b6,b7,b8,b9,ba,bb,bc,bd,bf,bg]),[]⟩)∧(∃ s b,RdAt w p s b)∧But p w0 w
theorem oB {p:Prop} (h:p:=by
 have cf:=qi p s' b' wr hR
 (try go_step3)
 go_wp2_with fail;refine cf.mono ?_;rintro x w2 ⟨rfl,hR2,hB2⟩;go_wp2_with fail
 (try simp only [yv])
 (try simp only [Exit.inBlock,Exit.then]);refine bodyPost_ret (results_tmp2 rfl _ _ _) rfl ?_
 exact ⟨rfl,hR2,hB.trans hB2⟩):p:=h
theorem Cn (p:Nat) (s:ByteArray) (c:UInt8) (w:World) (h:RdAt w p s true) :
  Calls prog 216 #[JS (JV ⟨p,0,JW⟩),JQ ⟨#[c]⟩] w (tW p w):=by
 have cb:=bad_any p s true w h;go_enter func216,ntmps216;go_wp2_with fail;refine wp_scope_jumps 0 (AR p w) (fun _ _=>0) rfl ?_ ?_
 ·go_wp2_with fail;refine cb.mono ?_;rintro x _ ⟨rfl,rfl⟩;go_wp2_with fail
  go_step3
  exact ⟨rfl,⟨_,_,_,_,_,_,_,_,_,_,_,_,_,_,_,_,_,_,_,_,_,_,_,_,_,_,_,_,_,_,_,_,_,_,_,_,_,_,_,_,rfl⟩,⟨s,true,h⟩,But.refl _ _⟩
 ·rintro _ wr ⟨⟨u1,u2,u3,u4,u5,u6,u7,u8,u9,a0,a1,a2,a3,a4,a5,a6,a7,a8,a9,ab,ad,af,ag,ao,b0,b1,b2,b3,b4,b5,b6,b7,b8,b9,ba,bb,bc,bd,bf,bg,rfl⟩,⟨s',b',hR⟩,hB⟩;exact oB
theorem Co (p:Nat) (s:ByteArray) (hs:s.size≤100000000) (c:UInt8) (w:World) (h:RdAt w p s false) (ht:Sane w) (u v:List UInt8) (hc:jB s.data.toList [c]=(u,v,false)) :
  Calls prog 216 #[JS (JV ⟨p,0,JW⟩),JQ ⟨#[c]⟩] w (tW p w):=by
 have cb:=bad_any p s false w h;have cc:=rS s ⟨#[c]⟩ w ht mOm;rw [show (⟨#[c]⟩:ByteArray).data.toList=[c] from rfl,hc] at cc;clear hc;obtain ⟨h0,h1,-,-⟩:=id h;go_enter func216,ntmps216;go_wp2_with fail;refine wp_scope_jumps 0 (AR p w) (fun _ _=>0) rfl ?_ ?_
 ·go_wp2_with fail;refine cb.mono ?_;rintro x _ ⟨rfl,rfl⟩;go_wp2_with fail;refine cc.mono ?_;rintro x w1 ⟨rfl,hb⟩;have hR:=(h.below hb).set ⟨v.toArray⟩;have hB:=(But.of (p:=p) hb).set 0 (JQ ⟨v.toArray⟩);obtain ⟨k0,k1,f0,f1⟩:=h.below hb;have hl:=(h.below hb).lt;clear h0 h1 h;go_wp2_with fail
  go_step3
  exact ⟨rfl,⟨_,_,_,_,_,_,_,_,_,_,_,_,_,_,_,_,_,_,_,_,_,_,_,_,_,_,_,_,_,_,_,_,_,_,_,_,_,_,_,_,rfl⟩,⟨_,_,hR⟩,hB⟩
 ·rintro _ wr ⟨⟨u1,u2,u3,u4,u5,u6,u7,u8,u9,a0,a1,a2,a3,a4,a5,a6,a7,a8,a9,ab,ad,af,ag,ao,b0,b1,b2,b3,b4,b5,b6,b7,b8,b9,ba,bb,bc,bd,bf,bg,rfl⟩,⟨s',b',hR⟩,hB⟩;exact oB
end Wr
end
section
namespace Wr
open Go Go.RowKit Go.Sort Go.Lib
def ErrVars (w : World) : Prop := (∃ tp p, w.var? prog "strconv.ErrSyntax" = JV #[.iface tp p]) ∧ ∃ tp p, w.var? prog "strconv.ErrRange" = JV #[.iface tp p]
theorem wT {w w':World} {n:String} {cs:Array Value} (h:w.var? prog n=JV cs) (hb:ac w.heap.size w w'):w'.var? prog n=JV cs:=by
 unfold World.var? at *
 cases hg:prog.globalNamed n with
 | none=>simp only [hg] at h;cases h
 | some g =>
  simp only [hg,Option.bind_some] at h ⊢;have hlt:g < w.heap.size:=by
   rcases gH g w.heap.size with hx | hx
   ·exact hx
   ·rw [fC hx] at h;cases h
  rw [hb.block g hlt];exact h
theorem ErrVars.below {w w':World} (h:ErrVars w) (hb:ac w.heap.size w w'):ErrVars w':=by obtain ⟨⟨t1,p1,h1⟩,t2,p2,h2⟩:=h;exact ⟨⟨t1,p1,wT h1 hb⟩,t2,p2,wT h2 hb⟩
def Gr (w:World) (e:Ending) (w':World):Prop:=∃ (n:Int) (t:TypeId) (a:Addr),e=JT (.tuple #[JO JP n,.iface t (JS (JV a))])∧ac w.heap.size w w'
theorem atoi_bad (s:ByteArray) (hs:s.size≤4294967280) (h:∀ v,kL s.data.toList ≠ .ok v) (w:World) (hv:ErrVars w) :
  Calls prog 212 #[JQ s] w (Gr w):=by
 obtain ⟨⟨t1,p1,h1⟩,t2,p2,h2⟩:=hv;rcases hx:kL s.data.toList with v | _ | _
 ·exact absurd hx (h v)
 ·exact (Any.strconv_Atoi_syntax_var laysC172 s mOm hx t1 p1 w h1).mono fun e w' ⟨N,he,_,_,hb⟩=>⟨_,_,_,he,hb⟩
 ·exact (Any.strconv_Atoi_range_var laysC172 s mOm hx t2 p2 w h2).mono fun e w' ⟨N,he,_,_,hb⟩=>⟨_,_,_,he,hb⟩
def Past (p:Nat):Prop:=1 < p∧0 < p∧2 < p∧3 < p
theorem Sane.but {w w':World} {p:Nat} (h:Sane w) (hB:But p w w') (hp:Past p):Sane w':=by obtain ⟨h1,m,h2⟩:=h;obtain ⟨p1,p2,-,-⟩:=hp;have l1:=h1.lt;have b1:=hB.below (B:=0+1) mOm mOm;exact ⟨var?_below b1 BZ mOm h1,m,hB.cell mOm h2⟩
theorem ErrVars.but {w w':World} {p:Nat} (h:ErrVars w) (hB:But p w w') (hp:Past p):ErrVars w':=by
 have key:∀ {n:String} {cs:Array Value} (g:Nat),prog.globalNamed n=JV g→g < p→w.var? prog n=JV cs→w'.var? prog n=JV cs:=by
  intro n cs g hg hgp h;have hlt:g < w.heap.size:=by
   unfold World.var? at h;rw [hg] at h;simp only [Option.bind_some] at h;rcases gH g w.heap.size with hx | hx
   ·exact hx
   ·rw [fC hx] at h;cases h
  exact var?_below (hB.below (B:=g+1) mOm mOm) hg mOm h
 obtain ⟨⟨t1,p1,h1⟩,t2,p2,h2⟩:=h
 exact ⟨⟨t1,p1,key 2 mKr hp.2.2.1 h1⟩,t2,p2,key 3 mKr hp.2.2.2 h2⟩
theorem Q5 {p q:Prop} (h:q) (f:Wq q→p:=by
 intro hq;refine cc.mono ?_;rintro x w1 ⟨rfl,hb⟩;have hR:=(h.below hb).set ⟨v.toArray⟩;have hB:=(But.of (p:=p) hb).set 0 (JQ ⟨v.toArray⟩);obtain ⟨k0,k1,f0,f1⟩:=h.below hb;have hl:=(h.below hb).lt
 revert w1 hb hR hB k0 k1 f0 f1 hl
 exact hq.1):p:=f ⟨h⟩
theorem QM {p q:Prop} (h:q) (f:Wq q→p:=by
 intro hq;have cb:=bad_any p s false w h;have cc:=rS s ⟨#[c]⟩ w ht mOm;rw [show (⟨#[c]⟩:ByteArray).data.toList=[c] from rfl,hc] at cc
 revert cb cc
 exact hq.1):p:=f ⟨h⟩
theorem DX (p:Nat) (hp:Past p) (s:ByteArray) (hs:s.size≤100000000) (c:UInt8) (w:World) (h:RdAt w p s false) (ht:Sane w) (u v:List UInt8) (hu:u.length≤100000000) (hc:jB s.data.toList [c]=(u,v,true)) (n:Int) (hn : -9223372036854775808≤n∧n≤9223372036854775807) (ha:atoiAll u=.ok n) (hi:itoa n=u) :
  Calls prog 216 #[JS (JV ⟨p,0,JW⟩),JQ ⟨#[c]⟩] w fun e w'=>e=JT (.tuple #[JO JP n,.bool true])∧RdAt w' p ⟨v.toArray⟩ false∧But p w w':=by
 refine QM ?_;intro cb cc;clear hc;obtain ⟨h0,h1,-,-⟩:=id h;have ca:=fun w=>atoi_ok ⟨u.toArray⟩ (by simp [ByteArray.size];omega) n (by simpa using ha) w
 have HI:=aa hi;clear ha hi;go_enter func216,ntmps216;go_wp2_with fail
 go_step3
 go_wp2_with fail;refine cb.mono ?_;rintro x _ ⟨rfl,rfl⟩;go_wp2_with fail;refine Q5 ?_;intro w1 hb hR hB k0 k1 f0 f1 hl;clear h0 h1 h;go_wp2_with fail;refine (ca _).mono ?_;rintro x w2 ⟨rfl,hb2⟩;replace hR:=hR.below hb2;replace hB:=hB.trans (But.of hb2);clear hb2 k0 k1 f0 f1 hl;go_wp2_with fail;refine (jR n _ hn.1 hn.2 (ht.but hB hp).1).mono ?_;rintro x w3 ⟨rfl,hb3⟩;replace hR:=hR.below hb3;replace hB:=hB.trans (But.of hb3);clear hb3;rw [HI.out];go_wp2_with fail;rw [Exit.noGoto_ret]
 (try simp only [Exit.inBlock,Exit.then]);refine bodyPost_ret (results_tmp2 rfl _ _ _) rfl ?_
 exact ⟨rfl,hR,hB⟩
theorem oO {p:Prop} (h:p:=by
 have cf:=qi p s' b' wr hR
 (try go_step3)
 go_wp2_with fail;refine cf.mono ?_;rintro x w2 ⟨rfl,hR2,hB2⟩;go_wp2_with fail
 (try simp only [yv])
 (try simp only [Exit.inBlock,Exit.then]);refine bodyPost_ret (results_tmp2 rfl _ _ _) rfl ?_
 exact ⟨rfl,hR2,hB.trans hB2⟩):p:=h
theorem oq {p:Prop} (h:p:=by
 go_wp2_with fail
 go_step3
 exact ⟨rfl,⟨_,_,_,_,_,_,_,_,_,_,_,_,_,_,_,_,_,_,_,_,_,_,_,_,_,_,_,_,_,_,_,_,_,_,_,_,_,_,_,_,rfl⟩,⟨_,_,hR⟩,hB⟩):p:=h
theorem zQ (p:Nat) (hp:Past p) (s:ByteArray) (hs:s.size≤100000000) (c:UInt8) (w:World) (h:RdAt w p s false) (ht:Sane w) (u v:List UInt8) (hu:u.length≤100000000) (hc:jB s.data.toList [c]=(u,v,true)) (n:Int) (hn : -9223372036854775808≤n∧n≤9223372036854775807) (ha:atoiAll u=.ok n) (hi:itoa n ≠ u) :
  Calls prog 216 #[JS (JV ⟨p,0,JW⟩),JQ ⟨#[c]⟩] w (tW p w):=by
 refine QM ?_;intro cb cc;clear hc;obtain ⟨h0,h1,-,-⟩:=id h;have ca:=fun w=>atoi_ok ⟨u.toArray⟩ (by simp [ByteArray.size];omega) n (by simpa using ha) w
 clear ha;go_enter func216,ntmps216;go_wp2_with fail;refine wp_scope_jumps 0 (AR p w) (fun _ _=>0) rfl ?_ ?_
 ·go_wp2_with fail;refine cb.mono ?_;rintro x _ ⟨rfl,rfl⟩;go_wp2_with fail;refine Q5 ?_;intro w1 hb hR hB k0 k1 f0 f1 hl;clear h0 h1 h;go_wp2_with fail;refine (ca _).mono ?_;rintro x w2 ⟨rfl,hb2⟩;replace hR:=hR.below hb2;replace hB:=hB.trans (But.of hb2);clear hb2 k0 k1 f0 f1 hl;go_wp2_with fail;refine (jR n _ hn.1 hn.2 (ht.but hB hp).1).mono ?_;rintro x w3 ⟨rfl,hb3⟩;replace hR:=hR.below hb3;replace hB:=hB.trans (But.of hb3);clear hb3;have hne:(itoa n==u)=false:=by simpa using hi
  clear hi;exact oq
 ·rintro _ wr ⟨⟨u1,u2,u3,u4,u5,u6,u7,u8,u9,a0,a1,a3,a4,a5,a6,a7,a8,a9,ab,ad,af,ag,ao,b0,b2,b3,b4,b5,b6,b7,b8,b9,ba,bb,bc,bd,bf,bg,bh,bk,rfl⟩,⟨s',b',hR⟩,hB⟩;exact oO
theorem su (p:Nat) (hp:Past p) (s:ByteArray) (hs:s.size≤100000000) (c:UInt8) (w:World) (h:RdAt w p s false) (ht:Sane w) (u v:List UInt8) (hu:u.length≤100000000) (hc:jB s.data.toList [c]=(u,v,true)) (he:ErrVars w) (ha:∀ n,atoiAll u ≠ .ok n) :
  Calls prog 216 #[JS (JV ⟨p,0,JW⟩),JQ ⟨#[c]⟩] w (tW p w):=by
 refine QM ?_;intro cb cc;clear hc;obtain ⟨h0,h1,-,-⟩:=id h;have ca:=fun w he=>atoi_bad ⟨u.toArray⟩ (by simp [ByteArray.size];omega) (by simpa using ha) w he
 clear ha;go_enter func216,ntmps216;go_wp2_with fail;refine wp_scope_jumps 0 (AR p w) (fun _ _=>0) rfl ?_ ?_
 ·go_wp2_with fail;refine cb.mono ?_;rintro x _ ⟨rfl,rfl⟩;go_wp2_with fail;refine Q5 ?_;intro w1 hb hR hB k0 k1 f0 f1 hl;clear h0 h1 h;go_wp2_with fail;refine (ca _ (he.but hB hp)).mono ?_;rintro x w2 ⟨n2,t2,a2,rfl,hb2⟩;replace hR:=hR.below hb2;replace hB:=hB.trans (But.of hb2);clear hb2 k0 k1 f0 f1 hl;exact oq
 ·rintro _ wr ⟨⟨u1,u2,u3,u4,u5,u6,u7,u8,u9,a0,a1,a3,a4,a5,a6,a7,a8,a9,ab,ad,af,ag,ao,b0,b2,b3,b4,b5,b6,b7,b8,b9,ba,bb,bc,bd,bf,bg,bh,bk,rfl⟩,⟨s',b',hR⟩,hB⟩;exact oO
end Wr
end
section
namespace Wr
open Go Go.RowKit Go.Sort Go.Lib
theorem xJ {l:List UInt8} {n:Int} (h:kL l=.ok n) : -9223372036854775808≤n∧n≤9223372036854775807:=by
 unfold kL at h
 split at h
 ·cases h
 ·simp only at h
  split at h
  ·cases h
  ·cases h
  ·split at h
   ·cases h
   ·split at h
    ·cases h
    ·injection h with h;subst h
     split <;> omega
theorem Gx (s sep:List UInt8):(jB s sep).1.length≤s.length∧(jB s sep).2.1.length≤s.length:=by
 unfold jB
 split
 ·exact ⟨by simp [aM];omega,by simp [bF]⟩
 ·exact ⟨aD _,aR _⟩
def Reads {α:Type} (p:Nat) (ok:α→Value) (bad:Value) (z:Option (α×List UInt8)) (w:World) (e:Ending) (w':World):Prop:=
 match z with
 | some (n,r)=>e=.returned (ok n)∧RdAt w' p ⟨r.toArray⟩ false∧But p w w'
 | none=>e=.returned bad∧RdAt w' p ⟨#[]⟩ true∧But p w w'
theorem jh (p:Nat) (hp:Past p) (s:ByteArray) (hs:s.size≤100000000) (b:Bool) (c:UInt8) (w:World) (h:RdAt w p s b) (ht:Sane w) (he:ErrVars w) :
  Calls prog 216 #[JS (JV ⟨p,0,JW⟩),JQ ⟨#[c]⟩] w (Reads p (fun n=>.tuple #[JO JP n,.bool true]) (.tuple #[JO JP 0,.bool false]) (if b=true then JW else gF s.data.toList c) w):=by
 cases b
 ·rw [if_neg mDe];have hl:=(Gx s.data.toList [c]).1;have hz:=bw s;rcases hc:jB s.data.toList [c] with ⟨u,v,x⟩;rw [hc] at hl
  cases x
  ·have e:gF s.data.toList c=JW:=by unfold gF;rw [hc];rfl
   rw [e];exact Co p s hs c w h ht u v hc
  ·have hu:u.length≤100000000:=by simp only at hl;omega
   rcases ha:atoiAll u with n | _ | _
   ·have hn:=xJ ha;by_cases hi:itoa n=u
    ·have e:gF s.data.toList c=JV (n,v):=by unfold gF;rw [hc];simp only [if_true,ha,hi]
     rw [e];exact DX p hp s hs c w h ht u v hu hc n hn ha hi
    ·have e:gF s.data.toList c=JW:=by unfold gF;rw [hc];simp only [if_true,ha,if_neg hi]
     rw [e];exact zQ p hp s hs c w h ht u v hu hc n hn ha hi
   ·have e:gF s.data.toList c=JW:=by unfold gF;rw [hc];simp only [if_true,ha]
    rw [e];exact su p hp s hs c w h ht u v hu hc he (fun n hx=>by rw [ha] at hx;cases hx)
   ·have e:gF s.data.toList c=JW:=by unfold gF;rw [hc];simp only [if_true,ha]
    rw [e];exact su p hp s hs c w h ht u v hu hc he (fun n hx=>by rw [ha] at hx;cases hx)
 ·rw [if_pos rfl];exact Cn p s c w h
theorem rdInt_any (p:Nat) (hp:Past p) (s:ByteArray) (hs:s.size≤100000000) (b:Bool) (w:World) (h:RdAt w p s b) (ht:Sane w) (he:ErrVars w) :
  Calls prog 162 #[JS (JV ⟨p,0,JW⟩)] w (Reads p (fun n=>JO JP n) (JO JP 0) (if b=true then JW else gF s.data.toList 59) w):=by
 have c:=jh p hp s hs b 59 w h ht he;generalize (if b=true then none else gF s.data.toList 59)=z at c ⊢;rcases z with _ | ⟨n,r⟩
 all_goals
  unfold Reads at c ⊢
  dsimp only at c ⊢;clear h ht he;go_enter func162,ntmps162;go_wp2_with fail;refine c.mono ?_;rintro x w1 ⟨rfl,hR,hB⟩;go_wp2_with fail;go_ret;exact ⟨rfl,hR,hB⟩
end Wr
end
section
namespace Wr
open Go Go.RowKit Go.Sort Go.Lib
def textP (s:List UInt8):Option (List UInt8×List UInt8):=
 match gF s 58 with
 | some (n,r)=>if n < 0∨(r.length:Int) < n then none else some (r.take n.toNat,r.drop n.toNat)
 | none=>none
theorem ph {p:Prop} (h:p:=by
 go_enter func163,ntmps163;go_wp2_with fail;refine c.mono ?_;rintro x w1 ⟨rfl,hR,hB⟩;have cf:=qi p _ _ _ hR;obtain ⟨k0,k1,-,-⟩:=id hR;go_wp2_with fail;refine cf.mono ?_;rintro x w2 ⟨rfl,hR2,hB2⟩;go_wp2_with fail;go_ret
 exact ⟨rfl,hR2,hB.trans hB2⟩):p:=h
theorem rdText_any (p:Nat) (hp:Past p) (s:ByteArray) (hs:s.size≤100000000) (b:Bool) (w:World) (h:RdAt w p s b) (ht:Sane w) (he:ErrVars w) :
  Calls prog 163 #[JS (JV ⟨p,0,JW⟩)] w (Reads p (fun t=>JQ ⟨t.toArray⟩) (JQ ⟨#[]⟩) (if b=true then JW else textP s.data.toList) w):=by
 have c:=jh p hp s hs b 58 w h ht he
 have e:(if b=true then none else textP s.data.toList)=match (if b=true then none else gF s.data.toList 58) with
   | some (n,r)=>if n < 0∨(r.length:Int) < n then none else some (r.take n.toNat,r.drop n.toNat)
   | none=>none:=by cases b <;> rfl
 rw [e]
 clear e;generalize (if b=true then none else gF s.data.toList 58)=z at c ⊢;rcases z with _ | ⟨n,r⟩
 ·unfold Reads at c ⊢;dsimp only at c ⊢;clear h ht he;go_enter func163,ntmps163;go_wp2_with fail;refine c.mono ?_;rintro x w1 ⟨rfl,hR,hB⟩;have cf:=qi p _ _ _ hR;go_wp2_with fail;refine cf.mono ?_;rintro x w2 ⟨rfl,hR2,hB2⟩;go_wp2_with fail;go_ret;exact ⟨rfl,hR2,hB.trans hB2⟩
 ·have hrz:(⟨r.toArray⟩:ByteArray).size=r.length:=by simp [ByteArray.size]
  have hx:(n < 0)∨(0≤n∧(r.length:Int) < n)∨(0≤n∧n≤r.length):=mOm;rcases hx with h1 | ⟨h1,h2⟩ | ⟨h1,h2⟩
  ·have hk:n < 0∨(r.length:Int) < n:=.inl h1;dsimp only;rw [if_pos hk];unfold Reads at c ⊢;dsimp only at c ⊢;clear h ht he hk hrz;exact ph
  ·have hk:n < 0∨(r.length:Int) < n:=.inr h2;dsimp only;rw [if_pos hk];unfold Reads at c ⊢;dsimp only at c ⊢;clear h ht he hk;exact ph
  ·have hk:¬ (n < 0∨(r.length:Int) < n):=mOm;have h3:n≤(⟨r.toArray⟩:ByteArray).size:=by rw [hrz];exact h2
   have e1:(⟨r.toArray⟩:ByteArray).extract 0 n.toNat=⟨(r.take n.toNat).toArray⟩:=dl (by simp [ByteArray.data_extract]);have e2:(⟨r.toArray⟩:ByteArray).extract n.toNat r.length=⟨(r.drop n.toNat).toArray⟩:=dl (by simp [ByteArray.data_extract];rw [List.take_of_length_le mSi]);dsimp only;rw [if_neg hk];unfold Reads at c ⊢;dsimp only at c ⊢;clear h ht he hk;go_enter func163,ntmps163;go_wp2_with fail;refine c.mono ?_;rintro x w1 ⟨rfl,hR,hB⟩;have hS:=hR.set ⟨(r.drop n.toNat).toArray⟩;have hB2:=hB.set 0 (JQ ⟨(r.drop n.toNat).toArray⟩);have hl:=hR.lt;obtain ⟨k0,k1,f0,f1⟩:=id hR;clear hR;go_wp2_with fail;go_ret;exact ⟨rfl,hS,hB2⟩
end Wr
end
section
namespace Wr
open Go Go.Lib
def Off (c:UInt8):Prop:=c ≠ 45∧¬ (48≤c.toNat∧c.toNat≤57)
def xE (n:Int):Prop:=-9223372036854775808≤n∧n≤9223372036854775807
theorem I9:Off 58:=by unfold Off;decide
theorem Ja:Off 59:=by unfold Off;decide
theorem Fs (n:Int) {c:UInt8} (h:Off c):∀ x∈itoa n,x ≠ c:=by
 intro x hx e;subst e;rcases jg n with ⟨_,e⟩ | ⟨_,e⟩ <;> rw [e] at hx
 ·exact h.2 (mA _ _ hx)
 ·rcases List.mem_cons.1 hx with k | k
  ·exact h.1 k
  ·exact h.2 (mA _ _ k)
theorem yr (d:UInt8):∀ (l:List UInt8),(∀ c∈l,c ≠ d)→index l [d] = -1
 | [],_=>rfl
 | b::l,h=>by
  have hb:b ≠ d:=h b mSi;have:=yr d l (fun c hc=>h c (by simp [hc]));simp only [index,this];rw [if_neg (by simp [List.isPrefixOf];exact fun e=>hb e.symm)];rfl
theorem Dx (d:UInt8):∀ (l r:List UInt8),(∀ c∈l,c ≠ d)→index (l++d::r) [d]=l.length
 | [],r,_=>by simp [index,List.isPrefixOf]
 | b::l,r,h=>by
  have hb:b ≠ d:=h b mSi;have:=Dx d l r (fun c hc=>h c (by simp [hc]));simp only [List.cons_append,index,this];rw [if_neg (by simp [List.isPrefixOf];exact fun e=>hb e.symm),if_neg mSi];simp
theorem ES {d:UInt8} {l:List UInt8} (h:∀ c∈l,c ≠ d):jB l [d]=(l,[],false):=by unfold jB;rw [yr d l h];rfl
theorem Hx {d:UInt8} {l r:List UInt8} (h:∀ c∈l,c ≠ d):jB (l++d::r) [d]=(l,r,true):=by unfold jB;rw [Dx d l r h,if_pos mOm];simp
theorem Gb (d:UInt8) (s:List UInt8):(∀ c∈s,c ≠ d)∨∃ u v,s=u++d::v∧∀ c∈u,c ≠ d:=by
 by_cases h:d∈s
 ·obtain ⟨u,v,e,hu⟩:=List.eq_append_cons_of_mem h;exact .inr ⟨u,v,e,fun c hc e=>hu (e ▸ hc)⟩
 ·exact .inl fun c hc e=>h (e ▸ hc)
theorem DW {s:List UInt8} {d:UInt8} (h:∀ c∈s,c ≠ d):gF s d=JW:=by unfold gF;rw [ES h];rfl
theorem AH {u v:List UInt8} {d:UInt8} (h:∀ c∈u,c ≠ d):gF (u++d::v) d=match atoiAll u with | .ok n=>if itoa n=u then some (n,v) else none | _=>none:=by unfold gF;rw [Hx h];rfl
theorem wI {n:Int} (hn:xE n) {d:UInt8} (hd:Off d) (r:List UInt8):gF (itoa n++d::r) d=JV (n,r):=by rw [AH (Fs n hd),atoi_itoa n hn];simp
theorem wJ {s:List UInt8} {d:UInt8} {n:Int} {r:List UInt8} (h:gF s d=JV (n,r)):s=itoa n++d::r∧xE n:=by
 rcases Gb d s with hs | ⟨u,v,rfl,hu⟩
 ·rw [DW hs] at h;cases h
 ·rw [AH hu] at h;rcases ha:atoiAll u with m | _ | _
  ·rw [ha] at h;simp only at h
   split at h
   ·rename_i e
    injection h with h
    injection h with h1 h2;subst h1 h2;exact ⟨by rw [e],xJ ha⟩
   ·cases h
  ·rw [ha] at h;cases h
  ·rw [ha] at h;cases h
def txtP (s:List UInt8):Option (ByteArray×List UInt8):=(textP s).map fun z=>(⟨z.1.toArray⟩,z.2)
theorem txtP_text {t:ByteArray} (ht:t.size≤100000000) (r:List UInt8):txtP (d8 t++r)=JV (t,r):=by
 have hz:=bw t;have e:d8 t++r=itoa t.size++58::(t.data.toList++r):=by simp [d8]
 unfold txtP textP;rw [e,wI (by unfold xE;omega) I9];simp only;rw [if_neg (by simp only [ax];omega)];simp only [MD,Option.some.injEq,Prod.mk.injEq];have h1:((t.size:Int).toNat)=t.data.toList.length:=mOm;rw [h1];exact ⟨dl mSi,mSi⟩
theorem txtP_some {s:List UInt8} {t:ByteArray} {r:List UInt8} (h:txtP s=JV (t,r)):s=d8 t++r∧t.size≤s.length:=by
 unfold txtP textP at h;rcases hn:gF s 58 with _ | ⟨n,q⟩
 ·rw [hn] at h;cases h
 ·rw [hn] at h;simp only at h
  split at h
  ·cases h
  ·rename_i hc
   simp only [MD,Option.some.injEq,Prod.mk.injEq] at h
   obtain ⟨h1,h2⟩:=h;subst h1 h2;obtain ⟨e,-⟩:=wJ hn;have hz:(⟨(q.take n.toNat).toArray⟩:ByteArray).size=n.toNat:=by simp [ByteArray.size];omega
   refine ⟨?_,?_⟩
   ·unfold d8;rw [hz,show ((n.toNat:Nat):Int)=n by omega]
    simpa using e
   ·rw [hz,e];simp only [ax,List.length_cons];omega
def intP (s:List UInt8):Option (Int×List UInt8):=gF s 59
theorem intP_int {n:Int} (hn:xE n) (r:List UInt8):intP (dj n++r)=JV (n,r):=by unfold intP dj;rw [cq,List.singleton_append];exact wI hn Ja r
theorem intP_some {s:List UInt8} {n:Int} {r:List UInt8} (h:intP s=JV (n,r)):s=dj n++r∧xE n:=by obtain ⟨e,hn⟩:=wJ h;exact ⟨by unfold dj;rw [cq,List.singleton_append];exact e,hn⟩
end Wr
namespace Wr
open Go Go.Lib
end Wr
namespace Wr
open Go Go.Lib
def frm (u:List UInt8):Nat:=if u.head? = JV 45 then 1 else 0
def fin (u:List UInt8) (n:Int):Int:=if frm u=0 then -n else n
end Wr
namespace Wr
open Go Go.RowKit Go.Sort Go.Lib
end Wr
namespace Wr
open Go Go.RowKit Go.Sort Go.Lib
@[local go_sem] theorem yX {P:Program} (w:World) (t:TypeId) (s:ByteArray) (ht:P.underlying t=JV .string) (kl kh:IntKind) (l h:Int) (h0:0≤l) (h1:l≤h) (h2:h≤s.size) :
  (Instr.slice t (JQ s) (JV (.int kl l)) (JV (.int kh h)) JW).run P w=.ok (JQ (s.extract l.toNat h.toNat)) w:=by
 have h3:0≤h:=mOm;have h4:l.toNat≤h.toNat:=mOm;simp [Instr.slice,Instr.sliceBounds,Instr.sliceBound,asIntOf,run_underlying ht,h0,h2,h3];intro hc;exfalso;omega
theorem get_ba (s:ByteArray) (t:Nat) (h:t < s.size):s[t]'h=s.data.toList[t]'(by rw [← bw];exact h):=rfl
end Wr
namespace Wr
open Go Go.RowKit Go.Sort Go.Lib
end Wr
