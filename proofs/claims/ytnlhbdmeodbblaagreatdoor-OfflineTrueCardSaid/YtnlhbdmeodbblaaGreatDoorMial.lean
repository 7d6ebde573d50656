/- Lemmas. -/
import Derived.Test.YtnlhbdmeodbblaaGreatDoorMiai
import Derived.Laws.OwnMore
import Derived.Test.YtnlhbdmeodbblaaGreatDoorMiae
import Derived.BigRegion
set_option maxRecDepth 100000
set_option maxHeartbeats 16000000
set_option linter.all false
open Go.Proofs.Tryz
open Bool renaming not_false→fa
open Int renaming toNat_natCast→cm
open Go.IntWalk renaming i64_in→aF
open Go.Lib renaming cell_of_heap→ae,compareBytes→fT,hid→aa
open List renaming append_nil→dF,eq_nil_of_length_eq_zero→aS,filter_append→Zfa,getD_eq_getElem?_getD→bi,getElem?_drop→eP,getElem?_eq_getElem→ai,getElem?_eq_some_iff→ap,getElem?_map→fo,getElem?_take_of_lt→dJ,length→gT,length_append→ax,length_cons→bA,length_drop→bF,length_map→aX,length_nil→cu,length_singleton→aG,length_take→aM,map_map→kO,mem_append→bN,mem_map→eF,nil_append→dt,take_add_one→aL,take_append_drop→bS,take_length→aT,take_of_length_le→dR
open Nat renaming add_zero→ee,le_refl→aD,le_trans→bu,zero_le→aR
open Go.RowKit renaming Below→ac,intOf→aw
open Go.World renaming block_lt_of_cell?→am,ownsRow_nil→dK
open Go.Ending renaming returned→JT
open Go.IntKind renaming i64→JP
open Go.Obj renaming cells→JU
open Go.Value renaming int→JO,string→JQ,slice→JR,pointer→JS
open Option renaming some→JV,none→JW
namespace Go.Proofs.YtnlhbdmeodbblaaGreatDoor
section
open Go Go.Proofs Go.RowKit Go.Sort Go.Lib
theorem Ap:∀ (x y:List UInt8),Op.bytesLess x y=decide (fT x y < 0)
 | [],[]=>by simp [fT,Op.bytesLess]
 | [],_::_=>by simp [fT,Op.bytesLess]
 | _::_,[]=>by simp [fT,Op.bytesLess]
 | a::x,b::y=>by
  have ih:=Ap x y;unfold fT Op.bytesLess;by_cases h:a < b
  ·rw [if_pos h];simp [h]
  ·rw [if_neg h];by_cases h2:b < a
   ·have h3:a ≠ b:=by intro e;subst e;exact absurd h2 mSi
    rw [if_pos h2];simp [h,h3]
   ·have h3:a=b:=by
     have h3:¬ a.toNat < b.toNat:=h;have h4:¬ b.toNat < a.toNat:=h2;exact UInt8.toNat_inj.1 mOm
    rw [if_neg h2,← ih];simp [h3]
theorem jq (a b:ByteArray):Op.bytesLess a.toList b.toList=decide (bU a b < 0):=by unfold bU;rw [Ap,ByteArray.toList_eq,ByteArray.toList_eq]
theorem qG (l:List ByteArray) (p:Option Addr) (c:Nat) (w:World) (hl:LK bL w (JR p l.length c) l) (hn:l.length≤1000000) :
  Calls prog 190 #[JR p l.length c] w (ic (eL l) w):=by
 have HL:=aa hl;clear hl;go_enter func190,ntmps190;go_wp2_with fail
 go_loopw [3] (fun i wr=>∃ k:Nat,k≤l.length+1∧i=JO JP ((k:Int)+1)∧Hid (∀ i a b,i < k→l[i]? = JV a→l[i+1]? = JV b→bU a b < 0)∧ac w.heap.size w wr) (fun i _=>l.length+2 - (aw i).toNat)
 case atStart=>exact ⟨0,aR _,rfl,aa (fun i a b h=>absurd h mOm),Below.refl _ _⟩
 case round =>
  obtain ⟨k,hk,rfl,HI,hb⟩:=hrel;by_cases hlt:k+1 < l.length
  ·obtain ⟨b,o,rfl,hbl,hcv⟩:=eO HL.out rfl mOm;have i1:(k:Int)+1 < (l.length:Int):=mOm;have hg1:=ai hlt;have hg0:=ai (show k < l.length by omega);have c0:=(hb.cell (p:=⟨b,o+k,JW⟩) hbl).trans (hcv k _ hg0);have c1:=(hb.cell (p:=⟨b,o+(k+1),JW⟩) hbl).trans (hcv (k+1) _ hg1);have HG:=aa (And.intro hg0 hg1);generalize l[k]=x at *;generalize l[k+1]=y at *;have i2:(k:Int) < (l.length:Int):=mOm;have i3:(0:Int)≤(k:Int):=mOm;have i4:(0:Int)≤(k:Int)+1:=mOm;have a1:IntKind.i64.wrap ((k:Int)+1 - 1)=(k:Int):=by rw [show (k:Int)+1 - 1=(k:Int) by omega];exact eR _ _ rfl mOm
   have a2:IntKind.i64.wrap (k:Int)=(k:Int):=eR _ _ rfl mOm;have keepS:∀ {u v:World},(ac w.heap.size w u∧u.cell? ⟨b,o+k,JW⟩=JV (JQ x)∧u.cell? ⟨b,o+(k+1),JW⟩=JV (JQ y))→ac u.heap.size u v→(ac w.heap.size w v∧v.cell? ⟨b,o+k,JW⟩=JV (JQ x)∧v.cell? ⟨b,o+(k+1),JW⟩=JV (JQ y)):=fun h hb=>⟨ah h.1 hb,(hb.cell (p:=⟨b,o+k,JW⟩) (am _ _ h.2.1)).trans h.2.1,(hb.cell (p:=⟨b,o+(k+1),JW⟩) (am _ _ h.2.2)).trans h.2.2⟩
   have hS0:ac w.heap.size w wr.drew∧wr.drew.cell? ⟨b,o+k,JW⟩=JV (JQ x)∧wr.drew.cell? ⟨b,o+(k+1),JW⟩=JV (JQ y):=keepS ⟨hb,c0,c1⟩ (Below.refl _ wr).drew;clear hcv hg0 hg1
   go_upto_region 4 with fail
   refine Jy (S:=fun w'=>ac w.heap.size w w'∧w'.cell? ⟨b,o+k,JW⟩=JV (JQ x)∧w'.cell? ⟨b,o+(k+1),JW⟩=JV (JQ y)) [(0,true),(1,true),(2,true),(3,true),(4,true),(5,true),(6,true),(7,true),(8,true),(9,true)] hS0 ?_;have hS:=hS0
   iterate 10 refine aj ?_
   simp only [aO,bj];have hS1:=aa hS.1;clear hS hS0 hb keepS c0 c1;by_cases hc:bU x y < 0
   ·have t1:Op.bytesLess x.toList y.toList=true:=by rw [jq];exact decide_eq_true hc
    have HN:Hid (∀ i a b,i < k+1→l[i]? = JV a→l[i+1]? = JV b→bU a b < 0):=aa (fun i a b h ha hb=>by
     by_cases e:i=k
     ·subst e;rw [HG.out.1] at ha;rw [HG.out.2] at hb;obtain rfl:=Option.some.inj ha;obtain rfl:=Option.some.inj hb;exact hc
     ·exact HI.out i a b mOm ha hb)
    clear hc
    simp only [t1,Bool.not_true];go_wp2_with fail
    go_roundw
    case rel=>exact ⟨k+1,mOm,by go_num,HN,hS1.out⟩
    case measure=>simp [aw];omega
   ·have t1:Op.bytesLess x.toList y.toList=false:=by rw [jq];exact decide_eq_false hc
    have HN:Hid (¬ eL l):=aa (fun h=>hc (h k x y HG.out.1 HG.out.2));clear hc;simp only [t1,fa];go_wp2_with fail;go_ret;exact ⟨false,rfl,⟨fun e=>(by cases e),fun h=>absurd h HN.out⟩,hS1.out⟩
  ·have i1:¬ (k:Int)+1 < (l.length:Int):=mOm;have HK:=aa hlt;clear hlt;go_wp2_with fail;go_ret;exact ⟨true,rfl,⟨fun _=>fun i a b ha hb=>HI.out i a b (by have:=(ap.1 hb).1;have:=HK.out;omega) ha hb,fun _=>rfl⟩,hb⟩
def dM (l:List ByteArray) (s:ByteArray):Nat:=(l.takeWhile fun x=>decide (bU x s < 0)).length
theorem wl {l:List ByteArray} {s:ByteArray} {k:Nat} (h:∀ x∈l.take k,bU x s < 0) (hk:∀ x,l[k]? = JV x→¬ bU x s < 0) (hkl:k≤l.length):dM l s=k:=by
 unfold dM
 induction l generalizing k with
 | nil=>simp only [cu] at hkl;simp;omega
 | cons a l ih =>
  cases k with
  | zero=>rw [List.takeWhile_cons,if_neg (by simpa using hk a rfl)];rfl
  | succ k =>
   rw [List.takeWhile_cons,if_pos (by simpa using h a mSi),bA,ih (k:=k) (fun x hx=>h x (by simp [hx])) (fun x hx=>hk x (by simpa using hx)) (by simpa using hkl)]
theorem rx (l:List ByteArray) (s:ByteArray) (p:Option Addr) (c:Nat) (w:World) (hl:LK bL w (JR p l.length c) l) (hn:l.length≤1000000) :
  Calls prog 191 #[JR p l.length c,JQ s] w fun e w'=>e=JT (JO JP (dM l s))∧ac w.heap.size w w':=by
 have HL:=aa hl;clear hl;go_enter func191,ntmps191;go_wp2_with fail
 go_loopw [5] (fun i wr=>∃ k:Nat,k≤l.length∧i=JO JP k∧Hid (∀ x∈l.take k,bU x s < 0)∧ac w.heap.size w wr) (fun i _=>l.length - (aw i).toNat)
 case atStart=>exact ⟨0,aR _,rfl,aa (fun x hx=>by simp at hx),Below.refl _ _⟩
 case round =>
  obtain ⟨k,hk,rfl,HI,hb⟩:=hrel;by_cases hlt:k < l.length
  ·obtain ⟨b,o,rfl,hbl,hcv⟩:=eO HL.out rfl mOm;have hg:=ai hlt;have c0:=(hb.cell (p:=⟨b,o+k,JW⟩) hbl).trans (hcv k _ hg);have HG:=aa hg;generalize l[k]=x at *;have i1:(k:Int) < (l.length:Int):=mOm;clear hcv hg;by_cases hc:bU x s < 0
   ·have t1:Op.bytesLess x.toList s.toList=true:=by rw [jq];exact decide_eq_true hc
    have HN:Hid (∀ x∈l.take (k+1),bU x s < 0):=aa (fun z hz=>by
     rw [aL,HG.out,bN] at hz;rcases hz with hz | hz
     ·exact HI.out z hz
     ·obtain rfl:z=x:=by simpa using hz
      exact hc)
    clear hc
    go_wp2_with fail
    go_roundw
    case rel=>exact ⟨k+1,mOm,by go_num,HN,hb⟩
    case measure=>simp [aw];omega
   ·have t1:Op.bytesLess x.toList s.toList=false:=by rw [jq];exact decide_eq_false hc
    have HN:Hid (dM l s=k):=aa (wl HI.out (fun z hz=>by rw [HG.out] at hz;obtain rfl:=Option.some.inj hz;exact hc) hk);clear hc;go_wp2_with fail;go_ret;exact ⟨by rw [HN.out];rfl,hb⟩
  ·obtain rfl:k=l.length:=mOm;have HN:Hid (dM l s=l.length):=aa (wl HI.out (fun z hz=>by simp at hz) (aD _));go_wp2_with fail;go_ret;exact ⟨by rw [HN.out];rfl,hb⟩
end
section
open Go Go.Proofs Go.RowKit Go.Sort Go.Lib
def lfD (l:List ByteArray) (i:Nat):ByteArray:=jE (l.getD i ⟨#[]⟩)
theorem ml (l:List ByteArray):∀ t b,(jJ be (lfD l) t b).size=8
 | 0,_=>rfl
 | _+1,_=>rfl
theorem qt (l:List ByteArray) (p:Option Addr) (c:Nat) (hz:∀ s∈l,s.size≤100000000) (hn:l.length≤1000000):∀ (t b:Nat) (w:World),b+2 ^ t≤l.length→LK bL w (JR p l.length c) l→
  Calls prog 258 #[JR p l.length c,JO JP b,JO JP (2 ^ t:Nat)] w fun e w'=>e=JT (JQ (jJ be (lfD l) t b))∧ac w.heap.size w w'
 | 0,b,w,hb,hl=>by
  have hlt:b < l.length:=by have:2 ^ 0=1:=rfl;omega
  obtain ⟨g,o,rfl,hg,hcv⟩:=eO hl rfl mOm;have hge:=ai hlt;have q0:=hcv b _ hge;have hs:=hz _ (List.getElem_mem hlt);have hD:jJ be (lfD l) 0 b=jE l[b]:=by show lfD l b=_;unfold lfD;rw [bi,hge];rfl
  rw [hD];have i1:(b:Int) < (l.length:Int):=mOm;have co:=sD l[b] hs w;generalize l[b]=s at *;rw [show ((2 ^ 0:Nat):Int)=1 from rfl];have HL:=aa (And.intro hl hz);clear hl hz hcv hge;go_enter func258,ntmps258;go_wp2_with fail;refine co.mono ?_;rintro _ w1 ⟨rfl,hb1⟩;go_wp2_with fail;go_ret;exact ⟨rfl,hb1⟩
 | t+1,b,w,hb,hl=>by
  have h2:2 ^ (t+1)=2*2 ^ t:=by rw [Nat.pow_succ];omega
  rw [h2] at hb ⊢;have h1:=Nat.two_pow_pos t;have ih1:=qt l p c hz hn t b w mOm hl;have ih2:=fun w1 (hb1:ac w.heap.size w w1)=>qt l p c hz hn t (b+2 ^ t) w1 mOm (hl.below hb1)
  have s1:=ml l t b;have s2:=ml l t (b+2 ^ t);have HJ:=aa (show jJ be (lfD l) (t+1) b=be (jJ be (lfD l) t b) (jJ be (lfD l) t (b+2 ^ t)) from rfl);rw [HJ.out];generalize jJ be (lfD l) t b=x at *;generalize jJ be (lfD l) t (b+2 ^ t)=y at *;generalize 2 ^ t=h at *;obtain ⟨q,hq⟩:∃ q,q=b+h:=⟨_,rfl⟩;have a1:IntKind.i64.wrap ((b:Int)+(h:Int))=(q:Int):=eR _ _ mOm mOm;have hqt:IntKind.i64.wrap (((2*h:Nat):Int) / 2)=(h:Int):=by rw [show ((2*h:Nat):Int) / 2=(h:Int) by omega];exact eR _ _ rfl mOm
  obtain ⟨g2,hg2⟩:∃ g2:Nat,g2=2*h:=⟨_,rfl⟩
  rw [← hq] at ih2;rw [← hg2] at hqt ⊢;have t1:((g2:Int)==1)=false:=by rw [beq_eq_false_iff_ne];omega
  have cn:=fun w=>ta x y mOm mOm w
  have HH:=aa (And.intro hg2 hq);have IH2:=aa ih2;have CN:=aa cn;have HL:=aa (And.intro hl hz);clear hg2 hq ih2 cn hl hz s1 s2 h2 hb h1 HJ;go_enter func258,ntmps258;go_wp2_with fail;refine ih1.mono ?_;rintro _ w1 ⟨rfl,hb1⟩;go_wp2_with fail;refine (IH2.out _ hb1).mono ?_;rintro _ w2 ⟨rfl,hb2⟩;go_wp2_with fail;refine (CN.out _).mono ?_;rintro _ w3 ⟨rfl,hb3⟩;go_wp2_with fail;go_ret;exact ⟨rfl,ah (ah hb1 hb2) hb3⟩
theorem ET {D:Type} {nd:D→D→D} {lf:Nat→D} {i j k:Nat} {z:Nat×Nat} (h:(bY i j)[k]? = JV z):((fA nd lf i j).map Bk.d).take (k+1)=((fA nd lf i j).map Bk.d).take k++[jJ nd lf z.2.log2 z.1]:=by unfold fA;rw [aL,kO,fo,h];rfl
theorem ED {i j k:Nat} {z:Nat×Nat} (h:(bY i j)[k]? = JV z):z.2=2 ^ z.2.log2:=by
 have:∀ f i,j - i≤f→∀ z∈bY i j,∃ u,z.2=2 ^ u:=fun f=>by
  induction f with
  | zero=>intro i hi z hz;rw [iM mOm] at hz;cases hz
  | succ f ih =>
   intro i hi z hz;by_cases hij:i < j
   ·have hb:=jx hij;rw [kR hij] at hz;rcases List.mem_cons.1 hz with rfl | hz
    ·exact xP i j
    ·exact ih _ mOm z hz
   ·rw [iM hij] at hz;cases hz
 obtain ⟨u,hu⟩:=this _ i (aD _) z (List.mem_of_getElem? h)
 rw [hu,Nat.log2_two_pow]
def eQ (l:List ByteArray) (i j:Nat):List ByteArray:=(fA be (lfD l) i j).map Bk.d
structure LQ {α:Type} (enc:α→List Value) (k:Nat) (e:TypeId) (w0 w:World) (v:Value) (M:List α):Prop where
 form:∃ p c,v=JR p M.length c
 own:w.ownsRow w0.heap.size e k v M.length (br enc M)
 low:ac w0.heap.size w0 w
section
variable {α:Type} {enc:α→List Value} {k:Nat} {e:TypeId} {w0 w w':World} {v v':Value} {M Y:List α}
theorem LQ.of (h:w.ownsRow w0.heap.size e k v M.length (br enc M)) (hb:ac w0.heap.size w0 w):LQ enc k e w0 w v M:=⟨eI h,h,hb⟩
theorem LQ.nil (enc:α→List Value) (k:Nat) (e:TypeId) (w:World):LQ enc k e w w (JR JW 0 0) ([]:List α):=⟨⟨_,_,rfl⟩,dK _ _ _ _,Below.refl _ _⟩
theorem LQ.next (h:LQ enc k e w0 w v M) (hb:ac w.heap.size w w'):LQ enc k e w0 w' v M:=
 ⟨h.form,bE h.own (LM.of (S:=fun _=>False) hb) (fun _ _ e=>e),ah h.low hb⟩
theorem LQ.app {u:World} (h:LQ enc k e w0 w v M) (hA:AppT enc k e w w0.heap.size v M Y v' u):LQ enc k e w0 u v' (M++Y):=
 ⟨eI hA.own,hA.own,h.low.grown hA.grown h.low.size (fun q e=>(h.own.lt q e).1)⟩
theorem LQ.row (h:LQ enc k e w0 w v M) (hk:∀ x,(enc x).length=k) (hk0:0 < k):LK enc w v M:=eH hk hk0 h.own
theorem iO {w:World} {b b' k n:Nat} {e:TypeId} {v:Value} {xs:List Value} (h:w.ownsRow b e k v n xs) (hb:b'≤b):w.ownsRow b' e k v n xs:=by
 obtain ⟨h1,(h2 | ⟨g,c,cur,h3,h4,h5⟩)⟩:=h
 ·exact ⟨h1,.inl h2⟩
 ·exact ⟨h1,.inr ⟨g,c,cur,h3,bu hb h4,h5⟩⟩
theorem LQ.from_ {u:World} (h:LQ enc k e w0 w v M) (hb:ac u.heap.size u w0):LQ enc k e u w v M:=⟨h.form,iO h.own hb.size,ah hb h.low⟩
end
theorem jY:RowT prog bL 1 9 37 where
 len _:=rfl
 one x u hu:=by simp [bL] at hu;subst hu;rfl
 pos:=mDe
 und:=underlying37
 info:=by
  obtain ⟨i0,hi,h1,h2,h3⟩:=info_parts (show (prog.info? 9).map (fun i=>(i.zero,i.size,i.bytes))=JV (JV (JQ ⟨#[]⟩),1,16) by kernel_rfl);exact ⟨i0,_,hi,h1,h2,rfl,mOm⟩
theorem lY (l:List ByteArray) (i j:Nat) (p:Option Addr) (c:Nat) (w:World) (hz:∀ s∈l,s.size≤100000000) (hn:l.length≤5000) (hij:i≤j) (hj:j≤l.length) (hl:LK bL w (JR p l.length c) l) :
  Calls prog 228 #[JR p l.length c,JO JP i,JO JP j] w fun e w'=>∃ v,e=JT v∧LQ bL 1 9 w w' v (eQ l i j):=by
 have HL:=aa hl;have HZ:=aa hz;have kb:=kH i j hij mOm w;have hbl:=gq j (j - i) i (aD _);have hdl:(eQ l i j).length=(bY i j).length:=by unfold eQ fA;rw [aX,aX]
 have HDL:=aa hdl;clear hl hz hdl;go_enter func228,ntmps228;go_wp2_with fail;refine kb.mono ?_;clear kb;rintro _ w1 ⟨v1,rfl,ho1,hb1⟩;have hr1:=eH (k:=3) (fun _=>rfl) mDe ho1;obtain ⟨pB,cB,rfl⟩:=eI ho1;have e2:(fp (bY i j)).length=(bY i j).length:=by unfold fp;rw [aX]
 rw [e2] at hr1 ⊢;have HR1:=aa hr1;have HAT:=aa (fun k z=>ET (nd:=be) (lf:=lfD l) (i:=i) (j:=j) (k:=k) (z:=z));have HIN:=aa (fun k z (h:(bY i j)[k]? = JV z)=>And.intro (vm hij h) (ED h));clear ho1 hr1 e2;obtain ⟨B,hB⟩:∃ B,B=bY i j:=⟨_,rfl⟩;rw [← hB] at HR1 HAT HIN HDL hbl ⊢;obtain ⟨G,hG⟩:∃ G,G=eQ l i j:=⟨_,rfl⟩;rw [show (fA be (lfD l) i j).map Bk.d=G from hG.symm] at HAT;rw [← hG] at HDL;have HG:=aa hG;clear hB hG;go_wp2_with fail
 go_loopw [7,9] (fun v x wr=>∃ k:Nat,k≤B.length∧x=JO JP k∧LQ bL 1 9 w1 wr v (G.take k)) (fun _ i _=>B.length - (aw i).toNat)
 case atStart=>exact ⟨0,aR _,rfl,LQ.nil _ _ _ _⟩
 case round =>
  obtain ⟨k,hk,rfl,hO⟩:=hrel;obtain ⟨pv,cv,hv⟩:=hO.form;have hdk:(G.take k).length=k:=by rw [aM,HDL.out];omega
  rw [hdk] at hv;subst hv;have hbw:=hO.low;have hb:=ah hb1 hbw;by_cases hlt:k < B.length
  ·obtain ⟨g,o,rfl,hg0,hr⟩:=dc (kk:=3) HR1.out (fun _=>rfl) rfl (by unfold fp;rw [aX];omega);have hge:=ai hlt;have hz2:=HIN.out k _ hge;have HTK:=aa (HAT.out k _ hge);have hgb:(fp B)[k]? = JV ⟨B[k].1,B[k].2,⟨#[]⟩⟩:=by unfold fp;rw [fo,hge];rfl
   have q0:=(hbw.cell (p:=⟨g,o+k*3+0,JW⟩) hg0).trans (hr k _ hgb 0 _ rfl);have q1:=(hbw.cell (p:=⟨g,o+k*3+1,JW⟩) hg0).trans (hr k _ hgb 1 _ rfl);generalize B[k]=z at *;obtain ⟨⟨hz3,hz4⟩,hz5⟩:=hz2;have co:=fun w9 (hb9:ac w.heap.size w w9)=>qt l p c HZ.out mOm z.2.log2 z.1 w9 (by rw [← hz5];omega) (HL.out.below hb9)
   have hds:=ml l z.2.log2 z.1;rw [← hz5] at co;have i1:(k:Int) < (B.length:Int):=mOm;have i3:(0:Int)≤(k:Int):=mOm;rw [ee] at q0;have HOWN:=aa hO;have HCO:=aa co;have HDK:=aa hdk;generalize jJ be (lfD l) z.2.log2 z.1=d at *;clear hO co hr hge hgb hz5 hdk;have keepS:∀ {u v:World},(ac w1.heap.size w1 u∧u.cell? ⟨g,o+k*3,JW⟩=JV (JO JP z.1)∧u.cell? ⟨g,o+k*3+1,JW⟩=JV (JO JP z.2))→ac u.heap.size u v→(ac w1.heap.size w1 v∧v.cell? ⟨g,o+k*3,JW⟩=JV (JO JP z.1)∧v.cell? ⟨g,o+k*3+1,JW⟩=JV (JO JP z.2)):=fun h hb=>⟨ah h.1 hb,(hb.cell (p:=⟨g,o+k*3,JW⟩) (am _ _ h.2.1)).trans h.2.1,(hb.cell (p:=⟨g,o+k*3+1,JW⟩) (am _ _ h.2.2)).trans h.2.2⟩
   have hS0:ac w1.heap.size w1 wr.drew∧wr.drew.cell? ⟨g,o+k*3,JW⟩=JV (JO JP z.1)∧wr.drew.cell? ⟨g,o+k*3+1,JW⟩=JV (JO JP z.2):=keepS ⟨hbw,q0,q1⟩ (Below.refl _ wr).drew;clear q0 q1
   go_upto_region 6 with fail
   refine Jy (S:=fun u=>ac w1.heap.size w1 u∧u.cell? ⟨g,o+k*3,JW⟩=JV (JO JP z.1)∧u.cell? ⟨g,o+k*3+1,JW⟩=JV (JO JP z.2)) [(0,true),(1,true),(2,true),(3,true),(4,true),(5,true),(6,true),(7,true),(8,true),(9,true),(10,true),(11,true),(12,false),(13,false),(14,false),(15,true)] hS0 ?_;have hS:=hS0
   iterate 12 refine aj ?_
   refine aH 258 call258 (HCO.out _ (ah hb1 hS.1)) ?_;rintro x wn ⟨rfl,hb⟩;replace hS:=keepS hS hb;have HOW3:=aa (HOWN.out.next (ah (Below.refl _ wr).drew hb));refine ⟨_,rfl,hS,?_⟩;(try clear hb);refine ar ?_;refine lV ⟨_,_,_,_,_,_⟩ (JR (JV ⟨wn.heap.size,0,JW⟩) 1 1) (wn.alloc (JU #[JQ d] 9)) rfl mRf (by go_simp) (keepS hS (al _ _)) ?_;have hOm:=HOW3.out.next (al wn (JU #[JQ d] 9));replace hS:=keepS hS (al wn (JU #[JQ d] 9));refine ar ?_;refine iB jY ⟨_,_,_,_,_,_⟩ rfl mRf (.tmp 19) (.tmp 32) mRf w1.heap.size _ _ (G.take k) [d] mRf mRf hOm.own (cF (heap_alloc_new wn _) _ rfl rfl) (by rw [HDK.out];simp only [aG];omega) hS.1.size ?_;intro v9 w9 hA9;have hO9:=hOm.app hA9;replace hS:ac w1.heap.size w1 w9∧w9.cell? ⟨g,o+k*3,JW⟩=JV (JO JP z.1)∧w9.cell? ⟨g,o+k*3+1,JW⟩=JV (JO JP z.2):=⟨hO9.low,(hO9.low.cell (p:=⟨g,o+k*3,JW⟩) hg0).trans ((hS.1.cell (p:=⟨g,o+k*3,JW⟩) hg0).symm.trans hS.2.1),(hO9.low.cell (p:=⟨g,o+k*3+1,JW⟩) hg0).trans ((hS.1.cell (p:=⟨g,o+k*3+1,JW⟩) hg0).symm.trans hS.2.2)⟩;refine ⟨hS,?_⟩;refine ar ?_;refine aj ?_;simp only [aO,bj];rw [← HTK.out] at hO9;have HO9:=aa hO9;clear hS hS0 keepS hO9 hA9 hOm;go_wp2_with fail
   go_roundw
   case rel=>exact ⟨k+1,mOm,by go_num,HO9.out⟩
   case measure=>simp [aw];omega
  ·obtain rfl:k=B.length:=mOm;have hO2:=hO.from_ hb1;rw [show G.take B.length=eQ l i j by rw [← HDL.out,aT];exact HG.out] at hO2;have HO:=aa hO2;clear hO hO2;go_wp2_with fail;go_ret;exact ⟨_,rfl,HO.out⟩
theorem eW:∀ x:ByteArray,(bL x).length=1:=fun _=>rfl
def gZ (l:List ByteArray) (i j:Nat):List ByteArray:=eQ l 0 i++eQ l j l.length
theorem kM (l:List ByteArray) (i j:Nat):(eQ l i j).length=(bY i j).length:=by unfold eQ fA;rw [aX,aX]
theorem yM (l:List ByteArray) (i j:Nat) (p:Option Addr) (c:Nat) (w:World) (hz:∀ s∈l,s.size≤100000000) (hn:l.length≤5000) (hij:i≤j) (hj:j≤l.length) (hl:LK bL w (JR p l.length c) l) :
  Calls prog 192 #[JR p l.length c,JO JP i,JO JP j] w fun e w'=>∃ v,e=JT (.tuple #[v,.bool true])∧LQ bL 1 9 w w' v (gZ l i j):=by
 have k1:=lY l 0 i p c w hz hn (aR _) mOm hl;rw [show ((0:Nat):Int)=0 from rfl] at k1;have k2:=fun w1 (hb:ac w.heap.size w w1)=>lY l j l.length p c w1 hz hn hj (aD _) (hl.below hb)
 have hd1:=kM l 0 i;have hd2:=kM l j l.length;have hb1:=gq i i 0 mOm;have hb2:=gq l.length (l.length - j) j (aD _);have hD:eQ l 0 i++eQ l j l.length=gZ l i j:=rfl;generalize eQ l 0 i=D1 at *;generalize eQ l j l.length=D2 at *;have K2:=aa k2;have HD:=aa hD;have i1:¬ (i:Int) < 0:=mOm;have i2:¬ (j:Int) < (i:Int):=mOm;have i3:¬ (l.length:Int) < (j:Int):=mOm;have hsum:D1.length+D2.length≤1000000:=mOm;clear hl hz k2 hD hd1 hd2 hb1 hb2;go_enter func192,ntmps192;go_wp2_with fail;refine k1.mono ?_;clear k1;rintro _ w1 ⟨v1,rfl,hO1⟩;have HO1:=aa hO1;obtain ⟨p1,c1,rfl⟩:=hO1.form;have kk:=K2.out w1 hO1.low;clear hO1;go_wp2_with fail;refine kk.mono ?_;clear kk;rintro _ w2 ⟨v2,rfl,hO2⟩;have hO1:=HO1.out.next hO2.low;have hrow:=hO2.row eW mDe;obtain ⟨p2,c2,rfl⟩:=hO2.form;have hown:=hO1.own;have hsz:=hO1.low.size;have HO12:=aa hO1;clear hO1 hO2;go_wp2_with (at_builtin;refine bB jY rfl (.tmp 23) (.tmp 28) rfl w.heap.size _ _ D1 D2 rfl rfl hown hrow hsum hsz ?_;intro v9 w9 hA9;have hO9:=HO12.out.app hA9;have HO9:=aa hO9;clear hO9 hA9)
 (try simp only [Exit.inBlock,Exit.then]);refine bodyPost_ret (results_tmp2 rfl _ _ _) rfl ?_
 exact ⟨_,rfl,HD.out ▸ HO9.out⟩
theorem rA (l:List ByteArray) (p:Option Addr) (c:Nat) (w:World) (hz:∀ s∈l,s.size≤100000000) (hn:l.length≤5000) (hl:LK bL w (JR p l.length c) l) :
  Calls prog 187 #[JR p l.length c] w fun e w'=>e=JT (JQ (lz l.length (gp be fP (dO be [] (fA be (lfD l) 0 l.length)))))∧ac w.heap.size w w':=by
 have hbl:=gq l.length l.length 0 mOm;have hdl:=kM l 0 l.length;have hwd:bZ (bY 0 l.length) (eQ l 0 l.length)=fA be (lfD l) 0 l.length:=vV be (lfD l) 0 l.length;have hrow:=(mr be (lfD l) l.length l.length 0 mOm (aR _)).1
 have hfit:∀ x∈bZ (bY 0 l.length) (eQ l 0 l.length),Blk.fit x∧x.b+x.s≤1099511627776:=mz (aR _) mOm (fun s hs=>by
  unfold eQ fA at hs;rw [kO] at hs;obtain ⟨z,_,rfl⟩:=eF.1 hs
  exact ml l _ _)
 have k1:=kH 0 l.length (aR _) mOm w
 have k2:=fun w1 (hb:ac w.heap.size w w1)=>lY l 0 l.length p c w1 hz hn (aR _) (aD _) (hl.below hb)
 rw [show ((0:Nat):Int)=0 from rfl] at k1 k2;rw [hwd] at hfit;have hts:=zj (qr _ [] (fun y hy=>by cases hy) hfit);have hcn:=yO hrow;have hpe:=mH be _ [] 0 l.length rfl hrow;have hwl:(bZ (bY 0 l.length) (eQ l 0 l.length)).length≤100000:=bu (pj _ _) mOm;rw [hwd] at hwl;generalize eQ l 0 l.length=D at *;generalize bY 0 l.length=B at *;have K2:=aa k2;have kt:=fun v w (h:LK fQ w v (fA be (lfD l) 0 l.length))=>AN _ v w h hwl hfit hcn
 rw [hpe] at kt;generalize fA be (lfD l) 0 l.length=A at *;have KT:=aa kt;generalize gp be fP (dO be [] A)=T at *;have kr:=fun w=>sG l.length T mOm mOm w
 have KR:=aa kr;have HWD:=aa hwd;have HDL:=aa hdl;clear hl hz k2 hrow hfit hcn hpe kt kr hwd hts hdl hwl;go_enter func187,ntmps187;go_wp2_with fail;refine k1.mono ?_;clear k1;rintro _ w1 ⟨v1,rfl,ho1,hb1⟩;have hr1:=eH (k:=3) (fun _=>rfl) mDe ho1;have kk:=K2.out w1 hb1;have HR1:=aa hr1;clear ho1 hr1;go_wp2_with fail;refine kk.mono ?_;clear kk;rintro _ w2 ⟨v2,rfl,hO2⟩;have hrow:=hO2.row eW mDe;obtain ⟨p2,c2,rfl⟩:=hO2.form;have kw:=tT B D v1 p2 D.length c2 w2 (HR1.out.below hO2.low) hrow (by have:=HDL.out;omega) mOm;have hb2:=ah hb1 hO2.low;clear hO2 hrow;go_wp2_with fail;refine kw.mono ?_;clear kw;rintro _ w3 ⟨v3,rfl,ho3,hb3⟩;have hr3:=eH (k:=3) (fun _=>rfl) mDe ho3;rw [HWD.out] at hr3;have kt2:=KT.out v3 w3 hr3;clear hr3 ho3;go_wp2_with fail;refine kt2.mono ?_;clear kt2;rintro _ w4 ⟨rfl,hb4⟩;go_wp2_with fail;refine (KR.out _).mono ?_;rintro _ w5 ⟨rfl,hb5⟩;go_wp2_with fail;go_ret;exact ⟨rfl,ah (ah (ah hb2 hb3) hb4) hb5⟩
end
section
open Go Go.Proofs Go.RowKit Go.Sort Go.Lib
attribute [local go_sem ↓] mJ mK
theorem rC {fn:Func} {t u v x:Tmp} (h:fn.results=#[.tmp t,.tmp u,.tmp v,.tmp x]) (tmps:Array Value) (P:Program) (w:World) :
  (results fn tmps).run P w=.ok (.tuple #[tmps.getD t undef,tmps.getD u undef,tmps.getD v undef,tmps.getD x undef]) w:=by
 simp [results,h]
theorem Ac {w:World} {p:Option Addr} {n c i j:Nat} {L:List ByteArray} (h:LK bL w (JR p n c) L) (hi:i≤j) (hj:j≤n):((p=JW∨c=i→LK bL w (JR p (j - i) (c - i)) ((L.drop i).take (j - i)))∧(p=JW∨c=i→LK bL w (JR p (j - i) 0) ((L.drop i).take (j - i))))∧(∀ a,p=JV a→LK bL w (JR (JV (a.add i)) (j - i) (c - i)) ((L.drop i).take (j - i))):=by
 have hd:=nt h (m:=i) mOm;have hn:L.length=n:=by obtain ⟨_,_,e,_⟩:=h;injection e with _ e _;exact e.symm
 have hl:j - i≤(L.drop i).length:=by rw [bF];omega
 exact ⟨⟨fun hc=>(hd.1.1 hc).take rfl hl,fun hc=>(hd.1.2 hc).take rfl hl⟩,fun a ha=>(hd.2 a ha).take rfl hl⟩
theorem DY (w:World):LQ bL 1 9 w (w.alloc (JU #[] 9)) (JR (JV ⟨w.heap.size,0,JW⟩) 0 0) []:=
 ⟨⟨_,_,rfl⟩,World.ownsRow_lit w #[] 0 (aD _) (aR _) rfl,al w _⟩
def dV (l:List ByteArray) (from_:ByteArray):Nat:=dM l from_ - 1
def gl (l:List ByteArray) (from_ to_:ByteArray):Nat:=min l.length (max (dM l from_) (dM l to_)+1)
theorem gL (l:List ByteArray) (s:ByteArray):dM l s≤l.length:=List.Sublist.length_le (List.takeWhile_sublist _)
def AP (l:List ByteArray) (from_ to_:ByteArray) (w:World) (e:Ending) (w':World):Prop:=
 (¬ eL l∧e=JT (.tuple #[JO JP 0,JR JW 0 0,JR JW 0 0,.bool false])∧ac w.heap.size w w')∨
 (eL l∧∃ v1 v2,e=JT (.tuple #[JO JP (dV l from_),v1,v2,.bool true])∧LQ bL 1 9 w w' v1 ((l.drop (dV l from_)).take (gl l from_ to_ - dV l from_))∧LQ bL 1 9 w w' v2 (gZ l (dV l from_) (gl l from_ to_)))
theorem xp (l:List ByteArray) (from_ to_:ByteArray) (p:Option Addr) (c:Nat) (w:World) (hz:∀ s∈l,s.size≤100000000) (hn:l.length≤5000) (hl:LK bL w (JR p l.length c) l) :
  Calls prog 137 #[JR p l.length c,JQ from_,JQ to_] w (AP l from_ to_ w):=by
 have ks:=qG l p c w hl mOm;have k1:=fun w1 (hb:ac w.heap.size w w1)=>rx l from_ p c w1 (hl.below hb) mOm
 have k2:=fun w1 (hb:ac w.heap.size w w1)=>rx l to_ p c w1 (hl.below hb) mOm
 have f1:=gL l from_;have f2:=gL l to_;have hI:Hid (dV l from_=dM l from_ - 1):=aa rfl;have hJ:Hid (gl l from_ to_=min l.length (max (dM l from_) (dM l to_)+1)):=aa rfl;generalize dM l from_=a at *;generalize dM l to_=b at *;obtain ⟨m,hm⟩:∃ m,m=max a b:=⟨_,rfl⟩;obtain ⟨i,hi⟩:∃ i,i=a - 1:=⟨_,rfl⟩;obtain ⟨j,hj⟩:∃ j,j=min l.length (m+1):=⟨_,rfl⟩;have HI:Hid (dV l from_=i):=aa (by rw [hI.out,hi]);have HJ:Hid (gl l from_ to_=j):=aa (by rw [hJ.out,hj,hm]);have hij:i≤j:=mOm;have hjl:j≤l.length:=mOm;have m1:mx (a:Int) (b:Int)=(m:Int):=by unfold mx;split <;> omega
 have m2:mx 0 ((a:Int) - 1)=(i:Int):=by unfold mx;split <;> omega
 have m3:mn (l.length:Int) ((m:Int)+1)=(j:Int):=by unfold mn;split <;> omega
 have a1:IntKind.i64.wrap ((a:Int) - 1)=(a:Int) - 1:=aF _ mOm;have a2:IntKind.i64.wrap ((m:Int)+1)=(m:Int)+1:=aF _ mOm;have k3:=fun w1 (hb:ac w.heap.size w w1)=>yM l i j p c w1 hz hn hij hjl (hl.below hb)
 have hmid:=fun w1 (hb:ac w.heap.size w w1)=>Ac (hl.below hb) hij hjl
 have hc:l.length≤c:=by obtain ⟨_,_,e,h,_⟩:=hl;injection e with _ _ e;omega
 have HM:=aa (And.intro hm (And.intro hi hj));have K1:=aa k1;have K2:=aa k2;have K3:=aa k3;have HMID:=aa hmid;have HTY:=aa (show (((l.drop i).take (j - i)).length)=j - i by rw [aM,bF];omega);clear k1 k2 k3 hmid hl hz hI hJ hm hi hj;go_enter func137,ntmps137;go_wp2_with fail;refine ks.mono ?_;clear ks;rintro _ w1 ⟨t,rfl,ht,hb1⟩;have HT:=aa ht;clear ht
 cases t
 ·go_wp2_with fail
  (try simp only [Exit.inBlock,Exit.then]);refine bodyPost_ret (rC rfl _ _ _) rfl ?_
  exact .inl ⟨fun h=>(by have:=HT.out.2 h;cases this),rfl,hb1⟩
 have HSO:=aa (HT.out.1 rfl)
 clear HT;go_wp2_with fail;refine (K1.out w1 hb1).mono ?_;rintro _ w2 ⟨rfl,hb2⟩;have hb3:=ah hb1 hb2;go_wp2_with fail;refine (K2.out w2 hb3).mono ?_;rintro _ w3 ⟨rfl,hb4⟩;have hb5:=ah hb3 hb4;go_wp2_with fail;refine (K3.out w3 hb5).mono ?_;rintro _ w4 ⟨v4,rfl,hO4⟩;have hb6:=ah hb5 hO4.low;have HO4:=aa hO4;clear hO4;have i5:(i:Int)≤(j:Int):=mOm;have i6:(j:Int)≤(c:Int):=mOm;have hO5:=DY w4;have hmid4:=HMID.out w4 hb6;have HO5:=aa hO5;have hown:=hO5.own;have hsz:=hO5.low.size;have HMD:=aa hmid4;clear hO5 hmid4;rcases p with _ | a
 rotate_left 1
 by_cases hci:c=i
 all_goals
  go_wp2_with (at_builtin;refine bB jY rfl (.tmp 43) (.tmp 47) rfl w4.heap.size _ _ [] ((l.drop i).take (j - i)) rfl rfl hown (by
   first | exact (HMD.out.1.1 (.inl trivial)).below (al w4 _) | exact (HMD.out.1.2 (.inl trivial)).below (al w4 _) | exact (HMD.out.1.2 (.inr mOm)).below (al w4 _) | exact (HMD.out.2 _ rfl).below (al w4 _)) (by rw [HTY.out];simp only [cu];omega) hsz ?_;intro v9 w9 hA9;have hO9:=HO5.out.app hA9;have HO9:=aa hO9;clear hO9 hA9)
  (try simp only [Exit.inBlock,Exit.then]);refine bodyPost_ret (rC rfl _ _ _) rfl ?_
  refine .inr ⟨HSO.out,?_⟩;rw [HI.out,HJ.out];have hO10:=HO9.out.from_ hb6;rw [dt] at hO10;exact ⟨_,_,rfl,hO10,(HO4.out.next HO9.out.low).from_ hb5⟩
end
section
open Go Go.Proofs Go.RowKit Go.Sort Go.Lib
theorem pU:∀ (x y:List UInt8),(Op.bytesLess x y||x==y) = !Op.bytesLess y x
 | [],[]=>by simp [Op.bytesLess]
 | [],_::_=>by simp [Op.bytesLess]
 | _::_,[]=>by simp [Op.bytesLess]
 | a::x,b::y=>by
  have ih:=pU x y;unfold Op.bytesLess;by_cases h:a < b
  ·have h2:¬ b < a:=fun e=>absurd (Nat.lt_trans (show a.toNat < b.toNat from h) (show b.toNat < a.toNat from e)) (Nat.lt_irrefl _)
   have h3:¬ b=a:=fun e=>by subst e;exact absurd h mSi
   simp [h,h2,h3]
  ·by_cases h2:b < a
   ·have h3:¬ a=b:=fun e=>by subst e;exact absurd h2 mSi
    simp [h,h2,h3]
   ·have h3:a=b:=by
     have h3:¬ a.toNat < b.toNat:=h;have h4:¬ b.toNat < a.toNat:=h2;exact UInt8.toNat_inj.1 mOm
    subst h3
    simpa [h] using ih
def leB (a b:ByteArray):Bool:=!Op.bytesLess b.toList a.toList
theorem AC (a b:ByteArray):leB a b = !decide (bU b a < 0):=by unfold leB;rw [jq]
theorem DC (t:TypeId) (a b:ByteArray):binOp .leq t (JQ a) (JQ b)=pure (.bool (leB a b)):=by rw [binOp_string_leq,pU];rfl
theorem ur (t:TypeId) (a b:ByteArray):binOp .geq t (JQ a) (JQ b)=pure (.bool (leB b a)):=by rw [binOp_string_geq];rfl
attribute [local go_sem 2000] DC ur
def rX (l:List ByteArray) (lo:ByteArray) (i:Nat):Bool:=decide (i=0)||(match l[0]? with | none=>false | some x=>decide (bU x lo < 0))
def pQ (l:List ByteArray) (hi:ByteArray) (i n:Nat):Bool:=decide (i+l.length=n)||(match l[l.length - 1]? with | none=>false | some x=>!decide (bU x hi < 0))
def inB (lo hi x:ByteArray):Bool:=!decide (bU x lo < 0)&&decide (bU x hi < 0)
def gU (root:ByteArray) (n:Int) (lo hi:ByteArray) (i:Int) (l proof:List ByteArray):Prop:=
 gP root n i l proof∧eL l∧rX l lo i.toNat=true∧pQ l hi i.toNat n.toNat=true
def AS (root:ByteArray) (n:Int) (lo hi:ByteArray) (i:Int) (l proof:List ByteArray) (w:World) (e:Ending) (w':World):Prop:=
 (¬ gU root n lo hi i l proof∧e=JT (.tuple #[JR JW 0 0,.bool false])∧ac w.heap.size w w')∨
 (gU root n lo hi i l proof∧∃ v,e=JT (.tuple #[v,.bool true])∧LQ bL 1 9 w w' v (l.filter (inB lo hi)))
theorem vf (root:ByteArray) (n:Int) (lo hi:ByteArray) (i:Int) (l proof:List ByteArray) (p1 p2:Option Addr) (c1 c2:Nat) (w:World) (i1:I64 n) (i2:I64 i) (hn:n≤5000) (hl:LK bL w (JR p1 l.length c1) l) (hz:∀ s∈l,s.size≤100000000) (hp:LK bL w (JR p2 proof.length c2) proof) :
  Calls prog 159 #[JQ root,JO JP n,JQ lo,JQ hi,JO JP i,JR p1 l.length c1,JR p2 proof.length c2] w (AS root n lo hi i l proof w):=by
 have kv:=CQ root n i l proof p1 p2 c1 c2 w i1 i2 hn hl hz hp;have HL:=aa hl;clear hl hz hp;go_enter func159,ntmps159;go_wp2_with fail;refine kv.mono ?_;clear kv;rintro _ w1 ⟨t,rfl,ht,hb1⟩;have HT:=aa ht;clear ht
 cases t
 ·have HN:Hid (¬ gU root n lo hi i l proof):=aa (fun h=>by have:=HT.out.2 h.1;cases this);clear HT;go_wp2_with fail
  go_ret2
  exact .inl ⟨HN.out,rfl,hb1⟩
 have HV:Hid (gP root n i l proof):=aa (HT.out.1 rfl)
 clear HT;have hvi:=HV.out.1;have ks:=CI l p1 c1 w1 (HL.out.below hb1) mOm;go_wp2_with fail;refine ks.mono ?_;clear ks;rintro _ w2 ⟨t,rfl,ht,hb2⟩;have hbw:=ah hb1 hb2;have HT:=aa ht;clear ht hb1 hb2
 cases t
 ·have HN:Hid (¬ gU root n lo hi i l proof):=aa (fun h=>by have:=HT.out.2 h.2.1;cases this);clear HT;go_wp2_with fail
  go_ret2
  exact .inl ⟨HN.out,rfl,hbw⟩
 have HS:Hid (eL l):=aa (HT.out.1 rfl)
 clear HT;obtain ⟨m,rfl⟩:∃ m:Nat,n=m:=⟨n.toNat,mOm⟩;obtain ⟨k,rfl⟩:∃ k:Nat,i=k:=⟨i.toNat,mOm⟩;obtain ⟨tl,htl⟩:∃ t,t=rX l lo k:=⟨_,rfl⟩;obtain ⟨tr,htr⟩:∃ t,t=pQ l hi k m:=⟨_,rfl⟩;have HTL:=aa htl;have HTR:=aa htr;have hk5:k≤5000:=mOm;have hm5:m≤5000:=mOm;have hl5:l.length≤5000:=mOm;clear htl htr hvi i1 i2
 go_upto_region 3 with fail
 go_cut [16] (fun v wx=>v=.bool tl∧wx=w2)
 case first =>
  by_cases hk0:k=0
  ·have t1:((k:Int)==0)=true:=by rw [beq_iff_eq];omega
   have HE:Hid (tl=true):=aa (by rw [HTL.out];unfold rX;rw [decide_eq_true hk0,Bool.true_or]);clear hk0;go_wp2_with fail
   go_meet
   case rel=>exact ⟨by rw [HE.out],rfl⟩
  ·have t1:((k:Int)==0)=false:=by rw [beq_eq_false_iff_ne];omega
   have HK0:=aa hk0;clear hk0;by_cases hl0:l.length=0
   ·have t2:¬ (0:Int) < (l.length:Int):=mOm;have HE:Hid (tl=false):=aa (by rw [HTL.out];unfold rX;rw [decide_eq_false HK0.out,aS hl0];rfl);clear hl0;go_wp2_with fail
    go_meet
    case rel=>exact ⟨by rw [HE.out],rfl⟩
   ·obtain ⟨g,o,rfl,hg,hcv⟩:=eO (HL.out.below hbw) rfl mOm;have hge:=ai (show 0 < l.length by omega);have q0:=hcv 0 _ hge;rw [ee] at q0;have t2:(0:Int) < (l.length:Int):=mOm;have HE:Hid (tl=decide (bU l[0] lo < 0)):=aa (by rw [HTL.out];unfold rX;rw [decide_eq_false HK0.out,hge];rfl);generalize l[0]=x at *;have t3:=jq x lo;rw [← HE.out] at t3;clear hl0 hcv hge;go_wp2_with fail
    go_meet
    case rel=>exact ⟨by first | rfl | rw [t3],rfl⟩
 case rest =>
  obtain ⟨rfl,rfl⟩:=hcut
  go_upto_region 4 with fail
  go_cut [17] (fun v wx=>v=.bool tr∧wx=wc)
  case first =>
   have a1:IntKind.i64.wrap ((k:Int)+(l.length:Int))=(k:Int)+(l.length:Int):=aF _ mOm;by_cases hk0:k+l.length=m
   ·have t1:((k:Int)+(l.length:Int)==(m:Int))=true:=by rw [beq_iff_eq];omega
    have HE:Hid (tr=true):=aa (by rw [HTR.out];unfold pQ;rw [decide_eq_true hk0,Bool.true_or]);clear hk0;go_wp2_with fail
    go_meet
    case rel=>exact ⟨by rw [HE.out],rfl⟩
   ·have t1:((k:Int)+(l.length:Int)==(m:Int))=false:=by rw [beq_eq_false_iff_ne];omega
    have HK0:=aa hk0;clear hk0;by_cases hl0:l.length=0
    ·have t2:¬ (0:Int) < (l.length:Int):=mOm;have HE:Hid (tr=false):=aa (by rw [HTR.out];unfold pQ;rw [decide_eq_false HK0.out,aS hl0];rfl);clear hl0;go_wp2_with fail
     go_meet
     case rel=>exact ⟨by rw [HE.out],rfl⟩
    ·obtain ⟨g,o,rfl,hg,hcv⟩:=eO (HL.out.below hbw) rfl mOm;obtain ⟨q,hq⟩:∃ q,q=l.length - 1:=⟨_,rfl⟩;have hge:=ai (show q < l.length by omega);have q0:=hcv q _ hge;have a2:IntKind.i64.wrap ((l.length:Int) - 1)=(q:Int):=by rw [show (l.length:Int) - 1=(q:Int) by omega];exact eR _ _ rfl mOm
     have t2:(0:Int) < (l.length:Int):=mOm;have i7:(q:Int) < (l.length:Int):=mOm;have i8:(0:Int)≤(q:Int):=mOm;have HE:Hid (tr = !decide (bU l[q] hi < 0)):=aa (by rw [HTR.out];unfold pQ;rw [decide_eq_false HK0.out,← hq,hge];rfl);generalize l[q]=x at *;have t3:=jq x hi;have HE2:Hid (tr=leB hi x):=aa (by rw [HE.out];unfold leB;rw [t3]);clear hl0 hcv hge hq t3;go_wp2_with fail
     go_meet
     case rel=>exact ⟨by rw [HE2.out],rfl⟩
  case rest =>
   obtain ⟨rfl,rfl⟩:=hcut
   have HWO:Hid (gU root m lo hi k l proof↔tl=true∧tr=true):=aa (by
    unfold gU;rw [cm,cm,← HTL.out,← HTR.out]
    exact ⟨fun h=>⟨h.2.2.1,h.2.2.2⟩,fun h=>⟨HV.out,HS.out,h.1,h.2⟩⟩)
   by_cases hto:tl=true∧tr=true
   rotate_left 1
   ·have HN:Hid (¬ gU root m lo hi k l proof):=aa (fun h=>hto (HWO.out.1 h));clear HWO
    cases tl
    ·clear hto;go_wp2_with fail
     go_ret2
     exact .inl ⟨HN.out,rfl,hbw⟩
    ·cases tr
     ·clear hto;go_wp2_with fail
      go_ret2
      exact .inl ⟨HN.out,rfl,hbw⟩
     ·exact absurd ⟨rfl,rfl⟩ hto
   have HOK:=aa (HWO.out.2 hto)
   obtain ⟨rfl,rfl⟩:=hto;clear HWO;go_wp2_with fail
   go_loopw [18,76] (fun v x wr=>∃ j:Nat,j≤l.length∧x=JO JP j∧LQ bL 1 9 w wr v ((l.take j).filter (inB lo hi))) (fun _ x _=>l.length - (aw x).toNat)
   case atStart=>exact ⟨0,aR _,rfl,⟨⟨_,_,rfl⟩,dK _ _ _ _,hbw⟩⟩
   case round =>
    obtain ⟨j,hj,rfl,hO⟩:=hrel;obtain ⟨pv,cv,hv⟩:=hO.form;subst hv;by_cases hlt:j < l.length
    ·obtain ⟨g,o,rfl,hg,hcv⟩:=eO HL.out rfl mOm;have hge:=ai hlt;have q0:=(hO.low.cell (p:=⟨g,o+j,JW⟩) hg).trans (hcv j _ hge);have i7:(j:Int) < (l.length:Int):=mOm;have i8:(0:Int)≤(j:Int):=mOm;have hfl:((l.take j).filter (inB lo hi)).length≤5000:=bu (List.length_filter_le _ _) (by rw [aM];omega)
     have HTK:Hid ((l.take (j+1)).filter (inB lo hi)=(l.take j).filter (inB lo hi)++(if inB lo hi l[j]=true then [l[j]] else [])):=aa (by
      rw [aL,hge,Option.toList_some,Zfa]
      congr 1
      by_cases h:inB lo hi l[j]=true
      ·rw [if_pos h,List.filter_cons_of_pos h];rfl
      ·rw [if_neg h,List.filter_cons_of_neg h];rfl)
     generalize l[j]=x at *
     generalize (l.take j).filter (inB lo hi)=F at *;have t3:=AC lo x;have t4:=jq x hi;clear hcv hge;by_cases hin:inB lo hi x=true
     ·have HTK2:Hid ((l.take (j+1)).filter (inB lo hi)=F++[x]):=aa (by rw [HTK.out,if_pos hin]);have hin2:decide (bU x lo < 0)=false∧decide (bU x hi < 0)=true:=by unfold inB at hin;simpa using hin
      obtain ⟨h1,h2⟩:=hin2;rw [h1,fa] at t3;rw [h2] at t4;have hO1:=hO.next (al wr (JU #[JQ x] 9));have hlit:LK bL (wr.alloc (JU #[JQ x] 9)) (JR (JV ⟨wr.heap.size,0,JW⟩) 1 1) [x]:=cF (heap_alloc_new wr _) _ rfl rfl;have hown:=hO1.own;have hsz:=hO1.low.size;have HO1:=aa hO1;clear hO hO1 hin h1 h2;go_wp2_with (at_builtin;refine bB jY rfl (.tmp 88) (.tmp 90) rfl w.heap.size _ _ F [x] rfl rfl hown hlit (by simp only [aG];omega) hsz ?_;intro v9 w9 hA9;have hO9:=HO1.out.app hA9;have HO9:=aa hO9;clear hO9 hA9)
      go_roundw
      case rel=>exact ⟨j+1,mOm,by go_num,by rw [HTK2.out];exact HO9.out⟩
      case measure=>simp [aw];omega
     ·have HTK2:Hid ((l.take (j+1)).filter (inB lo hi)=F):=aa (by rw [HTK.out,if_neg hin,dF]);have hor:leB lo x=false∨leB lo x=true∧Op.bytesLess x.toList hi.toList=false:=by
       rw [t3,t4];unfold inB at hin
       cases h1:decide (bU x lo < 0) <;> cases h2:decide (bU x hi < 0) <;> simp_all
      have HO:=aa hO
      clear hO hin t3 t4;rcases hor with t3 | ⟨t3,t4⟩
      all_goals
       go_wp2_with fail
       go_roundw
       case rel=>exact ⟨j+1,mOm,by go_num,by rw [HTK2.out];exact HO.out⟩
       case measure=>simp [aw];omega
    ·obtain rfl:j=l.length:=mOm;rw [aT] at hO ⊢;have HO:=aa hO;clear hO;go_wp2_with fail
     go_ret2
     exact .inr ⟨HOK.out,_,rfl,HO.out⟩
end
section
open Go Go.Proofs Go.RowKit Go.Sort Go.Lib
theorem mp (a b:UInt8) (x y:List UInt8):Op.bytesLess (a::x) (b::y)=true↔a.toNat < b.toNat∨(a=b∧Op.bytesLess x y=true):=by
 show (decide (a < b)||(a==b&&Op.bytesLess x y))=true↔_
 rw [Bool.or_eq_true,Bool.and_eq_true,decide_eq_true_eq,beq_iff_eq];exact Iff.rfl
theorem xO:∀ {x y z:List UInt8},Op.bytesLess x y=true→Op.bytesLess y z=true→Op.bytesLess x z=true
 | _,[],_,h,_=>by simp [Op.bytesLess] at h
 | _,_::_,[],_,h=>by simp [Op.bytesLess] at h
 | [],_::_,_::_,_,_=>by simp [Op.bytesLess]
 | a::x,b::y,c::z,h1,h2=>by
  rcases (mp _ _ _ _).1 h1 with k1 | ⟨rfl,k1⟩
  ·rcases (mp _ _ _ _).1 h2 with k2 | ⟨rfl,k2⟩
   ·exact (mp _ _ _ _).2 (.inl (Nat.lt_trans k1 k2))
   ·exact (mp _ _ _ _).2 (.inl k1)
  ·rcases (mp _ _ _ _).1 h2 with k2 | ⟨rfl,k2⟩
   ·exact (mp _ _ _ _).2 (.inl k2)
   ·exact (mp _ _ _ _).2 (.inr ⟨rfl,xO k1 k2⟩)
theorem vZ:∀ {x:List UInt8},Op.bytesLess x x=false
 | []=>by simp [Op.bytesLess]
 | a::x=>by
  rw [Bool.eq_false_iff];intro h;rcases (mp _ _ _ _).1 h with h | ⟨_,h⟩
  ·exact Nat.lt_irrefl _ h
  ·rw [vZ] at h;cases h
theorem lt_bl {a b:ByteArray}:bU a b < 0↔Op.bytesLess a.toList b.toList=true:=by rw [jq,decide_eq_true_eq]
theorem lj {a b c:ByteArray} (h:bU a b < 0) (h2:bU b c < 0):bU a c < 0:=lt_bl.2 (xO (lt_bl.1 h) (lt_bl.1 h2))
theorem pm {a:ByteArray}:¬ bU a a < 0:=fun h=>by have:=lt_bl.1 h;rw [vZ] at this;cases this
theorem Bg {a b:ByteArray} (h:bU a b < 0):¬ bU b a < 0:=fun h2=>pm (lj h h2)
theorem uh {a b:ByteArray} (h:¬ bU a b < 0) (hne:a ≠ b):bU b a < 0:=by
 have ht:=pU a.toList b.toList;have h1:Op.bytesLess a.toList b.toList=false:=Bool.eq_false_iff.2 (fun e=>h (lt_bl.2 e));have h2:(a.toList==b.toList)=false:=beq_eq_false_iff_ne.2 (fun e=>hne (ba_toList.1 e));rw [h1,h2] at ht;exact lt_bl.2 (by simpa using ht.symm)
theorem wR {l:List ByteArray} (hs:eL l):∀ (d i:Nat) (a b:ByteArray),l[i]? = JV a→l[i+d+1]? = JV b→bU a b < 0
 | 0,i,a,b,ha,hb=>hs i a b ha hb
 | d+1,i,a,b,ha,hb=>by
  have hlt:=(ap.1 hb).1;have hc:=ai (show i+d+1 < l.length by omega);exact lj (wR hs d i a _ ha hc) (hs (i+d+1) _ b hc (by rw [show i+d+1+1=i+(d+1)+1 by omega];exact hb))
theorem qx {l:List ByteArray} (hs:eL l) {i j:Nat} {a b:ByteArray} (hij:i < j) (ha:l[i]? = JV a) (hb:l[j]? = JV b):bU a b < 0:=
 wR hs (j - i - 1) i a b ha (by rw [show i+(j - i - 1)+1=j by omega];exact hb)
theorem qz {α:Type} {p:α→Bool}:∀ {l:List α} {k:Nat} {x:α},k < (l.takeWhile p).length→l[k]? = JV x→p x=true
 | [],_,_,h,_=>by simp at h
 | a::l,k,x,h,hx=>by
  by_cases hp:p a=true
  ·rw [List.takeWhile_cons_of_pos hp] at h
   cases k with
   | zero=>obtain rfl:=Option.some.inj hx;exact hp
   | succ k=>exact qz (l:=l) (k:=k) (by simpa using h) (by simpa using hx)
  ·rw [List.takeWhile_cons_of_neg hp] at h;simp at h
theorem qy {α:Type} {p:α→Bool}:∀ {l:List α} {x:α},l[(l.takeWhile p).length]? = JV x→p x=false
 | [],_,h=>by simp at h
 | a::l,x,h=>by
  by_cases hp:p a=true
  ·rw [List.takeWhile_cons_of_pos hp] at h;exact qy (l:=l) (by simpa using h)
  ·rw [List.takeWhile_cons_of_neg hp] at h;obtain rfl:=Option.some.inj h
   simpa using hp
theorem gM {l:List ByteArray} (hs:eL l) {s x:ByteArray} {k:Nat} (hx:l[k]? = JV x):k < dM l s↔bU x s < 0:=by
 constructor
 ·intro h;exact of_decide_eq_true (qz (p:=fun x=>decide (bU x s < 0)) h hx)
 ·intro h;refine Nat.lt_of_not_le fun hle=>?_
  have hlt:=(ap.1 hx).1;obtain ⟨y,hge⟩:∃ y,l[dM l s]? = some y:=⟨_,ai (show dM l s < l.length by omega)⟩;have h1:=qy (p:=fun x=>decide (bU x s < 0)) hge;have h1:=of_decide_eq_false h1;rcases Nat.eq_or_lt_of_le hle with e | e
  ·rw [e] at hge;rw [hge] at hx;obtain rfl:=Option.some.inj hx;exact h1 h
  ·exact h1 (lj (qx hs e hge hx) h)
def fM (l:List ByteArray):ByteArray:=lz l.length (gp be fP (dO be [] (fA be (lfD l) 0 l.length)))
theorem zL (l:List ByteArray) (b:Nat):∀ (m:List ByteArray),(∀ k x,m[k]? = JV x→l[b+k]? = JV x)→l5 be (lfD l) (dZ b m):=by
 have:∀ (n:Nat) (m:List ByteArray),m.length=n→(∀ k x,m[k]? = JV x→l[b+k]? = JV x)→l5 be (lfD l) (dZ b m):=by
  intro n
  induction n with
  | zero=>intro m hm _;rw [aS hm];exact trivial
  | succ n ih =>
   intro m hm h;have hlast:=ai (show n < m.length by omega);have em:m=m.take n++[m[n]]:=by have e:=aL (l:=m) (i:=n);rw [hlast,dR mOm] at e;exact e
   have hk:=h n _ hlast
   generalize m[n]=x at em hk;rw [em,mc];have hl:(m.take n).length=n:=by rw [aM];omega
   rw [hl];refine kA _ _ (ih (m.take n) hl (fun k y hy=>?_)) ⟨⟨0,rfl,Nat.mod_one _,?_⟩,trivial⟩
   ·have hkn:=(ap.1 hy).1;rw [hl] at hkn;rw [dJ hkn] at hy;exact h k y hy
   ·show jE x=lfD l (b+n)
    unfold lfD
    rw [bi,hk];rfl
 exact fun m h=>this m.length m rfl h
theorem CS (i j:Nat) (l x:List ByteArray):bZ (bY i j) (eQ l i j++x)=fA be (lfD l) i j:=by
 have h:=vV be (lfD l) i j;have hl:=kM l i j;rw [← h];unfold bZ
 congr 1
 show (bY i j).zip (eQ l i j++x)=(bY i j).zip (eQ l i j)
 generalize eQ l i j=d at hl
 generalize bY i j=b at hl;clear h
 induction b generalizing d with
 | nil=>rfl
 | cons y b ih =>
  cases d with
  | nil=>simp at hl
  | cons z d=>rw [List.cons_append,List.zip_cons_cons,List.zip_cons_cons,ih d (by simpa using hl)]
theorem nC (l:List ByteArray) (i j:Nat):∀ s∈eQ l i j,s.size=8:=by intro s hs;unfold eQ fA at hs;rw [kO] at hs;obtain ⟨z,_,rfl⟩:=eF.1 hs;exact ml l _ _
theorem yH (l:List ByteArray) (i j:Nat) (hij:i≤j) (hj:j≤l.length) (hn:l.length≤1000000):gP (fM l) l.length i ((l.drop i).take (j - i)) (gZ l i j):=by
 have hlen:((l.drop i).take (j - i)).length=j - i:=by rw [aM,bF];omega
 refine ⟨⟨mOm,mOm,mOm,mOm,by rw [hlen];omega⟩,?_,?_,?_⟩
 ·intro s hs;unfold gZ at hs;rcases bN.1 hs with hs | hs
  ·exact nC _ _ _ s hs
  ·exact nC _ _ _ s hs
 ·rw [hlen,cm,cm,show i+(j - i)=j by omega];unfold gZ;rw [ax,kM,kM]
 ·rw [cm,cm];unfold fM mB nw;rw [List.reverse_reverse]
  congr 2
  unfold nz
  rw [hlen,show i+(j - i)=j by omega];unfold gZ;have ed:(eQ l 0 i++eQ l j l.length).drop (bY 0 i).length=eQ l j l.length:=by rw [← kM l 0 i];exact List.drop_left
  rw [CS,ed];rw [show bZ (bY j l.length) (eQ l j l.length)=fA be (lfD l) j l.length from vV be (lfD l) j l.length];have h0:=mr be (lfD l) l.length l.length 0 mOm (aR _);have h1:=mr be (lfD l) i i 0 mOm (aR _);have h3:=mr be (lfD l) l.length (l.length - j) j (aD _) hj;have h2:=qn i ((l.drop i).take (j - i)) (j - i) mOm;rw [dR mOm,show i+(j - i)=j by omega] at h2
  have h4:=zL l i ((l.drop i).take (j - i)) (fun k x hx=>by
   have hk:=(ap.1 hx).1;rw [hlen] at hk;rw [dJ hk,eP] at hx
   exact hx)
  rw [ru be (lfD l) _ l.length h0.1 h0.2,ru be (lfD l) _ l.length (jk (jk h1.1 h2) h3.1) (kA _ _ (kA _ _ h1.2 h4) h3.2)]
def iN (l:List ByteArray) (lo hi:ByteArray):List ByteArray:=(l.drop (dV l lo)).take (gl l lo hi - dV l lo)
theorem wW {l:List ByteArray} (hs:eL l) (lo hi:ByteArray) (hn:l.length≤1000000) :
  gU (fM l) l.length lo hi (dV l lo) (iN l lo hi) (gZ l (dV l lo) (gl l lo hi))∧(iN l lo hi).filter (inB lo hi)=l.filter (inB lo hi):=by
 have hf1:=gL l lo;have hf2:=gL l hi;obtain ⟨i,hi0⟩:∃ i,i=dV l lo:=⟨_,rfl⟩;obtain ⟨j,hj0⟩:∃ j,j=gl l lo hi:=⟨_,rfl⟩;have ei:i=dM l lo - 1:=hi0;have ej:j=min l.length (max (dM l lo) (dM l hi)+1):=hj0;have hij:i≤j:=mOm;have hjl:j≤l.length:=mOm;unfold iN;rw [← hi0,← hj0];have hlen:((l.drop i).take (j - i)).length=j - i:=by rw [aM,bF];omega
 have hat:∀ k,k < j - i→((l.drop i).take (j - i))[k]? = l[i+k]?:=fun k hk=>by rw [dJ hk,eP]
 refine ⟨⟨yH l i j hij hjl hn,?_,?_,?_⟩,?_⟩
 ·intro k a b ha hb;have hk:=(ap.1 hb).1;rw [hlen] at hk;rw [hat k mOm] at ha;rw [hat (k+1) hk,← Nat.add_assoc] at hb;exact hs _ a b ha hb
 ·rw [cm];unfold rX;by_cases h0:i=0
  ·rw [decide_eq_true h0,Bool.true_or]
  ·have hge:=ai (show i < l.length by omega);rw [hat 0 mOm,ee,hge];have:=(gM hs (s:=lo) hge).1 mOm
   show (decide _||decide _)=true
   rw [decide_eq_true this,Bool.or_true]
 ·rw [cm,cm];unfold pQ;rw [hlen];by_cases h0:i+(j - i)=l.length
  ·rw [decide_eq_true h0,Bool.true_or]
  ·have hge:=ai (show j - 1 < l.length by omega);rw [hat (j - i - 1) mOm,show i+(j - i - 1)=j - 1 by omega,hge]
   have:¬ bU l[j - 1] hi < 0:=fun h=>by
    have:=(gM hs (s:=hi) hge).2 h;omega
   show (decide _ || !decide _)=true
   rw [decide_eq_false this,fa,Bool.or_true]
 ·have e1:l=l.take i++((l.drop i).take (j - i)++l.drop j):=by
   have h1:l.drop j=(l.drop i).drop (j - i):=by rw [List.drop_drop];congr 1;omega
   rw [h1,bS,bS]
  have e2:(l.take i).filter (inB lo hi)=[]:=by
   rw [List.filter_eq_nil_iff];intro x hx;obtain ⟨k,hk,hk2⟩:=List.mem_take_iff_getElem.1 hx;have hge:l[k]? = JV x:=by rw [ai mOm,hk2]
   have:=(gM hs (s:=lo) hge).1 mOm;unfold inB;rw [decide_eq_true this];simp
  have e3:(l.drop j).filter (inB lo hi)=[]:=by
   rw [List.filter_eq_nil_iff];intro x hx;obtain ⟨k,hk,hk2⟩:=List.getElem_of_mem hx;rw [bF] at hk;have hge:l[j+k]? = JV x:=by rw [← eP,ai (by rw [bF];omega),hk2]
   have:¬ bU x hi < 0:=fun h=>by
    have:=(gM hs (s:=hi) hge).2 h;omega
   unfold inB
   rw [decide_eq_false this];simp
  conv=>rhs;rw [e1]
  rw [Zfa,Zfa,e2,e3,dt,dF]
end
section
open Go Go.RowKit Go.Sort Go.Lib
def stI:Option (List UInt8)→Int×Option (List UInt8)
 | none=>(0,none)
 | some r=>match Wr.intP r with
  | some (n,r')=>(n,some r')
  | none=>(0,none)
def stT:Option (List UInt8)→ByteArray×Option (List UInt8)
 | none=>(⟨#[]⟩,none)
 | some r=>match Wr.txtP r with
  | some (t,r')=>(t,some r')
  | none=>(⟨#[]⟩,none)
def RdSt (w:World) (p:Nat):Option (List UInt8)→Prop
 | some r=>Wr.RdAt w p ⟨r.toArray⟩ false∧r.length≤1000000
 | none=>Wr.RdAt w p ⟨#[]⟩ true
def CY (p:Nat) (R:World→Prop) (v:Value) (w:World) (x:Ending) (w':World):Prop:=x=JT v∧R w'∧Wr.But p w w'
theorem fK (p:Nat) (hp:Wr.Past p) (st:Option (List UInt8)) (w:World) (h:RdSt w p st) (ht:Wr.Sane w) (he:Wr.ErrVars w) :
  Calls prog 162 #[JS (JV ⟨p,0,JW⟩)] w (CY p (fun w'=>RdSt w' p (stI st).2) (JO JP (stI st).1) w):=by
 cases st with
 | none =>
  refine (Wr.rdInt_any p hp ⟨#[]⟩ mDe true w h ht he).mono fun x w' hR=>?_
  rw [if_pos rfl] at hR;exact hR
 | some r =>
  have hl:=h.2;refine (Wr.rdInt_any p hp ⟨r.toArray⟩ (by show r.length≤_;omega) false w h.1 ht he).mono fun x w' hR=>?_
  rw [if_neg mDe] at hR;simp only at hR;unfold stI;simp only
  change Wr.Reads p _ _ (Wr.intP r) w x w' at hR
  rcases hz:Wr.intP r with _ | ⟨n,r'⟩
  ·rw [hz] at hR;exact hR
  ·rw [hz] at hR;have hlen:=congrArg gT (Wr.intP_some hz).1;rw [ax] at hlen;exact ⟨hR.1,⟨hR.2.1,mOm⟩,hR.2.2⟩
theorem uV (p:Nat) (hp:Wr.Past p) (st:Option (List UInt8)) (w:World) (h:RdSt w p st) (ht:Wr.Sane w) (he:Wr.ErrVars w) :
  Calls prog 163 #[JS (JV ⟨p,0,JW⟩)] w (CY p (fun w'=>RdSt w' p (stT st).2) (JQ (stT st).1) w):=by
 cases st with
 | none =>
  refine (Wr.rdText_any p hp ⟨#[]⟩ mDe true w h ht he).mono fun x w' hR=>?_
  rw [if_pos rfl] at hR;exact hR
 | some r =>
  have hl:=h.2;refine (Wr.rdText_any p hp ⟨r.toArray⟩ (by show r.length≤_;omega) false w h.1 ht he).mono fun x w' hR=>?_
  rw [if_neg mDe] at hR;simp only at hR;unfold stT;simp only;rcases hz:Wr.textP r with _ | ⟨t,r'⟩
  ·have h2:Wr.txtP r=JW:=by unfold Wr.txtP;rw [hz];rfl
   rw [hz] at hR;rw [h2];exact hR
  ·have h2:Wr.txtP r=JV (⟨t.toArray⟩,r'):=by unfold Wr.txtP;rw [hz];rfl
   rw [hz] at hR;rw [h2];have hlen:=congrArg gT (Wr.txtP_some h2).1;rw [ax] at hlen;exact ⟨hR.1,⟨hR.2.1,mOm⟩,hR.2.2⟩
def xC:Option (List UInt8)→Int
 | some r=>r.length
 | none=>0
theorem Ei (p:Nat) (st:Option (List UInt8)) (w:World) (h:RdSt w p st):Calls prog 164 #[JS (JV ⟨p,0,JW⟩)] w fun x w'=>x=JT (.bool st.isNone)∧w=w':=by
 cases st with
 | none=>exact Wr.bad_any p ⟨#[]⟩ true w h
 | some r=>exact Wr.bad_any p _ false w h.1
theorem CJ (p:Nat) (st:Option (List UInt8)) (w:World) (h:RdSt w p st):Calls prog 165 #[JS (JV ⟨p,0,JW⟩)] w fun x w'=>x=JT (JO JP (xC st))∧w=w':=by
 cases st with
 | none=>exact Wr.left_any p ⟨#[]⟩ true w h
 | some r=>exact Wr.left_any p _ false w h.1
def qQ (s0:Option (List UInt8)):Ent×Option (List UInt8):=
 let a1:=stI s0;let a2:=stI a1.2;let a3:=stI a2.2;let a4:=stI a3.2;let a5:=stI a4.2;let a6:=stI a5.2
 let a7:=stT a6.2
 let a8:=stI a7.2;let a9:=stI a8.2;let a10:=stI a9.2;let a11:=stI a10.2;let a12:=stI a11.2;let a13:=stI a12.2;let a14:=stI a13.2
 let a15:=stT a14.2
 (⟨a1.1,a2.1,a3.1,a4.1,a5.1,a6.1,a7.1,a8.1,a9.1,a10.1,a11.1,a12.1,a13.1,a14.1,a15.1⟩,a15.2)
theorem ui {t0 t1 t2 t3 t4 t5 t6 t7 t8 t9 t10 t11 t12 t13 t14 t15:Option (List UInt8)} {n1 n2 n3 n4 n5 n6 n8 n9 n10 n11 n12 n13 n14:Int} {n7 n15:ByteArray} (h1:stI t0=(n1,t1)) (h2:stI t1=(n2,t2)) (h3:stI t2=(n3,t3)) (h4:stI t3=(n4,t4)) (h5:stI t4=(n5,t5)) (h6:stI t5=(n6,t6)) (h7:stT t6=(n7,t7)) (h8:stI t7=(n8,t8)) (h9:stI t8=(n9,t9)) (h10:stI t9=(n10,t10)) (h11:stI t10=(n11,t11)) (h12:stI t11=(n12,t12)) (h13:stI t12=(n13,t13)) (h14:stI t13=(n14,t14)) (h15:stT t14=(n15,t15)) :
  qQ t0=(⟨n1,n2,n3,n4,n5,n6,n7,n8,n9,n10,n11,n12,n13,n14,n15⟩,t15):=by
 unfold qQ;simp only [h1,h2,h3,h4,h5,h6,h7,h8,h9,h10,h11,h12,h13,h14,h15]
theorem gQ {n:Int} (hn:I64 n) (r:List UInt8):stI (JV (dj n++r))=(n,JV r):=by unfold stI;simp only;rw [Wr.intP_int hn r]
theorem yZ {t:ByteArray} (ht:t.size≤100000) (r:List UInt8):stT (JV (d8 t++r))=(t,JV r):=by unfold stT;simp only;rw [Wr.txtP_text mOm r]
theorem Da (e:Ent) (h:e.Ok):qQ (JV e.code)=(e,JV []):=by
 have hc:e.code=dj e.id++(dj e.school++(dj e.student++(dj e.kind++(dj e.day++(dj e.on++(d8 e.course++(dj e.credits++(dj e.grade++(dj e.ref++(dj e.fro++(dj e.programme++(dj e.version++(dj e.key++(d8 e.mark++[])))))))))))))):=by simp [Ent.code,Ent.body,fu,Ent.ints1,Ent.ints2]
 rw [hc]
 exact ui (gQ h.id _) (gQ h.school _) (gQ h.student _) (gQ h.kind _) (gQ h.day _) (gQ h.on _) (yZ h.course _) (gQ h.credits _) (gQ h.grade _) (gQ h.ref _) (gQ h.fro _) (gQ h.programme _) (gQ h.version _) (gQ h.key _) (yZ h.mark _)
def el (s:List UInt8):Ent×Int:=if 262144 < s.length then (entZ,2) else if (qQ (JV s)).2=JV [] then ((qQ (JV s)).1,0) else (entZ,4)
def qb (s:List UInt8):Value:=.tuple #[(el s).1.val,JO JP (el s).2]
theorem wj (e:Ent) (h:e.Ok) (hl:e.code.length≤262144):el e.code=(e,0):=by unfold el;rw [if_neg mOm,Da e h,if_pos rfl]
end
section
namespace Wr
open Go Go.RowKit Go.Sort Go.Lib
structure Ready (w:World):Prop where
 sane:Sane w
 errs:ErrVars w
theorem Ready.below {w w':World} (h:Ready w) (hb:ac w.heap.size w w'):Ready w':=⟨h.sane.below hb,h.errs.below hb⟩
theorem Er {w:World} {n:String} {cs:Array Value} {g:Nat} (hg:prog.globalNamed n=JV g) (h:w.var? prog n=JV cs):g < w.heap.size:=by
 unfold World.var? at h;rw [hg] at h;simp only [Option.bind_some] at h;rcases Nat.lt_or_ge g w.heap.size with hx | hx
 ·exact hx
 ·rw [Array.getElem?_eq_none hx] at h;cases h
theorem Ready.past {w:World} (h:Ready w) {p:Nat} (hp:w.heap.size≤p):Past p:=by obtain ⟨⟨h1,m,h2⟩,⟨t1,p1,e1⟩,t2,p2,e2⟩:=h;have a1:=h1.lt;have a2:=am w _ h2;have a3:=Er (g:=2) mKr e1;have a4:=Er (g:=3) mKr e2;unfold Past;simp only at a2;omega
end Wr
open Go Go.RowKit Go.Sort Go.Lib
attribute [local go_sem] Ent.cells
structure DIn (w W:World) (zb eb:Nat) (e:Ent):Prop where
 below:ac w.heap.size w W
 zero:LN W zb entZ
 box:LN W eb e
theorem LN.but {w w':World} {b p:Nat} {e:Ent} (h:LN w b e) (hB:Wr.But p w w') (hp:b ≠ p):LN w' b e:=(hB.block b (ay h) hp).trans h
theorem DIn.call {w W W':World} {zb eb p:Nat} {e:Ent} (h:DIn w W zb eb e) (hB:Wr.But p W W') (hp:w.heap.size≤p) (hz:zb ≠ p) (he:eb ≠ p):DIn w W' zb eb e:=
 ⟨h.below.trans (hB.below hp h.below.size),h.zero.but hB hz,h.box.but hB he⟩
theorem DIn.set {w W:World} {zb eb:Nat} {e:Ent} (h:DIn w W zb eb e) (e':Ent) (j:Nat) (u:Value) (he:e.cells.setIfInBounds j u=e'.cells) (hz:zb ≠ eb) (hb:w.heap.size≤eb):DIn w (W.setCell ⟨eb,j,JW⟩ u) zb eb e':=
 ⟨h.below.setCell (p:=⟨eb,j,JW⟩) (by show w.heap.size≤eb;exact hb) u,h.zero.far2 hz j u,h.box.set j u he⟩
theorem xQ {W:World} {p eb:Nat} (hne:p ≠ eb) (j:Nat) (u:Value) (o:Nat):(W.setCell ⟨eb,j,JW⟩ u).cell? ⟨p,o,JW⟩=W.cell? ⟨p,o,JW⟩:=
 World.cell?_of_block (Below.heap_setCell W ⟨eb,j,JW⟩ u p (by show p ≠ eb;exact hne))
theorem uq {W:World} {p eb:Nat} (hne:p ≠ eb) (j:Nat) (u:Value) (o:Nat):(W.setCell ⟨eb,j,JW⟩ u).frozen? ⟨p,o,JW⟩=W.frozen? ⟨p,o,JW⟩:=
 World.frozen?_of_block (Below.heap_setCell W ⟨eb,j,JW⟩ u p (by show p ≠ eb;exact hne))
theorem D4 {W:World} {p eb:Nat} {s:ByteArray} {b:Bool} (h:Wr.RdAt W p s b) (hne:p ≠ eb) (j:Nat) (u:Value):Wr.RdAt (W.setCell ⟨eb,j,JW⟩ u) p s b:=
 ⟨(xQ hne j u 0).trans h.1,(xQ hne j u 1).trans h.2.1,(uq hne j u 0).trans h.2.2.1,(uq hne j u 1).trans h.2.2.2⟩
theorem RdSt.far {W:World} {p eb:Nat} {st:Option (List UInt8)} (h:RdSt W p st) (hne:p ≠ eb) (j:Nat) (u:Value):RdSt (W.setCell ⟨eb,j,JW⟩ u) p st:=by
 cases st with
 | none=>exact D4 h hne j u
 | some r=>exact ⟨D4 h.1 hne j u,h.2⟩
theorem bz {w W:World} (h:Wr.Ready w) (hb:ac w.heap.size w W):Wr.Ready W:=⟨h.sane.below hb,h.errs.below hb⟩
theorem DIn.go {w W W':World} {zb eb:Nat} {e:Ent} (h:DIn w W zb eb e) (hb:ac W.heap.size W W'):DIn w W' zb eb e:=
 ⟨h.below.trans (hb.mono h.below.size),h.zero.below hb,h.box.below hb⟩
theorem RdSt.below {w w':World} {p:Nat} {st:Option (List UInt8)} (h:RdSt w p st) (hb:ac w.heap.size w w'):RdSt w' p st:=by
 cases st with
 | none=>exact Wr.RdAt.below h hb
 | some r=>exact ⟨h.1.below hb,h.2⟩
theorem Dc {s:List UInt8} (h:262144 < s.length):qb s=.tuple #[entZ.val,JO JP 2]:=by unfold qb el;rw [if_pos h]
theorem Db {s:List UInt8} {e:Ent} (h:¬ 262144 < s.length) (hd:qQ (JV s)=(e,JV [])):qb s=.tuple #[e.val,JO JP 0]:=by unfold qb el;rw [if_neg h,hd,if_pos rfl]
theorem xX {s:List UInt8} {e:Ent} {t:Option (List UInt8)} (h:¬ 262144 < s.length) (hd:qQ (JV s)=(e,t)) (ht:t ≠ JV []):qb s=.tuple #[entZ.val,JO JP 4]:=by unfold qb el;rw [if_neg h,hd,if_neg ht]
end
section
open Go Go.RowKit Go.Sort Go.Lib
attribute [local go_sem] Ent.cells
theorem oU {p:Prop} (h:p:=by
 go_wp2_with ((with_reducible refine wpList_store_row (o:=⟨JW,.store 67 (.tmp 2) (.tmp 64),_,_,_,_⟩) ?_ 67 (.tmp 2) (.tmp 64) ?_ (w.heap.size) (Ent.cells entZ) ?_ ?_ 67 (Ent.cells entZ) ?_ ?_ ?_ ?_ ?_);rfl;rfl;rfl;rfl;exact hzb;kernel_rfl;rfl;simp [Ent.cells,entZ,Value.oneCell'])
 (try simp only [Exit.inBlock,Exit.then]);refine bodyPost_ret (jz results95 _ _ (w.heap.size) entZ rfl (fl hzb _)) rfl ⟨?_,?_⟩
 ·rw [HV.out];rfl
 ·exact aQ hbw (aD _) _):p:=h
theorem Q3 {p q:Prop} (h:q) (f:Wq q→p:=by
 intro hq;refine c.mono ?_;rintro x W1 ⟨rfl,R1,B⟩;replace D:=D.call B mOm mOm mOm
 revert W1 R1 B D
 exact hq.1):p:=f ⟨h⟩
theorem uj (s:ByteArray) (hsz:s.size≤1000000) (w:World) (ht:Wr.Ready w) :
  Calls prog 95 #[JQ s] w fun x w'=>x=JT (qb s.data.toList)∧ac w.heap.size w w':=by
 have hs:=bw s;by_cases hbig:262144 < s.size
 ·have HV:=aa (Dc (s:=s.data.toList) mOm);have hgt:(262144:Int) < (s.size:Int):=mOm;have hzb:=LN.new w entZ;have hb0:=au w (JU entZ.cells 67);clear hbig hs;go_enter func95,ntmps95;go_wp2_with ((with_reducible refine wpList_store_row (o:=⟨JW,.store 67 (.tmp 2) (.tmp 13),_,_,_,_⟩) ?_ 67 (.tmp 2) (.tmp 13) ?_ (w.heap.size) (Ent.cells entZ) ?_ ?_ 67 (Ent.cells entZ) ?_ ?_ ?_ ?_ ?_);rfl;rfl;rfl;rfl;exact hzb;kernel_rfl;rfl;simp [Ent.cells,entZ,Value.oneCell'])
  (try simp only [Exit.inBlock,Exit.then]);refine bodyPost_ret (jz results95 _ _ (w.heap.size) entZ rfl (fl hzb _)) rfl ⟨?_,?_⟩
  ·rw [HV.out];rfl
  ·exact aQ hb0 (aD _) _
 have hbl:=aa (show ¬ 262144 < s.data.toList.length by omega)
 clear hs;have hgt:¬ (262144:Int) < (s.size:Int):=mOm;go_enter func95,ntmps95;go_wp2_with fail;have hb0:=au w (JU entZ.cells 67);refine (Wr.new_any s _).mono ?_;rintro x w1 ⟨p,rfl,hp0,hR,hb1⟩;rw [size_alloc] at hp0;have hpl:=hR.lt;have hb2:=hb0.trans (hb1.mono hb0.size);have hb3:=C0 w1 (JU entZ.cells 67) (JU #[JS (JV ⟨w1.heap.size,0,JW⟩),JS (JV ⟨w1.heap.size,1,JW⟩),JS (JV ⟨w1.heap.size,2,JW⟩),JS (JV ⟨w1.heap.size,3,JW⟩),JS (JV ⟨w1.heap.size,4,JW⟩),JS (JV ⟨w1.heap.size,5,JW⟩)] 211);have hbx:=au (w1.alloc (JU entZ.cells 67)) (JU #[JS (JV ⟨w1.heap.size,0,JW⟩),JS (JV ⟨w1.heap.size,1,JW⟩),JS (JV ⟨w1.heap.size,2,JW⟩),JS (JV ⟨w1.heap.size,3,JW⟩),JS (JV ⟨w1.heap.size,4,JW⟩),JS (JV ⟨w1.heap.size,5,JW⟩)] 211);have D:DIn w ((w1.alloc (JU entZ.cells 67)).alloc (JU #[JS (JV ⟨w1.heap.size,0,JW⟩),JS (JV ⟨w1.heap.size,1,JW⟩),JS (JV ⟨w1.heap.size,2,JW⟩),JS (JV ⟨w1.heap.size,3,JW⟩),JS (JV ⟨w1.heap.size,4,JW⟩),JS (JV ⟨w1.heap.size,5,JW⟩)] 211)) w.heap.size w1.heap.size entZ:=⟨hb2.trans (hb3.mono hb2.size),((LN.new w entZ).below hb1).below hb3,(LN.new w1 entZ).below hbx⟩;have R:RdSt ((w1.alloc (JU entZ.cells 67)).alloc (JU #[JS (JV ⟨w1.heap.size,0,JW⟩),JS (JV ⟨w1.heap.size,1,JW⟩),JS (JV ⟨w1.heap.size,2,JW⟩),JS (JV ⟨w1.heap.size,3,JW⟩),JS (JV ⟨w1.heap.size,4,JW⟩),JS (JV ⟨w1.heap.size,5,JW⟩)] 211)) p (JV s.data.toList):=⟨hR.below hb3,by have:=hbl.out;omega⟩;have hP:=heap_alloc_new (w1.alloc (JU entZ.cells 67)) (JU #[JS (JV ⟨w1.heap.size,0,JW⟩),JS (JV ⟨w1.heap.size,1,JW⟩),JS (JV ⟨w1.heap.size,2,JW⟩),JS (JV ⟨w1.heap.size,3,JW⟩),JS (JV ⟨w1.heap.size,4,JW⟩),JS (JV ⟨w1.heap.size,5,JW⟩)] 211);rw [size_alloc] at hP;have hlt:=hb2.size;have hEZ:entZ.cells=#[JO JP 0,JO JP 0,JO JP 0,JO JP 0,JO JP 0,JO JP 0,JQ ⟨#[]⟩,JO JP 0,JO JP 0,JO JP 0,JO JP 0,JO JP 0,JO JP 0,JO JP 0,JQ ⟨#[]⟩]:=rfl;have hpa:=ht.past (p:=p) mOm;rw [hEZ] at D R hP;clear hb0 hb1 hb2 hb3 hbx hR hEZ;go_wp2_with fail;generalize (w1.alloc (JU #[JO JP 0,JO JP 0,JO JP 0,JO JP 0,JO JP 0,JO JP 0,JQ ⟨#[]⟩,JO JP 0,JO JP 0,JO JP 0,JO JP 0,JO JP 0,JO JP 0,JO JP 0,JQ ⟨#[]⟩] 67)).alloc (JU #[JS (JV ⟨w1.heap.size,0,JW⟩),JS (JV ⟨w1.heap.size,1,JW⟩),JS (JV ⟨w1.heap.size,2,JW⟩),JS (JV ⟨w1.heap.size,3,JW⟩),JS (JV ⟨w1.heap.size,4,JW⟩),JS (JV ⟨w1.heap.size,5,JW⟩)] 211)=W at D R hP ⊢;generalize heb:w1.heap.size=eb at D hP hpl hlt ⊢;clear heb;refine wp_loop_rounds 7 ?_;obtain ⟨n1,t1,h1⟩:∃ n t,stI (JV s.data.toList)=(n,t):=⟨_,_,rfl⟩;have c:=fK p hpa (JV s.data.toList) W R ((bz ht D.below).sane) ((bz ht D.below).errs);rw [h1] at c;replace h1:=aa h1;have hr:W.cell? ⟨eb+1,0,JW⟩=JV (JS (JV ⟨eb,0,JW⟩)):=ae hP 0;rw [rounds_succ];go_wp2_with fail;refine Q3 ?_;intro W1 R1 B D;have hc:W1.cell? ⟨eb,0,JW⟩=JV (JO JP 0):=D.box.cell 0;have hf:=D.box.frozen 0;have hP1:=(B.block _ (ay hP) mOm).trans hP;clear R B c hr;go_wp2_with fail;replace D:=D.set ⟨n1,0,0,0,0,0,⟨#[]⟩,0,0,0,0,0,0,0,⟨#[]⟩⟩ 0 (JO JP n1) rfl mOm mOm;have R:=R1.far (eb:=eb) mOm 0 (JO JP n1);replace hP:=(Below.heap_setCell W1 ⟨eb,0,JW⟩ (JO JP n1) (eb+1) (by show eb+1 ≠ eb;omega)).trans hP1;clear hc hf R1 hP1;generalize W1.setCell ⟨eb,0,JW⟩ (JO JP n1)=W at D R hP ⊢;obtain ⟨n2,t2,h2⟩:∃ n t,stI t1=(n,t):=⟨_,_,rfl⟩;have c:=fK p hpa t1 W R ((bz ht D.below).sane) ((bz ht D.below).errs);rw [h2] at c;replace h2:=aa h2;have hr:W.cell? ⟨eb+1,1,JW⟩=JV (JS (JV ⟨eb,1,JW⟩)):=ae hP 1;rw [rounds_succ];go_wp2_with fail;refine Q3 ?_;intro W1 R1 B D;have hc:W1.cell? ⟨eb,1,JW⟩=JV (JO JP 0):=D.box.cell 1;have hf:=D.box.frozen 1;have hP1:=(B.block _ (ay hP) mOm).trans hP;clear R B c hr;go_wp2_with fail;replace D:=D.set ⟨n1,n2,0,0,0,0,⟨#[]⟩,0,0,0,0,0,0,0,⟨#[]⟩⟩ 1 (JO JP n2) rfl mOm mOm;have R:=R1.far (eb:=eb) mOm 1 (JO JP n2);replace hP:=(Below.heap_setCell W1 ⟨eb,1,JW⟩ (JO JP n2) (eb+1) (by show eb+1 ≠ eb;omega)).trans hP1;clear hc hf R1 hP1;generalize W1.setCell ⟨eb,1,JW⟩ (JO JP n2)=W at D R hP ⊢;obtain ⟨n3,t3,h3⟩:∃ n t,stI t2=(n,t):=⟨_,_,rfl⟩;have c:=fK p hpa t2 W R ((bz ht D.below).sane) ((bz ht D.below).errs);rw [h3] at c;replace h3:=aa h3;have hr:W.cell? ⟨eb+1,2,JW⟩=JV (JS (JV ⟨eb,2,JW⟩)):=ae hP 2;rw [rounds_succ];go_wp2_with fail;refine Q3 ?_;intro W1 R1 B D;have hc:W1.cell? ⟨eb,2,JW⟩=JV (JO JP 0):=D.box.cell 2;have hf:=D.box.frozen 2;have hP1:=(B.block _ (ay hP) mOm).trans hP;clear R B c hr;go_wp2_with fail;replace D:=D.set ⟨n1,n2,n3,0,0,0,⟨#[]⟩,0,0,0,0,0,0,0,⟨#[]⟩⟩ 2 (JO JP n3) rfl mOm mOm;have R:=R1.far (eb:=eb) mOm 2 (JO JP n3);replace hP:=(Below.heap_setCell W1 ⟨eb,2,JW⟩ (JO JP n3) (eb+1) (by show eb+1 ≠ eb;omega)).trans hP1;clear hc hf R1 hP1;generalize W1.setCell ⟨eb,2,JW⟩ (JO JP n3)=W at D R hP ⊢;obtain ⟨n4,t4,h4⟩:∃ n t,stI t3=(n,t):=⟨_,_,rfl⟩;have c:=fK p hpa t3 W R ((bz ht D.below).sane) ((bz ht D.below).errs);rw [h4] at c;replace h4:=aa h4;have hr:W.cell? ⟨eb+1,3,JW⟩=JV (JS (JV ⟨eb,3,JW⟩)):=ae hP 3;rw [rounds_succ];go_wp2_with fail;refine Q3 ?_;intro W1 R1 B D;have hc:W1.cell? ⟨eb,3,JW⟩=JV (JO JP 0):=D.box.cell 3;have hf:=D.box.frozen 3;have hP1:=(B.block _ (ay hP) mOm).trans hP;clear R B c hr;go_wp2_with fail;replace D:=D.set ⟨n1,n2,n3,n4,0,0,⟨#[]⟩,0,0,0,0,0,0,0,⟨#[]⟩⟩ 3 (JO JP n4) rfl mOm mOm;have R:=R1.far (eb:=eb) mOm 3 (JO JP n4);replace hP:=(Below.heap_setCell W1 ⟨eb,3,JW⟩ (JO JP n4) (eb+1) (by show eb+1 ≠ eb;omega)).trans hP1;clear hc hf R1 hP1;generalize W1.setCell ⟨eb,3,JW⟩ (JO JP n4)=W at D R hP ⊢;obtain ⟨n5,t5,h5⟩:∃ n t,stI t4=(n,t):=⟨_,_,rfl⟩;have c:=fK p hpa t4 W R ((bz ht D.below).sane) ((bz ht D.below).errs);rw [h5] at c;replace h5:=aa h5;have hr:W.cell? ⟨eb+1,4,JW⟩=JV (JS (JV ⟨eb,4,JW⟩)):=ae hP 4;rw [rounds_succ];go_wp2_with fail;refine Q3 ?_;intro W1 R1 B D;have hc:W1.cell? ⟨eb,4,JW⟩=JV (JO JP 0):=D.box.cell 4;have hf:=D.box.frozen 4;have hP1:=(B.block _ (ay hP) mOm).trans hP;clear R B c hr;go_wp2_with fail;replace D:=D.set ⟨n1,n2,n3,n4,n5,0,⟨#[]⟩,0,0,0,0,0,0,0,⟨#[]⟩⟩ 4 (JO JP n5) rfl mOm mOm;have R:=R1.far (eb:=eb) mOm 4 (JO JP n5);replace hP:=(Below.heap_setCell W1 ⟨eb,4,JW⟩ (JO JP n5) (eb+1) (by show eb+1 ≠ eb;omega)).trans hP1;clear hc hf R1 hP1;generalize W1.setCell ⟨eb,4,JW⟩ (JO JP n5)=W at D R hP ⊢;obtain ⟨n6,t6,h6⟩:∃ n t,stI t5=(n,t):=⟨_,_,rfl⟩;have c:=fK p hpa t5 W R ((bz ht D.below).sane) ((bz ht D.below).errs);rw [h6] at c;replace h6:=aa h6;have hr:W.cell? ⟨eb+1,5,JW⟩=JV (JS (JV ⟨eb,5,JW⟩)):=ae hP 5;rw [rounds_succ];go_wp2_with fail;refine Q3 ?_;intro W1 R1 B D;have hc:W1.cell? ⟨eb,5,JW⟩=JV (JO JP 0):=D.box.cell 5;have hf:=D.box.frozen 5;have hP1:=(B.block _ (ay hP) mOm).trans hP;clear R B c hr;go_wp2_with fail;replace D:=D.set ⟨n1,n2,n3,n4,n5,n6,⟨#[]⟩,0,0,0,0,0,0,0,⟨#[]⟩⟩ 5 (JO JP n6) rfl mOm mOm;have R:=R1.far (eb:=eb) mOm 5 (JO JP n6);replace hP:=(Below.heap_setCell W1 ⟨eb,5,JW⟩ (JO JP n6) (eb+1) (by show eb+1 ≠ eb;omega)).trans hP1;clear hc hf R1 hP1;generalize W1.setCell ⟨eb,5,JW⟩ (JO JP n6)=W at D R hP ⊢;obtain ⟨n7,t7,h7⟩:∃ n t,stT t6=(n,t):=⟨_,_,rfl⟩;have c:=uV p hpa t6 W R ((bz ht D.below).sane) ((bz ht D.below).errs);rw [h7] at c;replace h7:=aa h7;rw [rounds_succ];go_wp2_with fail;refine Q3 ?_;intro W1 R1 B D;have hc:W1.cell? ⟨eb,6,JW⟩=JV (JQ ⟨#[]⟩):=D.box.cell 6;have hf:=D.box.frozen 6;clear R B c;have hset:=D.set ⟨n1,n2,n3,n4,n5,n6,n7,0,0,0,0,0,0,0,⟨#[]⟩⟩ 6 (JQ n7) rfl mOm mOm;have hRs:=R1.far (eb:=eb) mOm 6 (JQ n7);have hszx:(W1.setCell ⟨eb,6,JW⟩ (JQ n7)).heap.size=W1.heap.size:=by simp [World.setCell]
 have hel:eb < W1.heap.size:=ay D.box;have hplw:p < W1.heap.size:=mOm;have hbx:=au (W1.setCell ⟨eb,6,JW⟩ (JQ n7)) (JU #[JS (JV ⟨eb,7,JW⟩),JS (JV ⟨eb,8,JW⟩),JS (JV ⟨eb,9,JW⟩),JS (JV ⟨eb,10,JW⟩),JS (JV ⟨eb,11,JW⟩),JS (JV ⟨eb,12,JW⟩),JS (JV ⟨eb,13,JW⟩)] 211);have D2:=hset.go hbx;have R2:=hRs.below hbx;have hP2:=heap_alloc_new (W1.setCell ⟨eb,6,JW⟩ (JQ n7)) (JU #[JS (JV ⟨eb,7,JW⟩),JS (JV ⟨eb,8,JW⟩),JS (JV ⟨eb,9,JW⟩),JS (JV ⟨eb,10,JW⟩),JS (JV ⟨eb,11,JW⟩),JS (JV ⟨eb,12,JW⟩),JS (JV ⟨eb,13,JW⟩)] 211);rw [hszx] at hP2;clear D R1 hset hRs hP hbx;go_wp2_with fail;clear hc hf;have D:=D2;have R:=R2;generalize (W1.setCell ⟨eb,6,JW⟩ (JQ n7)).alloc (JU #[JS (JV ⟨eb,7,JW⟩),JS (JV ⟨eb,8,JW⟩),JS (JV ⟨eb,9,JW⟩),JS (JV ⟨eb,10,JW⟩),JS (JV ⟨eb,11,JW⟩),JS (JV ⟨eb,12,JW⟩),JS (JV ⟨eb,13,JW⟩)] 211)=W at D R hP2 ⊢;generalize hrb:W1.heap.size=rb at hel hplw hP2 ⊢;clear D2 R2 hszx hrb;refine wp_loop_rounds 8 ?_;obtain ⟨n8,t8,h8⟩:∃ n t,stI t7=(n,t):=⟨_,_,rfl⟩;have c:=fK p hpa t7 W R ((bz ht D.below).sane) ((bz ht D.below).errs);rw [h8] at c;replace h8:=aa h8;have hr:W.cell? ⟨rb,0,JW⟩=JV (JS (JV ⟨eb,7,JW⟩)):=ae hP2 0;rw [rounds_succ];go_wp2_with fail;refine Q3 ?_;intro W1 R1 B D;have hc:W1.cell? ⟨eb,7,JW⟩=JV (JO JP 0):=D.box.cell 7;have hf:=D.box.frozen 7;have hP1:=(B.block _ (ay hP2) mOm).trans hP2;clear R B c hr;go_wp2_with fail;replace D:=D.set ⟨n1,n2,n3,n4,n5,n6,n7,n8,0,0,0,0,0,0,⟨#[]⟩⟩ 7 (JO JP n8) rfl mOm mOm;have R:=R1.far (eb:=eb) mOm 7 (JO JP n8);replace hP2:=(Below.heap_setCell W1 ⟨eb,7,JW⟩ (JO JP n8) (rb) (by show rb ≠ eb;omega)).trans hP1;clear hc hf R1 hP1;generalize W1.setCell ⟨eb,7,JW⟩ (JO JP n8)=W at D R hP2 ⊢;obtain ⟨n9,t9,h9⟩:∃ n t,stI t8=(n,t):=⟨_,_,rfl⟩;have c:=fK p hpa t8 W R ((bz ht D.below).sane) ((bz ht D.below).errs);rw [h9] at c;replace h9:=aa h9;have hr:W.cell? ⟨rb,1,JW⟩=JV (JS (JV ⟨eb,8,JW⟩)):=ae hP2 1;rw [rounds_succ];go_wp2_with fail;refine Q3 ?_;intro W1 R1 B D;have hc:W1.cell? ⟨eb,8,JW⟩=JV (JO JP 0):=D.box.cell 8;have hf:=D.box.frozen 8;have hP1:=(B.block _ (ay hP2) mOm).trans hP2;clear R B c hr;go_wp2_with fail;replace D:=D.set ⟨n1,n2,n3,n4,n5,n6,n7,n8,n9,0,0,0,0,0,⟨#[]⟩⟩ 8 (JO JP n9) rfl mOm mOm;have R:=R1.far (eb:=eb) mOm 8 (JO JP n9);replace hP2:=(Below.heap_setCell W1 ⟨eb,8,JW⟩ (JO JP n9) (rb) (by show rb ≠ eb;omega)).trans hP1;clear hc hf R1 hP1;generalize W1.setCell ⟨eb,8,JW⟩ (JO JP n9)=W at D R hP2 ⊢;obtain ⟨n10,t10,h10⟩:∃ n t,stI t9=(n,t):=⟨_,_,rfl⟩;have c:=fK p hpa t9 W R ((bz ht D.below).sane) ((bz ht D.below).errs);rw [h10] at c;replace h10:=aa h10;have hr:W.cell? ⟨rb,2,JW⟩=JV (JS (JV ⟨eb,9,JW⟩)):=ae hP2 2;rw [rounds_succ];go_wp2_with fail;refine Q3 ?_;intro W1 R1 B D;have hc:W1.cell? ⟨eb,9,JW⟩=JV (JO JP 0):=D.box.cell 9;have hf:=D.box.frozen 9;have hP1:=(B.block _ (ay hP2) mOm).trans hP2;clear R B c hr;go_wp2_with fail;replace D:=D.set ⟨n1,n2,n3,n4,n5,n6,n7,n8,n9,n10,0,0,0,0,⟨#[]⟩⟩ 9 (JO JP n10) rfl mOm mOm;have R:=R1.far (eb:=eb) mOm 9 (JO JP n10);replace hP2:=(Below.heap_setCell W1 ⟨eb,9,JW⟩ (JO JP n10) (rb) (by show rb ≠ eb;omega)).trans hP1;clear hc hf R1 hP1;generalize W1.setCell ⟨eb,9,JW⟩ (JO JP n10)=W at D R hP2 ⊢;obtain ⟨n11,t11,h11⟩:∃ n t,stI t10=(n,t):=⟨_,_,rfl⟩;have c:=fK p hpa t10 W R ((bz ht D.below).sane) ((bz ht D.below).errs);rw [h11] at c;replace h11:=aa h11;have hr:W.cell? ⟨rb,3,JW⟩=JV (JS (JV ⟨eb,10,JW⟩)):=ae hP2 3;rw [rounds_succ];go_wp2_with fail;refine Q3 ?_;intro W1 R1 B D;have hc:W1.cell? ⟨eb,10,JW⟩=JV (JO JP 0):=D.box.cell 10;have hf:=D.box.frozen 10;have hP1:=(B.block _ (ay hP2) mOm).trans hP2;clear R B c hr;go_wp2_with fail;replace D:=D.set ⟨n1,n2,n3,n4,n5,n6,n7,n8,n9,n10,n11,0,0,0,⟨#[]⟩⟩ 10 (JO JP n11) rfl mOm mOm;have R:=R1.far (eb:=eb) mOm 10 (JO JP n11);replace hP2:=(Below.heap_setCell W1 ⟨eb,10,JW⟩ (JO JP n11) (rb) (by show rb ≠ eb;omega)).trans hP1;clear hc hf R1 hP1;generalize W1.setCell ⟨eb,10,JW⟩ (JO JP n11)=W at D R hP2 ⊢;obtain ⟨n12,t12,h12⟩:∃ n t,stI t11=(n,t):=⟨_,_,rfl⟩;have c:=fK p hpa t11 W R ((bz ht D.below).sane) ((bz ht D.below).errs);rw [h12] at c;replace h12:=aa h12;have hr:W.cell? ⟨rb,4,JW⟩=JV (JS (JV ⟨eb,11,JW⟩)):=ae hP2 4;rw [rounds_succ];go_wp2_with fail;refine Q3 ?_;intro W1 R1 B D;have hc:W1.cell? ⟨eb,11,JW⟩=JV (JO JP 0):=D.box.cell 11;have hf:=D.box.frozen 11;have hP1:=(B.block _ (ay hP2) mOm).trans hP2;clear R B c hr;go_wp2_with fail;replace D:=D.set ⟨n1,n2,n3,n4,n5,n6,n7,n8,n9,n10,n11,n12,0,0,⟨#[]⟩⟩ 11 (JO JP n12) rfl mOm mOm;have R:=R1.far (eb:=eb) mOm 11 (JO JP n12);replace hP2:=(Below.heap_setCell W1 ⟨eb,11,JW⟩ (JO JP n12) (rb) (by show rb ≠ eb;omega)).trans hP1;clear hc hf R1 hP1;generalize W1.setCell ⟨eb,11,JW⟩ (JO JP n12)=W at D R hP2 ⊢;obtain ⟨n13,t13,h13⟩:∃ n t,stI t12=(n,t):=⟨_,_,rfl⟩;have c:=fK p hpa t12 W R ((bz ht D.below).sane) ((bz ht D.below).errs);rw [h13] at c;replace h13:=aa h13;have hr:W.cell? ⟨rb,5,JW⟩=JV (JS (JV ⟨eb,12,JW⟩)):=ae hP2 5;rw [rounds_succ];go_wp2_with fail;refine Q3 ?_;intro W1 R1 B D;have hc:W1.cell? ⟨eb,12,JW⟩=JV (JO JP 0):=D.box.cell 12;have hf:=D.box.frozen 12;have hP1:=(B.block _ (ay hP2) mOm).trans hP2;clear R B c hr;go_wp2_with fail;replace D:=D.set ⟨n1,n2,n3,n4,n5,n6,n7,n8,n9,n10,n11,n12,n13,0,⟨#[]⟩⟩ 12 (JO JP n13) rfl mOm mOm;have R:=R1.far (eb:=eb) mOm 12 (JO JP n13);replace hP2:=(Below.heap_setCell W1 ⟨eb,12,JW⟩ (JO JP n13) (rb) (by show rb ≠ eb;omega)).trans hP1;clear hc hf R1 hP1;generalize W1.setCell ⟨eb,12,JW⟩ (JO JP n13)=W at D R hP2 ⊢;obtain ⟨n14,t14,h14⟩:∃ n t,stI t13=(n,t):=⟨_,_,rfl⟩;have c:=fK p hpa t13 W R ((bz ht D.below).sane) ((bz ht D.below).errs);rw [h14] at c;replace h14:=aa h14;have hr:W.cell? ⟨rb,6,JW⟩=JV (JS (JV ⟨eb,13,JW⟩)):=ae hP2 6;rw [rounds_succ];go_wp2_with fail;refine Q3 ?_;intro W1 R1 B D;have hc:W1.cell? ⟨eb,13,JW⟩=JV (JO JP 0):=D.box.cell 13;have hf:=D.box.frozen 13;have hP1:=(B.block _ (ay hP2) mOm).trans hP2;clear R B c hr;go_wp2_with fail;replace D:=D.set ⟨n1,n2,n3,n4,n5,n6,n7,n8,n9,n10,n11,n12,n13,n14,⟨#[]⟩⟩ 13 (JO JP n14) rfl mOm mOm;have R:=R1.far (eb:=eb) mOm 13 (JO JP n14);replace hP2:=(Below.heap_setCell W1 ⟨eb,13,JW⟩ (JO JP n14) (rb) (by show rb ≠ eb;omega)).trans hP1;clear hc hf R1 hP1;generalize W1.setCell ⟨eb,13,JW⟩ (JO JP n14)=W at D R hP2 ⊢;obtain ⟨n15,t15,h15⟩:∃ n t,stT t14=(n,t):=⟨_,_,rfl⟩;have c:=uV p hpa t14 W R ((bz ht D.below).sane) ((bz ht D.below).errs);rw [h15] at c;replace h15:=aa h15;rw [rounds_succ];go_wp2_with fail;refine Q3 ?_;intro W1 R1 B D;have hc:W1.cell? ⟨eb,14,JW⟩=JV (JQ ⟨#[]⟩):=D.box.cell 14;have hf:=D.box.frozen 14;clear R B c;go_wp2_with fail;replace D:=D.set ⟨n1,n2,n3,n4,n5,n6,n7,n8,n9,n10,n11,n12,n13,n14,n15⟩ 14 (JQ n15) rfl mOm mOm;have R:=R1.far (eb:=eb) mOm 14 (JQ n15);clear hc hf R1;generalize W1.setCell ⟨eb,14,JW⟩ (JQ n15)=W at D R ⊢;have HD:=aa (ui h1.out h2.out h3.out h4.out h5.out h6.out h7.out h8.out h9.out h10.out h11.out h12.out h13.out h14.out h15.out);clear h1 h2 h3 h4 h5 h6 h7 h8 h9 h10 h11 h12 h13 h14 h15;refine (Ei p _ _ R).mono ?_;rintro x W1 ⟨rfl,rfl⟩;have hzb:=D.zero;have hat:=D.box.at_;have hbw:=D.below
 cases t15 with
 | none =>
  have HV:=aa (xX hbl.out HD.out mSi);have hn:(JW:Option (List UInt8)).isNone=true:=rfl;exact oU
 | some r =>
  have hn:(JV r).isNone=false:=rfl;go_wp2_with fail;refine (CJ p _ _ R).mono ?_
  cases r with
  | nil =>
   rintro x W2 ⟨rfl,rfl⟩;have HV:=aa (Db hbl.out HD.out);have hl:xC (JV [])=0:=rfl;generalize hfe:(⟨n1,n2,n3,n4,n5,n6,n7,n8,n9,n10,n11,n12,n13,n14,n15⟩:Ent)=fe at HV hat;clear hfe HD D
   go_wp2_with (first
    | ((with_reducible refine wpList_load_mid (op:=⟨_,_,_,_,_,_⟩) ?_ 67 (.tmp 5) ?_ eb 0 ?_ (Ent.cells fe).toList _ ?_ underlying67 ?_ ?_ ?_);rfl;rfl;rfl;exact hat;rfl;kernel_rfl)
    | ((with_reducible refine wpList_store_row (o:=⟨none,.store 67 (.tmp 2) (.tmp 65),_,_,_,_⟩) ?_ 67 (.tmp 2) (.tmp 65) ?_ (w.heap.size) (Ent.cells fe) ?_ ?_ 67 (Ent.cells entZ) ?_ ?_ ?_ ?_ ?_);rfl;rfl;rfl;rfl;exact hzb;kernel_rfl;rfl;simp [Ent.cells,Value.oneCell']))
   (try simp only [Exit.inBlock,Exit.then]);refine bodyPost_ret (jz results95 _ _ (w.heap.size) fe rfl (fl hzb _)) rfl ⟨?_,?_⟩
   ·rw [HV.out];rfl
   ·exact aQ hbw (aD _) _
  | cons c r =>
   rintro x W2 ⟨rfl,rfl⟩;have HV:=aa (xX hbl.out HD.out mSi);have hl:(0:Int) < xC (JV (c::r)):=by show (0:Int) < ((c::r).length:Int);rw [bA];omega
   generalize xC (JV (c::r))=ln at hl;exact oU
