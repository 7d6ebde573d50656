/- Lemmas. -/
import Derived.Test.YtnlhbdmeodbblaaGreatDoorMiam
import Derived.Lib.OthersKept
import Derived.Scope
set_option maxRecDepth 100000
set_option maxHeartbeats 16000000
set_option linter.all false
open Go.Proofs.Tryz
open Bool renaming and_eq_true→aW,true_and→ld
open Int renaming toNat_natCast→cm
open Go.IntWalk renaming i64_in→aF
open Go.Lib renaming atoiAll→kL,byteCells→it,hid→aa,idxFuncFrom→gS,itoa→di
open List renaming all_eq_true→ep,append_assoc→cq,drop_drop→jv,drop_eq_nil_of_le→eE,filter_append→Zfa,filter_cons_of_neg→cM,filter_cons_of_pos→dh,getElem?_drop→eP,getElem?_eq_getElem→ai,getElem?_eq_some_iff→ap,getElem?_take_of_lt→dJ,getElem_mem→bD,getElem_of_mem→fH,length_append→ax,length_cons→bA,length_drop→bF,length_map→aX,length_reverse→eT,length_take→aM,map_cons→ev,map_map→kO,map_nil→mj,mem_cons→cR,mem_cons_of_mem→ff,mem_cons_self→dw,mem_map→eF,mem_take_iff_getElem→fE,nil_append→dt,pairwise_iff_getElem→fc,take_add_one→aL,take_append_drop→bS,take_length→aT
open Nat renaming add_zero→ee,le_refl→aD,zero_le→aR
open Go.RowKit renaming Below→ac,intOf→aw
open Go.Ending renaming returned→JT
open Go.IntKind renaming i64→JP
open Go.Obj renaming cells→JU
open Go.Value renaming int→JO,string→JQ,slice→JR,pointer→JS
open Option renaming some→JV,none→JW
namespace Go.Proofs.YtnlhbdmeodbblaaGreatDoor
open Go Go.RowKit Go.Sort Go.Lib
section
theorem gu {fn:Func} {t u v:Tmp} (h:fn.results=#[.tmp t,.tmp u,.tmp v]) (tmps:Array Value) (P:Program) (w:World) :
  (results fn tmps).run P w=.ok (.tuple #[tmps.getD t undef,tmps.getD u undef,tmps.getD v undef]) w:=by
 simp [results,h]
theorem Aj (l:List ByteArray) (p:Option Addr) (c:Nat) (a b:ByteArray) (w:World) (hl:LK bL w (JR p l.length c) l) (ha:l[0]? = JV a) (hb:l[1]? = JV b) (hza:a.size≤100000000) (hzb:b.size≤100000000) :
  Calls prog 155 #[JR p l.length c] w fun e w'=>e=JT (JQ (jL a b))∧ac w.heap.size w w':=by
 have hlen:=(ap.1 hb).1;obtain ⟨g,o,rfl,hg,hcv⟩:=eO hl rfl mOm;have q0:=hcv 0 _ ha;have q1:=hcv 1 _ hb;rw [ee] at q0;have i1:(0:Int) < (l.length:Int):=mOm;have i2:(1:Int) < (l.length:Int):=mOm;have i3:0 < l.length:=mOm;have co:=fun w=>C3 a b hza hzb w
 have hS0:ac w.heap.size w w.drew∧w.drew.cell? ⟨g,o,JW⟩=JV (JQ a)∧w.drew.cell? ⟨g,o+1,JW⟩=JV (JQ b):=⟨(Below.refl _ w).drew,q0,q1⟩;generalize jL a b=d at *;clear hl hcv ha hb q0 q1;go_enter func155,ntmps155;go_wp2_with fail;refine Jy (S:=fun u=>ac w.heap.size w u∧u.cell? ⟨g,o,JW⟩=JV (JQ a)∧u.cell? ⟨g,o+1,JW⟩=JV (JQ b)) [(0,true),(1,true),(2,true),(3,true),(4,true),(5,true),(6,false),(7,true)] hS0 ?_;have hS:=hS0
 iterate 6 refine aj ?_
 refine aH 209 call209 (co _) ?_;rintro x wn ⟨rfl,hb⟩;replace hS:=zm hS hb;refine ⟨_,rfl,hS,?_⟩;(try clear hb);refine ar ?_;refine aj ?_;simp only [aO,bj];go_wp2_with fail;go_ret;exact ⟨rfl,hS.1⟩
def ny (st fi la:Int) (w:World) (e:Ending) (w':World):Prop:=
 ac w.heap.size w w'∧((dP st fi la∧e=JT (.tuple #[JQ (loB st fi),JQ (hiB st la),.bool true]))∨(¬ dP st fi la∧e=JT (.tuple #[JQ ⟨#[]⟩,JQ ⟨#[]⟩,.bool false])))
theorem nY {p:Prop} (h:p:=by
 by_cases t4:la < fi
 ·clear hr;go_wp2_with fail
  (try simp only [Exit.inBlock,Exit.then]);refine bodyPost_ret (gu rfl _ _ _) rfl ?_
  exact ⟨Below.refl _ _,.inr ⟨HR.out,rfl⟩⟩
 ·have t5:100000 < la:=mOm;clear hr;go_wp2_with fail
  (try simp only [Exit.inBlock,Exit.then]);refine bodyPost_ret (gu rfl _ _ _) rfl ?_
  exact ⟨Below.refl _ _,.inr ⟨HR.out,rfl⟩⟩):p:=h
theorem oh {p:Prop} (h:p:=by
 go_wp2_with fail
 (try simp only [Exit.inBlock,Exit.then]);refine bodyPost_ret (gu rfl _ _ _) rfl ?_
 exact ⟨hw4,.inl ⟨HR.out,by rw [HE.out.1,HE.out.2];rfl⟩⟩):p:=h
theorem fS {p:Prop} (h:p:=by
 go_wp2_with fail
 (try simp only [Exit.inBlock,Exit.then]);refine bodyPost_ret (gu rfl _ _ _) rfl ?_
 exact ⟨Below.refl _ _,.inr ⟨HR.out,rfl⟩⟩):p:=h
theorem Mc {p q:Prop} (h:q) (f:Wq q→p:=by
 intro hq;have a1:IntKind.i64.wrap ((l:Int)+1)=((l+1:Nat):Int):=eR _ _ mOm mOm;have t1:¬ (s:Int) < 1:=mOm;have t2:¬ (999999:Int) < (s:Int):=mOm;have t3:¬ (f:Int) < 0:=mOm;have t4:¬ (l:Int) < (f:Int):=mOm
 revert a1 t1 t2 t3 t4
 exact hq.1):p:=f ⟨h⟩
theorem xN (st fi la:Int) (w:World) (ht:Tabs w) :
  Calls prog 154 #[JO JP st,JO JP fi,JO JP la] w (ny st fi la w):=by
 by_cases hr:dP st fi la
 rotate_left 1
 ·have HR:=aa hr;go_enter func154,ntmps154;unfold dP at hr;by_cases t1:st < 1
  ·clear hr;exact fS
  by_cases t2:999999 < st
  ·clear hr;exact fS
  by_cases t3:fi < 0
  ·clear hr;exact fS
  exact nY
 ·have HR:=aa hr;obtain ⟨r1,r2,r3,r4,r5⟩:=hr
  have HE:Hid (loB st fi=⟨(cV st.toNat).toArray⟩++⟨#[32]⟩++⟨(cV fi.toNat).toArray⟩++⟨#[32]⟩∧hiB st la=⟨(cV st.toNat).toArray⟩++⟨#[32]⟩++⟨(cV (la.toNat+1)).toArray⟩++⟨#[32]⟩):=aa (by
   have e1:(la+1).toNat=la.toNat+1:=mOm;unfold hiB loB;rw [e1]
   exact ⟨dl mSi,dl mSi⟩)
  unfold ny
  generalize loB st fi=lo at HE ⊢;generalize hiB st la=hi at HE ⊢;obtain ⟨s,rfl⟩:∃ s:Nat,st=s:=⟨st.toNat,mOm⟩;obtain ⟨f,rfl⟩:∃ s:Nat,fi=s:=⟨fi.toNat,mOm⟩;obtain ⟨l,rfl⟩:∃ s:Nat,la=s:=⟨la.toNat,mOm⟩;simp only [cm] at HE;have c1:=fun w h=>pz s w mOm h
  have c2:=fun w h=>pz f w mOm h
  have c3:=fun w h=>pz (l+1) w mOm h
  have z1:(⟨(cV s).toArray⟩:ByteArray).size=6:=rfl;have z2:(⟨(cV f).toArray⟩:ByteArray).size=6:=rfl;have z3:(⟨(cV (l+1)).toArray⟩:ByteArray).size=6:=rfl;generalize (⟨(cV s).toArray⟩:ByteArray)=S1 at *;generalize (⟨(cV f).toArray⟩:ByteArray)=S2 at *;generalize (⟨(cV (l+1)).toArray⟩:ByteArray)=S3 at *;refine Mc ?_;intro a1 t1 t2 t3 t4;have t5:¬ (100000:Int) < (l:Int):=mOm;clear r1 r2 r3 r4 r5;go_enter func154,ntmps154;go_wp2_with fail;refine (c1 _ ht).mono ?_;rintro _ w1 ⟨rfl,hb1⟩;have ht1:=ht.below hb1;go_wp2_with fail;refine (c2 _ ht1).mono ?_;rintro _ w2 ⟨rfl,hb2⟩;have ht2:=ht1.below hb2;have hw2:=ah hb1 hb2;clear hb1 hb2 ht1;go_wp2_with fail;refine (c1 _ ht2).mono ?_;rintro _ w3 ⟨rfl,hb3⟩;have ht3:=ht2.below hb3;have hw3:=ah hw2 hb3;clear hb3 hw2 ht2;go_wp2_with fail;refine (c3 _ ht3).mono ?_;rintro _ w4 ⟨rfl,hb4⟩;have hw4:=ah hw3 hb4;clear hb4 hw3 ht3;exact oh
theorem yN (st fi la:Int) (w:World) :
  Calls prog 133 #[JO JP st,JO JP fi,JO JP la] w (ny st fi la w):=by
 by_cases hr:dP st fi la
 rotate_left 1
 ·have HR:=aa hr;go_enter func133,ntmps133;unfold dP at hr;by_cases t1:st < 1
  ·clear hr;exact fS
  by_cases t2:999999 < st
  ·clear hr;exact fS
  by_cases t3:fi < 0
  ·clear hr;exact fS
  by_cases t6:100000 < fi
  ·clear hr;exact fS
  exact nY
 ·have HR:=aa hr;obtain ⟨r1,r2,r3,r4,r5⟩:=hr
  have HE:Hid (loB st fi=⟨(cV st.toNat).toArray⟩++⟨#[32]⟩++⟨(cV fi.toNat).toArray⟩++⟨#[32]⟩∧hiB st la=⟨(cV st.toNat).toArray⟩++⟨#[32]⟩++⟨(cV (la.toNat+1)).toArray⟩++⟨#[32]⟩):=aa (by
   have e1:(la+1).toNat=la.toNat+1:=mOm;unfold hiB loB;rw [e1]
   exact ⟨dl mSi,dl mSi⟩)
  unfold ny
  generalize loB st fi=lo at HE ⊢;generalize hiB st la=hi at HE ⊢;obtain ⟨s,rfl⟩:∃ s:Nat,st=s:=⟨st.toNat,mOm⟩;obtain ⟨f,rfl⟩:∃ s:Nat,fi=s:=⟨fi.toNat,mOm⟩;obtain ⟨l,rfl⟩:∃ s:Nat,la=s:=⟨la.toNat,mOm⟩;simp only [cm] at HE;have c1:=fun w=>pt s w mOm
  have c2:=fun w=>pt f w mOm
  have c3:=fun w=>pt (l+1) w mOm
  have z1:(⟨(cV s).toArray⟩:ByteArray).size=6:=rfl;have z2:(⟨(cV f).toArray⟩:ByteArray).size=6:=rfl;have z3:(⟨(cV (l+1)).toArray⟩:ByteArray).size=6:=rfl;generalize (⟨(cV s).toArray⟩:ByteArray)=S1 at *;generalize (⟨(cV f).toArray⟩:ByteArray)=S2 at *;generalize (⟨(cV (l+1)).toArray⟩:ByteArray)=S3 at *;refine Mc ?_;intro a1 t1 t2 t3 t4;have t6:¬ (100000:Int) < (f:Int):=mOm;have t5:¬ (100000:Int) < (l:Int):=mOm;clear r1 r2 r3 r4 r5;go_enter func133,ntmps133;go_wp2_with fail;refine (c1 _).mono ?_;rintro _ w1 ⟨rfl,hb1⟩;go_wp2_with fail;refine (c2 _).mono ?_;rintro _ w2 ⟨rfl,hb2⟩;have hw2:=ah hb1 hb2;clear hb1 hb2;go_wp2_with fail;refine (c1 _).mono ?_;rintro _ w3 ⟨rfl,hb3⟩;have hw3:=ah hw2 hb3;clear hb3 hw2;go_wp2_with fail;refine (c3 _).mono ?_;rintro _ w4 ⟨rfl,hb4⟩;have hw4:=ah hw3 hb4;clear hb4 hw3;exact oh
end
section
def An (s:ByteArray) (w:World) (e:Ending) (w':World):Prop:=
 ac w.heap.size w w'∧((∃ n:Nat,L9 s n∧e=JT (.tuple #[JO JP n,.bool true]))∨((∀ n,¬ L9 s n)∧∃ m:Int,e=JT (.tuple #[JO JP m,.bool false])))
theorem L9.atoi {s:ByteArray} {n:Nat} (h:L9 s n):kL s.data.toList=.ok (n:Int):=by have:=h.1;rw [h.2,Wr.atoi_itoa _ mOm]
theorem nQ {p:Prop} (h:p:=by
 go_enter func157,ntmps157;go_wp2_with fail;refine ca.mono ?_;rintro _ w1 ⟨rfl,hb⟩;clear ca;go_wp2_with fail
 go_ret2
 exact ⟨hb,.inr ⟨HN.out,_,rfl⟩⟩):p:=h
theorem vS (s:ByteArray) (hs:s.size≤100000000) (w:World) (hr:Wr.Ready w) :
  Calls prog 157 #[JQ s] w (An s w):=by
 have hbad:(∀ v,kL s.data.toList ≠ .ok v)→Calls prog 157 #[JQ s] w (An s w):=fun hx=>by
  have HN:Hid (∀ n,¬ L9 s n):=aa (fun n h=>hx _ h.atoi);have cb:=Wr.atoi_bad s mOm hx w hr.errs;clear hx;go_enter func157,ntmps157;go_wp2_with fail;refine cb.mono ?_;rintro _ w1 ⟨n,t,a,rfl,hb⟩;clear cb;go_wp2_with fail
  go_ret2
  exact ⟨hb,.inr ⟨HN.out,_,rfl⟩⟩
 rcases hx:kL s.data.toList with v | _ | _
 ·clear hbad;have ca:=Wr.atoi_ok s mOm v hx w;have HX:=aa hx;clear hx;by_cases h1:0≤v
  rotate_left 1
  ·have HN:Hid (∀ n,¬ L9 s n):=aa (fun n h=>by have:=h.atoi;rw [HX.out] at this;injection this with this;omega);exact nQ
  by_cases h2:v≤999999
  rotate_left 1
  ·have HN:Hid (∀ n,¬ L9 s n):=aa (fun n h=>by have:=h.atoi;rw [HX.out] at this;injection this with this;have:=h.1;omega);exact nQ
  obtain ⟨n,rfl⟩:∃ n:Nat,v=n:=⟨v.toNat,mOm⟩
  have ci:=fun w ht=>jR (n:Int) w mOm mOm ht
  have HE:Hid (L9 s n↔(⟨(di (n:Int)).toArray⟩:ByteArray)=s):=aa ⟨fun h=>dl h.2.symm,fun h=>⟨mOm,by rw [← h]⟩⟩;have hT:=hr.sane.1;generalize (⟨(di (n:Int)).toArray⟩:ByteArray)=D at ci HE;by_cases h3:D=s
  ·subst h3;have HN:=aa (HE.out.2 rfl);clear HE HX;go_enter func157,ntmps157;go_wp2_with fail;refine ca.mono ?_;rintro _ w1 ⟨rfl,hb⟩;clear ca;have hT1:=hT.below hb;go_wp2_with fail;refine (ci _ hT1).mono ?_;rintro _ w2 ⟨rfl,hb2⟩;have hb3:=ah hb hb2;clear hb hb2;go_wp2_with fail
   go_ret2
   exact ⟨hb3,.inl ⟨n,HN.out,rfl⟩⟩
  ·have HN:Hid (∀ n,¬ L9 s n):=aa (fun m h=>by
    have e:=h.atoi;rw [HX.out] at e;injection e with e;obtain rfl:n=m:=mOm
    exact h3 (HE.out.1 h))
   have te:=iZ h3
   clear HE HX h3;go_enter func157,ntmps157;go_wp2_with fail;refine ca.mono ?_;rintro _ w1 ⟨rfl,hb⟩;clear ca;have hT1:=hT.below hb;go_wp2_with fail;refine (ci _ hT1).mono ?_;rintro _ w2 ⟨rfl,hb2⟩;have hb3:=ah hb hb2;clear hb hb2;go_wp2_with fail
   go_ret2
   exact ⟨hb3,.inr ⟨HN.out,_,rfl⟩⟩
 ·exact hbad (fun v e=>by rw [hx] at e;cases e)
 ·exact hbad (fun v e=>by rw [hx] at e;cases e)
theorem isDig_iff {c:UInt8}:iR c=true↔48≤c.toNat∧c.toNat≤57:=by unfold iR;rw [aW,decide_eq_true_eq,decide_eq_true_eq]
theorem Aw:∀ (n:Nat) (l:List UInt8),l.length=n→l.all iR=true→jN l < 10 ^ n:=by
 intro n
 induction n with
 | zero=>intro l hl _;rw [List.eq_nil_of_length_eq_zero hl];decide
 | succ n ih =>
  intro l hl h;have e:l=l.take n++[l[n]]:=by have e:=aL (l:=l) (i:=n);rw [ai mOm,List.take_of_length_le mOm] at e;exact e
  rw [e,List.all_append,aW] at h
  have h1:=ih (l.take n) (by rw [aM];omega) h.1;have h2:iR l[n]=true:=by simpa using h.2
  rw [isDig_iff] at h2;rw [e,qS,Nat.pow_succ];omega
end
section
theorem ow {p:Prop} (h:p:=by
 have dd:d.toNat < 48∨57 < d.toNat:=by
  refine Classical.byContradiction fun h=>?_
  have:iR d=true:=isDig_iff.2 mOm;rw [this] at d0;cases d0
 clear d0
 rcases dd with d1 | d2
 ·have j1:(d.toNat:Int) < 48:=mOm;clear d1;go_wp2_with fail;go_ret;exact ⟨aI HN.out.symm,rfl⟩
 ·have j1:¬ (d.toNat:Int) < 48:=mOm;have j2:(57:Int) < (d.toNat:Int):=mOm;clear d2;go_wp2_with fail;go_ret
  exact ⟨aI HN.out.symm,rfl⟩):p:=h
theorem oT {p:Prop} (h:p:=by
 have HN:Hid (((jN (s.data.toList.take (k+1)):Nat):Int)=10*(m:Int)+(q:Int)∧(s.data.toList.take (k+1)).all iR=true):=aa (by
  rw [HT.out,qS,← HM.out,List.all_append,HD.out];refine ⟨mOm,?_⟩
  simp [hdg])
 clear d0 hdg hd2 hq
 go_wp2_with fail
 go_roundw
 case rel=>exact ⟨k+1,mOm,by go_num,by rw [HN.out.1],aa HN.out.2,by first | rfl | trivial⟩
 case measure=>simp [aw];omega):p:=h
theorem nZ {p:Prop} (h:p:=by
 have i1:¬ (s.size:Int) < (s.size:Int):=mOm
 have HN:Hid (eV s.data.toList=(m:Int)):=aa (by
  unfold eV;have e:s.data.toList.take s.size=s.data.toList:=by rw [HSZ.out,aT]
  have h1:=HD.out;rw [e] at h1
  rw [if_pos h1,HM.out,e])
 clear hgo
 go_wp2_with fail;go_ret
 exact ⟨aI HN.out.symm,rfl⟩):p:=h
theorem QS {p q:Prop} (h:q) (f:Wq q→p:=by
 intro hq;obtain ⟨d,hd⟩:∃ d,s.data.toList[k]=d:=⟨_,rfl⟩;have hg:∀ h:k < s.size,s[k]'h=d:=fun h=>(Wr.get_ba s k h).trans hd
 have HT:Hid (s.data.toList.take (k+1)=s.data.toList.take k++[d]):=aa (by rw [aL,ai htl,hd];rfl);have HMEM:Hid (d∈s.data.toList):=aa (hd ▸ bD htl);have hd8:=UInt8.toNat_lt d
 revert d hd hg HT HMEM hd8
 exact hq.1):p:=f ⟨h⟩
theorem QO {p q:Prop} (h:q) (f:Wq q→p:=by
 intro hq;have hlt7:=Aw k (s.data.toList.take k) (by rw [aM,← HSZ.out];omega) HD.out;have hpw:10 ^ k≤10 ^ 8:=Nat.pow_le_pow_right mOm mOm;obtain ⟨m,hm⟩:∃ m,m=jN (s.data.toList.take k):=⟨_,rfl⟩;rw [← hm] at hlt7 ⊢;have hm7:m < 100000000:=mOm;have HM:=aa hm
 revert hpw m hm hlt7 hm7 HM
 exact hq.1):p:=f ⟨h⟩
theorem Lg {p q:Prop} (h:q) (f:Wq q→p:=by
 intro hq;have hdg:iR d=true:=by simpa using d0
 have hd2:=isDig_iff.1 hdg;have j1:¬ (d.toNat:Int) < 48:=mOm;have j2:¬ (57:Int) < (d.toNat:Int):=mOm;obtain ⟨q,hq⟩:∃ q,q=d.toNat - 48:=⟨_,rfl⟩;have a2:IntKind.i64.wrap (10*(m:Int))=10*(m:Int):=aF _ mOm
 revert hdg hd2 j1 j2 q hq a2
 exact hq.1):p:=f ⟨h⟩
theorem mi (s:ByteArray) (hs:s.size≤8) (w:World) :
  Calls prog 229 #[JQ s] w fun e w'=>e=JT (JO JP (eV s.data.toList))∧w=w':=by
 have HSZ:=aa (bw s);go_enter func229,ntmps229;go_wp2_with fail
 go_loopw [3,7] (fun x i wr=>∃ k:Nat,k≤s.size∧i=JO JP k∧x=JO JP (jN (s.data.toList.take k))∧Hid ((s.data.toList.take k).all iR=true)∧wr=w) (fun _ i _=>9 - (aw i).toNat)
 case atStart=>exact ⟨0,aR _,rfl,rfl,aa rfl,rfl⟩
 case round =>
  obtain ⟨k,hk,rfl,rfl,HD,rfl⟩:=hrel;refine QO ?_;intro hpw m hm hlt7 hm7 HM;clear hm hlt7 hpw;by_cases hgo:k < s.size
  ·have i1:(k:Int) < (s.size:Int):=mOm;have htl:k < s.data.toList.length:=by rw [← HSZ.out];omega
   refine QS ?_;intro d hd hg HT HMEM hd8;clear hd htl;by_cases d0:iR d=false
   ·have HN:Hid (eV s.data.toList = -1):=aa (by
     unfold eV
     rw [if_neg (fun h=>by have:=ep.1 h d HMEM.out;rw [d0] at this;cases this)])
    exact ow
   refine Lg ?_;intro hdg hd2 j1 j2 q hq a2
   have a1:IntKind.u8.wrap ((d.toNat:Int) - 48)=(q:Int):=by rw [show (d.toNat:Int) - 48=(q:Int) by omega];simp [IntKind.wrap,IntKind.signed,IntKind.bits];omega
   have a3:IntKind.i64.wrap (10*(m:Int)+(q:Int))=10*(m:Int)+(q:Int):=aF _ mOm;have a4:IntKind.i64.wrap (q:Int)=(q:Int):=eR _ _ rfl mOm;exact oT
  ·obtain rfl:k=s.size:=mOm;exact nZ
theorem zU (s:ByteArray) (hs:s.size≤8) (w:World) :
  Calls prog 142 #[JQ s] w fun e w'=>e=JT (JO JP (eV s.data.toList))∧w=w':=by
 have HSZ:=aa (bw s);go_enter func142,ntmps142;go_wp2_with fail
 go_loopw [3,4] (fun x i wr=>∃ k:Nat,k≤s.size∧i=JO JP k∧x=JO JP (jN (s.data.toList.take k))∧Hid ((s.data.toList.take k).all iR=true)∧wr=w) (fun _ i _=>9 - (aw i).toNat)
 case atStart=>exact ⟨0,aR _,rfl,rfl,aa rfl,rfl⟩
 case round =>
  obtain ⟨k,hk,rfl,rfl,HD,rfl⟩:=hrel;refine QO ?_;intro hpw m hm hlt7 hm7 HM;clear hm hlt7 hpw;by_cases hgo:k < s.size
  ·have i1:(k:Int) < (s.size:Int):=mOm;have htl:k < s.data.toList.length:=by rw [← HSZ.out];omega
   refine QS ?_;intro d hd hg HT HMEM hd8;clear hd htl;by_cases d0:iR d=false
   ·have HN:Hid (eV s.data.toList = -1):=aa (by
     unfold eV
     rw [if_neg (fun h=>by have:=ep.1 h d HMEM.out;rw [d0] at this;cases this)])
    exact ow
   refine Lg ?_;intro hdg hd2 j1 j2 q hq a2
   have a3:IntKind.i64.wrap (10*(m:Int)+(d.toNat:Int))=10*(m:Int)+(d.toNat:Int):=aF _ mOm;have a4:IntKind.i64.wrap (10*(m:Int)+(d.toNat:Int) - 48)=10*(m:Int)+(q:Int):=by rw [show 10*(m:Int)+(d.toNat:Int) - 48=10*(m:Int)+(q:Int) by omega];exact aF _ mOm
   have a5:IntKind.i64.wrap (d.toNat:Int)=(d.toNat:Int):=eR _ _ rfl mOm;exact oT
  ·obtain rfl:k=s.size:=mOm;exact nZ
end
section
def iW (r:Nat):Bool:=(decide (48≤r)&&decide (r≤57))||(decide (97≤r)&&decide (r≤102))
theorem Fh (s:ByteArray) (hs:s=⟨#[48,49,50,51,52,53,54,55,56,57,97,98,99,100,101,102]⟩) (k:Nat) (h:k < s.size):(s[k]'h).toNat < 128:=by
 subst hs;have h16:k < 16:=h;have:∀ k,k < 16→∀ h,(((⟨#[48,49,50,51,52,53,54,55,56,57,97,98,99,100,101,102]⟩:ByteArray)[k]'h).toNat) < 128:=by
  intro n hn;have h16:n=0∨n=1∨n=2∨n=3∨n=4∨n=5∨n=6∨n=7∨n=8∨n=9∨n=10∨n=11∨n=12∨n=13∨n=14∨n=15:=mOm;rcases h16 with rfl | rfl | rfl | rfl | rfl | rfl | rfl | rfl | rfl | rfl | rfl | rfl | rfl | rfl | rfl | rfl <;> intro _ <;> exact of_decide_eq_true rfl
 exact this k h16 h
theorem xn (s:ByteArray) (hs:∀ k (h:k < s.size),(s[k]'h).toNat < 128) (w:World):Calls prog 231 #[JQ s,JO .i32 65533] w fun e w'=>e=JT (JO JP (-1))∧ac w.heap.size w w':=by
 have HS:=aa hs;clear hs;go_enter func231,ntmps231;go_wp2_with fail
 go_loopw [] (fun wx=>∃ pos:Nat,wx.heap[w.heap.size]? = JV (.stringIter s pos)∧Below w.heap.size w wx) (fun wr=>s.size - wr.iterPos w.heap.size)
 case atStart=>exact ⟨0,World.iter_heap w s 0,(Below.refl _ w).alloc (aD _) _⟩
 case round =>
  obtain ⟨pos,hit,hbw⟩:=hrel;have hmu:wr.iterPos w.heap.size=pos:=by simp [World.iterPos,hit]
  by_cases hps:pos < s.size
  ·have hnx:∀ ty,(Instr.next (JS (JV ⟨w.heap.size,0,JW⟩)) true ty).run prog wr=_:=fun ty=>Lib.run_next_ascii_at wr w.heap.size s pos ty hit hps (HS.out pos hps)
   have hit2:=Lib.iterAt_heap wr w.heap.size s pos (pos+1) hit;have hbw2:=Lib.below_iterAt hbw (k:=w.heap.size) (aD _) s (pos+1);have hlt:=HS.out pos hps;obtain ⟨c,hc⟩:∃ c,c=(s[pos]'hps).toNat:=⟨_,rfl⟩;rw [← hc] at hnx hlt;have hne:((c:Int)==65533)=false:=by rw [beq_eq_false_iff_ne];omega
   generalize wr.iterAt w.heap.size s (pos+1)=W1 at *;have hmu2:W1.iterPos w.heap.size=pos+1:=by simp [World.iterPos,hit2]
   have HM:=aa (show s.size - W1.iterPos w.heap.size < s.size - wr.iterPos w.heap.size by rw [hmu,hmu2];omega);clear hc hmu hmu2 hit;go_wp2_with fail
   go_roundw
   case rel=>exact ⟨pos+1,hit2,hbw2⟩
   case measure=>exact HM.out
  ·have hnx:∀ ty,(Instr.next (JS (JV ⟨w.heap.size,0,JW⟩)) true ty).run prog wr=_:=fun ty=>Lib.run_next_end_at wr w.heap.size s pos ty hit hps
   go_wp2_with fail;go_ret;exact ⟨rfl,hbw⟩
theorem qK (r:Int) (h0:0≤r) (h2:r≤1114111) (w:World):Calls prog 260 #[JO .i32 r] w fun e w'=>e=JT (.bool (decide (r < 55296)||decide (57343 < r)))∧w=w':=by
 by_cases h1:r < 55296
 ·go_enter func260,ntmps260;go_wp2_with fail;go_ret;exact ⟨bX (by simp [h1]),rfl⟩
 ·by_cases h3:57343 < r
  ·go_enter func260,ntmps260;go_wp2_with fail;go_ret;exact ⟨bX mSi,rfl⟩
  ·go_enter func260,ntmps260;go_wp2_with fail;go_ret;exact ⟨bX (by simp [h1,h3]),rfl⟩
theorem xm (s:ByteArray) (r:Int) (h1:55296≤r) (h2:r≤57343) (w:World):Calls prog 231 #[JQ s,JO .i32 r] w fun e w'=>e=JT (JO JP (-1))∧ac w.heap.size w w':=by
 have a1:(0:Int)≤r:=mOm;have a2:¬ r < 128:=mOm;have a3:(r==65533)=false:=by rw [beq_eq_false_iff_ne];omega
 have a4:¬ r < 55296:=mOm;have a5:¬ 57343 < r:=mOm;have kv:=qK r a1 mOm w;rw [decide_eq_false a4,decide_eq_false a5] at kv;go_enter func231,ntmps231;go_wp2_with fail;refine kv.mono ?_;rintro _ _ ⟨rfl,rfl⟩;go_wp2_with fail;go_ret;exact ⟨rfl,Below.refl _ _⟩
theorem GA (r:Int) (h0:128≤r):∃ (m:Nat) (c:UInt8),(Utf8.encode r).size=m+1∧1≤m∧m≤3∧128≤c.toNat∧∀ h:m < (Utf8.encode r).size,(Utf8.encode r)[m]'h=c:=by
 have hl:∀ n:Nat,128≤(UInt8.ofNat (128+n%64)).toNat:=fun n=>by rw [UInt8.toNat_ofNat'];omega
 have key:(∃ a c,Utf8.encode r=⟨#[a,c]⟩∧128≤c.toNat)∨(∃ a b c,Utf8.encode r=⟨#[a,b,c]⟩∧128≤c.toNat)∨(∃ a b d c,Utf8.encode r=⟨#[a,b,d,c]⟩∧128≤c.toNat):=by
  obtain ⟨c,hc⟩:∃ c,c=if Utf8.valid r=true then r.toNat else Utf8.runeError:=⟨_,rfl⟩
  have h128:128≤c:=by
   rw [hc]
   split
   ·omega
   ·decide
  have e:Utf8.encode r=if c < 128 then { data:=#[UInt8.ofNat c] } else if c < 2048 then { data:=#[UInt8.ofNat (192+c / 64),UInt8.ofNat (128+c%64)] } else if c < 65536 then { data:=#[UInt8.ofNat (224+c / 4096),UInt8.ofNat (128+c / 64%64),UInt8.ofNat (128+c%64)] } else { data:=#[UInt8.ofNat (240+c / 262144),UInt8.ofNat (128+c / 4096%64),UInt8.ofNat (128+c / 64%64),UInt8.ofNat (128+c%64)] }:=by rw [hc];rfl
  rw [if_neg mOm] at e
  split at e
  ·exact .inl ⟨_,_,e,hl _⟩
  ·split at e
   ·exact .inr (.inl ⟨_,_,_,e,hl _⟩)
   ·exact .inr (.inr ⟨_,_,_,_,e,hl _⟩)
 rcases key with ⟨a,c,e,h⟩ | ⟨a,b,c,e,h⟩ | ⟨a,b,d,c,e,h⟩
 ·rw [e];exact ⟨1,c,rfl,mOm,mOm,h,fun _=>rfl⟩
 ·rw [e];exact ⟨2,c,rfl,mOm,mOm,h,fun _=>rfl⟩
 ·rw [e];exact ⟨3,c,rfl,mOm,mOm,h,fun _=>rfl⟩
theorem qW (c:UInt8):∀ l:List UInt8,(∀ x∈l,x ≠ c)→Lib.indexByte l c = -1
 | [],_=>rfl
 | b::l,h=>by
  have h1:(b==c)=false:=by rw [beq_eq_false_iff_ne];exact h b (dw ..)
  have h2:=qW c l (fun x hx=>h x (ff _ hx));unfold Lib.indexByte;rw [h1,h2];rfl
theorem EF (s:ByteArray) (c:UInt8) (hc:128≤c.toNat) (hs:∀ x∈s.data.toList,x.toNat < 128) (w:World):Calls prog 259 #[JQ s,JO .u8 c.toNat] w fun e w'=>e=JT (JO JP (-1))∧w=w':=by
 have h:=Any.strings_IndexByte { lays151 with } s (c.toNat:Int) w;have hcc:(c.toNat:Int).toNat.toUInt8=c:=by rw [cm];exact UInt8.toNat_inj.1 (by show (UInt8.ofNat c.toNat).toNat=_;rw [UInt8.toNat_ofNat'];have:=c.toNat_lt;omega)
 rw [hcc,qW c _ (fun x hx e=>by have:=hs x hx;rw [e] at this;omega)] at h;exact h.mono fun _ _ ⟨h1,h2⟩=>⟨h1,h2.symm⟩
theorem JE {p:Prop} (h:p:=by
 go_wp2_with fail;refine wp_loop_rounds 1 ?_;rw [rounds_succ];go_wp2_with fail;refine wp_scope_straight ?_;go_wp2_with fail;have hS0:ac w.heap.size w w.drew:=(Below.refl _ w).drew;refine Jy (S:=fun u=>ac w.heap.size w u) [(0,true),(1,true),(2,true),(3,true),(4,true),(5,true),(6,true)] hS0 ?_;have hS:=hS0
 iterate 7 refine aj ?_
 simp only [aO,bj];go_wp2_with fail;have hS1:ac w.heap.size w w.drew.drew:=hS.drew;clear hS hS0;refine Jy (S:=fun u=>ac w.heap.size w u) [(0,true),(1,true),(2,true),(3,true),(4,true),(5,true),(6,true),(7,false),(8,true)] hS1 ?_;have hS:=hS1
 iterate 7 refine aj ?_
 refine aH 259 call259 (kb _) ?_;rintro x wn ⟨rfl,rfl⟩;refine ⟨_,rfl,hS,?_⟩;refine ar ?_;refine aj ?_;simp only [aO,bj];clear hS1;go_wp2_with fail
 (try simp only [Exit.inBlock,Exit.then,Exit.noGoto])
 go_ret
 exact ⟨rfl,hS⟩):p:=h
theorem xo (r:Int) (h0:128≤r) (hn:r ≠ 65533) (h1:r < 55296∨57343 < r) (h2:r≤1114111) (w:World):Calls prog 231 #[JQ ⟨#[48,49,50,51,52,53,54,55,56,57,97,98,99,100,101,102]⟩,JO .i32 r] w fun e w'=>e=JT (JO JP (-1))∧ac w.heap.size w w':=by
 have a1:(0:Int)≤r:=mOm;have a2:¬ r < 128:=mOm;have a3:(r==65533)=false:=by rw [beq_eq_false_iff_ne];omega
 have kv:=qK r a1 mOm w;rw [show (decide (r < 55296)||decide (57343 < r))=true by rcases h1 with h | h <;> simp [h]] at kv;obtain ⟨m,c,hsz,hm1,hm3,hc,hg⟩:=GA r h0;have kb:=fun (t:ByteArray) (ht:t.data.toList.all (fun x=>decide (x.toNat < 128))=true) u=>EF t c hc (fun x hx=>of_decide_eq_true (ep.1 ht x hx)) u
 have KB:=aa kb;clear kb;have hw1:wrap64 (((Utf8.encode r).size:Int) - 1)=(m:Int):=by rw [hsz,show ((m+1:Nat):Int) - 1=(m:Int) by omega];unfold wrap64;omega
 have hm':m=1∨m=2∨m=3:=mOm;have d1:∀ n:Int,n < 128→(n != (c.toNat:Int))=true:=fun n hn=>by rw [bne_iff_ne];omega
 have d49:=d1 49 mDe;have d50:=d1 50 mDe;have d51:=d1 51 mDe;have hszm:m < (Utf8.encode r).size:=mOm;have hszi:(m:Int) < ((Utf8.encode r).size:Int):=mOm;go_enter func231,ntmps231;go_wp2_with fail;refine kv.mono ?_;rintro _ _ ⟨rfl,rfl⟩;go_wp2_with fail;refine wp_scope_straight ?_;clear h0 h1 h2 hn a1 a2 a3 d1;rcases hm' with rfl | rfl | rfl
 ·have wn:IntKind.i64.wrap 2=2:=mDe;have gx:((⟨#[48,49,50,51,52,53,54,55,56,57,97,98,99,100,101,102]⟩:ByteArray)[1]'mDe).toNat=49:=rfl;have kb:=fun u=>KB.out ((⟨#[48,49,50,51,52,53,54,55,56,57,97,98,99,100,101,102]⟩:ByteArray).extract 2 16) (by decide +kernel) u
  exact JE
 ·have wn:IntKind.i64.wrap 3=3:=mDe;have gx:((⟨#[48,49,50,51,52,53,54,55,56,57,97,98,99,100,101,102]⟩:ByteArray)[2]'mDe).toNat=50:=rfl;have kb:=fun u=>KB.out ((⟨#[48,49,50,51,52,53,54,55,56,57,97,98,99,100,101,102]⟩:ByteArray).extract 3 16) (by decide +kernel) u
  exact JE
 ·have wn:IntKind.i64.wrap 4=4:=mDe;have gx:((⟨#[48,49,50,51,52,53,54,55,56,57,97,98,99,100,101,102]⟩:ByteArray)[3]'mDe).toNat=51:=rfl;have kb:=fun u=>KB.out ((⟨#[48,49,50,51,52,53,54,55,56,57,97,98,99,100,101,102]⟩:ByteArray).extract 4 16) (by decide +kernel) u
  exact JE
theorem Fi:∀ n,n < 128→decide (0≤Lib.indexByte [48,49,50,51,52,53,54,55,56,57,97,98,99,100,101,102] (Nat.toUInt8 n))=iW n:=by decide +kernel
theorem xU (r:Nat) (hr:r≤1114111) (w:World):Calls prog 197 #[JQ ⟨#[48,49,50,51,52,53,54,55,56,57,97,98,99,100,101,102]⟩,JO .i32 (r:Int)] w fun e w'=>e=JT (.bool (iW r))∧ac w.heap.size w w':=by
 by_cases h:r < 128
 ·have hc:=Tryz.strings_ContainsRune_ascii ⟨#[48,49,50,51,52,53,54,55,56,57,97,98,99,100,101,102]⟩ (r:Int) w mOm mOm;rw [cm] at hc;refine hc.mono ?_;rintro _ _ ⟨rfl,rfl⟩;exact ⟨bX (Fi r h),Below.refl _ _⟩
 ·have HN:Hid (iW r=false):=aa (by
   unfold iW
   rw [decide_eq_false (show ¬ r≤57 by omega),decide_eq_false (show ¬ r≤102 by omega)];simp)
  have hi:Calls prog 231 #[JQ ⟨#[48,49,50,51,52,53,54,55,56,57,97,98,99,100,101,102]⟩,JO .i32 (r:Int)] w fun e w'=>e=JT (JO JP (-1))∧ac w.heap.size w w':=by
   by_cases h1:(r:Int)=65533
   ·rw [h1];exact xn _ (Fh _ rfl) w
   ·by_cases h2:55296≤(r:Int)∧(r:Int)≤57343
    ·exact xm _ _ h2.1 h2.2 w
    ·exact xo _ mOm h1 mOm mOm w
  clear h hr
  go_enter func197,ntmps197;go_wp2_with fail;refine hi.mono ?_;rintro _ w1 ⟨rfl,hb⟩;go_wp2_with fail;go_ret;exact ⟨bX HN.out.symm,hb⟩
theorem FY (w:World):PredGrows prog 196 #[] (fun r=>!iW r) w:=fun W r hr _=>by
 have hc:=xU r hr W;obtain ⟨b,hb0⟩:∃ b,iW r=b:=⟨_,rfl⟩;rw [hb0] at hc;have HB:=aa hb0;clear hb0
 show Calls prog 196 #[JO .i32 (r:Int)] W _
 clear hr
 go_enter func196,ntmps196;go_wp2_with fail;refine hc.mono ?_;rintro _ w1 ⟨rfl,hb⟩;go_wp2_with fail;go_ret;exact ⟨bX (by rw [HB.out]),hb⟩
theorem Fk (p:Nat→Bool) (hp:∀ r,128≤r→p r=true) (s:ByteArray) (f pos:Nat) (hf:s.size≤f+pos):decide (gS p true s f pos < 0)=(s.data.toList.drop pos).all (fun c=>!p c.toNat):=by
 induction f generalizing pos with
 | zero =>
  have h1:s.data.toList.drop pos=[]:=eE (by rw [← bw];omega);rw [h1];simp [gS]
 | succ f ih =>
  by_cases hp2:pos < s.size
  ·have hl:pos < s.data.toList.length:=by rw [← bw];exact hp2
   have hg:s.data.toList[pos]'hl=s[pos]'hp2:=rfl;rw [List.drop_eq_getElem_cons hl,List.all_cons,hg];unfold gS;rw [if_pos hp2];by_cases ha:(s[pos]'hp2).toNat < 128
   ·rw [decode_ascii s pos hp2 ha];by_cases hw:p (s[pos]'hp2).toNat=true
    ·rw [if_pos hw,hw];simp
    ·have hw':p (s[pos]'hp2).toNat=false:=by simpa using hw
     rw [if_neg hw,hw',ih (pos+1) mOm];simp
   ·have hd:=decode_high s pos hp2 mOm;have hw:=hp _ hd.1;have hw2:=hp (s[pos]'hp2).toNat mOm;rw [if_pos hw,hw2];simp
  ·have h1:s.data.toList.drop pos=[]:=eE (by rw [← bw];omega);rw [h1,Lib.idxFuncFrom_end _ _ _ _ _ hp2];rfl
theorem Dt (s:ByteArray) (_hs:s.size≤9223372036854775807) (w:World) :
  Calls prog 145 #[JQ s] w fun e w'=>e=JT (.bool (kB s.data.toList))∧ac w.heap.size w w':=by
 have hC:=fun W=>Any.strings_IndexFunc_grows laysGw15 196 #[] (enters_of func196 mKr rfl) (fun r=>!iW r) s W (FY W)
 have hi:=Fk (fun r=>!iW r) (fun r hr=>by unfold iW;rw [decide_eq_false (show ¬ r≤57 by omega),decide_eq_false (show ¬ r≤102 by omega)];simp) s s.size 0 mOm;have hz:Lib.idxFunc (fun r=>!iW r) true s=gS (fun r=>!iW r) true s s.size 0:=rfl;rw [← hz,List.drop_zero] at hi;have hall:s.data.toList.all (fun c=>!!iW c.toNat)=s.data.toList.all uv:=by congr 1;funext c;rw [Bool.not_not];rfl
 have hsz:=bw s;by_cases h16:s.size=16
 ·have HR:Hid (kB s.data.toList=decide (Lib.idxFunc (fun r=>!iW r) true s < 0)):=aa (by
   unfold kB
   rw [decide_eq_true (by rw [← hsz];exact h16),ld,hi,hall])
  have t1:((s.size:Int)==16)=true:=by rw [beq_iff_eq];omega
  clear hi hz hall hsz h16;go_enter func145,ntmps145;go_wp2_with fail;refine (hC _).mono ?_;rintro x w1 ⟨rfl,hb⟩;go_wp2_with fail;go_ret;exact ⟨bX HR.out.symm,hb⟩
 ·have HR:Hid (kB s.data.toList=false):=aa (by
   unfold kB
   rw [decide_eq_false (by rw [← hsz];exact h16)];rfl)
  have t1:((s.size:Int)==16)=false:=by rw [beq_eq_false_iff_ne];omega
  clear hi hz hall hsz h16 hC;go_enter func145,ntmps145;go_wp2_with fail;go_ret;exact ⟨bX HR.out.symm,Below.refl _ _⟩
end
section
def kF (out:List ByteArray) (x:ByteArray):Nat:=out.length - (out.reverse.takeWhile fun y=>decide (bU x y < 0)).length
def gE (out:List ByteArray) (x:ByteArray):List ByteArray:=out.take (kF out x)++x::out.drop (kF out x)
def jm (l:List ByteArray):List ByteArray:=l.foldl gE []
theorem IT {α:Type} (p:α→Bool) (l:List α) (k:Nat) (h:∀ x∈l.take k,p x=true) (hk:∀ x,l[k]? = JV x→p x=false) (hkl:k≤l.length):(l.takeWhile p).length=k:=by
 rcases Nat.lt_trichotomy (l.takeWhile p).length k with hlt | e | hgt
 ·have hge:=ai (show (l.takeWhile p).length < l.length by omega);have h1:=qy hge;have h2:=h _ (fE.2 ⟨(l.takeWhile p).length,mOm,rfl⟩);rw [h1] at h2;cases h2
 ·exact e
 ·have hle:(l.takeWhile p).length≤l.length:=List.Sublist.length_le (List.takeWhile_sublist _);have hge:=ai (show k < l.length by omega);have h1:=qz hgt hge;rw [hk _ hge] at h1;cases h1
theorem Fm {out:List ByteArray} {x:ByteArray} {at_:Nat} (hat:at_≤out.length) (h:∀ y∈out.drop at_,bU x y < 0) (h0:∀ y,0 < at_→out[at_ - 1]? = JV y→¬ bU x y < 0):kF out x=at_:=by
 unfold kF;rw [IT _ out.reverse (out.length - at_) (fun y hy=>?_) (fun y hy=>?_) (by rw [eT];omega)]
 ·omega
 ·rw [List.take_reverse,show out.length - (out.length - at_)=at_ by omega] at hy;exact decide_eq_true (h y (List.mem_reverse.1 hy))
 ·have hlt:=(ap.1 hy).1;rw [eT] at hlt;rw [List.getElem?_reverse mOm] at hy;exact decide_eq_false (h0 y mOm (by rw [← hy];congr 1;omega))
theorem qj (out:List ByteArray) (x:ByteArray):(gE out x).length=out.length+1:=by
 unfold gE;have:kF out x≤out.length:=by unfold kF;omega
 rw [ax,bA,aM,bF];omega
theorem Dy (out:List ByteArray) (x:ByteArray):(gE out x).Perm (x::out):=by unfold gE;refine (List.perm_middle).trans ?_;rw [bS]
theorem nG:∀ (l out:List ByteArray),(l.foldl gE out).Perm (out++l)
 | [],out=>by simp
 | x::l,out=>by
  refine (nG l (gE out x)).trans ?_;refine ((Dy out x).append_right l).trans ?_;exact (List.perm_middle (l₁:=out) (l₂:=l) (a:=x)).symm
theorem fG (l:List ByteArray):(jm l).Perm l:=by have:=nG l [];rw [dt] at this;exact this
theorem k7 (l:List ByteArray):(jm l).length=l.length:=(fG l).length_eq
def leP (a b:ByteArray):Prop:=¬ bU b a < 0
theorem DA {a b c:ByteArray} (h:leP a b) (h2:leP b c):leP a c:=fun e=>by
 by_cases hab:bU a b < 0
 ·exact h2 (lj e hab)
 ·by_cases e2:a=b
  ·subst e2;exact h2 e
  ·exact h (uh hab e2)
theorem Fl (out:List ByteArray) (x:ByteArray):kF out x≤out.length∧(∀ y∈out.drop (kF out x),bU x y < 0)∧∀ y,0 < kF out x→out[kF out x - 1]? = JV y→¬ bU x y < 0:=by
 obtain ⟨k,hk⟩:∃ k,k=(out.reverse.takeWhile fun y=>decide (bU x y < 0)).length:=⟨_,rfl⟩;have hkl:k≤out.length:=by have e:out.length=out.reverse.length:=List.length_reverse.symm;rw [hk,e];exact List.Sublist.length_le (List.takeWhile_sublist _)
 unfold kF
 rw [← hk];refine ⟨mOm,fun y hy=>?_,fun y h0 hy=>?_⟩
 ·obtain ⟨j,hj,rfl⟩:=fH hy;rw [bF] at hj;have hge:out.reverse[k - 1 - j]? = JV (out.drop (out.length - k))[j]:=by
   rw [List.getElem?_reverse mOm,show out.length - 1 - (k - 1 - j)=out.length - k+j by omega,← eP,ai]
  exact of_decide_eq_true (qz (p:=fun y=>decide (bU x y < 0)) (l:=out.reverse) (k:=k - 1 - j) mOm hge)
 ·have hge:out.reverse[k]? = JV y:=by rw [List.getElem?_reverse mOm,← hy];congr 1;omega
  rw [hk] at hge;exact of_decide_eq_false (qy (p:=fun y=>decide (bU x y < 0)) hge)
theorem zE {out:List ByteArray} (x:ByteArray) (h:out.Pairwise leP):(gE out x).Pairwise leP:=by
 obtain ⟨h1,h2,h3⟩:=Fl out x;unfold gE;generalize kF out x=k at h1 h2 h3;have hp:=h;rw [← bS k out,List.pairwise_append] at hp;rw [List.pairwise_append];refine ⟨hp.1,List.pairwise_cons.2 ⟨fun y hy e=>Bg (h2 y hy) e,hp.2.1⟩,fun a ha b hb=>?_⟩;have hax:leP a x:=by
  have hk0:0 < k:=by
   cases k with
   | zero=>simp at ha
   | succ k=>omega
  have hge:=ai (show k - 1 < out.length by omega)
  have h4:leP out[k - 1] x:=h3 _ hk0 hge;obtain ⟨j,hj,hj2⟩:=fE.1 ha;by_cases e:j=k - 1
  ·subst e;rw [← hj2];exact h4
  ·have h5:=fc.1 h j (k - 1) mOm mOm mOm;rw [hj2] at h5;exact DA h5 h4
 rcases cR.1 hb with rfl | hb
 ·exact hax
 ·exact hp.2.2 a ha b hb
theorem yY (l:List ByteArray):(jm l).Pairwise leP:=by
 have:∀ (l out:List ByteArray),out.Pairwise leP→(l.foldl gE out).Pairwise leP:=fun l=>by
  induction l with
  | nil=>exact fun _ h=>h
  | cons x l ih=>exact fun out h=>ih _ (zE x h)
 exact this l [] List.Pairwise.nil
theorem uU {l:List ByteArray} (h:l.Pairwise leP) (hn:l.Nodup):eL l:=by
 intro i a b ha hb;obtain ⟨hi,rfl⟩:=ap.1 ha;obtain ⟨hj,rfl⟩:=ap.1 hb;have h1:=fc.1 h i (i+1) hi hj mOm;have h2:=fc.1 hn i (i+1) hi hj mOm;by_cases hc:bU l[i] l[i+1] < 0
 ·exact hc
 ·exact absurd (uh hc h2) h1
theorem lv {l:List ByteArray} (h:eL l):l.Nodup:=by rw [List.Nodup,fc];intro i j hi hj hij e;have:=qx h hij (ai hi) (ai hj);rw [e] at this;exact pm this
def dE (e:Ent):ByteArray:=⟨(fk e).toArray⟩
def ef (l:List Ent):Prop:=(∀ e∈l,dr e=0)∧eL (jm (l.map dE))
def bV (l:List Ent):List ByteArray:=l.map da
def bG (l:List Ent):List ByteArray:=jm (bV l)
def iQ (l:List Ent):ByteArray:=jL (fM (bV l)) (fM (bG l))
def eC (e:Ent):LT:=⟨dE e,⟨(l9 e.code).toArray⟩,⟨e.code.toArray⟩⟩
def inQ (st fi la:Int) (e:Ent):Bool:=decide (e.student=st)&&decide (fi≤e.on)&&decide (e.on≤la)
def fj (l:List Ent) (all:List ByteArray) (st fi la:Int):List LT:=all.flatMap fun a=>(l.filter fun e=>decide (da e=a)&&inQ st fi la e).map eC
theorem jS {l:List Ent} (h:ef l):eL (bG l)∧(bV l).Nodup:=by
 have hk:(l.map dE).Nodup:=(fG _).nodup_iff.1 (lv h.2);have hn:(bV l).Nodup:=by
  unfold bV;rw [List.Nodup,List.pairwise_map];rw [List.Nodup,List.pairwise_map] at hk;refine List.Pairwise.imp_of_mem (fun {a b} ha hb hab e=>hab ?_) hk;have h1:=h.1 a ha;have h2:=h.1 b hb;unfold dE fk;rw [if_pos h1,if_pos h2,Fw h1 h2 e]
 exact ⟨uU (yY _) ((fG _).nodup_iff.2 hn),hn⟩
theorem yG {l:List Ent} (hn:(bV l).Nodup) {e:Ent} (he:e∈l) (p:Ent→Bool):(l.filter fun x=>decide (da x=da e)&&p x)=if p e=true then [e] else []:=by
 induction l with
 | nil=>cases he
 | cons x l ih =>
  unfold bV at hn;rw [ev,List.nodup_cons] at hn;rcases cR.1 he with rfl | he
  ·have h0:(l.filter fun x=>decide (da x=da e)&&p x)=[]:=by
    rw [List.filter_eq_nil_iff];intro y hy e2;rw [aW,decide_eq_true_eq] at e2;exact hn.1 (e2.1 ▸ List.mem_map_of_mem hy)
   by_cases hp:p e=true
   ·rw [dh (by rw [decide_eq_true rfl,hp];rfl),h0,if_pos hp]
   ·rw [cM (by rw [decide_eq_true rfl];simpa using hp),h0,if_neg hp]
  ·have hne:da x ≠ da e:=fun e2=>hn.1 (e2 ▸ List.mem_map_of_mem he)
   rw [cM (by rw [decide_eq_false hne];simp)];exact ih hn.2 he
theorem Af {l:List Ent} (h:ef l) {st fi la:Int} (hr:dP st fi la):dq (fj l (bG l) st fi la)=(bG l).filter (inB (loB st fi) (hiB st la)):=by
 have hn:=(jS h).2
 have:∀ (all:List ByteArray),(∀ a∈all,a∈bV l)→dq (fj l all st fi la)=all.filter (inB (loB st fi) (hiB st la)):=fun all=>by
  induction all with
  | nil=>exact fun _=>rfl
  | cons a all ih =>
   intro hm;obtain ⟨e,he,rfl⟩:=eF.1 (hm a (dw ..));have ih:=ih (fun b hb=>hm b (ff _ hb));have hin:=GS (h.1 e he) hr;have hq:inQ st fi la e=inB (loB st fi) (hiB st la) (da e):=by rw [Bool.eq_iff_iff,hin];unfold inQ;rw [aW,aW,decide_eq_true_eq,decide_eq_true_eq,decide_eq_true_eq,and_assoc]
   unfold fj at ih ⊢
   rw [List.flatMap_cons];unfold dq at ih ⊢;rw [List.map_append,ih,yG hn he];by_cases hp:inQ st fi la e=true
   ·rw [if_pos hp,dh (by rw [← hq];exact hp)];have e1:(eC e).key++⟨#[32]⟩++(eC e).hash=da e:=by
     refine dl ?_;rw [gb,gb];unfold eC dE da;simp
    show [(eC e).key++⟨#[32]⟩++(eC e).hash]++_=_
    rw [e1];rfl
   ·rw [if_neg hp,cM (by rw [← hq];exact hp)];rfl
 exact this _ (fun a ha=>(fG _).mem_iff.1 ha)
theorem yl {l:List ByteArray} (hs:eL l) {lo hi:ByteArray} (h:bU lo hi < 0):dM l lo≤dM l hi:=by
 refine Nat.le_of_not_lt fun hlt=>?_
 have h1:=gL l lo;have hge:=ai (show dM l hi < l.length by omega);have h2:=(gM hs (s:=lo) hge).1 hlt;have h3:=(gM hs (s:=hi) hge).2 (lj h2 h);omega
theorem KI {p q:Prop} (h:q) (f:Wq q→p:=by
 intro hq;have hab:=yl hs h;have hf2:=gL l hi;have a1:∀ k x,l[k]? = JV x→(k < dM l lo↔bU x lo < 0):=fun k x hx=>gM hs hx
 have a2:∀ k x,l[k]? = JV x→(k < dM l hi↔bU x hi < 0):=fun k x hx=>gM hs hx
 revert hab hf2 a1 a2
 exact hq.1):p:=f ⟨h⟩
theorem BX {l:List ByteArray} (hs:eL l) {lo hi:ByteArray} (h:bU lo hi < 0):l.filter (inB lo hi)=(l.drop (dM l lo)).take (dM l hi - dM l lo):=by
 refine KI ?_;intro hab hf2 a1 a2;generalize dM l lo=a at *;generalize dM l hi=b at *;have e1:l=l.take a++((l.drop a).take (b - a)++l.drop b):=by
  have h1:l.drop b=(l.drop a).drop (b - a):=by rw [jv];congr 1;omega
  rw [h1,bS,bS]
 have e2:(l.take a).filter (inB lo hi)=[]:=by rw [List.filter_eq_nil_iff];intro x hx;obtain ⟨k,hk,hk2⟩:=fE.1 hx;have:=(a1 k x (by rw [ai mOm,hk2])).1 mOm;unfold inB;rw [decide_eq_true this];simp
 have e3:(l.drop b).filter (inB lo hi)=[]:=by
  rw [List.filter_eq_nil_iff];intro x hx;obtain ⟨k,hk,hk2⟩:=fH hx;rw [bF] at hk;have hge:l[b+k]? = JV x:=by rw [← eP,ai (by rw [bF];omega),hk2]
  have:¬ bU x hi < 0:=fun h=>by
   have:=(a2 _ x hge).2 h;omega
  unfold inB
  rw [decide_eq_false this];simp
 have e4:((l.drop a).take (b - a)).filter (inB lo hi)=(l.drop a).take (b - a):=by
  rw [List.filter_eq_self];intro x hx;obtain ⟨k,hk,hk2⟩:=fE.1 hx;rw [bF] at hk;have hge:l[a+k]? = JV x:=by rw [← eP,ai (by rw [bF];omega),hk2]
  have h1:¬ bU x lo < 0:=fun h=>by
   have:=(a1 _ x hge).2 h;omega
  have h2:=(a2 _ x hge).1 mOm
  unfold inB;rw [decide_eq_false h1,decide_eq_true h2];rfl
 conv=>lhs;rw [e1]
 rw [Zfa,Zfa,e2,e3,e4,dt,List.append_nil]
def lQ (m:List ByteArray) (lo:ByteArray):ByteArray:=match m[0]? with | some x=>if bU x lo < 0 then x else ⟨#[]⟩ | none=>⟨#[]⟩
def lP (m:List ByteArray) (hi:ByteArray):ByteArray:=match m[m.length - 1]? with | some x=>if bU x hi < 0 then ⟨#[]⟩ else x | none=>⟨#[]⟩
theorem DQ {l:List ByteArray} (hs:eL l) (hz:∀ x∈l,0 < x.size) {lo hi:ByteArray} (h:bU lo hi < 0) :
  (if (lQ (iN l lo hi) lo).size=0 then [] else [lQ (iN l lo hi) lo])++l.filter (inB lo hi)++(if (lP (iN l lo hi) hi).size=0 then [] else [lP (iN l lo hi) hi])=iN l lo hi:=by
 rw [BX hs h];refine KI ?_;intro hab hf2 a1 a2;have z0:(⟨#[]⟩:ByteArray).size=0:=rfl;unfold iN dV gl;generalize dM l lo=a at *;generalize dM l hi=b at *;obtain ⟨j,hj⟩:∃ j,j=min l.length (max a b+1):=⟨_,rfl⟩;rw [← hj];have hlen:((l.drop (a - 1)).take (j - (a - 1))).length=j - (a - 1):=by rw [aM,bF];omega
 have hat:∀ k,k < j - (a - 1)→((l.drop (a - 1)).take (j - (a - 1)))[k]? = l[a - 1+k]?:=fun k hk=>by rw [dJ hk,eP]
 have eB:(if (lQ ((l.drop (a - 1)).take (j - (a - 1))) lo).size=0 then [] else [lQ ((l.drop (a - 1)).take (j - (a - 1))) lo])=(l.drop (a - 1)).take (a - (a - 1)):=by
  unfold lQ;by_cases h0:a=0
  ·subst h0
   have hc:∀ x,((l.drop (0 - 1)).take (j - (0 - 1)))[0]? = JV x→¬ bU x lo < 0:=fun x hx h2=>by
    have hjp:=(ap.1 hx).1;rw [hat 0 mOm] at hx;have:=(a1 _ x hx).2 h2;omega
   cases hx:((l.drop (0 - 1)).take (j - (0 - 1)))[0]? with
   | none=>rw [if_pos z0];simp
   | some x=>simp only [if_neg (hc x hx)];rw [if_pos z0];simp
  ·have hlt:a - 1 < l.length:=mOm;have hge:=ai hlt;rw [hat 0 mOm,ee,hge];have hc:=(a1 _ _ hge).1 mOm;have hsz:=hz _ (bD hlt);simp only [if_pos hc];rw [if_neg mOm,show a - (a - 1)=1 by omega,List.take_one,List.head?_drop,hge];rfl
 have eA:(if (lP ((l.drop (a - 1)).take (j - (a - 1))) hi).size=0 then [] else [lP ((l.drop (a - 1)).take (j - (a - 1))) hi])=(l.drop b).take (j - b):=by
  unfold lP;rw [hlen];by_cases h0:b < l.length
  ·have ej:j=b+1:=mOm;have hge:=ai h0;rw [hat (j - (a - 1) - 1) mOm,show a - 1+(j - (a - 1) - 1)=b by omega,hge];have hc:¬ bU l[b] hi < 0:=fun h2=>by have:=(a2 _ _ hge).2 h2;omega
   have hsz:=hz _ (bD h0);simp only [if_neg hc];rw [if_neg mOm,show j - b=1 by omega,List.take_one,List.head?_drop,hge];rfl
  ·have ej:j=l.length:=mOm
   have hc:∀ x,((l.drop (a - 1)).take (j - (a - 1)))[j - (a - 1) - 1]? = JV x→bU x hi < 0:=fun x hx=>by
    have hjp:=(ap.1 hx).1;rw [hlen] at hjp;rw [hat _ hjp] at hx;exact (a2 _ x hx).1 mOm
   rw [show j - b=0 by omega,List.take_zero]
   cases hx:((l.drop (a - 1)).take (j - (a - 1)))[j - (a - 1) - 1]? with
   | none=>simp only;rw [if_pos z0]
   | some x=>simp only [if_pos (hc x hx)];rw [if_pos z0]
 rw [eB,eA]
 have e5:(l.drop a).take (b - a)++(l.drop b).take (j - b)=(l.drop a).take (j - a):=by
  have h1:l.drop b=(l.drop a).drop (b - a):=by rw [jv];congr 1;omega
  rw [h1,← List.take_add];congr 1;omega
 have e6:(l.drop (a - 1)).take (a - (a - 1))++(l.drop a).take (j - a)=(l.drop (a - 1)).take (j - (a - 1)):=by
  have h1:l.drop a=(l.drop (a - 1)).drop (a - (a - 1)):=by rw [jv];congr 1;omega
  rw [h1,← List.take_add];congr 1;omega
 rw [cq,e5,e6]
end
section
theorem Gz (n:Nat):(cV n).all iR=true:=by unfold cV;simp only [ev,mj,List.all_cons,List.all_nil,Bool.and_true,aW,isDig_iff,UInt8.toNat_ofNat'];omega
theorem E2 {n:Nat} (h:n≤999999):jN (cV n)=n:=by unfold jN cV;simp only [ev,mj,List.foldl_cons,List.foldl_nil,UInt8.toNat_ofNat'];omega
theorem rV {n:Nat} (h:n≤999999):eV (cV n)=n:=by unfold eV;rw [if_pos (Gz n),E2 h]
theorem GZ {k:Nat} (h:k≤9):eV [UInt8.ofNat (48+k)]=k:=by
 have h1:(UInt8.ofNat (48+k)).toNat=48+k:=by rw [UInt8.toNat_ofNat'];omega
 have h2:([UInt8.ofNat (48+k)]:List UInt8).all iR=true:=by simp only [List.all_cons,List.all_nil,Bool.and_true,isDig_iff,h1];omega
 unfold eV jN
 rw [if_pos h2];simp only [List.foldl_cons,List.foldl_nil,h1];omega
theorem between_iff {n a b:Int}:aB n a b=true↔a≤n∧n≤b:=by unfold aB;rw [aW,decide_eq_true_eq,decide_eq_true_eq]
theorem Cw {e:Ent} (h:dr e=0) {st fi la:Int} (hq:inQ st fi la e=true):iG st fi la (fJ e)=true:=by
 obtain ⟨r1,r2,r3,r4,r5,r6⟩:=mq h;unfold inQ at hq;rw [aW,aW,decide_eq_true_eq,decide_eq_true_eq,decide_eq_true_eq] at hq;have n1:eV ((fJ e).take 6)=e.student:=by have:(fJ e).take 6=cV e.student.toNat:=rfl;rw [this,rV mOm];omega
 have n2:eV (((fJ e).drop 7).take 6)=e.on:=by have:((fJ e).drop 7).take 6=cV e.on.toNat:=rfl;rw [this,rV mOm];omega
 have n3:eV (((fJ e).drop 14).take 6)=e.id:=by have:((fJ e).drop 14).take 6=cV e.id.toNat:=rfl;rw [this,rV mOm];omega
 have n4:eV ((fJ e).drop 21)=e.kind:=by have:(fJ e).drop 21=[UInt8.ofNat (48+e.kind.toNat)]:=rfl;rw [this,GZ mOm];omega
 have n5:(fJ e).length=22:=rfl
 have n6:((fJ e).getD 6 0==32&&(fJ e).getD 13 0==32&&(fJ e).getD 20 0==32)=true:=rfl;unfold iG;rw [n1,n2,n3,n4,n6,n5,decide_eq_true rfl,decide_eq_true hq.1.1,between_iff.2 ⟨hq.1.2,hq.2⟩,between_iff.2 r1,between_iff.2 r4];rfl
theorem Du {n:Nat} (h:n < 16):uv (ij n)=true:=by
 have:∀ n,n < 16→uv (ij n)=true:=by decide +kernel
 exact this n h
theorem E0 (l:List UInt8):(eY l).all uv=true:=by
 unfold eY;rw [ep];intro c hc;obtain ⟨d,-,hd⟩:=List.mem_flatMap.1 hc;have hlt:d.toNat < 256:=d.toNat_lt;rcases cR.1 hd with rfl | hd
 ·exact Du mOm
 ·rcases cR.1 hd with rfl | hd
  ·exact Du mOm
  ·cases hd
theorem yp (b:List UInt8):kB (l9 b)=true:=by unfold kB;rw [kW,decide_eq_true rfl,ld];exact E0 _
def eU (l:List Ent) (all:List ByteArray) (st fi la:Int):List Ent:=all.flatMap fun a=>l.filter fun e=>decide (da e=a)&&inQ st fi la e
theorem qv (l:List Ent) (all:List ByteArray) (st fi la:Int):fj l all st fi la=(eU l all st fi la).map eC:=by unfold fj eU;rw [List.map_flatMap]
theorem iA {l:List Ent} {all:List ByteArray} {st fi la:Int} {e:Ent} (h:e∈eU l all st fi la):e∈l∧inQ st fi la e=true:=by unfold eU at h;obtain ⟨a,-,h⟩:=List.mem_flatMap.1 h;have:=List.mem_filter.1 h;rw [aW] at this;exact ⟨this.1,this.2.2⟩
theorem uR (l:List Ent):dq (l.map eC)=l.map da:=by
 unfold dq;rw [kO];refine List.map_congr_left fun e _=>?_
 refine dl ?_
 show ((eC e).key++⟨#[32]⟩++(eC e).hash).data.toList=_
 rw [gb,gb]
 unfold eC dE da;simp
theorem l8 {l:List Ent} (h:ef l) {st fi la:Int} (hr:dP st fi la):(eU l (bG l) st fi la).map da=(bG l).filter (inB (loB st fi) (hiB st la)):=by rw [← Af h hr,qv,uR]
theorem sU {l:List Ent} (h:ef l) {st fi la:Int} (hr:dP st fi la):(eU l (bG l) st fi la).length≤l.length:=by
 have h1:=congrArg List.length (l8 h hr);rw [aX] at h1;have h2:=List.length_filter_le (inB (loB st fi) (hiB st la)) (bG l);have h3:(bG l).length=l.length:=by unfold bG bV;rw [k7,aX]
 omega
theorem zS {l:List ByteArray} (hs:eL l):l.Pairwise fun a b=>bU a b < 0:=by rw [fc];intro i j hi hj hij;exact qx hs hij (ai hi) (ai hj)
theorem GQ {a b:Ent} (ha:dr a=0) (hb:dr b=0) (h:bU (da a) (da b) < 0) (hne:dE a ≠ dE b):bU (dE a) (dE b) < 0:=by
 rw [lt_bl,ByteArray.toList_eq,ByteArray.toList_eq] at h ⊢;unfold da at h;unfold dE at hne ⊢;unfold fk at h hne ⊢;rw [if_pos ha,if_pos hb] at h hne ⊢;have hl:(fJ a).length=(fJ b).length:=rfl;have hne2:fJ a ≠ fJ b:=fun e=>hne (by rw [e])
 simp only at h ⊢;rw [pF hl,beq_eq_false_iff_ne.2 hne2,Bool.false_and,Bool.or_false] at h;exact h
theorem Df {l:List Ent} (h:ef l) {st fi la:Int} (hr:dP st fi la):(eU l (bG l) st fi la).Pairwise fun a b=>bU (dE a) (dE b) < 0:=by
 have h1:=(zS (jS h).1).filter (inB (loB st fi) (hiB st la));rw [← l8 h hr,List.pairwise_map] at h1;have hk:(l.map dE).Nodup:=(fG _).nodup_iff.1 (lv h.2);refine List.Pairwise.imp_of_mem (fun {a b} ha hb hab=>?_) h1;have ma:=(iA ha).1;have mb:=(iA hb).1;refine GQ (h.1 a ma) (h.1 b mb) hab (fun e=>?_);have hab2:a=b:=by obtain ⟨i,hi,rfl⟩:=fH ma;obtain ⟨j,hj,rfl⟩:=fH mb;have:=(List.getElem_inj (h₀:=by rw [aX];exact hi) (h₁:=by rw [aX];exact hj) hk).1 (by rw [List.getElem_map,List.getElem_map];exact e);subst this;rfl
 rw [hab2] at hab
 exact pm hab
def cZ (ids:List Int) (e:Ent):LT:=if e.id∈ids then eC e else { eC e with body:=⟨#[]⟩ }
theorem jf (ids:List Int) (e:Ent):(cZ ids e).key=dE e:=by unfold cZ;split <;> rfl
theorem mv (ids:List Int) (e:Ent):(cZ ids e).hash=⟨(l9 e.code).toArray⟩:=by unfold cZ;split <;> rfl
theorem ut (ids:List Int) (l:List Ent):dq (l.map (cZ ids))=l.map da:=by
 rw [← uR];unfold dq;rw [kO,kO];refine List.map_congr_left fun e _=>?_
 show (cZ ids e).key++⟨#[32]⟩++(cZ ids e).hash=_
 rw [jf,mv];rfl
theorem qZ {e:Ent} (h:dr e=0):(dE e).data.toList=fJ e:=by unfold dE fk;rw [if_pos h]
theorem Dw {ids:List Int} {e:Ent} {s:Int} (ho:e.Ok) (hl:e.code.length≤262144) (hs:e.school=s):mP s (cZ ids e)=0:=by
 unfold mP;by_cases hz:(cZ ids e).body.size=0
 ·rw [if_pos hz]
 ·rw [if_neg hz];have hin:e.id∈ids:=by
   refine Classical.byContradiction fun hn=>hz ?_
   unfold cZ;rw [if_neg hn];rfl
  have hb:(cZ ids e).body=⟨e.code.toArray⟩:=by unfold cZ;rw [if_pos hin];rfl
  rw [hb,jf,mv];simp only;rw [wj e ho hl,if_neg (fun h=>h rfl),if_neg];rintro (h | h | h)
  ·exact h hs
  ·exact h rfl
  ·exact h rfl
theorem yy (x:LY) (ids:List Int):∀ (p:Option Ent) (E:List Ent),(∀ e∈E,dr e=0∧e.Ok∧e.code.length≤262144∧e.school=x.school∧inQ x.student x.first x.last e=true)→
  ((match p with | none=>[] | some q=>[q])++E).Pairwise (fun a b=>bU (dE a) (dE b) < 0)→gX x (p.map (cZ ids)) (E.map (cZ ids))=0
 | _,[],_,_=>rfl
 | p,e::E,he,hs=>by
  obtain ⟨h1,h2,h3,h4,h5⟩:=he e (dw ..)
  have ih:=yy x ids (JV e) E (fun a ha=>he a (ff _ ha)) (by
   show ([e]++E).Pairwise _
   rw [List.pairwise_append] at hs
   exact hs.2.1)
  have hl:kX x (p.map (cZ ids)) (cZ ids e)=0:=by
   unfold kX;rw [jf,mv,qZ h1,if_neg,if_neg]
   ·exact Dw h2 h3 h4
   ·unfold pN
    cases p with
    | none=>exact fun h=>by cases h
    | some q =>
     have:bU (dE q) (dE e) < 0:=by rw [List.pairwise_append] at hs;exact hs.2.2 q (dw ..) e (dw ..)
     show ¬ (!decide (bU (cZ ids q).key (cZ ids e).key < 0))=true
     rw [jf,jf,decide_eq_true this]
     decide
   ·rintro (h | h)
    ·rw [Cw h1 h5] at h;cases h
    ·have:=yp e.code;simp only at h;rw [this] at h;cases h
  rw [ev]
  unfold gX;rw [hl,if_neg (fun h=>h rfl)];exact ih
def gY (l:List Ent) (st fi la:Int):List ByteArray:=
 [fM (bV l),fM (bG l),⟨(di ((dV (bG l) (loB st fi):Nat):Int)).toArray⟩,lQ (iN (bG l) (loB st fi) (hiB st la)) (loB st fi),lP (iN (bG l) (loB st fi) (hiB st la)) (hiB st la)] ++
  gZ (bG l) (dV (bG l) (loB st fi)) (gl (bG l) (loB st fi) (hiB st la))
theorem I7 {st fi la:Int} (hr:dP st fi la):bU (loB st fi) (hiB st la) < 0:=by
 obtain ⟨r1,r2,r3,r4,r5⟩:=hr;unfold hiB loB;rw [lt_bl,ByteArray.toList_eq,ByteArray.toList_eq];simp only;have h6:∀ a b:Nat,(cV a).length=(cV b).length:=fun _ _=>rfl
 rw [pF (h6 _ _),ua mOm mOm,yV mOm mOm,vl,pF (h6 _ _),ua mOm mOm];simp only [Bool.or_eq_true,aW,decide_eq_true_eq];exact .inr ⟨trivial,.inl mOm⟩
theorem zN {l:List Ent} (h:ef l) {st fi la:Int} (hr:dP st fi la) (hn:l.length≤900000) (ids:List Int) :
  ik (iQ l) l.length st fi la ((eU l (bG l) st fi la).map (cZ ids)) (gY l st fi la):=by
 have hs:=(jS h).1;have hal:(bG l).length=l.length:=by unfold bG bV;rw [k7,aX]
 have hlh:=I7 hr;have haw:=wW hs (loB st fi) (hiB st la) mOm
 have hz:∀ x∈bG l,0 < x.size:=fun x hx=>by
  obtain ⟨e,-,rfl⟩:=eF.1 ((fG _).mem_iff.1 hx);have:=bw (da e);rw [this];unfold da;simp only [ax,bA];omega
 have hg:eS ((eU l (bG l) st fi la).map (cZ ids)) (lQ (iN (bG l) (loB st fi) (hiB st la)) (loB st fi)) (lP (iN (bG l) (loB st fi) (hiB st la)) (hiB st la))=iN (bG l) (loB st fi) (hiB st la):=by unfold eS;rw [ut,l8 h hr];exact DQ hs hz hlh
 refine ⟨hr,_,_,_,_,_,_,rfl,rfl,?_,dV (bG l) (loB st fi),⟨?_,rfl⟩,?_,?_⟩
 ·intro x hx;obtain ⟨e,-,rfl⟩:=eF.1 hx;refine ⟨?_,?_⟩
  ·rw [mv,bw];exact kW _
  ·unfold cZ
   split
   ·exact .inr rfl
   ·exact .inl rfl
 ·have:=gL (bG l) (loB st fi);unfold dV;omega
 ·rw [hg,← hal];exact haw.1
 ·rw [hg,haw.2,ut,l8 h hr]
def kE (l:List Ent) (school root st fi la:Int) (ids:List Int):LY:=⟨school,st,fi,la,root,(eU l (bG l) st fi la).map (cZ ids),gY l st fi la⟩
theorem yA {l:List Ent} (h:ef l) {school root st fi la:Int} (hr:dP st fi la) (hn:l.length≤2000) (ids:List Int) (hsc:1≤school∧school≤8) (hro:0≤root∧root≤199)
  (hok:∀ e∈l,e.Ok∧e.code.length≤262144∧e.school=school):iU (kE l school root st fi la ids)=0:=by
 obtain ⟨r1,r2,r3,r4,r5⟩:=hr;have hr:dP st fi la:=⟨r1,r2,r3,r4,r5⟩;have hlen:=sU h hr
 have hlin:=yy (kE l school root st fi la ids) ids JW (eU l (bG l) st fi la) (fun e he=>by
  have hm:=iA he;have ho:=hok e hm.1
  exact ⟨h.1 e hm.1,ho.1,ho.2.1,ho.2.2,hm.2⟩) (Df h hr)
 unfold iU
 rw [if_neg,if_neg,if_neg,if_neg,if_neg,if_neg]
 ·show ¬ (gY l st fi la).length < 5
  unfold gY
  simp only [ax,bA,List.length_nil];omega
 ·intro hne;exact hne hlin
 ·show ¬ 2000 < ((eU l (bG l) st fi la).map (cZ ids)).length
  rw [aX];omega
 ·show ¬ aB root 0 199=false
  rw [between_iff.2 hro];decide
 ·show ¬ (aB fi 0 100000=false∨aB la fi 100000=false)
  rw [between_iff.2 ⟨r3,mOm⟩,between_iff.2 ⟨r4,r5⟩];decide
 ·show ¬ (aB school 1 8=false∨aB st 1 999999=false)
  rw [between_iff.2 hsc,between_iff.2 ⟨r1,r2⟩];decide
theorem rF (r:LR):∀ (p:Option LL) (l:List LL) (x:LL),dW r p l=0→eN r (match l.getLast? with | some y=>some y | none=>p) x=0→dW r p (l++[x])=0
 | p,[],x,_,h=>by
  simp only [List.getLast?_nil] at h
  show (if eN r p x ≠ 0 then _ else _)=_
  rw [if_neg (fun hn=>hn h)];rfl
 | p,y::l,x,h,h2=>by
  unfold dW at h;by_cases hy:eN r p y=0
  ·rw [if_neg (fun hn=>hn hy)] at h
   have ih:=rF r (JV y) l x h (by
    rw [List.getLast?_cons] at h2
    cases hg:l.getLast? with
    | none=>rw [hg] at h2;exact h2
    | some z=>rw [hg] at h2;exact h2)
   show (if eN r p y ≠ 0 then _ else _)=_
   rw [if_neg (fun hn=>hn hy)]
   exact ih
  ·rw [if_pos hy] at h;exact absurd h hy
theorem qI (r:LR):∀ (k:Nat) (p:Option LL) (l:List LL),dW r p l=0→dW r p (l.take k)=0
 | 0,_,_,_=>rfl
 | _+1,_,[],_=>rfl
 | k+1,p,y::l,h=>by
  unfold dW at h;by_cases hy:eN r p y=0
  ·rw [if_neg (fun hn=>hn hy)] at h;rw [List.take_succ_cons];unfold dW;rw [if_neg (fun hn=>hn hy)];exact qI r k (JV y) l h
  ·rw [if_pos hy] at h;exact absurd h hy
theorem ns (r:LR):∀ (p:Option LL) (l:List LL),dW r p l=0→∀ x∈l,x.school=r.school∧aB x.day 0 100000=true∧eh r x.key (bC x) x.mark x.day x.day=0
 | _,[],_,_,hx=>by cases hx
 | p,y::l,h,x,hx=>by
  unfold dW at h;by_cases hy:eN r p y=0
  ·rw [if_neg (fun hn=>hn hy)] at h;rcases cR.1 hx with rfl | hx
   ·unfold eN at hy
    split at hy;· cases hy
    rename_i h1
    split at hy;· cases hy
    split at hy;· cases hy
    rename_i h3
    split at hy;· cases hy
    split at hy;· cases hy
    exact ⟨Classical.byContradiction h1,by simpa using h3,hy⟩
   ·exact ns r (JV y) l h x hx
  ·rw [if_pos hy] at h;exact absurd h hy
theorem xx {r:LR} {l:List LL} (h:cP r l=0) (k:Nat):cP r (l.take k)=0:=by
 unfold cP at h ⊢;by_cases h1:fd r=0
 ·rw [if_neg (fun hn=>hn h1)] at h ⊢;by_cases h2:200 < l.length
  ·rw [if_pos h2] at h;cases h
  ·rw [if_neg h2] at h;rw [if_neg (by rw [aM];omega)];exact qI r k JW l h
 ·rw [if_pos h1] at h;exact absurd h h1
theorem Ab {l:List LL} {s:Int} (h:∀ x∈l,x.school=s):dQ l s=l:=by unfold dQ;rw [List.filter_eq_self];intro x hx;rw [h x hx,beq_self_eq_true]
theorem sJ {r:LR} {l:List LL} (hch:cP r l=0):dW r JW l=0:=by
 unfold cP at hch;by_cases h1:fd r=0
 ·rw [if_neg (fun hn=>hn h1)] at hch;by_cases h2:200 < l.length
  ·rw [if_pos h2] at hch;cases hch
  ·rwa [if_neg h2] at hch
 ·rw [if_pos h1] at hch;exact absurd hch h1
theorem yB {l:List Ent} {r:LR} {roots own:List LL} {rt:LL} {root:Nat} (hof:dQ roots r.school=own) (hrt:own[root]? = JV rt) (hch:cP r (own.take (root+1))=0) (hsz:rt.size=l.length) (htr:rt.tree=iQ l) (h:ef l) {st fi la:Int} (hr:dP st fi la) (hn:l.length≤2000) (ids:List Int) (hsc:1≤r.school∧r.school≤8) (hro:root≤199)
  (hok:∀ e∈l,e.Ok∧e.code.length≤262144∧e.school=r.school):ec (kE l r.school root st fi la ids) roots r 100000=0∧dI (kE l r.school root st fi la ids) roots=rt:=by
 have hlt:=(ap.1 hrt).1;have hmem:rt∈own.take (root+1):=List.mem_of_getElem? (i:=root) (by rw [dJ mOm];exact hrt);have hall:=ns r JW _ (sJ hch);have hat:dI (kE l r.school root st fi la ids) roots=rt:=by
  unfold dI
  show (dQ roots r.school).getD root _=_
  rw [hof,List.getD_eq_getElem?_getD,hrt];rfl
 refine ⟨?_,hat⟩
 unfold ec;have hday:=between_iff.1 (hall rt hmem).2.1;rw [if_neg (fun hn2=>hn2 (yA h hr hn ids hsc ⟨mOm,mOm⟩ hok)),if_neg (fun hn2=>hn2 rfl),if_neg,if_neg,if_neg,if_neg]
 ·rw [hat];refine Classical.not_not.2 ?_
  show ik rt.tree rt.size st fi la ((eU l (bG l) st fi la).map (cZ ids)) (gY l st fi la)
  rw [htr,hsz]
  exact zN h hr mOm ids
 ·rw [hat];omega
 ·intro hn2;refine hn2 ?_
  show cP r ((dQ roots r.school).take _)=0
  rw [hof]
  exact hch
 ·show ¬ ((dQ roots r.school).length:Int)≤(root:Int)
  rw [hof];omega
theorem Cy {r:LR} {l:List LL} (h:cP r l=0):fd r=0:=by
 unfold cP at h;by_cases h1:fd r=0
 ·exact h1
 ·rw [if_pos h1] at h;exact absurd h h1
end
section
attribute [local go_sem 2000] pK pJ
theorem yX {P:Program} (w:World) (t:TypeId) (s:ByteArray) (ht:P.underlying t=JV .string) (kl kh:IntKind) (l h:Int) (h0:0≤l) (h1:l≤h) (h2:h≤s.size) :
  (Instr.slice t (JQ s) (JV (.int kl l)) (JV (.int kh h)) JW).run P w=.ok (JQ (s.extract l.toNat h.toNat)) w:=by
 have h3:0≤h:=mOm;have h4:l.toNat≤h.toNat:=mOm;simp [Instr.slice,Instr.sliceBounds,Instr.sliceBound,asIntOf,run_underlying ht,h0,h2,h3];intro hc;exfalso;omega
theorem uf (l:List UInt8) (c:UInt8):it l++[JO .u8 c.toNat]=it (l++[c]):=by simp [it]
theorem wg (B b:Nat) (l:List UInt8) (c:UInt8) (w:World) (h:Bld B b l w) (hlen:l.length+1≤140000000000000) :
  Calls prog 201 #[JS (JV ⟨b,0,JW⟩),JO .u8 c.toNat] w fun e w'=>e=JT .nilIface∧Bld B b (l++[c]) w'∧ac B w w':=
 (Tryz.Builder_WriteByte_k B b (it l) c.toNat w h.1 (by rw [Lib.byteCells_length];omega) h.2).mono fun _ _ ⟨he,hb,hl,_⟩=>⟨he,⟨.inr (by rw [← uf];exact hb),Nat.le_trans h.2 hl.size⟩,hl⟩
theorem Al (s:ByteArray) (hs:s.size≤1000) (w:World) :
  Calls prog 147 #[JQ s] w fun e w'=>e=JT (JQ ⟨(eY s.data.toList).toArray⟩)∧ac w.heap.size w w':=by
 have HPS:=aa (bw s);have hb0:=al w (JU #[.pointer JW,JR JW 0 0] 158);have hB0:=Bld.new w;go_enter func147,ntmps147;go_wp2_with fail
 go_loopw [7] (fun i wr=>∃ k:Nat,k≤s.size∧i=JO JP k∧Bld w.heap.size w.heap.size (eY (s.data.toList.take k)) wr∧ac w.heap.size w wr) (fun i _=>s.size - (aw i).toNat)
 case atStart=>exact ⟨0,aR _,rfl,hB0,hb0⟩
 case round =>
  obtain ⟨k,hk,rfl,hB,hbr⟩:=hrel;by_cases hlt:k < s.size
  ·have i1:(k:Int) < (s.size:Int):=mOm;have htl:k < s.data.toList.length:=by rw [← HPS.out];exact hlt
   obtain ⟨d,hd⟩:∃ d,s.data.toList[k]=d:=⟨_,rfl⟩;have hg:∀ h:k < s.size,s[k]'h=d:=fun h=>(Wr.get_ba s k h).trans hd
   have HT:Hid (eY (s.data.toList.take (k+1))=eY (s.data.toList.take k)++[ij (d.toNat / 16)]++[ij (d.toNat%16)]):=aa (by
    rw [aL,ai htl,hd,Option.toList_some,qR,cq];rfl)
   have hdl:(eY (s.data.toList.take k)).length≤2000:=by rw [qc,aM];omega
   have hd8:=d.toNat_lt;obtain ⟨q,hq⟩:∃ q,q=d.toNat / 16:=⟨_,rfl⟩;obtain ⟨r,hr⟩:∃ r,r=d.toNat%16:=⟨_,rfl⟩;have e1:∀ t,binOp .shr t (JO .u8 (d.toNat:Int)) (JO .u64 4)=pure (JO .u8 (q:Int)):=fun t=>by rw [pK,hq]
   have e2:∀ t,binOp .and t (JO .u8 (d.toNat:Int)) (JO .u8 15)=pure (JO .u8 (r:Int)):=fun t=>by rw [pJ,hr]
   have e3:=fun w=>rT q mOm w
   have e4:=fun w=>rT r mOm w
   rw [← hq,← hr] at HT;generalize ij q=x at *;generalize ij r=y at *;generalize eY (s.data.toList.take k)=F at *;have HDL:=aa hdl;have HB:=aa hB;clear htl hd hq hr hdl hB;go_wp2_with fail;refine (wg _ _ _ _ _ HB.out (by have:=HDL.out;omega)).mono ?_;rintro _ w2 ⟨rfl,hB2,hb2⟩;have hbw:=hbr.trans hb2;have HB2:=aa hB2;clear hB2 hb2 HB;go_wp2_with fail;refine (wg _ _ _ _ _ HB2.out (by have:=HDL.out;rw [ax,List.length_singleton];omega)).mono ?_;rintro _ w3 ⟨rfl,hB3,hb3⟩;have hbw3:=hbw.trans hb3;clear hb3 HB2;go_wp2_with fail
   go_roundw
   case rel=>exact ⟨k+1,mOm,by go_num,by rw [HT.out];exact hB3,hbw3⟩
   case measure=>simp [aw];omega
  ·obtain rfl:k=s.size:=mOm;have i1:¬ (s.size:Int) < (s.size:Int):=mOm;have e:s.data.toList.take s.size=s.data.toList:=by rw [HPS.out,aT]
   rw [e] at hB;clear e hlt;go_wp2_with fail;refine (uc _ _ _ _ hB).mono ?_;rintro _ w2 ⟨rfl,-,hb2,-⟩;have hbw:=hbr.trans hb2;go_wp2_with fail;go_ret;exact ⟨rfl,hbw⟩
end
section
def ia (r:LR) (at_:LL) (e:Ent):Bool:=decide (eh r e.key ⟨e.body.toArray⟩ e.mark e.day at_.day=0)
def mh (r:LR) (at_:LL) (lines:List LT):List Ent:=lines.filterMap (lB r at_)
end
section
structure BrtE where
 fro:Int
 student:Int
 root:Int
 ents:List Ent
def Gp (x b:BrtE):Bool:=x.fro==b.fro&&x.student==b.student
def ltK (a b:BrtE):Prop:=a.fro < b.fro∨(a.fro=b.fro∧a.student < b.student)
structure KeptB (a P:List BrtE):Prop where
 ord:a.Pairwise ltK
 mem:∀ x,x∈a↔x∈P∧∀ y∈P,Gp y x=true→y.root≤x.root
 top:∀ y∈P,∃ x∈a,Gp x y=true∧y.root≤x.root
