/- Lemmas. -/
import Derived.Test.YtnlhbdmeodbblaaGreatDoorMias
import Derived.Laws.IdiomCopy
import Derived.Shelf.Spec.SlicesInsert
set_option maxRecDepth 100000
set_option maxHeartbeats 16000000
set_option linter.all false
open Go.Proofs.Tryz
open Bool renaming not_false→fa,not_true→ir
open Go.Lib renaming cell_of_heap→ae,frozen_of_heap→aE,hid→aa
open List renaming drop_eq_getElem_cons→cw,getD_eq_getElem?_getD→bi,getElem?_eq_getElem→ai,getElem?_eq_some_iff→ap,getElem_mem→bD,length_append→ax,length_drop→bF,length_map→aX,length_singleton→aG,length_take→aM,mem_cons→cR,take_length→aT
open Nat renaming le_trans→bu,lt_of_lt_of_le→av,zero_add→bM,zero_le→aR
open Go.RowKit renaming Below→ac,intOf→aw
open Go.World renaming alloc_heap_new→fw,block_lt_of_cell?→am
open Go.Ending renaming returned→JT
open Go.IntKind renaming i64→JP
open Go.Obj renaming cells→JU
open Go.Value renaming int→JO,string→JQ,slice→JR,pointer→JS
open Option renaming some→JV,none→JW
namespace Go.Proofs.YtnlhbdmeodbblaaGreatDoor
open Go Go.RowKit Go.Sort Go.Lib
section
attribute [local go_sem 2000] ur
attribute [local go_sem] Ent.cells
theorem zM {x:LY} {l:List LT} {k:Nat} {y:LT} (h:l[k]? = JV y) (p:Option LT):gX x p (l.drop k)=if kX x p y ≠ 0 then kX x p y else gX x (JV y) (l.drop (k+1)):=by obtain ⟨hlt,rfl⟩:=ap.1 h;rw [cw hlt];rfl
theorem I6 {W u v:World} {b b2:Nat} {cs cs2:Array Value} {p:Addr} {z:Value} (h:ac W.heap.size W u∧(b < u.heap.size∧b2 < u.heap.size)∧(∀ j,u.cell? ⟨b,j,JW⟩=cs[j]?)∧(∀ j,u.cell? ⟨b2,j,JW⟩=cs2[j]?)∧u.cell? p=JV z) (hb:ac u.heap.size u v):ac W.heap.size W v∧(b < v.heap.size∧b2 < v.heap.size)∧(∀ j,v.cell? ⟨b,j,JW⟩=cs[j]?)∧(∀ j,v.cell? ⟨b2,j,JW⟩=cs2[j]?)∧v.cell? p=JV z:=
 ⟨ah h.1 hb,⟨av h.2.1.1 hb.size,av h.2.1.2 hb.size⟩,fun j=>(hb.cell (p:=⟨b,j,JW⟩) h.2.1.1).trans (h.2.2.1 j),fun j=>(hb.cell (p:=⟨b2,j,JW⟩) h.2.1.2).trans (h.2.2.2.1 j),(hb.cell (am u _ h.2.2.2.2)).trans h.2.2.2.2⟩
theorem KW {p q:Prop} (h:q) (f:Wq q→p:=by
 intro hq;refine Jy (S:=fun u=>ac wn.heap.size wn u∧(w7.heap.size < u.heap.size∧wr.heap.size < u.heap.size)∧(∀ j,u.cell? ⟨w7.heap.size,j,JW⟩=(#[JO JP e0,JO JP e1,JO JP e2,JO JP e3,JO JP e4,JO JP e5,JQ e6,JO JP e7,JO JP e8,JO JP e9,JO JP e10,JO JP e11,JO JP e12,JO JP e13,JQ e14]:Array Value)[j]?)∧(∀ j,u.cell? ⟨wr.heap.size,j,JW⟩=(#[JQ yk,JQ yh,JQ yb]:Array Value)[j]?)) [(0,true),(1,true),(4,true),(5,true),(2,false),(3,false),(6,true),(7,true)] hT0 ?_;have hS:=hT0
 iterate 4 refine aj ?_
 revert hS
 exact hq.1):p:=f ⟨h⟩
theorem LC {p q:Prop} (h:q) (f:Wq q→p:=by
 intro hq;refine Jy (S:=fun u=>ac W8.heap.size W8 u∧(w7.heap.size < u.heap.size∧wr.heap.size < u.heap.size)∧(∀ j,u.cell? ⟨w7.heap.size,j,JW⟩=(#[JO JP e0,JO JP e1,JO JP e2,JO JP e3,JO JP e4,JO JP e5,JQ e6,JO JP e7,JO JP e8,JO JP e9,JO JP e10,JO JP e11,JO JP e12,JO JP e13,JQ e14]:Array Value)[j]?)∧(∀ j,u.cell? ⟨wr.heap.size,j,JW⟩=(#[JQ yk,JQ yh,JQ yb]:Array Value)[j]?)) [(0,true),(2,true),(3,true),(1,false),(4,true),(5,true)] hS0 ?_;have hS:=hS0
 iterate 3 refine aj ?_
 revert hS
 exact hq.1):p:=f ⟨h⟩
theorem CV (x:LY) (pl pp:Option Addr) (cl cp:Nat) (w:World) (hl:LK fg w (JR pl x.lines.length cl) x.lines) (hz:∀ y∈x.lines,y.Fit) (hL:x.lines.length≤100000) (hpl:x.proof.length≤1000000) (hr:Wr.Ready w) :
  Calls prog 87 #[.agg #[JO JP x.school,JO JP x.student,JO JP x.first,JO JP x.last,JO JP x.root,JR pl x.lines.length cl,JR pp x.proof.length cp]] w fun e w'=>e=JT (JO JP (iU x))∧ac w.heap.size w w':=by
 have HV:=aa (show iU x=if aB x.school 1 8=false∨aB x.student 1 999999=false then 1
 else if aB x.first 0 100000=false∨aB x.last x.first 100000=false then 23
 else if aB x.root 0 199=false then 40
 else if 2000 < x.lines.length then 2
 else if gX x JW x.lines ≠ 0 then gX x JW x.lines
 else if x.proof.length < 5 then 41 else 0 from rfl)
 have HEX:=aa (fun (k:Nat) (y:LT) (h:x.lines[k]? = JV y) (p:Option LT)=>zM (x:=x) h p)
 have HNIL:=aa (fun p=>(show gX x p []=0 by cases p <;> rfl));have HLE:=aa (fun p y=>(show kX x p y=if iG x.student x.first x.last y.key.data.toList=false∨kB y.hash.data.toList=false then 4 else if pN p y=true then 7 else mP x.school y from rfl));generalize iU x=V at *;generalize hRE:gX x=RE at *;generalize hR1:kX x=R1 at *;clear hRE hR1;obtain ⟨sc,st,fi,la,ro,L,P⟩:=x;simp only at *;obtain ⟨pn,hpn⟩:∃ n,n=P.length:=⟨_,rfl⟩;have HPN:=aa hpn;rw [← hpn] at HV hpl ⊢;clear hpn;have hb0:=al w (JU #[JO JP sc,JO JP st,JO JP fi,JO JP la,JO JP ro,JR pl L.length cl,JR pp pn cp] 39);have hh:=heap_alloc_new w (JU #[JO JP sc,JO JP st,JO JP fi,JO JP la,JO JP ro,JR pl L.length cl,JR pp pn cp] 39);have KR:=aa (fun (k:ByteArray) (hk:k.size≤100000) u=>Cx sc st fi la ro pl pp L.length cl pn cp k hk u);have HR:=aa hl;have HZ:=aa hz;have HRDY:=aa hr;clear hl hz hr;go_enter func87,ntmps87;obtain ⟨t1,ht1⟩:∃ t,aB sc 1 8=t:=⟨_,rfl⟩;obtain ⟨t2,ht2⟩:∃ t,aB st 1 999999=t:=⟨_,rfl⟩;obtain ⟨t3,ht3⟩:∃ t,aB fi 0 100000=t:=⟨_,rfl⟩;obtain ⟨t4,ht4⟩:∃ t,aB la fi 100000=t:=⟨_,rfl⟩;obtain ⟨t5,ht5⟩:∃ t,aB ro 0 199=t:=⟨_,rfl⟩;have k1:=fun u=>gI sc 1 8 u
 have k2:=fun u=>gI st 1 999999 u
 have k3:=fun u=>gI fi 0 100000 u
 have k4:=fun u=>gI la fi 100000 u
 have k5:=fun u=>gI ro 0 199 u
 rw [ht1] at k1 HV;rw [ht2] at k2 HV;rw [ht3] at k3 HV;rw [ht4] at k4 HV;rw [ht5] at k5 HV;clear ht1 ht2 ht3 ht4 ht5;go_wp2_with fail;refine (k1 _).mono ?_;rintro _ _ ⟨rfl,rfl⟩
 cases t1
 ·have H1b:Hid (V=1):=aa (HV.out.trans (if_pos (.inl rfl)));clear HV;go_wp2_with fail;go_ret;exact ⟨aI H1b.out.symm,hb0⟩
 go_wp2_with fail
 refine (k2 _).mono ?_;rintro _ _ ⟨rfl,rfl⟩
 cases t2
 ·have H2b:Hid (V=1):=aa (HV.out.trans (if_pos (.inr rfl)));clear HV;go_wp2_with fail;go_ret;exact ⟨aI H2b.out.symm,hb0⟩
 have HV2:=aa (HV.out.trans (if_neg (by rintro (h | h) <;> cases h)))
 clear HV;go_wp2_with fail;refine (k3 _).mono ?_;rintro _ _ ⟨rfl,rfl⟩
 cases t3
 ·have H3b:Hid (V=23):=aa (HV2.out.trans (if_pos (.inl rfl)));clear HV2;go_wp2_with fail;go_ret;exact ⟨aI H3b.out.symm,hb0⟩
 go_wp2_with fail
 refine (k4 _).mono ?_;rintro _ _ ⟨rfl,rfl⟩
 cases t4
 ·have H4b:Hid (V=23):=aa (HV2.out.trans (if_pos (.inr rfl)));clear HV2;go_wp2_with fail;go_ret;exact ⟨aI H4b.out.symm,hb0⟩
 have HV3:=aa (HV2.out.trans (if_neg (by rintro (h | h) <;> cases h)))
 clear HV2;go_wp2_with fail;refine (k5 _).mono ?_;rintro _ _ ⟨rfl,rfl⟩
 cases t5
 ·have H5b:Hid (V=40):=aa (HV3.out.trans (if_pos rfl));clear HV3;go_wp2_with fail;go_ret;exact ⟨aI H5b.out.symm,hb0⟩
 have HV4:=aa (HV3.out.trans (if_neg (by intro h;cases h)))
 clear HV3 k1 k2 k3 k4 k5;by_cases h2:2000 < L.length
 ·have i1:(2000:Int) < (L.length:Int):=mOm;have HB:Hid (V=2):=aa (HV4.out.trans (if_pos h2));clear HV4 h2;go_wp2_with fail;go_ret;exact ⟨aI HB.out.symm,hb0⟩
 have i1:¬ (2000:Int) < (L.length:Int):=mOm
 have HV5:=aa (HV4.out.trans (if_neg h2));clear HV4;go_wp2_with fail;have HBX:=aa hh;have hxl:=ay hh;clear hh;obtain ⟨W0,hW0⟩:∃ u,u=w.alloc (JU #[JO JP sc,JO JP st,JO JP fi,JO JP la,JO JP ro,JR pl L.length cl,JR pp pn cp] 39):=⟨_,rfl⟩;rw [← hW0] at hb0 HBX hxl ⊢;clear hW0
 go_loopw [35] (fun i wr=>∃ k:Nat,k≤L.length∧i=JO JP k∧Hid (RE (L.take k).getLast? (L.drop k)=RE JW L)∧ac W0.heap.size W0 wr) (fun i _=>L.length - (aw i).toNat)
 case atStart=>exact ⟨0,aR _,rfl,aa rfl,Below.refl _ _⟩
 case round =>
  obtain ⟨k,hk,rfl,HI,hb⟩:=hrel;have hbk:=ah hb0 hb;have xb:=fun j=>(hb.cell (p:=⟨w.heap.size,j,JW⟩) hxl).trans (ae HBX.out j)
  have x0:=xb 0;have x1:=xb 1;have x2:=xb 2;have x3:=xb 3;have x4:=xb 4;have x5:=xb 5;have x6:=xb 6;have hxr:w.heap.size < wr.heap.size:=av hxl hb.size;by_cases hlt:k < L.length
  ·obtain ⟨lg,lo,rfl,hlg,hrow⟩:=dc (kk:=3) HR.out wG rfl mOm;have hge:=ai hlt;have hat:=hrow k _ hge;have HE:=aa (HEX.out k _ hge (L.take k).getLast?);have HT:=aa (nN hge);have hx:=HZ.out _ (bD hlt);have j1:(k:Int) < (L.length:Int):=mOm;have j2:(0:Int)≤(k:Int):=mOm;have HL:=aa (HLE.out (L.take k).getLast? L[k]);have q:=fun j=>hbk.cell (p:=⟨lg,j,JW⟩) hlg
   have HPRV:Hid (∀ m,m+1=k→∃ z,(L.take k).getLast? = JV z∧wr.cell? ⟨lg,lo+m*3,JW⟩=JV (JQ z.key)):=aa (fun m hm=>by
    subst hm;have hgm:=ai (show m < L.length by omega)
    exact ⟨_,nN hgm,(q _).trans (hrow m _ hgm 0 _ rfl)⟩)
   have HNON:Hid (k=0→(L.take k).getLast? = JW):=aa (fun h=>by subst h;rfl)
   generalize (L.take k).getLast? = pv at *;generalize L[k]=y at *;obtain ⟨yk,yh,yb⟩:=y;obtain ⟨z1,z2,z3⟩:=hx;simp only at z1 z2 z3 HL;have q0:wr.cell? ⟨lg,lo+k*3,JW⟩=JV (JQ yk):=(q _).trans (hat 0 _ rfl);have q1:wr.cell? ⟨lg,lo+k*3+1,JW⟩=JV (JQ yh):=(q _).trans (hat 1 _ rfl);have q2:wr.cell? ⟨lg,lo+k*3+2,JW⟩=JV (JQ yb):=(q _).trans (hat 2 _ rfl);have hba:=al wr (JU #[JQ yk,JQ yh,JQ yb] 69);have hyh:=heap_alloc_new wr (JU #[JQ yk,JQ yh,JQ yb] 69);have kr:=fun u=>KR.out yk z1 u
   have kh:=fun u=>Dt yh mOm u
   obtain ⟨bt,hbt⟩:∃ b,iG st fi la yk.data.toList=b:=⟨_,rfl⟩;obtain ⟨bh,hbh⟩:∃ b,kB yh.data.toList=b:=⟨_,rfl⟩;rw [hbt] at kr HL;rw [hbh] at kh HL
   have HBODY:=aa (show mP sc ⟨yk,yh,yb⟩=if yb.size=0 then 0 else if (el yb.data.toList).2 ≠ 0 then 4
 else if (el yb.data.toList).1.school ≠ sc∨fk (el yb.data.toList).1 ≠ yk.data.toList∨iC yb ≠ yh then 41 else 0 from rfl)
   have hok:=As (s:=yb.data.toList) (by rw [← bw];exact z3)
   have HKE:=aa (fun u=>GR (el yb.data.toList).1 hok u);have HKV:Hid ((⟨(fk (el yb.data.toList).1).toArray⟩:ByteArray)=yk↔fk (el yb.data.toList).1=yk.data.toList):=aa ⟨fun h=>by rw [← h],fun h=>by rw [h]⟩;have HDG:=aa (fun u=>mZ yb mOm u);have HXD:=aa (fun u=>Al ⟨(dg yb.data.toList).toArray⟩ (ya yb).2 u);have HDE:=aa (fun u hu=>uj yb mOm u hu);have HDV:=aa (At yb.data.toList);have HHB:Hid ((⟨(eY (⟨(dg yb.data.toList).toArray⟩:ByteArray).data.toList).toArray⟩:ByteArray)=iC yb):=aa rfl;generalize iC yb=HB at *;generalize qb yb.data.toList=DV at *;generalize mP sc ⟨yk,yh,yb⟩=EB at *;generalize (el yb.data.toList).2=DN at *;generalize (el yb.data.toList).1=DE at *;generalize (⟨(eY (⟨(dg yb.data.toList).toArray⟩:ByteArray).data.toList).toArray⟩:ByteArray)=HB2 at *;generalize (⟨(dg yb.data.toList).toArray⟩:ByteArray)=DG at *;obtain rfl:=HHB.out;generalize (⟨(fk DE).toArray⟩:ByteArray)=KV at *;generalize fk DE=KL at *;clear hok HHB;have HO1:=aa (show ∀ z,pv=JV z→pN pv ⟨yk,yh,yb⟩=leB yk z.key from fun z h=>by subst h;show (!decide _)=_;unfold leB;rw [jq]);have HO0:=aa (show pv=JW→pN pv ⟨yk,yh,yb⟩=false from fun h=>by subst h;rfl);generalize pN pv ⟨yk,yh,yb⟩=OB at *;generalize R1 pv ⟨yk,yh,yb⟩=E at *
   have HBAD:Hid (∀ n,n ≠ 0→E=n→V=n):=aa (fun n hn he=>by
    have h1:RE JW L=n:=by rw [← HI.out,HE.out,he,if_pos hn]
    rw [HV5.out,h1,if_pos hn])
   have HGOOD:Hid (E=0→RE (L.take (k+1)).getLast? (L.drop (k+1))=RE JW L):=aa (fun he=>by
    rw [← HI.out,HE.out,he,if_neg mSi,HT.out])
   clear hat hge q hrow hbt hbh xb HE HI HT
   go_wp2_with fail;refine (kr _).mono ?_;rintro _ w4 ⟨rfl,hb4⟩;have hb4r:=ah hba hb4;have hb4k:=ah hbk hb4r;clear kr
   cases bt
   ·have HN:Hid (V=4):=aa (HBAD.out 4 mDe (by rw [HL.out,if_pos (.inl rfl)]));clear HBAD HGOOD HL HV5;go_wp2_with fail;go_ret;exact ⟨aI HN.out.symm,hb4k⟩
   have hy4:=fun j=>(hb4.cell (p:=⟨wr.heap.size,j,JW⟩) (ay hyh)).trans (ae hyh j)
   have hyl4:wr.heap.size < w4.heap.size:=av (ay hyh) hb4.size;have y1:w4.cell? ⟨wr.heap.size,1,JW⟩=JV (JQ yh):=hy4 1;go_wp2_with fail;refine (kh _).mono ?_;rintro _ w5 ⟨rfl,hb5⟩;have hb5r:=ah hb4r hb5;have hb5k:=ah hbk hb5r;clear kh
   cases bh
   ·have HN:Hid (V=4):=aa (HBAD.out 4 mDe (by rw [HL.out,if_pos (.inr rfl)]));clear HBAD HGOOD HL HV5;go_wp2_with fail;go_ret;exact ⟨aI HN.out.symm,hb5k⟩
   have HL2:=aa (HL.out.trans (if_neg (by rintro (h | h) <;> cases h)))
   have HY:Hid (∀ j,w5.cell? ⟨wr.heap.size,j,JW⟩=(#[JQ yk,JQ yh,JQ yb]:Array Value)[j]?):=aa (fun j=>(hb5.cell (p:=⟨wr.heap.size,j,JW⟩) hyl4).trans (hy4 j));have HX:Hid (∀ j,w5.cell? ⟨w.heap.size,j,JW⟩=(#[JO JP sc,JO JP st,JO JP fi,JO JP la,JO JP ro,JR (JV ⟨lg,lo,JW⟩) L.length cl,JR pp pn cp]:Array Value)[j]?):=aa (fun j=>((ah hb hb5r).cell (p:=⟨w.heap.size,j,JW⟩) hxl).trans (ae HBX.out j));have hyl5:wr.heap.size < w5.heap.size:=av hyl4 hb5.size;have hxl5:w.heap.size < w5.heap.size:=av hxl (ah hb hb5r).size
   have hzl:∀ m,m+1=k→∃ z,pv=JV z∧w5.cell? ⟨lg,lo+m*3,JW⟩=JV (JQ z.key):=fun m hm=>by
    obtain ⟨z,h1,h2⟩:=HPRV.out m hm;exact ⟨z,h1,(hb5r.cell (am wr _ h2)).trans h2⟩
   have HZL:=aa hzl
   have hmeas:L.length - (k+1) < L.length - k:=mOm;have hb0r:=ah hb hb5r;clear HL x0 x1 x2 x3 x4 x5 x6 q0 q1 q2 hba hyh hb4 hb4r hy4 hyl4 y1 hb5 hb4k hzl HPRV hb5r
   go_upto_region 17 with fail
   go_cut [50] (fun v wx=>v=.bool OB∧ac w5.heap.size w5 wx)
   case first =>
    by_cases hk0:k=0
    ·subst hk0;obtain rfl:=HO0.out (HNON.out rfl);have hS0:=bT (w:=w5) ⟨Below.refl _ _,⟨hxl5,hyl5⟩,HX.out,HY.out⟩ (Below.refl _ w5).drew;go_wp2_with fail;refine Jy (S:=fun u=>ac w5.heap.size w5 u∧(w.heap.size < u.heap.size∧wr.heap.size < u.heap.size)∧(∀ j,u.cell? ⟨w.heap.size,j,JW⟩=(#[JO JP sc,JO JP st,JO JP fi,JO JP la,JO JP ro,JR (JV ⟨lg,lo,JW⟩) L.length cl,JR pp pn cp]:Array Value)[j]?)∧(∀ j,u.cell? ⟨wr.heap.size,j,JW⟩=(#[JQ yk,JQ yh,JQ yb]:Array Value)[j]?)) [(0,true),(1,true),(2,true),(3,true),(4,true),(5,true),(6,true),(7,true),(8,true),(9,true),(10,true),(11,true),(12,true),(13,true),(14,true)] hS0 ?_;have hS:=hS0
     iterate 15 (first | refine aj ?_ | refine cN ?_)
     simp only [aO,bj];have hbz:=hS.1;go_wp2_with fail
     go_meet
     case rel=>exact ⟨rfl,hbz⟩
    ·obtain ⟨m,rfl⟩:∃ m,k=m+1:=⟨k - 1,mOm⟩;obtain ⟨z,hz,hzc⟩:=HZL.out m rfl;have HOB:=aa (HO1.out z hz);obtain ⟨zk,zh,zb⟩:=z;simp only at hzc HOB;have hS0:=I6 (W:=w5) ⟨Below.refl _ _,⟨hxl5,hyl5⟩,HX.out,HY.out,hzc⟩ (Below.refl _ w5).drew;have i0:(0:Int) < ((m+1:Nat):Int):=mOm;have i3:IntKind.i64.wrap (((m+1:Nat):Int) - 1)=(m:Int):=by rw [show ((m+1:Nat):Int) - 1=(m:Int) by omega];exact eR _ _ rfl mOm
     have i3b:IntKind.i64.wrap (m:Int)=(m:Int):=eR _ _ rfl mOm;have i4:(m:Int) < (L.length:Int):=mOm;have i5:(0:Int)≤(m:Int):=mOm;have i6:m < L.length:=mOm;clear hz;go_wp2_with fail;refine Jy (S:=fun u=>ac w5.heap.size w5 u∧(w.heap.size < u.heap.size∧wr.heap.size < u.heap.size)∧(∀ j,u.cell? ⟨w.heap.size,j,JW⟩=(#[JO JP sc,JO JP st,JO JP fi,JO JP la,JO JP ro,JR (JV ⟨lg,lo,JW⟩) L.length cl,JR pp pn cp]:Array Value)[j]?)∧(∀ j,u.cell? ⟨wr.heap.size,j,JW⟩=(#[JQ yk,JQ yh,JQ yb]:Array Value)[j]?)∧u.cell? ⟨lg,lo+m*3,JW⟩=JV (JQ zk)) [(0,true),(1,true),(2,true),(3,true),(4,true),(5,true),(6,true),(7,true),(8,true),(9,true),(10,true),(11,true),(12,true),(13,true),(14,true)] hS0 ?_;have hS:=hS0
     iterate 15 refine aj ?_
     simp only [aO,bj];have hbz:=hS.1;go_wp2_with fail
     go_meet
     case rel=>exact ⟨by rw [HOB.out],hbz⟩
   case rest =>
    obtain ⟨rfl,hb6⟩:=hcut;have HY6:Hid (∀ j,wc.cell? ⟨wr.heap.size,j,JW⟩=(#[JQ yk,JQ yh,JQ yb]:Array Value)[j]?):=aa (fun j=>(hb6.cell (p:=⟨wr.heap.size,j,JW⟩) hyl5).trans (HY.out j));have x06:wc.cell? ⟨w.heap.size,0,JW⟩=JV (JO JP sc):=(hb6.cell (p:=⟨w.heap.size,0,JW⟩) hxl5).trans (HX.out 0);have hyl6:wr.heap.size < wc.heap.size:=av hyl5 hb6.size;have hxl6:w.heap.size < wc.heap.size:=av hxl5 hb6.size;have hb6k:=ah hb5k hb6;have hb60:=ah hb0r hb6;have y2:wc.cell? ⟨wr.heap.size,2,JW⟩=JV (JQ yb):=HY6.out 2;clear HO0 HO1 HZL HNON HX HY hyl5 hxl5 hb6 hb5k hb0r
    cases OB
    rotate_left 1
    ·have HN:Hid (V=7):=aa (HBAD.out 7 mDe (by rw [HL2.out,if_pos rfl]));clear HBAD HGOOD HL2 HV5;go_wp2_with fail;go_ret;exact ⟨aI HN.out.symm,hb6k⟩
    have HL3:=aa (HL2.out.trans (if_neg (by intro h;cases h)))
    clear HL2;by_cases hb0':yb.size=0
    ·obtain rfl:=iw hb0';have HG:=aa (HGOOD.out (by rw [HL3.out,HBODY.out];exact if_pos rfl));clear HGOOD HBAD HBODY HL3 hb0';go_wp2_with fail
     go_roundw
     case rel=>exact ⟨k+1,mOm,by go_num,HG,hb60⟩
     case measure=>simp [aw];omega
    obtain ⟨n1,n2⟩:=jp hb0'
    have HB2:=aa (HBODY.out.trans (if_neg hb0'));have kd:Calls prog 95 #[JQ yb] wc fun e w'=>e=JT (.tuple #[DE.val,JO JP DN])∧ac wc.heap.size wc w':=by have:=HDE.out wc (HRDY.out.below hb6k);rw [HDV.out] at this;exact this
    obtain ⟨e0,e1,e2,e3,e4,e5,e6,e7,e8,e9,e10,e11,e12,e13,e14⟩:=DE
    simp only at HB2;clear HBODY hb0' HDE HDV;go_wp2_with fail;refine kd.mono ?_;clear kd;rintro _ w7 ⟨rfl,hb7⟩;have HY7:Hid (∀ j,w7.cell? ⟨wr.heap.size,j,JW⟩=(#[JQ yk,JQ yh,JQ yb]:Array Value)[j]?):=aa (fun j=>(hb7.cell (p:=⟨wr.heap.size,j,JW⟩) hyl6).trans (HY6.out j));have x07:=(hb7.cell (p:=⟨w.heap.size,0,JW⟩) hxl6).trans x06;have hyl7:wr.heap.size < w7.heap.size:=av hyl6 hb7.size;have hxl7:w.heap.size < w7.heap.size:=av hxl6 hb7.size;have hba:=al w7 (JU #[JO JP e0,JO JP e1,JO JP e2,JO JP e3,JO JP e4,JO JP e5,JQ e6,JO JP e7,JO JP e8,JO JP e9,JO JP e10,JO JP e11,JO JP e12,JO JP e13,JQ e14] 67);have heb:=heap_alloc_new w7 (JU #[JO JP e0,JO JP e1,JO JP e2,JO JP e3,JO JP e4,JO JP e5,JQ e6,JO JP e7,JO JP e8,JO JP e9,JO JP e10,JO JP e11,JO JP e12,JO JP e13,JQ e14] 67);have hb8k:=ah (ah hb6k hb7) hba;have hb80:=ah (ah hb60 hb7) hba;have HY8:Hid (∀ j,(w7.alloc (JU #[JO JP e0,JO JP e1,JO JP e2,JO JP e3,JO JP e4,JO JP e5,JQ e6,JO JP e7,JO JP e8,JO JP e9,JO JP e10,JO JP e11,JO JP e12,JO JP e13,JQ e14] 67)).cell? ⟨wr.heap.size,j,JW⟩=(#[JQ yk,JQ yh,JQ yb]:Array Value)[j]?):=aa (fun j=>(hba.cell (p:=⟨wr.heap.size,j,JW⟩) hyl7).trans (HY7.out j));have x08:=(hba.cell (p:=⟨w.heap.size,0,JW⟩) hxl7).trans x07;have HE8:=aa (ae heb);have hel8:=ay heb;have hyl8:wr.heap.size < (w7.alloc (JU #[JO JP e0,JO JP e1,JO JP e2,JO JP e3,JO JP e4,JO JP e5,JQ e6,JO JP e7,JO JP e8,JO JP e9,JO JP e10,JO JP e11,JO JP e12,JO JP e13,JQ e14] 67)).heap.size:=av hyl7 hba.size;clear y2 HY6 x06 hyl6 hxl6 hb6k hb60 HY7 x07 hyl7 hb7 hba heb;by_cases hdn:DN=0
    rotate_left 1
    ·have t1:(DN != 0)=true:=by rw [bne_iff_ne];exact hdn
     have HN:Hid (V=4):=aa (HBAD.out 4 mDe (by rw [HL3.out,HB2.out,if_pos hdn]));clear HBAD HGOOD HL3 HB2 HV5 hdn;go_wp2_with fail;go_ret;exact ⟨aI HN.out.symm,hb8k⟩
    subst hdn
    have HB3:=aa (HB2.out.trans (if_neg mSi));clear HB2;by_cases hsc:e1=sc
    rotate_left 1
    ·have t1:(e1 != sc)=true:=by rw [bne_iff_ne];exact hsc
     have HN:Hid (V=41):=aa (HBAD.out 41 mDe (by rw [HL3.out,HB3.out,if_pos (.inl hsc)]));clear HBAD HGOOD HL3 HB3 HV5 hsc;go_wp2_with fail;go_ret;exact ⟨aI HN.out.symm,hb8k⟩
    have t1:(e1 != sc)=false:=by rw [bne_eq_false_iff_eq];exact hsc
    have HSC:=aa hsc;clear hsc;have HS0:Hid (vh (w7.alloc (JU #[JO JP e0,JO JP e1,JO JP e2,JO JP e3,JO JP e4,JO JP e5,JQ e6,JO JP e7,JO JP e8,JO JP e9,JO JP e10,JO JP e11,JO JP e12,JO JP e13,JQ e14] 67)) w7.heap.size #[JO JP e0,JO JP e1,JO JP e2,JO JP e3,JO JP e4,JO JP e5,JQ e6,JO JP e7,JO JP e8,JO JP e9,JO JP e10,JO JP e11,JO JP e12,JO JP e13,JQ e14] wr.heap.size #[JQ yk,JQ yh,JQ yb] (w7.alloc (JU #[JO JP e0,JO JP e1,JO JP e2,JO JP e3,JO JP e4,JO JP e5,JQ e6,JO JP e7,JO JP e8,JO JP e9,JO JP e10,JO JP e11,JO JP e12,JO JP e13,JQ e14] 67)).drew):=aa (bT ⟨Below.refl _ _,⟨hel8,hyl8⟩,HE8.out,HY8.out⟩ (Below.refl _ _).drew);clear HE8 HY8 hel8 hyl8;go_wp2_with fail;obtain ⟨W8,hW8⟩:∃ u,u=w7.alloc (JU #[JO JP e0,JO JP e1,JO JP e2,JO JP e3,JO JP e4,JO JP e5,JQ e6,JO JP e7,JO JP e8,JO JP e9,JO JP e10,JO JP e11,JO JP e12,JO JP e13,JQ e14] 67):=⟨_,rfl⟩;have hS0:=HS0.out;rw [← hW8] at hS0 hb8k hb80 ⊢;clear hW8 HS0 x08;by_cases hkv:KV=yk
    rotate_left 1
    ·have t2:=iZ hkv;have te:(!(KV.toList==yk.toList))=true:=by rw [t2];rfl
     have HN:Hid (V=41):=aa (HBAD.out 41 mDe (by rw [HL3.out,HB3.out,if_pos (.inr (.inl (fun h=>hkv (HKV.out.2 h))))]));clear HBAD HGOOD HL3 HB3 HV5 hkv;refine LC ?_;intro hS;refine aH 146 call146 (HKE.out _) ?_;rintro x wn ⟨rfl,hb⟩;replace hS:=bT hS hb;refine ⟨_,rfl,hS,?_⟩;(try clear hb);refine ar ?_
     iterate 2 refine aj ?_
     simp only [aO,bj]
     (try simp only [t2,te,fa,bne])
     have hbF:=ah hb8k hS.1;clear hS hS0;go_wp2_with fail;go_ret;exact ⟨aI HN.out.symm,hbF⟩
    have HKK:=aa (HKV.out.1 hkv)
    have hkv2:=hkv.symm;subst hkv2;have t2:(yk.toList==yk.toList)=true:=beq_self_eq_true _;refine LC ?_;intro hS;refine aH 146 call146 (HKE.out _) ?_;rintro x wn ⟨rfl,hb⟩;replace hS:=bT hS hb;refine ⟨_,rfl,hS,?_⟩;(try clear hb);refine ar ?_
    iterate 2 refine aj ?_
    simp only [aO,bj]
    (try simp only [t2,ir,bne])
    have hb9k:=ah hb8k hS.1;have hb90:=ah hb80 hS.1;have hT0:=bT (w:=wn) ⟨Below.refl _ _,hS.2.1,hS.2.2.1,hS.2.2.2⟩ (Below.refl _ wn).drew;clear hS hS0;go_wp2_with fail;by_cases hhb:HB2=yh
    rotate_left 1
    ·have t3:=iZ hhb;have HN:Hid (V=41):=aa (HBAD.out 41 mDe (by rw [HL3.out,HB3.out,if_pos (.inr (.inr hhb))]));have te:(!(HB2.toList==yh.toList))=true:=by rw [t3];rfl
     clear HBAD HGOOD HL3 HB3 HV5 hhb;refine KW ?_;intro hS;refine aH 148 call148 (HDG.out _) ?_;rintro x wn ⟨rfl,hb⟩;replace hS:=bT hS hb;refine ⟨_,rfl,hS,?_⟩;(try clear hb);refine ar ?_;refine aH 147 call147 (HXD.out _) ?_;rintro x wn ⟨rfl,hb⟩;replace hS:=bT hS hb;refine ⟨_,rfl,hS,?_⟩;(try clear hb);refine ar ?_
     iterate 2 refine aj ?_
     simp only [aO,bj]
     (try simp only [t3,te,fa,bne])
     have hbF:=ah hb9k hS.1;clear hS hT0;go_wp2_with fail;go_ret;exact ⟨aI HN.out.symm,hbF⟩
    have HG:=aa (HGOOD.out (by
     rw [HL3.out,HB3.out,if_neg];rintro (h | h | h)
     ·exact h HSC.out
     ·exact h HKK.out
     ·exact h hhb))
    have hhb2:=hhb.symm
    subst hhb2;have t3:(yh.toList==yh.toList)=true:=beq_self_eq_true _;clear HBAD HGOOD HL3 HB3;refine KW ?_;intro hS;refine aH 148 call148 (HDG.out _) ?_;rintro x wn ⟨rfl,hb⟩;replace hS:=bT hS hb;refine ⟨_,rfl,hS,?_⟩;(try clear hb);refine ar ?_;refine aH 147 call147 (HXD.out _) ?_;rintro x wn ⟨rfl,hb⟩;replace hS:=bT hS hb;refine ⟨_,rfl,hS,?_⟩;(try clear hb);refine ar ?_
    iterate 2 refine aj ?_
    simp only [aO,bj]
    (try simp only [t3,ir,bne])
    have hbZ:=ah hb90 hS.1;clear hS hT0;go_wp2_with fail
    go_roundw
    case rel=>exact ⟨k+1,mOm,by go_num,HG,hbZ⟩
    case measure=>simp [aw];omega
  ·obtain rfl:k=L.length:=mOm;have HZ0:Hid (RE JW L=0):=aa (by rw [← HI.out,List.drop_length,HNIL.out]);have i2:¬ (L.length:Int) < (L.length:Int):=mOm;have HV6:=aa (HV5.out.trans (if_neg (fun h=>h HZ0.out)));clear HV5 HI;by_cases h5:pn < 5
   ·have i5:(pn:Int) < 5:=mOm;have HB:Hid (V=41):=aa (HV6.out.trans (if_pos h5));clear HV6 h5;go_wp2_with fail;go_ret;exact ⟨aI HB.out.symm,hbk⟩
   ·have i5:¬ (pn:Int) < 5:=mOm;have HB:Hid (V=0):=aa (HV6.out.trans (if_neg h5));clear HV6 h5;go_wp2_with fail;go_ret;exact ⟨aI HB.out.symm,hbk⟩
end
section
structure LY.Fit (x:LY):Prop where
 root:I64 x.root
 lines:∀ y∈x.lines,y.Fit
 many:x.lines.length≤4000
 proof:∀ s∈x.proof,s.size≤100000
 long:x.proof.length≤1000000
def LY.cells (x:LY) (pl pp:Option Addr) (cl cp:Nat):Array Value:=#[JO JP x.school,JO JP x.student,JO JP x.first,JO JP x.last,JO JP x.root,JR pl x.lines.length cl,JR pp x.proof.length cp]
structure ExtIn (x:LY) (pl pp:Option Addr) (cl cp:Nat) (w:World):Prop where
 lines:LK fg w (JR pl x.lines.length cl) x.lines
 proof:LK bL w (JR pp x.proof.length cp) x.proof
theorem ExtIn.below {x:LY} {pl pp:Option Addr} {cl cp:Nat} {w w':World} (h:ExtIn x pl pp cl cp w) (hb:ac w.heap.size w w'):ExtIn x pl pp cl cp w':=⟨h.lines.below hb,h.proof.below hb⟩
theorem Cb (b:Nat) (x:LY) (hx:x.Fit) (pl pp:Option Addr) (cl cp:Nat) (w:World) (hb:w.heap[b]? = JV (JU (x.cells pl pp cl cp) 39 (0,0))) (hi:ExtIn x pl pp cl cp w) (hr:Wr.Ready w) :
  Calls prog 86 #[JS (JV ⟨b,0,JW⟩)] w fun e w'=>e=JT (JO JP (iU x))∧ac w.heap.size w w':=by
 have kc:=CV x pl pp cl cp w hi.lines hx.lines (by have:=hx.many;omega) hx.long hr;have hc:=ae hb;generalize iU x=V at *;obtain ⟨sc,st,fi,la,ro,L,P⟩:=x;simp only at kc;have x0:w.cell? ⟨b,0,JW⟩=JV (JO JP sc):=hc 0;have x1:w.cell? ⟨b,1,JW⟩=JV (JO JP st):=hc 1;have x2:w.cell? ⟨b,2,JW⟩=JV (JO JP fi):=hc 2;have x3:w.cell? ⟨b,3,JW⟩=JV (JO JP la):=hc 3;have x4:w.cell? ⟨b,4,JW⟩=JV (JO JP ro):=hc 4;have x5:w.cell? ⟨b,5,JW⟩=JV (JR pl L.length cl):=hc 5;have x6:w.cell? ⟨b,6,JW⟩=JV (JR pp P.length cp):=hc 6;have hbl:=aU hb;clear hb hi hc hx;go_enter func86,ntmps86;go_wp2_with fail;refine kc.mono ?_;rintro _ w1 ⟨rfl,hb1⟩;go_wp2_with fail;go_ret;exact ⟨rfl,hb1⟩
open Classical in
noncomputable def qk (x:LY) (at_:LL) (asof:Int):Int:=if asof < at_.day then 23 else if ¬ ik at_.tree at_.size x.student x.first x.last x.lines x.proof then 41 else 0
open Classical in
theorem Cd (ab tb b:Nat) (x:LY) (hx:x.Fit) (rt:LL) (h64:I64 rt.size) (h5:rt.size≤5000) (asof:Int) (pl pp:Option Addr) (cl cp:Nat) (w:World) (hb:w.heap[b]? = JV (JU (x.cells pl pp cl cp) 39 (0,0))) (hab:w.heap[ab]? = JV (JU rt.cells 65 (0,0))) (htb:w.heap[tb]? = JV (JU #[JO JP asof] 3 (0,0))) (hi:ExtIn x pl pp cl cp w) (hr:Wr.Ready w) :
  Calls prog 91 #[JS (JV ⟨ab,0,JW⟩),JS (JV ⟨tb,0,JW⟩),JS (JV ⟨b,0,JW⟩)] w fun e w'=>e=JT (JO JP (qk x rt asof))∧ac w.heap.size w w':=by
 have kc:=vT rt.tree rt.size x.student x.first x.last pl pp cl cp x.lines x.proof w hi.lines hx.lines hx.many hi.proof hx.proof hx.long h64 h5 hr;have hc:=ae hb;have ha:=ae hab;have HV:=aa (show qk x rt asof=if asof < rt.day then 23 else if ¬ ik rt.tree rt.size x.student x.first x.last x.lines x.proof then 41 else 0 from rfl);generalize ik rt.tree rt.size x.student x.first x.last x.lines x.proof=VT at *;generalize qk x rt asof=V at *;obtain ⟨sc,st,fi,la,ro,L,P⟩:=x;simp only at kc;have x1:w.cell? ⟨b,1,JW⟩=JV (JO JP st):=hc 1;have x2:w.cell? ⟨b,2,JW⟩=JV (JO JP fi):=hc 2;have x3:w.cell? ⟨b,3,JW⟩=JV (JO JP la):=hc 3;have x5:w.cell? ⟨b,5,JW⟩=JV (JR pl L.length cl):=hc 5;have x6:w.cell? ⟨b,6,JW⟩=JV (JR pp P.length cp):=hc 6;have r1:w.cell? ⟨ab,1,JW⟩=JV (JO JP rt.size):=ha 1;have r2:w.cell? ⟨ab,2,JW⟩=JV (JO JP rt.day):=ha 2;have r3:w.cell? ⟨ab,3,JW⟩=JV (JQ rt.tree):=ha 3;have t0:w.cell? ⟨tb,0,JW⟩=JV (JO JP asof):=ae htb 0;clear hb hi hc hx ha hab htb;go_enter func91,ntmps91;by_cases hd:asof < rt.day
 ·have HN:Hid (V=23):=aa (HV.out.trans (if_pos hd));clear HV;go_wp2_with fail;go_ret;exact ⟨aI HN.out.symm,Below.refl _ _⟩
 have HV2:=aa (HV.out.trans (if_neg hd))
 clear HV;go_wp2_with fail;refine kc.mono ?_;clear kc;rintro _ w1 ⟨t,rfl,ht,hb1⟩;have HT:=aa ht;clear ht x1 x2 x3 x5 x6 r1 r2 r3 t0
 cases t
 ·have HN:Hid (V=41):=aa (HV2.out.trans (if_pos (fun h=>by have:=HT.out.2 h;cases this)));clear HV2 HT;go_wp2_with fail;go_ret;exact ⟨aI HN.out.symm,hb1⟩
 ·have HN:Hid (V=0):=aa (HV2.out.trans (if_neg (fun h=>h (HT.out.1 rfl))));clear HV2 HT;go_wp2_with fail;go_ret;exact ⟨aI HN.out.symm,hb1⟩
theorem sq {S:Nat→Prop} {w w':World} {g:Nat} {l:List LU} (h:LV w g l) (hb:LM S w w') (hg:g < w.heap.size) (hs:¬ S g):LV w' g l:=fun k e he j v hv=>by
 rw [hb.cell hg hs];exact h k e he j v hv
def jud2 (x:LY) (roots:List LL) (r:LR):Int:=
 if r.school ≠ x.school then 22
 else if ((dQ roots x.school).length:Int)≤x.root then 40
 else cP r ((dQ roots x.school).take (x.root.toNat+1))
structure Jud2 (x:LY) (roots:List LL) (r:LR) (ob ab:Nat) (w:World) (e:Ending) (w':World):Prop where
 ret:e=JT (JO JP (jud2 x roots r))
 buts:LM (fun k=>k=ob∨k=ab) w w'
 at_:∃ rt:LL,w'.heap[ab]? = JV (JU rt.cells 65 (0,0))∧(jud2 x roots r=0→rt=dI x roots∧rt∈roots)
theorem Cc (rb b tb ob ab:Nat) (x:LY) (hx:x.Fit) (h0:0≤x.root) (roots:List LL) (hrl:roots.length≤1000000) (hok:∀ y∈roots,y.Ok) (pr:Option Addr) (cr:Nat) (r:LR) (g c:Nat) (pl pp:Option Addr) (cl cp:Nat) (w:World)
  (hb:w.heap[b]? = JV (JU (x.cells pl pp cl cp) 39 (0,0))) (hrb:w.heap[rb]? = JV (JU #[JO JP r.school,JR (JV ⟨g,0,JW⟩) r.keys.length c] 33 (0,0)))
  (htb:w.heap[tb]? = JV (JU #[JR pr roots.length cr] 35 (0,0))) (hob:w.heap[ob]? = JV (JU #[JR JW 0 0] 35 (0,0))) (hab:w.heap[ab]? = JV (JU rootZ.cells 65 (0,0)))
  (hro:LK cH w (JR pr roots.length cr) roots) (hk:LV w g r.keys) (hg:g < w.heap.size) (hl:r.keys.length≤1000) (hsz:∀ k∈r.keys,k.secret.size≤100000) (hs:I64 r.school) (_ht:Tabs w)
  (hd1:¬ (b=ob∨b=ab)) (hd2:¬ (rb=ob∨rb=ab)) (hd3:ab ≠ ob) (hd4:¬ (g=ob∨g=ab)) (_hd5:ob ≠ 0∧ab ≠ 0) (htp:∀ w',LM (fun k=>k=ob∨k=ab) w w'→Tabs w') :
  Calls prog 88 #[JS (JV ⟨rb,0,JW⟩),JS (JV ⟨b,0,JW⟩),JS (JV ⟨tb,0,JW⟩),JS (JV ⟨ob,0,JW⟩),JS (JV ⟨ab,0,JW⟩)] w (Jud2 x roots r ob ab w):=by
 have ko:=Cz x.school pr cr roots w hro hrl;have HV:=aa (show jud2 x roots r=if r.school ≠ x.school then 22 else if ((dQ roots x.school).length:Int)≤x.root then 40 else cP r ((dQ roots x.school).take (x.root.toNat+1)) from rfl);have HAT:=aa (show dI x roots=(dQ roots x.school).getD x.root.toNat rootZ from rfl);have hsub:∀ y∈dQ roots x.school,y∈roots:=fun y hy=>(List.mem_filter.1 hy).1
 have hol:(dQ roots x.school).length≤1000000:=bu (List.length_filter_le _ _) hrl;have HPOST:=aa (fun (e:Ending) (w':World) (n:Int) (hn:jud2 x roots r=n) (he:e=JT (JO JP n)) (hbu:LM (fun k=>k=ob∨k=ab) w w') (ha:∃ rt:LL,w'.heap[ab]? = JV (JU rt.cells 65 (0,0))∧(n=0→rt=dI x roots∧rt∈roots))=>(show Jud2 x roots r ob ab w e w' from ⟨by rw [hn];exact he,hbu,by rw [hn];exact ha⟩));have hc:=ae hb;have hrc:=ae hrb;have HROOT:=hx.root;generalize jud2 x roots r=V at *;generalize dI x roots=JA at *;generalize dQ roots x.school=O at *;obtain ⟨sc,st,fi,la,ro,L,P⟩:=x;simp only at ko HV HAT h0 HROOT;obtain ⟨rn,rfl⟩:∃ n:Nat,ro=n:=⟨ro.toNat,mOm⟩;rw [Int.toNat_natCast] at HV HAT;have x0:w.cell? ⟨b,0,JW⟩=JV (JO JP sc):=hc 0;have x4:w.cell? ⟨b,4,JW⟩=JV (JO JP rn):=hc 4;have r0:w.cell? ⟨rb,0,JW⟩=JV (JO JP r.school):=hrc 0;have t0:w.cell? ⟨tb,0,JW⟩=JV (JR pr roots.length cr):=ae htb 0;have hbl:=aU hb;have hrbl:=aU hrb;have hobl:=aU hob;have habl:=aU hab;have HB:=aa hb;have HRB:=aa hrb;have HTP:=aa htp;clear hb hrb htb hro hc hrc hx htp;go_enter func88,ntmps88;by_cases hsc:r.school=sc
 rotate_left 1
 ·have t1:(r.school != sc)=true:=by rw [bne_iff_ne];exact hsc
  have HN:=aa (HV.out.trans (if_pos hsc));clear HV hsc;go_wp2_with fail;go_ret;exact HPOST.out _ _ 22 HN.out rfl (LM.refl _ _) ⟨rootZ,hab,fun h=>by cases h⟩
 have HV2:=aa (HV.out.trans (if_neg (fun h=>h hsc)))
 clear HV;obtain rfl:sc=r.school:=hsc.symm;have t1:(r.school != r.school)=false:=bne_self_eq_false _;go_wp2_with fail;refine ko.mono ?_;clear ko;rintro _ w1 ⟨v,rfl,hO⟩;obtain ⟨pO,cO,rfl⟩:=hO.form;have hOl:=hO.low;have e1:=(hOl.block _ hobl).trans hob;have o0:w1.cell? ⟨ob,0,JW⟩=JV (JR JW 0 0):=ae e1 0;have of_:=aE e1 0;have x41:=(hOl.cell (p:=⟨b,4,JW⟩) hbl).trans x4;have e3:=(de (w:=w1) (g:=ab) (g':=ob) (fun e=>hd3 e.symm) 0 (JR pO O.length cO)).trans ((hOl.block _ habl).trans hab);have hbs:LM (fun k=>k=ob∨k=ab) w (w1.setCell ⟨ob,0,JW⟩ (JR pO O.length cO)):=(LM.of hOl).trans (LM.set _ (.inl rfl) 0 _);have x42:(w1.setCell ⟨ob,0,JW⟩ (JR pO O.length cO)).cell? ⟨b,4,JW⟩=JV (JO JP rn):=(hbs.cell hbl hd1 4 JW).trans x4;have e2:=bp e1 0 (JR pO O.length cO);have o2:(w1.setCell ⟨ob,0,JW⟩ (JR pO O.length cO)).cell? ⟨ob,0,JW⟩=JV (JR pO O.length cO):=ae e2 0;obtain ⟨W2,hW2⟩:∃ u,u=w1.setCell ⟨ob,0,JW⟩ (JR pO O.length cO):=⟨_,rfl⟩;by_cases hlen:O.length≤rn
 ·have i1:(O.length:Int)≤(rn:Int):=mOm;have HN:=aa (HV2.out.trans (if_pos i1));clear HV2 hlen hW2;go_wp2_with fail;go_ret;exact HPOST.out _ _ 40 HN.out rfl hbs ⟨rootZ,e3,fun h=>by cases h⟩
 have i1:¬ (O.length:Int)≤(rn:Int):=mOm
 have HV3:=aa (HV2.out.trans (if_neg i1));go_wp2_with fail;rw [← hW2] at e3 hbs x42 e2 o2 ⊢;have hne:O ≠ []:=fun e=>by rw [e] at hlen;simp at hlen
 obtain ⟨go,hgo⟩:∃ go,pO=JV ⟨go,0,JW⟩:=by obtain ⟨M,z,hMz⟩:∃ M z,O=M++[z]:=⟨O.dropLast,O.getLast hne,(List.dropLast_concat_getLast hne).symm⟩;have ho:=hO.own;rw [hMz] at ho;obtain ⟨go,co,h⟩:=iP ho;injection h with h1 h2 h3;exact ⟨go,h1⟩
 subst hgo
 obtain ⟨l1,l2,l3,l4⟩:=vG hO.own;have hgno:¬ (go=ob∨go=ab):=mOm;have hown:W2.ownsRow w.heap.size 65 7 (JR (JV ⟨go,0,JW⟩) O.length cO) O.length (br cH O):=by
  rw [hW2]
  exact bE hO.own (LM.set (S:=fun k=>k=ob∨k=ab) w1 (.inl rfl) 0 _) (fun g' hg'=>by
   obtain rfl:go=g':=by simpa [Value.ownBlock] using hg'
   exact hgno)
 have hrow:=eH df mDe hown
 obtain ⟨g7,o7,hg7,hl7,hr7⟩:=dc (kk:=7) hrow df rfl mOm;injection hg7 with hg7;injection hg7 with hg7 ho7;subst hg7 ho7;have hge:=ai (show rn < O.length by omega);have hra:=hr7 rn _ hge;have hmem:=hsub _ (bD (show rn < O.length by omega));have HJ:Hid (JA=O[rn]'mOm):=aa (by rw [HAT.out,bi,hge];rfl);generalize O[rn]'mOm=rt at *;have e4:=hbs.heap HB.out hd1;have e5:=hbs.heap HRB.out hd2;have HOWN:=aa hown;have HKS:=aa (sq hk hbs hg hd4);have hlen2:(O.take (rn+1)).length=rn+1:=by rw [aM];omega
 clear HV2 hW2 hO hOl e1 o0 of_ x41 x42 o2 hrow hr7 hne hob hab HAT x0 x4 r0 t0
 go_upto_region 6 with fail
 refine I4 b ob ab go 0 O.length cO rn rt r.school st fi la (JR pl L.length cl) (JR pp P.length cp) _ _ _ _ _ _ _ _ _ e4 e2 e3 hra hl7 hd1 hgno hd3 mOm hol l1 ?_;intro u20 u23 u24 u25 u29 wx hbu ho ha;have hbt:=hbs.trans hbu;have k5:=hbu.heap e5 hd2;have rc0:wx.cell? ⟨rb,0,JW⟩=JV (JO JP r.school):=ae k5 0;have rc1:wx.cell? ⟨rb,1,JW⟩=JV (JR (JV ⟨g,0,JW⟩) r.keys.length c):=ae k5 1;have oc0:wx.cell? ⟨ob,0,JW⟩=JV (JR (JV ⟨go,0,JW⟩) (rn+1) cO):=ae ho 0;have hrb2:rb < wx.heap.size:=aU k5
 have hrowx:=eH df mDe (bE HOWN.out hbu (fun g' hg'=>by
   obtain rfl:go=g':=by simpa [Value.ownBlock] using hg'
   exact hgno))
 have hrt:=hrowx.take (m:=rn+1) rfl mOm
 have kc:=xw g c r (JV ⟨go,0,JW⟩) cO (O.take (rn+1)) wx (by rw [hlen2];exact hrt) (fun y hy=>hok y (hsub y (List.mem_of_mem_take hy))) (by rw [hlen2];omega) (sq HKS.out hbu (av hg hbs.size) hd4) (av hg hbt.size) hl hsz hs (HTP.out _ hbt);rw [hlen2] at kc;generalize cP r (O.take (rn+1))=RC at kc HV3;clear e4 e2 e3 hra hrowx hrt k5 HKS HOWN hbs hbu;go_wp2_with fail;refine kc.mono ?_;rintro _ w5 ⟨rfl,hb5⟩;have ha5:=(hb5.block _ (aU ha)).trans ha;have hbF:=hbt.trans (LM.of hb5);clear kc rc0 rc1 oc0;go_wp2_with fail;go_ret;exact HPOST.out _ _ RC HV3.out rfl hbF ⟨rt,ha5,fun _=>⟨HJ.out.symm,hmem⟩⟩
end
section
attribute [local go_sem] LL.cells
theorem Eg (w:World) (o0 o1 o2 o3 o4 o5:Obj):let W:=(((((w.alloc o0).alloc o1).alloc o2).alloc o3).alloc o4).alloc o5
  W.heap[w.heap.size]? = JV o0∧W.heap[w.heap.size+1]? = JV o1∧W.heap[w.heap.size+1+1]? = JV o2∧W.heap[w.heap.size+1+1+1]? = JV o3∧W.heap[w.heap.size+1+1+1+1]? = JV o4∧W.heap[w.heap.size+1+1+1+1+1]? = JV o5∧ac w.heap.size w W∧W.heap.size=w.heap.size+1+1+1+1+1+1:=by
 intro W;have n0:=fw w o0;have n1:=fw (w.alloc o0) o1;have n2:=fw ((w.alloc o0).alloc o1) o2;have n3:=fw (((w.alloc o0).alloc o1).alloc o2) o3;have n4:=fw ((((w.alloc o0).alloc o1).alloc o2).alloc o3) o4;have n5:=fw (((((w.alloc o0).alloc o1).alloc o2).alloc o3).alloc o4) o5;simp only [World.size_alloc] at n0 n1 n2 n3 n4 n5;have st:∀ (v:World) (o:Obj) (k:Nat),k < v.heap.size→(v.alloc o).heap[k]? = v.heap[k]?:=fun v o k hk=>Below.heap_alloc v o k hk
 refine ⟨?_,?_,?_,?_,?_,n5,?_,by simp [W]⟩
 ·rw [st _ _ _ (by simp <;> omega),st _ _ _ (by simp <;> omega),st _ _ _ (by simp <;> omega),st _ _ _ (by simp <;> omega),st _ _ _ mSi];exact n0
 ·rw [st _ _ _ (by simp <;> omega),st _ _ _ (by simp <;> omega),st _ _ _ (by simp <;> omega),st _ _ _ mSi];exact n1
 ·rw [st _ _ _ (by simp <;> omega),st _ _ _ (by simp <;> omega),st _ _ _ mSi];exact n2
 ·rw [st _ _ _ (by simp <;> omega),st _ _ _ mSi];exact n3
 ·rw [st _ _ _ mSi];exact n4
 ·exact (((((au w o0).alloc mSi o1).alloc (by simp <;> omega) o2).alloc (by simp <;> omega) o3).alloc (by simp <;> omega) o4).alloc (by simp <;> omega) o5
theorem iY {fn:Func} {p u:Tmp} (h:fn.results=#[.cell p 65,.tmp u]) (tmps:Array Value) (w:World) (g:Nat) (x:LL) (hp:tmps.getD p undef=JS (JV ⟨g,0,JW⟩)) (hg:w.heap[g]? = JV (JU x.cells 65 (0,0))) :
  (results fn tmps).run prog w=.ok (.tuple #[x.val,tmps.getD u undef]) w:=by
 rw [results_cell_tmp h,hp];have:=run_loadVar_row (P:=prog) w g 65 65 x.cells (0,0) _ hg underlying65 rfl mKr;simp only [asAddr,Sem.run_pure,Result.andThen_ok,this];rfl
open Classical in
theorem yt (x:LY) (roots:List LL) (r:LR) (asof:Int):ec x roots r asof=if iU x ≠ 0 then iU x else if jud2 x roots r ≠ 0 then jud2 x roots r else qk x (dI x roots) asof:=by
 unfold ec jud2 qk;by_cases h1:iU x=0 <;> by_cases h2:r.school=x.school <;> by_cases h3:((dQ roots x.school).length:Int)≤x.root <;> by_cases h4:cP r ((dQ roots x.school).take (x.root.toNat+1))=0 <;> simp only [h1,h2,h3,h4,ne_eq,not_true_eq_false,not_false_eq_true,if_true,if_false] <;> rfl
theorem C7 {x:LY} (h:iU x=0):0≤x.root∧x.root≤199:=by
 unfold iU at h
 split at h;· cases h
 split at h;· cases h
 split at h;· cases h
 rename_i h3
 exact between_iff.1 (by simpa using h3)
theorem qH (r:LR):∀ (p:Option LL) (l:List LL),dW r p l=0→∀ x∈l,0≤x.size∧x.size≤2000
 | _,[],_,_,hx=>by cases hx
 | p,y::l,h,x,hx=>by
  unfold dW at h;by_cases hy:eN r p y=0
  ·rw [if_neg (fun hn=>hn hy)] at h;rcases cR.1 hx with rfl | hx
   ·unfold eN at hy
    split at hy;· cases hy
    split at hy;· cases hy
    rename_i h2
    exact between_iff.1 (by simpa using h2)
   ·exact qH r (JV y) l h x hx
  ·rw [if_pos hy] at h;exact absurd h hy
theorem Ca {x:LY} {roots:List LL} {r:LR} (h0:0≤x.root) (h:jud2 x roots r=0):0≤(dI x roots).size∧(dI x roots).size≤2000:=by
 unfold jud2 at h
 split at h;· cases h
 split at h;· cases h
 rename_i h2
 have hre:=sJ h
 refine qH r JW _ hre _ ?_;unfold dI;have hlt:x.root.toNat < (dQ roots x.school).length:=mOm;have e:(dQ roots x.school).getD x.root.toNat rootZ=(dQ roots x.school)[x.root.toNat]:=by rw [bi,ai hlt];rfl
 rw [e];exact List.mem_of_getElem? (i:=x.root.toNat) (by rw [List.getElem?_take_of_lt mOm,ai hlt])
open Classical in
noncomputable def mG (x:LY) (roots:List LL) (r:LR) (asof:Int):LL:=if ec x roots r asof=0 then dI x roots else rootZ
structure JudIn (x:LY) (pl pp:Option Addr) (cl cp:Nat) (roots:List LL) (pr:Option Addr) (cr:Nat) (r:LR) (g:Nat) (w:World):Prop where
 ext:ExtIn x pl pp cl cp w
 roots:LK cH w (JR pr roots.length cr) roots
 keys:LV w g r.keys
 at_:g < w.heap.size
 ready:Wr.Ready w
theorem JudIn.below {x:LY} {pl pp:Option Addr} {cl cp:Nat} {roots:List LL} {pr:Option Addr} {cr:Nat} {r:LR} {g:Nat} {w w':World} (h:JudIn x pl pp cl cp roots pr cr r g w) (hb:ac w.heap.size w w'):JudIn x pl pp cl cp roots pr cr r g w':=
 ⟨h.ext.below hb,h.roots.below hb,h.keys.below hb h.at_,av h.at_ hb.size,bz h.ready hb⟩
structure JudOk (x:LY) (roots:List LL) (r:LR):Prop where
 ext:x.Fit
 many:roots.length≤1000000
 roots:∀ y∈roots,y.Ok
 keys:r.keys.length≤1000
 secrets:∀ k∈r.keys,k.secret.size≤100000
 school:I64 r.school
theorem lK {p:Prop} (h:p:=by
 go_wp2_with fail;refine bodyPost_ret (iY results39 _ _ (w.heap.size+1+1+1+1) rootZ rfl HZZ.out) rfl ⟨?_,hbb⟩
 rw [HN.out,HN2.out];rfl):p:=h
theorem KX {p q:Prop} (h:q) (f:Wq q→p:=by
 intro hq;have a0:w3.cell? ⟨w.heap.size+1+1+1+1,0,JW⟩=JV (JO JP rt.school):=ae ha3 0;have af0:w3.frozen? ⟨w.heap.size+1+1+1+1,0,JW⟩=false:=aE ha3 0;have a1:w3.cell? ⟨w.heap.size+1+1+1+1,1,JW⟩=JV (JO JP rt.size):=ae ha3 1;have af1:w3.frozen? ⟨w.heap.size+1+1+1+1,1,JW⟩=false:=aE ha3 1;have a2:w3.cell? ⟨w.heap.size+1+1+1+1,2,JW⟩=JV (JO JP rt.day):=ae ha3 2;have af2:w3.frozen? ⟨w.heap.size+1+1+1+1,2,JW⟩=false:=aE ha3 2;have a3:w3.cell? ⟨w.heap.size+1+1+1+1,3,JW⟩=JV (JQ rt.tree):=ae ha3 3;have af3:w3.frozen? ⟨w.heap.size+1+1+1+1,3,JW⟩=false:=aE ha3 3;have a4:w3.cell? ⟨w.heap.size+1+1+1+1,4,JW⟩=JV (JQ rt.before):=ae ha3 4;have af4:w3.frozen? ⟨w.heap.size+1+1+1+1,4,JW⟩=false:=aE ha3 4;have a5:w3.cell? ⟨w.heap.size+1+1+1+1,5,JW⟩=JV (JO JP rt.key):=ae ha3 5;have af5:w3.frozen? ⟨w.heap.size+1+1+1+1,5,JW⟩=false:=aE ha3 5;have a6:w3.cell? ⟨w.heap.size+1+1+1+1,6,JW⟩=JV (JQ rt.mark):=ae ha3 6;have af6:w3.frozen? ⟨w.heap.size+1+1+1+1,6,JW⟩=false:=aE ha3 6
 revert a0 af0 a1 af1 a2 af2 a3 af3 a4 af4 a5 af5 a6 af6
 exact hq.1):p:=f ⟨h⟩
theorem wA (x:LY) (pl pp:Option Addr) (cl cp:Nat) (roots:List LL) (pr:Option Addr) (cr:Nat) (r:LR) (g c:Nat) (asof:Int) (w:World) (hk:JudOk x roots r) (hi:JudIn x pl pp cl cp roots pr cr r g w) :
  Calls prog 39 #[.agg (x.cells pl pp cl cp),JR pr roots.length cr,.agg #[JO JP r.school,JR (JV ⟨g,0,JW⟩) r.keys.length c],JO JP asof] w fun e w'=>e=JT (.tuple #[(mG x roots r asof).val,JO JP (ec x roots r asof)])∧ac w.heap.size w w':=by
 have six:=Eg w (JU (x.cells pl pp cl cp) 39) (JU #[JR pr roots.length cr] 35) (JU #[JO JP r.school,JR (JV ⟨g,0,JW⟩) r.keys.length c] 33) (JU #[JO JP asof] 3) (JU rootZ.cells 65) (JU #[JR JW 0 0] 35);obtain ⟨W6,hW6⟩:∃ u,u=(((((w.alloc (JU (x.cells pl pp cl cp) 39)).alloc (JU #[JR pr roots.length cr] 35)).alloc (JU #[JO JP r.school,JR (JV ⟨g,0,JW⟩) r.keys.length c] 33)).alloc (JU #[JO JP asof] 3)).alloc (JU rootZ.cells 65)).alloc (JU #[JR JW 0 0] 35):=⟨_,rfl⟩;rw [← hW6] at six;obtain ⟨h0,h1,h2,h3,h4,h5,hb6,hs6⟩:=six;obtain ⟨SO,hSO⟩:∃ o:Obj,o=JU #[.func (.func 86) #[] #[JS (JV ⟨w.heap.size,0,JW⟩)],.func (.func 88) #[] #[JS (JV ⟨w.heap.size+1+1,0,JW⟩),JS (JV ⟨w.heap.size,0,JW⟩),JS (JV ⟨w.heap.size+1,0,JW⟩),JS (JV ⟨w.heap.size+1+1+1+1+1,0,JW⟩),JS (JV ⟨w.heap.size+1+1+1+1,0,JW⟩)],.func (.func 91) #[] #[JS (JV ⟨w.heap.size+1+1+1+1,0,JW⟩),JS (JV ⟨w.heap.size+1+1+1,0,JW⟩),JS (JV ⟨w.heap.size,0,JW⟩)]] 150 (0,0):=⟨_,rfl⟩;have hbU:=ah hb6 (al W6 SO);have hst:=heap_alloc_new W6 SO;rw [hs6] at hst;have hUW:=al W6 SO;obtain ⟨U,hU⟩:∃ u,u=W6.alloc SO:=⟨_,rfl⟩;rw [← hU] at hbU hst hUW;have k0:=(hUW.block _ (aU h0)).trans h0;have k1:=(hUW.block _ (aU h1)).trans h1;have k2:=(hUW.block _ (aU h2)).trans h2;have k3:=(hUW.block _ (aU h3)).trans h3;have k4:=(hUW.block _ (aU h4)).trans h4;have k5:=(hUW.block _ (aU h5)).trans h5;have HUE:Hid ((((((((w.alloc (JU #[JO JP x.school,JO JP x.student,JO JP x.first,JO JP x.last,JO JP x.root,JR pl x.lines.length cl,JR pp x.proof.length cp] 39)).alloc (JU #[JR pr roots.length cr] 35)).alloc (JU #[JO JP r.school,JR (JV ⟨g,0,JW⟩) r.keys.length c] 33)).alloc (JU #[JO JP asof] 3)).alloc (JU #[JO JP 0,JO JP 0,JO JP 0,JQ ⟨#[]⟩,JQ ⟨#[]⟩,JO JP 0,JQ ⟨#[]⟩] 65)).alloc (JU #[JR JW 0 0] 35)).alloc (JU #[.func (.func 86) #[] #[JS (JV ⟨w.heap.size,0,JW⟩)],.func (.func 88) #[] #[JS (JV ⟨w.heap.size+1+1,0,JW⟩),JS (JV ⟨w.heap.size,0,JW⟩),JS (JV ⟨w.heap.size+1,0,JW⟩),JS (JV ⟨w.heap.size+1+1+1+1+1,0,JW⟩),JS (JV ⟨w.heap.size+1+1+1+1,0,JW⟩)],.func (.func 91) #[] #[JS (JV ⟨w.heap.size+1+1+1+1,0,JW⟩),JS (JV ⟨w.heap.size+1+1+1,0,JW⟩),JS (JV ⟨w.heap.size,0,JW⟩)]] 150))=U):=aa (by rw [hU,hW6,hSO];rfl);rw [hSO] at hst;clear hU hW6 hSO hUW hs6;have hiU:=hi.below hbU;have HI:=aa hi;have HV:=aa (yt x roots r asof)
 have HRT:Hid (∀ n rt,ec x roots r asof=n→(n=0→rt=dI x roots)→(n ≠ 0→rt=rootZ)→mG x roots r asof=rt):=aa (fun n rt hn h1 h2=>by
  unfold mG;rw [hn];by_cases h:n=0
  ·rw [if_pos h,h1 h]
  ·rw [if_neg h,h2 h])
 have HSZ:=aa (fun h0 h=>Ca (x:=x) (roots:=roots) (r:=r) h0 h)
 have HROOT:=aa (fun h=>C7 (x:=x) h);generalize ec x roots r asof=V at *;generalize mG x roots r asof=RT at *;have kc1:=Cb w.heap.size x hk.ext pl pp cl cp U k0 hiU.ext hiU.ready;clear h0 h1 h2 h3 h4 h5 hi;go_enter func39,ntmps39;unfold LY.cells;go_wp2_with fail;rw [HUE.out];clear HUE;have s0:=ae hst 0;have s1:=ae hst 1;have s2:=ae hst 2;replace s0:U.cell? ⟨w.heap.size+1+1+1+1+1+1,0,JW⟩=JV (.func (.func 86) #[] #[JS (JV ⟨w.heap.size,0,JW⟩)]):=s0;refine wp_loop_rounds 4 ?_;rw [rounds_succ];go_wp2_with fail;refine kc1.mono ?_;clear kc1;rintro _ w1 ⟨rfl,hb1⟩;have m0:=(hb1.block _ (aU k0)).trans k0;have m1:=(hb1.block _ (aU k1)).trans k1;have m2:=(hb1.block _ (aU k2)).trans k2;have m3:=(hb1.block _ (aU k3)).trans k3;have m4:=(hb1.block _ (aU k4)).trans k4;have m5:=(hb1.block _ (aU k5)).trans k5;have ms:=(hb1.block _ (aU hst)).trans hst;have hbw1:=ah hbU hb1;have hi1:=hiU.below hb1;clear k0 k1 k2 k3 k4 k5 hst s0 s1 s2 hb1 hiU;by_cases hx0:iU x=0
 rotate_left 1
 ·have t1:(iU x != 0)=true:=by rw [bne_iff_ne];exact hx0
  have hN:=HV.out.trans (if_pos hx0);have HN:=aa (HRT.out _ rootZ hN (fun h=>absurd h hx0) (fun _=>rfl));have HN2:=aa hN;clear HV HRT HSZ HROOT hN;generalize iU x=n at *;clear m0 m1 m2 m3 m5 ms;have a0:w1.cell? ⟨w.heap.size+1+1+1+1,0,JW⟩=JV (JO JP 0):=ae m4 0;have af0:w1.frozen? ⟨w.heap.size+1+1+1+1,0,JW⟩=false:=aE m4 0;have a1:w1.cell? ⟨w.heap.size+1+1+1+1,1,JW⟩=JV (JO JP 0):=ae m4 1;have af1:w1.frozen? ⟨w.heap.size+1+1+1+1,1,JW⟩=false:=aE m4 1;have a2:w1.cell? ⟨w.heap.size+1+1+1+1,2,JW⟩=JV (JO JP 0):=ae m4 2;have af2:w1.frozen? ⟨w.heap.size+1+1+1+1,2,JW⟩=false:=aE m4 2;have a3:w1.cell? ⟨w.heap.size+1+1+1+1,3,JW⟩=JV (JQ ⟨#[]⟩):=ae m4 3;have af3:w1.frozen? ⟨w.heap.size+1+1+1+1,3,JW⟩=false:=aE m4 3;have a4:w1.cell? ⟨w.heap.size+1+1+1+1,4,JW⟩=JV (JQ ⟨#[]⟩):=ae m4 4;have af4:w1.frozen? ⟨w.heap.size+1+1+1+1,4,JW⟩=false:=aE m4 4;have a5:w1.cell? ⟨w.heap.size+1+1+1+1,5,JW⟩=JV (JO JP 0):=ae m4 5;have af5:w1.frozen? ⟨w.heap.size+1+1+1+1,5,JW⟩=false:=aE m4 5;have a6:w1.cell? ⟨w.heap.size+1+1+1+1,6,JW⟩=JV (JQ ⟨#[]⟩):=ae m4 6;have af6:w1.frozen? ⟨w.heap.size+1+1+1+1,6,JW⟩=false:=aE m4 6;have hzz:=(bp (bp (bp (bp (bp (bp (bp m4 0 (JO JP 0)) 1 (JO JP 0)) 2 (JO JP 0)) 3 (JQ ⟨#[]⟩)) 4 (JQ ⟨#[]⟩)) 5 (JO JP 0)) 6 (JQ ⟨#[]⟩));have hbb:=(((((((hbw1.setCell (p:=⟨w.heap.size+1+1+1+1,0,JW⟩) (show w.heap.size≤w.heap.size+1+1+1+1 by omega) (JO JP 0)).setCell (p:=⟨w.heap.size+1+1+1+1,1,JW⟩) (show w.heap.size≤w.heap.size+1+1+1+1 by omega) (JO JP 0)).setCell (p:=⟨w.heap.size+1+1+1+1,2,JW⟩) (show w.heap.size≤w.heap.size+1+1+1+1 by omega) (JO JP 0)).setCell (p:=⟨w.heap.size+1+1+1+1,3,JW⟩) (show w.heap.size≤w.heap.size+1+1+1+1 by omega) (JQ ⟨#[]⟩)).setCell (p:=⟨w.heap.size+1+1+1+1,4,JW⟩) (show w.heap.size≤w.heap.size+1+1+1+1 by omega) (JQ ⟨#[]⟩)).setCell (p:=⟨w.heap.size+1+1+1+1,5,JW⟩) (show w.heap.size≤w.heap.size+1+1+1+1 by omega) (JO JP 0)).setCell (p:=⟨w.heap.size+1+1+1+1,6,JW⟩) (show w.heap.size≤w.heap.size+1+1+1+1 by omega) (JQ ⟨#[]⟩));have HZZ:=aa hzz;clear hzz m4;exact lK
 have t1:(iU x != 0)=false:=by rw [bne_eq_false_iff_eq];exact hx0
 have HV2:=aa (HV.out.trans (if_neg (fun h=>h hx0)));have hro:=HROOT.out hx0;clear HV HROOT;rw [hx0];clear hx0 t1;have s1:w1.cell? ⟨w.heap.size+1+1+1+1+1+1,1,JW⟩=JV (.func (.func 88) #[] #[JS (JV ⟨w.heap.size+1+1,0,JW⟩),JS (JV ⟨w.heap.size,0,JW⟩),JS (JV ⟨w.heap.size+1,0,JW⟩),JS (JV ⟨w.heap.size+1+1+1+1+1,0,JW⟩),JS (JV ⟨w.heap.size+1+1+1+1,0,JW⟩)]):=ae ms 1;have kc2:=Cc (w.heap.size+1+1) w.heap.size (w.heap.size+1) (w.heap.size+1+1+1+1+1) (w.heap.size+1+1+1+1) x hk.ext hro.1 roots hk.many hk.roots pr cr r g c pl pp cl cp w1 m0 m2 m1 m5 m4 hi1.roots hi1.keys hi1.at_ hk.keys hk.secrets hk.school hi1.ready.sane.1 mOm mOm mOm (by have:=HI.out.at_;omega) mOm (fun w' hb=>HI.out.ready.sane.1.below (hbw1.trans (hb.below (B:=w.heap.size) (fun k hkk e=>by omega) hbw1.size)));go_wp2_with fail;rw [rounds_succ];go_wp2_with fail;refine kc2.mono ?_;clear kc2;rintro _ w2 ⟨rfl,hbu,rt,ha2,hrt⟩;have hbw2:=hbw1.trans (hbu.below (B:=w.heap.size) (fun k hkk e=>by omega) hbw1.size);have q0:=hbu.heap m0 mOm;have q3:=hbu.heap m3 mOm;have qs:=hbu.heap ms mOm;clear m0 m1 m2 m3 m4 m5 ms s1 hbu hi1 hbw1;by_cases hj:jud2 x roots r=0
 rotate_left 1
 ·have t1:(jud2 x roots r != 0)=true:=by rw [bne_iff_ne];exact hj
  have hN:=HV2.out.trans (if_pos hj);have HN:=aa (HRT.out _ rootZ hN (fun h=>absurd h hj) (fun _=>rfl));have HN2:=aa hN;clear HV2 HRT HSZ hN hrt;generalize jud2 x roots r=n at *;clear q0 q3 qs;have a0:w2.cell? ⟨w.heap.size+1+1+1+1,0,JW⟩=JV (JO JP rt.school):=ae ha2 0;have af0:w2.frozen? ⟨w.heap.size+1+1+1+1,0,JW⟩=false:=aE ha2 0;have a1:w2.cell? ⟨w.heap.size+1+1+1+1,1,JW⟩=JV (JO JP rt.size):=ae ha2 1;have af1:w2.frozen? ⟨w.heap.size+1+1+1+1,1,JW⟩=false:=aE ha2 1;have a2:w2.cell? ⟨w.heap.size+1+1+1+1,2,JW⟩=JV (JO JP rt.day):=ae ha2 2;have af2:w2.frozen? ⟨w.heap.size+1+1+1+1,2,JW⟩=false:=aE ha2 2;have a3:w2.cell? ⟨w.heap.size+1+1+1+1,3,JW⟩=JV (JQ rt.tree):=ae ha2 3;have af3:w2.frozen? ⟨w.heap.size+1+1+1+1,3,JW⟩=false:=aE ha2 3;have a4:w2.cell? ⟨w.heap.size+1+1+1+1,4,JW⟩=JV (JQ rt.before):=ae ha2 4;have af4:w2.frozen? ⟨w.heap.size+1+1+1+1,4,JW⟩=false:=aE ha2 4;have a5:w2.cell? ⟨w.heap.size+1+1+1+1,5,JW⟩=JV (JO JP rt.key):=ae ha2 5;have af5:w2.frozen? ⟨w.heap.size+1+1+1+1,5,JW⟩=false:=aE ha2 5;have a6:w2.cell? ⟨w.heap.size+1+1+1+1,6,JW⟩=JV (JQ rt.mark):=ae ha2 6;have af6:w2.frozen? ⟨w.heap.size+1+1+1+1,6,JW⟩=false:=aE ha2 6;have hzz:=(bp (bp (bp (bp (bp (bp (bp ha2 0 (JO JP 0)) 1 (JO JP 0)) 2 (JO JP 0)) 3 (JQ ⟨#[]⟩)) 4 (JQ ⟨#[]⟩)) 5 (JO JP 0)) 6 (JQ ⟨#[]⟩));have hbb:=(((((((hbw2.setCell (p:=⟨w.heap.size+1+1+1+1,0,JW⟩) (show w.heap.size≤w.heap.size+1+1+1+1 by omega) (JO JP 0)).setCell (p:=⟨w.heap.size+1+1+1+1,1,JW⟩) (show w.heap.size≤w.heap.size+1+1+1+1 by omega) (JO JP 0)).setCell (p:=⟨w.heap.size+1+1+1+1,2,JW⟩) (show w.heap.size≤w.heap.size+1+1+1+1 by omega) (JO JP 0)).setCell (p:=⟨w.heap.size+1+1+1+1,3,JW⟩) (show w.heap.size≤w.heap.size+1+1+1+1 by omega) (JQ ⟨#[]⟩)).setCell (p:=⟨w.heap.size+1+1+1+1,4,JW⟩) (show w.heap.size≤w.heap.size+1+1+1+1 by omega) (JQ ⟨#[]⟩)).setCell (p:=⟨w.heap.size+1+1+1+1,5,JW⟩) (show w.heap.size≤w.heap.size+1+1+1+1 by omega) (JO JP 0)).setCell (p:=⟨w.heap.size+1+1+1+1,6,JW⟩) (show w.heap.size≤w.heap.size+1+1+1+1 by omega) (JQ ⟨#[]⟩));have HZZ:=aa hzz;clear hzz ha2;exact lK
 have t1:(jud2 x roots r != 0)=false:=by rw [bne_eq_false_iff_eq];exact hj
 have HV3:=aa (HV2.out.trans (if_neg (fun h=>h hj)));have hsz:=HSZ.out hro.1 hj;obtain ⟨hra,hmem⟩:=hrt hj;rw [← hra] at hsz HV3;have HRA:=aa hra;clear HV2 HSZ hra hrt;rw [hj];clear hj t1;have s2:w2.cell? ⟨w.heap.size+1+1+1+1+1+1,2,JW⟩=JV (.func (.func 91) #[] #[JS (JV ⟨w.heap.size+1+1+1+1,0,JW⟩),JS (JV ⟨w.heap.size+1+1+1,0,JW⟩),JS (JV ⟨w.heap.size,0,JW⟩)]):=ae qs 2;have kc3:=Cd (w.heap.size+1+1+1+1) (w.heap.size+1+1+1) w.heap.size x hk.ext rt (hk.roots rt hmem).size mOm asof pl pp cl cp w2 q0 ha2 q3 (HI.out.ext.below hbw2) (bz HI.out.ready hbw2);go_wp2_with fail;rw [rounds_succ];go_wp2_with fail;refine kc3.mono ?_;clear kc3;rintro _ w3 ⟨rfl,hb3⟩;have hbw3:=ah hbw2 hb3;have ha3:=(hb3.block _ (aU ha2)).trans ha2;clear q0 q3 qs s2 hb3 hbw2 ha2;by_cases hj:qk x rt asof=0
 rotate_left 1
 ·have t1:(qk x rt asof != 0)=true:=by rw [bne_iff_ne];exact hj
  have HN:=aa (HRT.out _ rootZ HV3.out (fun h=>absurd h hj) (fun _=>rfl));have HN2:=HV3;clear HRT HV3;generalize qk x rt asof=n at *;refine KX ?_;intro a0 af0 a1 af1 a2 af2 a3 af3 a4 af4 a5 af5 a6 af6;have hzz:=(bp (bp (bp (bp (bp (bp (bp ha3 0 (JO JP 0)) 1 (JO JP 0)) 2 (JO JP 0)) 3 (JQ ⟨#[]⟩)) 4 (JQ ⟨#[]⟩)) 5 (JO JP 0)) 6 (JQ ⟨#[]⟩));have hbb:=(((((((hbw3.setCell (p:=⟨w.heap.size+1+1+1+1,0,JW⟩) (show w.heap.size≤w.heap.size+1+1+1+1 by omega) (JO JP 0)).setCell (p:=⟨w.heap.size+1+1+1+1,1,JW⟩) (show w.heap.size≤w.heap.size+1+1+1+1 by omega) (JO JP 0)).setCell (p:=⟨w.heap.size+1+1+1+1,2,JW⟩) (show w.heap.size≤w.heap.size+1+1+1+1 by omega) (JO JP 0)).setCell (p:=⟨w.heap.size+1+1+1+1,3,JW⟩) (show w.heap.size≤w.heap.size+1+1+1+1 by omega) (JQ ⟨#[]⟩)).setCell (p:=⟨w.heap.size+1+1+1+1,4,JW⟩) (show w.heap.size≤w.heap.size+1+1+1+1 by omega) (JQ ⟨#[]⟩)).setCell (p:=⟨w.heap.size+1+1+1+1,5,JW⟩) (show w.heap.size≤w.heap.size+1+1+1+1 by omega) (JO JP 0)).setCell (p:=⟨w.heap.size+1+1+1+1,6,JW⟩) (show w.heap.size≤w.heap.size+1+1+1+1 by omega) (JQ ⟨#[]⟩));have HZZ:=aa hzz;clear hzz ha3;exact lK
 have t1:(qk x rt asof != 0)=false:=by rw [bne_eq_false_iff_eq];exact hj
 have HN2:=aa (HV3.out.trans hj);have HN:=aa (HRT.out 0 rt HN2.out (fun _=>HRA.out) (fun h=>absurd rfl h));clear HRT HV3;rw [hj];clear hj t1;go_wp2_with fail;rw [rounds_succ];refine KX ?_;intro a0 af0 a1 af1 a2 af2 a3 af3 a4 af4 a5 af5 a6 af6;have hzz:=(bp (bp (bp (bp (bp (bp (bp ha3 0 (JO JP rt.school)) 1 (JO JP rt.size)) 2 (JO JP rt.day)) 3 (JQ rt.tree)) 4 (JQ rt.before)) 5 (JO JP rt.key)) 6 (JQ rt.mark));have hbb:=(((((((hbw3.setCell (p:=⟨w.heap.size+1+1+1+1,0,JW⟩) (show w.heap.size≤w.heap.size+1+1+1+1 by omega) (JO JP rt.school)).setCell (p:=⟨w.heap.size+1+1+1+1,1,JW⟩) (show w.heap.size≤w.heap.size+1+1+1+1 by omega) (JO JP rt.size)).setCell (p:=⟨w.heap.size+1+1+1+1,2,JW⟩) (show w.heap.size≤w.heap.size+1+1+1+1 by omega) (JO JP rt.day)).setCell (p:=⟨w.heap.size+1+1+1+1,3,JW⟩) (show w.heap.size≤w.heap.size+1+1+1+1 by omega) (JQ rt.tree)).setCell (p:=⟨w.heap.size+1+1+1+1,4,JW⟩) (show w.heap.size≤w.heap.size+1+1+1+1 by omega) (JQ rt.before)).setCell (p:=⟨w.heap.size+1+1+1+1,5,JW⟩) (show w.heap.size≤w.heap.size+1+1+1+1 by omega) (JO JP rt.key)).setCell (p:=⟨w.heap.size+1+1+1+1,6,JW⟩) (show w.heap.size≤w.heap.size+1+1+1+1 by omega) (JQ rt.mark));have HZZ:=aa hzz;clear hzz ha3;go_wp2_with fail;refine bodyPost_ret (iY results39 _ _ (w.heap.size+1+1+1+1) rt rfl HZZ.out) rfl ⟨?_,hbb⟩;rw [HN.out,HN2.out];rfl
end
section
theorem If (t:TypeId) (a b:ByteArray):binOp .gtr t (JQ a) (JQ b)=pure (.bool (Op.bytesLess b.toList a.toList)):=by rw [binOp_string_gtr,pU,Bool.not_not]
attribute [local go_sem 2000] If
theorem sL {M:List ByteArray} {x:ByteArray} {at_:Nat} (hat:at_≤M.length) (h:∀ y∈M.drop at_,bU x y < 0) (h0:∀ y,0 < at_→M[at_ - 1]? = JV y→¬ bU x y < 0):M.take at_++x::M.drop at_=gE M x:=by have:=Fm hat h h0;unfold gE;rw [this]
theorem yn (L:List ByteArray):br bL L=L.map Value.string:=by
 induction L with
 | nil=>rfl
 | cons a L ih=>show bL a++br bL L=_;rw [ih];rfl
theorem Bi (M:List ByteArray) (z x:ByteArray) (a:Nat) (ha:a≤M.length):k8 (k8 (br bL (M++[z])) (a+1) ((M.drop a).map Value.string)) a [JQ x]=br bL (M.take a++x::M.drop a):=by
 rw [yn,yn,mN _ _ (a+1) (by simp;omega)];have hlen:(((M++[z]).map Value.string).take (a+1)++(M.drop a).map Value.string++((M++[z]).map Value.string).drop (a+1+((M.drop a).map Value.string).length)).length=M.length+1:=by simp only [ax,aM,bF,aX,aG];omega
 rw [mN _ _ a (by rw [hlen];simp only [aG];omega)]
 have e1:((M++[z]).map Value.string).drop (a+1+((M.drop a).map Value.string).length)=[]:=by apply List.drop_eq_nil_of_le;simp only [aX,ax,bF,aG];omega
 rw [e1,List.append_nil]
 have e2:(((M++[z]).map Value.string).take (a+1)++(M.drop a).map Value.string).take a=(M.take a).map Value.string:=by rw [List.take_append_of_le_length (by simp only [aM,aX,ax,aG];omega),List.take_take,Nat.min_eq_left mOm,← List.map_take,List.take_append_of_le_length ha]
 have e3:(((M++[z]).map Value.string).take (a+1)++(M.drop a).map Value.string).drop (a+[Value.string x].length)=(M.drop a).map Value.string:=by
  have:(((M++[z]).map Value.string).take (a+1)).length=a+1:=by simp only [aM,aX,ax,aG];omega
  exact List.drop_left' this
 rw [e2,e3,List.map_append,List.map_cons]
 simp
theorem Q6 {p q:Prop} (h:q) (f:Wq q→p:=by
 intro hq;refine Jy (S:=fun u=>ac w.heap.size w u) [(0,true),(1,true),(2,true),(3,true),(4,true),(5,true),(6,true),(7,false)] hS0 ?_;have hS:=hS0
 iterate 7 refine aj ?_
 revert hS
 exact hq.1):p:=f ⟨h⟩
theorem Ra {p q:Prop} (h:q) (f:Wq q→p:=by
 intro hq;refine iV ⟨_,_,_,_,_,_⟩ rfl mRf (wp_copy_runI _ (.tmp 36) (.tmp 39) _ _ mRf _ _ mRf mRf (hrun0 _ _ _ _ _) ?_);refine ⟨hS,?_⟩;refine ar ?_;simp only [aO,bj]
 exact hq.1):p:=f ⟨h⟩
theorem JH {p:Prop} (h:p:=by
 have hlit:LK bL ((wr.alloc (JU #[JQ ⟨#[]⟩] 9)).drew) (JR (JV ⟨wr.heap.size,0,JW⟩) 1 1) [⟨#[]⟩]:=cF (w:=((wr.alloc (JU #[JQ ⟨#[]⟩] 9)).drew)) (heap_alloc_new wr (JU #[JQ ⟨#[]⟩] 9)) _ rfl rfl;have hown:=hP.own;have hsz:=hP.low.size;have HP:=aa hP;clear hP;go_wp2_with (at_builtin;refine bB jY rfl (.tmp 30) (.tmp 31) rfl w.heap.size _ _ M [⟨#[]⟩] rfl rfl hown hlit (by have:=HM.out;simp only [aG];omega) hsz ?_;intro v9 w10 hA9;have H9:=aa (HP.out.app hA9);obtain ⟨g9,c9,hv9⟩:=iP H9.out.own;subst hv9;clear hA9 hown hsz hlit);have hown9:=H9.out.own;have hlow9:=H9.out.low;obtain ⟨q1,q2,q3,q4⟩:=vG hown9;rw [ax,HM.out,aG] at q1;have hr9:=H9.out.row eW mDe;obtain ⟨g',o',hg',hl9,hc9⟩:=eO hr9 rfl (by rw [ax,HM.out,aG];omega);injection hg' with hg';injection hg' with hg1 hg2;subst hg1 hg2;have HC9:=aa hc9;have hxF:=hlow9.cell (p:=⟨lg,lo+k,JW⟩) hlg |>.trans hxc
 clear hc9 hr9;rw [ax,HM.out,aG] at hown9;have hth:w10.there g9 0 (k+1):=nM hown9 0 (k+1) mOm;have a1:IntKind.i64.wrap ((at_:Int)+1)=(at_:Int)+1:=IntWalk.i64_in _ mOm;have b1:(0:Int)≤(at_:Int):=mOm;have b2:(at_:Int)≤(k:Int)+1:=mOm;have b3:(at_:Int)+1≤(k:Int)+1:=mOm;have b4:(0:Int)≤(at_:Int)+1:=mOm;have b5:((at_:Int)+1).toNat=at_+1:=mOm;have b6:¬ c9=at_:=mOm;have b10:(at_:Int) < (k:Int)+1:=mOm;obtain ⟨us,hus⟩:∃ us,us=(M.drop at_).map Value.string:=⟨_,rfl⟩;have hul:us.length=k - at_:=by rw [hus,aX,bF,HM.out]
 have hue:∀ j v,us[j]? = JV v→∃ y,M[at_+j]? = JV y∧v=JQ y:=fun j v h=>by
  rw [hus,List.getElem?_map,List.getElem?_drop] at h
  cases hm:M[at_+j]? with
  | none=>rw [hm] at h;cases h
  | some y=>rw [hm] at h;exact ⟨y,rfl,(Option.some.inj h).symm⟩
 have hu1:∀ v∈us,v.oneCell'=true:=fun v hv=>by
  rw [hus] at hv;obtain ⟨y,-,rfl⟩:=List.mem_map.1 hv;rfl
 have hrow2:=lA us w10.drew _ (at_+1) hown9
 have hgr:=LM.grown hrow2.2;have hrow3:=lA [JQ x] (w10.drew.setCells g9 (at_+1) us) _ at_ hrow2.1;have hgr3:=LM.grown hrow3.2;have hth3:(w10.drew.setCells g9 (at_+1) us).there g9 0 (k+1):=nM hrow2.1 0 (k+1) mOm;have hat3:=hth3 at_ mOm;rw [bM] at hat3;obtain ⟨old,hold⟩:=Option.isSome_iff_exists.1 hat3.1;have hfz:=hat3.2;have hlg9:lg ≠ g9:=mOm;have hx3:(w10.drew.setCells g9 (at_+1) us).cell? ⟨lg,lo+k,JW⟩=JV (JQ x):=(World.cell?_setCells_out g9 _ _ _ _ (fun e _=>absurd e hlg9)).trans hxF;have hfin:LQ bL 1 9 w ((w10.drew.setCells g9 (at_+1) us).setCell ⟨g9,at_,JW⟩ (JQ x)) (JR (JV ⟨g9,0,JW⟩) (k+1) c9) (gE M x):=by
  have h:=hrow3.1;rw [hus,Bi M ⟨#[]⟩ x at_ (by have:=HM.out;omega),HIN.out] at h;have hl:(gE M x).length=k+1:=by rw [qj,HM.out]
  rw [← hus] at h;rw [← hl] at h ⊢;exact LQ.of h ((hlow9.drew.trans (hgr.below (B:=w.heap.size) (fun q hq e=>by have:=Option.some.inj e;omega) hlow9.size)).trans (hgr3.below (B:=w.heap.size) (fun q hq e=>by have:=Option.some.inj e;omega) (by have:=hgr.size;have:=hlow9.size;exact bu hlow9.size hgr.size)))
 have HFIN:=aa hfin
 have hrun:(Builtin.copy_ #[37,37] 3 #[JR (JV ⟨g9,at_+1,JW⟩) (k - at_) (c9 - (at_+1)),JR (JV ⟨g9,at_,JW⟩) (k+1 - at_) (c9 - at_)]).run prog w10.drew=.ok (goInt us.length) (w10.drew.setCells g9 (at_+1) us):=
  run_copy_cells w10.drew _ _ _ 9 g9 (at_+1) (k - at_) _ ⟨g9,at_,JW⟩ (k+1 - at_) _ us underlying37 mKr (by rw [hul];exact (Nat.min_eq_right mOm).symm)
   (fun j v h=>by
    obtain ⟨y,hy,rfl⟩:=hue j v h;rw [Addr.add_mid];have:=HC9.out (at_+j) y (by rw [List.getElem?_append_left (ap.1 hy).1];exact hy);rw [bM] at this
    exact this)
   (fun j hj=>by have:=hth (at_+1+j) mOm;rw [bM] at this;exact this.1)
   (fun j hj=>by have:=hth (at_+1+j) mOm;rw [bM] at this;exact this.2) hu1
 have hS0:ac w.heap.size w w10.drew:=hlow9.drew
 have hsF:ac w.heap.size w (w10.drew.setCells g9 (at_+1) us):=hlow9.drew.trans (hgr.below (B:=w.heap.size) (fun q hq e=>by have:=Option.some.inj e;omega) hlow9.size);clear hrow2 hrow3 hgr hgr3 hth hth3 hat3 hfin hue hu1 hown9 hlow9 hxF;by_cases hkk:at_=k
 ·obtain rfl:us=[]:=List.eq_nil_of_length_eq_zero mOm;obtain rfl:=hkk;have hrun0:∀ (d a:Option Addr) (dCap sLen sCap:Nat),(Builtin.copy_ #[37,37] 3 #[JR d 0 dCap,JR a sLen sCap]).run prog w10.drew=.ok (goInt 0) w10.drew:=fun d a dCap sLen sCap=>run_copy_none w10.drew _ _ _ 9 d a 0 dCap sLen sCap underlying37 mKr (Nat.min_zero _)
  replace hold:w10.drew.cell? ⟨g9,at_,JW⟩=JV old:=hold;replace hfz:w10.drew.frozen? ⟨g9,at_,JW⟩=false:=hfz;replace hx3:w10.drew.cell? ⟨lg,lo+at_,JW⟩=JV (JQ x):=hx3;have HFIN:Hid (LQ bL 1 9 w (w10.drew.setCell ⟨g9,at_,JW⟩ (JQ x)) (JR (JV ⟨g9,0,JW⟩) (at_+1) c9) (gE M x)):=HFIN;clear hrun hul hus hsF;by_cases d1:c9=at_+1
  ·have d9:c9 - (at_+1)=0:=mOm;refine Q6 ?_;intro hS;refine Ra ?_;go_wp2_with fail
   go_roundw
   case rel=>exact ⟨at_+1,mOm,by go_num,by rw [HT.out];exact HFIN.out,by rw [HT.out,qj,HM.out]⟩
   case measure=>simp [aw];omega
  ·have d9:¬ c9 - (at_+1)=0:=mOm;refine Q6 ?_;intro hS;refine Ra ?_;go_wp2_with fail
   go_roundw
   case rel=>exact ⟨at_+1,mOm,by go_num,by rw [HT.out];exact HFIN.out,by rw [HT.out,qj,HM.out]⟩
   case measure=>simp [aw];omega
 ·have d1:¬ c9=at_+1:=mOm;clear hkk hul hus;refine Q6 ?_;intro hS;refine iV ⟨_,_,_,_,_,_⟩ rfl mRf (wp_copy_runI _ (.tmp 36) (.tmp 39) _ _ mRf _ _ mRf mRf hrun ?_);refine ⟨hsF,?_⟩;refine ar ?_;simp only [aO,bj];go_wp2_with fail
  go_roundw
  case rel=>exact ⟨k+1,mOm,by go_num,by rw [HT.out];exact HFIN.out,by rw [HT.out,qj,HM.out]⟩
  case measure=>simp [aw];omega):p:=h
theorem Rb {p q:Prop} (h:q) (f:Wq q→p:=by
 intro hq;refine Jy (S:=fun u=>ac wr.heap.size wr u∧u.cell? ⟨mg,mo+m,JW⟩=JV (JQ y)∧u.cell? ⟨lg,lo+k,JW⟩=JV (JQ x)) [(0,true),(1,true),(2,true),(3,true),(4,true),(5,true),(6,true),(7,true),(8,true),(9,true),(10,true),(11,true),(12,true),(13,true)] hS0 ?_;have hS:=hS0
 iterate 14 refine aj ?_
 simp only [aO,bj]
 revert hS
 exact hq.1):p:=f ⟨h⟩
theorem pw (l:List ByteArray) (p:Option Addr) (c:Nat) (w:World) (h:LK bL w (JR p l.length c) l) (hl:l.length≤100000) :
  Calls prog 135 #[JR p l.length c] w fun e w'=>∃ v,e=JT v∧LQ bL 1 9 w w' v (jm l):=by
 have HL:=aa h;clear h;go_enter func135,ntmps135;go_wp2_with fail
 go_loopw [3,4] (fun v i wr=>∃ k:Nat,k≤l.length∧i=JO JP k∧LQ bL 1 9 w wr v ((l.take k).foldl gE [])∧((l.take k).foldl gE []).length=k) (fun _ i _=>l.length - (aw i).toNat)
 case atStart=>exact ⟨0,aR _,rfl,LQ.nil _ _ _ _,rfl⟩
 case round =>
  obtain ⟨k,hk,rfl,hO,hMl⟩:=hrel;obtain ⟨pv,cv,hv⟩:=hO.form;subst hv;by_cases hlt:k < l.length
  rotate_left 1
  ·obtain rfl:k=l.length:=mOm;have i1:¬ (l.length:Int) < (l.length:Int):=mOm;rw [aT] at hO;have HO:Hid (LQ bL 1 9 w wr (JR pv (l.foldl gE []).length cv) (jm l)):=aa hO;rw [aT];clear hO;go_wp2_with fail;go_ret;exact ⟨_,rfl,HO.out⟩
  obtain ⟨lg,lo,rfl,hlg,hlc⟩:=eO HL.out rfl mOm
  have hge:=ai hlt;have hxc:=hlc k _ hge;have j1:(k:Int) < (l.length:Int):=mOm;have j2:(0:Int)≤(k:Int):=mOm
  have HT:Hid ((l.take (k+1)).foldl gE []=gE ((l.take k).foldl gE []) l[k]):=aa (by
   rw [List.take_add_one,hge,Option.toList_some,List.foldl_append];rfl)
  generalize l[k]=x at *
  generalize (l.take k).foldl gE []=M at *;rw [hMl];have hk5:k≤100000:=mOm;have HO:=aa hO;have HM:=aa hMl;have hlow:=hO.low;clear hO hge hlc;obtain ⟨w2,hw2⟩:∃ u,u=wr:=⟨_,rfl⟩;subst hw2;go_wp2_with fail
  go_loopw [5] (fun a wr=>∃ at_:Nat,at_≤k∧a=JO JP at_∧Hid (∀ y∈M.drop at_,bU x y < 0)∧ac w2.heap.size w2 wr) (fun a _=>(aw a).toNat)
  case atStart=>exact ⟨k,Nat.le_refl _,rfl,aa (fun y hy=>by rw [List.drop_of_length_le (by have:=HM.out;omega)] at hy;cases hy),Below.refl _ _⟩
  case round =>
   obtain ⟨at_,hak,rfl,HA,hbi⟩:=hrel;by_cases hz:at_=0
   ·have HIN:Hid (M.take at_++x::M.drop at_=gE M x):=aa (sL (by have:=HM.out;omega) HA.out (fun y h0=>by omega));have i0:decide (0 < at_)=false:=decide_eq_false mOm;have hS0:ac wr.heap.size wr wr.drew:=(Below.refl _ wr).drew;clear hz;go_wp2_with fail;refine Jy (S:=fun u=>ac wr.heap.size wr u) [(0,true),(1,true),(2,true),(3,true),(4,true),(5,true),(6,true),(7,true),(8,true),(9,true),(10,true),(11,true),(12,true),(13,true)] hS0 ?_;have hS:=hS0
    iterate 14 (first | refine aj ?_ | refine cN ?_)
    simp only [aO,bj];clear hS hS0;have hbA:=ah hbi (al wr (JU #[JQ ⟨#[]⟩] 9)).drew;have hP:LQ bL 1 9 w ((wr.alloc (JU #[JQ ⟨#[]⟩] 9)).drew) (JR pv k cv) M:=by
     have h:=HO.out.next hbA
     rwa [show Value.slice pv M.length cv=Value.slice pv k cv by rw [HM.out]] at h
    exact JH
   ·obtain ⟨m,hm⟩:∃ m,at_=m+1:=⟨at_ - 1,mOm⟩;have hrow:=(HO.out.next hbi).row eW mDe;obtain ⟨mg,mo,hpv,hmg,hmc⟩:=eO hrow rfl (by have:=HM.out;omega);subst hpv;have hgm:=ai (show m < M.length by have:=HM.out;omega);have hyc:=hmc m _ hgm;have HY:Hid (M.drop m=M[m]'(by have:=HM.out;omega)::M.drop (m+1)):=aa (cw _);have HGM:=aa hgm;generalize M[m]'(by have:=HM.out;omega)=y at *;have hxi:=((ah hlow hbi).cell (p:=⟨lg,lo+k,JW⟩) hlg).trans hxc;have i0:decide (0 < at_)=true:=decide_eq_true mOm;have i3:IntKind.i64.wrap ((at_:Int) - 1)=(m:Int):=by rw [show (at_:Int) - 1=(m:Int) by omega];exact eR _ _ rfl mOm
    have i4:(m:Int) < (k:Int):=mOm;have i5:(0:Int)≤(m:Int):=mOm;have hS0:ac wr.heap.size wr wr.drew∧wr.drew.cell? ⟨mg,mo+m,JW⟩=JV (JQ y)∧wr.drew.cell? ⟨lg,lo+k,JW⟩=JV (JQ x):=⟨(Below.refl _ wr).drew,hyc,hxi⟩;have hbl:=jq x y;have HMM:=aa hm;clear hgm hmc hrow hyc hxi hz hm;by_cases hxy:bU x y < 0
    ·rw [decide_eq_true hxy] at hbl
     have HA2:Hid (∀ z∈M.drop m,bU x z < 0):=aa (fun z hz=>by
      rw [HY.out,← HMM.out] at hz;rcases cR.1 hz with rfl | hz
      ·exact hxy
      ·exact HA.out z hz)
     have hmk:m≤k:=mOm
     have HMS:=aa (show m < at_ by have:=HMM.out;omega);clear hxy;go_wp2_with fail;refine Rb ?_;intro hS;have hb2:=ah hbi hS.1;go_wp2_with fail
     go_roundw
     case rel=>exact ⟨m,hmk,by go_num,HA2,hb2⟩
     case measure=>have:=HMS.out;first | (simp [aw];omega) | (simp [aw];done)
    ·rw [decide_eq_false hxy] at hbl;have HIN:Hid (M.take at_++x::M.drop at_=gE M x):=aa (sL (by have:=HM.out;omega) HA.out (fun z h0 hz=>by rw [HMM.out,Nat.add_sub_cancel,HGM.out] at hz;obtain rfl:=Option.some.inj hz;exact hxy));clear hxy;go_wp2_with fail;refine Rb ?_;intro hS;clear hS hS0;have hbA:=ah hbi (al wr (JU #[JQ ⟨#[]⟩] 9)).drew;have hP:LQ bL 1 9 w ((wr.alloc (JU #[JQ ⟨#[]⟩] 9)).drew) (JR (JV ⟨mg,mo,JW⟩) k cv) M:=by
      have h:=HO.out.next hbA
      rwa [show Value.slice (JV ⟨mg,mo,JW⟩) M.length cv=Value.slice (JV ⟨mg,mo,JW⟩) k cv by rw [HM.out]] at h
     exact JH
