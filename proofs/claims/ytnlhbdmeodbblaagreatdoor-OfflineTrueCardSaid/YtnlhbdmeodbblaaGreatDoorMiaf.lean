/- Lemmas. -/
import Derived.Test.YtnlhbdmeodbblaaGreatDoorMiab
set_option maxRecDepth 100000
set_option maxHeartbeats 16000000
set_option linter.all false
open Go.Proofs.Tryz
open Int renaming neg_neg→kK,tdiv_eq_ediv_of_nonneg→dS,tmod_eq_emod_of_nonneg→bQ
open Go.IntWalk renaming i64_in→aF
open Go.Lib renaming cell_of_heap→ae,hid→aa,itoa→di,itoa_length_le→bI
open List renaming getElem?_eq_getElem→ai,mem_of_mem_take→cT
open Nat renaming le_refl→aD,zero_le→aR
open Go.RowKit renaming Below→ac
open Go.World renaming block_lt_of_cell?→am
open Go.Ending renaming returned→JT
open Go.IntKind renaming i64→JP
open Go.Obj renaming cells→JU
open Go.Value renaming int→JO,string→JQ,slice→JR,pointer→JS
open Option renaming some→JV,none→JW
namespace Go.Proofs.YtnlhbdmeodbblaaGreatDoor
section
open Go Go.RowKit Go.Sort
attribute [local go_sem] kz
theorem lX {n:Int} (h:0≤n):di n=Lib.decDigits n.toNat:=by unfold di;rw [if_neg mOm]
theorem sY {n:Int} (h:n < 0):di n=45::Lib.decDigits (-n).toNat:=by unfold di;rw [if_pos h];congr 2;omega
theorem iz {n:Int} (h:0≤n) (h2:n < 10):di n=[UInt8.ofNat (48+n).toNat]:=by rw [lX h,Lib.decDigits,dif_pos mOm];have:(48+n).toNat=48+n.toNat:=mOm;rw [this]
theorem jM {n:Int} (h:10≤n):di n=di (n / 10)++di (n%10):=by rw [lX mOm,lX mOm,iz mOm mOm,Lib.decDigits,dif_neg mOm];have h1:n.toNat / 10=(n / 10).toNat:=mOm;have h2:48+n.toNat%10=(48+n%10).toNat:=mOm;rw [h1,h2]
theorem xY {m:Int} (h:0 < m) (h2:m < 10):di (-m)=45::di m:=by rw [sY mOm,lX mOm,kK]
theorem xZ {m:Int} (h:10≤m):di (-m)=di (-(m / 10))++di (m%10):=by rw [sY mOm,sY mOm,kK,kK,← lX mOm,jM h,lX mOm];rfl
theorem nX {p:Prop} (h:p:=by
 clear ih;go_enter func122,ntmps122;go_wp2_with fail;refine (c1 _).mono ?_;rintro x w1 ⟨rfl,hb1⟩;go_wp2_with fail;refine (c2 _).mono ?_;rintro x w2 ⟨rfl,hb2⟩;go_wp2_with fail;go_ret
 exact ⟨cJ (dl (by simp [H.out])),hb1.trans (hb2.mono hb1.size)⟩):p:=h
theorem sm (k:Nat):∀ (n:Int) (w:World),0≤n→n < k→n≤9223372036854775807→
  Calls prog 122 #[JO JP n] w fun e w'=>e=JT (JQ ⟨(di n).toArray⟩)∧Below w.heap.size w w':=by
 induction k with
 | zero=>intro n w h0 h1 _;omega
 | succ k ih =>
  intro n w h0 h1 h2;by_cases hs:n < 10
  ·have hw:IntKind.i64.wrap (48+n)=48+n:=aF _ mOm;have H:=aa (iz h0 hs);go_enter func122,ntmps122;go_wp2_with fail;go_ret;exact ⟨cJ (by rw [H.out]),au _ _⟩
  ·have hl1:=bI (n / 10) mOm mOm;have hl2:=bI (n%10) mOm mOm;have H:=aa (jM (n:=n) mOm);have c1:=fun w=>ih (n / 10) w mOm mOm mOm
   have c2:=fun w=>ih (n%10) w mOm mOm mOm
   exact nX
theorem zu (k:Nat):∀ (m:Int) (w:World),0 < m→m < k→m≤9223372036854775808→
  Calls prog 122 #[JO JP (-m)] w fun e w'=>e=JT (JQ ⟨(di (-m)).toArray⟩)∧Below w.heap.size w w':=by
 induction k with
 | zero=>intro m w h0 h1 _;omega
 | succ k ih =>
  intro m w h0 h1 h2;have e1:(-m).tmod 10 = -(m%10):=by rw [Int.neg_tmod,bQ mOm]
  have e2:(-m).tdiv 10 = -(m / 10):=by rw [Int.neg_tdiv,dS mOm]
  have c2:=fun w=>sm 10 (m%10) w mOm mOm mOm
  have hl2:=bI (m%10) mOm mOm;by_cases hs:m < 10
  ·have H:=aa (xY h0 hs);have e3:m%10=m:=mOm;have e4:m / 10=0:=mOm;rw [e3] at e1 c2 hl2;rw [e4] at e2;clear e3 e4 ih;go_enter func122,ntmps122;go_wp2_with fail;refine (c2 _).mono ?_;rintro x w1 ⟨rfl,hb1⟩;go_wp2_with fail;go_ret;exact ⟨cJ (dl (by simp [H.out])),hb1⟩
  ·have hl1:=bI (-(m / 10)) mOm mOm;have H:=aa (xZ (m:=m) mOm);have c1:=fun w=>ih (m / 10) w mOm mOm mOm
   exact nX
theorem sk (n:Int) (w:World) (h:I64 n) :
  Calls prog 122 #[JO JP n] w fun e w'=>e=JT (JQ ⟨(di n).toArray⟩)∧Below w.heap.size w w':=by
 unfold I64 at h;by_cases hn:0≤n
 ·exact sm (n.toNat+1) n w hn mOm mOm
 ·have:=zu ((-n).toNat+1) (-n) w mOm mOm mOm
  rwa [kK] at this
theorem ji (n:Int) (w:World) (h:I64 n) :
  Calls prog 58 #[JO JP n] w fun e w'=>e=JT (JQ ⟨(dj n).toArray⟩)∧Below w.heap.size w w':=by
 have hl:=bI n h.1 h.2;go_enter func58,ntmps58;go_wp2_with fail;refine (sk n _ h).mono ?_;rintro x w1 ⟨rfl,hb⟩;go_wp2_with fail;go_ret;exact ⟨cJ (dl (by simp [dj])),hb⟩
theorem kC (s:ByteArray) (w:World) (hs:s.size≤1000000) :
  Calls prog 59 #[JQ s] w fun e w'=>e=JT (JQ ⟨(d8 s).toArray⟩)∧Below w.heap.size w w':=by
 have hl:=bI s.size mOm mOm;have hi:I64 (s.size:Int):=by unfold I64;omega
 go_enter func59,ntmps59;go_wp2_with fail;refine (sk _ _ hi).mono ?_;rintro x w1 ⟨rfl,hb⟩;go_wp2_with fail;go_ret;exact ⟨cJ (dl (by simp [d8])),hb⟩
end
section
open Go Go.RowKit Go.Sort
attribute [local go_sem] kz
theorem oI {p:Prop} (h:p:=by
 clear ih;go_enter func79,ntmps79;go_wp2_with fail;refine (c1 _).mono ?_;rintro x w1 ⟨rfl,hb1⟩;go_wp2_with fail;refine (c2 _).mono ?_;rintro x w2 ⟨rfl,hb2⟩;go_wp2_with fail;go_ret
 exact ⟨cJ (dl (by simp [H.out])),hb1.trans (hb2.mono hb1.size)⟩):p:=h
theorem ql (k:Nat):∀ (n:Int) (w:World),0≤n→n < k→n≤9223372036854775807→
  Calls prog 79 #[JO JP n] w fun e w'=>e=JT (JQ ⟨(di n).toArray⟩)∧Below w.heap.size w w':=by
 induction k with
 | zero=>intro n w h0 h1 _;omega
 | succ k ih =>
  intro n w h0 h1 h2;by_cases hs:n < 10
  ·have hw:IntKind.i64.wrap (48+n)=48+n:=aF _ mOm;have H:=aa (iz h0 hs);go_enter func79,ntmps79;go_wp2_with fail;go_ret;exact ⟨cJ (by rw [H.out]),au _ _⟩
  ·have hl1:=bI (n / 10) mOm mOm;have hl2:=bI (n%10) mOm mOm;have H:=aa (jM (n:=n) mOm);have c1:=fun w=>ih (n / 10) w mOm mOm mOm
   have c2:=fun w=>ih (n%10) w mOm mOm mOm
   exact oI
theorem Ce (k:Nat):∀ (m:Int) (w:World),0 < m→m < k→m≤9223372036854775808→
  Calls prog 79 #[JO JP (-m)] w fun e w'=>e=JT (JQ ⟨(di (-m)).toArray⟩)∧Below w.heap.size w w':=by
 induction k with
 | zero=>intro m w h0 h1 _;omega
 | succ k ih =>
  intro m w h0 h1 h2;have e1:(-m).tmod 10 = -(m%10):=by rw [Int.neg_tmod,bQ mOm]
  have e2:(-m).tdiv 10 = -(m / 10):=by rw [Int.neg_tdiv,dS mOm]
  have c2:=fun w=>ql 10 (m%10) w mOm mOm mOm
  have hl2:=bI (m%10) mOm mOm;by_cases hs:m < 10
  ·have H:=aa (xY h0 hs);have e3:m%10=m:=mOm;have e4:m / 10=0:=mOm;rw [e3] at e1 c2 hl2;rw [e4] at e2;clear e3 e4 ih;go_enter func79,ntmps79;go_wp2_with fail;refine (c2 _).mono ?_;rintro x w1 ⟨rfl,hb1⟩;go_wp2_with fail;go_ret;exact ⟨cJ (dl (by simp [H.out])),hb1⟩
  ·have hl1:=bI (-(m / 10)) mOm mOm;have H:=aa (xZ (m:=m) mOm);have c1:=fun w=>ih (m / 10) w mOm mOm mOm
   exact oI
theorem uw (n:Int) (w:World) (h:I64 n) :
  Calls prog 79 #[JO JP n] w fun e w'=>e=JT (JQ ⟨(di n).toArray⟩)∧Below w.heap.size w w':=by
 unfold I64 at h;by_cases hn:0≤n
 ·exact ql (n.toNat+1) n w hn mOm mOm
 ·have:=Ce ((-n).toNat+1) (-n) w mOm mOm mOm
  rwa [kK] at this
end
section
open Go Go.RowKit Go.Sort
attribute [local go_sem] Ent.cells
theorem xK (a b:List UInt8):(⟨a.toArray⟩:ByteArray)++⟨b.toArray⟩=⟨(a++b).toArray⟩:=dl mSi
theorem pq (e:Ent) (h:e.Ok) (w:World) :
  Calls prog 23 #[e.val] w fun x w'=>x=JT (JQ ⟨e.body.toArray⟩)∧Below w.heap.size w w':=by
 have hl1:=jb e.ints1 h.ints1;have hl2:=fB e.course (by have:=h.course;omega);have hl3:e.ints1.length=6:=rfl;have hcs:=h.course;go_enter func23,ntmps23;go_wp2_with fail
 go_loopw [3,5] (fun s i wr=>∃ k:Nat,k≤6∧i=JO JP k∧s=JQ ⟨(fu (e.ints1.take k)).toArray⟩∧Below w.heap.size w wr∧LN wr w.heap.size e∧L0 wr (w.heap.size+1) e.ints1) (fun _ i _=>6 - (intOf i).toNat)
 case atStart =>
  refine ⟨0,mOm,rfl,rfl,?_,?_,?_⟩
  ·exact ((Below.refl _ _).alloc (aD _) _).alloc mSi _
  ·exact (LN.new w e).below (au _ _)
  ·have:=L0.new (w.alloc (JU e.cells 67)) e.ints1;rw [size_alloc] at this;exact this
 case round =>
  obtain ⟨k,hk,rfl,rfl,hbe,hbox,hrow⟩:=hrel;by_cases hlt:k < 6
  ·have hc:=hrow.cell (k:=k) (by simpa [Ent.ints1] using hlt);have hi:=h.ints1 _ (ng (l:=e.ints1) (k:=k) (by simpa [Ent.ints1] using hlt));have hlen:=jb (e.ints1.take k) (fun n hn=>h.ints1 n (cT hn));have hlen2:(e.ints1.take k).length≤6:=by simp [Ent.ints1];omega
   have H:=aa (mM e.ints1 k (by simpa [Ent.ints1] using hlt));generalize e.ints1.getD k 0=n at hc hi H;have hwl:=ez n hi.1 hi.2;generalize fu (e.ints1.take k)=acc at hlen H;go_wp2_with fail;refine (ji n _ hi).mono ?_;rintro x w1 ⟨rfl,hb1⟩;go_wp2_with fail
   go_roundw
   case rel=>exact ⟨k+1,mOm,by go_num,by rw [H.out,xK],hbe.trans (hb1.mono hbe.size),hbox.below hb1,hrow.below hb1⟩
   case measure=>simp [intOf];omega
  ·obtain rfl:k=6:=mOm;have e6:e.ints1.take 6=e.ints1:=rfl;rw [e6];clear hlt hk e6;generalize hI1:fu e.ints1=i1 at hl1;have HI:=aa hI1;clear hI1;have hc6:wr.cell? ⟨w.heap.size,6,JW⟩=JV (JQ e.course):=hbox.cell 6;go_wp2_with fail;refine (kC e.course _ mOm).mono ?_;rintro x w1 ⟨rfl,hb1⟩;have hbe2:=hbe.trans (hb1.mono hbe.size);have hbox2:=hbox.below hb1;clear hb1 hbe hbox hrow hc6;have hcc:=hbox2.cell;generalize hT:d8 e.course=tx at hl2;have HT:=aa hT;clear hT;go_wp2_with fail;clear hcc
   go_loopw [3,7] (fun s i wr=>∃ k:Nat,k≤7∧i=JO JP k∧s=JQ ⟨(i1++tx++fu (e.ints2.take k)).toArray⟩∧Below w.heap.size w wr∧L0 wr w1.heap.size e.ints2) (fun _ i _=>7 - (intOf i).toNat)
   case atStart =>
    exact ⟨0,mOm,rfl,by rw [xK];simp [fu],hbe2.trans ((au _ _).mono hbe2.size),L0.new w1 e.ints2⟩
   case round =>
    clear hbe2 hbox2;obtain ⟨k,hk,rfl,rfl,hbe,hrow⟩:=hrel;have hl4:e.ints2.length=7:=rfl;by_cases hlt:k < 7
    ·have hc:=hrow.cell (k:=k) (by simpa [Ent.ints2] using hlt);have hi:=h.ints2 _ (ng (l:=e.ints2) (k:=k) (by simpa [Ent.ints2] using hlt));have hlen:=jb (e.ints2.take k) (fun n hn=>h.ints2 n (cT hn));have hlen2:(e.ints2.take k).length≤7:=by simp [Ent.ints2];omega
     have H:=aa (mM e.ints2 k (by simpa [Ent.ints2] using hlt));generalize e.ints2.getD k 0=n at hc hi H;have hwl:=ez n hi.1 hi.2;have hal:(i1++tx++fu (e.ints2.take k)).length≤1000000:=by simp only [List.length_append];omega
     have HA:=aa (show i1++tx++fu (e.ints2.take (k+1))=i1++tx++fu (e.ints2.take k)++dj n by rw [H.out];simp only [List.append_assoc]);generalize i1++tx++fu (e.ints2.take k)=acc at hal HA;go_wp2_with fail;refine (ji n _ hi).mono ?_;rintro x w2 ⟨rfl,hb2⟩;go_wp2_with fail
     go_roundw
     case rel=>exact ⟨k+1,mOm,by go_num,by rw [HA.out,xK],hbe.trans (hb2.mono hbe.size),hrow.below hb2⟩
     case measure=>simp [intOf];omega
    ·obtain rfl:k=7:=mOm;have e7:e.ints2.take 7=e.ints2:=rfl;rw [e7];clear hlt hk e7 hrow;have HA:=aa (show i1++tx++fu e.ints2=e.body by rw [← HI.out,← HT.out];rfl);generalize i1++tx++fu e.ints2=acc at HA;go_wp2_with fail;go_ret;exact ⟨cJ (by rw [HA.out]),hbe⟩
theorem qF (e:Ent) (h:e.Ok) (w:World) :
  Calls prog 139 #[e.val] w fun x w'=>x=JT (JQ ⟨e.code.toArray⟩)∧Below w.heap.size w w':=by
 have hl:=lR e h;have hc:=h.course;have hm:=h.mark;have hl2:=fB e.mark (by have:=h.mark;omega);have hnc:¬ 9223372036854775807 < e.body.length+(d8 e.mark).length:=mOm;go_enter func139,ntmps139;go_wp2_with fail;have hb0:=au w (JU e.cells 67);have hbx:=fun j=>(LN.new w e).cell j
 go_region_held3 (fun w'=>Below w.heap.size w w'∧∀ j,w'.cell? ⟨w.heap.size,j,none⟩=e.cells[j]?) (first | exact ⟨hb0.drew,hbx⟩ | assumption)
  (first
   | (go_at_call 23;refine (pq e h _).mono ?_;rintro x w1 ⟨rfl,hb1⟩;have hS1:=LN.of_cells (e:=e) (by assumption) hb1)
   | (go_at_call 59;refine (kC e.mark _ mOm).mono ?_;rintro x w2 ⟨rfl,hb2⟩;have hS2:=LN.of_cells (e:=e) (by assumption) hb2))
 go_wp2_with fail
 go_ret;exact ⟨cJ (dl (by simp [Ent.code])),hS2.1⟩
end
section
open Go Go.RowKit Go.Sort Go.Lib
def iF (sc id:Int) (t:ByteArray):List UInt8:=di sc++32::(di id++32::t.data.toList)
theorem oA {p:Prop} (h:p:=by
 rintro _ w2 ⟨rfl,hb2⟩;generalize di sc=A at l1 HM ⊢;generalize di id=B at l2 HM ⊢;have k1:¬ 9223372036854775807 < A.length+1:=mOm;have k2:¬ 9223372036854775807 < A.length+1+B.length:=mOm;have k3:¬ 9223372036854775807 < A.length+1+B.length+1:=mOm;have k4:¬ 9223372036854775807 < A.length+1+B.length+1+t.size:=mOm;go_wp2_with fail;go_ret
 exact ⟨cJ (by rw [HM.out];exact dl mSi),hb.trans (hb2.mono hb.size)⟩):p:=h
theorem zP (b:Nat) (sc id:Int) (t:ByteArray) (hs:I64 sc) (hi:I64 id) (ht:t.size≤1000000) (w:World) (hc:w.cell? ⟨b,0,JW⟩=JV (JO JP sc)) (hT:Tabs w) :
  Calls prog 57 #[JS (JV ⟨b,0,JW⟩),JO JP id,JQ t] w fun e w'=>e=JT (JQ ⟨(iF sc id t).toArray⟩)∧Below w.heap.size w w':=by
 have l1:=bI sc hs.1 hs.2;have l2:=bI id hi.1 hi.2;have HM:Hid (iF sc id t=di sc++32::(di id++32::t.data.toList)):=aa rfl;go_enter func57,ntmps57;go_wp2_with fail;refine (jR sc w hs.1 hs.2 hT).mono ?_;rintro _ w1 ⟨rfl,hb⟩;go_wp2_with fail;refine (jR id w1 hi.1 hi.2 (hT.below hb)).mono ?_;exact oA
theorem wU (sc id:Int) (ks:Value) (t:ByteArray) (hs:I64 sc) (hi:I64 id) (ht:t.size≤1000000) (w:World) :
  Calls prog 110 #[.agg #[JO JP sc,ks],JO JP id,JQ t] w fun e w'=>e=JT (JQ ⟨(iF sc id t).toArray⟩)∧Below w.heap.size w w':=by
 have l1:=bI sc hs.1 hs.2;have l2:=bI id hi.1 hi.2;have HM:Hid (iF sc id t=di sc++32::(di id++32::t.data.toList)):=aa rfl;go_enter func110,ntmps110;go_wp2_with fail;have hba:=au w (JU #[JO JP sc,ks] 33);refine (uw sc _ hs).mono ?_;rintro _ w1 ⟨rfl,hb1⟩;have hb:=hba.trans (hb1.mono hba.size);go_wp2_with fail;refine (uw id w1 hi).mono ?_;exact oA
end
section
open Go Go.RowKit Go.Sort Go.Lib
structure LU where
 id:Int
 secret:ByteArray
 fro:Int
 stolen:Int
@[reducible] def LU.cells (k:LU):Array Value:=#[JO JP k.id,JQ k.secret,JO JP k.fro,JO JP k.stolen]
@[reducible] def LU.val (k:LU):Value:=.agg #[JO JP k.id,JQ k.secret,JO JP k.fro,JO JP k.stolen]
def KeyAt (w:World) (g o:Nat) (e:LU):Prop:=w.rangeAt g o e.cells.toList
def LV (w:World) (g:Nat) (l:List LU):Prop:=∀ k e,l[k]? = JV e→KeyAt w g (k*4) e
theorem KeyAt.below {w w':World} {B g o:Nat} {e:LU} (h:KeyAt w g o e) (hb:ac B w w') (hB:g < B):KeyAt w' g o e:=fun j v hv=>by
 rw [hb.cell (p:=⟨g,o+j,JW⟩) hB];exact h j v hv
theorem LV.below {w w':World} {B g:Nat} {l:List LU} (h:LV w g l) (hb:ac B w w') (hB:g < B):LV w' g l:=fun k e he=>(h k e he).below hb hB
theorem KeyAt.cell {w:World} {g o:Nat} {e:LU} (h:KeyAt w g o e) (j:Nat) {v:Value} (hv:e.cells.toList[j]? = JV v):w.cell? ⟨g,o+j,JW⟩=JV v:=h j v hv
theorem pT (w:World) (o:Obj):ac w.heap.size w (w.alloc o):=(Below.refl _ _).alloc (aD _) _
def dN (l:List LU) (id:Int):Nat:=l.findIdx (fun k=>k.id==id)
theorem ux {l:List LU} {id:Int} {k:Nat} (hk:k < l.length) (h:∀ e∈l.take k,(e.id==id)=false) (he:(l[k].id==id)=true):dN l id=k:=
 (List.findIdx_eq hk).2 ⟨he,fun j hj=>h _ (List.mem_take_iff_getElem.2 ⟨j,mOm,rfl⟩)⟩
theorem so {l:List LU} {id:Int} (h:∀ e∈l.take l.length,(e.id==id)=false):dN l id=l.length:=by rw [List.take_length] at h;exact List.findIdx_eq_length.2 h
theorem take_one {l:List LU} {p:LU→Prop} {k:Nat} (hk:k < l.length) (h:∀ e∈l.take k,p e) (he:p l[k]):∀ e∈l.take (k+1),p e:=by
 rw [List.take_succ_eq_append_getElem hk];intro e hm;rcases List.mem_append.1 hm with hm | hm
 ·exact h e hm
 ·rw [List.mem_singleton] at hm;rw [hm];exact he
theorem Dn (e:LU) (ib:Nat) (id:Int) (w:World) (hi:w.cell? ⟨ib,0,JW⟩=JV (JO JP id)) :
  Calls prog 119 #[e.val,JS (JV ⟨ib,0,JW⟩)] w fun x w'=>x=JT (.bool (e.id==id))∧ac w.heap.size w w':=by
 have hlt:=am w _ hi;go_enter func119,ntmps119;go_wp2_with fail;go_ret;exact ⟨rfl,pT _ _⟩
theorem Ly {p q:Prop} (h:q) (f:Wq q→p:=by
 intro hq;have h1:Hid ((e.id==id)=true→I=k):=aa (HH.out k hltk hkI.out e he);have h2:Hid ((e.id==id)=false→∀ e∈l.take (k+1),(e.id==id)=false):=aa (HO.out k hltk hkI.out e he)
 revert h1 h2
 exact hq.1):p:=f ⟨h⟩
theorem B8 (g c ib:Nat) (l:List LU) (id:Int) (w:World) (hl:l.length≤1000) (hk:LV w g l) (hg:g < w.heap.size) (hi:w.cell? ⟨ib,0,JW⟩=JV (JO JP id)) :
  Calls prog 118 #[JR (JV ⟨g,0,JW⟩) l.length c,.func (.func 119) #[] #[JS (JV ⟨ib,0,JW⟩)]] w
   fun x w'=>x=JT (JO JP (if dN l id < l.length then (dN l id:Int) else -1))∧ac w.heap.size w w':=by
 have hlt:=am w _ hi;have hK:=aa hk
 have hH:∀ k,k < l.length→(∀ e∈l.take k,(e.id==id)=false)→∀ e,l[k]? = JV e→(e.id==id)=true→dN l id=k:=fun k hk h e he h2=>by
  rw [ai hk] at he;cases he;exact ux hk h h2
 have hO:∀ k,k < l.length→(∀ e∈l.take k,(e.id==id)=false)→∀ e,l[k]? = JV e→(e.id==id)=false→∀ e∈l.take (k+1),(e.id==id)=false:=fun k hk h e he h2=>by
  rw [ai hk] at he;cases he;exact take_one hk h h2
 have hN2:=so (l:=l) (id:=id)
 have hE:∀ k,k < l.length→∃ e,l[k]? = JV e:=fun k hk=>⟨_,ai hk⟩
 generalize dN l id=I at *;generalize l.length=N at *;have HH:=aa hH;have HO:=aa hO;have HN:=aa hN2;have HE:=aa hE;clear hk hH hO hN2 hE;go_enter func118,ntmps118;go_wp2_with fail
 go_loopw [8] (fun i wr=>∃ k:Nat,k≤N∧Hid (∀ e∈l.take k,(e.id==id)=false)∧i=JO JP k∧ac w.heap.size w wr) (fun i _=>N - (intOf i).toNat)
 case atStart=>exact ⟨0,aR _,aa mSi,rfl,Below.refl _ _⟩
 case round =>
  obtain ⟨k,hkN,hkI,rfl,hb⟩:=hrel;by_cases hltk:k < N
  ·obtain ⟨e,he⟩:=HE.out k hltk;have hat:=(hK.out k _ he).below hb hg;have hi2:wr.cell? ⟨ib,0,JW⟩=JV (JO JP id):=(hb.cell (p:=⟨ib,0,JW⟩) hlt).trans hi;have hC:=Dn e ib id wr hi2;refine Ly ?_;intro h1 h2;clear he hi2;generalize (e.id==id)=b at hC h1 h2;go_wp2_with ((with_reducible refine wpList_load_mid (op:=⟨_,_,_,_,_,_⟩) ?_ 78 (.tmp 14) ?_ g (k*4) ?_ (LU.cells e).toList _ ?_ underlying78 ?_ ?_ ?_);rfl;rfl;rfl;exact hat;rfl;kernel_rfl);refine hC.mono ?_;rintro x w1 ⟨rfl,hb1⟩;have hbw:=hb.trans (hb1.mono hb.size)
   cases b
   ·replace h2:=aa (h2.out rfl);go_wp2_with fail
    go_roundw
    case rel=>exact ⟨k+1,mOm,h2,by go_num,hbw⟩
    case measure=>simp [intOf];omega
   ·obtain rfl:=h1.out rfl;go_wp2_with fail;go_ret;exact ⟨rfl,hbw⟩
  ·obtain rfl:k=N:=mOm;have h3:=HN.out hkI.out;go_wp2_with fail;go_ret;exact ⟨rfl,hb⟩
def yx (g:Nat) (l:List LU) (id:Int):Value:=if dN l id < l.length then JS (JV ⟨g,dN l id*4,JW⟩) else .pointer JW
theorem Fe (b g c:Nat) (sc:Int) (l:List LU) (id:Int) (w:World) (hl:l.length≤1000) (hk:LV w g l) (hg:g < w.heap.size) (hr:w.heap[b]? = JV (JU #[JO JP sc,JR (JV ⟨g,0,JW⟩) l.length c] 116 (0,0))) :
  Calls prog 55 #[JS (JV ⟨b,0,JW⟩),JO JP id] w
   fun x w'=>x=JT (yx g l id)∧ac w.heap.size w w':=by
 have c1:w.cell? ⟨b,1,JW⟩=JV (JR (JV ⟨g,0,JW⟩) l.length c):=ae hr 1;have hlt:=am w _ c1;have hb0:=pT w (JU #[JO JP id] 3);have hC:=B8 g c w.heap.size l id (w.alloc (JU #[JO JP id] 3)) hl (hk.below hb0 hg) (by simp;omega) (ae (heap_alloc_new w _) 0);unfold yx;generalize dN l id=I at *;generalize l.length=N at *;go_enter func55,ntmps55;go_wp2_with fail;refine hC.mono ?_;rintro x w1 ⟨rfl,hb1⟩;have hbw:=hb0.trans (hb1.mono hb0.size);have c2:w1.cell? ⟨b,1,JW⟩=JV (JR (JV ⟨g,0,JW⟩) N c):=(hbw.cell (p:=⟨b,1,JW⟩) hlt).trans c1;by_cases h:I < N
 ·rw [if_pos h];go_wp2_with fail;go_ret;exact ⟨rfl,hbw⟩
 ·rw [if_neg h];go_wp2_with fail;go_ret;exact ⟨rfl,hbw⟩
theorem sw (g c:Nat) (sc:Int) (l:List LU) (id:Int) (w:World) (hl:l.length≤1000) (hk:LV w g l) (hg:g < w.heap.size) :
  Calls prog 61 #[.agg #[JO JP sc,JR (JV ⟨g,0,JW⟩) l.length c],JO JP id] w
   fun x w'=>x=JT (JO JP (if dN l id < l.length then (dN l id:Int) else -1))∧ac w.heap.size w w':=by
 have hb0:=pT w (JU #[JO JP sc,JR (JV ⟨g,0,JW⟩) l.length c] 33);have hK:=aa (hk.below hb0 hg)
 have hH:∀ k,k < l.length→(∀ e∈l.take k,(e.id==id)=false)→∀ e,l[k]? = JV e→(e.id==id)=true→dN l id=k:=fun k hk h e he h2=>by
  rw [ai hk] at he;cases he;exact ux hk h h2
 have hO:∀ k,k < l.length→(∀ e∈l.take k,(e.id==id)=false)→∀ e,l[k]? = JV e→(e.id==id)=false→∀ e∈l.take (k+1),(e.id==id)=false:=fun k hk h e he h2=>by
  rw [ai hk] at he;cases he;exact take_one hk h h2
 have hN2:=so (l:=l) (id:=id)
 have hE:∀ k,k < l.length→∃ e,l[k]? = JV e:=fun k hk=>⟨_,ai hk⟩
 generalize dN l id=I at *;generalize l.length=N at *;have HH:=aa hH;have HO:=aa hO;have HN:=aa hN2;have HE:=aa hE;clear hk hH hO hN2 hE;go_enter func61,ntmps61;go_wp2_with fail
 go_loopw [5] (fun i wr=>∃ k:Nat,k≤N∧Hid (∀ e∈l.take k,(e.id==id)=false)∧i=JO JP k∧wr=w.alloc (JU #[JO JP sc,JR (JV ⟨g,0,JW⟩) N c] 33)) (fun i _=>N - (intOf i).toNat)
 case atStart=>exact ⟨0,aR _,aa mSi,rfl,rfl⟩
 case round =>
  obtain ⟨k,hkN,hkI,rfl,rfl⟩:=hrel;by_cases hltk:k < N
  ·obtain ⟨e,he⟩:=HE.out k hltk;have hat:=hK.out k _ he;have c0:(w.alloc (JU #[JO JP sc,JR (JV ⟨g,0,JW⟩) N c] 33)).cell? ⟨g,k*4,JW⟩=JV (JO JP e.id):=hat.cell 0 rfl;refine Ly ?_;intro h1 h2;clear he hat;obtain ⟨b,hbq⟩:∃ b,(e.id==id)=b:=⟨_,rfl⟩;rw [hbq] at h1 h2
   cases b
   ·replace h2:=aa (h2.out rfl);go_wp2_with fail
    go_roundw
    case rel=>exact ⟨k+1,mOm,h2,by go_num,by first | rfl | trivial⟩
    case measure=>simp [intOf];omega
   ·obtain rfl:=h1.out rfl;go_wp2_with fail;go_ret;exact ⟨rfl,hb0⟩
  ·obtain rfl:k=N:=mOm;have h3:=HN.out hkI.out;go_wp2_with fail;go_ret;exact ⟨rfl,hb0⟩
end
section
open Go Go.RowKit Go.Sort Go.Lib
attribute [local go_sem] Ent.cells
theorem iy (n lo hi:Int):cz n lo hi = !aB n lo hi:=by
 unfold cz aB;by_cases h1:lo≤n <;> by_cases h2:n≤hi <;> simp [h1,h2] <;> omega
theorem dA {p:Prop} (h:p:=by (refine aa ?_;rw [hk];(first | rw [show cL 1=32 from rfl] | rw [show cL 2=96 from rfl] | rw [show cL 3=7 from rfl] | rw [show cL 4=12 from rfl] | rw [show cL 5=8 from rfl] | rw [show cL 6=8 from rfl] | rw [show cL 7=16 from rfl] | rw [show cL 8=32 from rfl] | rw [show cL 9=8 from rfl]);unfold aY;simp only [show (bits .and .i64 32 1 != 0)=false from by decide,show (bits .and .i64 32 2 != 0)=false from by decide,show (bits .and .i64 32 4 != 0)=false from by decide,show (bits .and .i64 32 8 != 0)=false from by decide,show (bits .and .i64 32 16 != 0)=false from by decide,show (bits .and .i64 32 32 != 0)=true from by decide,show (bits .and .i64 32 64 != 0)=false from by decide,show (bits .and .i64 96 1 != 0)=false from by decide,show (bits .and .i64 96 2 != 0)=false from by decide,show (bits .and .i64 96 4 != 0)=false from by decide,show (bits .and .i64 96 8 != 0)=false from by decide,show (bits .and .i64 96 16 != 0)=false from by decide,show (bits .and .i64 96 32 != 0)=true from by decide,show (bits .and .i64 96 64 != 0)=true from by decide,show (bits .and .i64 7 1 != 0)=true from by decide,show (bits .and .i64 7 2 != 0)=true from by decide,show (bits .and .i64 7 4 != 0)=true from by decide,show (bits .and .i64 7 8 != 0)=false from by decide,show (bits .and .i64 7 16 != 0)=false from by decide,show (bits .and .i64 7 32 != 0)=false from by decide,show (bits .and .i64 7 64 != 0)=false from by decide,show (bits .and .i64 12 1 != 0)=false from by decide,show (bits .and .i64 12 2 != 0)=false from by decide,show (bits .and .i64 12 4 != 0)=true from by decide,show (bits .and .i64 12 8 != 0)=true from by decide,show (bits .and .i64 12 16 != 0)=false from by decide,show (bits .and .i64 12 32 != 0)=false from by decide,show (bits .and .i64 12 64 != 0)=false from by decide,show (bits .and .i64 8 1 != 0)=false from by decide,show (bits .and .i64 8 2 != 0)=false from by decide,show (bits .and .i64 8 4 != 0)=false from by decide,show (bits .and .i64 8 8 != 0)=true from by decide,show (bits .and .i64 8 16 != 0)=false from by decide,show (bits .and .i64 8 32 != 0)=false from by decide,show (bits .and .i64 8 64 != 0)=false from by decide,show (bits .and .i64 16 1 != 0)=false from by decide,show (bits .and .i64 16 2 != 0)=false from by decide,show (bits .and .i64 16 4 != 0)=false from by decide,show (bits .and .i64 16 8 != 0)=false from by decide,show (bits .and .i64 16 16 != 0)=true from by decide,show (bits .and .i64 16 32 != 0)=false from by decide,show (bits .and .i64 16 64 != 0)=false from by decide,iy, *];(try simp))):p:=h
theorem cY {p:Prop} (h:p:=by
  have HK:=aa hk;clear hk;go_enter func117,ntmps117
  go_upto_region 0 with fail
  go_upto_region 1 with fail
  have hx:=LN.new w e;have ck:=hx.cell 3;rw [show e.cells[3]? = some (.int .i64 e.kind) from rfl,HK.out] at ck;have c0:(w.alloc (.cells e.cells 67)).cell? ⟨w.heap.size,0,none⟩=some (.int .i64 e.id):=hx.cell 0;have c1:(w.alloc (.cells e.cells 67)).cell? ⟨w.heap.size,1,none⟩=some (.int .i64 e.school):=hx.cell 1;have c6:(w.alloc (.cells e.cells 67)).cell? ⟨w.heap.size,6,none⟩=some (.string e.course):=hx.cell 6;have c7:(w.alloc (.cells e.cells 67)).cell? ⟨w.heap.size,7,none⟩=some (.int .i64 e.credits):=hx.cell 7;have c8:(w.alloc (.cells e.cells 67)).cell? ⟨w.heap.size,8,none⟩=some (.int .i64 e.grade):=hx.cell 8;have c9:(w.alloc (.cells e.cells 67)).cell? ⟨w.heap.size,9,none⟩=some (.int .i64 e.ref):=hx.cell 9;have c10:(w.alloc (.cells e.cells 67)).cell? ⟨w.heap.size,10,none⟩=some (.int .i64 e.fro):=hx.cell 10;have c11:(w.alloc (.cells e.cells 67)).cell? ⟨w.heap.size,11,none⟩=some (.int .i64 e.programme):=hx.cell 11;have c12:(w.alloc (.cells e.cells 67)).cell? ⟨w.heap.size,12,none⟩=some (.int .i64 e.version):=hx.cell 12;have hb:=au w (.cells e.cells 67);unfold Ent.cells at ck c0 c1 c6 c7 c8 c9 c10 c11 c12 hb;generalize w.alloc _=W at ck c0 c1 c6 c7 c8 c9 c10 c11 c12 hb ⊢;clear hx;go_wp2_with (first | (go_at_call 180;refine (zV e.course _ (Nat.le_trans hc mDe)).mono ?_;rintro r w1 ⟨rfl,rfl⟩) | (go_at_call 115;refine (fN _ _ _ _).mono ?_;rintro r w1 ⟨rfl,rfl⟩));go_ret
  exact ⟨aI H.out.symm,hb⟩):p:=h
theorem Bn (e:Ent) (w:World) (hc:e.course.size≤1000000) (hk:e.kind=1) (h0:decide (e.programme < 1)=true) :
  Calls prog 117 #[e.val] w fun x w'=>x=JT (JO JP (aY (cL e.kind) e 0))∧ac w.heap.size w w':=by
 have H:Hid (aY (cL e.kind) e 0=3):=dA;exact cY
theorem Bo (e:Ent) (w:World) (hc:e.course.size≤1000000) (hk:e.kind=1) (h0:decide (e.programme < 1)=false) :
  Calls prog 117 #[e.val] w fun x w'=>x=JT (JO JP (aY (cL e.kind) e 0))∧ac w.heap.size w w':=by
 have H:Hid (aY (cL e.kind) e 0=0):=dA;exact cY
theorem Bp (e:Ent) (w:World) (hc:e.course.size≤1000000) (hk:e.kind=2) (h0:decide (e.programme < 1)=true) :
  Calls prog 117 #[e.val] w fun x w'=>x=JT (JO JP (aY (cL e.kind) e 0))∧ac w.heap.size w w':=by
 have H:Hid (aY (cL e.kind) e 0=3):=dA;exact cY
theorem Bq (e:Ent) (w:World) (hc:e.course.size≤1000000) (hk:e.kind=2) (h0:decide (e.programme < 1)=false) (h1:decide (e.version < 1)=true) :
  Calls prog 117 #[e.val] w fun x w'=>x=JT (JO JP (aY (cL e.kind) e 0))∧ac w.heap.size w w':=by
 have H:Hid (aY (cL e.kind) e 0=3):=dA;exact cY
theorem Br (e:Ent) (w:World) (hc:e.course.size≤1000000) (hk:e.kind=2) (h0:decide (e.programme < 1)=false) (h1:decide (e.version < 1)=false) :
  Calls prog 117 #[e.val] w fun x w'=>x=JT (JO JP (aY (cL e.kind) e 0))∧ac w.heap.size w w':=by
 have H:Hid (aY (cL e.kind) e 0=0):=dA;exact cY
theorem Bs (e:Ent) (w:World) (hc:e.course.size≤1000000) (hk:e.kind=3) (h0:ie e.course.data.toList=false) :
  Calls prog 117 #[e.val] w fun x w'=>x=JT (JO JP (aY (cL e.kind) e 0))∧ac w.heap.size w w':=by
 have H:Hid (aY (cL e.kind) e 0=12):=dA;exact cY
theorem Bt (e:Ent) (w:World) (hc:e.course.size≤1000000) (hk:e.kind=3) (h0:ie e.course.data.toList=true) (h1:aB e.credits 1 60=false) :
  Calls prog 117 #[e.val] w fun x w'=>x=JT (JO JP (aY (cL e.kind) e 0))∧ac w.heap.size w w':=by
 have H:Hid (aY (cL e.kind) e 0=3):=dA;exact cY
theorem Bu (e:Ent) (w:World) (hc:e.course.size≤1000000) (hk:e.kind=3) (h0:ie e.course.data.toList=true) (h1:aB e.credits 1 60=true) (h2:aB e.grade (-1000) 1000=false) :
  Calls prog 117 #[e.val] w fun x w'=>x=JT (JO JP (aY (cL e.kind) e 0))∧ac w.heap.size w w':=by
 have H:Hid (aY (cL e.kind) e 0=3):=dA;exact cY
theorem Bv (e:Ent) (w:World) (hc:e.course.size≤1000000) (hk:e.kind=3) (h0:ie e.course.data.toList=true) (h1:aB e.credits 1 60=true) (h2:aB e.grade (-1000) 1000=true) :
  Calls prog 117 #[e.val] w fun x w'=>x=JT (JO JP (aY (cL e.kind) e 0))∧ac w.heap.size w w':=by
 have H:Hid (aY (cL e.kind) e 0=0):=dA;exact cY
theorem Bw (e:Ent) (w:World) (hc:e.course.size≤1000000) (hk:e.kind=4) (h0:aB e.grade (-1000) 1000=false) :
  Calls prog 117 #[e.val] w fun x w'=>x=JT (JO JP (aY (cL e.kind) e 0))∧ac w.heap.size w w':=by
 have H:Hid (aY (cL e.kind) e 0=3):=dA;exact cY
theorem By (e:Ent) (w:World) (hc:e.course.size≤1000000) (hk:e.kind=4) (h0:aB e.grade (-1000) 1000=true) (h1:aB e.ref 1 899999=false) :
  Calls prog 117 #[e.val] w fun x w'=>x=JT (JO JP (aY (cL e.kind) e 0))∧ac w.heap.size w w':=by
 have H:Hid (aY (cL e.kind) e 0=21):=dA;exact cY
theorem Bz (e:Ent) (w:World) (hc:e.course.size≤1000000) (hk:e.kind=4) (h0:aB e.grade (-1000) 1000=true) (h1:aB e.ref 1 899999=true) (h2:(e.ref==e.id)=true) :
  Calls prog 117 #[e.val] w fun x w'=>x=JT (JO JP (aY (cL e.kind) e 0))∧ac w.heap.size w w':=by
 have H:Hid (aY (cL e.kind) e 0=21):=dA;exact cY
theorem BA (e:Ent) (w:World) (hc:e.course.size≤1000000) (hk:e.kind=4) (h0:aB e.grade (-1000) 1000=true) (h1:aB e.ref 1 899999=true) (h2:(e.ref==e.id)=false) :
  Calls prog 117 #[e.val] w fun x w'=>x=JT (JO JP (aY (cL e.kind) e 0))∧ac w.heap.size w w':=by
 have H:Hid (aY (cL e.kind) e 0=0):=dA;exact cY
theorem BB (e:Ent) (w:World) (hc:e.course.size≤1000000) (hk:e.kind=5) (h0:aB e.ref 1 899999=false) :
  Calls prog 117 #[e.val] w fun x w'=>x=JT (JO JP (aY (cL e.kind) e 0))∧ac w.heap.size w w':=by
 have H:Hid (aY (cL e.kind) e 0=21):=dA;exact cY
theorem BC (e:Ent) (w:World) (hc:e.course.size≤1000000) (hk:e.kind=5) (h0:aB e.ref 1 899999=true) (h1:(e.ref==e.id)=true) :
  Calls prog 117 #[e.val] w fun x w'=>x=JT (JO JP (aY (cL e.kind) e 0))∧ac w.heap.size w w':=by
 have H:Hid (aY (cL e.kind) e 0=21):=dA;exact cY
theorem BG (e:Ent) (w:World) (hc:e.course.size≤1000000) (hk:e.kind=5) (h0:aB e.ref 1 899999=true) (h1:(e.ref==e.id)=false) :
  Calls prog 117 #[e.val] w fun x w'=>x=JT (JO JP (aY (cL e.kind) e 0))∧ac w.heap.size w w':=by
 have H:Hid (aY (cL e.kind) e 0=0):=dA;exact cY
theorem BH (e:Ent) (w:World) (hc:e.course.size≤1000000) (hk:e.kind=6) (h0:aB e.ref 1 899999=false) :
  Calls prog 117 #[e.val] w fun x w'=>x=JT (JO JP (aY (cL e.kind) e 0))∧ac w.heap.size w w':=by
 have H:Hid (aY (cL e.kind) e 0=21):=dA;exact cY
theorem BI (e:Ent) (w:World) (hc:e.course.size≤1000000) (hk:e.kind=6) (h0:aB e.ref 1 899999=true) (h1:(e.ref==e.id)=true) :
  Calls prog 117 #[e.val] w fun x w'=>x=JT (JO JP (aY (cL e.kind) e 0))∧ac w.heap.size w w':=by
 have H:Hid (aY (cL e.kind) e 0=21):=dA;exact cY
theorem BJ (e:Ent) (w:World) (hc:e.course.size≤1000000) (hk:e.kind=6) (h0:aB e.ref 1 899999=true) (h1:(e.ref==e.id)=false) :
  Calls prog 117 #[e.val] w fun x w'=>x=JT (JO JP (aY (cL e.kind) e 0))∧ac w.heap.size w w':=by
 have H:Hid (aY (cL e.kind) e 0=0):=dA;exact cY
theorem BK (e:Ent) (w:World) (hc:e.course.size≤1000000) (hk:e.kind=7) (h0:aB e.fro 1 8=false) :
  Calls prog 117 #[e.val] w fun x w'=>x=JT (JO JP (aY (cL e.kind) e 0))∧ac w.heap.size w w':=by
 have H:Hid (aY (cL e.kind) e 0=3):=dA;exact cY
theorem BM (e:Ent) (w:World) (hc:e.course.size≤1000000) (hk:e.kind=7) (h0:aB e.fro 1 8=true) (h1:(e.fro==e.school)=true) :
  Calls prog 117 #[e.val] w fun x w'=>x=JT (JO JP (aY (cL e.kind) e 0))∧ac w.heap.size w w':=by
 have H:Hid (aY (cL e.kind) e 0=3):=dA;exact cY
theorem BN (e:Ent) (w:World) (hc:e.course.size≤1000000) (hk:e.kind=7) (h0:aB e.fro 1 8=true) (h1:(e.fro==e.school)=false) :
  Calls prog 117 #[e.val] w fun x w'=>x=JT (JO JP (aY (cL e.kind) e 0))∧ac w.heap.size w w':=by
 have H:Hid (aY (cL e.kind) e 0=0):=dA;exact cY
theorem BO (e:Ent) (w:World) (hc:e.course.size≤1000000) (hk:e.kind=8) (h0:decide (e.programme < 1)=true) :
  Calls prog 117 #[e.val] w fun x w'=>x=JT (JO JP (aY (cL e.kind) e 0))∧ac w.heap.size w w':=by
 have H:Hid (aY (cL e.kind) e 0=3):=dA;exact cY
theorem BP (e:Ent) (w:World) (hc:e.course.size≤1000000) (hk:e.kind=8) (h0:decide (e.programme < 1)=false) :
  Calls prog 117 #[e.val] w fun x w'=>x=JT (JO JP (aY (cL e.kind) e 0))∧ac w.heap.size w w':=by
 have H:Hid (aY (cL e.kind) e 0=0):=dA;exact cY
theorem BQ (e:Ent) (w:World) (hc:e.course.size≤1000000) (hk:e.kind=9) (h0:aB e.ref 1 899999=false) :
  Calls prog 117 #[e.val] w fun x w'=>x=JT (JO JP (aY (cL e.kind) e 0))∧ac w.heap.size w w':=by
 have H:Hid (aY (cL e.kind) e 0=21):=dA;exact cY
theorem BS (e:Ent) (w:World) (hc:e.course.size≤1000000) (hk:e.kind=9) (h0:aB e.ref 1 899999=true) (h1:(e.ref==e.id)=true) :
  Calls prog 117 #[e.val] w fun x w'=>x=JT (JO JP (aY (cL e.kind) e 0))∧ac w.heap.size w w':=by
 have H:Hid (aY (cL e.kind) e 0=21):=dA;exact cY
theorem BU (e:Ent) (w:World) (hc:e.course.size≤1000000) (hk:e.kind=9) (h0:aB e.ref 1 899999=true) (h1:(e.ref==e.id)=false) :
  Calls prog 117 #[e.val] w fun x w'=>x=JT (JO JP (aY (cL e.kind) e 0))∧ac w.heap.size w w':=by
 have H:Hid (aY (cL e.kind) e 0=0):=dA;exact cY
theorem BV (e:Ent) (w:World) (hc:e.course.size≤1000000) (hk:1≤e.kind∧e.kind≤9) :
  Calls prog 117 #[e.val] w fun x w'=>x=JT (JO JP (aY (cL e.kind) e 0))∧ac w.heap.size w w':=by
 have h:e.kind=1∨e.kind=2∨e.kind=3∨e.kind=4∨e.kind=5∨e.kind=6∨e.kind=7∨e.kind=8∨e.kind=9:=mOm;rcases h with h | h | h | h | h | h | h | h | h
 ·skip
  cases g0:decide (e.programme < 1)
  ·skip
   exact Bo e w hc h g0
  ·skip
   exact Bn e w hc h g0
 ·skip
  cases g0:decide (e.programme < 1)
  ·skip
   cases g1:decide (e.version < 1)
   ·skip
    exact Br e w hc h g0 g1
   ·skip
    exact Bq e w hc h g0 g1
  ·skip
   exact Bp e w hc h g0
 ·skip
  cases g0:ie e.course.data.toList
  ·skip
   exact Bs e w hc h g0
  ·skip
   cases g1:aB e.credits 1 60
   ·skip
    exact Bt e w hc h g0 g1
   ·skip
    cases g2:aB e.grade (-1000) 1000
    ·skip
     exact Bu e w hc h g0 g1 g2
    ·skip
     exact Bv e w hc h g0 g1 g2
 ·skip
  cases g0:aB e.grade (-1000) 1000
  ·skip
   exact Bw e w hc h g0
  ·skip
   cases g1:aB e.ref 1 899999
   ·skip
    exact By e w hc h g0 g1
   ·skip
    cases g2:(e.ref==e.id)
    ·skip
     exact BA e w hc h g0 g1 g2
    ·skip
     exact Bz e w hc h g0 g1 g2
 ·skip
  cases g0:aB e.ref 1 899999
  ·skip
   exact BB e w hc h g0
  ·skip
   cases g1:(e.ref==e.id)
   ·skip
    exact BG e w hc h g0 g1
   ·skip
    exact BC e w hc h g0 g1
 ·skip
  cases g0:aB e.ref 1 899999
  ·skip
   exact BH e w hc h g0
  ·skip
   cases g1:(e.ref==e.id)
   ·skip
    exact BJ e w hc h g0 g1
   ·skip
    exact BI e w hc h g0 g1
 ·skip
  cases g0:aB e.fro 1 8
  ·skip
   exact BK e w hc h g0
  ·skip
   cases g1:(e.fro==e.school)
   ·skip
    exact BN e w hc h g0 g1
   ·skip
    exact BM e w hc h g0 g1
 ·skip
  cases g0:decide (e.programme < 1)
  ·skip
   exact BP e w hc h g0
  ·skip
   exact BO e w hc h g0
 ·skip
  cases g0:aB e.ref 1 899999
  ·skip
   exact BQ e w hc h g0
  ·skip
   cases g1:(e.ref==e.id)
   ·skip
    exact BU e w hc h g0 g1
   ·skip
    exact BS e w hc h g0 g1
