/- Lemmas. -/
import Derived.Test.YtnlhbdmeodbblaaGreatDoorMiab
import Derived.Laws.Tables
import Derived.Laws.Cover1
import Derived.Laws.ResultCell
import Derived.Laws.Rows
set_option maxRecDepth 100000
set_option maxHeartbeats 16000000
set_option linter.all false
open Go.Proofs.Tryz
open Array renaming getElem?_modify→dX
open Bool renaming eq_iff_iff→db,or_eq_true→eu
open Go.IntWalk renaming i64_in→aF
open Go.Lib renaming cell_of_heap→ae,frozen_of_heap→aE,hid→aa
open List renaming getD_eq_getElem?_getD→bi,getElem?_append_left→bl,getElem?_append_right→aK,getElem?_eq_getElem→ai,getElem?_eq_none→dG,getElem_mem→bD,length_append→ax,map_cons→ev,map_nil→mj,mem_append→bN,mem_singleton→bJ,toArray→aq
open Nat renaming le_refl→aD,lt_of_lt_of_le→av,lt_or_ge→gH,mod_lt→jw,zero_add→bM,zero_le→aR
open Go.RowKit renaming Below→ac
open Go.World renaming ownsRow_nil→dK,setCell→dL
open Go.Ending renaming returned→JT
open Go.IntKind renaming i64→JP
open Go.Obj renaming cells→JU
open Go.Value renaming int→JO,string→JQ,slice→JR,pointer→JS
open Option renaming some→JV,none→JW
namespace Go.Proofs.YtnlhbdmeodbblaaGreatDoor
section
open Go Go.RowKit Go.Sort Go.Lib
attribute [local go_sem] Ent.cells
def fJ (e:Ent):List UInt8:=cV e.student.toNat++32::(cV e.on.toNat++32::(cV e.id.toNat++32::[UInt8.ofNat (48+e.kind.toNat)]))
def fk (e:Ent):List UInt8:=if dr e=0 then fJ e else []
theorem kQ {n lo hi:Int} (h:cz n lo hi=false):lo≤n∧n≤hi:=by simp only [cz,Bool.or_eq_false_iff,decide_eq_false_iff_not] at h;omega
theorem mq {e:Ent} (h:dr e=0):(1≤e.id∧e.id≤899999)∧(1≤e.school∧e.school≤8)∧(1≤e.student∧e.student≤999999)∧(1≤e.kind∧e.kind≤9)∧(0≤e.day∧e.day≤100000)∧(0≤e.on∧e.on≤e.day):=by
 unfold dr at h
 split at h
 ·cases h
 rename_i h1
 split at h
 ·cases h
 rename_i h2
 split at h
 ·cases h
 rename_i h3
 simp only [eu,not_or,Bool.not_eq_true] at h1 h2 h3
 exact ⟨kQ h1.1.1,kQ h1.1.2,kQ h1.2,kQ h2.1,kQ h3.1,kQ h3.2⟩
theorem E3 (k:Int) (h:1≤k∧k≤9):Utf8.encode (48+k)=⟨#[UInt8.ofNat (48+k.toNat)]⟩:=by
 have:k=1∨k=2∨k=3∨k=4∨k=5∨k=6∨k=7∨k=8∨k=9:=mOm;rcases this with rfl | rfl | rfl | rfl | rfl | rfl | rfl | rfl | rfl
 all_goals rfl
theorem I5 (l0 l1 l2 l3:List UInt8) (W:World) (t:TypeId) (h0:l0.length≤1000) (h1:l1.length≤1000) (h2:l2.length≤1000) (h3:l3.length≤1000) :
  Calls prog 199 #[JR (JV ⟨W.heap.size,0,JW⟩) 4 4,JQ ⟨#[32]⟩] (W.alloc (JU #[JQ ⟨l0.toArray⟩,JQ ⟨l1.toArray⟩,JQ ⟨l2.toArray⟩,JQ ⟨l3.toArray⟩] t))
   fun e w'=>e=JT (JQ ⟨(l0++32::(l1++32::(l2++32::l3))).toArray⟩)∧Below (W.alloc (JU #[JQ ⟨l0.toArray⟩,JQ ⟨l1.toArray⟩,JQ ⟨l2.toArray⟩,JQ ⟨l3.toArray⟩] t)).heap.size (W.alloc (JU #[JQ ⟨l0.toArray⟩,JQ ⟨l1.toArray⟩,JQ ⟨l2.toArray⟩,JQ ⟨l3.toArray⟩] t)) w':=by
 have hj:Lib.join ([⟨l0.toArray⟩,⟨l1.toArray⟩,⟨l2.toArray⟩,⟨l3.toArray⟩].map (fun x:ByteArray=>x.data.toList)) (⟨#[32]⟩:ByteArray).data.toList=l0++32::(l1++32::(l2++32::l3)):=by simp [Lib.join,List.intercalate]
 have:=Tryz.strings_Join W.heap.size 0 4 [⟨l0.toArray⟩,⟨l1.toArray⟩,⟨l2.toArray⟩,⟨l3.toArray⟩] ⟨#[32]⟩ (W.alloc (JU #[JQ ⟨l0.toArray⟩,JQ ⟨l1.toArray⟩,JQ ⟨l2.toArray⟩,JQ ⟨l3.toArray⟩] t))
  (fun j x hx=>by
   rw [bM,ae (heap_alloc_new W _)]
   match j,hx with
   | 0,hx=>simp at hx;subst hx;rfl
   | 1,hx=>simp at hx;subst hx;rfl
   | 2,hx=>simp at hx;subst hx;rfl
   | 3,hx=>simp at hx;subst hx;rfl) mSi mSi mSi (by rw [hj];simp only [ax,List.length_cons];omega)
 rw [hj] at this
 exact this
theorem tS (n:Nat):(cV n).length=6:=rfl
theorem GR (e:Ent) (h:e.Ok) (w:World) :
  Calls prog 146 #[e.val] w fun x w'=>x=JT (JQ ⟨(fk e).toArray⟩)∧Below w.heap.size w w':=by
 have hc:=fun W=>C6 e h W
 by_cases h0:dr e=0
 ·have hr:fk e=fJ e:=by unfold fk;rw [if_pos h0]
  obtain ⟨r1,r2,r3,r4,r5,r6⟩:=mq h0;rw [h0] at hc;have H:=aa hr;clear hr h0;obtain ⟨a,ha⟩:=Int.eq_ofNat_of_zero_le (show 0≤e.student by omega);obtain ⟨b,hb⟩:=Int.eq_ofNat_of_zero_le (show 0≤e.on by omega);obtain ⟨c,hcc⟩:=Int.eq_ofNat_of_zero_le (show 0≤e.id by omega);have s1:=fun W=>vP a W mOm
  have s2:=fun W=>vP b W mOm
  have s3:=fun W=>vP c W mOm
  rw [← ha] at s1;rw [← hb] at s2;rw [← hcc] at s3;have HA:=aa ha;have HB:=aa hb;have HC:=aa hcc;clear ha hb hcc;have hcv:=E3 e.kind r4;have hw1:IntKind.i64.wrap (48+e.kind)=48+e.kind:=aF _ mOm;have hw2:IntKind.i32.wrap (48+e.kind)=48+e.kind:=IntWalk.i32_in _ mOm;have hb0:=au w (JU e.cells 67);have hbx:=fun j=>(LN.new w e).cell j
  go_enter func146,ntmps146;go_wp2_with fail;refine (hc _).mono ?_;rintro x w1 ⟨rfl,hb1⟩;have hbw:=LN.below (LN.new w e) hb1;have hbe:=hb0.trans (hb1.mono mSi);clear hb0 hbx hb1;have hbx:=fun j=>hbw.cell j
  go_wp2_with fail
  go_region_held3 (fun w'=>Below w.heap.size w w'∧∀ j,w'.cell? ⟨w.heap.size,j,none⟩=e.cells[j]?) (first | exact ⟨hbe.drew,hbx⟩ | assumption | exact LN.of_cells (e:=e) (by assumption) (au _ _))
   (first
    | (go_at_call 200;(first | (with_reducible refine (s1 _).mono ?_) | (with_reducible refine (s2 _).mono ?_) | (with_reducible refine (s3 _).mono ?_));rintro x w2 ⟨rfl,hb2⟩;have hS2:=LN.of_cells (e:=e) (by assumption) hb2)
    | (go_at_call 199;refine (I5 (cV a) (cV b) (cV c) [48+UInt8.ofNat e.kind.toNat] w2 _ (by rw [tS];omega) (by rw [tS];omega) (by rw [tS];omega) mSi).mono ?_;rintro x w3 ⟨rfl,hb3⟩;have hS3:=LN.of_cells (e:=e) (by assumption) hb3))
  rename_i hHeld
  clear hHeld
  go_wp2_with fail;go_ret;exact ⟨cJ (by rw [H.out];simp [fJ,HA.out,HB.out,HC.out,UInt8.ofNat_add]),hS3.1⟩
 ·have hr:fk e=[]:=by unfold fk;rw [if_neg h0]
  have hne:(dr e != 0)=true:=by simpa using h0
  have H:=aa hr;clear hr h0;go_enter func146,ntmps146;go_wp2_with fail;refine (hc _).mono ?_;rintro x w1 ⟨rfl,hb1⟩;go_wp2_with fail;go_ret;exact ⟨cJ (by rw [H.out]),(au w _).trans (hb1.mono mSi)⟩
end
section
open Go Go.RowKit Go.Sort Go.Lib
def gV (l:List Ent):List Value:=l.flatMap fun e=>e.cells.toList
theorem zx (l:List Ent) (k:Nat) (e:Ent) (h:l[k]? = JV e) (j:Nat) (v:Value) (hv:e.cells.toList[j]? = JV v):(gV l)[k*15+j]? = JV v:=by
 induction l generalizing k with
 | nil=>simp at h
 | cons a l ih =>
  have hl:a.cells.toList.length=15:=rfl;have hj:j < 15:=by
   rcases gH j 15 with h' | h'
   ·exact h'
   ·rw [dG (by exact h')] at hv;cases hv
  have e0:gV (a::l)=a.cells.toList++gV l:=rfl
  rw [e0]
  cases k with
  | zero =>
   simp only [List.getElem?_cons_zero,Option.some.injEq] at h;subst h;rw [Nat.zero_mul,bM,bl mOm];exact hv
  | succ k =>
   rw [aK mOm,hl,show (k+1)*15+j - 15=k*15+j by omega];exact ih k (by simpa using h)
end
section
open Go Go.RowKit Go.Sort Go.Lib
def rH:List Int→Nat→Int
 | [],_=>0
 | x::_,0=>x
 | _::l,k+1=>rH l k
def rI:List ByteArray→Nat→ByteArray
 | [],_=>⟨#[]⟩
 | x::_,0=>x
 | _::l,k+1=>rI l k
theorem vM (l:List Int) (k:Nat) (h:k < l.length):(l.map (Value.int JP))[k]? = JV (JO JP (rH l k)):=by
 induction l generalizing k with
 | nil=>simp at h
 | cons x l ih =>
  cases k with
  | zero=>rfl
  | succ k=>simpa [rH] using ih k (by simpa using h)
theorem vN (l:List ByteArray) (k:Nat) (h:k < l.length):(l.map Value.string)[k]? = JV (JQ (rI l k)):=by
 induction l generalizing k with
 | nil=>simp at h
 | cons x l ih =>
  cases k with
  | zero=>rfl
  | succ k=>simpa [rI] using ih k (by simpa using h)
theorem wO (W:World) (l:List Int) (t:TypeId) (b k:Nat) (hb:W.heap.size=b) (h:k < l.length):(W.alloc (JU (l.map (Value.int JP)).toArray t)).cell? ⟨b,k,JW⟩=JV (JO JP (rH l k)):=by subst hb;rw [ae (heap_alloc_new W _)];simpa using vM l k h
theorem wP (W:World) (l:List ByteArray) (t:TypeId) (b k:Nat) (hb:W.heap.size=b) (h:k < l.length):(W.alloc (JU (l.map Value.string).toArray t)).cell? ⟨b,k,JW⟩=JV (JQ (rI l k)):=by subst hb;rw [ae (heap_alloc_new W _)];simpa using vN l k h
theorem Iw (W:World) (x0 x1 x2 x3:Int) (t:TypeId) (b n:Nat) (hb:W.heap.size=b):(W.alloc (JU #[JO JP x0,JO JP x1,JO JP x2,JO JP x3] t)).cell? ⟨b,n%4,JW⟩=JV (JO JP (rH [x0,x1,x2,x3] (n%4))):=
 wO W [x0,x1,x2,x3] t b (n%4) hb (jw _ mDe)
theorem Iy (W:World) (x0 x1 x2 x3 x4 x5:Int) (t:TypeId) (b n:Nat) (hb:W.heap.size=b):(W.alloc (JU #[JO JP x0,JO JP x1,JO JP x2,JO JP x3,JO JP x4,JO JP x5] t)).cell? ⟨b,n%6,JW⟩=JV (JO JP (rH [x0,x1,x2,x3,x4,x5] (n%6))):=
 wO W [x0,x1,x2,x3,x4,x5] t b (n%6) hb (jw _ mDe)
theorem IB (W:World) (x0 x1 x2 x3:ByteArray) (t:TypeId) (b n:Nat) (hb:W.heap.size=b):(W.alloc (JU #[JQ x0,JQ x1,JQ x2,JQ x3] t)).cell? ⟨b,n%4,JW⟩=JV (JQ (rI [x0,x1,x2,x3] (n%4))):=
 wP W [x0,x1,x2,x3] t b (n%4) hb (jw _ mDe)
theorem IC (W:World) (x0 x1 x2 x3 x4:ByteArray) (t:TypeId) (b n:Nat) (hb:W.heap.size=b):(W.alloc (JU #[JQ x0,JQ x1,JQ x2,JQ x3,JQ x4] t)).cell? ⟨b,n%5,JW⟩=JV (JQ (rI [x0,x1,x2,x3,x4] (n%5))):=
 wP W [x0,x1,x2,x3,x4] t b (n%5) hb (jw _ mDe)
theorem Iz (x0 x1 x2 x3:Int) (n:Nat):[Value.int JP x0,JO JP x1,JO JP x2,JO JP x3][n%4]? = JV (JO JP (rH [x0,x1,x2,x3] (n%4))):=vM [x0,x1,x2,x3] (n%4) (jw _ mDe)
theorem IA (x0 x1 x2 x3 x4 x5:Int) (n:Nat):[Value.int JP x0,JO JP x1,JO JP x2,JO JP x3,JO JP x4,JO JP x5][n%6]? = JV (JO JP (rH [x0,x1,x2,x3,x4,x5] (n%6))):=vM [x0,x1,x2,x3,x4,x5] (n%6) (jw _ mDe)
theorem ID (x0 x1 x2 x3:ByteArray) (n:Nat):[Value.string x0,JQ x1,JQ x2,JQ x3][n%4]? = JV (JQ (rI [x0,x1,x2,x3] (n%4))):=vN [x0,x1,x2,x3] (n%4) (jw _ mDe)
theorem IE (x0 x1 x2 x3 x4:ByteArray) (n:Nat):[Value.string x0,JQ x1,JQ x2,JQ x3,JQ x4][n%5]? = JV (JQ (rI [x0,x1,x2,x3,x4] (n%5))):=vN [x0,x1,x2,x3,x4] (n%5) (jw _ mDe)
attribute [local go_sem] Iw Iy IB IC Iz IA ID IE
theorem C0 (w:World) (o o':Obj):ac w.heap.size w ((w.alloc o).alloc o'):=((Below.refl _ _).alloc (aD _) o).alloc mSi o'
theorem li (w:World) (o o' o'':Obj):ac w.heap.size w (((w.alloc o).alloc o').alloc o''):=(C0 w o o').alloc (by simp;omega) o''
theorem LN.setc {w:World} {b:Nat} {e e':Ent} (h:LN w b e) (j:Nat) (u:Value) (he:e.cells.setIfInBounds j u=e'.cells):LN (w.setCell ⟨b,j,JW⟩ u) b e':=by unfold LN at *;rw [← he];simp [dL,dX,h]
def zeroCells:Array Value:=#[JO JP 0,JO JP 0,JO JP 0,JO JP 0,JO JP 0,JO JP 0,JQ ⟨#[]⟩,JO JP 0,JO JP 0,JO JP 0,JO JP 0,JO JP 0,JO JP 0,JO JP 0,JQ ⟨#[]⟩]
theorem mF (w:World) (o o' o'':Obj):(((w.alloc o).alloc o').alloc o'').heap[w.heap.size]? = JV o∧(((w.alloc o).alloc o').alloc o'').heap[w.heap.size+1+1]? = JV o'':=by
 constructor
 ·rw [(au ((w.alloc o).alloc o') o'').block _ (by simp;omega),(au (w.alloc o) o').block _ mSi];exact heap_alloc_new _ _
 ·have:=heap_alloc_new ((w.alloc o).alloc o') o'';rw [size_alloc,size_alloc] at this;exact this
theorem fl {W:World} {b:Nat} {cs:Array Value} {t:TypeId} {fz:Nat×Nat} (h:W.heap[b]? = JV (JU cs t fz)) (cs':Array Value):(W.setRow b cs').heap[b]? = JV (JU cs' t fz):=by simp [World.setRow,dX,h]
theorem aQ {B b:Nat} {w W:World} (h:ac B w W) (hb:B≤b) (cs:Array Value):ac B w (W.setRow b cs):=
 h.trans ⟨rfl,rfl,rfl,by simp [World.setRow],fun k hk=>by
  show (W.heap.modify b _)[k]? = W.heap[k]?
  rw [dX,if_neg mOm]⟩
end
section
open Go Go.RowKit Go.Sort Go.Lib
def LW (B:Nat) (A:Option Addr) (n:Nat) (w:World):Prop:=
 n≤1000000000000000000∧∀ j,j < n→∃ b off z,A=JV ⟨b,off,JW⟩∧b < B∧w.cell? ⟨b,off+j,JW⟩=JV (JO JP z)∧I64 z
theorem LW.below {B:Nat} {A:Option Addr} {n:Nat} {w w':World} (h:LW B A n w) (hb:Below B w w'):LW B A n w':=
 ⟨h.1,fun j hj=>by
  obtain ⟨b,off,z,hA,hB,hc,hz⟩:=h.2 j hj
  exact ⟨b,off,z,hA,hB,(hb.cell (p:=⟨b,off+j,JW⟩) hB).trans hc,hz⟩⟩
def mT (w:World) (d:Nat) (A:Option Addr) (n c k:Nat):Prop:=w.heap[d]? = JV (JU #[JR A n c,JO JP k] 144 (0,0))
def vj (d:Nat) (w w':World):Prop:=w.grownBy w' (JV d)
def Ew (d:Nat) (A:Option Addr) (n c _k:Nat) (m:Int) (w:World) (x:Ending) (w':World):Prop:=
 ∃ v:Int,x=JT (JO JP v)∧0≤v∧v < m∧(∃ k',k'≤n∧mT w' d A n c k')∧vj d w w'
theorem He {P:Program} {f:FuncId} {args:Array Value} {w:World} {n:Nat} {v:Value} (h:Calls P f args (w.drewN n) fun e w'=>e=JT v∧w.drewN n=w') :
  Calls P f args (w.drewN n) fun e w''=>e=JT v∧∃ m,w''=w.drewN m:=h.mono fun _ _ ⟨he,hm⟩=>⟨he,n,hm.symm⟩
theorem FS (B d:Nat) (A:Option Addr) (n c k:Nat) (m:Int) (w:World) (hm:0 < m) (hm2:m≤1000000) (hd:mT w d A n c k) (hB:B≤d) (hk:k≤n) (hi:LW B A n w) :
  Calls prog 82 #[JS (JV ⟨d,0,JW⟩),JO JP m] w (Ew d A n c k m w):=by
 have hc0:w.cell? ⟨d,0,JW⟩=JV (JR A n c):=ae hd 0;have hc1:w.cell? ⟨d,1,JW⟩=JV (JO JP k):=ae hd 1;have hf1:w.frozen? ⟨d,1,JW⟩=false:=aE hd 1;have hn:=hi.1;by_cases hlt:k < n
 ·obtain ⟨b,off,z,rfl,hbB,hz,hz2⟩:=hi.2 k hlt;have hbd:b ≠ d:=mOm;have hlt':¬ (n:Int)≤(k:Int):=mOm;have hm':=fun W=>vE z m W hm hm2
  go_enter func82,ntmps82;go_wp2_with fail
  go_quiet (fail)
  go_wp2_with fail
  go_quiet ((go_at_call 37;exact He (hm' _)))
  go_wp2_with fail;go_ret;have h1:=Int.emod_nonneg z (show m ≠ 0 by omega);have h2:=Int.emod_lt_of_pos z hm;refine ⟨z%m,rfl,h1,h2,⟨k+1,mOm,?_⟩,?_⟩
  ·unfold mT at hd ⊢
   show (((w.drewN _).setCell ⟨d,1,JW⟩ (JO JP (k+1))).heap)[d]? = _
   simp [dL,dX]
   exact ⟨_,hd,rfl⟩
  ·exact ⟨rfl,rfl,rfl,by simp [dL],fun k _ hk=>Below.heap_setCell _ _ _ _ (by simpa using hk)⟩
 ·have hlt':(n:Int)≤(k:Int):=mOm;go_enter func82,ntmps82;go_wp2_with fail
  go_quiet (fail)
  go_wp2_with fail;go_ret;exact ⟨0,rfl,mOm,hm,⟨k,mOm,hd⟩,⟨rfl,rfl,rfl,aD _,fun _ _ _=>rfl⟩⟩
end
section
open Go Go.RowKit Go.Sort Go.Lib
theorem Fp:(prog.info? 3).map (fun i=>(i.zero,i.size,i.bytes))=JV (JV (JO JP 0),1,8):=mKr
def Ents (base:Nat) (w:World) (v:Value) (es:List Ent):Prop:=w.ownsRow base 67 15 v es.length (gV es)
theorem Ents.below {base:Nat} {w w':World} {v:Value} {es:List Ent} (h:Ents base w v es) (hb:Below w.heap.size w w'):Ents base w' v es:=
 World.ownsRow.kept (row:=JW) h ⟨hb.os,hb.tape,hb.output,hb.size,fun k hk _=>hb.block k hk⟩ (by cases hv:v.ownBlock <;> simp)
theorem Ents.form {base:Nat} {w:World} {v:Value} {es:List Ent} (h:Ents base w v es):∃ A c,v=JR A es.length c∧(0 < es.length→∃ g,A=JV ⟨g,0,JW⟩∧base≤g∧g < w.heap.size∧∀ k e,es[k]? = JV e→EntAt w g (k*15) e):=by
 rcases h.2 with ⟨hv,h0⟩ | ⟨g,cap,cur,hv,hb,hg,hn,hc,hs,htake⟩
 ·exact ⟨JW,0,by rw [hv,h0],fun hp=>by omega⟩
 ·refine ⟨JV ⟨g,0,JW⟩,cap,hv,fun _=>⟨g,rfl,hb,ay hg,fun k e he j u hu=>?_⟩⟩;have h1:=zx es k e he j u hu;rw [ae hg];rw [← htake,List.getElem?_take] at h1
  split at h1
  ·simpa using h1
  ·cases h1
def Ex (es:List Ent) (st kd:Int) (w:World) (x:Ending) (w':World):Prop:=
 ∃ r:Int,x=JT (JO JP r)∧(r=0∨∃ e∈es,e.student=st∧e.kind=kd∧r=e.id)∧Below w.heap.size w w'
theorem FU (base:Nat) (v:Value) (es:List Ent) (st kd:Int) (n:Nat) (w:World) (h:Ents base w v es) (hl:es.length≤1000) (hn:n≤1000) :
  Calls prog 83 #[v,JO JP st,JO JP kd,JO JP n] w (Ex es st kd w):=by
 obtain ⟨i0,hi,hz0,hz1,hz2⟩:=info_parts Fp;obtain ⟨A,c,rfl,hA⟩:=h.form;go_enter func83,ntmps83;go_wp2_with fail
 go_loopw [9,10] (fun v i wr=>∃ (k:Nat) (ids:List Int),k≤es.length∧i=JO JP k∧ids.length≤k∧(∀ r∈ids,∃ e∈es,e.student=st∧e.kind=kd∧r=e.id)∧wr.ownsRow w.heap.size 3 1 v ids.length (ids.map (Value.int JP))∧Below w.heap.size w wr) (fun _ i _=>es.length - (intOf i).toNat)
 case atStart=>exact ⟨0,[],aR _,rfl,aD _,mSi,dK _ _ _ _,Below.refl _ _⟩
 case round =>
  obtain ⟨k,ids,hk,rfl,hkl,hids,hown,hbe⟩:=hrel;by_cases hlt:k < es.length
  ·obtain ⟨g,rfl,hg0,hg1,hat⟩:=hA mOm;have he:es[k]? = JV es[k]:=ai hlt;have hm:es[k]∈es:=bD hlt;generalize es[k]=e at he hm;have hat1:=(hat k e he).below hbe hg1;have c0:wr.cell? ⟨g,k*15,JW⟩=JV (JO JP e.id):=hat1.cell 0 rfl;have c2:wr.cell? ⟨g,k*15+2,JW⟩=JV (JO JP e.student):=hat1.cell 2 rfl;have c3:wr.cell? ⟨g,k*15+3,JW⟩=JV (JO JP e.kind):=hat1.cell 3 rfl;clear hA hat hat1 h;by_cases h1:e.student=st
   ·by_cases h2:e.kind=kd
    ·have hnew:∀ j u,[Value.int JP e.id][j]? = JV u→(wr.alloc (JU #[JO JP e.id] 3)).cell? ((⟨wr.heap.size,0,JW⟩:Addr).add j)=JV u:=by
      intro j u hj
      match j,hj with
      | 0,hj=>simp at hj;subst hj;exact ae (heap_alloc_new wr _) 0
     have hown1:=hown.alloc (JU #[JO JP e.id] 3)
     go_wp2_with (at_builtin;go_must (refine wpList_append_own _ rfl (.tmp 33) (.tmp 39) 22 rfl w.heap.size 3 i0 (JO JP 0) 1 8 underlying22 hi hz0 hz1 hz2 rfl mDe _ _ _ rfl hown1 ⟨wr.heap.size,0,JW⟩ 1 1 [JO JP e.id] rfl rfl hnew (by simp [Value.oneCell']) (by unfold maxLen;omega) mOm (by simp;have:=hbe.size;omega) ?_);intro v' w1 hown' hgrow _);have hbe':ac w.heap.size w w1:=(hbe.trans ((au wr _).mono hbe.size)).grown hgrow (by simp;have:=hbe.size;omega) (fun q hq=>(hown.lt q hq).1);clear hown hown1 hgrow hnew;go_wp2_with fail
     go_roundw
     case rel =>
      refine ⟨k+1,ids++[e.id],mOm,by go_num,by simp;omega,?_,by simpa using hown',hbe'⟩;intro r hr;rcases bN.1 hr with hr | hr
      ·exact hids r hr
      ·simp at hr;exact ⟨e,hm,h1,h2,hr⟩
     case measure=>simp [intOf];omega
    ·go_wp2_with fail
     go_roundw
     case rel=>exact ⟨k+1,ids,mOm,by go_num,mOm,hids,hown,hbe⟩
     case measure=>simp [intOf];omega
   ·go_wp2_with fail
    go_roundw
    case rel=>exact ⟨k+1,ids,mOm,by go_num,mOm,hids,hown,hbe⟩
    case measure=>simp [intOf];omega
  ·obtain rfl:k=es.length:=mOm;clear hA h hlt hk;obtain ⟨A',c',rfl,hA'⟩:∃ A' c',u9=JR A' ids.length c'∧(0 < ids.length→∃ g,A'=JV ⟨g,0,JW⟩∧∀ j,j < ids.length→wr.cell? ⟨g,j,JW⟩=JV (JO JP (ids.getD j 0))):=by
    rcases hown.2 with ⟨hv,h0⟩ | ⟨g,cap,cur,hv,hb,hg,hn',hc',hs,htake⟩
    ·exact ⟨JW,0,by rw [hv,h0],fun hp=>by omega⟩
    ·refine ⟨JV ⟨g,0,JW⟩,cap,hv,fun _=>⟨g,rfl,fun j hj=>?_⟩⟩;have h1:(ids.map (Value.int JP))[j]? = JV (JO JP (ids.getD j 0)):=by simp [bi,ai hj]
     rw [← htake,List.getElem?_take] at h1;rw [ae hg]
     split at h1
     ·simpa using h1
     ·cases h1
   clear hown
   by_cases h0:ids.length=0
   ·have h0':(((ids.length:Nat):Int)==0)=true:=by simp [h0]
    clear hA';go_wp2_with fail;go_ret;exact ⟨0,rfl,.inl rfl,hbe⟩
   ·have h0':(((ids.length:Nat):Int)==0)=false:=by simp [h0]
    have hlt:n%ids.length < ids.length:=jw _ mOm;obtain ⟨g,rfl,hcell⟩:=hA' mOm;have hc:=hcell _ hlt;have hmem:=hids _ (ng hlt);generalize ids.getD (n%ids.length) 0=r at hc hmem;clear hcell hA' hids;go_wp2_with fail;go_ret;exact ⟨r,rfl,.inr hmem,hbe⟩
def Hu (es:List Ent) (w:World) (x:Ending) (w':World):Prop:=
 ∃ r:Int,x=JT (JO JP r)∧(r=0∨∃ e∈es,r=e.on)∧w=w'
theorem Ir (base:Nat) (v:Value) (es:List Ent) (id:Int) (w:World) (h:Ents base w v es) (hl:es.length≤1000) :
  Calls prog 85 #[v,JO JP id] w (Hu es w):=by
 obtain ⟨A,c,rfl,hA⟩:=h.form;clear h;go_enter func85,ntmps85;go_wp2_with fail
 go_loop [5] (fun i=>∃ k:Nat,k≤es.length∧i=JO JP k) (fun i=>es.length - (intOf i).toNat)
 case atStart=>exact ⟨0,aR _,rfl⟩
 case round =>
  obtain ⟨k,hk,rfl⟩:=hrel;by_cases hlt:k < es.length
  ·obtain ⟨g,rfl,hg0,hg1,hat⟩:=hA mOm;have he:es[k]? = JV es[k]:=ai hlt;have hm:es[k]∈es:=bD hlt;generalize es[k]=e at he hm;have hat1:=hat k e he;have c0:w.cell? ⟨g,k*15,JW⟩=JV (JO JP e.id):=hat1.cell 0 rfl;have c5:w.cell? ⟨g,k*15+5,JW⟩=JV (JO JP e.on):=hat1.cell 5 rfl;clear hA hat hat1;by_cases h1:e.id=id
   ·go_wp2_with fail;go_ret;exact ⟨e.on,rfl,.inr ⟨e,hm,rfl⟩,rfl⟩
   ·go_wp2_with fail
    go_round
    case rel=>exact ⟨k+1,mOm,by go_num⟩
    case measure=>simp [intOf];omega
  ·obtain rfl:k=es.length:=mOm;clear hA hlt hk;go_wp2_with fail;go_ret;exact ⟨0,rfl,.inl rfl,rfl⟩
end
section
open Go Go.RowKit Go.Sort Go.Lib
attribute [local go_sem] Ent.cells
def codesL:List ByteArray:=[⟨#[65,49]⟩,⟨#[66,49]⟩,⟨#[66,50]⟩,⟨#[67,49]⟩,⟨#[68,49]⟩,⟨#[69,57]⟩]
theorem C8 (w:World) :
  Calls prog 84 #[] w fun x w'=>x=JT (JR (JV ⟨w.heap.size,0,JW⟩) 6 6)∧w'=w.alloc (JU #[JQ ⟨#[65,49]⟩,JQ ⟨#[66,49]⟩,JQ ⟨#[66,50]⟩,JQ ⟨#[67,49]⟩,JQ ⟨#[68,49]⟩,JQ ⟨#[69,57]⟩] 9):=by
 go_enter func84,ntmps84;go_wp2_with fail;go_ret;exact ⟨rfl,rfl⟩
structure Good (sc:Int) (e:Ent):Prop where
 id:1≤e.id∧e.id≤24
 school:e.school=sc
 student:1≤e.student∧e.student≤3
 kind:1≤e.kind∧e.kind≤9
 day:0≤e.day∧e.day≤600
 on:0≤e.on∧e.on≤e.day
 key:e.key=0
 mark:e.mark=⟨#[]⟩
 course:if e.kind=3 then e.course∈codesL∧(e.credits=5∨e.credits=6∨e.credits=10) else e.course=⟨#[]⟩∧e.credits=0
 grade:if e.kind=3∨e.kind=4 then 0≤e.grade∧e.grade≤100 else e.grade=0
 ref:if e.kind=4∨e.kind=5∨e.kind=6∨e.kind=9 then 1≤e.ref∧e.ref < e.id else e.ref=0
 fro:if e.kind=7 then e.fro=1+sc%3 else e.fro=0
 programme:if e.kind=1∨e.kind=8∨e.kind=2 then 1≤e.programme∧e.programme≤2 else e.programme=0
 version:if e.kind=2 then 1≤e.version∧e.version≤3 else e.version=0
structure L4 (sc:Int) (es:List Ent):Prop where
 len:es.length≤24
 good:∀ e∈es,Good sc e
 ids:∀ (k:Nat) (e:Ent),es[k]? = JV e→e.id=k+1
 days:∀ (i j:Nat) (a b:Ent),i≤j→es[i]? = JV a→es[j]? = JV b→a.day≤b.day
def xz (d:Nat) (A:Option Addr) (n c:Nat) (w:World):Prop:=∃ k,k≤n∧mT w d A n c k
def IW (d:Nat) (A:Option Addr) (n c:Nat) (m:Nat) (w:World) (x:Ending) (w':World):Prop:=
 ∃ v:Nat,x=JT (JO JP v)∧v < m∧xz d A n c w'∧vj d w w'
theorem kY (d:Nat) (A:Option Addr) (n c:Nat) (m:Nat) (w:World) (hm:0 < m) (hm2:m≤1000000) (hd:xz d A n c w) (hi:LW d A n w) :
  Calls prog 82 #[JS (JV ⟨d,0,JW⟩),JO JP m] w (IW d A n c m w):=by
 obtain ⟨k,hk,hd⟩:=hd;refine (FS d d A n c k m w mOm mOm hd (aD _) hk hi).mono ?_;rintro x w' ⟨v,rfl,h0,h1,⟨k',hk',hd'⟩,ho⟩;exact ⟨v.toNat,by rw [Int.toNat_of_nonneg h0],mOm,⟨k',hk',hd'⟩,ho⟩
structure MR (w:World) (A:Option Addr) (n c:Nat) (v:Value) (es:List Ent) (wr:World):Prop where
 below:ac w.heap.size w wr
 ents:Ents w.heap.size wr v es
 draw:xz w.heap.size A n c wr
 ints:LW w.heap.size A n wr
theorem Az {base:Nat} {w:World} {v:Value} {es:List Ent} {d:Nat} {cs:Array Value} {t:TypeId} (h:Ents base w v es) (hd:w.heap[d]? = JV (JU cs t (0,0))) (ht:t ≠ 67):v.ownBlock ≠ JV d:=by
 rcases h.2 with ⟨hv,_⟩ | ⟨g,cap,cur,hv,hb,hg,_⟩
 ·rw [hv];simp [Value.ownBlock]
 ·rw [hv];intro e;have e':g=d:=by simpa [Value.ownBlock] using e
  subst e';rw [hg] at hd;injection hd with hd;injection hd with _ hd;exact ht hd.symm
theorem LW.only {B d:Nat} {A:Option Addr} {n:Nat} {w w':World} (h:LW B A n w) (hB:B≤d) (hw:B≤w.heap.size) (ho:vj d w w'):LW B A n w':=
 h.below ⟨ho.os,ho.tape,ho.output,ho.size,fun k hk=>ho.block k mOm (by simp;omega)⟩
theorem MR.only {w wr w':World} {A:Option Addr} {n c:Nat} {v:Value} {es:List Ent} (h:MR w A n c v es wr) (hd:xz w.heap.size A n c w') (ho:vj w.heap.size wr w'):MR w A n c v es w':=by
 obtain ⟨k,hk,hda⟩:=h.draw;refine ⟨h.below.trans ⟨ho.os,ho.tape,ho.output,ho.size,fun k hk=>ho.block k (by have:=h.below.size;omega) (by simp;omega)⟩,?_,hd,h.ints.only (aD _) h.below.size ho⟩;exact World.ownsRow.kept h.ents ho (.inr (Az h.ents hda mDe))
theorem MR.below' {w wr w':World} {A:Option Addr} {n c:Nat} {v:Value} {es:List Ent} (h:MR w A n c v es wr) (hb:ac wr.heap.size wr w'):MR w A n c v es w':=by obtain ⟨k,hk,hda⟩:=h.draw;refine ⟨h.below.trans (hb.mono h.below.size),h.ents.below hb,⟨k,hk,?_⟩,h.ints.below (hb.mono h.below.size)⟩;unfold mT at *;rw [hb.block _ (ay hda)];exact hda
theorem MR.set {w wr:World} {A:Option Addr} {n c:Nat} {v:Value} {es:List Ent} (h:MR w A n c v es wr) {b:Nat} (hb:w.heap.size < b) (hv:v.ownBlock ≠ JV b) (j:Nat) (u:Value):MR w A n c v es (wr.setCell ⟨b,j,JW⟩ u):=by
 obtain ⟨k,hk,hda⟩:=h.draw;have ho:wr.grownBy (wr.setCell ⟨b,j,JW⟩ u) (JV b):=⟨rfl,rfl,rfl,by simp [dL],fun k _ hk=>Below.heap_setCell _ _ _ _ (by simpa using hk)⟩;have hbl:ac w.heap.size wr (wr.setCell ⟨b,j,JW⟩ u):=⟨rfl,rfl,rfl,by simp [dL],fun k hk=>Below.heap_setCell _ _ _ _ (by show k ≠ b;omega)⟩;refine ⟨h.below.trans hbl,World.ownsRow.kept h.ents ho (.inr hv),⟨k,hk,?_⟩,h.ints.below hbl⟩;unfold mT at *;rw [Below.heap_setCell _ _ _ _ (by show w.heap.size ≠ b;omega)];exact hda
theorem LN.only {w w':World} {b d:Nat} {e:Ent} (h:LN w b e) (ho:vj d w w') (hbd:b ≠ d):LN w' b e:=by unfold LN at *;rw [ho.block b (ay h) (by simpa using hbd)];exact h
theorem L0.only {w w':World} {b d:Nat} {l:List Int} (h:L0 w b l) (ho:vj d w w') (hbd:b ≠ d):L0 w' b l:=by unfold L0 at *;rw [ho.block b (ay h) (by simpa using hbd)];exact h
theorem LN.set {w:World} {b:Nat} {e e':Ent} (h:LN w b e) (j:Nat) (u:Value) (he:e.cells.setIfInBounds j u=e'.cells):LN (w.setCell ⟨b,j,JW⟩ u) b e':=by unfold LN at *;rw [← he];simp [dL,dX,h]
theorem LN.frozen {w:World} {b:Nat} {e:Ent} (h:LN w b e) (j:Nat):w.frozen? ⟨b,j,JW⟩=false:=aE h j
def kindL:List Int:=[1,3,3,3,3,3,4,5,6,7,8,9,2,3,8]
theorem zI (k:Nat) (h:k < 15):1≤kindL.getD k 0∧kindL.getD k 0≤9:=by have:∀ i:Fin 15,1≤kindL.getD i.1 0∧kindL.getD i.1 0≤9:=mDe;exact this ⟨k,h⟩
theorem eG {W:World} {b:Nat} {o:Obj} (h:W.heap[b]? = JV o) (o':Obj):(W.alloc o').heap[b]? = JV o:=(Below.heap_alloc W o' b (ay h)).trans h
theorem rJ (w:World) (a:Addr) (u:Value):(w.setCell a u).heap.size=w.heap.size:=by simp [dL]
def IV (w:World) (A:Option Addr) (n c:Nat) (v:Value) (es:List Ent) (eb:Nat) (m:Nat) (W:World) (x:Ending) (w':World):Prop:=
 ∃ g:Nat,x=JT (JO JP g)∧g < m∧MR w A n c v es w'∧(∀ o,W.heap[eb]? = JV o→w'.heap[eb]? = JV o)∧eb < w'.heap.size
theorem GY (w:World) (A:Option Addr) (n c:Nat) (v:Value) (es:List Ent) (eb:Nat) (m:Nat) (W:World) (hm:0 < m) (hm2:m≤1000000) (heb:w.heap.size < eb) (hlt:eb < W.heap.size) (hM:MR w A n c v es W) :
  Calls prog 82 #[JS (JV ⟨w.heap.size,0,JW⟩),JO JP m] W (IV w A n c v es eb m W):=by
 refine (kY w.heap.size A n c m _ hm hm2 hM.draw hM.ints).mono ?_;rintro x w' ⟨g,rfl,hg,hd,ho⟩;have hb:=ho.block eb hlt (by simp;omega);exact ⟨g,rfl,hg,hM.only hd ho,fun o h=>hb.trans h,av hlt ho.size⟩
def IX (w:World) (A:Option Addr) (n c:Nat) (v:Value) (es:List Ent) (eb:Nat) (W:World) (x:Ending) (w':World):Prop:=
 ∃ r:Int,x=JT (JO JP r)∧(r=0∨1≤r∧r≤es.length)∧MR w A n c v es w'∧(∀ o,W.heap[eb]? = JV o→w'.heap[eb]? = JV o)∧eb < w'.heap.size
theorem GU {sc:Int} {es:List Ent} (hok:L4 sc es) {e:Ent} (he:e∈es):1≤e.id∧e.id≤es.length:=by obtain ⟨i,hi,rfl⟩:=List.getElem_of_mem he;have:=hok.ids i _ (ai hi);omega
theorem G4 (w:World) (A:Option Addr) (n c:Nat) (v:Value) (es:List Ent) (eb:Nat) (st kd sc:Int) (nn:Nat) (W:World) (hnn:nn≤1000) (hok:L4 sc es) (hlt:eb < W.heap.size) (hM:MR w A n c v es W) :
  Calls prog 83 #[v,JO JP st,JO JP kd,JO JP nn] W (IX w A n c v es eb W):=by
 refine (FU w.heap.size v es st kd nn W hM.ents (by have:=hok.len;omega) hnn).mono ?_;rintro x w' ⟨r,rfl,hr,hb⟩;refine ⟨r,rfl,?_,hM.below' hb,fun o h=>(hb.block eb hlt).trans h,av hlt hb.size⟩;rcases hr with rfl | ⟨e,he,_,_,rfl⟩
 ·exact .inl rfl
 ·exact .inr (GU hok he)
def OnM (day:Int) (W:World) (x:Ending) (w':World):Prop:=∃ r:Int,x=JT (JO JP r)∧0≤r∧r≤day∧W=w'
theorem Jb (w:World) (A:Option Addr) (n c:Nat) (v:Value) (es:List Ent) (id sc day:Int) (W:World) (hday:0≤day) (hd:∀ e∈es,e.day≤day) (hok:L4 sc es) (hM:MR w A n c v es W) :
  Calls prog 85 #[v,JO JP id] W (OnM day W):=by
 refine (Ir w.heap.size v es id W hM.ents (by have:=hok.len;omega)).mono ?_;rintro x w' ⟨r,rfl,hr,rfl⟩;refine ⟨r,rfl,?_⟩;rcases hr with rfl | ⟨e,he,rfl⟩
 ·exact ⟨mOm,hday,rfl⟩
 ·have h1:=(hok.good e he).on;have h2:=hd e he;exact ⟨h1.1,mOm,rfl⟩
theorem Jl (a b D:Int) (ha:a≤D) (hb:b≤D) (hD:0≤D):∃ m,0≤m∧m≤D∧∀ (ts:Array TypeId) (t:TypeId) (W:World),(Builtin.max_ ts t #[JO JP 0,JO JP a,JO JP b]).run prog W=.ok (JO JP m) W:=
 ⟨if b > (if a > 0 then a else 0) then b else (if a > 0 then a else 0),by split <;> split <;> omega,by split <;> split <;> omega,fun ts t W=>run_max_int3 W ts t _ _ _ 0 a b⟩
theorem E8:(prog.info? 67).map (fun i=>(i.zero,i.size,i.bytes))=JV (JV (.agg #[JO JP 0,JO JP 0,JO JP 0,JO JP 0,JO JP 0,JO JP 0,JQ ⟨#[]⟩,JO JP 0,JO JP 0,JO JP 0,JO JP 0,JO JP 0,JO JP 0,JO JP 0,JQ ⟨#[]⟩]),15,136):=mKr
theorem xc (es:List Ent) (e:Ent):gV es++e.cells.toList=gV (es++[e]):=by simp [gV]
theorem Gv {ops:Array Oper} {rest:List Oper} {o:Oper} {a:Act} {W:World} {Q:Exit→Act→World→Prop} (hgd:o.guard=JW) (s x:Operand)
  (ho:o.op=.call { callee:=.builtin .append,args:=#[s,x],argTypes:=#[34,34] }) (base:Nat) (v:Value) (es:List Ent) (hs:a.eval s=v) (hown:Ents base W v es) (e:Ent)
  (b:Nat) (hb:W.heap.size=b) (hx:a.eval x=JR (JV ⟨b,0,JW⟩) 1 1) (hlen:es.length≤100000) (hbase:base≤W.heap.size)
  (h:∀ v' w',Ents base w' v' (es++[e])→(W.alloc (JU e.cells 67)).grownBy w' v.ownBlock→wpList prog ops Q rest (a.put o.dst v') w'):wpList prog ops Q (o::rest) a (W.alloc (JU e.cells 67)):=by
 subst hb;obtain ⟨i0,hi,hz0,hz1,hz2⟩:=info_parts E8;refine wpList_append_own _ hgd s x 34 ho base 67 i0 _ 15 136 underlying34 hi hz0 hz1 hz2 rfl mDe v es.length (gV es) hs (World.ownsRow.alloc hown _) ⟨W.heap.size,0,JW⟩ 1 1 e.cells.toList hx rfl ?_ ?_ (by unfold maxLen;omega) mOm (by simp;omega) ?_
 ·intro j u hj;have hadd:(⟨W.heap.size,0,JW⟩:Addr).add j=⟨W.heap.size,j,JW⟩:=by unfold Addr.add;split <;> simp_all
  rw [hadd,ae (heap_alloc_new W _)]
  simpa using hj
 ·intro u hu;simp [Ent.cells] at hu;rcases hu with rfl | rfl | rfl | rfl | rfl | rfl | rfl | rfl | rfl | rfl | rfl | rfl | rfl | rfl | rfl <;> rfl
 ·intro v' w' ho hg _;refine h v' w' ?_ hg;unfold Ents;rw [← xc,ax];exact ho
theorem MR.append {w W w':World} {A:Option Addr} {n c:Nat} {v v':Value} {es:List Ent} {e:Ent} {o:Obj} (h:MR w A n c v es W) (hown:Ents w.heap.size w' v' (es++[e])) (hg:(W.alloc o).grownBy w' v.ownBlock):MR w A n c v' (es++[e]) w':=by
 obtain ⟨k,hk,hda⟩:=h.draw;have hne:=Az h.ents hda mDe;have hb:ac w.heap.size W w':=((au W o).mono h.below.size).grown hg (by simp;have:=h.below.size;omega) (fun q hq=>(World.ownsRow.lt h.ents q hq).1);refine ⟨h.below.trans hb,hown,⟨k,hk,?_⟩,h.ints.below hb⟩;unfold mT at *;rw [hg.block _ (by simp;have:=ay hda;omega) (fun e=>hne e.symm),Below.heap_alloc _ _ _ (ay hda)];exact hda
theorem L4.snoc {sc:Int} {es:List Ent} (h:L4 sc es) {e:Ent} (hl:es.length < 24) (hg:Good sc e) (hid:e.id=es.length+1) (hd:∀ a∈es,a.day≤e.day):L4 sc (es++[e]):=by
 refine ⟨by simp;omega,?_,?_,?_⟩
 ·intro a ha;rcases bN.1 ha with ha | ha
  ·exact h.good a ha
  ·simp at ha;subst ha;exact hg
 ·intro k a ha;rcases gH k es.length with hk | hk
  ·rw [bl hk] at ha;exact h.ids k a ha
  ·rw [aK hk] at ha;have h0:k - es.length=0:=by
    rcases Nat.eq_zero_or_pos (k - es.length) with h0 | h0
    ·exact h0
    ·rw [dG (by simp;omega)] at ha;cases ha
   rw [h0] at ha
   simp at ha;subst ha;rw [hid];omega
 ·intro i j a b hij ha hb;rcases gH j es.length with hj | hj
  ·rw [bl hj] at hb;rw [bl mOm] at ha;exact h.days i j a b hij ha hb
  ·rw [aK hj] at hb;have h0:j - es.length=0:=by
    rcases Nat.eq_zero_or_pos (j - es.length) with h0 | h0
    ·exact h0
    ·rw [dG (by simp;omega)] at hb;cases hb
   rw [h0] at hb
   simp at hb;subst hb;rcases gH i es.length with hi | hi
   ·rw [bl hi] at ha;exact hd a (List.mem_of_getElem? ha)
   ·have:i=j:=mOm;subst this;rw [aK hi,h0] at ha;simp at ha;subst ha;exact Int.le_refl _
def mkE (id sc st kd day on:Int) (co:ByteArray) (cr gr rf fr pg vs:Int):Ent:=⟨id,sc,st,kd,day,on,co,cr,gr,rf,fr,pg,vs,0,⟨#[]⟩⟩
def gm (kd:Int):Bool:=kd==4||kd==5||kd==6||kd==9
def SwOk (kd sc n rf fr pg vs:Int):Prop:=(if gm kd=true then rf=0∨1≤rf∧rf≤n else rf=0)∧(if kd=7 then fr=1+sc%3 else fr=0)∧
 (if kd=1∨kd=8∨kd=2 then 1≤pg∧pg≤2 else pg=0)∧(if kd=2 then 1≤vs∧vs≤3 else vs=0)
def RA (w:World) (A:Option Addr) (n c:Nat) (v:Value) (es:List Ent) (eb:Nat) (id sc st kd day:Int) (wx:World):Prop:=
 ∃ rf fr pg vs,LN wx eb (mkE id sc st kd day 0 ⟨#[]⟩ 0 0 rf fr pg vs)∧MR w A n c v es wx∧SwOk kd sc es.length rf fr pg vs∧eb < wx.heap.size
def SwB (kd sc n rf fr pg vs:Int):Prop:=(1≤kd∧kd≤9)∧(if gm kd=true then 1≤rf∧rf≤n else rf=0)∧(if kd=7 then fr=1+sc%3 else fr=0)∧
 (if kd=1∨kd=8∨kd=2 then 1≤pg∧pg≤2 else pg=0)∧(if kd=2 then 1≤vs∧vs≤3 else vs=0)
theorem SwOk.three {kd sc n rf fr pg vs:Int} (h:SwOk kd sc n rf fr pg vs) (hk:kd=1∨kd=2∨kd=3∨kd=4∨kd=5∨kd=6∨kd=7∨kd=8∨kd=9) (hr:gm kd=true) (h0:rf=0):SwB 3 sc n rf fr pg vs:=by
 unfold SwOk at h;unfold SwB;rcases hk with rfl | rfl | rfl | rfl | rfl | rfl | rfl | rfl | rfl <;> simp [gm] at hr h ⊢ <;> omega
theorem SwOk.same {kd sc n rf fr pg vs:Int} (h:SwOk kd sc n rf fr pg vs) (hk:kd=1∨kd=2∨kd=3∨kd=4∨kd=5∨kd=6∨kd=7∨kd=8∨kd=9) (hr:¬ (gm kd=true∧rf=0)):SwB kd sc n rf fr pg vs:=by
 unfold SwOk at h;unfold SwB;rcases hk with rfl | rfl | rfl | rfl | rfl | rfl | rfl | rfl | rfl <;> simp [gm] at hr h ⊢ <;> omega
def vi (kd:Int) (co:ByteArray) (cr:Int):Prop:=if kd=3 then co∈codesL∧(cr=5∨cr=6∨cr=10) else co=⟨#[]⟩∧cr=0
def sQ (kd gr:Int):Prop:=if kd=3∨kd=4 then 0≤gr∧gr≤100 else gr=0
def RB (w:World) (A:Option Addr) (n c:Nat) (v:Value) (es:List Ent) (eb:Nat) (id sc st day:Int) (wx:World):Prop:=
 ∃ kd rf fr pg vs,LN wx eb (mkE id sc st kd day 0 ⟨#[]⟩ 0 0 rf fr pg vs)∧MR w A n c v es wx∧SwB kd sc es.length rf fr pg vs∧eb < wx.heap.size
def RC (w:World) (A:Option Addr) (n c:Nat) (v:Value) (es:List Ent) (eb:Nat) (id sc st day:Int) (wx:World):Prop:=
 ∃ kd co cr rf fr pg vs,LN wx eb (mkE id sc st kd day 0 co cr 0 rf fr pg vs)∧MR w A n c v es wx∧SwB kd sc es.length rf fr pg vs∧vi kd co cr∧eb < wx.heap.size
def RD (w:World) (A:Option Addr) (n c:Nat) (v:Value) (es:List Ent) (eb:Nat) (id sc st day:Int) (wx:World):Prop:=
 ∃ kd co cr gr rf fr pg vs,LN wx eb (mkE id sc st kd day 0 co cr gr rf fr pg vs)∧MR w A n c v es wx∧SwB kd sc es.length rf fr pg vs∧vi kd co cr∧sQ kd gr∧eb < wx.heap.size
theorem GM (day:Int) {kd sc n rf fr pg vs cr gr:Int} {co:ByteArray} (h:SwB kd sc n rf fr pg vs) (hc:vi kd co cr) (hg:sQ kd gr) :
  ∀ id st on:Int,id=n+1∧id≤24→1≤st∧st≤3→0≤on∧on≤day∧day≤600∧0≤n→Good sc (mkE id sc st kd day on co cr gr rf fr pg vs):=by
 intro id st on h1 h2 h3;obtain ⟨hk,hr,hf,hp,hv⟩:=h;unfold sQ at hg;refine ⟨by simp only [mkE];omega,rfl,h2,hk,by simp only [mkE];omega,by simp only [mkE];omega,rfl,rfl,hc,hg,?_,hf,hp,hv⟩;have e:(gm kd=true)↔(kd=4∨kd=5∨kd=6∨kd=9):=by simp [gm,or_assoc]
 simp only [e] at hr;simp only [mkE];by_cases hx:kd=4∨kd=5∨kd=6∨kd=9
 ·rw [if_pos hx] at hr
  first | (rw [if_pos hx];omega) | (simp only [hx,if_true];omega)
 ·rw [if_neg hx] at hr
  first | (rw [if_neg hx];exact hr) | (simp only [hx,if_false];exact hr)
def Ev (sc:Int) (w:World) (x:Ending) (w':World):Prop:=∃ v es,x=JT v∧L4 sc es∧Ents w.heap.size w' v es∧ac w.heap.size w w'
end
section
variable {s0 s1 s2 s3 s4 s5 s6 s7 s8 s9 lg lh lk hk dk dm ds dv dx dy e0 e1 e2 e3 e4 e5 e6 e7 e8 e9 ea ed eg ei ej em eo er ew ex eA eB eD f0 f1 f2 f3 f4 f5 f7 hj fb fe fi fn fv fx fO g0 g1 g2 g3 g4 g5 g6 g7 g8 g9 ga gc gd gf gk gn go gs gv gx gy gA gB gD gW h0 h1 h2 h4 h5 h7 h8 h9 ha hb hc hd he hf hg hh hi b1 b2 b3 b4 b5 b6 b7 b8 b9 ba bb bc bd bf bg bh bk bm bo bq bs bt dd bv a0 a1 d9 bx c0 c1 c4 c5 ca cb cc cd ce cf cg ch ci cj ck cl cn cp dg cs ct cx cy cA cB cC cD cE cG cO cS cW cX d0 d1 d2 d3 d4 a2 a3 a4 a5 a6 a7 a8 a9 ab ad af ag ao b0:Value}
open Go Go.RowKit Go.Sort Go.Lib
attribute [local go_sem] Ent.cells
attribute [local go_sem] rJ
theorem sA {p:Prop} (h:p:=by
 go_wp2_with fail;refine (G4 w A n c v es eb _ _ sc nn _ mOm hok mOm hm9).mono ?_;rintro x w10 ⟨r9,rfl,hr9,hm10,hbo,hlt10⟩;have hbx10:LN w10 eb _:=hbo _ hbx9;have fz10:=hbx10.frozen;have c10:w10.cell? ⟨eb,9,JW⟩=JV (JO JP 0):=hbx10.cell 9;go_wp2_with fail
 exact HQ.out _ _ _ _ _ _ _ _ _ _ _ _ _ _ _ _ _ _ _ _ _ _ _ _ _ _ _ _ _ _ _ _ _ _ _ _ _ _ _ _ _ _ _ _ _ _ _ _ _ ⟨r9,0,0,0,hbx10.set 9 (JO JP r9) rfl,hm10.set hlt3 hfr 9 _,by unfold SwOk gm;simp;try omega,by simp [dL];exact hlt10⟩):p:=h
theorem sB {p:Prop} (h:p:=by
 go_wp2_with fail
 exact HQ.out _ _ _ _ _ _ _ _ _ _ _ _ _ _ _ _ _ _ _ _ _ _ _ _ _ _ _ _ _ _ _ _ _ _ _ _ _ _ _ _ _ _ _ _ _ _ _ _ _ ⟨0,0,1+nn%2,0,hbx9.set 11 (JO JP (1+nn%2)) rfl,hm9.set hlt3 hfr 11 _,by unfold SwOk gm;simp;try omega,by simp [dL];exact hlt9⟩):p:=h
theorem GV (w:World) (A:Option Addr) (n c:Nat) (v:Value) (es:List Ent) (eb:Nat) (id sc st day kk many early:Int) (nn:Nat) (kd:Int) (W:World) (Q:Exit→Act→World→Prop) (hnn:nn≤1000) (hlen:es.length≤24) (hsc:1≤sc∧sc≤100) (hok:L4 sc es) (hlt3:w.heap.size < eb) (hfr:v.ownBlock ≠ JV eb) (hkk:kd=1∨kd=2∨kd=3∨kd=4∨kd=5∨kd=6∨kd=7∨kd=8∨kd=9) (hbx9:LN W eb (mkE id sc st kd day 0 ⟨#[]⟩ 0 0 0 0 0 0)) (hm9:MR w A n c v es W) (hlt9:eb < W.heap.size)
  (hQ:∀ (j2 j3 j4 j5 j6 ja jF jG jX k0 k1 k2 k3 k4 k5 k6 k9 ka kb kc ke kf kh ki kj kl km kn ko kp kq kr ks kt kv kw kx ky l0 l1 l2 l3 l4 l6 l7 la lb lc:Value) (wx:World),RA w A n c v es eb id sc st kd day wx→Q .normal ⟨aq (JR A n c::JO JP sc::s2::s3::s4::JS (JV ⟨w.heap.size,0,JW⟩)::v::JO JP day::JO JP many::JO JP kk::JS (JV ⟨eb,0,JW⟩)::JO JP early::JO JP (nn:Nat)::hk::dk::dm::ds::dv::dx::dy::e0::e1::e2::e3::e4::e5::e6::e7::e8::e9::ea::ed::eg::ei::ej::em::eo::er::ew::ex::eA::eB::eD::f0::f1::f2::f3::f4::f5::f7::JO JP kd::j2::j3::j4::j5::j6::ja::jF::jG::jX::k0::k1::k2::k3::k4::k5::k6::k9::ka::kb::kc::ke::kf::kh::ki::kj::kl::km::kn::ko::kp::kq::kr::ks::kt::kv::kw::kx::ky::l0::l1::l2::l3::l4::l6::l7::la::lb::lc::hi::b1::b2::b3::b4::b5::b6::b7::b8::b9::ba::bb::bc::bd::bf::bg::bh::bk::[bm,bo,bq,bs,bt,dd,bv,a0,a1,d9,bx,c0,c1,c4,c5,ca,cb,cc,cd,ce,cf,cg,ch,ci,cj,ck,cl,cn,cp,dg,cs,ct,cx,cy,cA,cB,cC,cD,cE,cG,cO,cS,cW,cX,d0,d1,d2,d3,d4,a2,a3,a4,a5,a6,a7,a8,a9,ab,ad,af,ag,ao,b0]),[]⟩ wx) :
  (ip f33 2).wp prog Q ⟨aq (JR A n c::JO JP sc::s2::s3::s4::JS (JV ⟨w.heap.size,0,JW⟩)::v::JO JP day::JO JP many::JO JP kk::JS (JV ⟨eb,0,JW⟩)::JO JP early::JO JP (nn:Nat)::hk::dk::dm::ds::dv::dx::dy::e0::e1::e2::e3::e4::e5::e6::e7::e8::e9::ea::ed::eg::ei::ej::em::eo::er::ew::ex::eA::eB::eD::f0::f1::f2::f3::f4::f5::f7::JO JP kd::fb::fe::fi::fn::fv::fx::fO::g0::g1::g2::g3::g4::g5::g6::g7::g8::g9::ga::gc::gd::gf::gk::gn::go::gs::gv::gx::gy::gA::gB::gD::gW::h0::h1::h2::h4::h5::h7::h8::h9::ha::hb::hc::hd::he::hf::hg::hh::hi::b1::b2::b3::b4::b5::b6::b7::b8::b9::ba::bb::bc::bd::bf::bg::bh::bk::[bm,bo,bq,bs,bt,dd,bv,a0,a1,d9,bx,c0,c1,c4,c5,ca,cb,cc,cd,ce,cf,cg,ch,ci,cj,ck,cl,cn,cp,dg,cs,ct,cx,cy,cA,cB,cC,cD,cE,cG,cO,cS,cW,cX,d0,d1,d2,d3,d4,a2,a3,a4,a5,a6,a7,a8,a9,ab,ad,af,ag,ao,b0]),[]⟩ W:=by
 refine mOn ?_;generalize Q .normal=K at hQ ⊢;have HQ:=aa hQ;clear hQ
 conv=>arg 2;whnf
 have fz:=hbx9.frozen
 have c2:W.cell? ⟨eb,2,none⟩=some (.int .i64 st):=hbx9.cell 2;have c9:W.cell? ⟨eb,9,none⟩=some (.int .i64 0):=hbx9.cell 9;have c10:W.cell? ⟨eb,10,none⟩=some (.int .i64 0):=hbx9.cell 10;have c11:W.cell? ⟨eb,11,none⟩=some (.int .i64 0):=hbx9.cell 11;have c12:W.cell? ⟨eb,12,none⟩=some (.int .i64 0):=hbx9.cell 12;rcases hkk with rfl | rfl | rfl | rfl | rfl | rfl | rfl | rfl | rfl
 ·as_aux_lemma =>
   exact sB
 ·as_aux_lemma =>
   go_wp2_with fail;exact HQ.out _ _ _ _ _ _ _ _ _ _ _ _ _ _ _ _ _ _ _ _ _ _ _ _ _ _ _ _ _ _ _ _ _ _ _ _ _ _ _ _ _ _ _ _ _ _ _ _ _ ⟨0,0,1+nn%2,1+nn%3,LN.set (e:=mkE id sc st 2 day 0 ⟨#[]⟩ 0 0 0 0 (1+nn%2) 0) (hbx9.set 11 (JO JP (1+nn%2)) rfl) 12 (JO JP (1+nn%3)) rfl,(hm9.set hlt3 hfr 11 _).set hlt3 hfr 12 _,by unfold SwOk gm;simp;try omega,by simp [dL];exact hlt9⟩
 ·as_aux_lemma =>
   go_wp2_with fail;exact HQ.out _ _ _ _ _ _ _ _ _ _ _ _ _ _ _ _ _ _ _ _ _ _ _ _ _ _ _ _ _ _ _ _ _ _ _ _ _ _ _ _ _ _ _ _ _ _ _ _ _ ⟨0,0,0,0,hbx9,hm9,by unfold SwOk gm;simp;try omega,hlt9⟩
 ·as_aux_lemma =>
   exact sA
 ·as_aux_lemma =>
   exact sA
 ·as_aux_lemma =>
   exact sA
 ·as_aux_lemma =>
   go_wp2_with fail;exact HQ.out _ _ _ _ _ _ _ _ _ _ _ _ _ _ _ _ _ _ _ _ _ _ _ _ _ _ _ _ _ _ _ _ _ _ _ _ _ _ _ _ _ _ _ _ _ _ _ _ _ ⟨0,1+sc%3,0,0,hbx9.set 10 (JO JP (1+sc%3)) rfl,hm9.set hlt3 hfr 10 _,by unfold SwOk gm;simp;try omega,by simp [dL];exact hlt9⟩
 ·as_aux_lemma =>
   exact sB
 ·as_aux_lemma =>
   exact sA
theorem FA (w:World) (A:Option Addr) (n c:Nat) (v:Value) (es:List Ent) (eb:Nat) (id sc st day kk many early:Int) (nn:Nat) (kd rf fr pg vs:Int) (W:World) (Q:Exit→Act→World→Prop) (_hnn:nn≤1000) (_hlen:es.length≤24) (_hsc:1≤sc∧sc≤100) (_hok:L4 sc es) (_hlt3:w.heap.size < eb) (_hfr:v.ownBlock ≠ JV eb) (hkk:kd=1∨kd=2∨kd=3∨kd=4∨kd=5∨kd=6∨kd=7∨kd=8∨kd=9) (hbxA:LN W eb (mkE id sc st kd day 0 ⟨#[]⟩ 0 0 rf fr pg vs))
  (hQ:∀ (lf hl hm hn ho hp hq hs ht hu hv hw hx hy hz hA hB hC:Value)  (wx:World),W=wx→Q .normal ⟨aq (JR A n c::JO JP sc::s2::s3::s4::JS (JV ⟨w.heap.size,0,JW⟩)::v::JO JP day::JO JP many::JO JP kk::JS (JV ⟨eb,0,JW⟩)::JO JP early::JO JP (nn:Nat)::.bool (gm kd)::dk::dm::ds::dv::dx::dy::e0::e1::e2::e3::e4::e5::e6::e7::e8::e9::ea::ed::eg::ei::ej::em::eo::er::ew::ex::eA::eB::eD::f0::f1::f2::f3::f4::f5::f7::hj::fb::fe::fi::fn::fv::fx::fO::g0::g1::g2::g3::g4::g5::g6::g7::g8::g9::ga::gc::gd::gf::gk::gn::go::gs::gv::gx::gy::gA::gB::gD::gW::h0::h1::h2::h4::h5::h7::h8::h9::ha::hb::hc::hd::he::hf::hg::hh::lf::hl::hm::hn::ho::hp::hq::hs::ht::hu::hv::hw::hx::hy::hz::hA::hB::hC::[bm,bo,bq,bs,bt,dd,bv,a0,a1,d9,bx,c0,c1,c4,c5,ca,cb,cc,cd,ce,cf,cg,ch,ci,cj,ck,cl,cn,cp,dg,cs,ct,cx,cy,cA,cB,cC,cD,cE,cG,cO,cS,cW,cX,d0,d1,d2,d3,d4,a2,a3,a4,a5,a6,a7,a8,a9,ab,ad,af,ag,ao,b0]),[]⟩ wx) :
  (bW f33 29).wp prog Q ⟨aq (JR A n c::JO JP sc::s2::s3::s4::JS (JV ⟨w.heap.size,0,JW⟩)::v::JO JP day::JO JP many::JO JP kk::JS (JV ⟨eb,0,JW⟩)::JO JP early::JO JP (nn:Nat)::hk::dk::dm::ds::dv::dx::dy::e0::e1::e2::e3::e4::e5::e6::e7::e8::e9::ea::ed::eg::ei::ej::em::eo::er::ew::ex::eA::eB::eD::f0::f1::f2::f3::f4::f5::f7::hj::fb::fe::fi::fn::fv::fx::fO::g0::g1::g2::g3::g4::g5::g6::g7::g8::g9::ga::gc::gd::gf::gk::gn::go::gs::gv::gx::gy::gA::gB::gD::gW::h0::h1::h2::h4::h5::h7::h8::h9::ha::hb::hc::hd::he::hf::hg::hh::hi::b1::b2::b3::b4::b5::b6::b7::b8::b9::ba::bb::bc::bd::bf::bg::bh::bk::[bm,bo,bq,bs,bt,dd,bv,a0,a1,d9,bx,c0,c1,c4,c5,ca,cb,cc,cd,ce,cf,cg,ch,ci,cj,ck,cl,cn,cp,dg,cs,ct,cx,cy,cA,cB,cC,cD,cE,cG,cO,cS,cW,cX,d0,d1,d2,d3,d4,a2,a3,a4,a5,a6,a7,a8,a9,ab,ad,af,ag,ao,b0]),[]⟩ W:=by
 refine mOn ?_;generalize Q .normal=K at hQ ⊢;have HQ:=aa hQ;clear hQ
 conv=>arg 2;whnf
 have c3:W.cell? ⟨eb,3,JW⟩=JV (JO JP kd):=hbxA.cell 3
 rcases hkk with rfl | rfl | rfl | rfl | rfl | rfl | rfl | rfl | rfl
 all_goals (go_wp2_with fail;exact HQ.out _ _ _ _ _ _ _ _ _ _ _ _ _ _ _ _ _ _ _ rfl)
theorem FB (w:World) (A:Option Addr) (n c:Nat) (v:Value) (es:List Ent) (eb:Nat) (id sc st day kk many early:Int) (nn:Nat) (kd rf fr pg vs:Int) (W:World) (Q:Exit→Act→World→Prop) (_hnn:nn≤1000) (_hlen:es.length≤24) (_hsc:1≤sc∧sc≤100) (_hok:L4 sc es) (_hlt3:w.heap.size < eb) (_hfr:v.ownBlock ≠ JV eb) (hbxA:LN W eb (mkE id sc st kd day 0 ⟨#[]⟩ 0 0 rf fr pg vs))
  (hQ:∀ (hD hE hF hG hH:Value) (B:Bool) (wx:World),W=wx∧Hid (B=true↔gm kd=true∧rf=0)→Q .normal ⟨aq (JR A n c::JO JP sc::s2::s3::s4::JS (JV ⟨w.heap.size,0,JW⟩)::v::JO JP day::JO JP many::JO JP kk::JS (JV ⟨eb,0,JW⟩)::JO JP early::JO JP (nn:Nat)::.bool (gm kd)::dk::dm::ds::dv::dx::dy::e0::e1::e2::e3::e4::e5::e6::e7::e8::e9::ea::ed::eg::ei::ej::em::eo::er::ew::ex::eA::eB::eD::f0::f1::f2::f3::f4::f5::f7::hj::fb::fe::fi::fn::fv::fx::fO::g0::g1::g2::g3::g4::g5::g6::g7::g8::g9::ga::gc::gd::gf::gk::gn::go::gs::gv::gx::gy::gA::gB::gD::gW::h0::h1::h2::h4::h5::h7::h8::h9::ha::hb::hc::hd::he::hf::hg::hh::hi::b1::b2::b3::b4::b5::b6::b7::b8::b9::ba::bb::bc::bd::bf::bg::bh::bk::hD::hE::hF::hG::hH::.bool B::[bv,a0,a1,d9,bx,c0,c1,c4,c5,ca,cb,cc,cd,ce,cf,cg,ch,ci,cj,ck,cl,cn,cp,dg,cs,ct,cx,cy,cA,cB,cC,cD,cE,cG,cO,cS,cW,cX,d0,d1,d2,d3,d4,a2,a3,a4,a5,a6,a7,a8,a9,ab,ad,af,ag,ao,b0]),[]⟩ wx) :
  (bW f33 30).wp prog Q ⟨aq (JR A n c::JO JP sc::s2::s3::s4::JS (JV ⟨w.heap.size,0,JW⟩)::v::JO JP day::JO JP many::JO JP kk::JS (JV ⟨eb,0,JW⟩)::JO JP early::JO JP (nn:Nat)::.bool (gm kd)::dk::dm::ds::dv::dx::dy::e0::e1::e2::e3::e4::e5::e6::e7::e8::e9::ea::ed::eg::ei::ej::em::eo::er::ew::ex::eA::eB::eD::f0::f1::f2::f3::f4::f5::f7::hj::fb::fe::fi::fn::fv::fx::fO::g0::g1::g2::g3::g4::g5::g6::g7::g8::g9::ga::gc::gd::gf::gk::gn::go::gs::gv::gx::gy::gA::gB::gD::gW::h0::h1::h2::h4::h5::h7::h8::h9::ha::hb::hc::hd::he::hf::hg::hh::hi::b1::b2::b3::b4::b5::b6::b7::b8::b9::ba::bb::bc::bd::bf::bg::bh::bk::[bm,bo,bq,bs,bt,dd,bv,a0,a1,d9,bx,c0,c1,c4,c5,ca,cb,cc,cd,ce,cf,cg,ch,ci,cj,ck,cl,cn,cp,dg,cs,ct,cx,cy,cA,cB,cC,cD,cE,cG,cO,cS,cW,cX,d0,d1,d2,d3,d4,a2,a3,a4,a5,a6,a7,a8,a9,ab,ad,af,ag,ao,b0]),[]⟩ W:=by
 refine mOn ?_;generalize Q .normal=K at hQ ⊢;have HQ:=aa hQ;clear hQ
 conv=>arg 2;whnf
 have c9:W.cell? ⟨eb,9,JW⟩=JV (JO JP rf):=hbxA.cell 9
 generalize gm kd=BR at HQ ⊢
 cases BR
 all_goals go_wp2_with fail
 ·exact HQ.out _ _ _ _ _ false _ ⟨rfl,aa mSi⟩
 ·exact HQ.out _ _ _ _ _ (rf==0) _ ⟨rfl,aa mSi⟩
theorem DI (w:World) (A:Option Addr) (n c:Nat) (v:Value) (es:List Ent) (eb:Nat) (id sc st day kk many early:Int) (nn:Nat) (kd rf fr pg vs:Int) (B:Bool) (W:World) (Q:Exit→Act→World→Prop) (_hnn:nn≤1000) (_hlen:es.length≤24) (_hsc:1≤sc∧sc≤100) (_hok:L4 sc es) (hlt3:w.heap.size < eb) (hfr:v.ownBlock ≠ JV eb) (hkk:kd=1∨kd=2∨kd=3∨kd=4∨kd=5∨kd=6∨kd=7∨kd=8∨kd=9) (hbxA:LN W eb (mkE id sc st kd day 0 ⟨#[]⟩ 0 0 rf fr pg vs)) (hmA:MR w A n c v es W) (HSW:Hid (SwOk kd sc es.length rf fr pg vs)) (hltA:eb < W.heap.size) (HB:Hid (B=true↔gm kd=true∧rf=0))
  (hQ:∀ (hI:Value)  (wx:World),RB w A n c v es eb id sc st day wx→Q .normal ⟨aq (JR A n c::JO JP sc::s2::s3::s4::JS (JV ⟨w.heap.size,0,JW⟩)::v::JO JP day::JO JP many::JO JP kk::JS (JV ⟨eb,0,JW⟩)::JO JP early::JO JP (nn:Nat)::hk::dk::dm::ds::dv::dx::dy::e0::e1::e2::e3::e4::e5::e6::e7::e8::e9::ea::ed::eg::ei::ej::em::eo::er::ew::ex::eA::eB::eD::f0::f1::f2::f3::f4::f5::f7::hj::fb::fe::fi::fn::fv::fx::fO::g0::g1::g2::g3::g4::g5::g6::g7::g8::g9::ga::gc::gd::gf::gk::gn::go::gs::gv::gx::gy::gA::gB::gD::gW::h0::h1::h2::h4::h5::h7::h8::h9::ha::hb::hc::hd::he::hf::hg::hh::hi::b1::b2::b3::b4::b5::b6::b7::b8::b9::ba::bb::bc::bd::bf::bg::bh::bk::bm::bo::bq::bs::bt::.bool B::[hI,a0,a1,d9,bx,c0,c1,c4,c5,ca,cb,cc,cd,ce,cf,cg,ch,ci,cj,ck,cl,cn,cp,dg,cs,ct,cx,cy,cA,cB,cC,cD,cE,cG,cO,cS,cW,cX,d0,d1,d2,d3,d4,a2,a3,a4,a5,a6,a7,a8,a9,ab,ad,af,ag,ao,b0]),[]⟩ wx) :
  (xT f33 122).wp prog Q ⟨aq (JR A n c::JO JP sc::s2::s3::s4::JS (JV ⟨w.heap.size,0,JW⟩)::v::JO JP day::JO JP many::JO JP kk::JS (JV ⟨eb,0,JW⟩)::JO JP early::JO JP (nn:Nat)::hk::dk::dm::ds::dv::dx::dy::e0::e1::e2::e3::e4::e5::e6::e7::e8::e9::ea::ed::eg::ei::ej::em::eo::er::ew::ex::eA::eB::eD::f0::f1::f2::f3::f4::f5::f7::hj::fb::fe::fi::fn::fv::fx::fO::g0::g1::g2::g3::g4::g5::g6::g7::g8::g9::ga::gc::gd::gf::gk::gn::go::gs::gv::gx::gy::gA::gB::gD::gW::h0::h1::h2::h4::h5::h7::h8::h9::ha::hb::hc::hd::he::hf::hg::hh::hi::b1::b2::b3::b4::b5::b6::b7::b8::b9::ba::bb::bc::bd::bf::bg::bh::bk::bm::bo::bq::bs::bt::.bool B::[bv,a0,a1,d9,bx,c0,c1,c4,c5,ca,cb,cc,cd,ce,cf,cg,ch,ci,cj,ck,cl,cn,cp,dg,cs,ct,cx,cy,cA,cB,cC,cD,cE,cG,cO,cS,cW,cX,d0,d1,d2,d3,d4,a2,a3,a4,a5,a6,a7,a8,a9,ab,ad,af,ag,ao,b0]),[]⟩ W:=by
 refine mOn ?_;generalize Q .normal=K at hQ ⊢;have HQ:=aa hQ;clear hQ
 conv=>arg 2;whnf
 cases B
 rotate_left
 ·have hr:=HB.out.1 rfl;have fz:=hbxA.frozen 3;have c3:W.cell? ⟨eb,3,JW⟩=JV (JO JP kd):=hbxA.cell 3;have H:=aa (HSW.out.three hkk hr.1 hr.2);clear hr HB;go_wp2_with fail;exact HQ.out _ _ ⟨3,rf,fr,pg,vs,hbxA.set 3 (JO JP 3) rfl,hmA.set hlt3 hfr 3 _,H.out,by simp [dL];exact hltA⟩
 ·have hr:¬ (gm kd=true∧rf=0):=fun h=>by have:=HB.out.2 h;cases this
  have H:=aa (HSW.out.same hkk hr);clear hr HB;go_wp2_with fail;exact HQ.out _ _ ⟨kd,rf,fr,pg,vs,hbxA,hmA,H.out,hltA⟩
theorem DJ (w:World) (A:Option Addr) (n c:Nat) (v:Value) (es:List Ent) (eb:Nat) (id sc st day kk many early:Int) (nn:Nat) (kd rf fr pg vs:Int) (W:World) (Q:Exit→Act→World→Prop) (hnn:nn≤1000) (_hlen:es.length≤24) (_hsc:1≤sc∧sc≤100) (_hok:L4 sc es) (hlt3:w.heap.size < eb) (hfr:v.ownBlock ≠ JV eb) (hbxA:LN W eb (mkE id sc st kd day 0 ⟨#[]⟩ 0 0 rf fr pg vs)) (hmA:MR w A n c v es W) (HSW:Hid (SwB kd sc es.length rf fr pg vs)) (hltA:eb < W.heap.size)
  (hQ:∀ (hJ hK hL hM hN hO hP hR hS hT hU hV:Value)  (wx:World),RC w A n c v es eb id sc st day wx→Q .normal ⟨aq (JR A n c::JO JP sc::s2::s3::s4::JS (JV ⟨w.heap.size,0,JW⟩)::v::JO JP day::JO JP many::JO JP kk::JS (JV ⟨eb,0,JW⟩)::JO JP early::JO JP (nn:Nat)::hk::dk::dm::ds::dv::dx::dy::e0::e1::e2::e3::e4::e5::e6::e7::e8::e9::ea::ed::eg::ei::ej::em::eo::er::ew::ex::eA::eB::eD::f0::f1::f2::f3::f4::f5::f7::hj::fb::fe::fi::fn::fv::fx::fO::g0::g1::g2::g3::g4::g5::g6::g7::g8::g9::ga::gc::gd::gf::gk::gn::go::gs::gv::gx::gy::gA::gB::gD::gW::h0::h1::h2::h4::h5::h7::h8::h9::ha::hb::hc::hd::he::hf::hg::hh::hi::b1::b2::b3::b4::b5::b6::b7::b8::b9::ba::bb::bc::bd::bf::bg::bh::bk::bm::bo::bq::bs::bt::dd::bv::a0::a1::.bool (kd==3)::hJ::hK::hL::hM::hN::hO::hP::hR::hS::hT::hU::hV::ch::ci::cj::ck::cl::cn::cp::dg::cs::ct::cx::cy::cA::cB::cC::cD::cE::cG::cO::cS::cW::cX::d0::d1::d2::d3::d4::a2::a3::a4::a5::a6::a7::a8::a9::ab::ad::af::ag::ao::b0::[]),[]⟩ wx) :
  (xT f33 126).wp prog Q ⟨aq (JR A n c::JO JP sc::s2::s3::s4::JS (JV ⟨w.heap.size,0,JW⟩)::v::JO JP day::JO JP many::JO JP kk::JS (JV ⟨eb,0,JW⟩)::JO JP early::JO JP (nn:Nat)::hk::dk::dm::ds::dv::dx::dy::e0::e1::e2::e3::e4::e5::e6::e7::e8::e9::ea::ed::eg::ei::ej::em::eo::er::ew::ex::eA::eB::eD::f0::f1::f2::f3::f4::f5::f7::hj::fb::fe::fi::fn::fv::fx::fO::g0::g1::g2::g3::g4::g5::g6::g7::g8::g9::ga::gc::gd::gf::gk::gn::go::gs::gv::gx::gy::gA::gB::gD::gW::h0::h1::h2::h4::h5::h7::h8::h9::ha::hb::hc::hd::he::hf::hg::hh::hi::b1::b2::b3::b4::b5::b6::b7::b8::b9::ba::bb::bc::bd::bf::bg::bh::bk::bm::bo::bq::bs::bt::dd::bv::a0::a1::.bool (kd==3)::bx::c0::c1::c4::c5::ca::cb::cc::cd::ce::cf::cg::ch::ci::cj::ck::cl::cn::cp::dg::cs::ct::cx::cy::cA::cB::cC::cD::cE::cG::cO::cS::cW::cX::d0::d1::d2::d3::d4::a2::a3::a4::a5::a6::a7::a8::a9::ab::ad::af::ag::ao::b0::[]),[]⟩ W:=by
 refine mOn ?_;generalize Q .normal=K at hQ ⊢;have HQ:=aa hQ;clear hQ
 conv=>arg 2;whnf
 by_cases h3:kd=3
 ·subst h3;have hcv:codesL.getD (nn%6) ⟨#[]⟩∈codesL:=by
   have h6:nn%6 < codesL.length:=jw _ mDe;rw [bi,ai h6];simp
  have hcr:[5,6,10].getD (nn%3) 0=(5:Int)∨[5,6,10].getD (nn%3) 0=(6:Int)∨[5,6,10].getD (nn%3) 0=(10:Int):=by
   have:nn%3=0∨nn%3=1∨nn%3=2:=mOm;rcases this with h | h | h <;> rw [h] <;> simp
  have hcd:∀ (W:World) (b:Nat),W.heap.size=b→(W.alloc (JU #[JQ ⟨#[65,49]⟩,JQ ⟨#[66,49]⟩,JQ ⟨#[66,50]⟩,JQ ⟨#[67,49]⟩,JQ ⟨#[68,49]⟩,JQ ⟨#[69,57]⟩] 9)).cell? ⟨b,nn%6,JW⟩=JV (JQ (codesL.getD (nn%6) ⟨#[]⟩)):=by
   intro W b hW;subst hW;rw [ae (heap_alloc_new W _)];have:nn%6=0∨nn%6=1∨nn%6=2∨nn%6=3∨nn%6=4∨nn%6=5:=mOm;rcases this with h | h | h | h | h | h <;> rw [h] <;> rfl
  have hce:∀ (W:World) (b:Nat),W.heap.size=b→(W.alloc (JU #[JO JP 5,JO JP 6,JO JP 10] 3)).cell? ⟨b,nn%3,JW⟩=JV (JO JP ([5,6,10].getD (nn%3) 0)):=by
   intro W b hW;subst hW;rw [ae (heap_alloc_new W _)];have:nn%3=0∨nn%3=1∨nn%3=2:=mOm;rcases this with h | h | h <;> rw [h] <;> rfl
  generalize codesL.getD (nn%6) ⟨#[]⟩=cv at hcv hcd
  generalize [5,6,10].getD (nn%3) (0:Int)=cr at hcr hce;have fz:=hbxA.frozen;have c6:W.cell? ⟨eb,6,JW⟩=JV (JQ ⟨#[]⟩):=hbxA.cell 6;have c7:W.cell? ⟨eb,7,JW⟩=JV (JO JP 0):=hbxA.cell 7;go_wp2_with (go_at_call 84;refine (C8 _).mono ?_;rintro x w11 ⟨rfl,rfl⟩);exact HQ.out _ _ _ _ _ _ _ _ _ _ _ _ _ ⟨3,cv,cr,rf,fr,pg,vs,((LN.set (e:=mkE id sc st 3 day 0 cv 0 0 rf fr pg vs) (hbxA.set 6 (JQ cv) rfl) 7 (JO JP cr) rfl).below (au _ (JU #[JQ ⟨#[65,49]⟩,JQ ⟨#[66,49]⟩,JQ ⟨#[66,50]⟩,JQ ⟨#[67,49]⟩,JQ ⟨#[68,49]⟩,JQ ⟨#[69,57]⟩] 9))).below (au _ (JU #[JO JP 5,JO JP 6,JO JP 10] 3)),MR.below' (MR.below' ((hmA.set hlt3 hfr 6 (JQ cv)).set hlt3 hfr 7 (JO JP cr)) (au _ (JU #[JQ ⟨#[65,49]⟩,JQ ⟨#[66,49]⟩,JQ ⟨#[66,50]⟩,JQ ⟨#[67,49]⟩,JQ ⟨#[68,49]⟩,JQ ⟨#[69,57]⟩] 9))) (au _ (JU #[JO JP 5,JO JP 6,JO JP 10] 3)),HSW.out,by unfold vi;rw [if_pos rfl];exact ⟨hcv,hcr⟩,by simp [dL];omega⟩
 ·have h3':(kd==3)=false:=by simpa using h3
  go_wp2_with fail;exact HQ.out _ _ _ _ _ _ _ _ _ _ _ _ _ ⟨kd,⟨#[]⟩,0,rf,fr,pg,vs,hbxA,hmA,HSW.out,by unfold vi;rw [if_neg h3];exact ⟨rfl,rfl⟩,hltA⟩
theorem FC (w:World) (A:Option Addr) (n c:Nat) (v:Value) (es:List Ent) (eb:Nat) (id sc st day kk many early:Int) (nn:Nat) (kd cr rf fr pg vs:Int) (co:ByteArray) (W:World) (Q:Exit→Act→World→Prop) (_hnn:nn≤1000) (_hlen:es.length≤24) (_hsc:1≤sc∧sc≤100) (_hok:L4 sc es) (_hlt3:w.heap.size < eb) (_hfr:v.ownBlock ≠ JV eb) (hbxA:LN W eb (mkE id sc st kd day 0 co cr 0 rf fr pg vs))
  (hQ:∀ (hX hY hZ i0 i1 i2 i3:Value) (B:Bool) (wx:World),W=wx∧Hid (B=true↔kd=3∨kd=4)→Q .normal ⟨aq (JR A n c::JO JP sc::s2::s3::s4::JS (JV ⟨w.heap.size,0,JW⟩)::v::JO JP day::JO JP many::JO JP kk::JS (JV ⟨eb,0,JW⟩)::JO JP early::JO JP (nn:Nat)::hk::dk::dm::ds::dv::dx::dy::e0::e1::e2::e3::e4::e5::e6::e7::e8::e9::ea::ed::eg::ei::ej::em::eo::er::ew::ex::eA::eB::eD::f0::f1::f2::f3::f4::f5::f7::hj::fb::fe::fi::fn::fv::fx::fO::g0::g1::g2::g3::g4::g5::g6::g7::g8::g9::ga::gc::gd::gf::gk::gn::go::gs::gv::gx::gy::gA::gB::gD::gW::h0::h1::h2::h4::h5::h7::h8::h9::ha::hb::hc::hd::he::hf::hg::hh::hi::b1::b2::b3::b4::b5::b6::b7::b8::b9::ba::bb::bc::bd::bf::bg::bh::bk::bm::bo::bq::bs::bt::dd::bv::a0::a1::d9::bx::c0::c1::c4::c5::ca::cb::cc::cd::ce::cf::cg::hX::hY::hZ::i0::i1::i2::i3::.bool B::[cs,ct,cx,cy,cA,cB,cC,cD,cE,cG,cO,cS,cW,cX,d0,d1,d2,d3,d4,a2,a3,a4,a5,a6,a7,a8,a9,ab,ad,af,ag,ao,b0]),[]⟩ wx) :
  (bW f33 35).wp prog Q ⟨aq (JR A n c::JO JP sc::s2::s3::s4::JS (JV ⟨w.heap.size,0,JW⟩)::v::JO JP day::JO JP many::JO JP kk::JS (JV ⟨eb,0,JW⟩)::JO JP early::JO JP (nn:Nat)::hk::dk::dm::ds::dv::dx::dy::e0::e1::e2::e3::e4::e5::e6::e7::e8::e9::ea::ed::eg::ei::ej::em::eo::er::ew::ex::eA::eB::eD::f0::f1::f2::f3::f4::f5::f7::hj::fb::fe::fi::fn::fv::fx::fO::g0::g1::g2::g3::g4::g5::g6::g7::g8::g9::ga::gc::gd::gf::gk::gn::go::gs::gv::gx::gy::gA::gB::gD::gW::h0::h1::h2::h4::h5::h7::h8::h9::ha::hb::hc::hd::he::hf::hg::hh::hi::b1::b2::b3::b4::b5::b6::b7::b8::b9::ba::bb::bc::bd::bf::bg::bh::bk::[bm,bo,bq,bs,bt,dd,bv,a0,a1,d9,bx,c0,c1,c4,c5,ca,cb,cc,cd,ce,cf,cg,ch,ci,cj,ck,cl,cn,cp,dg,cs,ct,cx,cy,cA,cB,cC,cD,cE,cG,cO,cS,cW,cX,d0,d1,d2,d3,d4,a2,a3,a4,a5,a6,a7,a8,a9,ab,ad,af,ag,ao,b0]),[]⟩ W:=by
 refine mOn ?_;generalize Q .normal=K at hQ ⊢;have HQ:=aa hQ;clear hQ
 conv=>arg 2;whnf
 have c3:W.cell? ⟨eb,3,JW⟩=JV (JO JP kd):=hbxA.cell 3
 by_cases h3:kd=3
 ·subst h3;go_wp2_with fail;exact HQ.out _ _ _ _ _ _ _ true _ ⟨rfl,aa mSi⟩
 ·have h3':(kd==3)=false:=by simpa using h3
  go_wp2_with fail;exact HQ.out _ _ _ _ _ _ _ (kd==4) _ ⟨rfl,aa (by simp [h3])⟩
theorem DK (w:World) (A:Option Addr) (n c:Nat) (v:Value) (es:List Ent) (eb:Nat) (id sc st day kk many early:Int) (nn:Nat) (kd cr rf fr pg vs:Int) (co:ByteArray) (B:Bool) (W:World) (Q:Exit→Act→World→Prop) (_hnn:nn≤1000) (_hlen:es.length≤24) (hsc:1≤sc∧sc≤100) (hok:L4 sc es) (hlt3:w.heap.size < eb) (hfr:v.ownBlock ≠ JV eb) (hbxA:LN W eb (mkE id sc st kd day 0 co cr 0 rf fr pg vs)) (hmA:MR w A n c v es W) (HSW:Hid (SwB kd sc es.length rf fr pg vs)) (HCO:Hid (vi kd co cr)) (hltA:eb < W.heap.size) (HB:Hid (B=true↔kd=3∨kd=4))
  (hQ:∀ (i4 i5 i6 i7 i8 i9 ib ih ii im io iv ix iH iI iJ iL j0 j1:Value)  (wx:World),RD w A n c v es eb id sc st day wx→Q .normal ⟨aq (JR A n c::JO JP sc::s2::s3::s4::JS (JV ⟨w.heap.size,0,JW⟩)::v::JO JP day::JO JP many::JO JP kk::JS (JV ⟨eb,0,JW⟩)::JO JP early::JO JP (nn:Nat)::hk::dk::dm::ds::dv::dx::dy::e0::e1::e2::e3::e4::e5::e6::e7::e8::e9::ea::ed::eg::ei::ej::em::eo::er::ew::ex::eA::eB::eD::f0::f1::f2::f3::f4::f5::f7::hj::fb::fe::fi::fn::fv::fx::fO::g0::g1::g2::g3::g4::g5::g6::g7::g8::g9::ga::gc::gd::gf::gk::gn::go::gs::gv::gx::gy::gA::gB::gD::gW::h0::h1::h2::h4::h5::h7::h8::h9::ha::hb::hc::hd::he::hf::hg::hh::hi::b1::b2::b3::b4::b5::b6::b7::b8::b9::ba::bb::bc::bd::bf::bg::bh::bk::bm::bo::bq::bs::bt::dd::bv::a0::a1::d9::bx::c0::c1::c4::c5::ca::cb::cc::cd::ce::cf::cg::ch::ci::cj::ck::cl::cn::cp::.bool B::[i4,i5,i6,i7,i8,i9,ib,ih,ii,im,io,iv,ix,iH,iI,iJ,iL,j0,j1,a2,a3,a4,a5,a6,a7,a8,a9,ab,ad,af,ag,ao,b0]),[]⟩ wx) :
  (xT f33 146).wp prog Q ⟨aq (JR A n c::JO JP sc::s2::s3::s4::JS (JV ⟨w.heap.size,0,JW⟩)::v::JO JP day::JO JP many::JO JP kk::JS (JV ⟨eb,0,JW⟩)::JO JP early::JO JP (nn:Nat)::hk::dk::dm::ds::dv::dx::dy::e0::e1::e2::e3::e4::e5::e6::e7::e8::e9::ea::ed::eg::ei::ej::em::eo::er::ew::ex::eA::eB::eD::f0::f1::f2::f3::f4::f5::f7::hj::fb::fe::fi::fn::fv::fx::fO::g0::g1::g2::g3::g4::g5::g6::g7::g8::g9::ga::gc::gd::gf::gk::gn::go::gs::gv::gx::gy::gA::gB::gD::gW::h0::h1::h2::h4::h5::h7::h8::h9::ha::hb::hc::hd::he::hf::hg::hh::hi::b1::b2::b3::b4::b5::b6::b7::b8::b9::ba::bb::bc::bd::bf::bg::bh::bk::bm::bo::bq::bs::bt::dd::bv::a0::a1::d9::bx::c0::c1::c4::c5::ca::cb::cc::cd::ce::cf::cg::ch::ci::cj::ck::cl::cn::cp::.bool B::[cs,ct,cx,cy,cA,cB,cC,cD,cE,cG,cO,cS,cW,cX,d0,d1,d2,d3,d4,a2,a3,a4,a5,a6,a7,a8,a9,ab,ad,af,ag,ao,b0]),[]⟩ W:=by
 refine mOn ?_;generalize Q .normal=K at hQ ⊢;have HQ:=aa hQ;clear hQ
 conv=>arg 2;whnf
 cases B
 rotate_left
 ·have H3:=aa (HB.out.1 rfl);clear HB;go_wp2_with fail;refine (GY w A n c v es eb 21 _ mOm mOm hlt3 mOm hmA).mono ?_;rintro x w12 ⟨gr,rfl,hgr,hm12,hbo,hlt12⟩;have hbx12:LN w12 eb _:=hbo _ hbxA;have fz:=hbx12.frozen;have c8:w12.cell? ⟨eb,8,JW⟩=JV (JO JP 0):=hbx12.cell 8;clear hbo hbxA hmA hltA;by_cases hs2:sc=2
  ·subst hs2;go_wp2_with fail;exact HQ.out _ _ _ _ _ _ _ _ _ _ _ _ _ _ _ _ _ _ _ _ ⟨kd,co,cr,1+gr%5,rf,fr,pg,vs,LN.set (e:=mkE id 2 st kd day 0 co cr (5*gr) rf fr pg vs) (hbx12.set 8 (JO JP (5*gr)) rfl) 8 (JO JP (1+gr%5)) rfl,(hm12.set hlt3 hfr 8 (JO JP (5*gr))).set hlt3 hfr 8 (JO JP (1+gr%5)),HSW.out,HCO.out,by unfold sQ;rw [if_pos H3.out];omega,by simp [dL];exact hlt12⟩
  ·by_cases hs3:sc=3
   ·subst hs3;go_wp2_with fail;exact HQ.out _ _ _ _ _ _ _ _ _ _ _ _ _ _ _ _ _ _ _ _ ⟨kd,co,cr,gr,rf,fr,pg,vs,LN.set (e:=mkE id 3 st kd day 0 co cr (5*gr) rf fr pg vs) (hbx12.set 8 (JO JP (5*gr)) rfl) 8 (JO JP (gr)) rfl,(hm12.set hlt3 hfr 8 (JO JP (5*gr))).set hlt3 hfr 8 (JO JP (gr)),HSW.out,HCO.out,by unfold sQ;rw [if_pos H3.out];omega,by simp [dL];exact hlt12⟩
   ·have hs2':(sc==2)=false:=by simpa using hs2
    have hs3':(sc==3)=false:=by simpa using hs3
    go_wp2_with fail;exact HQ.out _ _ _ _ _ _ _ _ _ _ _ _ _ _ _ _ _ _ _ _ ⟨kd,co,cr,5*gr,rf,fr,pg,vs,hbx12.set 8 (JO JP (5*gr)) rfl,hm12.set hlt3 hfr 8 (JO JP (5*gr)),HSW.out,HCO.out,by unfold sQ;rw [if_pos H3.out];omega,by simp [dL];exact hlt12⟩
 ·have H3:Hid (¬ (kd=3∨kd=4)):=aa (fun h=>by have:=HB.out.2 h;cases this);clear HB;go_wp2_with fail;exact HQ.out _ _ _ _ _ _ _ _ _ _ _ _ _ _ _ _ _ _ _ _ ⟨kd,co,cr,0,rf,fr,pg,vs,hbxA,hmA,HSW.out,HCO.out,by unfold sQ;rw [if_neg H3.out],hltA⟩
end
section
open Go Go.RowKit Go.Sort Go.Lib
attribute [local go_sem] Ent.cells
attribute [local go_sem] rJ
theorem Fy (A:Option Addr) (n c:Nat) (sc:Int) (w:World) (hsc:1≤sc∧sc≤100) (hi:LW w.heap.size A n w) :
  Calls prog 33 #[JR A n c,JO JP sc] w (Ev sc w):=by
 go_enter func33,ntmps33;go_wp2_with fail;have hm0:MR w A n c (JR JW 0 0) [] (w.alloc (JU #[JR A n c,JO JP 0] 144)):=
  ⟨au _ _,dK _ _ _ _,⟨0,aR _,heap_alloc_new _ _⟩,hi.below (au _ _)⟩
 refine (kY w.heap.size A n c 25 _ mOm mOm hm0.draw hm0.ints).mono ?_
 rintro x w1 ⟨many,rfl,hmany,hd1,ho1⟩;have hm1:=hm0.only hd1 ho1;clear hm0 hd1 ho1;go_wp2_with fail
 go_loopw [6,7,9] (fun v D i wr=>∃ (k day:Nat) (es:List Ent),k≤many∧i=JO JP k∧D=JO JP day∧day≤24*k∧es.length=k∧L4 sc es∧(∀ e∈es,e.day≤day)∧MR w A n c v es wr) (fun _ _ i _=>many - (intOf i).toNat)
 case atStart=>exact ⟨0,0,[],aR _,rfl,rfl,mOm,rfl,⟨mSi,mSi,mSi,mSi⟩,mSi,hm1⟩
 case round =>
  obtain ⟨k,day,es,hk,rfl,rfl,hday,hlen,hok,hdays,hm⟩:=hrel;clear hm1;by_cases hlt:k < many
  ·go_wp2_with fail;refine (kY w.heap.size A n c 25 _ mOm mOm hm.draw hm.ints).mono ?_;rintro x w2 ⟨dd,rfl,hdd,hd2,ho2⟩;have hm2:=hm.only hd2 ho2;clear hm hd2 ho2;go_wp2_with fail;refine (kY w.heap.size A n c 3 _ mOm mOm hm2.draw hm2.ints).mono ?_;rintro x w3 ⟨st,rfl,hst,hd3,ho3⟩;have hm3:=hm2.only hd3 ho3;clear hm2 hd3 ho3;go_wp2_with fail;obtain ⟨e0,he0⟩:∃ e0:Ent,e0=⟨k+1,sc,1+st,0,day+dd,0,⟨#[]⟩,0,0,0,0,0,0,0,⟨#[]⟩⟩:=⟨_,rfl⟩;have hbx:LN ((w3.alloc (JU (Ent.cells ⟨k+1,sc,1+st,0,day+dd,0,⟨#[]⟩,0,0,0,0,0,0,0,⟨#[]⟩⟩) 67)).alloc (JU (kindL.map (Value.int JP)).toArray 3)) w3.heap.size e0:=by rw [he0];exact (LN.new w3 _).below (au _ _)
   have hrw:L0 ((w3.alloc (JU (Ent.cells ⟨k+1,sc,1+st,0,day+dd,0,⟨#[]⟩,0,0,0,0,0,0,0,⟨#[]⟩⟩) 67)).alloc (JU (kindL.map (Value.int JP)).toArray 3)) (w3.heap.size+1) kindL:=by have:=L0.new (w3.alloc (JU (Ent.cells ⟨k+1,sc,1+st,0,day+dd,0,⟨#[]⟩,0,0,0,0,0,0,0,⟨#[]⟩⟩) 67)) kindL;rw [size_alloc] at this;exact this
   have hm4:=(hm3.below' (au w3 (JU (Ent.cells ⟨k+1,sc,1+st,0,day+dd,0,⟨#[]⟩,0,0,0,0,0,0,0,⟨#[]⟩⟩) 67))).below' (au _ (JU (kindL.map (Value.int JP)).toArray 3))
   have hfr:u6.ownBlock ≠ JV w3.heap.size:=fun e=>absurd (hm3.ents.lt _ e).2 mOm
   have hlt3:w.heap.size < w3.heap.size:=by obtain ⟨q,_,hq⟩:=hm3.draw;exact ay hq
   generalize w3.heap.size=eb at *
   clear hm3;refine (kY w.heap.size A n c 15 _ mOm mOm hm4.draw hm4.ints).mono ?_;rintro x w5 ⟨ki,rfl,hki,hd5,ho5⟩;have hm5:=hm4.only hd5 ho5;have hbx5:=hbx.only ho5 mOm;have hrw5:=hrw.only ho5 mOm;clear hm4 hd5 ho5 hbx hrw;have hcell:=hrw5.cell (k:=ki) (show ki < kindL.length from hki);have hkr:=zI ki hki;generalize kindL.getD ki 0=kd at hcell hkr;have hf3:=hbx5.frozen 3;have hc3:w5.cell? ⟨eb,3,JW⟩=JV (JO JP e0.kind):=hbx5.cell 3;go_wp2_with fail;clear hcell hrw5 hf3 hc3;have hm6:=hm5.set hlt3 hfr 3 (JO JP kd);have hbx6:=hbx5.set (e':={ e0 with kind:=kd }) 3 (JO JP kd) rfl;generalize w5.setCell ⟨eb,3,JW⟩ (JO JP kd)=w6 at *;clear hm5 hbx5;refine (kY w.heap.size A n c 3 _ mOm mOm hm6.draw hm6.ints).mono ?_;rintro x w7 ⟨ea,rfl,hea,hd7,ho7⟩;have hm7:=hm6.only hd7 ho7;have hbx7:=hbx6.only ho7 mOm;clear hm6 hbx6 hd7 ho7;go_wp2_with fail;refine (kY w.heap.size A n c 120 _ mOm mOm hm7.draw hm7.ints).mono ?_;rintro x w8 ⟨eb2,rfl,heb2,hd8,ho8⟩;have hm8:=hm7.only hd8 ho8;have hbx8:=hbx7.only ho8 mOm;clear hm7 hbx7 hd8 ho8;have hmul:ea*eb2≤2*119:=Nat.mul_le_mul mOm mOm;have hmw:IntKind.i64.wrap ((ea:Int)*(eb2:Int))=((ea*eb2:Nat):Int):=by rw [← Int.natCast_mul];exact aF _ mOm
   go_wp2_with fail;have hea3:(ea:Int)*(eb2:Int)=((ea*eb2:Nat):Int):=(Int.natCast_mul _ _).symm;rw [hea3];generalize ea*eb2=early at hmul;clear hea3 hmw hea heb2;refine (kY w.heap.size A n c 30 _ mOm mOm hm8.draw hm8.ints).mono ?_;rintro x w9 ⟨nn,rfl,hnn,hd9,ho9⟩;have hm9:=hm8.only hd9 ho9;have hbx9:=hbx8.only ho9 mOm;clear hm8 hbx8 hd9 ho9;subst he0;have hlt9:=ay hbx9;have hkk:kd=1∨kd=2∨kd=3∨kd=4∨kd=5∨kd=6∨kd=7∨kd=8∨kd=9:=mOm;have hd':∀ e∈es,e.day≤((day:Int)+(dd:Int)):=fun e he=>by have:=hdays e he;omega
   have hlen':es.length≤1000:=mOm;have c3:w9.cell? ⟨eb,3,JW⟩=JV (JO JP kd):=hbx9.cell 3
   go_upto_block 2 with fail
   clear c3;refine GV w A n c u6 es eb (k+1) sc (1+st) (day+dd) k many early nn kd _ _ mOm mOm hsc hok hlt3 hfr hkk hbx9 hm9 hlt9 ?_;intro cs ct cv cx cy cA cB cC cD cE cG cO cS cW cX d0 d1 d2 d3 d4 d9 dg dk dm ds dv dx dy e1 e2 e3 e4 e5 e6 e7 e8 e9 ed eg ei ej em eo er ew ex eA eB wa hcut;clear hm9 hbx9 hlt9;obtain ⟨rf,fr,pg,vs,hbxA,hmA,hsw,hltA⟩:=hcut;have HSW:=aa hsw;clear hsw
   go_upto_region 29 with fail
   refine FA w A n c u6 es eb (k+1) sc (1+st) (day+dd) k many early nn kd rf fr pg vs _ _ mOm mOm hsc hok hlt3 hfr hkk hbxA ?_;rintro eD a0 a1 a2 a3 a4 a5 a6 a7 a8 a9 ab ad af ag ao b0 b1 wx rfl
   go_upto_region 30 with fail
   refine FB w A n c u6 es eb (k+1) sc (1+st) (day+dd) k many early nn kd rf fr pg vs _ _ mOm mOm hsc hok hlt3 hfr hbxA ?_;rintro b2 b3 b4 b5 b6 B wx ⟨rfl,HB⟩
   go_upto_if 122 with fail
   refine DI w A n c u6 es eb (k+1) sc (1+st) (day+dd) k many early nn kd rf fr pg vs B _ _ mOm mOm hsc hok hlt3 hfr hkk hbxA hmA HSW hltA HB ?_;intro b7 wb hcut;clear hbxA hmA HSW hltA hkk hkr HB;obtain ⟨kd,rf,fr,pg,vs,hbxA,hmA,hsw,hltA⟩:=hcut;have HSW:=aa hsw;clear hsw;have c3:wb.cell? ⟨eb,3,JW⟩=JV (JO JP kd):=hbxA.cell 3
   go_upto_if 126 with fail
   refine DJ w A n c u6 es eb (k+1) sc (1+st) (day+dd) k many early nn kd rf fr pg vs _ _ mOm mOm hsc hok hlt3 hfr hbxA hmA HSW hltA ?_;intro b8 b9 ba bb bc bd bf bg bh bk bm bo wd hcut;clear hbxA hmA HSW hltA c3;obtain ⟨kd,co,cr,rf,fr,pg,vs,hbxA,hmA,hsw,hco,hltA⟩:=hcut;have HSW:=aa hsw;clear hsw;have HCO:=aa hco;clear hco
   go_upto_region 35 with fail
   refine FC w A n c u6 es eb (k+1) sc (1+st) (day+dd) k many early nn kd cr rf fr pg vs co _ _ mOm mOm hsc hok hlt3 hfr hbxA ?_;rintro bq bs bt bv bx c0 c1 B wx ⟨rfl,HB⟩
   go_upto_if 146 with fail
   refine DK w A n c u6 es eb (k+1) sc (1+st) (day+dd) k many early nn kd cr rf fr pg vs co B _ _ mOm mOm hsc hok hlt3 hfr hbxA hmA HSW HCO hltA HB ?_;intro c2 c4 c6 c7 c8 ca cb cc cd ce cf cg ch ci cj ck cl cn cp we hcut;clear hbxA hmA HSW HCO hltA HB;obtain ⟨kd,co,cr,gr,rf,fr,pg,vs,hbxA,hmA,hsw,hco,hgr,hltA⟩:=hcut;have HG:=aa (GM (day+dd) hsw hco hgr);clear hsw hco hgr;have c9:we.cell? ⟨eb,9,none⟩=some (.int .i64 rf):=hbxA.cell 9;have c5:we.cell? ⟨eb,5,none⟩=some (.int .i64 0):=hbxA.cell 5;have fz:=hbxA.frozen 5;go_wp2_with fail;refine (Jb w A n c u6 es _ sc (day+dd) _ mOm hd' hok hmA).mono ?_;rintro x w13 ⟨on,rfl,hon1,hon2,rfl⟩;obtain ⟨m,hm0,hmD,hmx⟩:=Jl on (day+dd - early) (day+dd) hon2 mOm mOm;have hM':=hmA.set hlt3 hfr 5 (.int .i64 m);have hE:LN _ eb (mkE (k+1) sc (1+st) kd (day+dd) m co cr gr rf fr pg vs):=hbxA.set 5 (.int .i64 m) rfl;have hat:=hE.at_;clear hE;go_wp2_with (first | ((with_reducible refine wpList_load_mid (op:=⟨_,_,_,_,_,_⟩) ?_ 67 (.tmp 10) ?_ eb 0 ?_ (Ent.cells (mkE (k+1) sc (1+st) kd (day+dd) m co cr gr rf fr pg vs)).toList _ ?_ underlying67 ?_ ?_ ?_);rfl;rfl;rfl;exact hat;rfl;kernel_rfl) | ((with_reducible refine id_at (o:=⟨_,_,_,_,_,_⟩) ?_);refine bs_ent rfl rfl rfl ?_) | (at_builtin;refine Gv rfl (.tmp 175) (.tmp 177) rfl w.heap.size u6 es rfl hM'.ents (mkE (k+1) sc (1+st) kd (day+dd) m co cr gr rf fr pg vs) _ mSi rfl mOm hM'.below.size ?_;intro v' w14 hown' hg'));have hM2:=hM'.append hown' hg';have HG2:=HG.out (k+1) (1+st) m mOm mOm mOm;clear hM' hmx hown' hg' hat HG;go_wp2_with fail
   go_roundw
   case rel=>exact ⟨k+1,day+dd,_,mOm,by go_num,by go_num,mOm,by simp [hlen],hok.snoc mOm HG2 (by simp [hlen,mkE]) hd',by simp only [bN,bJ];rintro a (ha | rfl);exact hd' a ha;simp [mkE],hM2⟩
   case measure=>simp [intOf];omega
  ·obtain rfl:k=many:=mOm;go_wp2_with fail;go_ret;exact ⟨u6,es,rfl,hok,hm.ents,hm.below⟩
end
section
open Go Go.RowKit Go.Sort Go.Lib
def mx (x y:Int):Int:=if y > x then y else x
def mn (x y:Int):Int:=if y < x then y else x
theorem mJ {P:Program} (w:World) (ts:Array TypeId) (t:TypeId) (k k':IntKind) (x y:Int):(Builtin.max_ ts t #[.int k x,.int k' y]).run P w=.ok (.int k (mx x y)) w:=run_max_int2 w ts t k k' x y
theorem mK {P:Program} (w:World) (ts:Array TypeId) (t:TypeId) (k k':IntKind) (x y:Int):(Builtin.min_ ts t #[.int k x,.int k' y]).run P w=.ok (.int k (mn x y)) w:=run_min_int2 w ts t k k' x y
end
section
open Go Go.RowKit Go.Sort Go.Lib
attribute [local go_sem] Ent.cells
def entZ:Ent:=⟨0,0,0,0,0,0,⟨#[]⟩,0,0,0,0,0,0,0,⟨#[]⟩⟩
theorem LN.far2 {w:World} {b b':Nat} {e:Ent} (h:LN w b e) (hb:b ≠ b') (j:Nat) (u:Value):LN (w.setCell ⟨b',j,JW⟩ u) b e:=by unfold LN at *;rw [Below.heap_setCell _ _ _ _ hb];exact h
theorem rL {w:World} (o1 o2 o3:Obj):ac w.heap.size w (((w.alloc o1).alloc o2).alloc o3)∧(((w.alloc o1).alloc o2).alloc o3).heap[w.heap.size]? = JV o1∧(((w.alloc o1).alloc o2).alloc o3).heap[w.heap.size+1]? = JV o2∧(((w.alloc o1).alloc o2).alloc o3).heap[w.heap.size+1+1]? = JV o3:=by have h1:=heap_alloc_new w o1;have h2:=heap_alloc_new (w.alloc o1) o2;have h3:=heap_alloc_new ((w.alloc o1).alloc o2) o3;rw [size_alloc] at h2;rw [size_alloc,size_alloc] at h3;exact ⟨(((Below.refl _ _).alloc (aD _) _).alloc mSi _).alloc (by simp;omega) _,eG (eG h1 _) _,eG h2 _,h3⟩
theorem jz {fn:Func} {p u:Tmp} (h:fn.results=#[.cell p 67,.tmp u]) (tmps:Array Value) (w:World) (g:Nat) (e:Ent) (hp:tmps.getD p undef=JS (JV ⟨g,0,JW⟩)) (hg:LN w g e) :
  (results fn tmps).run prog w=.ok (.tuple #[e.val,tmps.getD u undef]) w:=by
 rw [results_cell_tmp h,hp];have:=run_loadVar_row (P:=prog) w g 67 67 e.cells (0,0) _ hg underlying67 rfl mKr;simp only [asAddr,Sem.run_pure,Result.andThen_ok,this];rfl
end
section
open Go Go.Lib
theorem F7 {m n:Nat} (hm:m≤999999) (hn:n≤999999) (h:cV m=cV n):m=n:=by
 simp only [cV,ev,mj,List.cons.injEq,and_true] at h;obtain ⟨h1,h2,h3,h4,h5,h6⟩:=h
 have f:∀ x y:Nat,UInt8.ofNat (48+x%10)=UInt8.ofNat (48+y%10)→x%10=y%10:=fun x y h=>by
  have:=congrArg UInt8.toNat h;rw [UInt8.toNat_ofNat',UInt8.toNat_ofNat'] at this;omega
 have:=f _ _ h1;have:=f _ _ h2;have:=f _ _ h3;have:=f _ _ h4;have:=f _ _ h5;have:=f _ _ h6
 omega
theorem pF:∀ {x y s t:List UInt8},x.length=y.length→Op.bytesLess (x++s) (y++t)=(Op.bytesLess x y||(x==y&&Op.bytesLess s t))
 | [],[],s,t,_=>by simp [Op.bytesLess]
 | [],_::_,_,_,h=>by simp at h
 | _::_,[],_,_,h=>by simp at h
 | a::x,b::y,s,t,h=>by
  have ih:=pF (x:=x) (y:=y) (s:=s) (t:=t) (by simpa using h);simp only [List.cons_append,Op.bytesLess,ih];by_cases hab:a=b
  ·subst hab;simp
  ·have e:(a==b)=false:=by simpa using hab
   simp [e]
theorem HU {x y:Nat}:(UInt8.ofNat (48+x%10) < UInt8.ofNat (48+y%10))↔x%10 < y%10:=by rw [UInt8.lt_iff_toNat_lt,UInt8.toNat_ofNat',UInt8.toNat_ofNat'];omega
theorem Hz {x y:Nat}:(UInt8.ofNat (48+x%10)=UInt8.ofNat (48+y%10))↔x%10=y%10:=by rw [← UInt8.toNat_inj,UInt8.toNat_ofNat',UInt8.toNat_ofNat'];omega
theorem ua {m n:Nat} (hm:m≤999999) (hn:n≤999999):Op.bytesLess (cV m) (cV n)=decide (m < n):=by rw [db,decide_eq_true_eq];simp only [cV,ev,mj,Op.bytesLess,eu,Bool.and_eq_true,decide_eq_true_eq,beq_iff_eq,HU,Hz,Bool.false_eq_true,and_false,or_false];omega
theorem yV {m n:Nat} (hm:m≤999999) (hn:n≤999999):(cV m==cV n)=decide (m=n):=by
 rw [db,decide_eq_true_eq,beq_iff_eq];exact ⟨fun h=>F7 hm hn h,fun h=>by rw [h]⟩
theorem wM {e:Ent} (h:dr e=0):∃ s o i k:Nat,e.student=s∧e.on=o∧e.id=i∧e.kind=k∧s≤999999∧o≤999999∧i≤999999∧1≤k∧k≤9:=by obtain ⟨r1,r2,r3,r4,r5,r6⟩:=mq h;exact ⟨e.student.toNat,e.on.toNat,e.id.toNat,e.kind.toNat,mOm,mOm,mOm,mOm,mOm,mOm,mOm,mOm,mOm⟩
theorem vl (c:UInt8) (s t:List UInt8):Op.bytesLess (c::s) (c::t)=Op.bytesLess s t:=by simp [Op.bytesLess]
end
section
open Go
theorem nF {ops:Array Oper} {Q:Exit→Act→World→Prop} {S:World→Prop} {i:Nat} {σ:List (Nat×Bool)} {a:Act} {w:World} (oi:Oper) (e:Ent) (b:Nat) (hi:ops[i]? = JV oi) (hw:Region.wanted oi (yielded ops a.tmps)=true)
  (p:Operand) (ho:oi.op=.load 67 p) (hp:a.eval p=JS (JV ⟨b,0,JW⟩)) (hc:∀ w,S w→∀ j,w.cell? ⟨b,j,JW⟩=e.cells[j]?)
  (h:aO prog ops Q S σ (a.put oi.dst e.val) w):aO prog ops Q S ((i,true)::σ) a w:=
 fU oi e.val hi hw (fun w hS=>by
  have hat:EntAt w b 0 e:=fun j v hv=>by rw [bM,hc w hS j];simpa using hv
  have hl:=E9 w b 0 e hat;unfold execOp
  simp only [ho,hp,Sem.run_bind,Sem.run_pure,hl,Result.andThen_ok]) h
end
section
open Go Go.Lib
def jN (l:List UInt8):Nat:=l.foldl (fun a c=>10*a+(c.toNat - 48)) 0
theorem qS (l:List UInt8) (c:UInt8):jN (l++[c])=10*jN l+(c.toNat - 48):=by simp [jN,List.foldl_append]
theorem qA {d:Nat} (h:d < 10):(UInt8.ofNat (48+d)).toNat=48+d:=by rw [UInt8.toNat_ofNat'];omega
theorem qe (u:Nat):jN (decDigits u)=u:=by
 induction u using Nat.strongRecOn with
 | _ u ih =>
  by_cases h:u < 10
  ·rw [decDigits,dif_pos h];simp only [jN,List.foldl_cons,List.foldl_nil,qA h];omega
  ·rw [decDigits,dif_neg h,qS,ih (u / 10) mOm,qA mOm];omega
theorem Au (u:Nat):∀ c∈decDigits u,48≤c.toNat∧c.toNat≤57:=by
 induction u using Nat.strongRecOn with
 | _ u ih =>
  intro c hc;by_cases h:u < 10
  ·rw [decDigits,dif_pos h] at hc;simp only [bJ] at hc;subst hc;rw [qA h];omega
  ·rw [decDigits,dif_neg h] at hc;rcases bN.1 hc with hc | hc
   ·exact ih (u / 10) mOm c hc
   ·simp only [bJ] at hc;subst hc;rw [qA mOm];omega
theorem Fr {m n:Int} (h:itoa m=itoa n):m=n:=by
 unfold itoa at h
 split at h <;> split at h
 ·have:=congrArg jN (List.cons.inj h).2;rw [qe,qe] at this;omega
 ·have hm:(45:UInt8)∈decDigits n.toNat:=by rw [← h];simp
  exact absurd (Au _ _ hm).1 mDe
 ·have hm:(45:UInt8)∈decDigits m.toNat:=by rw [h];simp
  exact absurd (Au _ _ hm).1 mDe
 ·have:=congrArg jN h;rw [qe,qe] at this;omega
