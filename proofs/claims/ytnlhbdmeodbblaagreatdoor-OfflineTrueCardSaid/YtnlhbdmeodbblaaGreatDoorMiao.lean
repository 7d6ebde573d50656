/- Lemmas. -/
import Derived.Test.YtnlhbdmeodbblaaGreatDoorMiam
import Derived.Lib.SliceRun
set_option maxRecDepth 100000
set_option maxHeartbeats 16000000
set_option linter.all false
open Go.Proofs.Tryz
open Bool renaming not_false→fa
open Go.Lib renaming cell_of_heap→ae,hid→aa
open List renaming append_assoc→cq,drop_length→jn,eq_nil_of_length_eq_zero→aS,filter_append→Zfa,filter_cons_of_neg→cM,getElem?_eq_getElem→ai,getElem?_eq_some_iff→ap,getElem_mem→bD,length→gT,length_append→ax,length_take→aM,mem_of_mem_take→cT,nil_append→dt,take_add_one→aL,take_length→aT
open Nat renaming add_zero→ee,le_refl→aD,le_trans→bu,lt_of_lt_of_le→av,zero_add→bM,zero_le→aR
open Go.RowKit renaming Below→ac,intOf→aw
open Go.World renaming block_lt_of_cell?→am
open Go.Ending renaming returned→JT
open Go.IntKind renaming i64→JP
open Go.Obj renaming cells→JU
open Go.Value renaming int→JO,string→JQ,slice→JR,pointer→JS
open Option renaming some→JV,none→JW
namespace Go.Proofs.YtnlhbdmeodbblaaGreatDoor
open Go Go.RowKit Go.Sort Go.Lib
section
def PrevAt (u:World) (g o:Nat) (p:LL):Prop:=∀ j v,(cH p)[j]? = JV v→u.cell? ⟨g,o+j,JW⟩=JV v
theorem PrevAt.below {B g o:Nat} {p:LL} {u v:World} (h:PrevAt u g o p) (hb:ac B u v) (hg:g < B):PrevAt v g o p:=fun j x hx=>(hb.cell (p:=⟨g,o+j,JW⟩) hg).trans (h j x hx)
def L8 (u:World) (b:Nat):Option LL→Prop
 | none=>u.cell? ⟨b,0,none⟩=some (.pointer none)
 | some p=>∃ g o,u.cell? ⟨b,0,none⟩=some (.pointer (some ⟨g,o,none⟩))∧PrevAt u g o p
theorem Fu (b:Nat) (p:Option LL) (size day:Int) (w:World) (hp:L8 w b p) :
  Calls prog 205 #[JS (JV ⟨b,0,JW⟩),JO JP size,JO JP day] w fun e w'=>e=JT (.bool (decide (iE p size day)))∧w=w':=by
 cases p with
 | none =>
  have h0:w.cell? ⟨b,0,none⟩=some (.pointer none):=hp;have HV:Hid (decide (iE none size day)=false):=aa (decide_eq_false (fun h=>h));generalize decide (iE none size day)=V at *;go_enter func205,ntmps205;go_wp2_with fail;go_ret;exact ⟨bX (by rw [HV.out]),by first | rfl | trivial⟩
 | some x =>
  obtain ⟨g,o,h0,hx⟩:=hp;obtain ⟨sc,sz,dy,tr,bf,ky,mk⟩:=x;have q1:w.cell? ⟨g,o+1,JW⟩=JV (JO JP sz):=hx 1 _ rfl;have q2:w.cell? ⟨g,o+2,JW⟩=JV (JO JP dy):=hx 2 _ rfl;clear hx
  have HV:Hid (∀ t,(t=true↔(size < sz∨day≤dy))→decide (iE (JV ⟨sc,sz,dy,tr,bf,ky,mk⟩) size day)=t):=aa (fun t h=>by
   rw [Bool.eq_iff_iff,decide_eq_true_eq];exact h.symm)
  generalize decide (iE (JV ⟨sc,sz,dy,tr,bf,ky,mk⟩) size day)=V at *
  go_enter func205,ntmps205;by_cases h1:size < sz
  ·have HV2:Hid (V=true):=aa (HV.out true ⟨fun _=>.inl h1,fun _=>rfl⟩);clear HV;go_wp2_with fail;go_ret;exact ⟨bX (by rw [HV2.out]),by first | rfl | trivial⟩
  by_cases h2:day≤dy
  ·have HV2:Hid (V=true):=aa (HV.out true ⟨fun _=>.inr h2,fun _=>rfl⟩);clear HV;go_wp2_with fail;go_ret;exact ⟨bX (by rw [HV2.out]),by first | rfl | trivial⟩
  ·have HV2:Hid (V=false):=aa (HV.out false ⟨fun h=>(by cases h),fun h=>by rcases h with h | h;exact absurd h h1;exact absurd h h2⟩);clear HV;go_wp2_with fail;go_ret;exact ⟨bX (by rw [HV2.out]),by first | rfl | trivial⟩
theorem DD (b:Nat) (w:World) (hp:L8 w b JW) :
  Calls prog 206 #[JS (JV ⟨b,0,JW⟩)] w fun e w'=>e=JT (JQ (fL JW))∧ac w.heap.size w w':=by
 have h0:w.cell? ⟨b,0,JW⟩=JV (.pointer JW):=hp;go_enter func206,ntmps206;go_wp2_with fail;go_ret;exact ⟨rfl,Below.refl _ _⟩
theorem DF (b:Nat) (x:LL) (hx:x.Ok) (w:World) (hp:L8 w b (JV x)) (ht:Tabs w) :
  Calls prog 206 #[JS (JV ⟨b,0,JW⟩)] w fun e w'=>e=JT (JQ (fL (JV x)))∧ac w.heap.size w w':=by
 obtain ⟨g,o,h0,hc⟩:=hp;have hbl:=am w _ h0;have hgl:g < w.heap.size:=am w ⟨g,o+0,JW⟩ (hc 0 _ rfl);have kb:=fun w ht=>rE x hx w ht
 have hzb:(bC x).size≤300000:=by
  have z1:=ez x.school hx.school.1 hx.school.2;have z2:=ez x.size hx.size.1 hx.size.2;have z3:=ez x.day hx.day.1 hx.day.2;have z4:=fB x.tree (by have:=hx.tree;omega);have z5:=fB x.before (by have:=hx.before;omega);have z6:=ez x.key hx.key.1 hx.key.2;have y4:=hx.tree;have y5:=hx.before;rw [bw]
  show (jj x).length≤_
  unfold jj
  simp only [ax];omega
 have hzm:=hx.mark
 have ko:=fun w=>mZ (bC x++x.mark) (by rw [ByteArray.size_append];omega) w
 have HL:Hid ((⟨(dg (bC x++x.mark).data.toList).toArray⟩:ByteArray)=fL (JV x)):=aa (by unfold fL;rw [gb];rfl);generalize fL (JV x)=L at *;generalize (⟨(dg (bC x++x.mark).data.toList).toArray⟩:ByteArray)=D at *;generalize bC x=R at *;obtain ⟨sc,sz,dy,tr,bf,ky,mk⟩:=x;simp only at *;have i1:¬ 9223372036854775807 < R.size+mk.size:=mOm;have hS0:ac w.heap.size w w.drew∧(b < w.drew.heap.size∧g < w.drew.heap.size)∧w.drew.cell? ⟨b,0,JW⟩=JV (JS (JV ⟨g,o,JW⟩))∧w.drew.cell? ⟨g,o,JW⟩=JV (JO JP sc)∧w.drew.cell? ⟨g,o+1,JW⟩=JV (JO JP sz)∧w.drew.cell? ⟨g,o+2,JW⟩=JV (JO JP dy)∧w.drew.cell? ⟨g,o+3,JW⟩=JV (JQ tr)∧w.drew.cell? ⟨g,o+4,JW⟩=JV (JQ bf)∧w.drew.cell? ⟨g,o+5,JW⟩=JV (JO JP ky)∧w.drew.cell? ⟨g,o+6,JW⟩=JV (JQ mk):=
  ⟨(Below.refl _ w).drew,⟨hbl,hgl⟩,h0,hc 0 _ rfl,hc 1 _ rfl,hc 2 _ rfl,hc 3 _ rfl,hc 4 _ rfl,hc 5 _ rfl,hc 6 _ rfl⟩
 have keepS:∀ {u v:World},(ac w.heap.size w u∧(b < u.heap.size∧g < u.heap.size)∧u.cell? ⟨b,0,JW⟩=JV (JS (JV ⟨g,o,JW⟩))∧u.cell? ⟨g,o,JW⟩=JV (JO JP sc)∧u.cell? ⟨g,o+1,JW⟩=JV (JO JP sz)∧u.cell? ⟨g,o+2,JW⟩=JV (JO JP dy)∧u.cell? ⟨g,o+3,JW⟩=JV (JQ tr)∧u.cell? ⟨g,o+4,JW⟩=JV (JQ bf)∧u.cell? ⟨g,o+5,JW⟩=JV (JO JP ky)∧u.cell? ⟨g,o+6,JW⟩=JV (JQ mk))→ac u.heap.size u v→(ac w.heap.size w v∧(b < v.heap.size∧g < v.heap.size)∧v.cell? ⟨b,0,JW⟩=JV (JS (JV ⟨g,o,JW⟩))∧v.cell? ⟨g,o,JW⟩=JV (JO JP sc)∧v.cell? ⟨g,o+1,JW⟩=JV (JO JP sz)∧v.cell? ⟨g,o+2,JW⟩=JV (JO JP dy)∧v.cell? ⟨g,o+3,JW⟩=JV (JQ tr)∧v.cell? ⟨g,o+4,JW⟩=JV (JQ bf)∧v.cell? ⟨g,o+5,JW⟩=JV (JO JP ky)∧v.cell? ⟨g,o+6,JW⟩=JV (JQ mk)):=fun h hb=>by
  obtain ⟨a1,⟨a2,a3⟩,a4,a5,a6,a7,a8,a9,a10,a11⟩:=h;have e:=fun (j:Nat)=>hb.cell (p:=⟨g,j,JW⟩) a3
  exact ⟨ah a1 hb,⟨av a2 hb.size,av a3 hb.size⟩,(hb.cell (p:=⟨b,0,JW⟩) a2).trans a4,(e _).trans a5,(e _).trans a6,(e _).trans a7,(e _).trans a8,(e _).trans a9,(e _).trans a10,(e _).trans a11⟩
 clear hc hx
 go_enter func206,ntmps206;go_wp2_with fail;refine Jy (S:=fun u=>ac w.heap.size w u∧(b < u.heap.size∧g < u.heap.size)∧u.cell? ⟨b,0,JW⟩=JV (JS (JV ⟨g,o,JW⟩))∧u.cell? ⟨g,o,JW⟩=JV (JO JP sc)∧u.cell? ⟨g,o+1,JW⟩=JV (JO JP sz)∧u.cell? ⟨g,o+2,JW⟩=JV (JO JP dy)∧u.cell? ⟨g,o+3,JW⟩=JV (JQ tr)∧u.cell? ⟨g,o+4,JW⟩=JV (JQ bf)∧u.cell? ⟨g,o+5,JW⟩=JV (JO JP ky)∧u.cell? ⟨g,o+6,JW⟩=JV (JQ mk)) [(0,true),(1,true),(2,true),(3,true),(4,true),(5,true),(7,true),(8,true),(9,true),(10,true),(11,true),(12,true),(13,true),(6,false),(14,true),(15,false),(16,true)] hS0 ?_;have hS:=hS0
 iterate 13 refine aj ?_
 refine aH 207 call207 (kb _ (ht.below hS.1)) ?_;rintro x wn ⟨rfl,hb⟩;replace hS:=keepS hS hb;refine ⟨_,rfl,hS,?_⟩;(try clear hb);refine ar ?_;refine aj ?_;refine aH 148 call148 (ko _) ?_;rintro x wn ⟨rfl,hb⟩;replace hS:=keepS hS hb;refine ⟨_,rfl,hS,?_⟩;(try clear hb);refine ar ?_;refine aj ?_;simp only [aO,bj];go_wp2_with fail;go_ret;exact ⟨cJ HL.out,hS.1⟩
end
section
theorem L8.below {u v:World} {b:Nat} {p:Option LL} (h:L8 u b p) (hb:ac u.heap.size u v):L8 v b p:=by
 cases p with
 | none=>exact (hb.cell (am u _ h)).trans h
 | some x =>
  obtain ⟨g,o,h0,hx⟩:=h;exact ⟨g,o,(hb.cell (am u _ h0)).trans h0,hx.below hb (am u ⟨g,o+0,JW⟩ (hx 0 _ rfl))⟩
theorem Fx (b:Nat) (p:Option LL) (w:World) (hp:L8 w b p) (hok:∀ y,p=JV y→y.Ok) (ht:Tabs w) :
  Calls prog 206 #[JS (JV ⟨b,0,JW⟩)] w fun e w'=>e=JT (JQ (fL p))∧ac w.heap.size w w':=by
 cases p with
 | none=>exact DD b w hp
 | some x=>exact DF b x (hok x rfl) w hp ht
abbrev vh (w:World) (b:Nat) (cs:Array Value) (b2:Nat) (cs2:Array Value) (u:World):Prop:=ac w.heap.size w u∧(b < u.heap.size∧b2 < u.heap.size)∧(∀ j,u.cell? ⟨b,j,JW⟩=cs[j]?)∧(∀ j,u.cell? ⟨b2,j,JW⟩=cs2[j]?)
theorem bT {w u v:World} {b b2:Nat} {cs cs2:Array Value} (h:vh w b cs b2 cs2 u) (hb:ac u.heap.size u v):vh w b cs b2 cs2 v:=
 ⟨ah h.1 hb,⟨av h.2.1.1 hb.size,av h.2.1.2 hb.size⟩,fun j=>(hb.cell (p:=⟨b,j,JW⟩) h.2.1.1).trans (h.2.2.1 j),fun j=>(hb.cell (p:=⟨b2,j,JW⟩) h.2.1.2).trans (h.2.2.2 j)⟩
theorem kI (x:LL) (hx:x.Ok):(bC x).size≤300000:=by
 have z1:=ez x.school hx.school.1 hx.school.2;have z2:=ez x.size hx.size.1 hx.size.2;have z3:=ez x.day hx.day.1 hx.day.2;have z4:=fB x.tree (by have:=hx.tree;omega);have z5:=fB x.before (by have:=hx.before;omega);have z6:=ez x.key hx.key.1 hx.key.2;have y4:=hx.tree;have y5:=hx.before;rw [bw]
 show (jj x).length≤_
 unfold jj
 simp only [ax];omega
theorem vI (b g c:Nat) (r:LR) (p:Option LL) (x:LL) (hx:x.Ok) (hok:∀ y,p=JV y→y.Ok) (w:World) (hp:L8 w b p) (hk:LV w g r.keys) (hg:g < w.heap.size) (hl:r.keys.length≤1000) (hsz:∀ k∈r.keys,k.secret.size≤100000) (hs:I64 r.school) (ht:Tabs w) :
  Calls prog 153 #[JS (JV ⟨b,0,JW⟩),.agg #[JO JP r.school,JR (JV ⟨g,0,JW⟩) r.keys.length c],x.val] w fun e w'=>e=JT (JO JP (eN r p x))∧ac w.heap.size w w':=by
 have kv:=fun u (hb:ac w.heap.size w u)=>rN g c r x.key (bC x) x.mark x.day x.day u hl (hk.below hb hg) hsz (av hg hb.size) hs hx.key (by have:=kI x hx;omega) (ht.below hb)
 have kb:=fun u (hb:ac w.heap.size w u)=>rE x hx u (ht.below hb)
 have kl:=fun u (hb:ac w.heap.size w u)=>Fx b p u (hp.below hb) hok (ht.below hb)
 have ka:=fun u (hb:ac w.heap.size w u)=>Fu b p x.size x.day u (hp.below hb)
 have HV:=aa (show eN r p x=if x.school ≠ r.school then 22 else if aB x.size 0 2000=false then 3 else if aB x.day 0 100000=false then 23 else if iE p x.size x.day then 7 else if x.before ≠ fL p∨x.tree.size ≠ 8 then 40 else eh r x.key (bC x) x.mark x.day x.day from rfl);generalize eN r p x=V at *;generalize eh r x.key (bC x) x.mark x.day x.day=VV at *;generalize bC x=R at *;generalize fL p=L at *;obtain ⟨rs,l⟩:=r;obtain ⟨sc,sz,dy,tr,bf,ky,mk⟩:=x;simp only at *;have HA:Hid (∀ t,decide (iE p sz dy)=t→(t=true↔iE p sz dy)):=aa (fun t h=>by rw [← h,decide_eq_true_eq]);generalize decide (iE p sz dy)=BL at *;have hb0:=ah (al w (JU #[JO JP rs,JR (JV ⟨g,0,JW⟩) l.length c] 33)) (al _ (JU #[JO JP sc,JO JP sz,JO JP dy,JQ tr,JQ bf,JO JP ky,JQ mk] 65));have hS0:vh w w.heap.size #[JO JP rs,JR (JV ⟨g,0,JW⟩) l.length c] (w.heap.size+1) #[JO JP sc,JO JP sz,JO JP dy,JQ tr,JQ bf,JO JP ky,JQ mk] ((w.alloc (JU #[JO JP rs,JR (JV ⟨g,0,JW⟩) l.length c] 33)).alloc (JU #[JO JP sc,JO JP sz,JO JP dy,JQ tr,JQ bf,JO JP ky,JQ mk] 65)):=by have e2:=heap_alloc_new (w.alloc (JU #[JO JP rs,JR (JV ⟨g,0,JW⟩) l.length c] 33)) (JU #[JO JP sc,JO JP sz,JO JP dy,JQ tr,JQ bf,JO JP ky,JQ mk] 65);have e1:=eG (heap_alloc_new w (JU #[JO JP rs,JR (JV ⟨g,0,JW⟩) l.length c] 33)) (JU #[JO JP sc,JO JP sz,JO JP dy,JQ tr,JQ bf,JO JP ky,JQ mk] 65);rw [size_alloc] at e2;exact ⟨hb0,⟨ay e1,ay e2⟩,ae e1,ae e2⟩
 have KV:=aa kv
 have KB:=aa kb;have KL:=aa kl;have KA:=aa ka;clear kv kb kl ka hx hk hsz hok hp;go_enter func153,ntmps153;by_cases h1:sc=rs
 rotate_left 1
 ·have t1:(sc != rs)=true:=by rw [bne_iff_ne];exact h1
  have HV2:Hid (V=22):=aa (by rw [HV.out,if_pos h1]);clear HV h1;go_wp2_with fail;go_ret;exact ⟨aI HV2.out.symm,hb0⟩
 have t1:(sc != rs)=false:=by rw [bne_eq_false_iff_eq];exact h1
 have HV2:=aa (HV.out.trans (if_neg (fun h=>h h1)));clear HV h1;by_cases h2:sz < 0
 ·have HV3:Hid (V=3):=aa (by rw [HV2.out,if_pos (by unfold aB;rw [decide_eq_false mOm];rfl)]);clear HV2;go_wp2_with fail;go_ret;exact ⟨aI HV3.out.symm,hb0⟩
 by_cases h3:2000 < sz
 ·have HV3:Hid (V=3):=aa (by rw [HV2.out,if_pos (by unfold aB;rw [decide_eq_true (show 0≤sz by omega),decide_eq_false mOm];rfl)]);clear HV2;go_wp2_with fail;go_ret;exact ⟨aI HV3.out.symm,hb0⟩
 have HV3:=aa (HV2.out.trans (if_neg (by unfold aB;rw [decide_eq_true (show 0≤sz by omega),decide_eq_true mOm];simp)))
 clear HV2;obtain ⟨bd,hbd⟩:∃ x,aB dy 0 100000=x:=⟨_,rfl⟩;go_wp2_with fail;refine (f6 _ _).mono ?_;rintro _ _ ⟨rfl,rfl⟩;rw [hbd] at HV3 ⊢
 cases bd
 ·have HV4:Hid (V=23):=aa (HV3.out.trans (if_pos rfl));clear HV3;go_wp2_with fail;go_ret;exact ⟨aI HV4.out.symm,hb0⟩
 have HV4:=aa (HV3.out.trans (if_neg mSi))
 clear HV3;go_wp2_with fail;refine (KA.out _ hb0).mono ?_;rintro _ _ ⟨rfl,rfl⟩;have HB:=HA.out BL rfl;clear HA
 cases BL
 rotate_left 1
 ·have HV5:Hid (V=7):=aa (HV4.out.trans (if_pos (HB.1 rfl)));clear HV4 HB;go_wp2_with fail;go_ret;exact ⟨aI HV5.out.symm,hb0⟩
 have HV5:=aa (HV4.out.trans (if_neg (fun h=>by have:=HB.2 h;cases this)))
 clear HV4 HB;go_wp2_with fail;have hS1:=bT hS0 (Below.refl _ _).drew;refine Jy (S:=fun u=>ac w.heap.size w u∧(w.heap.size < u.heap.size∧w.heap.size+1 < u.heap.size)∧(∀ j,u.cell? ⟨w.heap.size,j,JW⟩=(#[JO JP rs,JR (JV ⟨g,0,JW⟩) l.length c]:Array Value)[j]?)∧(∀ j,u.cell? ⟨w.heap.size+1,j,JW⟩=(#[JO JP sc,JO JP sz,JO JP dy,JQ tr,JQ bf,JO JP ky,JQ mk]:Array Value)[j]?)) [(0,true),(1,true),(2,true),(3,false),(4,true),(5,true)] hS1 ?_;have hS:=hS1
 iterate 3 refine aj ?_
 refine aH 206 call206 (KL.out _ hS.1) ?_;rintro x wn ⟨rfl,hb⟩;replace hS:=bT hS hb;refine ⟨_,rfl,hS,?_⟩;(try clear hb);refine ar ?_
 iterate 2 refine aj ?_
 simp only [aO,bj];have hW:=hS.1;have hS2:=bT hS (Below.refl _ _).drew;obtain ⟨-,⟨s1,s2⟩,s3,s4⟩:=hS;have q3:wn.cell? ⟨w.heap.size+1,3,JW⟩=JV (JQ tr):=s4 3;by_cases h5:bf=L
 rotate_left 1
 ·have te:=iZ h5;have HV6:Hid (V=40):=aa (HV5.out.trans (if_pos (.inl h5)));clear HV5 h5 s3 s4 hS1 hS0 hS2;simp only [te,fa];go_wp2_with fail;go_ret;exact ⟨aI HV6.out.symm,hW⟩
 subst h5
 have tq:(bf.toList==bf.toList)=true:=beq_self_eq_true _;simp only [tq,Bool.not_true];clear tq;by_cases h6:tr.size=8
 rotate_left 1
 ·have te:((tr.size:Int) != 8)=true:=by rw [bne_iff_ne];omega
  have HV6:Hid (V=40):=aa (HV5.out.trans (if_pos (.inr h6)));clear HV5 h6 s3 s4 hS1 hS0 hS2;go_wp2_with fail;go_ret;exact ⟨aI HV6.out.symm,hW⟩
 have te:((tr.size:Int) != 8)=false:=by rw [bne_eq_false_iff_eq];omega
 have HV6:Hid (V=VV):=aa (HV5.out.trans (if_neg (fun h=>by rcases h with h | h;exact h rfl;exact h h6)));clear HV5 h6 s3 s4 hS1 hS0;go_wp2_with fail;refine Jy (S:=fun u=>ac w.heap.size w u∧(w.heap.size < u.heap.size∧w.heap.size+1 < u.heap.size)∧(∀ j,u.cell? ⟨w.heap.size,j,none⟩=(#[.int .i64 rs,.slice (some ⟨g,0,none⟩) l.length c]:Array Value)[j]?)∧(∀ j,u.cell? ⟨w.heap.size+1,j,none⟩=(#[.int .i64 sc,.int .i64 sz,.int .i64 dy,.string tr,.string bf,.int .i64 ky,.string mk]:Array Value)[j]?)) [(0,true),(1,true),(2,true),(3,true),(5,true),(6,true),(7,true),(8,true),(9,true),(10,true),(4,false),(11,false),(12,true)] hS2 ?_;have hS:=hS2
 iterate 10 refine aj ?_
 refine aH 207 call207 (KB.out _ hS.1) ?_;rintro x wn ⟨rfl,hb⟩;replace hS:=bT hS hb;refine ⟨_,rfl,hS,?_⟩;(try clear hb);refine ar ?_;refine aH 22 call22 (KV.out _ hS.1) ?_;rintro x wn ⟨rfl,hb⟩;replace hS:=bT hS hb;refine ⟨_,rfl,hS,?_⟩;(try clear hb);refine ar ?_;refine aj ?_;simp only [aO,bj];go_wp2_with fail;go_ret;exact ⟨aI HV6.out.symm,hS.1⟩
end
section
theorem df:∀ x:LL,(cH x).length=7:=fun _=>rfl
theorem nN {α:Type} {l:List α} {k:Nat} {x:α} (h:l[k]? = JV x):(l.take (k+1)).getLast? = JV x:=by rw [aL,h,Option.toList_some,List.getLast?_append];rfl
theorem sI {r:LR} {l:List LL} {k:Nat} {x:LL} (h:l[k]? = JV x) (p:Option LL):dW r p (l.drop k)=if eN r p x ≠ 0 then eN r p x else dW r (JV x) (l.drop (k+1)):=by obtain ⟨hlt,rfl⟩:=ap.1 h;rw [List.drop_eq_getElem_cons hlt];rfl
theorem xw (g c:Nat) (r:LR) (pl:Option Addr) (cl:Nat) (l:List LL) (w:World) (hr:LK cH w (JR pl l.length cl) l) (hok:∀ x∈l,x.Ok) (hll:l.length≤1000000) (hk:LV w g r.keys) (hg:g < w.heap.size) (hl:r.keys.length≤1000) (hsz:∀ k∈r.keys,k.secret.size≤100000) (hs:I64 r.school) (ht:Tabs w) :
  Calls prog 90 #[.agg #[JO JP r.school,JR (JV ⟨g,0,JW⟩) r.keys.length c],JR pl l.length cl] w fun e w'=>e=JT (JO JP (cP r l))∧ac w.heap.size w w':=by
 have kc:=fun u (hb:ac w.heap.size w u)=>yw g c r u (hk.below hb hg) (av hg hb.size) hl
 have kp:=fun b (p:Option LL) (x:LL) (hx:x.Ok) (hp:∀ y,p=JV y→y.Ok) u (hb:ac w.heap.size w u) (hpl:L8 u b p)=>vI b g c r p x hx hp u hpl (hk.below hb hg) (av hg hb.size) hl hsz hs (ht.below hb)
 have HV:=aa (show cP r l=if fd r ≠ 0 then fd r else if 200 < l.length then 2 else dW r JW l from rfl);have HEX:=aa (fun (k:Nat) (x:LL) (h:l[k]? = JV x) (p:Option LL)=>sI (r:=r) h p);have HNIL:=aa (fun p=>(show dW r p []=0 by cases p <;> rfl));generalize cP r l=V at *;generalize hCK:fd r=CK at *;generalize hRE:dW r=RE at *;generalize hR1:eN r=R1 at *;clear hCK hRE hR1;obtain ⟨rs,kl⟩:=r;simp only at *;have hb0:=al w (JU #[JO JP rs,JR (JV ⟨g,0,JW⟩) kl.length c] 33);have hh:=heap_alloc_new w (JU #[JO JP rs,JR (JV ⟨g,0,JW⟩) kl.length c] 33);have kc0:=kc _ hb0;have KP:=aa kp;have HR:=aa hr;have HOK:=aa hok;clear kc kp hk hsz hr hok;go_enter func90,ntmps90;go_wp2_with fail;refine kc0.mono ?_;rintro _ w1 ⟨rfl,hb1⟩;have hbw:=ah hb0 hb1;have e1:=(hb1.block _ (ay hh)).trans hh;have r0:w1.cell? ⟨w.heap.size,0,JW⟩=JV (JO JP rs):=ae e1 0;have r1:w1.cell? ⟨w.heap.size,1,JW⟩=JV (JR (JV ⟨g,0,JW⟩) kl.length c):=ae e1 1;have hrl:=ay e1;clear kc0 hb1 hh e1;by_cases h0:CK=0
 rotate_left 1
 ·have t1:(CK != 0)=true:=by rw [bne_iff_ne];exact h0
  have HV2:Hid (V=CK):=aa (by rw [HV.out,if_pos h0]);clear HV h0;go_wp2_with fail;go_ret;exact ⟨aI HV2.out.symm,hbw⟩
 subst h0
 have HV2:=aa (HV.out.trans (if_neg (fun h=>h rfl)));clear HV;by_cases h2:200 < l.length
 ·have i1:(200:Int) < (l.length:Int):=mOm;have HV3:Hid (V=2):=aa (HV2.out.trans (if_pos h2));clear HV2 h2;go_wp2_with fail;go_ret;exact ⟨aI HV3.out.symm,hbw⟩
 have i1:¬ (200:Int) < (l.length:Int):=mOm
 have HV3:=aa (HV2.out.trans (if_neg h2));clear HV2 h2;go_wp2_with fail;have hn:=heap_alloc_new w1 (JU #[.pointer JW] 200);have hb2:=ah hbw (al w1 (JU #[.pointer JW] 200));have hbx:=al w1 (JU #[.pointer JW] 200)
 go_loopw [22] (fun i wr=>∃ k:Nat,k≤l.length∧i=JO JP k∧∃ a,Hid (wr.heap[w1.heap.size]? = JV (JU #[.pointer a] 200 (0,0)))∧Hid (L8 wr w1.heap.size (l.take k).getLast?)∧Hid (RE (l.take k).getLast? (l.drop k)=RE JW l)∧ac w1.heap.size w1 wr) (fun i _=>l.length - (aw i).toNat)
 case atStart=>exact ⟨0,aR _,rfl,JW,aa hn,aa (ae hn 0),aa rfl,hbx⟩
 case round =>
  obtain ⟨k,hk,rfl,a,HA,HP,HI,hb⟩:=hrel;by_cases hlt:k < l.length
  ·obtain ⟨lg,lo,rfl,hlg,hrow⟩:=dc (kk:=7) HR.out df rfl mOm;have hge:=ai hlt;have hat:=hrow k _ hge;have HE:=aa (HEX.out k _ hge (l.take k).getLast?);have HT:=aa (nN hge);have hxo:=HOK.out _ (bD hlt);have hpo:∀ y,(l.take k).getLast? = JV y→y.Ok:=fun y hy=>HOK.out y (cT (List.mem_of_getLast? hy))
   have hbk:=ah hbw hb;have HAT:Hid (PrevAt w lg (lo+k*7) l[k]):=aa (fun j v hv=>hat j v hv);have hbl:=fun u=>KP.out w1.heap.size _ _ hxo hpo u
   have j1:(k:Int) < (l.length:Int):=mOm;have j2:(0:Int)≤(k:Int):=mOm;generalize l[k]=x at *;obtain ⟨sc,sz,dy,tr,bf,ky,mk⟩:=x;have q:=fun j=>hbk.cell (p:=⟨lg,j,JW⟩) hlg
   have q0:wr.cell? ⟨lg,lo+k*7,JW⟩=JV (JO JP sc):=(q _).trans (hat 0 _ rfl);have q1:wr.cell? ⟨lg,lo+k*7+1,JW⟩=JV (JO JP sz):=(q _).trans (hat 1 _ rfl);have q2:wr.cell? ⟨lg,lo+k*7+2,JW⟩=JV (JO JP dy):=(q _).trans (hat 2 _ rfl);have q3:wr.cell? ⟨lg,lo+k*7+3,JW⟩=JV (JQ tr):=(q _).trans (hat 3 _ rfl);have q4:wr.cell? ⟨lg,lo+k*7+4,JW⟩=JV (JQ bf):=(q _).trans (hat 4 _ rfl);have q5:wr.cell? ⟨lg,lo+k*7+5,JW⟩=JV (JO JP ky):=(q _).trans (hat 5 _ rfl);have q6:wr.cell? ⟨lg,lo+k*7+6,JW⟩=JV (JQ mk):=(q _).trans (hat 6 _ rfl);have s0:=(hb.cell (p:=⟨w.heap.size,0,JW⟩) hrl).trans r0;have s1:=(hb.cell (p:=⟨w.heap.size,1,JW⟩) hrl).trans r1;have hrl2:w.heap.size < wr.heap.size:=av hrl hb.size;have hba:=al wr (JU #[JO JP sc,JO JP sz,JO JP dy,JQ tr,JQ bf,JO JP ky,JQ mk] 65);have kq:=hbl _ (ah hbk hba) (HP.out.below hba);have HA2:=aa ((hba.block _ (ay HA.out)).trans HA.out);generalize R1 (l.take k).getLast? ⟨sc,sz,dy,tr,bf,ky,mk⟩=E at *;clear hat hge hxo hpo hbl q hrow;go_wp2_with fail;refine kq.mono ?_;rintro _ w4 ⟨rfl,hb4⟩;have hbb:=ah hb (ah hba hb4);have e4:=(hb4.block _ (ay HA2.out)).trans HA2.out;have p0:w4.cell? ⟨w1.heap.size,0,JW⟩=JV (.pointer a):=ae e4 0;have pf:=Lib.frozen_of_heap e4 0;have E4:=aa e4;clear kq hb4 hba e4 q0 q1 q2 q3 q4 q5 q6 s0 s1;by_cases h0:E=0
   rotate_left 1
   ·have t1:(E != 0)=true:=by rw [bne_iff_ne];exact h0
    have HN:Hid (V=E):=aa (by rw [HV3.out,← HI.out,HE.out,if_pos h0]);clear h0 HE HI;go_wp2_with fail;go_ret;exact ⟨aI HN.out.symm,ah hbw hbb⟩
   subst h0
   have HN:Hid (RE (l.take (k+1)).getLast? (l.drop (k+1))=RE JW l):=aa (by rw [← HI.out,HE.out,if_neg mSi,HT.out]);clear HE HI;go_wp2_with fail;have hbs:=hbb.setCell (p:=⟨w1.heap.size,0,JW⟩) (aD _) (JS (JV ⟨lg,lo+k*7,JW⟩));have hsh:=bp E4.out 0 (JS (JV ⟨lg,lo+k*7,JW⟩))
   have HPL:Hid (L8 (w4.setCell ⟨w1.heap.size,0,JW⟩ (JS (JV ⟨lg,lo+k*7,JW⟩))) w1.heap.size (l.take (k+1)).getLast?):=aa (by
    rw [HT.out]
    exact ⟨lg,lo+k*7,ae hsh 0,HAT.out.below (ah hbw hbs) hlg⟩)
   first
    | exact ⟨⟨k+1,mOm,by first | rfl | go_num,_,aa hsh,HPL,HN,hbs⟩,by simp [aw];omega⟩
    |go_roundw
     case rel=>exact ⟨k+1,mOm,by go_num,_,aa hsh,HPL,HN,hbs⟩
     case measure=>simp [aw];omega
  ·obtain rfl:k=l.length:=mOm;have HV4:Hid (V=0):=aa (by rw [HV3.out,← HI.out,jn,HNIL.out]);go_wp2_with fail;go_ret;exact ⟨aI HV4.out.symm,ah hbw hb⟩
end
section
theorem sE (pl:Option Addr) (cl:Nat) (l:List LL) (w:World) (hr:LK cH w (JR pl l.length cl) l) (hok:∀ x∈l,x.Ok) (hll:l.length≤1000000) :
  Calls prog 128 #[JR pl l.length cl] w fun e w'=>e=JT (JQ (fL l.getLast?))∧ac w.heap.size w w':=by
 by_cases h0:l.length=0
 ·obtain rfl:=aS h0;have t1:((([]:List LL).length:Int)==0)=true:=rfl;clear h0 hr;go_enter func128,ntmps128;go_wp2_with fail;go_ret;exact ⟨rfl,Below.refl _ _⟩
 have t1:((l.length:Int)==0)=false:=by rw [beq_eq_false_iff_ne];omega
 obtain ⟨k,hk⟩:∃ k,k=l.length - 1:=⟨_,rfl⟩;have hlt:k < l.length:=mOm;obtain ⟨lg,lo,rfl,hlg,hrow⟩:=dc (kk:=7) hr df rfl mOm;have hge:=ai hlt;have hat:=hrow k _ hge;have hx:=hok _ (bD hlt);have HT:Hid (l.getLast? = JV l[k]):=aa (by rw [List.getLast?_eq_getElem?,← hk,hge]);have kb:=fun w=>ly l[k] hx w
 have hzb:=kI l[k] hx;have hzm:=hx.mark;have ko:=fun w=>nK (bC l[k]++l[k].mark) (by rw [ByteArray.size_append];omega) w
 have HL:Hid ((⟨(dg (bC l[k]++l[k].mark).data.toList).toArray⟩:ByteArray)=fL l.getLast?):=aa (by rw [HT.out];unfold fL;rw [gb];rfl);have j1:(k:Int) < (l.length:Int):=mOm;have j2:(0:Int)≤(k:Int):=mOm;have a1:IntKind.i64.wrap ((l.length:Int) - 1)=(k:Int):=by rw [show (l.length:Int) - 1=(k:Int) by omega];exact eR _ _ rfl mOm
 generalize fL l.getLast? = L at *;generalize (⟨(dg (bC l[k]++l[k].mark).data.toList).toArray⟩:ByteArray)=D at *;generalize bC l[k]=R at *;generalize l[k]=x at *;obtain ⟨sc,sz,dy,tr,bf,ky,mk⟩:=x;simp only at *;have i1:¬ 9223372036854775807 < R.size+mk.size:=mOm;have q0:w.cell? ⟨lg,lo+k*7,JW⟩=JV (JO JP sc):=hat 0 _ rfl;have q1:w.cell? ⟨lg,lo+k*7+1,JW⟩=JV (JO JP sz):=hat 1 _ rfl;have q2:w.cell? ⟨lg,lo+k*7+2,JW⟩=JV (JO JP dy):=hat 2 _ rfl;have q3:w.cell? ⟨lg,lo+k*7+3,JW⟩=JV (JQ tr):=hat 3 _ rfl;have q4:w.cell? ⟨lg,lo+k*7+4,JW⟩=JV (JQ bf):=hat 4 _ rfl;have q5:w.cell? ⟨lg,lo+k*7+5,JW⟩=JV (JO JP ky):=hat 5 _ rfl;have q6:w.cell? ⟨lg,lo+k*7+6,JW⟩=JV (JQ mk):=hat 6 _ rfl;have hb0:=al w (JU #[JO JP sc,JO JP sz,JO JP dy,JQ tr,JQ bf,JO JP ky,JQ mk] 65);have hS0:sP w w.heap.size #[JO JP sc,JO JP sz,JO JP dy,JQ tr,JQ bf,JO JP ky,JQ mk] (w.alloc (JU #[JO JP sc,JO JP sz,JO JP dy,JQ tr,JQ bf,JO JP ky,JQ mk] 65)).drew:=⟨hb0.drew,by show w.heap.size < (w.alloc _).heap.size;rw [size_alloc];omega,fun j=>ae (heap_alloc_new w _) j⟩;clear hat hge hx hrow hr hok hk HT h0;go_enter func128,ntmps128;go_wp2_with fail;refine Jy (S:=fun u=>ac w.heap.size w u∧w.heap.size < u.heap.size∧∀ j,u.cell? ⟨w.heap.size,j,JW⟩=(#[JO JP sc,JO JP sz,JO JP dy,JQ tr,JQ bf,JO JP ky,JQ mk]:Array Value)[j]?) [(0,true),(2,true),(3,true),(1,false),(4,true),(5,false),(6,true)] hS0 ?_;have hS:=hS0
 iterate 3 refine aj ?_
 refine aH 130 call130 (kb _) ?_;rintro x wn ⟨rfl,hb⟩;replace hS:=bO hS hb;refine ⟨_,rfl,hS,?_⟩;(try clear hb);refine ar ?_;refine aj ?_;refine aH 186 call186 (ko _) ?_;rintro x wn ⟨rfl,hb⟩;replace hS:=bO hS hb;refine ⟨_,rfl,hS,?_⟩;(try clear hb);refine ar ?_;refine aj ?_;simp only [aO,bj];go_wp2_with fail;go_ret;exact ⟨cJ HL.out,hS.1⟩
theorem rB (g c:Nat) (r:LR) (id:Int) (t mark:ByteArray) (day seen:Int) (w:World) (hl:r.keys.length≤1000) (hk:LV w g r.keys) (hsz:∀ k∈r.keys,k.secret.size≤100000) (hg:g < w.heap.size) (hs:I64 r.school) (hi:I64 id) (ht:t.size≤1000000) :
  Calls prog 45 #[.agg #[JO JP r.school,JR (JV ⟨g,0,JW⟩) r.keys.length c],JO JP id,JQ t,JQ mark,JO JP day,JO JP seen] w
   fun x w'=>x=JT (JO JP (eh r id t mark day seen))∧ac w.heap.size w w':=by
 have hVn:r.keys[dN r.keys id]? = JW→eh r id t mark day seen=5:=fun h=>by unfold eh;rw [h]
 have hVs:=fun e=>sN (r:=r) (id:=id) (t:=t) (mark:=mark) (day:=day) (seen:=seen) (e:=e)
 generalize eh r id t mark day seen=V at *;obtain ⟨sc,l⟩:=r;simp only at *;have hb0:=al w (JU #[JO JP sc,JR (JV ⟨g,0,JW⟩) l.length c] 33);have hh:=heap_alloc_new w (JU #[JO JP sc,JR (JV ⟨g,0,JW⟩) l.length c] 33);have hF:=sw g c sc l id _ hl (hk.below hb0 hg) (av hg hb0.size)
 cases hE:l[dN l id]? with
 | none =>
  have hno:¬ dN l id < l.length:=fun h=>by rw [ai h] at hE;cases hE
  have HV:=aa (hVn hE);rw [if_neg hno] at hF;clear hVn hVs hE hk hno hsz hh;go_enter func45,ntmps45;go_wp2_with fail;refine hF.mono ?_;rintro x w1 ⟨rfl,hb1⟩;have hbw:=ah hb0 hb1;clear hb1 hF hb0;go_wp2_with fail;go_ret;exact ⟨aI HV.out.symm,hbw⟩
 | some e =>
  have h:dN l id < l.length:=(ap.1 hE).1;have HV:=aa (hVs e hE);have hsk:=hsz e (List.mem_of_getElem? hE);have hat:=hk _ _ hE;rw [if_pos h] at hF;have hms:=sZ sc id t hs hi;have hDC:=xq e.secret ⟨(iF sc id t).toArray⟩ mark mOm mOm;have kw:=fun w=>wU sc id (JR (JV ⟨g,0,JW⟩) l.length c) t hs hi ht w
  unfold CP at HV;generalize gi e.secret ⟨(iF sc id t).toArray⟩ mark=bm at hDC HV;generalize (⟨(iF sc id t).toArray⟩:ByteArray)=M at *;clear hE hms hVn hVs hsz hk;generalize dN l id=I at *;obtain ⟨kid,ksec,kfro,kst⟩:=e;simp only at *;have q0:w.cell? ⟨g,I*4,JW⟩=JV (JO JP kid):=hat.cell 0 rfl;have q1:w.cell? ⟨g,I*4+1,JW⟩=JV (JQ ksec):=hat.cell 1 rfl;have q2:w.cell? ⟨g,I*4+2,JW⟩=JV (JO JP kfro):=hat.cell 2 rfl;have q3:w.cell? ⟨g,I*4+3,JW⟩=JV (JO JP kst):=hat.cell 3 rfl;have j1:(I:Int) < (l.length:Int):=mOm;have j2:(0:Int)≤(I:Int):=mOm;have j3:¬ (I:Int) < 0:=mOm;clear hat;go_enter func45,ntmps45;go_wp2_with fail;refine hF.mono ?_;rintro x w1 ⟨rfl,hb1⟩;have hbw:=ah hb0 hb1;have e1:=(hb1.block _ (ay hh)).trans hh;have r0:w1.cell? ⟨w.heap.size,0,JW⟩=JV (JO JP sc):=ae e1 0;have r1:w1.cell? ⟨w.heap.size,1,JW⟩=JV (JR (JV ⟨g,0,JW⟩) l.length c):=ae e1 1;have hrl:=ay e1;have p0:=(hbw.cell (p:=⟨g,I*4,JW⟩) hg).trans q0;have p1:=(hbw.cell (p:=⟨g,I*4+1,JW⟩) hg).trans q1;have p2:=(hbw.cell (p:=⟨g,I*4+2,JW⟩) hg).trans q2;have p3:=(hbw.cell (p:=⟨g,I*4+3,JW⟩) hg).trans q3;have hS0:vh w w.heap.size #[JO JP sc,JR (JV ⟨g,0,JW⟩) l.length c] w1.heap.size #[JO JP kid,JQ ksec,JO JP kfro,JO JP kst] (w1.alloc (JU #[JO JP kid,JQ ksec,JO JP kfro,JO JP kst] 78)):=
   ⟨ah hbw (al _ _),⟨ay (eG e1 _),ay (heap_alloc_new w1 _)⟩,ae (eG e1 _),ae (heap_alloc_new w1 _)⟩
  clear hb1 hF hb0 hh e1 q0 q1 q2 q3
  by_cases hday:day < kfro
  ·have HV2:Hid (V=23):=aa (by rw [HV.out,if_pos hday]);clear HV;go_wp2_with fail;go_ret;exact ⟨aI HV2.out.symm,hS0.1⟩
  have HV2:Hid (V=if bm=false then 11 else if kst ≠ 0∧kst≤seen then 11 else 0):=aa (by rw [HV.out,if_neg hday])
  clear HV;go_wp2_with fail;have hS1:=bT hS0 (Below.refl _ _).drew;refine Jy (S:=fun u=>ac w.heap.size w u∧(w.heap.size < u.heap.size∧w1.heap.size < u.heap.size)∧(∀ j,u.cell? ⟨w.heap.size,j,JW⟩=(#[JO JP sc,JR (JV ⟨g,0,JW⟩) l.length c]:Array Value)[j]?)∧(∀ j,u.cell? ⟨w1.heap.size,j,JW⟩=(#[JO JP kid,JQ ksec,JO JP kfro,JO JP kst]:Array Value)[j]?)) [(0,true),(1,true),(2,true),(3,true),(4,true),(6,true),(5,false),(7,false),(8,true)] hS1 ?_;have hS:=hS1
  iterate 6 refine aj ?_
  refine aH 110 call110 (kw _) ?_;rintro x wn ⟨rfl,hb⟩;replace hS:=bT hS hb;refine ⟨_,rfl,hS,?_⟩;(try clear hb);refine ar ?_;refine aH 109 call109 (hDC _) ?_;rintro x wn ⟨rfl,hb⟩;replace hS:=bT hS hb;refine ⟨_,rfl,hS,?_⟩;(try clear hb);refine ar ?_;refine aj ?_;simp only [aO,bj];have hbF:=hS.1;have k3:wn.cell? ⟨w1.heap.size,3,JW⟩=JV (JO JP kst):=hS.2.2.2 3;clear hS hS0 hS1 p0 p1 p2 p3 r0 r1
  cases bm
  ·have HV3:Hid (V=11):=aa (by rw [HV2.out,if_pos rfl]);clear HV2;go_wp2_with fail;go_ret;exact ⟨aI HV3.out.symm,hbF⟩
  have HV3:Hid (V=if kst ≠ 0∧kst≤seen then 11 else 0):=aa (by rw [HV2.out,if_neg mSi])
  clear HV2;by_cases h0:kst=0
  ·subst h0;have HV4:Hid (V=0):=aa (by rw [HV3.out,if_neg (fun h=>h.1 rfl)]);clear HV3;go_wp2_with fail;go_ret;exact ⟨aI HV4.out.symm,hbF⟩
  have tne:(kst != 0)=true:=by rw [bne_iff_ne];exact h0
  by_cases h1:kst≤seen
  ·have HV4:Hid (V=11):=aa (by rw [HV3.out,if_pos ⟨h0,h1⟩]);clear HV3;go_wp2_with fail;go_ret;exact ⟨aI HV4.out.symm,hbF⟩
  ·have HV4:Hid (V=0):=aa (by rw [HV3.out,if_neg (fun h=>h1 h.2)]);clear HV3;go_wp2_with fail;go_ret;exact ⟨aI HV4.out.symm,hbF⟩
end
section
theorem K0 {p q:Prop} (h:q) (f:Wq q→p:=by
 intro hq;refine Jy (S:=fun u=>ac w.heap.size w u∧(w.heap.size < u.heap.size∧w.heap.size+1 < u.heap.size)∧(∀ j,u.cell? ⟨w.heap.size,j,JW⟩=(#[JO JP rs,JR (JV ⟨g,0,JW⟩) kl2.length c]:Array Value)[j]?)∧(∀ j,u.cell? ⟨w.heap.size+1,j,JW⟩=(#[JO JP sc,JO JP sz,JO JP dy,JQ tr,JQ bf,JO JP ky,JQ mk]:Array Value)[j]?)) [(0,true),(1,true),(2,true),(3,false),(4,true),(5,true),(6,true),(7,true),(8,true),(9,true),(10,true)] hS1 ?_;have hS:=hS1
 iterate 3 refine aj ?_
 revert hS
 exact hq.1):p:=f ⟨h⟩
theorem JJ {p:Prop} (h:p:=by
 by_cases h7:bf=L
 rotate_left 1
 ·have te:=iZ h7;have HV6:Hid (V=40):=aa (HV5.out.trans (if_pos (.inl h7)));have tn:(bf.toList != L.toList)=true:=by unfold bne;rw [te];rfl
  clear HV5 h7;refine K0 ?_;intro hS;refine aH 128 call128 (KL.out _ hS.1) ?_;rintro x wn ⟨rfl,hb⟩;replace hS:=bT hS hb;refine ⟨_,rfl,hS,?_⟩;(try clear hb);refine ar ?_
  iterate 7 (first | refine aj ?_ | refine cN ?_)
  simp only [aO,bj];have hW:=hS.1;clear hS hS0 hS1
  (try simp only [te,fa,bne])
  go_wp2_with fail;go_ret;exact ⟨aI HV6.out.symm,hW⟩
 subst h7
 have tq:(bf.toList==bf.toList)=true:=beq_self_eq_true _;have te2:=fun (h:tr.size=8)=>(show ((tr.size:Int) != 8)=false by rw [bne_eq_false_iff_eq];omega)
 have te3:=fun (h:¬ tr.size=8)=>(show ((tr.size:Int) != 8)=true by rw [bne_iff_ne];omega)
 refine K0 ?_;intro hS;refine aH 128 call128 (KL.out _ hS.1) ?_;rintro x wn ⟨rfl,hb⟩;replace hS:=bT hS hb;refine ⟨_,rfl,hS,?_⟩;(try clear hb);refine ar ?_
 iterate 7 refine aj ?_
 simp only [aO,bj];have hW:=hS.1;have hS3:=bT hS (Below.refl _ _).drew;clear hS hS0 hS1;by_cases h8:tr.size=8
 rotate_left 1
 ·have HV6:Hid (V=40):=aa (HV5.out.trans (if_pos (.inr h8)));have te:=te3 h8;clear HV5 h8 te2 te3
  (try simp only [te])
  go_wp2_with fail;go_ret;exact ⟨aI HV6.out.symm,hW⟩
 have te:=te2 h8
 have HV6:Hid (V=VV):=aa (HV5.out.trans (if_neg (fun h=>by rcases h with h | h;exact h rfl;exact h h8)));clear HV5 h8 te2 te3
 (try simp only [te])
 go_wp2_with fail;refine Jy (S:=fun u=>ac w.heap.size w u∧(w.heap.size < u.heap.size∧w.heap.size+1 < u.heap.size)∧(∀ j,u.cell? ⟨w.heap.size,j,JW⟩=(#[JO JP rs,JR (JV ⟨g,0,JW⟩) kl2.length c]:Array Value)[j]?)∧(∀ j,u.cell? ⟨w.heap.size+1,j,JW⟩=(#[JO JP sc,JO JP sz,JO JP dy,JQ tr,JQ bf,JO JP ky,JQ mk]:Array Value)[j]?)) [(0,true),(1,true),(2,true),(3,true),(5,true),(6,true),(7,true),(8,true),(9,true),(10,true),(4,false),(11,false),(12,true)] hS3 ?_;have hS:=hS3
 iterate 10 refine aj ?_
 refine aH 130 call130 (KB.out _) ?_;rintro x wn ⟨rfl,hb⟩;replace hS:=bT hS hb;refine ⟨_,rfl,hS,?_⟩;(try clear hb);refine ar ?_;refine aH 45 call45 (KV.out _ hS.1) ?_;rintro x wn ⟨rfl,hb⟩;replace hS:=bT hS hb;refine ⟨_,rfl,hS,?_⟩;(try clear hb);refine ar ?_;refine aj ?_;simp only [aO,bj];go_wp2_with fail;go_ret
 exact ⟨aI HV6.out.symm,hS.1⟩):p:=h
theorem vK (g c:Nat) (r:LR) (x:LL) (hx:x.Ok) (pl:Option Addr) (cl:Nat) (l:List LL) (w:World) (hr:LK cH w (JR pl l.length cl) l) (hok:∀ x∈l,x.Ok) (hll:l.length≤1000000) (hk:LV w g r.keys) (hg:g < w.heap.size) (hl:r.keys.length≤1000) (hsz:∀ k∈r.keys,k.secret.size≤100000) (hs:I64 r.school) :
  Calls prog 170 #[.agg #[JO JP r.school,JR (JV ⟨g,0,JW⟩) r.keys.length c],x.val,JR pl l.length cl] w fun e w'=>e=JT (JO JP (eN r l.getLast? x))∧ac w.heap.size w w':=by
 have kv:=fun u (hb:ac w.heap.size w u)=>rB g c r x.key (bC x) x.mark x.day x.day u hl (hk.below hb hg) hsz (av hg hb.size) hs hx.key (by have:=kI x hx;omega)
 have kb:=fun u=>ly x hx u
 have kl:=fun u (hb:ac w.heap.size w u)=>sE pl cl l u (hr.below hb) hok hll
 have HV:=aa (show eN r l.getLast? x=if x.school ≠ r.school then 22 else if aB x.size 0 2000=false then 3 else if aB x.day 0 100000=false then 23 else if iE l.getLast? x.size x.day then 7 else if x.before ≠ fL l.getLast?∨x.tree.size ≠ 8 then 40 else eh r x.key (bC x) x.mark x.day x.day from rfl)
 have HLT:Hid ((l.length=0→¬ iE l.getLast? x.size x.day)∧∀ k y,k+1=l.length→l[k]? = JV y→(iE l.getLast? x.size x.day↔(x.size < y.size∨x.day≤y.day))):=aa ⟨fun h e=>by
   rw [aS h] at e;exact e,fun k y hk hy=>by
   rw [List.getLast?_eq_getElem?,← hk,Nat.add_sub_cancel,hy];exact Iff.rfl⟩
 generalize eN r l.getLast? x=V at *
 generalize eh r x.key (bC x) x.mark x.day x.day=VV at *;generalize bC x=R at *;generalize fL l.getLast? = L at *;obtain ⟨rs,kl2⟩:=r;obtain ⟨sc,sz,dy,tr,bf,ky,mk⟩:=x;simp only at *;have hb0:=ah (al w (JU #[JO JP rs,JR (JV ⟨g,0,JW⟩) kl2.length c] 33)) (al _ (JU #[JO JP sc,JO JP sz,JO JP dy,JQ tr,JQ bf,JO JP ky,JQ mk] 65));have hS0:vh w w.heap.size #[JO JP rs,JR (JV ⟨g,0,JW⟩) kl2.length c] (w.heap.size+1) #[JO JP sc,JO JP sz,JO JP dy,JQ tr,JQ bf,JO JP ky,JQ mk] ((w.alloc (JU #[JO JP rs,JR (JV ⟨g,0,JW⟩) kl2.length c] 33)).alloc (JU #[JO JP sc,JO JP sz,JO JP dy,JQ tr,JQ bf,JO JP ky,JQ mk] 65)):=by have e2:=heap_alloc_new (w.alloc (JU #[JO JP rs,JR (JV ⟨g,0,JW⟩) kl2.length c] 33)) (JU #[JO JP sc,JO JP sz,JO JP dy,JQ tr,JQ bf,JO JP ky,JQ mk] 65);have e1:=eG (heap_alloc_new w (JU #[JO JP rs,JR (JV ⟨g,0,JW⟩) kl2.length c] 33)) (JU #[JO JP sc,JO JP sz,JO JP dy,JQ tr,JQ bf,JO JP ky,JQ mk] 65);rw [size_alloc] at e2;exact ⟨hb0,⟨ay e1,ay e2⟩,ae e1,ae e2⟩
 have KV:=aa kv
 have KB:=aa kb;have KL:=aa kl;have HR:=aa hr;clear kv kb kl hx hk hsz hok hr;go_enter func170,ntmps170;by_cases h1:sc=rs
 rotate_left 1
 ·have t1:(sc != rs)=true:=by rw [bne_iff_ne];exact h1
  have HV2:Hid (V=22):=aa (by rw [HV.out,if_pos h1]);clear HV h1;go_wp2_with fail;go_ret;exact ⟨aI HV2.out.symm,hb0⟩
 have t1:(sc != rs)=false:=by rw [bne_eq_false_iff_eq];exact h1
 have HV2:=aa (HV.out.trans (if_neg (fun h=>h h1)));clear HV h1;by_cases h2:sz < 0
 ·have HV3:Hid (V=3):=aa (by rw [HV2.out,if_pos (by unfold aB;rw [decide_eq_false mOm];rfl)]);clear HV2;go_wp2_with fail;go_ret;exact ⟨aI HV3.out.symm,hb0⟩
 by_cases h3:2000 < sz
 ·have HV3:Hid (V=3):=aa (by rw [HV2.out,if_pos (by unfold aB;rw [decide_eq_true (show 0≤sz by omega),decide_eq_false mOm];rfl)]);clear HV2;go_wp2_with fail;go_ret;exact ⟨aI HV3.out.symm,hb0⟩
 have HV3:=aa (HV2.out.trans (if_neg (by unfold aB;rw [decide_eq_true (show 0≤sz by omega),decide_eq_true mOm];simp)))
 clear HV2;obtain ⟨bd,hbd⟩:∃ x,aB dy 0 100000=x:=⟨_,rfl⟩;go_wp2_with fail;refine (iq _ _).mono ?_;rintro _ _ ⟨rfl,rfl⟩;rw [hbd] at HV3 ⊢
 cases bd
 ·have HV4:Hid (V=23):=aa (HV3.out.trans (if_pos rfl));clear HV3;go_wp2_with fail;go_ret;exact ⟨aI HV4.out.symm,hb0⟩
 have HV4:=aa (HV3.out.trans (if_neg mSi))
 clear HV3;by_cases h0:l.length=0
 ·have i1:¬ (0:Int) < (l.length:Int):=mOm;have HV5:=aa (HV4.out.trans (if_neg (HLT.out.1 h0)));clear HV4 h0 HLT;go_wp2_with fail;have hS1:=bT hS0 (Below.refl _ _).drew;exact JJ
 ·have i1:(0:Int) < (l.length:Int):=mOm;obtain ⟨k,hk⟩:∃ k,k+1=l.length:=⟨l.length - 1,mOm⟩;have hlt:k < l.length:=mOm;obtain ⟨lg,lo,rfl,hlg,hrow⟩:=dc (kk:=7) HR.out df rfl mOm;have hge:=ai hlt;have hat:=hrow k _ hge;have HLA:=aa (HLT.out.2 k _ hk hge);have j1:(k:Int) < (l.length:Int):=mOm;have j2:(0:Int)≤(k:Int):=mOm;have a1:IntKind.i64.wrap ((l.length:Int) - 1)=(k:Int):=by rw [show (l.length:Int) - 1=(k:Int) by omega];exact eR _ _ rfl mOm
  generalize l[k]=y at *;obtain ⟨ysc,ysz,ydy,ytr,ybf,yky,ymk⟩:=y;simp only at HLA;have q:=fun j=>hb0.cell (p:=⟨lg,j,JW⟩) hlg
  have q0:=(q _).trans (hat 0 _ rfl);have q1:=(q _).trans (hat 1 _ rfl);have q2:=(q _).trans (hat 2 _ rfl);have q3:=(q _).trans (hat 3 _ rfl);have q4:=(q _).trans (hat 4 _ rfl);have q5:=(q _).trans (hat 5 _ rfl);have q6:=(q _).trans (hat 6 _ rfl);rw [ee] at q0;have hba:=al ((w.alloc (JU #[JO JP rs,JR (JV ⟨g,0,JW⟩) kl2.length c] 33)).alloc (JU #[JO JP sc,JO JP sz,JO JP dy,JQ tr,JQ bf,JO JP ky,JQ mk] 65)) (JU #[JO JP ysc,JO JP ysz,JO JP ydy,JQ ytr,JQ ybf,JO JP yky,JQ ymk] 65);have hS2:=bT hS0 hba;clear hat hge hrow hk h0 HLT q hba;by_cases h5:sz < ysz
  ·have HV5:Hid (V=7):=aa (HV4.out.trans (if_pos (HLA.out.2 (.inl h5))));clear HV4 HLA;go_wp2_with fail;go_ret;exact ⟨aI HV5.out.symm,hS2.1⟩
  by_cases h6:dy≤ydy
  ·have HV5:Hid (V=7):=aa (HV4.out.trans (if_pos (HLA.out.2 (.inr h6))));clear HV4 HLA;go_wp2_with fail;go_ret;exact ⟨aI HV5.out.symm,hS2.1⟩
  have HV5:=aa (HV4.out.trans (if_neg (fun h=>by rcases HLA.out.1 h with h | h;exact h5 h;exact h6 h)))
  clear HV4 HLA;go_wp2_with fail;have hS1:=bT hS2 (Below.refl _ _).drew;exact JJ
end
section
theorem Dz {W w w':World} {p1 p2 p3:Addr} {v1 v2 v3:Value} (h:ac W.heap.size W w∧w.cell? p1=JV v1∧w.cell? p2=JV v2∧w.cell? p3=JV v3) (hb:ac w.heap.size w w'):ac W.heap.size W w'∧w'.cell? p1=JV v1∧w'.cell? p2=JV v2∧w'.cell? p3=JV v3:=
 ⟨ah h.1 hb,(hb.cell (am w _ h.2.1)).trans h.2.1,(hb.cell (am w _ h.2.2.1)).trans h.2.2.1,(hb.cell (am w _ h.2.2.2)).trans h.2.2.2⟩
theorem qY {W w w':World} {p1 p2 p3 p4 p5 p6:Addr} {v1 v2 v3 v4 v5 v6:Value} (h:ac W.heap.size W w∧w.cell? p1=JV v1∧w.cell? p2=JV v2∧w.cell? p3=JV v3∧w.cell? p4=JV v4∧w.cell? p5=JV v5∧w.cell? p6=JV v6) (hb:ac w.heap.size w w'):ac W.heap.size W w'∧w'.cell? p1=JV v1∧w'.cell? p2=JV v2∧w'.cell? p3=JV v3∧w'.cell? p4=JV v4∧w'.cell? p5=JV v5∧w'.cell? p6=JV v6:=
 ⟨ah h.1 hb,(hb.cell (am w _ h.2.1)).trans h.2.1,(hb.cell (am w _ h.2.2.1)).trans h.2.2.1,(hb.cell (am w _ h.2.2.2.1)).trans h.2.2.2.1,(hb.cell (am w _ h.2.2.2.2.1)).trans h.2.2.2.2.1,(hb.cell (am w _ h.2.2.2.2.2.1)).trans h.2.2.2.2.2.1,(hb.cell (am w _ h.2.2.2.2.2.2)).trans h.2.2.2.2.2.2⟩
theorem Ii {W w w':World} {p1 p2 p3 p4 p5 p6 p7 p8 p9:Addr} {v1 v2 v3 v4 v5 v6 v7 v8 v9:Value} (h:ac W.heap.size W w∧w.cell? p1=JV v1∧w.cell? p2=JV v2∧w.cell? p3=JV v3∧w.cell? p4=JV v4∧w.cell? p5=JV v5∧w.cell? p6=JV v6∧w.cell? p7=JV v7∧w.cell? p8=JV v8∧w.cell? p9=JV v9) (hb:ac w.heap.size w w'):ac W.heap.size W w'∧w'.cell? p1=JV v1∧w'.cell? p2=JV v2∧w'.cell? p3=JV v3∧w'.cell? p4=JV v4∧w'.cell? p5=JV v5∧w'.cell? p6=JV v6∧w'.cell? p7=JV v7∧w'.cell? p8=JV v8∧w'.cell? p9=JV v9:=
 ⟨ah h.1 hb,(hb.cell (am w _ h.2.1)).trans h.2.1,(hb.cell (am w _ h.2.2.1)).trans h.2.2.1,(hb.cell (am w _ h.2.2.2.1)).trans h.2.2.2.1,(hb.cell (am w _ h.2.2.2.2.1)).trans h.2.2.2.2.1,(hb.cell (am w _ h.2.2.2.2.2.1)).trans h.2.2.2.2.2.1,(hb.cell (am w _ h.2.2.2.2.2.2.1)).trans h.2.2.2.2.2.2.1,(hb.cell (am w _ h.2.2.2.2.2.2.2.1)).trans h.2.2.2.2.2.2.2.1,(hb.cell (am w _ h.2.2.2.2.2.2.2.2.1)).trans h.2.2.2.2.2.2.2.2.1,(hb.cell (am w _ h.2.2.2.2.2.2.2.2.2)).trans h.2.2.2.2.2.2.2.2.2⟩
theorem tP (g c:Nat) (r:LR) (pl:Option Addr) (cl:Nat) (l:List LL) (w:World) (hr:LK cH w (JR pl l.length cl) l) (hok:∀ x∈l,x.Ok) (hll:l.length≤1000000) (hk:LV w g r.keys) (hg:g < w.heap.size) (hl:r.keys.length≤1000) (hsz:∀ k∈r.keys,k.secret.size≤100000) (hs:I64 r.school) :
  Calls prog 102 #[.agg #[JO JP r.school,JR (JV ⟨g,0,JW⟩) r.keys.length c],JR pl l.length cl] w fun e w'=>e=JT (JO JP (cP r l))∧ac w.heap.size w w':=by
 have kc:=fun u (hb:ac w.heap.size w u)=>tO g c r u (hk.below hb hg) (av hg hb.size) hl
 have kp:=fun (k:Nat) (x:LL) (hx:x.Ok) (hkl:k≤l.length) (hlen:(l.take k).length=k) u (hb:ac w.heap.size w u)=>vK g c r x hx pl cl (l.take k) u (by rw [hlen];exact (hr.below hb).take rfl hkl) (fun y hy=>hok y (cT hy)) mOm (hk.below hb hg) (av hg hb.size) hl hsz hs
 have HV:=aa (show cP r l=if fd r ≠ 0 then fd r else if 200 < l.length then 2 else dW r JW l from rfl);have HEX:=aa (fun (k:Nat) (x:LL) (h:l[k]? = JV x) (p:Option LL)=>sI (r:=r) h p);have HNIL:=aa (fun p=>(show dW r p []=0 by cases p <;> rfl));have hcl:l.length≤cl:=by obtain ⟨_,_,e,h,_⟩:=hr;injection e with _ _ e;omega
 generalize cP r l=V at *
 generalize hCK:fd r=CK at *;generalize hRE:dW r=RE at *;generalize hR1:eN r=R1 at *;clear hCK hRE hR1;obtain ⟨rs,kl⟩:=r;simp only at *;have hb0:=al w (JU #[JO JP rs,JR (JV ⟨g,0,JW⟩) kl.length c] 33);have hh:=heap_alloc_new w (JU #[JO JP rs,JR (JV ⟨g,0,JW⟩) kl.length c] 33);have kc0:=kc _ hb0;have KP:=aa kp;have HR:=aa hr;have HOK:=aa hok;clear kc kp hk hsz hr hok;go_enter func102,ntmps102;go_wp2_with fail;refine kc0.mono ?_;rintro _ w1 ⟨rfl,hb1⟩;have hbw:=ah hb0 hb1;have e1:=(hb1.block _ (ay hh)).trans hh;have r0:w1.cell? ⟨w.heap.size,0,JW⟩=JV (JO JP rs):=ae e1 0;have r1:w1.cell? ⟨w.heap.size,1,JW⟩=JV (JR (JV ⟨g,0,JW⟩) kl.length c):=ae e1 1;have hrl:=ay e1;clear kc0 hb1 hh e1;by_cases h0:CK=0
 rotate_left 1
 ·have t1:(CK != 0)=true:=by rw [bne_iff_ne];exact h0
  have HV2:Hid (V=CK):=aa (by rw [HV.out,if_pos h0]);clear HV h0;go_wp2_with fail;go_ret;exact ⟨aI HV2.out.symm,hbw⟩
 subst h0
 have HV2:=aa (HV.out.trans (if_neg (fun h=>h rfl)));clear HV;by_cases h2:200 < l.length
 ·have i1:(200:Int) < (l.length:Int):=mOm;have HV3:Hid (V=2):=aa (HV2.out.trans (if_pos h2));clear HV2 h2;go_wp2_with fail;go_ret;exact ⟨aI HV3.out.symm,hbw⟩
 have i1:¬ (200:Int) < (l.length:Int):=mOm
 have HV3:=aa (HV2.out.trans (if_neg h2));clear HV2 h2;go_wp2_with fail
 go_loopw [5,6] (fun e5 i wr=>∃ k:Nat,k≤l.length∧i=JO JP k∧Hid (RE (l.take k).getLast? (l.drop k)=RE JW l)∧ac w1.heap.size w1 wr) (fun _ i _=>l.length - (aw i).toNat)
 case atStart=>exact ⟨0,aR _,rfl,aa rfl,Below.refl _ _⟩
 case round =>
  obtain ⟨k,hk,rfl,HI,hb⟩:=hrel;by_cases hlt:k < l.length
  ·obtain ⟨lg,lo,rfl,hlg,hrow⟩:=dc (kk:=7) HR.out df rfl mOm;have hge:=ai hlt;have hat:=hrow k _ hge;have HE:=aa (HEX.out k _ hge (l.take k).getLast?);have HT:=aa (nN hge);have hxo:=HOK.out _ (bD hlt);have hbk:=ah hbw hb;have hlen:(l.take k).length=k:=by rw [aM];omega
   have hkq:=fun u=>KP.out k _ hxo hk hlen u
   rw [hlen] at hkq;have HKQ:=aa hkq;have j1:(k:Int) < (l.length:Int):=mOm;have j2:(0:Int)≤(k:Int):=mOm;have j3:(k:Int)≤(cl:Int):=mOm;generalize l[k]=x at *;obtain ⟨sc,sz,dy,tr,bf,ky,mk⟩:=x;have q:=fun j=>hbk.cell (p:=⟨lg,j,JW⟩) hlg
   have s0:=(hb.cell (p:=⟨w.heap.size,0,JW⟩) hrl).trans r0;have s1:=(hb.cell (p:=⟨w.heap.size,1,JW⟩) hrl).trans r1;have q0:=(q _).trans (hat 0 _ rfl);rw [ee] at q0;have hS0:ac w.heap.size w wr.drew∧wr.drew.cell? ⟨w.heap.size,0,JW⟩=JV (JO JP rs)∧wr.drew.cell? ⟨w.heap.size,1,JW⟩=JV (JR (JV ⟨g,0,JW⟩) kl.length c)∧wr.drew.cell? ⟨lg,lo+k*7,JW⟩=JV (JO JP sc)∧wr.drew.cell? ⟨lg,lo+k*7+1,JW⟩=JV (JO JP sz)∧wr.drew.cell? ⟨lg,lo+k*7+2,JW⟩=JV (JO JP dy)∧wr.drew.cell? ⟨lg,lo+k*7+3,JW⟩=JV (JQ tr)∧wr.drew.cell? ⟨lg,lo+k*7+4,JW⟩=JV (JQ bf)∧wr.drew.cell? ⟨lg,lo+k*7+5,JW⟩=JV (JO JP ky)∧wr.drew.cell? ⟨lg,lo+k*7+6,JW⟩=JV (JQ mk):=
    ⟨hbk.drew,s0,s1,q0,(q _).trans (hat 1 _ rfl),(q _).trans (hat 2 _ rfl),(q _).trans (hat 3 _ rfl),(q _).trans (hat 4 _ rfl),(q _).trans (hat 5 _ rfl),(q _).trans (hat 6 _ rfl)⟩
   generalize R1 (l.take k).getLast? ⟨sc,sz,dy,tr,bf,ky,mk⟩=E at *
   clear hat hge hxo q hrow hlen s0 s1 q0 hkq;go_wp2_with fail;refine Jy (S:=fun u=>ac w.heap.size w u∧u.cell? ⟨w.heap.size,0,JW⟩=JV (JO JP rs)∧u.cell? ⟨w.heap.size,1,JW⟩=JV (JR (JV ⟨g,0,JW⟩) kl.length c)∧u.cell? ⟨lg,lo+k*7,JW⟩=JV (JO JP sc)∧u.cell? ⟨lg,lo+k*7+1,JW⟩=JV (JO JP sz)∧u.cell? ⟨lg,lo+k*7+2,JW⟩=JV (JO JP dy)∧u.cell? ⟨lg,lo+k*7+3,JW⟩=JV (JQ tr)∧u.cell? ⟨lg,lo+k*7+4,JW⟩=JV (JQ bf)∧u.cell? ⟨lg,lo+k*7+5,JW⟩=JV (JO JP ky)∧u.cell? ⟨lg,lo+k*7+6,JW⟩=JV (JQ mk)) [(0,true),(1,true),(2,true),(3,true),(4,true),(5,true),(6,true),(7,true),(8,false),(9,true)] hS0 ?_;have hS:=hS0
   iterate 8 refine aj ?_
   refine aH 170 call170 (HKQ.out _ hS.1) ?_;rintro x wn ⟨rfl,hb⟩;replace hS:=Ii hS hb;have hbd:=ah (Below.refl _ wr).drew hb;refine ⟨_,rfl,hS,?_⟩;(try clear hb);refine ar ?_;refine aj ?_;simp only [aO,bj];have hbb:=ah hb hbd;clear hS hS0;by_cases h0:E=0
   rotate_left 1
   ·have t1:(E != 0)=true:=by rw [bne_iff_ne];exact h0
    have HN:Hid (V=E):=aa (by rw [HV3.out,← HI.out,HE.out,if_pos h0]);clear h0 HE HI;go_wp2_with fail;go_ret;exact ⟨aI HN.out.symm,ah hbw hbb⟩
   subst h0
   have HN:Hid (RE (l.take (k+1)).getLast? (l.drop (k+1))=RE JW l):=aa (by rw [← HI.out,HE.out,if_neg mSi,HT.out]);clear HE HI;go_wp2_with fail
   first
    | exact ⟨⟨k+1,mOm,by first | rfl | go_num,HN,hbb⟩,by simp [aw];omega⟩
    |go_roundw
     case rel=>exact ⟨k+1,mOm,by go_num,HN,hbb⟩
     case measure=>simp [aw];omega
  ·obtain rfl:k=l.length:=mOm;have HV4:Hid (V=0):=aa (by rw [HV3.out,← HI.out,jn,HNIL.out]);go_wp2_with fail;go_ret;exact ⟨aI HV4.out.symm,ah hbw hb⟩
end
section
def LL.cells (x:LL):Array Value:=#[JO JP x.school,JO JP x.size,JO JP x.day,JQ x.tree,JQ x.before,JO JP x.key,JQ x.mark]
theorem rootT:RowT prog cH 7 65 35 where
 len _:=rfl
 one x u hu:=by
  simp only [cH,List.mem_cons,List.not_mem_nil,or_false] at hu;rcases hu with rfl | rfl | rfl | rfl | rfl | rfl | rfl <;> rfl
 pos:=mDe
 und:=underlying35
 info:=by
  obtain ⟨i0,hi,h1,h2,h3⟩:=info_parts (show (prog.info? 65).map (fun i=>(i.zero,i.size,i.bytes))=JV (JV rootZ.val,7,80) by kernel_rfl);exact ⟨i0,_,hi,h1,h2,rfl,mOm⟩
structure LP (u:World) (bx:Nat) (ob:Obj):Prop where
 is:u.heap[bx]? = JV ob
def k8:List Value→Nat→List Value→List Value
 | xs,_,[]=>xs
 | xs,j,u::us=>k8 (xs.set j u) (j+1) us
theorem mN (us:List Value):∀ (xs:List Value) (j:Nat),j+us.length≤xs.length→k8 xs j us=xs.take j++us++xs.drop (j+us.length):=by
 induction us with
 | nil=>intro xs j h;simp [k8]
 | cons u us ih =>
  intro xs j h;simp only [List.length_cons] at h;rw [k8,ih _ _ (by simp;omega),aL,List.take_set_of_le (aD _),List.drop_set_of_lt mOm];rw [List.getElem?_set_self mOm];simp [cq,Nat.add_assoc,Nat.add_comm 1]
theorem lA {base:Nat} {e:TypeId} {size n cap g:Nat} (us:List Value):∀ (w:World) (xs:List Value) (j:Nat),w.ownsRow base e size (JR (JV ⟨g,0,JW⟩) n cap) n xs→
  (w.setCells g j us).ownsRow base e size (JR (JV ⟨g,0,JW⟩) n cap) n (k8 xs j us)∧w.grownBy (w.setCells g j us) (JV g):=by
 induction us with
 | nil=>intro w xs j h;exact ⟨h,⟨rfl,rfl,rfl,aD _,fun _ _ _=>rfl⟩⟩
 | cons u us ih =>
  intro w xs j h;obtain ⟨h1,h2⟩:=h.stored j u;obtain ⟨h3,h4⟩:=ih _ _ (j+1) h1;exact ⟨h3,⟨h4.os.trans h2.os,h4.tape.trans h2.tape,h4.output.trans h2.output,bu h2.size h4.size,fun k hk hr=>(h4.block k (av hk h2.size) hr).trans (h2.block k hk hr)⟩⟩
theorem nM {w:World} {base:Nat} {e:TypeId} {size n cap g:Nat} {xs:List Value} (h:w.ownsRow base e size (JR (JV ⟨g,0,JW⟩) n cap) n xs) (o m:Nat) (hm:o+m≤n*size):w.there g o m:=fun j hj=>by
 refine ⟨?_,h.frozenAt _⟩;rw [h.cellAt (o+j) mOm,ai (by rw [h.1];omega)];rfl
theorem CB {w:World} {base:Nat} {e:TypeId} {size n cap g:Nat} {xs:List Value} (h:w.ownsRow base e size (JR (JV ⟨g,0,JW⟩) n cap) n xs) (m:Nat) (hm:m≤n):w.ownsRow base e size (JR (JV ⟨g,0,JW⟩) m cap) m (xs.take (m*size)):=qp h hm
theorem lC {α:Type} {L:List α} {k:Nat} {r:α} (h:L[k]? = JV r):L.take (k+1)=L.take k++[r]:=by rw [aL,h];rfl
theorem Do {α:Type} {enc:α→List Value} {k:Nat} (hk:∀ x,(enc x).length=k) (L:List α) (m:Nat) (hm:m≤L.length):(br enc L).drop (m*k)=br enc (L.drop m):=by
 have e:br enc L=br enc (L.take m)++br enc (L.drop m):=by rw [← kV,List.take_append_drop]
 have hl:(br enc (L.take m)).length=m*k:=by rw [gN hk,aM,Nat.min_eq_left hm]
 rw [e,List.drop_append_of_le_length mOm,List.drop_of_length_le mOm,dt]
theorem Ak {α:Type} {enc:α→List Value} {k:Nat} (hk:∀ x,(enc x).length=k) (X:List α) (i:Nat) (r:α) (h:i < X.length):k8 (br enc X) (i*k) (enc r)=br enc (X.set i r):=by
 have hmul:i*k+k≤X.length*k:=by rw [← Nat.succ_mul];exact Nat.mul_le_mul_right _ h
 rw [mN _ _ _ (by rw [gN hk,hk];exact hmul),List.set_eq_take_append_cons_drop,if_pos h,hk,j7 hk,show i*k+k=(i+1)*k by rw [Nat.succ_mul],Do hk X (i+1) mOm,kV];simp [br,cq]
theorem vG {w:World} {base g n c:Nat} {e:TypeId} {size:Nat} {xs:List Value} (h:w.ownsRow base e size (JR (JV ⟨g,0,JW⟩) n c) n xs):n≤c∧base≤g∧g < w.heap.size∧c≤maxLen:=by
 rcases h.2 with ⟨h',_⟩ | ⟨g',cap',cur,h',hb,hg,h1,h2,_⟩
 ·cases h'
 ·simp only [Value.slice.injEq,Option.some.injEq,Addr.mk.injEq,and_true,true_and] at h';obtain ⟨rfl,rfl⟩:=h';exact ⟨h1,hb,aU hg,h2⟩
theorem G0 (x:LL) (bx:Nat) (s:Int) (w:World) (h:w.heap[bx]? = JV (JU #[JO JP s] 3 (0,0))) :
  Calls prog 151 #[x.val,JS (JV ⟨bx,0,JW⟩)] w fun e w'=>e=JT (.bool (!(x.school==s)))∧ac w.heap.size w w':=by
 have h0:=ae h 0;have hlt:=aU h;obtain ⟨sc,sz,dy,tr,bf,ky,mk⟩:=x;simp only;obtain ⟨b,hb⟩:∃ b,(sc==s)=b:=⟨_,rfl⟩;have hb2:(sc != s) = !b:=by unfold bne;rw [hb]
 rw [hb];go_enter func151,ntmps151;go_wp2_with fail;go_ret;exact ⟨rfl,al w _⟩
attribute [local go_sem] LL.cells
theorem uu (bx:Nat) (_ob:Obj) (P:LL→Bool) (p:Option Addr) (c:Nat) (L:List LL) (w:World) (hC:∀ (u:World) (x:LL),x∈L→ac w.heap.size w u→Calls prog 151 #[x.val,JS (JV ⟨bx,0,JW⟩)] u fun e w'=>e=JT (.bool (P x))∧ac u.heap.size u w') (h:LK cH w (JR p L.length c) L) (hl:L.length≤1000000) :
  Calls prog 202 #[JR p L.length c,.func (.func 151) #[] #[JS (JV ⟨bx,0,JW⟩)]] w fun e w'=>(∃ k:Int,e=JT (JO JP k)∧((k = -1∧∀ x∈L,P x=false)∨∃ (j:Nat) (x:LL),k=j∧L[j]? = JV x∧P x=true∧∀ y∈L.take j,P y=false))∧ac w.heap.size w w':=by
 have HL:=aa h;have HC:=aa hC;clear h hC;go_enter func202,ntmps202;go_wp2_with fail
 go_loopw [8] (fun i wr=>∃ k:Nat,k≤L.length∧Hid (∀ y∈L.take k,P y=false)∧i=JO JP k∧ac w.heap.size w wr) (fun i _=>L.length - (aw i).toNat)
 case atStart=>exact ⟨0,aR _,aa mSi,rfl,Below.refl _ _⟩
 case round =>
  obtain ⟨k,hk,HI,rfl,hb⟩:=hrel;by_cases hlt:k < L.length
  ·obtain ⟨g,o,rfl,hg,hrow⟩:=dc (kk:=7) HL.out df rfl mOm;have hge:=ai hlt;have hat:=hrow k _ hge;have hc:=HC.out wr L[k] (bD hlt) hb;have i1:(k:Int) < (L.length:Int):=mOm;have i2:(0:Int)≤(k:Int):=mOm;have HG:=aa hge;generalize L[k]=x at *;have hat2:wr.rangeAt g (o+k*7) (cH x):=fun j v hv=>(hb.cell (p:=⟨g,o+k*7+j,JW⟩) hg).trans (hat j v hv)
   have HP:Hid (∀ b,P x=b→(b=true→∃ (j:Nat) (y:LL),(k:Int)=j∧L[j]? = JV y∧P y=true∧∀ z∈L.take j,P z=false)∧(b=false→∀ y∈L.take (k+1),P y=false)):=aa (fun b hb=>⟨fun e=>⟨k,x,rfl,HG.out,hb.trans e,HI.out⟩,fun e y hy=>by
    rw [lC HG.out] at hy;rcases List.mem_append.1 hy with hy | hy
    ·exact HI.out y hy
    ·obtain rfl:=List.mem_singleton.1 hy;exact hb.trans e⟩)
   replace HP:=aa (HP.out (P x) rfl)
   generalize P x=B at *;clear hge hat hrow HI;go_wp2_with ((with_reducible refine wpList_load_mid (op:=⟨_,_,_,_,_,_⟩) ?_ 65 (.tmp 14) ?_ g (o+k*7) ?_ (cH x) _ ?_ underlying65 ?_ ?_ ?_);rfl;rfl;rfl;exact hat2;rfl;kernel_rfl);refine hc.mono ?_;rintro _ w1 ⟨rfl,hb1⟩;have hbb:=ah hb hb1;clear hb1 hc
   cases B
   ·have HN:=aa (HP.out.2 rfl);clear HP;go_wp2_with fail
    go_roundw
    case rel=>exact ⟨k+1,mOm,HN,by go_num,hbb⟩
    case measure=>simp [aw];omega
   ·have HN:=aa (HP.out.1 rfl);clear HP;go_wp2_with fail;go_ret;exact ⟨⟨_,rfl,.inr HN.out⟩,hbb⟩
  ·obtain rfl:k=L.length:=mOm;have HN:Hid (∀ x∈L,P x=false):=aa (by have:=HI.out;rwa [aT] at this);go_wp2_with fail;go_ret;exact ⟨⟨_,rfl,.inl ⟨rfl,HN.out⟩⟩,hb⟩
theorem Bc (w:World) (g o n c:Nat) (ty:TypeId) (hn:0 < n) (ht:w.there g o (n*7)) :
  ∃ Z:List Value,Z.length=n*7∧(Builtin.clear_ #[35] ty #[JR (JV ⟨g,o,JW⟩) n c]).run prog w=.ok (.tuple #[]) (w.setCells g o Z):=by
 refine ⟨(Builtin.zeroCells rootZ.cells n).toList,by simp [Builtin.zeroCells,rootZ,LL.cells],?_⟩;have hl:(Builtin.zeroCells rootZ.cells n).toList.length=n*7:=by simp [Builtin.zeroCells,rootZ,LL.cells]
 have hst:=run_storeCells_cells (P:=prog) g o (Builtin.zeroCells rootZ.cells n).toList 0 w (fun j hj=>by simpa using (ht j mOm).1) (fun j hj=>by simpa using (ht j mOm).2) (by
  intro v hv;have hv':v∈(rootZ:LL).cells.toList:=by simp only [Builtin.zeroCells,Array.toList_map,List.mem_map,Array.toList_range] at hv;obtain ⟨k,hk,rfl⟩:=hv;rw [getElem!_pos (rootZ:LL).cells _ (Nat.mod_lt _ mDe)];simp
  exact rootT.one rootZ v hv')
 simp only [ee] at hst
 obtain ⟨m,rfl⟩:∃ m,n=m+1:=⟨n - 1,mOm⟩;have hz:∀ w,(zeroValue 65).run prog w=.ok (rootZ:LL).val w:=zeroValue65;have hzc:(rootZ:LL).val.cells=(rootZ:LL).cells:=rfl;simp [Builtin.clear_,run_underlying underlying35,hz,hzc,hst]
theorem zv (B bx:Nat) (ob:Obj) (P:LL→Bool) (g c:Nat) (L:List LL) (w:World) (hbo:w.heap[bx]? = JV ob) (hgx:g ≠ bx) (hBw:B≤w.heap.size) (hC:∀ (u:World) (x:LL),x∈L→u.heap[bx]? = JV ob→Calls prog 151 #[x.val,JS (JV ⟨bx,0,JW⟩)] u fun e w'=>e=JT (.bool (P x))∧ac u.heap.size u w') (hrow:w.ownsRow B 65 7 (JR (JV ⟨g,0,JW⟩) L.length c) L.length (br cH L)) (hl:L.length≤1000000) :
  Calls prog 149 #[JR (JV ⟨g,0,JW⟩) L.length c,.func (.func 151) #[] #[JS (JV ⟨bx,0,JW⟩)]] w fun e w'=>∃ v,e=JT v∧w'.ownsRow B 65 7 v (L.filter fun x=>!P x).length (br cH (L.filter fun x=>!P x))∧ac B w w':=by
 obtain ⟨hlc,hBg,hgl,hcm⟩:=vG hrow;have hcap:c≤9223372036854775807:=by unfold maxLen at hcm;omega
 have ci:=uu bx ob P (some ⟨g,0,none⟩) c L w (fun u x hx hb=>hC u x hx ((hb.block _ (aU hbo)).trans hbo)) (eH df mDe hrow) hl;have HC:=aa hC;clear hC;go_enter func149,ntmps149;go_wp2_with fail;refine ci.mono ?_;rintro _ w1 ⟨⟨k,rfl,hk⟩,hb1⟩;have hrow1:=bE hrow (LM.of (S:=fun _=>False) hb1) (fun _ _ e=>e);have hB1:ac B w w1:=hb1.mono hBw;have hbo1:=(hb1.block _ (aU hbo)).trans hbo;clear ci hrow hb1 hbo;rcases hk with ⟨rfl,hno⟩ | ⟨k,r,rfl,hr,hgone,hkeep⟩
 ·have e:L.filter (fun x=>!P x)=L:=List.filter_eq_self.2 (fun x hx=>by rw [hno x hx];rfl);have HE:=aa e;clear e hno;go_wp2_with fail;go_ret;refine ⟨_,rfl,?_,hB1⟩;rw [HE.out];exact hrow1
 ·have hkl:=(ap.1 hr).1
  have h0:Hid (((L.take (k+1)).filter fun x=>!P x).length=k∧L.take k=(L.take (k+1)).filter fun x=>!P x):=aa (by
   have e:(L.take k).filter (fun x=>!P x)=L.take k:=List.filter_eq_self.2 (fun x hx=>by rw [hkeep x hx];rfl);have e2:(L.take (k+1)).filter (fun x=>!P x)=L.take k:=by rw [lC hr,Zfa,e,cM (by rw [hgone];simp)];simp
   rw [e2]
   exact ⟨by rw [aM];omega,rfl⟩)
  clear hgone hr hkeep
  have hneg:¬ ((k:Int) = -1):=mOm;have hkb:((k:Int) == -1)=false:=by rw [beq_eq_false_iff_ne];omega
  go_wp2_with fail
  go_loopw [5,6] (fun a b wr=>∃ (i j:Nat) (X:List LL),a=JO JP i∧b=JO JP j∧i < j∧j≤L.length∧Hid (i=((L.take j).filter fun x=>!P x).length∧X.length=L.length∧X.take i=((L.take j).filter fun x=>!P x)∧X.drop j=L.drop j)∧
   Hid (wr.ownsRow B 65 7 (JR (JV ⟨g,0,JW⟩) L.length c) L.length (br cH X))∧LP wr bx ob∧ac B w wr) (fun _ b _=>L.length - (aw b).toNat)
  case atStart=>exact ⟨k,k+1,L,rfl,by go_num,mOm,mOm,aa ⟨h0.out.1.symm,rfl,h0.out.2,rfl⟩,aa hrow1,⟨hbo1⟩,hB1⟩
  case round =>
   obtain ⟨i,j,X,rfl,rfl,hij,hj,HI,HR,HS,hB⟩:=hrel;have hBs:=hB.size;by_cases hlt:j < L.length
   ·have hx:=ai hlt;have hxm:=bD hlt;generalize L[j]=x at hx hxm;have hatk:wr.rangeAt g (j*7) (cH x):=by
     have hxX:X[j]? = JV x:=by
      have h1:=congrArg (fun l=>l[0]?) HI.out.2.2.2;simp only [List.getElem?_drop,ee] at h1;rw [h1];exact hx
     obtain ⟨b',o',e',_,hh⟩:=dc (kk:=7) (eH df mDe HR.out) df rfl (by rw [HI.out.2.1];omega)
     simp only [Option.some.injEq,Addr.mk.injEq,and_true] at e';obtain ⟨rfl,rfl⟩:=e';have:=hh j x hxX
     rwa [bM] at this
    have i1:(j:Int) < (L.length:Int):=mOm
    have i2:(0:Int)≤(j:Int):=mOm;have hbA:=al wr (JU x.cells 65);have HR1:Hid ((wr.alloc (JU x.cells 65)).ownsRow B 65 7 (JR (JV ⟨g,0,JW⟩) L.length c) L.length (br cH X)):=aa (HR.out.alloc _);have hB2:ac B w (wr.alloc (JU x.cells 65)):=hB.alloc (bu hBw hBs) _;have hbox:Hid ((wr.alloc (JU x.cells 65)).heap[wr.heap.size]? = JV (JU x.cells 65 (0,0))):=aa (heap_alloc_new wr _);have hgw:g < wr.heap.size:=(HR.out.lt g rfl).2;have hob2:LP (wr.alloc (JU x.cells 65)) bx ob:=⟨(hbA.block _ (aU HS.is)).trans HS.is⟩;have cg:=HC.out _ x hxm hob2.is
    have HM:Hid (((L.take (j+1)).filter fun x=>!P x)=((L.take j).filter fun x=>!P x)++(if P x then [] else [x])):=aa (by
     rw [lC hx,Zfa]
     congr 1
     cases h:P x
     ·rw [List.filter_cons_of_pos (by rw [h];rfl)];simp
     ·rw [cM (by rw [h];simp)];simp)
    generalize P x=G at cg HM
    clear hx hrow1 hB1 hbo1 hxm;go_wp2_with (refine wpList_load_mid rfl 65 (.tmp 24) rfl _ _ rfl x.cells.toList _ hatk underlying65 rfl mKr ?_);refine cg.mono ?_;rintro _ w2 ⟨rfl,hb2⟩;have HS2:LP w2 bx ob:=⟨(hb2.block _ (aU hob2.is)).trans hob2.is⟩;have hB3:ac B w w2:=hB2.trans (hb2.mono (bu hBw hB2.size));have HR2:=aa (bE HR1.out (LM.of (S:=fun _=>False) hb2) (fun _ _ e=>e));have hboxh:=(hb2.block _ (aU hbox.out)).trans hbox.out;have hbox2:Hid (w2.rangeAt wr.heap.size 0 x.cells.toList):=aa (fun q v hv=>by rw [bM,ae hboxh];simpa using hv);have hdr:X.drop (j+1)=L.drop (j+1):=by
     have:=congrArg (List.drop 1) HI.out.2.2.2
     simpa [List.drop_drop,Nat.add_comm] using this
    have HDR:=aa hdr
    clear cg hatk hbox hdr hB2 hb2 hob2 hbA hboxh
    cases G
    ·have hthere:Hid (w2.there g (i*7) 7):=aa (nM HR2.out (i*7) 7 mOm);have hset:=lA x.cells.toList w2 (br cH X) (i*7) HR2.out;rw [show x.cells.toList=cH x from rfl,Ak df X i x (by rw [HI.out.2.1];omega)] at hset;have HR3:=aa hset.1;have hB4:Hid (ac B w (w2.setCells g (i*7) (cH x))):=aa (hB3.grown hset.2 (bu hBw hB3.size) (fun q hq=>by cases hq;exact hBg));have HS4:LP (w2.setCells g (i*7) (cH x)) bx ob:=⟨(hset.2.block _ (aU HS2.is) (by simpa using fun e=>hgx e.symm)).trans HS2.is⟩
     have HI4:Hid (i+1=((L.take (j+1)).filter fun x=>!P x).length∧(X.set i x).length=L.length∧(X.set i x).take (i+1)=((L.take (j+1)).filter fun x=>!P x)∧(X.set i x).drop (j+1)=L.drop (j+1)):=aa (by
      obtain ⟨i1,i2,i3,i4⟩:=HI.out;rw [HM.out];refine ⟨by simp;omega,by simpa using i2,?_,by rw [List.drop_set_of_lt mOm];exact HDR.out⟩;rw [aL,List.take_set_of_le (aD _),List.getElem?_set_self mOm,i3]
      rfl)
     have hall:Hid (x.cells.all (·.oneCell')=true):=aa (by simp [LL.cells,Value.oneCell'])
     clear hset
     go_wp2_with (first
      | ((with_reducible refine wpList_load_mid (op:=⟨_,_,_,_,_,_⟩) ?_ 65 (.tmp 7) ?_ wr.heap.size 0 ?_ x.cells.toList _ ?_ underlying65 ?_ ?_ ?_);rfl;rfl;rfl;exact hbox2.out;rfl;kernel_rfl)
      | ((with_reducible refine wpList_store_mid (op:=⟨_,_,_,_,_,_⟩) ?_ 65 (.tmp 33) (.tmp 32) ?_ g (i*7) x.cells ?_ ?_ ?_ ?_ ?_ ?_);rfl;rfl;rfl;rfl;exact hthere.out;kernel_rfl;exact hall.out))
     go_roundw
     case rel=>exact ⟨i+1,j+1,X.set i x,by go_num,by go_num,mOm,mOm,HI4,HR3,HS4,hB4.out⟩
     case measure=>simp [aw];omega
    ·have HI4:Hid (i=((L.take (j+1)).filter fun x=>!P x).length∧X.length=L.length∧X.take i=((L.take (j+1)).filter fun x=>!P x)∧X.drop (j+1)=L.drop (j+1)):=aa (by
      obtain ⟨i1,i2,i3,i4⟩:=HI.out;rw [HM.out]
      exact ⟨by simpa using i1,i2,by simpa using i3,HDR.out⟩)
     go_wp2_with fail
     go_roundw
     case rel=>exact ⟨i,j+1,X,rfl,by go_num,mOm,mOm,HI4,HR2,HS2,hB3⟩
     case measure=>simp [aw];omega
   ·obtain rfl:j=L.length:=mOm;obtain ⟨Z,hZ,hclr⟩:=Bc wr g (i*7) (L.length - i) (c - i) 0 mOm (nM HR.out _ _ mOm);have hset:=lA Z wr (br cH X) (i*7) HR.out;obtain ⟨i1,i2,i3,i4⟩:=HI.out;have hpre:=CB hset.1 i mOm;rw [mN _ _ _ (by rw [gN df,hZ,i2];omega),cq,List.take_append_of_le_length (by rw [aM,gN df,i2];omega),List.take_take,Nat.min_self] at hpre;have hcut:(br cH X).take (i*7)=br cH (L.filter fun x=>!P x):=by
     rw [aT] at i3;rw [← i3,j7 df]
    have hB4:ac B w (wr.setCells g (i*7) Z):=hB.grown hset.2 (bu hBw hBs) (fun q hq=>by cases hq;exact hBg)
    rw [hcut] at hpre;have HP:=aa hpre;have hiL:Hid (i=(L.filter fun x=>!P x).length):=aa (by rw [aT] at i1;exact i1);clear hset hpre hrow1 hbo1 hB1 i1 i2 i3 i4 hcut;go_wp2_with fail;go_ret;exact ⟨_,rfl,by rw [← hiL.out];exact HP.out,hB4⟩
theorem Bf (p:Option Addr) (c:Nat) (L:List LL) (w:World) (h:LK cH w (JR p L.length c) L) (hl:L.length≤1000000) :
  Calls prog 150 #[JR p L.length c] w fun e w'=>∃ v,e=JT v∧LQ cH 7 65 w w' v L:=by
 have q22:∀ (w:World) (a:Option Addr) (n c n' c':Nat),(binOp .eql 35 (JR a n c) (JR JW n' c')).run prog w=.ok (.bool a.isNone) w:=fun w a n c n' c'=>Lib.run_eql_slice_nil w _ _ a n c n' c' underlying35
 rcases p with _ | ad
 ·obtain ⟨p',c',hv,_,hz,_⟩:=h;injection hv with e1 e2 e3;subst e1;subst e3;obtain rfl:=hz rfl;obtain rfl:L=[]:=aS mOm;go_enter func150,ntmps150;go_wp2_with fail;go_ret;exact ⟨_,rfl,LQ.nil _ _ _ _⟩
 ·have hO:LQ cH 7 65 w (w.alloc (JU #[] 65)) (JR (JV ⟨w.heap.size,0,JW⟩) 0 0) ([]:List LL):=⟨⟨_,_,rfl⟩,World.ownsRow_lit w #[] 0 (aD _) (aR _) rfl,al w _⟩;have hr:=h.below (al w (JU #[] 65));have hown:=hO.own;have hsz:=hO.low.size;have HO:=aa hO;clear h hO;go_enter func150,ntmps150;go_wp2_with (at_builtin;refine bB rootT rfl (.tmp 5) (.tmp 6) rfl w.heap.size _ _ [] L rfl rfl hown hr (by simpa using hl) hsz ?_;intro v9 w9 hA9;have hO9:=HO.out.app hA9;rw [dt] at hO9;have HO9:=aa hO9;clear hO9 hA9);go_ret;exact ⟨_,rfl,HO9.out⟩
theorem zw (bx:Nat) (w:World) :
  Calls prog 149 #[JR JW 0 0,.func (.func 151) #[] #[JS (JV ⟨bx,0,JW⟩)]] w fun e w'=>e=JT (JR JW 0 0)∧ac w.heap.size w w':=by
 have ci:=uu bx (JU #[] 0) (fun _=>false) JW 0 [] w (fun u x hx _=>(by cases hx)) (LK.nil _ _) mSi;go_enter func149,ntmps149;go_wp2_with fail;refine ci.mono ?_;rintro _ w1 ⟨⟨k,rfl,hk⟩,hb1⟩;have hk:k = -1:=by
  rcases hk with ⟨h,_⟩ | ⟨_,_,_,h,_⟩
  ·exact h
  ·cases h
 subst hk
 go_wp2_with fail;go_ret;exact ⟨rfl,hb1⟩
theorem Cz (s:Int) (p:Option Addr) (c:Nat) (L:List LL) (w:World) (h:LK cH w (JR p L.length c) L) (hl:L.length≤1000000) :
  Calls prog 89 #[JR p L.length c,JO JP s] w fun e w'=>∃ v,e=JT v∧LQ cH 7 65 w w' v (dQ L s):=by
 have hb0:=al w (.cells #[.int .i64 s] 3);have hh:=heap_alloc_new w (.cells #[.int .i64 s] 3);have kc:=Bf p c L _ (h.below hb0) hl;have HF:Hid (L.filter (fun x=>!(!(x.school==s)))=dQ L s):=aa (by unfold dQ;congr 1;funext x;rw [Bool.not_not]);have HH:LP (w.alloc (.cells #[.int .i64 s] 3)) w.heap.size (.cells #[.int .i64 s] 3 (0,0)):=⟨hh⟩;clear h hh;go_enter func89,ntmps89;go_wp2_with fail;refine kc.mono ?_;rintro _ w1 ⟨v,rfl,hO⟩;have hbw:=ah hb0 hO.low;have hh1:=(hO.low.block _ (aU HH.is)).trans HH.is;have hown:=hO.own;obtain ⟨pv,cv,rfl⟩:=hO.form;have hsz:=hO.low.size;have hlt:=aU HH.is;rcases hown.2 with ⟨hn,hn0⟩ | ⟨gv,cap,cur,hv,hbg,_⟩
 ·have e1:pv=JW∧L.length=0∧cv=0:=by injection hn with a b c;exact ⟨a,b,c⟩
  obtain ⟨rfl,e2,rfl⟩:=e1;obtain rfl:=aS e2;have kd:=zw w.heap.size w1;clear hO hown kc hh1 hn hn0 e2;go_wp2_with fail;refine kd.mono ?_;rintro _ w2 ⟨rfl,hb2⟩;go_wp2_with fail;go_ret;exact ⟨_,rfl,⟨⟨_,_,rfl⟩,World.ownsRow_nil _ _ _ _,ah hbw hb2⟩⟩
 ·have e1:pv=JV ⟨gv,0,JW⟩:=by injection hv with a b c
  subst e1;have kd:=zv w.heap.size w.heap.size _ (fun x=>!(x.school==s)) gv cv L w1 hh1 mOm (by have:=hbw.size;omega) (fun u x _ hu=>G0 x w.heap.size s u hu) (iO hown (by have:=hb0.size;omega)) hl;have HBW:=aa hbw;clear hO hown kc hh1 hv;go_wp2_with fail;refine kd.mono ?_;rintro _ w2 ⟨v2,rfl,ho2,hb2⟩;have HO2:=aa ho2;clear kd ho2;go_wp2_with fail;go_ret;refine ⟨_,rfl,?_⟩;have h2:=HO2.out;rw [HF.out] at h2;exact ⟨eI h2,h2,HBW.out.trans hb2⟩
end
section
def tV (L:Nat):Option (List UInt8)→Prop
 | none=>True
 | some r=>r.length≤L
theorem gR {L:Nat} {s:Option (List UInt8)} (h:tV L s):I64 (stI s).1∧tV L (stI s).2:=by
 cases s with
 | none=>exact ⟨⟨mDe,mDe⟩,trivial⟩
 | some r =>
  have h:r.length≤L:=h;unfold stI;simp only;rcases hz:Wr.intP r with _ | ⟨n,r'⟩
  ·exact ⟨⟨mDe,mDe⟩,trivial⟩
  ·have h1:=Wr.intP_some hz;have hlen:=congrArg gT h1.1;rw [ax] at hlen;exact ⟨⟨h1.2.1,h1.2.2⟩,show r'.length≤L by omega⟩
theorem AM {L:Nat} {s:Option (List UInt8)} (h:tV L s):(stT s).1.size≤L∧tV L (stT s).2:=by
 cases s with
 | none=>exact ⟨aR _,trivial⟩
 | some r =>
  have h:r.length≤L:=h;unfold stT;simp only;rcases hz:Wr.txtP r with _ | ⟨n,r'⟩
  ·exact ⟨aR _,trivial⟩
  ·have h1:=Wr.txtP_some hz;have hlen:=congrArg gT h1.1;rw [ax] at hlen;exact ⟨show n.size≤L by have:=h1.2;omega,show r'.length≤L by omega⟩
theorem vv:entZ.Ok:=⟨⟨mDe,mDe⟩,⟨mDe,mDe⟩,⟨mDe,mDe⟩,⟨mDe,mDe⟩,⟨mDe,mDe⟩,⟨mDe,mDe⟩,⟨mDe,mDe⟩,⟨mDe,mDe⟩,⟨mDe,mDe⟩,⟨mDe,mDe⟩,⟨mDe,mDe⟩,⟨mDe,mDe⟩,⟨mDe,mDe⟩,mDe,mDe⟩
theorem Gy {s:Option (List UInt8)} (h:tV 100000 s):(qQ s).1.Ok:=by have a1:=gR h;have a2:=gR a1.2;have a3:=gR a2.2;have a4:=gR a3.2;have a5:=gR a4.2;have a6:=gR a5.2;have a7:=AM a6.2;have a8:=gR a7.2;have a9:=gR a8.2;have a10:=gR a9.2;have a11:=gR a10.2;have a12:=gR a11.2;have a13:=gR a12.2;have a14:=gR a13.2;have a15:=AM a14.2;exact ⟨a1.1,a2.1,a3.1,a4.1,a5.1,a6.1,a8.1,a9.1,a10.1,a11.1,a12.1,a13.1,a14.1,a7.1,a15.1⟩
theorem As {s:List UInt8} (h:s.length≤100000):(el s).1.Ok:=by
 unfold el
 split
 ·exact vv
 ·split
  ·exact Gy (s:=JV s) h
  ·exact vv
theorem At (s:List UInt8):qb s=.tuple #[(el s).1.val,JO JP (el s).2]:=rfl
