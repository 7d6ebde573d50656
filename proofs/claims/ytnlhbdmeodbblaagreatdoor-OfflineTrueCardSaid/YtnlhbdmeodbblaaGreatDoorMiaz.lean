/- Lemmas. -/
import Derived.Test.YtnlhbdmeodbblaaGreatDoorMiaw
import Derived.Test.YtnlhbdmeodbblaaGreatDoorMiax
set_option maxRecDepth 100000
set_option maxHeartbeats 16000000
set_option linter.all false
open Go.Proofs.Tryz
open Int renaming tdiv_eq_ediv_of_nonneg→dS
open Go.IntWalk renaming i64_in→aF
open Go.Lib renaming cell_of_heap→ae,frozen_of_heap→aE,hid→aa
open List renaming getElem?_eq_getElem→ai,length_append→ax,length_singleton→aG,length_take→aM,mem_cons→cR,mem_singleton→bJ,not_mem_nil→et,toArray→aq
open Nat renaming le_refl→aD,lt_of_lt_of_le→av,zero_le→aR
open Go.RowKit renaming Below→ac,intOf→aw
open Go.World renaming size_alloc→fF
open Go.Ending renaming returned→JT
open Go.IntKind renaming i64→JP
open Go.Obj renaming cells→JU
open Go.Value renaming int→JO,string→JQ,slice→JR,pointer→JS
open Option renaming some→JV,none→JW
namespace Go.Proofs.YtnlhbdmeodbblaaGreatDoor
open Go Go.RowKit Go.Sort Go.Lib
section
variable {s0 s1 s2 s3 s4 s5 s6 s7 s8 s9 a0 a1 a2 c1 a3 a4 a5 a6 a7 a8 a9 ab ad af c2 c3 c4 c5 c7 c8 c9 ca cc cd ce ag ao b0 b1 b2 b3 b4 b5 b6 b7 b8 b9 ba bb bc bd bf bg bh bk bm bo bq bs bt bv c0:Value}
attribute [local go_sem] LL.cells
def mkX (r:LR) (id:Int) (B:List LL) (l:List Ent) (day:Int):LL:=⟨r.school,l.length,day,iQ l,fL B.getLast?,id,⟨#[]⟩⟩
def mkR (r:LR) (id:Int) (B:List LL) (l:List Ent) (day:Int):LL×Int:=
 if ju r B l day ≠ 0 then (rootZ,ju r B l day)
 else if (dU r.keys r.school id (bC (mkX r id B l day))).2 ≠ 0 then (rootZ,(dU r.keys r.school id (bC (mkX r id B l day))).2)
 else if eh r id (bC (mkX r id B l day)) (dU r.keys r.school id (bC (mkX r id B l day))).1 day day ≠ 0 then (rootZ,eh r id (bC (mkX r id B l day)) (dU r.keys r.school id (bC (mkX r id B l day))).1 day day)
 else ({ mkX r id B l day with mark:=(dU r.keys r.school id (bC (mkX r id B l day))).1 },0)
theorem Kv {p q:Prop} (h:q) (f:Wq q→p:=by
 intro hq;have hset:=KS _ (aQ hS.1 hlo_bx #[JO JP sc,JO JP (n:Int),JO JP day,JQ T,JQ L,JO JP id,JQ ⟨#[]⟩])
 revert hset
 exact hq.1):p:=f ⟨h⟩
theorem I8 (rb nb cb n c:Nat) (pb p:Option Addr) (sc id day:Int) (T L:ByteArray) (W:World) (Q:Exit→Act→World→Prop) (h0:W.cell? ⟨rb,0,JW⟩=JV (JO JP sc)) (hrb:rb < W.heap.size) (kt:∀ u,ac W.heap.size W u→Calls prog 74 #[JR p n c] u (fun e w'=>e=JT (JQ T)∧ac u.heap.size u w')) (kl:∀ u,ac W.heap.size W u→Calls prog 128 #[JR pb nb cb] u (fun e w'=>e=JT (JQ L)∧ac u.heap.size u w'))
  (hQ:∀ (cf ch ci cj ck cl cn co cp cr cs:Value) (wx:World) (bx:Nat),W.heap.size≤bx→wx.heap[bx]? = JV (JU #[JO JP sc,JO JP (n:Int),JO JP day,JQ T,JQ L,JO JP id,JQ ⟨#[]⟩] 65 (0,0))→ac W.heap.size W wx→Q .normal ⟨aq (s0::JO JP id::JR pb nb cb::JR p n c::JO JP day::JS (JV ⟨rb,0,JW⟩)::s6::s7::s8::s9::a0::a1::a2::JS (JV ⟨bx,0,JW⟩)::[a3,a4,a5,a6,a7,a8,a9,ab,ad,af,cf,ch,ci,cj,ck,cl,cn,co,cp,cr,cs,ag,ao,b0,b1,b2,b3,b4,b5,b6,b7,b8,b9,ba,bb,bc,bd,bf,bg,bh,bk,bm,bo,bq,bs,bt,bv,c0]),[]⟩ wx) :
  (bW f73 4).wp prog Q ⟨aq (s0::JO JP id::JR pb nb cb::JR p n c::JO JP day::JS (JV ⟨rb,0,JW⟩)::[s6,s7,s8,s9,a0,a1,a2,c1,a3,a4,a5,a6,a7,a8,a9,ab,ad,af,c2,c3,c4,c5,c7,c8,c9,ca,cc,cd,ce,ag,ao,b0,b1,b2,b3,b4,b5,b6,b7,b8,b9,ba,bb,bc,bd,bf,bg,bh,bk,bm,bo,bq,bs,bt,bv,c0]),[]⟩ W:=by
 refine mOn ?_;generalize Q .normal=K at hQ ⊢;have HQ:=aa hQ;clear hQ
 conv=>arg 2;whnf
 have KT:=aa kt
 have KL:=aa kl;have KS:∀ u,ac W.heap.size W u→ac W.heap.size W u∧u.cell? ⟨rb,0,JW⟩=JV (JO JP sc):=fun u hu=>⟨hu,(hu.cell (p:=⟨rb,0,JW⟩) hrb).trans h0⟩
 clear kt kl h0 hrb;have hS:ac W.heap.size W W.drew∧W.drew.cell? ⟨rb,0,JW⟩=JV (JO JP sc):=KS _ (Below.refl _ _).drew;refine JB (S:=fun u=>ac W.heap.size W u∧u.cell? ⟨rb,0,JW⟩=JV (JO JP sc)) (.take 0 (.take 1 (.take 2 (.take 3 (.take 4 (.take 5 (.take 7 (.take 9 (.two 6 11 (.two 8 11 (.take 10 (.one 11 (.one 12 .done))) (.one 8 (.take 10 (.one 12 .done)))) (.one 6 (.one 8 (.take 10 (.one 12 .done))))))))))))) hS ?_
 iterate 8 refine aJ ?_
 refine dn ?_ ?_
 ·refine bn ⟨_,_,_,_,_,_⟩ rfl mRf 74 _ _ mRf _ mRf call74 (KT.out _ hS.1) ?_;rintro x x1 ⟨rfl,hb⟩;replace hS:=KS _ (ah hS.1 hb);refine ⟨_,rfl,hS,?_⟩
  (try clear hb)
  refine ar ?_;refine dn ?_ ?_
  ·refine bn ⟨_,_,_,_,_,_⟩ rfl mRf 128 _ _ mRf _ mRf call128 (KL.out _ hS.1) ?_;rintro x x2 ⟨rfl,hb⟩;replace hS:=KS _ (ah hS.1 hb);refine ⟨_,rfl,hS,?_⟩
   (try clear hb)
   refine ar ?_;refine aJ ?_;have hlo_bx:W.heap.size≤x2.heap.size:=hS.1.size;refine aZ (bR ⟨_,_,_,_,_,_⟩ (JS (JV ⟨x2.heap.size,0,JW⟩)) (x2.alloc (JU rootZ.cells 65)) rfl mRf (by go_simp;try rfl) ⟨KS _ (ah hS.1 (al _ _)),?_⟩);have hb:=al (x2) (JU rootZ.cells 65);replace hS:=KS _ (ah hS.1 hb);have hx_bx:=heap_alloc_new (x2) (JU rootZ.cells 65)
   (try clear hb)
   refine ar ?_;refine Kv ?_;intro hset;refine aZ (bH ⟨_,_,_,_,_,_⟩ rfl mRf 65 _ _ mRf (x2.heap.size) #[JO JP sc,JO JP (n:Int),JO JP day,JQ T,JQ L,JO JP id,JQ ⟨#[]⟩] mRf mRf _ _ hx_bx mKr rfl (by simp [Value.oneCell']) ⟨hset,?_⟩);replace hS:=hset;clear hset;replace hx_bx:=setRow_heap (x2.alloc (JU rootZ.cells 65)) (x2.heap.size) _ #[JO JP sc,JO JP (n:Int),JO JP day,JQ T,JQ L,JO JP id,JQ ⟨#[]⟩] _ _ hx_bx
   (try simp only [Act.put])
   simp only [dp,bj];exact HQ.out _ _ _ _ _ _ _ _ _ _ _ _ _ hlo_bx hx_bx hS.1
  ·have hlo_bx:W.heap.size≤x1.heap.size:=hS.1.size;refine bR ⟨_,_,_,_,_,_⟩ (JS (JV ⟨x1.heap.size,0,JW⟩)) (x1.alloc (JU rootZ.cells 65)) rfl mRf (by go_simp;try rfl) ⟨KS _ (ah hS.1 (al _ _)),?_⟩;have hb:=al (x1) (JU rootZ.cells 65);replace hS:=KS _ (ah hS.1 hb);have hx_bx:=heap_alloc_new (x1) (JU rootZ.cells 65)
   (try clear hb)
   refine ar ?_;refine aZ (bn ⟨_,_,_,_,_,_⟩ rfl mRf 128 _ _ mRf _ mRf call128 (KL.out _ hS.1) ?_);rintro x x3 ⟨rfl,hb⟩;replace hS:=KS _ (ah hS.1 hb);replace hx_bx:=hb.heap_of hx_bx;refine ⟨_,rfl,hS,?_⟩
   (try clear hb)
   refine ar ?_;refine aJ ?_;refine Kv ?_;intro hset;refine aZ (bH ⟨_,_,_,_,_,_⟩ rfl mRf 65 _ _ mRf (x1.heap.size) #[JO JP sc,JO JP (n:Int),JO JP day,JQ T,JQ L,JO JP id,JQ ⟨#[]⟩] mRf mRf _ _ hx_bx mKr rfl (by simp [Value.oneCell']) ⟨hset,?_⟩);replace hS:=hset;clear hset;replace hx_bx:=setRow_heap x3 (x1.heap.size) _ #[JO JP sc,JO JP (n:Int),JO JP day,JQ T,JQ L,JO JP id,JQ ⟨#[]⟩] _ _ hx_bx
   (try simp only [Act.put])
   simp only [dp,bj];exact HQ.out _ _ _ _ _ _ _ _ _ _ _ _ _ hlo_bx hx_bx hS.1
 ·have hlo_bx:W.heap.size≤W.heap.size:=aD _;refine bR ⟨_,_,_,_,_,_⟩ (JS (JV ⟨W.heap.size,0,JW⟩)) (W.drew.alloc (JU rootZ.cells 65)) rfl mRf (by go_simp;try rfl) ⟨KS _ (ah hS.1 (al _ _)),?_⟩;have hb:=al (W.drew) (JU rootZ.cells 65);replace hS:=KS _ (ah hS.1 hb);have hx_bx:=heap_alloc_new (W.drew) (JU rootZ.cells 65);replace hx_bx:(W.drew.alloc (JU rootZ.cells 65)).heap[W.heap.size]? = JV _:=hx_bx
  (try clear hb)
  refine ar ?_;refine aZ (bn ⟨_,_,_,_,_,_⟩ rfl mRf 74 _ _ mRf _ mRf call74 (KT.out _ hS.1) ?_);rintro x x4 ⟨rfl,hb⟩;replace hS:=KS _ (ah hS.1 hb);replace hx_bx:=hb.heap_of hx_bx;refine ⟨_,rfl,hS,?_⟩
  (try clear hb)
  refine ar ?_;refine aZ (bn ⟨_,_,_,_,_,_⟩ rfl mRf 128 _ _ mRf _ mRf call128 (KL.out _ hS.1) ?_);rintro x x5 ⟨rfl,hb⟩;replace hS:=KS _ (ah hS.1 hb);replace hx_bx:=hb.heap_of hx_bx;refine ⟨_,rfl,hS,?_⟩
  (try clear hb)
  refine ar ?_;refine aJ ?_;refine Kv ?_;intro hset;refine aZ (bH ⟨_,_,_,_,_,_⟩ rfl mRf 65 _ _ mRf (W.heap.size) #[JO JP sc,JO JP (n:Int),JO JP day,JQ T,JQ L,JO JP id,JQ ⟨#[]⟩] mRf mRf _ _ hx_bx mKr rfl (by simp [Value.oneCell']) ⟨hset,?_⟩);replace hS:=hset;clear hset;replace hx_bx:=setRow_heap x5 (W.heap.size) _ #[JO JP sc,JO JP (n:Int),JO JP day,JQ T,JQ L,JO JP id,JQ ⟨#[]⟩] _ _ hx_bx
  (try simp only [Act.put])
  simp only [dp,bj];exact HQ.out _ _ _ _ _ _ _ _ _ _ _ _ _ hlo_bx hx_bx hS.1
theorem In {r:LR} {id:Int} {B:List LL} {l:List Ent} {day:Int} (hs:I64 r.school) (hi:I64 id) (hd:I64 day) (hl:l.length≤5000):(mkX r id B l day).Ok:=
 ⟨hs,⟨by show _≤(l.length:Int);omega,by show (l.length:Int)≤_;omega⟩,hd,hi,(by show (8:Nat)≤_;omega),(by
  show (fL B.getLast?).size≤_
  cases B.getLast? with
  | none=>exact aR _
  | some y=>show (8:Nat)≤_;omega),aR _⟩
theorem uA (g cg:Nat) (r:LR) (id:Int) (pb:Option Addr) (cb:Nat) (B:List LL) (p:Option Addr) (c:Nat) (l:List Ent) (day:Int) (w:World) (hr:LK cH w (JR pb B.length cb) B) (hok:∀ x∈B,x.Ok) (hB:B.length≤1000000)
  (hE:LK bK w (JR p l.length c) l) (hEok:∀ e∈l,e.Ok) (hll:l.length≤5000) (hk:LV w g r.keys) (hg:g < w.heap.size) (hl:r.keys.length≤1000) (hsz:∀ k∈r.keys,k.secret.size≤100000) (hs:I64 r.school) (hi:I64 id) (hd:I64 day) :
  Calls prog 73 #[.agg #[JO JP r.school,JR (JV ⟨g,0,JW⟩) r.keys.length cg],JO JP id,JR pb B.length cb,JR p l.length c,JO JP day] w fun e w'=>e=JT (.tuple #[(mkR r id B l day).1.val,JO JP (mkR r id B l day).2])∧ac w.heap.size w w':=by
 have hxo:=In (B:=B) hs hi hd hll;have km:=fun u (hb:ac w.heap.size w u)=>GX g cg r pb cb B p c l day u (hr.below hb) hok hB (hE.below hb) hEok hll (hk.below hb hg) (av hg hb.size) hl hsz hs
 have kt:=fun u (hb:ac w.heap.size w u)=>rM l hEok p c u (hE.below hb) hll
 have kl:=fun u (hb:ac w.heap.size w u)=>sE pb cb B u (hr.below hb) hok hB
 have kb:=fun u=>ly (mkX r id B l day) hxo u
 have hbz:=kI (mkX r id B l day) hxo;have ks:=fun u (hb:ac w.heap.size w u)=>pP g cg r.school r.keys id (bC (mkX r id B l day)) u hl (hk.below hb hg) hsz (av hg hb.size) hs hi mOm
 have kv:=fun u (hb:ac w.heap.size w u)=>rB g cg r id (bC (mkX r id B l day)) (dU r.keys r.school id (bC (mkX r id B l day))).1 day day u hl (hk.below hb hg) hsz (av hg hb.size) hs hi mOm
 have HV:=aa (show mkR r id B l day=if ju r B l day ≠ 0 then (rootZ,ju r B l day)
 else if (dU r.keys r.school id (bC (mkX r id B l day))).2 ≠ 0 then (rootZ,(dU r.keys r.school id (bC (mkX r id B l day))).2)
 else if eh r id (bC (mkX r id B l day)) (dU r.keys r.school id (bC (mkX r id B l day))).1 day day ≠ 0 then (rootZ,eh r id (bC (mkX r id B l day)) (dU r.keys r.school id (bC (mkX r id B l day))).1 day day)
 else ({ mkX r id B l day with mark:=(dU r.keys r.school id (bC (mkX r id B l day))).1 },0) from rfl)
 have HX:Hid (∀ m:ByteArray,({ mkX r id B l day with mark:=m }:LL)=⟨r.school,l.length,day,iQ l,fL B.getLast?,id,m⟩):=aa (fun _=>rfl)
 have hxv:(mkX r id B l day).val=.agg #[JO JP r.school,JO JP (l.length:Int),JO JP day,JQ (iQ l),JQ (fL B.getLast?),JO JP id,JQ ⟨#[]⟩]:=rfl;rw [hxv] at kb;generalize mkR r id B l day=V at *;generalize ju r B l day=ME at *;generalize eh r id (bC (mkX r id B l day)) (dU r.keys r.school id (bC (mkX r id B l day))).1 day day=VV at *;generalize (dU r.keys r.school id (bC (mkX r id B l day))).1=MK at *;generalize (dU r.keys r.school id (bC (mkX r id B l day))).2=SE at *;generalize bC (mkX r id B l day)=BD at *;generalize hMX:mkX r id B l day=MX at *;clear hMX hxo hxv hbz;generalize iQ l=TB at *;generalize fL B.getLast? = LB at *;have hb0:=ah (al w (JU #[JO JP r.school,JR (JV ⟨g,0,JW⟩) r.keys.length cg] 33)) (al _ (JU #[JO JP 0,JO JP 0,JO JP 0,JQ ⟨#[]⟩,JQ ⟨#[]⟩,JO JP 0,JQ ⟨#[]⟩] 65));have hh2:=heap_alloc_new (w.alloc (JU #[JO JP r.school,JR (JV ⟨g,0,JW⟩) r.keys.length cg] 33)) (JU #[JO JP 0,JO JP 0,JO JP 0,JQ ⟨#[]⟩,JQ ⟨#[]⟩,JO JP 0,JQ ⟨#[]⟩] 65);have hh1:=eG (heap_alloc_new w (JU #[JO JP r.school,JR (JV ⟨g,0,JW⟩) r.keys.length cg] 33)) (JU #[JO JP 0,JO JP 0,JO JP 0,JQ ⟨#[]⟩,JQ ⟨#[]⟩,JO JP 0,JQ ⟨#[]⟩] 65);rw [size_alloc] at hh2;have km0:=km _ hb0;have KT:=aa kt;have KL:=aa kl;have KB:=aa kb;have KSG:=aa ks;have KV:=aa kv;clear km kt kl kb ks kv hk hsz hr hok hE hEok;go_enter func73,ntmps73;go_wp2_with fail;refine km0.mono ?_;rintro _ w1 ⟨rfl,hb1⟩;have hbw:=ah hb0 hb1;have e1:=hb1.heap_of hh1;have e2:=hb1.heap_of hh2;clear km0 hb1 hh1 hh2 hb0;by_cases h0:ME=0
 rotate_left 1
 ·have t1:(ME != 0)=true:=by rw [bne_iff_ne];exact h0
  have HV2:Hid (V=(rootZ,ME)):=aa (by rw [HV.out,if_pos h0]);clear HV h0 e1;go_wp2_with ((with_reducible refine wpList_store_row (o:=⟨JW,.store 65 (.tmp 10) (.tmp 22),_,_,_,_⟩) ?_ 65 (.tmp 10) (.tmp 22) ?_ (w.heap.size+1) #[JO JP 0,JO JP 0,JO JP 0,JQ ⟨#[]⟩,JQ ⟨#[]⟩,JO JP 0,JQ ⟨#[]⟩] ?_ ?_ 65 #[JO JP 0,JO JP 0,JO JP 0,JQ ⟨#[]⟩,JQ ⟨#[]⟩,JO JP 0,JQ ⟨#[]⟩] ?_ ?_ ?_ ?_ ?_);rfl;rfl;rfl;rfl;exact e2;kernel_rfl;rfl;simp [Value.oneCell'])
  (try simp only [Exit.inBlock,Exit.then]);refine bodyPost_ret (iY results73 _ _ (w.heap.size+1) rootZ rfl (setRow_heap _ _ _ _ _ _ e2)) rfl ⟨?_,?_⟩
  ·rw [HV2.out];rfl
  ·exact aQ hbw mOm _
 subst h0
 have HV2:=aa (HV.out.trans (if_neg (fun h=>h rfl)));clear HV
 go_upto_region 4 with fail
 refine I8 w.heap.size B.length cb l.length c pb p r.school id day TB LB _ _ (ae e1 0) (ay e1) (fun u hu=>KT.out u (ah hbw hu)) (fun u hu=>KL.out u (ah hbw hu)) ?_
 intros
 rename_i w4 bx hlo hbx hb4
 have hbw4:=ah hbw hb4
 have f1:=hb4.heap_of e1;have f2:=hb4.heap_of e2;have hbxl:w.heap.size≤bx:=Nat.le_trans hbw.size hlo;have hne:bx ≠ w.heap.size+1:=by have:=ay e2;omega
 have hne0:bx ≠ w.heap.size:=by have:=ay e1;omega
 have hS0:ac w.heap.size w w4∧(w.heap.size < w4.heap.size∧bx < w4.heap.size)∧(∀ j,w4.cell? ⟨w.heap.size,j,JW⟩=(#[JO JP r.school,JR (JV ⟨g,0,JW⟩) r.keys.length cg]:Array Value)[j]?)∧(∀ j,w4.cell? ⟨bx,j,JW⟩=(#[JO JP r.school,JO JP (l.length:Int),JO JP day,JQ TB,JQ LB,JO JP id,JQ ⟨#[]⟩]:Array Value)[j]?):=⟨hbw4,⟨ay f1,ay hbx⟩,ae f1,ae hbx⟩;have hS1:=bT hS0 (Below.refl _ w4).drew;have hbl4:=hbw4.size;have hxl4:=ay hbx;have F1:=LP.mk f1;have F2:=LP.mk f2;have FX:=LP.mk hbx;clear e1 e2 f1 f2 hbx hb4 hbw hlo hS0
 go_upto_region 5 with fail
 refine Jy (S:=fun u=>ac w.heap.size w u∧(w.heap.size < u.heap.size∧bx < u.heap.size)∧(∀ j,u.cell? ⟨w.heap.size,j,JW⟩=(#[JO JP r.school,JR (JV ⟨g,0,JW⟩) r.keys.length cg]:Array Value)[j]?)∧(∀ j,u.cell? ⟨bx,j,JW⟩=(#[JO JP r.school,JO JP (l.length:Int),JO JP day,JQ TB,JQ LB,JO JP id,JQ ⟨#[]⟩]:Array Value)[j]?)) [(0,true),(1,true),(2,true),(3,false),(4,false),(5,true),(6,true),(7,true),(8,true),(9,true)] hS1 ?_;have hS:=hS1
 iterate 3 refine aj ?_
 refine aH 130 call130 (KB.out _) ?_;rintro x wn ⟨rfl,hb⟩;replace hS:=bT hS hb;have hbd:=ah (Below.refl _ w4).drew hb;refine ⟨_,rfl,hS,?_⟩;(try clear hb);refine ar ?_;refine aH 129 call129 (KSG.out _ hS.1) ?_;rintro x wn ⟨rfl,hb⟩;replace hS:=bT hS hb;replace hbd:=ah hbd hb;refine ⟨_,rfl,hS,?_⟩;(try clear hb);refine ar ?_
 iterate 5 refine aj ?_
 simp only [aO,bj];have hbw5:=hS.1;have F1:=LP.mk (hbd.heap_of F1.is);have F2:=LP.mk (hbd.heap_of F2.is);have FX:=LP.mk (hbd.heap_of FX.is);have hbl5:=hbw5.size;have hS2:=bT hS (Below.refl _ _).drew;clear hS1 hbd hS;by_cases h1:SE=0
 rotate_left 1
 ·have t1:(SE != 0)=true:=by rw [bne_iff_ne];exact h1
  have HV3:Hid (V=(rootZ,SE)):=aa (by rw [HV2.out,if_pos h1]);have e2:=F2.is;clear HV2 h1 F1 F2 FX hS2;go_wp2_with ((with_reducible refine wpList_store_row (o:=⟨JW,.store 65 (.tmp 10) (.tmp 45),_,_,_,_⟩) ?_ 65 (.tmp 10) (.tmp 45) ?_ (w.heap.size+1) #[JO JP 0,JO JP 0,JO JP 0,JQ ⟨#[]⟩,JQ ⟨#[]⟩,JO JP 0,JQ ⟨#[]⟩] ?_ ?_ 65 #[JO JP 0,JO JP 0,JO JP 0,JQ ⟨#[]⟩,JQ ⟨#[]⟩,JO JP 0,JQ ⟨#[]⟩] ?_ ?_ ?_ ?_ ?_);rfl;rfl;rfl;rfl;exact e2;kernel_rfl;rfl;simp [Value.oneCell'])
  (try simp only [Exit.inBlock,Exit.then]);refine bodyPost_ret (iY results73 _ _ (w.heap.size+1) rootZ rfl (setRow_heap _ _ _ _ _ _ e2)) rfl ⟨?_,?_⟩
  ·rw [HV3.out];rfl
  ·exact aQ hbw5 mOm _
 subst h1
 have HV3:=aa (HV2.out.trans (if_neg (fun h=>h rfl)));clear HV2;go_wp2_with fail;refine Jy (S:=fun u=>ac w.heap.size w u∧(w.heap.size < u.heap.size∧bx < u.heap.size)∧(∀ j,u.cell? ⟨w.heap.size,j,JW⟩=(#[JO JP r.school,JR (JV ⟨g,0,JW⟩) r.keys.length cg]:Array Value)[j]?)∧(∀ j,u.cell? ⟨bx,j,JW⟩=(#[JO JP r.school,JO JP (l.length:Int),JO JP day,JQ TB,JQ LB,JO JP id,JQ ⟨#[]⟩]:Array Value)[j]?)) [(0,true),(1,true),(2,true),(4,true),(5,true),(6,true),(3,false),(7,false),(8,true)] hS2 ?_;have hS:=hS2
 iterate 6 refine aj ?_
 refine aH 130 call130 (KB.out _) ?_;rintro x wn ⟨rfl,hb⟩;replace hS:=bT hS hb;have hbd:=ah (Below.refl _ _).drew hb;refine ⟨_,rfl,hS,?_⟩;(try clear hb);refine ar ?_;refine aH 45 call45 (KV.out _ hS.1) ?_;rintro x wn ⟨rfl,hb⟩;replace hS:=bT hS hb;replace hbd:=ah hbd hb;refine ⟨_,rfl,hS,?_⟩;(try clear hb);refine ar ?_;refine aj ?_;simp only [aO,bj];have hbw6:=hS.1;have F2:=LP.mk (hbd.heap_of F2.is);have FX:=LP.mk (hbd.heap_of FX.is);have hbl6:=hbw6.size;clear hS2 hbd hS F1;by_cases h2:VV=0
 rotate_left 1
 ·have t1:(VV != 0)=true:=by rw [bne_iff_ne];exact h2
  have HV4:Hid (V=(rootZ,VV)):=aa (by rw [HV3.out,if_pos h2]);have e2:=F2.is;clear HV3 h2 F2 FX;go_wp2_with ((with_reducible refine wpList_store_row (o:=⟨JW,.store 65 (.tmp 10) (.tmp 57),_,_,_,_⟩) ?_ 65 (.tmp 10) (.tmp 57) ?_ (w.heap.size+1) #[JO JP 0,JO JP 0,JO JP 0,JQ ⟨#[]⟩,JQ ⟨#[]⟩,JO JP 0,JQ ⟨#[]⟩] ?_ ?_ 65 #[JO JP 0,JO JP 0,JO JP 0,JQ ⟨#[]⟩,JQ ⟨#[]⟩,JO JP 0,JQ ⟨#[]⟩] ?_ ?_ ?_ ?_ ?_);rfl;rfl;rfl;rfl;exact e2;kernel_rfl;rfl;simp [Value.oneCell'])
  (try simp only [Exit.inBlock,Exit.then]);refine bodyPost_ret (iY results73 _ _ (w.heap.size+1) rootZ rfl (setRow_heap _ _ _ _ _ _ e2)) rfl ⟨?_,?_⟩
  ·rw [HV4.out];rfl
  ·exact aQ hbw6 mOm _
 subst h2
 have HV4:=aa ((HV3.out.trans (if_neg (fun h=>h rfl))).trans (by rw [HX.out]));clear HV3 HX;have c6:=ae FX.is 6;have g6:=aE FX.is 6
 go_upto_region 12 with fail
 have hset:=LM.set (S:=fun q=>q=bx) wn rfl 6 (JQ MK);have hb7:ac w.heap.size w (wn.setCell ⟨bx,6,JW⟩ (JQ MK)):=hbw6.trans (hset.below (fun q hq e=>by subst e;omega) hbl6);have e2:(wn.setCell ⟨bx,6,JW⟩ (JQ MK)).heap[w.heap.size+1]? = _:=(de hne 6 (JQ MK)).trans F2.is;have ex:=bp FX.is 6 (JQ MK);obtain ⟨w7,hw7⟩:∃ u,u=wn.setCell ⟨bx,6,JW⟩ (JQ MK):=⟨_,rfl⟩;rw [← hw7] at hb7 e2 ex ⊢;have z0:w7.cell? ⟨bx,0,JW⟩=JV (JO JP r.school):=ae ex 0;have z1:w7.cell? ⟨bx,1,JW⟩=JV (JO JP (l.length:Int)):=ae ex 1;have z2:w7.cell? ⟨bx,2,JW⟩=JV (JO JP day):=ae ex 2;have z3:w7.cell? ⟨bx,3,JW⟩=JV (JQ TB):=ae ex 3;have z4:w7.cell? ⟨bx,4,JW⟩=JV (JQ LB):=ae ex 4;have z5:w7.cell? ⟨bx,5,JW⟩=JV (JO JP id):=ae ex 5;have z6:w7.cell? ⟨bx,6,JW⟩=JV (JQ MK):=ae ex 6;clear c6 g6 hset hw7 ex F2 FX hbw6 hbl6;go_wp2_with ((with_reducible refine wpList_store_row (o:=⟨JW,.store 65 (.tmp 10) (.tmp 61),_,_,_,_⟩) ?_ 65 (.tmp 10) (.tmp 61) ?_ (w.heap.size+1) #[JO JP r.school,JO JP (l.length:Int),JO JP day,JQ TB,JQ LB,JO JP id,JQ MK] ?_ ?_ 65 #[JO JP 0,JO JP 0,JO JP 0,JQ ⟨#[]⟩,JQ ⟨#[]⟩,JO JP 0,JQ ⟨#[]⟩] ?_ ?_ ?_ ?_ ?_);rfl;rfl;rfl;rfl;exact e2;kernel_rfl;rfl;simp [Value.oneCell'])
 (try simp only [Exit.inBlock,Exit.then]);refine bodyPost_ret (iY results73 _ _ (w.heap.size+1) ⟨r.school,l.length,day,TB,LB,id,MK⟩ rfl (setRow_heap _ _ _ _ _ _ e2)) rfl ⟨?_,?_⟩
 ·rw [HV4.out];rfl
 ·exact aQ hb7 mOm _
end
section
variable {s0 s1 s2 s3 s4 s5 s6 s7 s8 s9 ej em a0 cO cS a4 a5 a6 a7 a8 a9 ab ad af ag ao b0 b1 b2 b3 b4 b5 b6 b7 b8 b9 ba bb bc bd bf bh bk bm bq bt bv c0 c1 c2 c3 c4 c5 c6 c7 c8 c9 ca cb cc cd ce cf ch cj ck cl co cp cr cW cX d3 d4 d9 dd dg dk dm ds dv cs ct cx cy cA cB cC cD cE cG:Value}
attribute [local go_sem ↓] mJ mK
attribute [local go_sem] LL.cells
theorem Im {r:LR} {id:Int} {B:List LL} {l:List Ent} {day:Int} (h:(mkR r id B l day).2=0) :
  ju r B l day=0∧(mkR r id B l day).1=⟨r.school,l.length,day,iQ l,fL B.getLast?,id,(mkR r id B l day).1.mark⟩∧(mkR r id B l day).1.mark.size=8∧eh r id (bC (mkX r id B l day)) (mkR r id B l day).1.mark day day=0:=by
 unfold mkR at h ⊢;by_cases h1:ju r B l day=0
 rotate_left 1
 ·rw [if_pos h1] at h;exact absurd h h1
 rw [if_neg (fun hn=>hn h1)] at h ⊢
 by_cases h2:(dU r.keys r.school id (bC (mkX r id B l day))).2=0
 rotate_left 1
 ·rw [if_pos h2] at h;exact absurd h h2
 rw [if_neg (fun hn=>hn h2)] at h ⊢
 by_cases h3:eh r id (bC (mkX r id B l day)) (dU r.keys r.school id (bC (mkX r id B l day))).1 day day=0
 rotate_left 1
 ·rw [if_pos h3] at h;exact absurd h h3
 rw [if_neg (fun hn=>hn h3)]
 refine ⟨h1,rfl,?_,h3⟩
 show (dU r.keys r.school id (bC (mkX r id B l day))).1.size=8
 unfold dU at h2 ⊢
 split
 ·rfl
 ·rename_i hk
  rw [hk] at h2;cases h2
theorem Ik {r:LR} {B:List LL} {l:List Ent} {day:Int} (h:ju r B l day=0) :
  cP r B=0∧B.length < 200∧l.length≤2000∧(∀ e∈l,e.school=r.school∧e.day≤day)∧aB day 0 100000=true∧∀ y,B.getLast? = JV y→y.size≤l.length∧y.day < day:=by
 unfold ju at h;by_cases h1:cP r B=0
 rotate_left 1
 ·rw [if_pos h1] at h;exact absurd h h1
 rw [if_neg (fun hn=>hn h1)] at h
 split at h;· cases h
 rename_i h2
 split at h;· cases h
 rename_i h3
 split at h;· cases h
 rename_i h4
 split at h;· cases h
 rename_i h5
 refine ⟨h1,mOm,mOm,fun e he=>⟨?_,?_⟩,by simpa using h4,fun y hy=>?_⟩
 ·refine Classical.byContradiction fun hn=>h3 (List.any_eq_true.2 ⟨e,he,?_⟩)
  rw [beq_eq_false_iff_ne.2 hn];rfl
 ·refine Classical.byContradiction fun hn=>h5 (List.any_eq_true.2 ⟨e,he,decide_eq_true mOm⟩)
 ·rw [hy] at h;simp only at h
  split at h;· cases h
  rename_i h6
  omega
structure L7 (r:LR) (l:List Ent) (R:List LL):Prop where
 few:R.length≤6
 err:dW r JW R=0
 ring:R ≠ []→fd r=0
 each:∀ y∈R,y.Ok∧y.school=r.school∧∃ m:Nat,m≤l.length∧m≤2000∧y.size=m∧y.tree=iQ (l.take m)∧∀ e∈l.take m,e.school=r.school∧e.day≤y.day
theorem L7.nil (r:LR) (l:List Ent):L7 r l []:=⟨aR _,rfl,fun h=>absurd rfl h,fun y hy=>by cases hy⟩
theorem L7.chk {r:LR} {l:List Ent} {R:List LL} (h:L7 r l R) (hn:R ≠ []):cP r R=0:=by
 unfold cP;rw [if_neg (fun h2=>h2 (h.ring hn)),if_neg (by have:=h.few;omega)];exact h.err
theorem L7.snoc {r:LR} {l:List Ent} {R:List LL} {m:Nat} {id day:Int} (h:L7 r l R) (hR:R.length≤5) (hm:m≤l.length) (_hl:l.length≤5000) (hs:I64 r.school) (hi:I64 id) (h0:(mkR r id R (l.take m) day).2=0):L7 r l (R++[(mkR r id R (l.take m) day).1]):=by
 obtain ⟨h1,h2,h3,h4⟩:=Im h0;obtain ⟨g1,g2,g3,g4,g5,g6⟩:=Ik h1;have hlen:(l.take m).length=m:=by rw [aM];omega
 have hday:=between_iff.1 g5;rw [hlen] at h2 g3;generalize (mkR r id R (l.take m) day).1.mark=mk at *;rw [h2];refine ⟨by rw [ax];simp only [aG];omega,?_,fun _=>Cy g1,fun y hy=>?_⟩
 ·have hre:eN r R.getLast? ⟨r.school,(m:Int),day,iQ (l.take m),fL R.getLast?,id,mk⟩=0:=by
   unfold eN;rw [if_neg (fun hn=>hn rfl),if_neg (by rw [between_iff.2 ⟨by show (0:Int)≤(m:Int);omega,by show (m:Int)≤2000;omega⟩];decide),if_neg (by show ¬ aB day 0 100000=false;rw [g5];decide),if_neg,if_neg]
   ·have hb9:bC (mkX r id R (l.take m) day)=bC ⟨r.school,(m:Int),day,iQ (l.take m),fL R.getLast?,id,mk⟩:=by
     unfold bC jj mkX;simp only [hlen]
    rw [hb9] at h4
    exact h4
   ·intro hn;rcases hn with hn | hn
    ·exact hn rfl
    ·exact hn rfl
   ·show ¬ iE R.getLast? (m:Int) day
    unfold iE
    cases hg:R.getLast? with
    | none=>exact fun hf=>hf
    | some y =>
     have:=g6 y hg;rw [hlen] at this
     show ¬ ((m:Int) < y.size∨day≤y.day)
     omega
  refine rF r JW R _ h.err ?_
  revert hre
  cases R.getLast? <;> exact fun h=>h
 ·rcases List.mem_append.1 hy with hy | hy
  ·exact h.each y hy
  ·obtain rfl:=bJ.1 hy;refine ⟨⟨hs,⟨by show _≤(m:Int);omega,by show (m:Int)≤_;omega⟩,⟨by show _≤day;omega,by show day≤_;omega⟩,hi,(by show (8:Nat)≤_;omega),?_,by show mk.size≤_;omega⟩,rfl,m,hm,g3,rfl,rfl,g4⟩
   show (fL R.getLast?).size≤_
   cases R.getLast? with
   | none=>exact aR _
   | some y=>show (8:Nat)≤_;omega
theorem rtT:RowT prog cH 7 65 35 where
 len _:=rfl
 one x u hu:=by
  simp only [cH,cR,et,or_false] at hu;rcases hu with rfl | rfl | rfl | rfl | rfl | rfl | rfl <;> rfl
 pos:=mDe
 und:=underlying35
 info:=⟨_,_,rfl,rfl,rfl,mDe,mDe⟩
theorem Hw (rb g m cg n c s nv cv:Nat) (p pv:Option Addr) (sc id day er:Int) (Y:LL) (W:World) (Q:Exit→Act→World→Prop) (h0:W.cell? ⟨rb,0,JW⟩=JV (JO JP sc)) (h1:W.cell? ⟨rb,1,JW⟩=JV (JR (JV ⟨g,0,JW⟩) m cg)) (hrb:rb < W.heap.size) (hsn:s≤n) (hnc:n≤c) (hpn:p=JW→c=0) (kmk:∀ u,ac W.heap.size W u→Calls prog 73 #[.agg #[JO JP sc,JR (JV ⟨g,0,JW⟩) m cg],JO JP id,JR pv nv cv,JR p s c,JO JP day] u (fun e w'=>e=JT (.tuple #[Y.val,JO JP er])∧ac u.heap.size u w'))
  (hQ:∀ (e2 e4 e5 e6 e7 e8 e9 ea eb ed ei:Value) (wx:World) (bx:Nat),W.heap.size≤bx→wx.heap[bx]? = JV (JU Y.cells 65 (0,0))→ac W.heap.size W wx→Q .normal ⟨aq (s0::JR p n c::s2::JS (JV ⟨rb,0,JW⟩)::s4::s5::s6::JR pv nv cv::JO JP (s:Int)::s9::JO JP day::JO JP id::a0::JS (JV ⟨bx,0,JW⟩)::JO JP er::a4::a5::a6::a7::a8::a9::ab::ad::af::ag::ao::b0::b1::[b2,b3,b4,b5,b6,b7,b8,b9,ba,bb,bc,bd,bf,bh,bk,bm,bq,bt,bv,c0,c1,c2,c3,c4,c5,c6,c7,c8,c9,ca,cb,cc,cd,ce,cf,ch,cj,ck,cl,co,cp,cr,e2,e4,e5,e6,e7,e8,e9,ea,eb,ed,ei,cs,ct,cx,cy,cA,cB,cC,cD,cE,cG]),[]⟩ wx) :
  (bW f34 13).wp prog Q ⟨aq (s0::JR p n c::s2::JS (JV ⟨rb,0,JW⟩)::s4::s5::s6::JR pv nv cv::JO JP (s:Int)::s9::JO JP day::JO JP id::a0::cO::cS::a4::a5::a6::a7::a8::a9::ab::ad::af::ag::ao::b0::b1::[b2,b3,b4,b5,b6,b7,b8,b9,ba,bb,bc,bd,bf,bh,bk,bm,bq,bt,bv,c0,c1,c2,c3,c4,c5,c6,c7,c8,c9,ca,cb,cc,cd,ce,cf,ch,cj,ck,cl,co,cp,cr,cW,cX,d3,d4,d9,dd,dg,dk,dm,ds,dv,cs,ct,cx,cy,cA,cB,cC,cD,cE,cG]),[]⟩ W:=by
 refine mOn ?_;generalize Q .normal=K at hQ ⊢;have HQ:=aa hQ;clear hQ
 conv=>arg 2;whnf
 have KMK:=aa kmk
 have KS:∀ u,ac W.heap.size W u→ac W.heap.size W u∧u.cell? ⟨rb,0,JW⟩=JV (JO JP sc)∧u.cell? ⟨rb,1,JW⟩=JV (JR (JV ⟨g,0,JW⟩) m cg):=fun u hu=>⟨hu,(hu.cell (p:=⟨rb,0,JW⟩) hrb).trans h0,(hu.cell (p:=⟨rb,1,JW⟩) hrb).trans h1⟩
 clear kmk h0 h1 hrb;have hS:ac W.heap.size W W.drew∧W.drew.cell? ⟨rb,0,JW⟩=JV (JO JP sc)∧W.drew.cell? ⟨rb,1,JW⟩=JV (JR (JV ⟨g,0,JW⟩) m cg):=KS _ (Below.refl _ _).drew;refine JB (S:=fun u=>ac W.heap.size W u∧u.cell? ⟨rb,0,JW⟩=JV (JO JP sc)∧u.cell? ⟨rb,1,JW⟩=JV (JR (JV ⟨g,0,JW⟩) m cg)) (.take 0 (.take 1 (.take 2 (.take 3 (.take 4 (.take 5 (.take 6 (.two 7 11 (.take 8 (.take 9 (.take 10 (.one 11 (.one 12 (.take 13 .done)))))) (.one 7 (.take 8 (.take 9 (.take 10 (.one 12 (.take 13 .done)))))))))))))) hS ?_
 iterate 5 refine aJ ?_
 refine Em ⟨_,_,_,_,_,_⟩ rfl mRf 34 67 (.tmp 74) (.tmp 75) mRf underlying34 sizeOf67 p n c s mRf mRf hsn hnc hpn ?_;refine ar ?_;refine aJ ?_;refine dn ?_ ?_
 ·refine bn ⟨_,_,_,_,_,_⟩ rfl mRf 73 _ _ mRf _ mRf call73 (KMK.out _ hS.1) ?_;rintro x x1 ⟨rfl,hb⟩;replace hS:=KS _ (ah hS.1 hb);refine ⟨_,rfl,hS,?_⟩
  (try clear hb)
  refine ar ?_
  iterate 3 refine aJ ?_
  have hlo_bx:W.heap.size≤x1.heap.size:=hS.1.size;refine aZ (bR ⟨_,_,_,_,_,_⟩ (JS (JV ⟨x1.heap.size,0,JW⟩)) (x1.alloc (JU rootZ.cells 65)) rfl mRf (by go_simp;try rfl) ⟨KS _ (ah hS.1 (al _ _)),?_⟩);have hb:=al (x1) (JU rootZ.cells 65);replace hS:=KS _ (ah hS.1 hb);have hx_bx:=heap_alloc_new (x1) (JU rootZ.cells 65)
  (try clear hb)
  refine ar ?_;have hset:=KS _ (aQ hS.1 hlo_bx Y.cells);refine aZ (bH ⟨_,_,_,_,_,_⟩ rfl mRf 65 _ _ mRf (x1.heap.size) Y.cells mRf mRf _ _ hx_bx mKr rfl (by simp [LL.cells,Value.oneCell']) ⟨hset,?_⟩);replace hS:=hset;clear hset;replace hx_bx:=setRow_heap (x1.alloc (JU rootZ.cells 65)) (x1.heap.size) _ Y.cells _ _ hx_bx
  (try simp only [Act.put])
  refine aJ ?_;simp only [dp,bj];exact HQ.out _ _ _ _ _ _ _ _ _ _ _ _ _ hlo_bx hx_bx hS.1
 ·have hlo_bx:W.heap.size≤W.heap.size:=aD _;refine bR ⟨_,_,_,_,_,_⟩ (JS (JV ⟨W.heap.size,0,JW⟩)) (W.drew.alloc (JU rootZ.cells 65)) rfl mRf (by go_simp;try rfl) ⟨KS _ (ah hS.1 (al _ _)),?_⟩;have hb:=al (W.drew) (JU rootZ.cells 65);replace hS:=KS _ (ah hS.1 hb);have hx_bx:=heap_alloc_new (W.drew) (JU rootZ.cells 65);replace hx_bx:(W.drew.alloc (JU rootZ.cells 65)).heap[W.heap.size]? = JV _:=hx_bx
  (try clear hb)
  refine ar ?_;refine aZ (bn ⟨_,_,_,_,_,_⟩ rfl mRf 73 _ _ mRf _ mRf call73 (KMK.out _ hS.1) ?_);rintro x x2 ⟨rfl,hb⟩;replace hS:=KS _ (ah hS.1 hb);replace hx_bx:=hb.heap_of hx_bx;refine ⟨_,rfl,hS,?_⟩
  (try clear hb)
  refine ar ?_
  iterate 3 refine aJ ?_
  have hset:=KS _ (aQ hS.1 hlo_bx Y.cells);refine aZ (bH ⟨_,_,_,_,_,_⟩ rfl mRf 65 _ _ mRf (W.heap.size) Y.cells mRf mRf _ _ hx_bx mKr rfl (by simp [LL.cells,Value.oneCell']) ⟨hset,?_⟩);replace hS:=hset;clear hset;replace hx_bx:=setRow_heap x2 (W.heap.size) _ Y.cells _ _ hx_bx
  (try simp only [Act.put])
  refine aJ ?_;simp only [dp,bj];exact HQ.out _ _ _ _ _ _ _ _ _ _ _ _ _ hlo_bx hx_bx hS.1
theorem C4 {r:LR} {R:List LL} (h:dW r JW R=0) {j:Nat} {y:LL} (hy:R[j]? = JV y):0≤y.day∧y.day≤100000:=between_iff.1 (ns r JW R h y (List.mem_of_getElem? hy)).2.1
theorem Gf {z:Int} (hz:I64 z):IntKind.i64.wrap (z.tdiv 7)=z.tdiv 7:=by
 have h1:=hz.1;have h2:=hz.2;clear hz;rcases Int.le_total 0 z with h | h
 ·rw [dS h];exact aF _ mOm
 ·obtain ⟨y,rfl⟩:∃ y,z = -y:=⟨-z,mOm⟩;rw [Int.neg_tdiv,dS mOm];exact aF _ mOm
theorem C9 {l:List LU} {d:Int} (h:∀ k∈l,I64 k.id):I64 (jc l d):=by
 unfold jc
 cases hc:jd l d with
 | some x=>exact h _ (Ar hc)
 | none=>exact ⟨mDe,mDe⟩
theorem lJ {p:Prop} (h:p:=by
 go_roundw
 case rel=>exact ⟨k+1,s1,R,mOm,mOm,mOm,rfl,by go_num,hsl,HC,HO9.out⟩
 case measure=>simp [aw];omega):p:=h
theorem zt (g cg:Nat) (r:LR) (p:Option Addr) (c:Nat) (l:List Ent) (A:Option Addr) (n cn:Nat) (w:World)
  (hE:LK bK w (JR p l.length c) l) (hEok:∀ e∈l,e.Ok) (hll:l.length≤2000) (hdays:∀ e∈l,0≤e.day∧e.day≤1000000) (hI:LW w.heap.size A n w) (hk:LV w g r.keys) (hg:g < w.heap.size) (hl:r.keys.length≤1000) (hsz:∀ k∈r.keys,k.secret.size≤100000∧I64 k.id) (hs:I64 r.school) :
  Calls prog 34 #[.agg #[JO JP r.school,JR (JV ⟨g,0,JW⟩) r.keys.length cg],JR p l.length c,JR A n cn] w fun e w'=>∃ v,e=JT v∧∃ R:List LL,L7 r l R∧LQ cH 7 65 w w' v R:=by
 have hcap:l.length≤c:=by obtain ⟨p',c',e',h1,_⟩:=hE;injection e' with _ _ e3;omega
 have hpn:p=JW→c=0:=by obtain ⟨p',c',e',_,h1,_⟩:=hE;injection e' with e1 _ e3;rw [e1,e3];exact h1
 have HEL:=aa hE;have HEO:=aa hEok;have HDY:=aa hdays;have HIN:=aa hI;have HK:=aa hk;have HSZ:=aa hsz;have HPN:=aa hpn;have hb0:=al w (JU #[JO JP r.school,JR (JV ⟨g,0,JW⟩) r.keys.length cg] 33);have hh:=heap_alloc_new w (JU #[JO JP r.school,JR (JV ⟨g,0,JW⟩) r.keys.length cg] 33);obtain ⟨W,hW⟩:∃ u,u=w.alloc (JU #[JO JP r.school,JR (JV ⟨g,0,JW⟩) r.keys.length cg] 33):=⟨_,rfl⟩;rw [← hW] at hb0 hh;have hn18:=hI.1;clear hE hEok hdays hI hk hsz hpn;go_enter func34,ntmps34;go_wp2_with fail;rw [← hW];clear hW
 go_loopw [7,8,9] (fun v s i wr=>∃ (k s0:Nat) (R:List LL),k≤6∧k≤n∧R.length≤k∧s=JO JP s0∧i=JO JP k∧s0≤l.length∧Hid (L7 r l R)∧LQ cH 7 65 W wr v R) (fun _ _ i _=>6 - (aw i).toNat)
 case atStart=>exact ⟨0,0,[],mOm,aR _,aR _,rfl,rfl,aR _,aa (L7.nil r l),LQ.nil _ _ _ _⟩
 case round =>
  obtain ⟨k,s0,R,hk6,hkn,hRk,rfl,rfl,hs0,HC,hO⟩:=hrel;obtain ⟨pv,cv,hv⟩:=hO.form;subst hv;have hfin:∀ u,LQ cH 7 65 W u (JR pv R.length cv) R→LQ cH 7 65 w u (JR pv R.length cv) R:=fun u h=>h.from_ hb0
  have HFIN:=aa hfin;clear hfin;by_cases hlt:k < n
  rotate_left 1
  ·have i1:¬ (k:Int) < (n:Int):=mOm;have HO:=aa hO;clear hO;go_wp2_with fail;go_ret;exact ⟨_,rfl,R,HC.out,HFIN.out _ HO.out⟩
  have i1:(k:Int) < (n:Int):=mOm
  by_cases hlt6:k < 6
  rotate_left 1
  ·have i2:¬ (k:Int) < 6:=mOm;have HO:=aa hO;clear hO;go_wp2_with fail;go_ret;exact ⟨_,rfl,R,HC.out,HFIN.out _ HO.out⟩
  have i2:(k:Int) < 6:=mOm
  have i3:(0:Int)≤(k:Int):=mOm;have hlow:=hO.low;have hbw:=ah hb0 hlow;obtain ⟨ib,io,z,rfl,hib,hzc,hz⟩:=HIN.out.2 k hlt;have z0:wr.cell? ⟨ib,io+k,JW⟩=JV (JO JP z):=(hbw.cell (p:=⟨ib,io+k,JW⟩) hib).trans hzc;obtain ⟨q,hq⟩:∃ q:Nat,z%7=(q:Int):=⟨(z%7).toNat,mOm⟩;have hq7:q < 7:=mOm;obtain ⟨d0,hd0⟩:∃ d:Nat,(z.tdiv 7)%20=(d:Int):=⟨((z.tdiv 7)%20).toNat,mOm⟩;have hd20:d0 < 20:=mOm;have hdv:=Gf hz;obtain ⟨s1,hs1⟩:∃ s:Nat,mn (l.length:Int) ((s0:Int)+(q:Int))=(s:Int)∧s≤l.length:=by
   unfold mn
   split
   ·exact ⟨s0+q,rfl,mOm⟩
   ·exact ⟨l.length,rfl,aD _⟩
  have hsl:=hs1.2
  have hs1e:=hs1.1;have a1:IntKind.i64.wrap ((s0:Int)+(q:Int))=(s0:Int)+(q:Int):=aF _ mOm;have HO:=aa hO;have HLOW:=aa hlow;have HH:=aa (hlow.heap_of hh);have HBW:=aa hbw;clear hO hlow hbw hzc hs1 hh;go_wp2_with fail;refine (vE z 7 _ mOm mOm).mono ?_;rintro _ _ ⟨rfl,rfl⟩;rw [hq];go_wp2_with fail;refine (vE (z.tdiv 7) 20 _ mOm mOm).mono ?_;rintro _ _ ⟨rfl,rfl⟩;rw [hd0];clear hq hd0 hdv a1 z0 hs1e
  go_upto_if 42 with fail
  go_cut [10] (fun v wx=>∃ d:Nat,v=JO JP (d:Int)∧d≤1000020∧wx=wr)
  case first =>
   by_cases hp0:0 < s1
   rotate_left 1
   ·have t1:decide ((0:Int) < (s1:Int))=false:=decide_eq_false mOm;go_wp2_with fail
    go_meet
    case rel=>exact ⟨d0,rfl,mOm,rfl⟩
   ·have t1:decide ((0:Int) < (s1:Int))=true:=decide_eq_true mOm;obtain ⟨eg,eo,hpe,heg,hrow⟩:=dc (kk:=15) HEL.out dH rfl mOm;have hlt1:s1 - 1 < l.length:=mOm;have hge:=ai hlt1;have hra:=hrow (s1 - 1) _ hge;have hdy:=HDY.out _ (List.getElem_mem hlt1);obtain ⟨j,hj⟩:∃ j,s1 - 1=j:=⟨_,rfl⟩;generalize l[s1 - 1]=x at *;rw [hj] at hra;have x4:wr.cell? ⟨eg,eo+j*15+4,JW⟩=JV (JO JP x.day):=(HBW.out.cell (p:=⟨eg,eo+j*15+4,JW⟩) heg).trans (hra 4 _ rfl);obtain ⟨dx,hdx⟩:∃ dx:Nat,x.day=(dx:Int):=⟨x.day.toNat,mOm⟩;rw [hdx] at x4;have a2:IntKind.i64.wrap ((s1:Int) - 1)=(j:Int):=by rw [show (s1:Int) - 1=(j:Int) by omega];exact eR _ _ rfl mOm
    have a3:IntKind.i64.wrap ((dx:Int)+(d0:Int))=((dx+d0:Nat):Int):=by rw [show (dx:Int)+(d0:Int)=((dx+d0:Nat):Int) by omega];exact eR _ _ rfl mOm
    have j1:(j:Int) < (l.length:Int):=mOm;have j2:(0:Int)≤(j:Int):=mOm;have hdq:dx+d0≤1000020:=mOm;subst hpe;clear hra hrow hge hdy hdx;go_wp2_with fail
    go_meet
    case rel=>exact ⟨dx+d0,rfl,hdq,rfl⟩
  case rest =>
   obtain ⟨d1,rfl,hd1,rfl⟩:=hcut
   go_upto_if 53 with fail
   go_cut [10] (fun v wx=>∃ d:Nat,v=JO JP (d:Int)∧d≤9000000000000∧wx=wc)
   case first =>
    by_cases hR0:0 < R.length
    rotate_left 1
    ·have t1:decide ((0:Int) < (R.length:Int))=false:=decide_eq_false mOm;go_wp2_with fail
     go_meet
     case rel=>exact ⟨d1,rfl,mOm,rfl⟩
    ·have t1:decide ((0:Int) < (R.length:Int))=true:=decide_eq_true mOm;obtain ⟨j,hj⟩:∃ j,j+1=R.length:=⟨R.length - 1,mOm⟩;have hlt1:j < R.length:=mOm;obtain ⟨bg,bo,hpb,hbg,hrowb⟩:=dc (kk:=7) (HO.out.row df mDe) df rfl mOm;have hgb:=ai hlt1;have hatb:=hrowb j _ hgb;have hbd:=C4 HC.out.err hgb;generalize R[j]=y at *;have x2:wc.cell? ⟨bg,bo+j*7+2,JW⟩=JV (JO JP y.day):=hatb 2 _ rfl;obtain ⟨dy,hdy⟩:∃ dy:Nat,y.day=(dy:Int):=⟨y.day.toNat,mOm⟩;rw [hdy] at x2;have a2:IntKind.i64.wrap ((R.length:Int) - 1)=(j:Int):=by rw [show (R.length:Int) - 1=(j:Int) by omega];exact eR _ _ rfl mOm
     have a3:IntKind.i64.wrap ((dy:Int)+1)=((dy+1:Nat):Int):=by rw [show (dy:Int)+1=((dy+1:Nat):Int) by omega];exact eR _ _ rfl mOm
     have j1:(j:Int) < (R.length:Int):=mOm;have j2:(0:Int)≤(j:Int):=mOm;obtain ⟨d2,hd2,hd2l⟩:∃ d:Nat,mx (d1:Int) ((dy:Int)+1)=(d:Int)∧d≤9000000000000:=by
      unfold mx
      split
      ·exact ⟨dy+1,rfl,mOm⟩
      ·exact ⟨d1,rfl,mOm⟩
     subst hpb
     clear hatb hrowb hgb hbd hdy;go_wp2_with fail
     go_meet
     case rel=>exact ⟨d2,rfl,hd2l,rfl⟩
   case rest =>
    obtain ⟨d2,rfl,hd2,rfl⟩:=hcut;have e0:=ae HH.out 0;have e1:=ae HH.out 1;have kc:=sj g cg r.school r.keys (d2:Int) wc hl (HK.out.below HBW.out hg) (av hg HBW.out.size);have hlen:(l.take s1).length=s1:=by rw [aM];omega
    have hrowR:=HO.out.row df mDe;have hokR:=fun y hy=>(HC.out.each y hy).1
    have hidI:I64 (jc r.keys (d2:Int)):=C9 (fun k hk=>(HSZ.out k hk).2);have kmk:=fun u (hu:ac wc.heap.size wc u)=>uA g cg r (jc r.keys (d2:Int)) pv cv R p c (l.take s1) (d2:Int) u (hrowR.below hu) hokR mOm (by rw [hlen];exact ((HEL.out.below (ah HBW.out hu)).take rfl hsl)) (fun e he=>HEO.out e (List.mem_of_mem_take he)) mOm (HK.out.below (ah HBW.out hu) hg) (av hg (ah HBW.out hu).size) hl (fun k hk=>(HSZ.out k hk).1) hs hidI ⟨mOm,mOm⟩
    rw [hlen] at kmk;have KMK:=aa kmk;have HSN:Hid ((mkR r (jc r.keys (d2:Int)) R (l.take s1) (d2:Int)).2=0→L7 r l (R++[(mkR r (jc r.keys (d2:Int)) R (l.take s1) (d2:Int)).1])):=aa (fun h=>HC.out.snoc mOm hsl mOm hs hidI h);clear hrowR hokR hidI kmk hlen;generalize (mkR r (jc r.keys (d2:Int)) R (l.take s1) (d2:Int)).1=Y at *;generalize (mkR r (jc r.keys (d2:Int)) R (l.take s1) (d2:Int)).2=er at *;generalize jc r.keys (d2:Int)=ci at *;generalize (jd r.keys (d2:Int)).isSome=bs at *;go_wp2_with fail;refine kc.mono ?_;clear kc e0 e1;rintro _ w5 ⟨rfl,hb5⟩;have h5:=hb5.heap_of HH.out;have HB5:=aa hb5
    go_upto_region 13 with fail
    refine Hw w.heap.size g r.keys.length cg l.length c s1 R.length cv p pv r.school ci d2 er Y _ _ (ae h5 0) (ae h5 1) (ay h5) hsl hcap HPN.out (fun u hu=>KMK.out u (ah HB5.out hu)) ?_
    intros
    rename_i wx bx hlo hbx hbr
    have HO9:=aa (HO.out.next (ah HB5.out hbr))
    clear h5 hb5 hlo hbr KMK;by_cases hgo:bs=true∧er=0
    ·obtain ⟨rfl,rfl⟩:=hgo;have HCN:=aa (HSN.out rfl);obtain ⟨y0,y1,y2,y3,y4,y5,y6⟩:=Y;simp only [LL.cells] at hbx;have z0:wx.cell? ⟨bx,0,JW⟩=JV (JO JP y0):=ae hbx 0;have z1:wx.cell? ⟨bx,1,JW⟩=JV (JO JP y1):=ae hbx 1;have z2:wx.cell? ⟨bx,2,JW⟩=JV (JO JP y2):=ae hbx 2;have z3:wx.cell? ⟨bx,3,JW⟩=JV (JQ y3):=ae hbx 3;have z4:wx.cell? ⟨bx,4,JW⟩=JV (JQ y4):=ae hbx 4;have z5:wx.cell? ⟨bx,5,JW⟩=JV (JO JP y5):=ae hbx 5;have z6:wx.cell? ⟨bx,6,JW⟩=JV (JQ y6):=ae hbx 6;have hP:=HO9.out.next (al wx (JU #[JO JP y0,JO JP y1,JO JP y2,JQ y3,JQ y4,JO JP y5,JQ y6] 65));have hlit:LK cH (wx.alloc (JU #[JO JP y0,JO JP y1,JO JP y2,JQ y3,JQ y4,JO JP y5,JQ y6] 65)) (JR (JV ⟨wx.heap.size,0,JW⟩) 1 1) [(⟨y0,y1,y2,y3,y4,y5,y6⟩:LL)]:=cF (heap_alloc_new wx _) _ rfl rfl;have hown:=hP.own;have hsz9:=hP.low.size;have HP:=aa hP;clear hP hbx;go_wp2_with (at_builtin;refine bB rtT rfl (.tmp 86) (.tmp 88) rfl W.heap.size _ _ R [(⟨y0,y1,y2,y3,y4,y5,y6⟩:LL)] rfl rfl hown hlit (by simp only [aG];omega) hsz9 ?_;intro v9 w10 hA9;have H9:=aa (HP.out.app hA9);clear hA9 hown hsz9 hlit)
     go_roundw
     case rel=>exact ⟨k+1,s1,_,mOm,mOm,by rw [ax];simp only [aG];omega,rfl,by go_num,hsl,HCN,H9.out⟩
     case measure=>simp [aw];omega
    ·have hbo:bs=false∨(er==0)=false:=by
      cases bs
      ·exact .inl rfl
      ·exact .inr (by rw [beq_eq_false_iff_ne];exact fun e=>hgo ⟨rfl,e⟩)
     clear hgo hbx
     rcases hbo with rfl | t9
     ·go_wp2_with fail;exact lJ
     ·cases bs
      ·go_wp2_with fail;exact lJ
      ·go_wp2_with fail;exact lJ
end
section
variable {s0 s1 s2 s3 s4 s5 s6 s7 s8 s9 a0 a1 a2 bo a3 a4 a5 a6 a7 a8 a9 ab ad af ag ao b0 b1 b2 b3 b4 b5 b6 b7 b8 b9 ba bb bc bd bf bq bs bv c0 c1 c2 c3 c4 c6 c7 c8 bg bh bk bm:Value}
theorem LQ.boxW {α:Type} {enc:α→List Value} {k:Nat} {e:TypeId} {w0 u w:World} {v:Value} {M:List α} (h:LQ enc k e u w v M) (h0:ac w0.heap.size w0 u) {b:Nat} (hb:w0.heap.size≤b) (hne:∀ q,v.ownBlock=JV q→q ≠ b) (cs:Array Value):LQ enc k e w0 (w.setRow b cs) v M:=
 (h.from_ h0).box hb hne cs
theorem lH {p:Prop} (h:p:=by
 replace hOC:=hOC.boxW HBU.out hlo_bx hne_hOC_bx #[JO JP xs,JO JP xt,JO JP xr,JR p M.length c]
 (try simp only [Act.put])
 simp only [dp,bj]
 exact HQ.out _ _ _ _ _ _ _ _ _ _ _ _ _ _ _ _ hM hOC hlo_bx hx_bx hne_hOC_bx hS.1):p:=h
theorem Ku {p q:Prop} (h:q) (f:Wq q→p:=by
 intro hq;have hset:=KS _ (aQ hS.1 hlo_bx #[JO JP xs,JO JP xt,JO JP xr,JR p M.length c])
 revert hset
 exact hq.1):p:=f ⟨h⟩
theorem I0 (xb nL cl np cp:Nat) (pl pp:Option Addr) (xs xt xf xl xr:Int) (EL:List Ent) (W:World) (Q:Exit→Act→World→Prop) (h0:∀ j,W.cell? ⟨xb,j,JW⟩=(#[JO JP xs,JO JP xt,JO JP xf,JO JP xl,JO JP xr,JR pl nL cl,JR pp np cp]:Array Value)[j]?) (hxb:xb < W.heap.size) (ksh:∀ u,Calls prog 41 #[JR pl nL cl] u fun e w'=>∃ sb,e=JT (.func (.func 94) #[] #[JS (JV ⟨sb,0,JW⟩)])∧w'.heap[sb]? = JV (JU #[JR pl nL cl] 36 (0,0))∧ac u.heap.size u w') (kco:∀ u sb,ac W.heap.size W u→u.heap[sb]? = JV (JU #[JR pl nL cl] 36 (0,0))→Calls prog 48 #[.func (.func 94) #[] #[JS (JV ⟨sb,0,JW⟩)]] u fun e w'=>∃ (M:List Ent) (p:Option Addr) (c:Nat),e=JT (JR p M.length c)∧Hid (M=EL)∧LQ bK 15 67 u w' (JR p M.length c) M∧Hid (ac W.heap.size W u)∧ac u.heap.size u w')
  (hQ:∀ (ca cb cc cd ce cf cg ch ci cj ck:Value) (wx:World) (bx:Nat) (M:List Ent) (p:Option Addr) (c:Nat),Hid (M=EL)→LQ bK 15 67 W wx (JR p M.length c) M→W.heap.size≤bx→wx.heap[bx]? = JV (JU #[JO JP xs,JO JP xt,JO JP xr,JR p M.length c] 56 (0,0))→(∀ q,(Value.slice p M.length c).ownBlock=JV q→q ≠ bx)→ac W.heap.size W wx→Q .normal ⟨aq (s0::s1::s2::s3::JS (JV ⟨xb,0,JW⟩)::s5::s6::s7::s8::s9::a0::a1::a2::JS (JV ⟨bx,0,JW⟩)::[a3,a4,a5,a6,a7,a8,a9,ab,ad,af,ag,ao,b0,b1,b2,b3,b4,b5,b6,b7,b8,b9,ba,bb,bc,bd,bf,ca,cb,cc,cd,ce,cf,cg,ch,ci,cj,ck,bg,bh,bk,bm]),[]⟩ wx) :
  (bW Tryz.f15 7).wp prog Q ⟨aq (s0::s1::s2::s3::JS (JV ⟨xb,0,JW⟩)::[s5,s6,s7,s8,s9,a0,a1,a2,bo,a3,a4,a5,a6,a7,a8,a9,ab,ad,af,ag,ao,b0,b1,b2,b3,b4,b5,b6,b7,b8,b9,ba,bb,bc,bd,bf,bq,bs,bv,c0,c1,c2,c3,c4,c6,c7,c8,bg,bh,bk,bm]),[]⟩ W:=by
 refine mOn ?_;generalize Q .normal=K at hQ ⊢;have HQ:=aa hQ;clear hQ
 conv=>arg 2;whnf
 have KSH:=aa ksh
 have KCO:=aa kco;have KS:∀ u,ac W.heap.size W u→ac W.heap.size W u∧(∀ j,u.cell? ⟨xb,j,JW⟩=(#[JO JP xs,JO JP xt,JO JP xf,JO JP xl,JO JP xr,JR pl nL cl,JR pp np cp]:Array Value)[j]?):=fun u hu=>⟨hu,fun j=>(hu.cell (p:=⟨xb,j,JW⟩) hxb).trans (h0 j)⟩
 clear ksh kco h0 hxb;have hS:ac W.heap.size W W.drew∧(∀ j,W.drew.cell? ⟨xb,j,JW⟩=(#[JO JP xs,JO JP xt,JO JP xf,JO JP xl,JO JP xr,JR pl nL cl,JR pp np cp]:Array Value)[j]?):=KS _ (Below.refl _ _).drew;refine JB (S:=fun u=>ac W.heap.size W u∧(∀ j,u.cell? ⟨xb,j,JW⟩=(#[JO JP xs,JO JP xt,JO JP xf,JO JP xl,JO JP xr,JR pl nL cl,JR pp np cp]:Array Value)[j]?)) (.take 0 (.take 1 (.take 2 (.take 3 (.take 4 (.take 5 (.take 6 (.take 7 (.two 8 11 (.two 9 11 (.take 10 (.one 11 (.one 12 .done))) (.one 9 (.take 10 (.one 12 .done)))) (.one 8 (.one 9 (.take 10 (.one 12 .done))))))))))))) hS ?_
 iterate 8 refine aJ ?_
 refine dn ?_ ?_
 ·refine bn ⟨_,_,_,_,_,_⟩ rfl mRf 41 _ _ mRf _ mRf call41 (KSH.out _) ?_;rintro x x1 ⟨sb,rfl,hsb,hb⟩;replace hS:=KS _ (ah hS.1 hb);refine ⟨_,rfl,hS,?_⟩
  (try clear hb)
  refine ar ?_;refine dn ?_ ?_
  ·refine bn ⟨_,_,_,_,_,_⟩ rfl mRf 48 _ _ mRf _ mRf call48 (KCO.out _ _ hS.1 hsb) ?_;rintro x x2 ⟨M,p,c,rfl,hM,hOC,HBU,hb⟩;replace hS:=KS _ (ah hS.1 hb);have l_hsb:=aU hsb;replace hsb:=hb.heap_of hsb;refine ⟨_,rfl,hS,?_⟩
   (try clear hb)
   refine ar ?_;refine aJ ?_;have hlo_bx:W.heap.size≤x2.heap.size:=hS.1.size;refine aZ (bR ⟨_,_,_,_,_,_⟩ (JS (JV ⟨x2.heap.size,0,JW⟩)) (x2.alloc (JU #[JO JP 0,JO JP 0,JO JP 0,JR JW 0 0] 56)) rfl mRf (by go_simp;try rfl) ⟨KS _ (ah hS.1 (al _ _)),?_⟩);have hb:=al (x2) (JU #[JO JP 0,JO JP 0,JO JP 0,JR JW 0 0] 56);replace hS:=KS _ (ah hS.1 hb);replace hsb:=hb.heap_of hsb;have hne_hOC_bx:∀ q,Value.ownBlock _=JV q→q ≠ x2.heap.size:=fun q hq=>by have:=(hOC.own.lt q hq).2;omega
   replace hOC:=hOC.next hb;have hx_bx:=heap_alloc_new (x2) (JU #[JO JP 0,JO JP 0,JO JP 0,JR JW 0 0] 56)
   (try clear hb)
   refine ar ?_;refine Ku ?_;intro hset;refine aZ (bH ⟨_,_,_,_,_,_⟩ rfl mRf 56 _ _ mRf (x2.heap.size) #[JO JP xs,JO JP xt,JO JP xr,JR p M.length c] mRf mRf _ _ hx_bx mKr rfl (by simp [Value.oneCell']) ⟨hset,?_⟩);replace hS:=hset;clear hset;replace hx_bx:=setRow_heap (x2.alloc (JU #[JO JP 0,JO JP 0,JO JP 0,JR JW 0 0] 56)) (x2.heap.size) _ #[JO JP xs,JO JP xt,JO JP xr,JR p M.length c] _ _ hx_bx;exact lH
  ·have hlo_bx:W.heap.size≤x1.heap.size:=hS.1.size;refine bR ⟨_,_,_,_,_,_⟩ (JS (JV ⟨x1.heap.size,0,JW⟩)) (x1.alloc (JU #[JO JP 0,JO JP 0,JO JP 0,JR JW 0 0] 56)) rfl mRf (by go_simp;try rfl) ⟨KS _ (ah hS.1 (al _ _)),?_⟩;have hb:=al (x1) (JU #[JO JP 0,JO JP 0,JO JP 0,JR JW 0 0] 56);replace hS:=KS _ (ah hS.1 hb);replace hsb:=hb.heap_of hsb;have hx_bx:=heap_alloc_new (x1) (JU #[JO JP 0,JO JP 0,JO JP 0,JR JW 0 0] 56)
   (try clear hb)
   refine ar ?_;refine aZ (bn ⟨_,_,_,_,_,_⟩ rfl mRf 48 _ _ mRf _ mRf call48 (KCO.out _ _ hS.1 hsb) ?_);rintro x x3 ⟨M,p,c,rfl,hM,hOC,HBU,hb⟩;replace hS:=KS _ (ah hS.1 hb);have l_hsb:=aU hsb;replace hsb:=hb.heap_of hsb;have l_hx_bx:=aU hx_bx;replace hx_bx:=hb.heap_of hx_bx;have hne_hOC_bx:∀ q,Value.ownBlock _=JV q→q ≠ x1.heap.size:=fun q hq=>by have:=(hOC.own.lt q hq).1;(try simp only [fF] at this);omega
   refine ⟨_,rfl,hS,?_⟩
   (try clear hb)
   refine ar ?_;refine aJ ?_;refine Ku ?_;intro hset;refine aZ (bH ⟨_,_,_,_,_,_⟩ rfl mRf 56 _ _ mRf (x1.heap.size) #[JO JP xs,JO JP xt,JO JP xr,JR p M.length c] mRf mRf _ _ hx_bx mKr rfl (by simp [Value.oneCell']) ⟨hset,?_⟩);replace hS:=hset;clear hset;replace hx_bx:=setRow_heap x3 (x1.heap.size) _ #[JO JP xs,JO JP xt,JO JP xr,JR p M.length c] _ _ hx_bx;exact lH
 ·have hlo_bx:W.heap.size≤W.heap.size:=aD _;refine bR ⟨_,_,_,_,_,_⟩ (JS (JV ⟨W.heap.size,0,JW⟩)) (W.drew.alloc (JU #[JO JP 0,JO JP 0,JO JP 0,JR JW 0 0] 56)) rfl mRf (by go_simp;try rfl) ⟨KS _ (ah hS.1 (al _ _)),?_⟩;have hb:=al (W.drew) (JU #[JO JP 0,JO JP 0,JO JP 0,JR JW 0 0] 56);replace hS:=KS _ (ah hS.1 hb);have hx_bx:=heap_alloc_new (W.drew) (JU #[JO JP 0,JO JP 0,JO JP 0,JR JW 0 0] 56);replace hx_bx:(W.drew.alloc (JU #[JO JP 0,JO JP 0,JO JP 0,JR JW 0 0] 56)).heap[W.heap.size]? = JV _:=hx_bx
  (try clear hb)
  refine ar ?_;refine aZ (bn ⟨_,_,_,_,_,_⟩ rfl mRf 41 _ _ mRf _ mRf call41 (KSH.out _) ?_);rintro x x4 ⟨sb,rfl,hsb,hb⟩;replace hS:=KS _ (ah hS.1 hb);replace hx_bx:=hb.heap_of hx_bx;refine ⟨_,rfl,hS,?_⟩
  (try clear hb)
  refine ar ?_;refine aZ (bn ⟨_,_,_,_,_,_⟩ rfl mRf 48 _ _ mRf _ mRf call48 (KCO.out _ _ hS.1 hsb) ?_);rintro x x5 ⟨M,p,c,rfl,hM,hOC,HBU,hb⟩;replace hS:=KS _ (ah hS.1 hb);have l_hx_bx:=aU hx_bx;replace hx_bx:=hb.heap_of hx_bx;have l_hsb:=aU hsb;replace hsb:=hb.heap_of hsb;have hne_hOC_bx:∀ q,Value.ownBlock _=JV q→q ≠ W.heap.size:=fun q hq=>by have:=(hOC.own.lt q hq).1;(try simp only [fF,World.size_drew] at this);omega
  refine ⟨_,rfl,hS,?_⟩
  (try clear hb)
  refine ar ?_;refine aJ ?_;refine Ku ?_;intro hset;refine aZ (bH ⟨_,_,_,_,_,_⟩ rfl mRf 56 _ _ mRf (W.heap.size) #[JO JP xs,JO JP xt,JO JP xr,JR p M.length c] mRf mRf _ _ hx_bx mKr rfl (by simp [Value.oneCell']) ⟨hset,?_⟩);replace hS:=hset;clear hset;replace hx_bx:=setRow_heap x5 (W.heap.size) _ #[JO JP xs,JO JP xt,JO JP xr,JR p M.length c] _ _ hx_bx;exact lH
open Classical in
noncomputable def jK (x:LY) (roots:List LL) (r:LR) (asof:Int):Int:=
 if ec x roots r asof ≠ 0 then ec x roots r asof else if pL x.lines∨x.first ≠ 0∨x.last ≠ 100000 then 42 else 0
def rP (x:LY) (roots:List LL) (r:LR) (asof:Int) (w:World) (e:Ending) (w':World):Prop:=
 (jK x roots r asof ≠ 0∧e=JT (.tuple #[.agg #[JO JP 0,JO JP 0,JO JP 0,JR JW 0 0],JO JP (jK x roots r asof)])∧ac w.heap.size w w')∨
 (jK x roots r asof=0∧∃ (p:Option Addr) (c:Nat) (M:List Ent),e=JT (.tuple #[.agg #[JO JP x.school,JO JP x.student,JO JP x.root,JR p M.length c],JO JP 0])∧BrS Ent.id (cI x.lines) M∧LQ bK 15 67 w w' (JR p M.length c) M)
theorem pk {fn:Func} {p u:Tmp} (h:fn.results=#[.cell p 56,.tmp u]) (tmps:Array Value) (w:World) (g:Nat) (cs:Array Value) (hp:tmps.getD p undef=JS (JV ⟨g,0,JW⟩)) (hg:w.heap[g]? = JV (JU cs 56 (0,0))) (hs:cs.size=4:=by rfl) :
  (results fn tmps).run prog w=.ok (.tuple #[.agg cs,tmps.getD u undef]) w:=by
 rw [results_cell_tmp h,hp];have:=run_loadVar_row (P:=prog) w g 56 56 cs (0,0) _ hg underlying56 rfl (by rw [hs];kernel_rfl);simp only [asAddr,Sem.run_pure,Result.andThen_ok,this]
theorem lL {p:Prop} (h:p:=by
 go_wp2_with ((with_reducible refine wpList_store_row (o:=⟨JW,.store 56 (.tmp 8) (.tmp 40),_,_,_,_⟩) ?_ 56 (.tmp 8) (.tmp 40) ?_ (w.heap.size+1+1) #[JO JP 0,JO JP 0,JO JP 0,JR JW 0 0] ?_ ?_ 56 #[JO JP 0,JO JP 0,JO JP 0,JR JW 0 0] ?_ ?_ ?_ ?_ ?_);rfl;rfl;rfl;rfl;exact n2;kernel_rfl;rfl;simp [Value.oneCell'])
 (try simp only [Exit.inBlock,Exit.then]);refine bodyPost_ret (pk results15 _ _ (w.heap.size+1+1) #[JO JP 0,JO JP 0,JO JP 0,JR JW 0 0] rfl (setRow_heap _ _ _ _ _ _ n2)) rfl ?_
 exact HPB.out _ 42 (HE.out) (aQ HBW3.out mOm _)):p:=h
theorem sd (x:LY) (pl pp:Option Addr) (cl cp:Nat) (roots:List LL) (pr:Option Addr) (cr:Nat) (r:LR) (g c:Nat) (asof:Int) (w:World) (hkJ:JudOk x roots r) (hi:JudIn x pl pp cl cp roots pr cr r g w) (h39:x.lines.length≤19) :
  Calls prog 15 #[.agg (x.cells pl pp cl cp),JR pr roots.length cr,.agg #[JO JP r.school,JR (JV ⟨g,0,JW⟩) r.keys.length c],JO JP asof] w (rP x roots r asof w):=by
 classical
 obtain ⟨hb3,h0,h1,h2⟩:=rL (w:=w) (JU #[JO JP x.school,JO JP x.student,JO JP x.first,JO JP x.last,JO JP x.root,JR pl x.lines.length cl,JR pp x.proof.length cp] 39) (JU #[JO JP r.school,JR (JV ⟨g,0,JW⟩) r.keys.length c] 33) (JU #[JO JP 0,JO JP 0,JO JP 0,JR JW 0 0] 56)
 obtain ⟨W3,hW3⟩:∃ u,u=((w.alloc (JU #[JO JP x.school,JO JP x.student,JO JP x.first,JO JP x.last,JO JP x.root,JR pl x.lines.length cl,JR pp x.proof.length cp] 39)).alloc (JU #[JO JP r.school,JR (JV ⟨g,0,JW⟩) r.keys.length c] 33)).alloc (JU #[JO JP 0,JO JP 0,JO JP 0,JR JW 0 0] 56):=⟨_,rfl⟩;rw [← hW3] at hb3 h0 h1 h2;have kj:Calls prog 39 #[.agg #[JO JP x.school,JO JP x.student,JO JP x.first,JO JP x.last,JO JP x.root,JR pl x.lines.length cl,JR pp x.proof.length cp],JR pr roots.length cr,.agg #[JO JP r.school,JR (JV ⟨g,0,JW⟩) r.keys.length c],JO JP asof] W3 fun e w'=>e=JT (.tuple #[(mG x roots r asof).val,JO JP (ec x roots r asof)])∧ac W3.heap.size W3 w':=
  wA x pl pp cl cp roots pr cr r g c asof W3 hkJ (hi.below hb3)
 have HV:Hid (jK x roots r asof=if ec x roots r asof ≠ 0 then ec x roots r asof else if pL x.lines∨x.first ≠ 0∨x.last ≠ 100000 then 42 else 0):=aa rfl
 have HPB:Hid (∀ u (er:Int),er ≠ 0∧jK x roots r asof=er→ac w.heap.size w u→rP x roots r asof w (JT (.tuple #[.agg #[JO JP 0,JO JP 0,JO JP 0,JR JW 0 0],JO JP er])) u):=aa (fun u er h hb=>.inl ⟨by rw [h.2];exact h.1,by rw [h.2],hb⟩);have HPG:Hid (∀ u (p:Option Addr) (c:Nat) (M:List Ent),jK x roots r asof=0→BrS Ent.id (cI x.lines) M→LQ bK 15 67 w u (JR p M.length c) M→rP x roots r asof w (JT (.tuple #[.agg #[JO JP x.school,JO JP x.student,JO JP x.root,JR p M.length c],JO JP 0])) u):=aa (fun u p c M h h1 h2=>.inr ⟨h,p,c,M,rfl,h1,h2⟩);generalize rP x roots r asof w=PB at *;generalize jK x roots r asof=BE at *;generalize ec x roots r asof=V at *;generalize mG x roots r asof=RT at *;have HI:=aa hi;clear hi;have hxl:=aU h0;have hgl:=aU h1;have hzl:=aU h2;go_enter func15,ntmps15;unfold LY.cells;go_wp2_with fail;rw [← hW3];clear hW3;refine kj.mono ?_;clear kj;rintro _ w1 ⟨rfl,hb1⟩;have hbw1:=ah hb3 hb1;have m0:=(hb1.block _ hxl).trans h0;have m1:=(hb1.block _ hgl).trans h1;have m2:=(hb1.block _ hzl).trans h2;clear h0 h1 h2 hb1 hb3 hxl hgl hzl;obtain ⟨rs,rz,rd,rtr,rb,rky,rmk⟩:=RT;have hxl:=aU m0;have hzl:=aU m2;have hba:=al w1 (JU #[JO JP rs,JO JP rz,JO JP rd,JQ rtr,JQ rb,JO JP rky,JQ rmk] 65);obtain ⟨w2,hE2⟩:∃ u,u=w1.alloc (JU #[JO JP rs,JO JP rz,JO JP rd,JQ rtr,JQ rb,JO JP rky,JQ rmk] 65):=⟨_,rfl⟩;rw [← hE2] at hba;have hbw2:=ah hbw1 hba;have n0:=(hba.block _ hxl).trans m0;have n2:=(hba.block _ hzl).trans m2;clear m0 m1 m2 hba
 go_upto_region 2 with fail
 rw [← hE2];clear hE2;by_cases hV:V=0
 rotate_left 1
 ·have t1:(V != 0)=true:=by rw [bne_iff_ne];exact hV
  have HE:Hid (V ≠ 0∧BE=V):=aa ⟨hV,by rw [HV.out,if_pos hV]⟩;clear HV hV;go_wp2_with ((with_reducible refine wpList_store_row (o:=⟨JW,.store 56 (.tmp 8) (.tmp 24),_,_,_,_⟩) ?_ 56 (.tmp 8) (.tmp 24) ?_ (w.heap.size+1+1) #[JO JP 0,JO JP 0,JO JP 0,JR JW 0 0] ?_ ?_ 56 #[JO JP 0,JO JP 0,JO JP 0,JR JW 0 0] ?_ ?_ ?_ ?_ ?_);rfl;rfl;rfl;rfl;exact n2;kernel_rfl;rfl;simp [Value.oneCell'])
  (try simp only [Exit.inBlock,Exit.then]);refine bodyPost_ret (pk results15 _ _ (w.heap.size+1+1) #[JO JP 0,JO JP 0,JO JP 0,JR JW 0 0] rfl (setRow_heap _ _ _ _ _ _ n2)) rfl ?_
  exact HPB.out _ V (HE.out) (aQ hbw2 mOm _)
 have t1:(V != 0)=false:=by rw [bne_eq_false_iff_eq];exact hV
 have HV2:=aa (HV.out.trans (if_neg (fun h=>h hV)));clear HV;subst hV;have x5:w2.cell? ⟨w.heap.size,5,JW⟩=JV (JR pl x.lines.length cl):=ae n0 5;have kc:=vo pl cl x.lines w2 (HI.out.ext.lines.below hbw2) mOm;go_wp2_with fail;refine kc.mono ?_;clear kc x5 t1;rintro _ w3 ⟨bt,rfl,hbt,hb3⟩;have hbw3:=ah hbw2 hb3;have n0:=hb3.heap_of n0;have n2:=hb3.heap_of n2;have x2:w3.cell? ⟨w.heap.size,2,JW⟩=JV (JO JP x.first):=ae n0 2;have x3:w3.cell? ⟨w.heap.size,3,JW⟩=JV (JO JP x.last):=ae n0 3;have HBT:=aa hbt;have HBW3:=aa hbw3;have N0:=LP.mk n0;clear hbt hb3 hbw3 hbw2 hbw1 n0;have hzl:=aU n2
 cases bt
 rotate_left 1
 ·have HE:Hid ((42:Int) ≠ 0∧BE=42):=aa ⟨mDe,by rw [HV2.out,if_pos (.inl (HBT.out.1 rfl))]⟩;exact lL
 by_cases hf:x.first=0
 rotate_left 1
 ·have t1:(x.first != 0)=true:=by rw [bne_iff_ne];exact hf
  have HE:Hid ((42:Int) ≠ 0∧BE=42):=aa ⟨mDe,by rw [HV2.out,if_pos (.inr (.inl hf))]⟩;clear hf;exact lL
 have t1:(x.first != 0)=false:=by rw [bne_eq_false_iff_eq];exact hf
 by_cases hla:x.last=100000
 rotate_left 1
 ·have t2:(x.last != 100000)=true:=by rw [bne_iff_ne];exact hla
  have HE:Hid ((42:Int) ≠ 0∧BE=42):=aa ⟨mDe,by rw [HV2.out,if_pos (.inr (.inr hla))]⟩;clear hla hf;exact lL
 have t2:(x.last != 100000)=false:=by rw [bne_eq_false_iff_eq];exact hla
 have HE:Hid (BE=0):=aa (by
  rw [HV2.out,if_neg];rintro (h | h | h)
  ·cases HBT.out.2 h
  ·exact h hf
  ·exact h hla)
 clear hf hla HV2 HBT
 have N2:=LP.mk n2;clear n2
 go_upto_region 7 with fail
 clear t1 t2 x2 x3;refine I0 w.heap.size x.lines.length cl x.proof.length cp pl pp x.school x.student x.first x.last x.root (cI x.lines) w3 _ (ae N0.is) (aU N0.is) (fun u=>?_) (fun u sb hu hsb=>?_) ?_
 ·refine (wQ _ pl x.lines.length cl rfl u).mono ?_;rintro e w' ⟨rfl,rfl⟩;exact ⟨u.heap.size,rfl,heap_alloc_new u _,al u _⟩
 ·refine (xa sb pl cl x.lines w u mOm hkJ.ext.lines HI.out.ext.lines HI.out.ready hsb (ah HBW3.out hu)).mono ?_;rintro e w' ⟨v,rfl,hO⟩;obtain ⟨p9,c9,rfl⟩:=hO.form;exact ⟨cI x.lines,p9,c9,rfl,aa rfl,hO,aa hu,hO.low⟩
 intros
 rename_i w4 bx M p9 c9 hM hO4 hbx hx4 hne4 hb4
 have HBX:=LP.mk hx4
 have HO4:=aa hO4;have hml:M.length≤19:=by
  rw [hM.out];have:(cI x.lines).length≤x.lines.length:=by unfold cI;exact List.length_filterMap_le ..
  omega
 have ks:=Ga w3 w4 (JR p9 M.length c9) M hO4 hml
 have v3:w4.cell? ⟨bx,3,JW⟩=JV (JR p9 M.length c9):=ae hx4 3;have N2:=LP.mk (hb4.heap_of N2.is);have HNE:=aa hne4;clear hx4 hO4 hne4;go_wp2_with fail;refine ks.mono ?_;clear ks v3;rintro _ w5 ⟨rfl,L',hlen,hBr,hO5,hbt⟩;have hb35:=HBW3.out;have hs3:=aU N2.is;have hown:∀ q,(Value.slice p9 M.length c9).ownBlock=JV q→w3.heap.size≤q:=fun q hq=>(HO4.out.own.lt q hq).1
 have hx5:=hbt.heap HBX.is (fun e=>HNE.out _ e rfl);have n5:=hbt.heap N2.is (fun e=>by have:=hown _ e;have:=hzl;omega);obtain ⟨n9,c5,hv5⟩:=hO5.form;have HO5:=aa hO5;have HBR:=aa hBr;have HL9:=aa hlen;have hne5:∀ q,(Value.slice p9 M.length c9).ownBlock=JV q→q ≠ w.heap.size+1+1:=fun q hq e=>by have:=hown q hq;omega
 have HNE5:=aa hne5;have v0:w5.cell? ⟨bx,0,JW⟩=JV (JO JP x.school):=ae hx5 0;have v1:w5.cell? ⟨bx,1,JW⟩=JV (JO JP x.student):=ae hx5 1;have v2:w5.cell? ⟨bx,2,JW⟩=JV (JO JP x.root):=ae hx5 2;have v3:w5.cell? ⟨bx,3,JW⟩=JV (JR p9 M.length c9):=ae hx5 3;clear hlen hBr hO5 hbt hx5 hown hne5 hv5 hb4 hbx;go_wp2_with ((with_reducible refine wpList_store_row (o:=⟨JW,.store 56 (.tmp 8) (.tmp 55),_,_,_,_⟩) ?_ 56 (.tmp 8) (.tmp 55) ?_ (w.heap.size+1+1) #[JO JP x.school,JO JP x.student,JO JP x.root,JR p9 M.length c9] ?_ ?_ 56 #[JO JP 0,JO JP 0,JO JP 0,JR JW 0 0] ?_ ?_ ?_ ?_ ?_);rfl;rfl;rfl;rfl;exact n5;kernel_rfl;rfl;simp [Value.oneCell'])
 (try simp only [Exit.inBlock,Exit.then]);refine bodyPost_ret (pk results15 _ _ (w.heap.size+1+1) #[JO JP x.school,JO JP x.student,JO JP x.root,JR p9 M.length c9] rfl (setRow_heap _ _ _ _ _ _ n5)) rfl ?_
 have hfin:=HPG.out (w5.setRow (w.heap.size+1+1) #[JO JP x.school,JO JP x.student,JO JP x.root,JR p9 M.length c9]) p9 c9 L' HE.out (by rw [← hM.out];exact HBR.out);rw [HL9.out] at hfin;refine hfin ?_;have h6:=HO5.out;refine ⟨⟨p9,c9,by rw [HL9.out]⟩,?_,?_⟩
 ·exact iO (bE h6.own (LM.setRow w5 (w.heap.size+1+1) _) (fun q hq e=>HNE5.out q hq e)) hb35.size
 ·exact aQ (ah hb35 h6.low) mOm _
end
section
theorem brT:RowT prog fY 4 56 61 where
 len _:=rfl
 one x u hu:=by
  simp only [fY,cR,et,or_false] at hu;rcases hu with rfl | rfl | rfl | rfl <;> rfl
 pos:=mDe
 und:=underlying61
 info:=by
  obtain ⟨i0,hi,h1,h2,h3⟩:=info_parts (show (prog.info? 56).map (fun i=>(i.zero,i.size,i.bytes))=JV (JV (.agg #[JO JP 0,JO JP 0,JO JP 0,JR JW 0 0]),4,48) by kernel_rfl);exact ⟨i0,_,hi,h1,h2,rfl,mOm⟩
theorem Be (p:Option Addr) (c:Nat) (L:List Ent) (w:World) (h:LK bK w (JR p L.length c) L) (hl:L.length≤1000000) :
  Calls prog 71 #[JR p L.length c] w fun e w'=>∃ v,e=JT v∧LQ bK 15 67 w w' v L:=by
 have q22:∀ (w:World) (a:Option Addr) (n c n' c':Nat),(binOp .eql 34 (JR a n c) (JR JW n' c')).run prog w=.ok (.bool a.isNone) w:=fun w a n c n' c'=>Lib.run_eql_slice_nil w _ _ a n c n' c' underlying34
 rcases p with _ | ad
 ·obtain ⟨p',c',hv,_,hz,_⟩:=h;injection hv with e1 e2 e3;subst e1;subst e3;obtain rfl:=hz rfl;obtain rfl:L=[]:=List.eq_nil_of_length_eq_zero mOm;go_enter func71,ntmps71;go_wp2_with fail;go_ret;exact ⟨_,rfl,LQ.nil _ _ _ _⟩
 ·have hO:LQ bK 15 67 w (w.alloc (JU #[] 67)) (JR (JV ⟨w.heap.size,0,JW⟩) 0 0) ([]:List Ent):=⟨⟨_,_,rfl⟩,World.ownsRow_lit w #[] 0 (aD _) (aR _) rfl,al w _⟩;have hr:=h.below (al w (JU #[] 67));have hown:=hO.own;have hsz:=hO.low.size;have HO:=aa hO;clear h hO;go_enter func71,ntmps71;go_wp2_with (at_builtin;refine bB enT rfl (.tmp 5) (.tmp 6) rfl w.heap.size _ _ [] L rfl rfl hown hr (by simpa using hl) hsz ?_;intro v9 w9 hA9;have hO9:=HO.out.app hA9;rw [List.nil_append] at hO9;have HO9:=aa hO9;clear hO9 hA9);go_ret;exact ⟨_,rfl,HO9.out⟩
theorem Fj (fv:Value) (w:World):Calls prog 124 #[JR JW 0 0,fv] w fun e w'=>e=JT (JO JP (-1))∧w=w':=by go_enter func124,ntmps124;go_wp2_with fail;refine wp_loop_rounds 1 ?_;rw [rounds_succ];go_wp2_with fail;go_ret;exact ⟨rfl,rfl⟩
theorem lG {p:Prop} (h:p:=by
 go_wp2_with fail;refine (Fj _ _).mono ?_;rintro _ _ ⟨rfl,rfl⟩;go_wp2_with fail;go_ret
 exact ⟨rfl,rfl⟩):p:=h
theorem EQ (fv:Value) (w:World):Calls prog 64 #[JR JW 0 0,fv] w fun e w'=>e=JT (.bool false)∧w=w':=by go_enter func64,ntmps64;exact lG
theorem EZ (fv:Value) (w:World):Calls prog 66 #[JR JW 0 0,fv] w fun e w'=>e=JT (JR JW 0 0)∧w=w':=by go_enter func66,ntmps66;exact lG
theorem Ae (fv:Value) (w:World):Calls prog 68 #[JR JW 0 0,fv] w fun e w'=>e=JT (JO JP 0)∧w=w':=by go_enter func68,ntmps68;exact lG
theorem Bd (w:World):Calls prog 67 #[JR JW 0 0] w fun e w'=>e=JT (JR JW 0 0)∧w=w':=by
 have q22:∀ (w:World) (a:Option Addr) (n c n' c':Nat),(binOp .eql 61 (JR a n c) (JR JW n' c')).run prog w=.ok (.bool a.isNone) w:=fun w a n c n' c'=>Lib.run_eql_slice_nil w _ _ a n c n' c' underlying61
 go_enter func67,ntmps67;go_wp2_with fail;go_ret;exact ⟨rfl,rfl⟩
theorem Fn (g:Nat) (y:BrtV) (w:World) (h:LK fY w (JR (JV ⟨g,0,JW⟩) 1 1) [y]) :
  Calls prog 70 #[JR JW 0 0,JO JP 0,JR (JV ⟨g,0,JW⟩) 1 1] w fun e w'=>∃ (gr cr:Nat),e=JT (JR (JV ⟨gr,0,JW⟩) 1 cr)∧LQ fY 4 56 w w' (JR (JV ⟨gr,0,JW⟩) 1 cr) [y]:=by
 have hown:=(World.ownsRow_nil w w.heap.size 56 4);have hsz:=aD w.heap.size;have HP:=aa (fun u v (hA:AppT fY 4 56 w w.heap.size (JR JW 0 0) [] [y] v u)=>(show LQ fY 4 56 w u v ([]++[y]) from LQ.app (LQ.nil fY 4 56 w) hA));go_enter func70,ntmps70;go_wp2_with (at_builtin;refine bB brT rfl (.tmp 23) (.tmp 24) rfl w.heap.size (JR JW 0 0) (JR (JV ⟨g,0,JW⟩) 1 1) [] [y] rfl rfl hown h mSi hsz ?_;intro v9 w10 hA9;have HO:=aa (HP.out _ _ hA9);obtain ⟨g9,c10,hv9⟩:=iP (M:=([]:List BrtV)) hA9.own;subst hv9;clear hA9 hown h hsz HP);go_ret;exact ⟨g9,c10,rfl,HO.out⟩
theorem qO {w:World} {B gr cr:Nat} {y:BrtV} (h:w.ownsRow B 56 4 (JR (JV ⟨gr,0,JW⟩) 1 cr) 1 (br fY [y])) (p2:Option Addr) (c2:Nat) :
  (∀ j v,(fY y)[j]? = JV v→w.cell? ⟨gr,j,JW⟩=JV v)∧w.frozen? ⟨gr,3,JW⟩=false∧B≤gr∧gr < w.heap.size∧(w.setCell ⟨gr,3,JW⟩ (JR p2 y.b.ents.length c2)).ownsRow B 56 4 (JR (JV ⟨gr,0,JW⟩) 1 cr) 1 (br fY [⟨y.b,p2,c2⟩]):=by
 rcases h.2 with ⟨hv,_⟩ | ⟨g,cap,cur,hv,hb,hg,h1,h2,h3,h4⟩
 ·cases hv
 injection hv with e1 e2 e3
 injection e1 with e1;injection e1 with e1;subst e1;subst e3;have ht:cur.toList.take 4=fY y:=by
  have:br fY [y]=fY y:=by simp [br]
  rw [← this,← h4]
 have e:cur.toList=fY y++cur.toList.drop 4:=by rw [← ht,List.take_append_drop]
 refine ⟨fun j v hj=>?_,aE hg 3,hb,aU hg,rfl,.inr ⟨gr,cr,_,rfl,hb,bp hg 3 _,h1,h2,by rw [Array.size_setIfInBounds];exact h3,?_⟩⟩
 ·have hl:j < (fY y).length:=(List.getElem?_eq_some_iff.1 hj).1;rw [ae hg j,← Array.getElem?_toList,e,List.getElem?_append_left hl];exact hj
 ·rw [Array.toList_setIfInBounds,e];rfl
theorem DT (f s r:Int) (p:Option Addr) (c:Nat) (L:List Ent) (w:World) (h:LK bK w (JR p L.length c) L) (hl:L.length≤100000) (hf:1≤f∧f≤8) (hs:1≤s∧s≤999999) (hr:0≤r∧r≤1000000) :
  Calls prog 26 #[JR JW 0 0,.agg #[JO JP f,JO JP s,JO JP r,JR p L.length c]] w fun e w'=>∃ (p1 p2:Option Addr) (c1 c2:Nat),e=JT (.tuple #[JR p1 1 c1,JO JP 0])∧BrtIn w' (JR p1 1 c1) [⟨⟨f,s,r,L⟩,p2,c2⟩]∧ac w.heap.size w w':=by
 have hx:=eG (heap_alloc_new w (JU #[JO JP f,JO JP s,JO JP r,JR p L.length c] 56)) (JU #[.func (.func 63) #[] #[JS (JV ⟨w.heap.size,0,JW⟩)]] 124);have hy:=heap_alloc_new (w.alloc (JU #[JO JP f,JO JP s,JO JP r,JR p L.length c] 56)) (JU #[.func (.func 63) #[] #[JS (JV ⟨w.heap.size,0,JW⟩)]] 124);rw [size_alloc] at hy;have hb0:=ah (al w (JU #[JO JP f,JO JP s,JO JP r,JR p L.length c] 56)) (al _ (JU #[.func (.func 63) #[] #[JS (JV ⟨w.heap.size,0,JW⟩)]] 124));have e0:=heap_alloc_new w (JU #[JO JP f,JO JP s,JO JP r,JR p L.length c] 56);have z0:(w.alloc (JU #[JO JP f,JO JP s,JO JP r,JR p L.length c] 56)).cell? ⟨w.heap.size,0,JW⟩=JV (JO JP f):=ae e0 0;have z1:(w.alloc (JU #[JO JP f,JO JP s,JO JP r,JR p L.length c] 56)).cell? ⟨w.heap.size,1,JW⟩=JV (JO JP s):=ae e0 1;have z2:(w.alloc (JU #[JO JP f,JO JP s,JO JP r,JR p L.length c] 56)).cell? ⟨w.heap.size,2,JW⟩=JV (JO JP r):=ae e0 2;clear e0;have HR:=aa h;clear h;have k1:decide (f < 1)=false:=decide_eq_false mOm;have k2:decide (8 < f)=false:=decide_eq_false mOm;have k3:decide (s < 1)=false:=decide_eq_false mOm;have k4:decide (999999 < s)=false:=decide_eq_false mOm;have k5:decide (r < 0)=false:=decide_eq_false mOm;obtain ⟨W,hW⟩:∃ u,u=(w.alloc (JU #[JO JP f,JO JP s,JO JP r,JR p L.length c] 56)).alloc (JU #[.func (.func 63) #[] #[JS (JV ⟨w.heap.size,0,JW⟩)]] 124):=⟨_,rfl⟩;rw [← hW] at hx hy hb0;go_enter func26,ntmps26
 go_upto_region 4 with fail
 rw [← hW];clear hW z0 z1 z2 k1 k2 k3 k4 k5;have HX:=LP.mk hx;have hS0:W.drew.cell? ⟨w.heap.size+1,0,JW⟩=JV (.func (.func 63) #[] #[JS (JV ⟨w.heap.size,0,JW⟩)]):=ae hy 0;clear hx hy;go_wp2_with fail;refine (EQ _ _).mono ?_;rintro _ _ ⟨rfl,rfl⟩;go_wp2_with fail;refine Jy (S:=fun u=>u.cell? ⟨w.heap.size+1,0,JW⟩=JV (.func (.func 63) #[] #[JS (JV ⟨w.heap.size,0,JW⟩)])) [(0,true),(2,true),(1,false),(3,false),(4,true)] hS0 ?_;have hS:=hS0
 iterate 2 refine aj ?_
 refine aH 67 call67 (Bd _) ?_;rintro x wn ⟨rfl,rfl⟩;refine ⟨_,rfl,hS,?_⟩;refine ar ?_;refine aH 66 call66 (EZ _ _) ?_;rintro x wn ⟨rfl,rfl⟩;refine ⟨_,rfl,hS,?_⟩;refine ar ?_;refine aj ?_;simp only [aO,bj];clear hS hS0;go_wp2_with fail;refine (Ae _ _).mono ?_;rintro _ _ ⟨rfl,rfl⟩;have hbd:=ah hb0 (Below.refl _ W).drew;have hxd:=(Below.refl _ W).drew.heap_of HX.is;have x0:W.drew.cell? ⟨w.heap.size,0,JW⟩=JV (JO JP f):=ae hxd 0;have x1:W.drew.cell? ⟨w.heap.size,1,JW⟩=JV (JO JP s):=ae hxd 1;have x2:W.drew.cell? ⟨w.heap.size,2,JW⟩=JV (JO JP r):=ae hxd 2;have x3:W.drew.cell? ⟨w.heap.size,3,JW⟩=JV (JR p L.length c):=ae hxd 3;have hlit:LK fY (W.drew.alloc (JU #[JO JP f,JO JP s,JO JP r,JR p L.length c] 56)) (JR (JV ⟨W.drew.heap.size,0,JW⟩) 1 1) [(⟨⟨f,s,r,L⟩,p,c⟩:BrtV)]:=cF (heap_alloc_new W.drew _) _ rfl rfl;have ki:=Fn W.drew.heap.size ⟨⟨f,s,r,L⟩,p,c⟩ (W.drew.alloc (JU #[JO JP f,JO JP s,JO JP r,JR p L.length c] 56)) hlit;have hb5:=ah hbd (al W.drew (JU #[JO JP f,JO JP s,JO JP r,JR p L.length c] 56));have HB5:=aa hb5;clear hbd hxd hlit hb0 hb5;go_wp2_with fail;refine ki.mono ?_;clear ki x0 x1 x2 x3;rintro _ w6 ⟨gr,cr,rfl,hO6⟩;obtain ⟨hc6,-,hbg,hgl,-⟩:=qO hO6.own JW 0;have hb6:=ah HB5.out hO6.low;have z3:w6.cell? ⟨gr,3,JW⟩=JV (JR p L.length c):=hc6 3 _ rfl;have kc:=Be p c L w6 (HR.out.below hb6) mOm;have HB6:=aa hb6;have HO6:=aa hO6;clear hc6 hb6 hO6;go_wp2_with fail;refine wp_loop_rounds 2 ?_;rw [rounds_succ];go_wp2_with fail;refine kc.mono ?_;clear kc z3;rintro _ w7 ⟨v7,rfl,hO7⟩;obtain ⟨p7,c7,rfl⟩:=hO7.form;obtain ⟨-,f3,-,hgl7,hown8⟩:=qO (HO6.out.next hO7.low).own p7 c7;have c3:w7.cell? ⟨gr,3,JW⟩=JV (JR p L.length c):=(qO (HO6.out.next hO7.low).own p7 c7).1 3 _ rfl;have hset:=LM.set (S:=fun q=>q=gr) w7 rfl 3 (JR p7 L.length c7);have hrow7:=bE hO7.own hset (fun q hq e=>by have:=(hO7.own.lt q hq).1;omega);have hbl:ac w.heap.size w (w7.setCell ⟨gr,3,JW⟩ (JR p7 L.length c7)):=(ah HB6.out hO7.low).trans (hset.below (fun q hq e=>by have:=HB5.out.size;omega) (ah HB6.out hO7.low).size);have HB8:=aa hbl;have HR8:=aa hown8;have HE8:=aa hrow7;clear hO7 hown8 hset hrow7 hbl hgl7;go_wp2_with fail;rw [rounds_succ];go_wp2_with fail
 go_ret2
 refine ⟨JV ⟨gr,0,JW⟩,p7,cr,c7,rfl,⟨eH vn mDe HR8.out,fun x hx=>?_,fun x hx=>?_⟩,HB8.out⟩
 ·rw [bJ.1 hx];exact eH dH mDe HE8.out
 ·rw [bJ.1 hx];exact hl
