/- Lemmas. -/
import Derived.Test.YtnlhbdmeodbblaaGreatDoorMtbk
import Derived.Test.YtnlhbdmeodbblaaGreatDoorMtbl
set_option maxRecDepth 100000
set_option maxHeartbeats 16000000
set_option linter.all false
open Go.Proofs.Tryz
open Array renaming getElem?_modify->eJ,getElem?_toList->gK
open Go.Lib renaming cell_of_heap->ae,frozen_of_heap->aE,hid->aa
open List renaming any_eq_true->iK,eq_nil_of_length_eq_zero->bn,getElem?_append_left->bR,getElem?_eq_getElem->ai,getElem?_take_of_lt->dN,length_append->ap,length_zipIdx->iz,mem_append->bI,mem_singleton->bE,toArray->aK
open Nat renaming le_refl->az,lt_of_lt_of_le->ax,zero_le->aP
open Go.RowKit renaming Below->ac,intOf->aw
open Go.World renaming size_alloc->fJ
open Go.Ending renaming returned->Oe
open Go.IntKind renaming i64->Oa
open Go.Obj renaming cells->Of
open Go.Value renaming int->N9,string->Ob,slice->Oc,pointer->Od
open Option renaming some->Og,none->Oh
namespace Go.Proofs.YtnlhbdmeodbblaaGreatDoor
open Go Go.RowKit Go.Sort Go.Lib
section
variable {s0 s1 s2 s3 s4 s5 s6 s7 s8 s9 a0 a1 a2 bt a3 a4 a5 a6 a7 a8 a9 ab ad af bv c0 c1 c2 c3 c4 c5 c7 c8 c9 ca ag ao b0 b1 b2 b3 b4 b5 b6 b7 b8 b9 ba bb bc bd be bf bg bh bk bm bo bp bq br bs:Value}
attribute [local go_sem] aC.cells
def mkX(r:bH)(id:Int)(B:List aC)(l:List Ent)(day:Int):aC:=⟨r.school,l.length,day,jV l,gP B.getLast?,id,⟨#[]⟩⟩
def mkR(r:bH)(id:Int)(B:List aC)(l:List Ent)(day:Int):aC×Int:=
 if kY r B l day≠0 then (rootZ,kY r B l day)
 else if (eC r.keys r.school id (bJ (mkX r id B l day))).2≠0 then (rootZ,(eC r.keys r.school id (bJ (mkX r id B l day))).2)
 else if eu r id (bJ (mkX r id B l day)) (eC r.keys r.school id (bJ (mkX r id B l day))).1 day day≠0 then (rootZ,eu r id (bJ (mkX r id B l day)) (eC r.keys r.school id (bJ (mkX r id B l day))).1 day day)
 else ({ mkX r id B l day with mark:=(eC r.keys r.school id (bJ (mkX r id B l day))).1 },0)
theorem nD{p q:Prop}(h:q) (f:Wq q->p:=by
 intro hq;have hset:=KS _ (bu hS.1 hlo_bx #[N9 Oa sc,N9 Oa (n:Int),N9 Oa day,Ob T,Ob L,N9 Oa id,Ob ⟨#[]⟩])
 revert hset
 exact hq.1):p:=f ⟨h⟩
theorem Nw(rb nb cb n c:Nat)(pb p:Option Addr)(sc id day:Int)(T L:ByteArray)(W:World)(Q:Exit->Act->World->Prop)(h0:W.cell? ⟨rb,0,Oh⟩=Og (N9 Oa sc))(hrb:rb<W.heap.size)(kt:∀u,ac W.heap.size W u->Calls prog 74 #[Oc p n c] u (fun e w'=>e=Oe (Ob T)/\ac u.heap.size u w'))(kl:∀u,ac W.heap.size W u->Calls prog 128 #[Oc pb nb cb] u (fun e w'=>e=Oe (Ob L)/\ac u.heap.size u w'))
  (hQ:∀(cc cd ce cf ch ci cj ck cl cn co:Value)(wx:World)(bx:Nat),W.heap.size<=bx->wx.heap[bx]? = Og (Of #[N9 Oa sc,N9 Oa (n:Int),N9 Oa day,Ob T,Ob L,N9 Oa id,Ob ⟨#[]⟩] 65 (0,0))->ac W.heap.size W wx->Q .normal ⟨aK (s0::N9 Oa id::Oc pb nb cb::Oc p n c::N9 Oa day::Od (Og ⟨rb,0,Oh⟩)::s6::s7::s8::s9::a0::a1::a2::Od (Og ⟨bx,0,Oh⟩)::[a3,a4,a5,a6,a7,a8,a9,ab,ad,af,cc,cd,ce,cf,ch,ci,cj,ck,cl,cn,co,ag,ao,b0,b1,b2,b3,b4,b5,b6,b7,b8,b9,ba,bb,bc,bd,be,bf,bg,bh,bk,bm,bo,bp,bq,br,bs]),[]⟩ wx) :
  (db f73 4).wp prog Q ⟨aK (s0::N9 Oa id::Oc pb nb cb::Oc p n c::N9 Oa day::Od (Og ⟨rb,0,Oh⟩)::[s6,s7,s8,s9,a0,a1,a2,bt,a3,a4,a5,a6,a7,a8,a9,ab,ad,af,bv,c0,c1,c2,c3,c4,c5,c7,c8,c9,ca,ag,ao,b0,b1,b2,b3,b4,b5,b6,b7,b8,b9,ba,bb,bc,bd,be,bf,bg,bh,bk,bm,bo,bp,bq,br,bs]),[]⟩ W:=by
 refine mOn ?_;generalize Q .normal=K at hQ |-;have HQ:=aa hQ;clear hQ
 conv=>arg 2;whnf
 have KT:=aa kt
 have KL:=aa kl;have KS:∀u,ac W.heap.size W u->ac W.heap.size W u/\u.cell? ⟨rb,0,Oh⟩=Og (N9 Oa sc):=fun u hu=>⟨hu,(hu.cell (p:=⟨rb,0,Oh⟩) hrb).trans h0⟩
 clear kt kl h0 hrb;have hS:ac W.heap.size W W.drew/\W.drew.cell? ⟨rb,0,Oh⟩=Og (N9 Oa sc):=KS _ (Below.refl _ _).drew;refine gJ (S:=fun u=>ac W.heap.size W u/\u.cell? ⟨rb,0,Oh⟩=Og (N9 Oa sc)) (.take 0 (.take 1 (.take 2 (.take 3 (.take 4 (.take 5 (.take 7 (.take 9 (.two 6 11 (.two 8 11 (.take 10 (.one 11 (.one 12 .done))) (.one 8 (.take 10 (.one 12 .done)))) (.one 6 (.one 8 (.take 10 (.one 12 .done))))))))))))) hS ?_
 iterate 8 refine aW ?_
 refine ft ?_ ?_
 .refine bY ⟨_,_,_,_,_,_⟩ rfl mRf 74 _ _ mRf _ mRf call74 (KT.out _ hS.1) ?_;rintro x x1⟨rfl,hb⟩;replace hS:=KS _ (ah hS.1 hb);refine⟨_,rfl,hS,?_⟩
  (try clear hb)
  refine ay ?_;refine ft ?_ ?_
  .refine bY ⟨_,_,_,_,_,_⟩ rfl mRf 128 _ _ mRf _ mRf call128 (KL.out _ hS.1) ?_;rintro x x2⟨rfl,hb⟩;replace hS:=KS _ (ah hS.1 hb);refine⟨_,rfl,hS,?_⟩
   (try clear hb)
   refine ay ?_;refine aW ?_;have hlo_bx:W.heap.size<=x2.heap.size:=hS.1.size;refine bW (bU ⟨_,_,_,_,_,_⟩ (Od (Og ⟨x2.heap.size,0,Oh⟩)) (x2.alloc (Of rootZ.cells 65)) rfl mRf (by go_simp;try rfl) ⟨KS _ (ah hS.1 (aj _ _)),?_⟩);have hb:=aj (x2) (Of rootZ.cells 65);replace hS:=KS _ (ah hS.1 hb);have hx_bx:=heap_alloc_new (x2) (Of rootZ.cells 65)
   (try clear hb)
   refine ay ?_;refine nD ?_;intro hset;refine bW (di ⟨_,_,_,_,_,_⟩ rfl mRf 65 _ _ mRf (x2.heap.size) #[N9 Oa sc,N9 Oa (n:Int),N9 Oa day,Ob T,Ob L,N9 Oa id,Ob ⟨#[]⟩] mRf mRf _ _ hx_bx mKr rfl (by simp[Value.oneCell']) ⟨hset,?_⟩);replace hS:=hset;clear hset;replace hx_bx:=setRow_heap (x2.alloc (Of rootZ.cells 65)) (x2.heap.size) _ #[N9 Oa sc,N9 Oa (n:Int),N9 Oa day,Ob T,Ob L,N9 Oa id,Ob ⟨#[]⟩] _ _ hx_bx
   (try simp only[Act.put])
   simp only[dB,aZ];exact HQ.out _ _ _ _ _ _ _ _ _ _ _ _ _ hlo_bx hx_bx hS.1
  .have hlo_bx:W.heap.size<=x1.heap.size:=hS.1.size;refine bU ⟨_,_,_,_,_,_⟩ (Od (Og ⟨x1.heap.size,0,Oh⟩)) (x1.alloc (Of rootZ.cells 65)) rfl mRf (by go_simp;try rfl) ⟨KS _ (ah hS.1 (aj _ _)),?_⟩;have hb:=aj (x1) (Of rootZ.cells 65);replace hS:=KS _ (ah hS.1 hb);have hx_bx:=heap_alloc_new (x1) (Of rootZ.cells 65)
   (try clear hb)
   refine ay ?_;refine bW (bY ⟨_,_,_,_,_,_⟩ rfl mRf 128 _ _ mRf _ mRf call128 (KL.out _ hS.1) ?_);rintro x x3⟨rfl,hb⟩;replace hS:=KS _ (ah hS.1 hb);replace hx_bx:=hb.heap_of hx_bx;refine⟨_,rfl,hS,?_⟩
   (try clear hb)
   refine ay ?_;refine aW ?_;refine nD ?_;intro hset;refine bW (di ⟨_,_,_,_,_,_⟩ rfl mRf 65 _ _ mRf (x1.heap.size) #[N9 Oa sc,N9 Oa (n:Int),N9 Oa day,Ob T,Ob L,N9 Oa id,Ob ⟨#[]⟩] mRf mRf _ _ hx_bx mKr rfl (by simp[Value.oneCell']) ⟨hset,?_⟩);replace hS:=hset;clear hset;replace hx_bx:=setRow_heap x3 (x1.heap.size) _ #[N9 Oa sc,N9 Oa (n:Int),N9 Oa day,Ob T,Ob L,N9 Oa id,Ob ⟨#[]⟩] _ _ hx_bx
   (try simp only[Act.put])
   simp only[dB,aZ];exact HQ.out _ _ _ _ _ _ _ _ _ _ _ _ _ hlo_bx hx_bx hS.1
 .have hlo_bx:W.heap.size<=W.heap.size:=az _;refine bU ⟨_,_,_,_,_,_⟩ (Od (Og ⟨W.heap.size,0,Oh⟩)) (W.drew.alloc (Of rootZ.cells 65)) rfl mRf (by go_simp;try rfl) ⟨KS _ (ah hS.1 (aj _ _)),?_⟩;have hb:=aj (W.drew) (Of rootZ.cells 65);replace hS:=KS _ (ah hS.1 hb);have hx_bx:=heap_alloc_new (W.drew) (Of rootZ.cells 65);replace hx_bx:(W.drew.alloc (Of rootZ.cells 65)).heap[W.heap.size]? = Og _:=hx_bx
  (try clear hb)
  refine ay ?_;refine bW (bY ⟨_,_,_,_,_,_⟩ rfl mRf 74 _ _ mRf _ mRf call74 (KT.out _ hS.1) ?_);rintro x x4⟨rfl,hb⟩;replace hS:=KS _ (ah hS.1 hb);replace hx_bx:=hb.heap_of hx_bx;refine⟨_,rfl,hS,?_⟩
  (try clear hb)
  refine ay ?_;refine bW (bY ⟨_,_,_,_,_,_⟩ rfl mRf 128 _ _ mRf _ mRf call128 (KL.out _ hS.1) ?_);rintro x x5⟨rfl,hb⟩;replace hS:=KS _ (ah hS.1 hb);replace hx_bx:=hb.heap_of hx_bx;refine⟨_,rfl,hS,?_⟩
  (try clear hb)
  refine ay ?_;refine aW ?_;refine nD ?_;intro hset;refine bW (di ⟨_,_,_,_,_,_⟩ rfl mRf 65 _ _ mRf (W.heap.size) #[N9 Oa sc,N9 Oa (n:Int),N9 Oa day,Ob T,Ob L,N9 Oa id,Ob ⟨#[]⟩] mRf mRf _ _ hx_bx mKr rfl (by simp[Value.oneCell']) ⟨hset,?_⟩);replace hS:=hset;clear hset;replace hx_bx:=setRow_heap x5 (W.heap.size) _ #[N9 Oa sc,N9 Oa (n:Int),N9 Oa day,Ob T,Ob L,N9 Oa id,Ob ⟨#[]⟩] _ _ hx_bx
  (try simp only[Act.put])
  simp only[dB,aZ];exact HQ.out _ _ _ _ _ _ _ _ _ _ _ _ _ hlo_bx hx_bx hS.1
theorem MO{r:bH}{id:Int}{B:List aC}{l:List Ent}{day:Int}(hs:I64 r.school)(hi:I64 id)(hd:I64 day)(hl:l.length<=5000):(mkX r id B l day).Ok:=
 ⟨hs,⟨by show _<=(l.length:Int);omega,by show(l.length:Int)<=_;omega⟩,hd,hi,(by show(8:Nat)<=_;omega),(by
  show(gP B.getLast?).size<=_
  cases B.getLast? with
  | none=>exact aP _
  | some y=>show(8:Nat)<=_;omega),aP _⟩
theorem zt(g cg:Nat)(r:bH)(id:Int)(pb:Option Addr)(cb:Nat)(B:List aC)(p:Option Addr)(c:Nat)(l:List Ent)(day:Int)(w:World)(hr:ar cY w (Oc pb B.length cb) B)(hok:∀x∈B,x.Ok)(hB:B.length<=1000000)
  (hE:ar bL w (Oc p l.length c) l) (hEok:∀e∈l,e.Ok) (hll:l.length<=5000) (hk:cR w g r.keys) (hg:g<w.heap.size) (hl:r.keys.length<=1000) (hsz:∀k∈r.keys,k.secret.size<=100000) (hs:I64 r.school) (hi:I64 id) (hd:I64 day) :
  Calls prog 73 #[.agg #[N9 Oa r.school,Oc (Og ⟨g,0,Oh⟩) r.keys.length cg],N9 Oa id,Oc pb B.length cb,Oc p l.length c,N9 Oa day] w fun e w'=>e=Oe (.tuple #[(mkR r id B l day).1.val,N9 Oa (mkR r id B l day).2])/\ac w.heap.size w w':=by
 have hxo:=MO (B:=B) hs hi hd hll;have km:=fun u (hb:ac w.heap.size w u)=>LU g cg r pb cb B p c l day u (hr.below hb) hok hB (hE.below hb) hEok hll (hk.below hb hg) (ax hg hb.size) hl hsz hs
 have kt:=fun u (hb:ac w.heap.size w u)=>vZ l hEok p c u (hE.below hb) hll
 have kl:=fun u (hb:ac w.heap.size w u)=>xI pb cb B u (hr.below hb) hok hB
 have kb:=fun u=>nO (mkX r id B l day) hxo u
 have hbz:=mF (mkX r id B l day) hxo;have ks:=fun u (hb:ac w.heap.size w u)=>tj g cg r.school r.keys id (bJ (mkX r id B l day)) u hl (hk.below hb hg) hsz (ax hg hb.size) hs hi mOm
 have kv:=fun u (hb:ac w.heap.size w u)=>vM g cg r id (bJ (mkX r id B l day)) (eC r.keys r.school id (bJ (mkX r id B l day))).1 day day u hl (hk.below hb hg) hsz (ax hg hb.size) hs hi mOm
 have HV:=aa (show mkR r id B l day=if kY r B l day≠0 then (rootZ,kY r B l day)
 else if (eC r.keys r.school id (bJ (mkX r id B l day))).2≠0 then (rootZ,(eC r.keys r.school id (bJ (mkX r id B l day))).2)
 else if eu r id (bJ (mkX r id B l day)) (eC r.keys r.school id (bJ (mkX r id B l day))).1 day day≠0 then (rootZ,eu r id (bJ (mkX r id B l day)) (eC r.keys r.school id (bJ (mkX r id B l day))).1 day day)
 else ({ mkX r id B l day with mark:=(eC r.keys r.school id (bJ (mkX r id B l day))).1 },0) from rfl)
 have HX:Hid (∀m:ByteArray,({ mkX r id B l day with mark:=m }:aC)=⟨r.school,l.length,day,jV l,gP B.getLast?,id,m⟩):=aa (fun _=>rfl)
 have hxv:(mkX r id B l day).val=.agg #[N9 Oa r.school,N9 Oa (l.length:Int),N9 Oa day,Ob (jV l),Ob (gP B.getLast?),N9 Oa id,Ob ⟨#[]⟩]:=rfl;rw[hxv] at kb;generalize mkR r id B l day=V at *;generalize kY r B l day=ME at *;generalize eu r id (bJ (mkX r id B l day)) (eC r.keys r.school id (bJ (mkX r id B l day))).1 day day=VV at *;generalize (eC r.keys r.school id (bJ (mkX r id B l day))).1=MK at *;generalize (eC r.keys r.school id (bJ (mkX r id B l day))).2=SE at *;generalize bJ (mkX r id B l day)=BD at *;generalize hMX:mkX r id B l day=MX at *;clear hMX hxo hxv hbz;generalize jV l=TB at *;generalize gP B.getLast? = LB at *;have hb0:=ah (aj w (Of #[N9 Oa r.school,Oc (Og ⟨g,0,Oh⟩) r.keys.length cg] 33)) (aj _ (Of #[N9 Oa 0,N9 Oa 0,N9 Oa 0,Ob ⟨#[]⟩,Ob ⟨#[]⟩,N9 Oa 0,Ob ⟨#[]⟩] 65));have hh2:=heap_alloc_new (w.alloc (Of #[N9 Oa r.school,Oc (Og ⟨g,0,Oh⟩) r.keys.length cg] 33)) (Of #[N9 Oa 0,N9 Oa 0,N9 Oa 0,Ob ⟨#[]⟩,Ob ⟨#[]⟩,N9 Oa 0,Ob ⟨#[]⟩] 65);have hh1:=eR (heap_alloc_new w (Of #[N9 Oa r.school,Oc (Og ⟨g,0,Oh⟩) r.keys.length cg] 33)) (Of #[N9 Oa 0,N9 Oa 0,N9 Oa 0,Ob ⟨#[]⟩,Ob ⟨#[]⟩,N9 Oa 0,Ob ⟨#[]⟩] 65);rw[size_alloc] at hh2;have km0:=km _ hb0;have KT:=aa kt;have KL:=aa kl;have KB:=aa kb;have KSG:=aa ks;have KV:=aa kv;clear km kt kl kb ks kv hk hsz hr hok hE hEok;go_enter func73,ntmps73;go_wp2_with fail;refine km0.mono ?_;rintro _ w1⟨rfl,hb1⟩;have hbw:=ah hb0 hb1;have e1:=hb1.heap_of hh1;have e2:=hb1.heap_of hh2;clear km0 hb1 hh1 hh2 hb0;by_cases h0:ME=0
 rotate_left 1
 .have t1:(ME != 0)=true:=by rw[bne_iff_ne];exact h0
  have HV2:Hid (V=(rootZ,ME)):=aa (by rw[HV.out,if_pos h0]);clear HV h0 e1;go_wp2_with ((with_reducible refine wpList_store_row (o:=⟨Oh,.store 65 (.tmp 10) (.tmp 22),_,_,_,_⟩) ?_ 65 (.tmp 10) (.tmp 22) ?_ (w.heap.size+1) #[N9 Oa 0,N9 Oa 0,N9 Oa 0,Ob ⟨#[]⟩,Ob ⟨#[]⟩,N9 Oa 0,Ob ⟨#[]⟩] ?_ ?_ 65 #[N9 Oa 0,N9 Oa 0,N9 Oa 0,Ob ⟨#[]⟩,Ob ⟨#[]⟩,N9 Oa 0,Ob ⟨#[]⟩] ?_ ?_ ?_ ?_ ?_);rfl;rfl;rfl;rfl;exact e2;kernel_rfl;rfl;simp[Value.oneCell'])
  (try simp only[Exit.inBlock,Exit.then]);refine bodyPost_ret (kF results73 _ _ (w.heap.size+1) rootZ rfl (setRow_heap _ _ _ _ _ _ e2)) rfl ⟨?_,?_⟩
  .rw[HV2.out];rfl
  .exact bu hbw mOm _
 subst h0
 have HV2:=aa (HV.out.trans (if_neg (fun h=>h rfl)));clear HV
 go_upto_region 4 with fail
 refine Nw w.heap.size B.length cb l.length c pb p r.school id day TB LB _ _ (ae e1 0) (av e1) (fun u hu=>KT.out u (ah hbw hu)) (fun u hu=>KL.out u (ah hbw hu)) ?_
 intros
 rename_i w4 bx hlo hbx hb4
 have hbw4:=ah hbw hb4
 have f1:=hb4.heap_of e1;have f2:=hb4.heap_of e2;have hbxl:w.heap.size<=bx:=Nat.le_trans hbw.size hlo;have hne:bx≠w.heap.size+1:=by have:=av e2;omega
 have hne0:bx≠w.heap.size:=by have:=av e1;omega
 have hS0:ac w.heap.size w w4/\(w.heap.size<w4.heap.size/\bx<w4.heap.size)/\(∀j,w4.cell? ⟨w.heap.size,j,Oh⟩=(#[N9 Oa r.school,Oc (Og ⟨g,0,Oh⟩) r.keys.length cg]:Array Value)[j]?)/\(∀j,w4.cell? ⟨bx,j,Oh⟩=(#[N9 Oa r.school,N9 Oa (l.length:Int),N9 Oa day,Ob TB,Ob LB,N9 Oa id,Ob ⟨#[]⟩]:Array Value)[j]?):=⟨hbw4,⟨av f1,av hbx⟩,ae f1,ae hbx⟩;have hS1:=cm hS0 (Below.refl _ w4).drew;have hbl4:=hbw4.size;have hxl4:=av hbx;have F1:=aO.mk f1;have F2:=aO.mk f2;have FX:=aO.mk hbx;clear e1 e2 f1 f2 hbx hb4 hbw hlo hS0
 go_upto_region 5 with fail
 refine aD (S:=fun u=>ac w.heap.size w u/\(w.heap.size<u.heap.size/\bx<u.heap.size)/\(∀j,u.cell? ⟨w.heap.size,j,Oh⟩=(#[N9 Oa r.school,Oc (Og ⟨g,0,Oh⟩) r.keys.length cg]:Array Value)[j]?)/\(∀j,u.cell? ⟨bx,j,Oh⟩=(#[N9 Oa r.school,N9 Oa (l.length:Int),N9 Oa day,Ob TB,Ob LB,N9 Oa id,Ob ⟨#[]⟩]:Array Value)[j]?)) [(0,true),(1,true),(2,true),(3,false),(4,false),(5,true),(6,true),(7,true),(8,true),(9,true)] hS1 ?_;have hS:=hS1
 iterate 3 refine ak ?_
 refine aJ 130 call130 (KB.out _) ?_;rintro x wn⟨rfl,hb⟩;replace hS:=cm hS hb;have hbd:=ah (Below.refl _ w4).drew hb;refine⟨_,rfl,hS,?_⟩;(try clear hb);refine ay ?_;refine aJ 129 call129 (KSG.out _ hS.1) ?_;rintro x wn⟨rfl,hb⟩;replace hS:=cm hS hb;replace hbd:=ah hbd hb;refine⟨_,rfl,hS,?_⟩;(try clear hb);refine ay ?_
 iterate 5 refine ak ?_
 simp only[aQ,aZ];have hbw5:=hS.1;have F1:=aO.mk (hbd.heap_of F1.is);have F2:=aO.mk (hbd.heap_of F2.is);have FX:=aO.mk (hbd.heap_of FX.is);have hbl5:=hbw5.size;have hS2:=cm hS (Below.refl _ _).drew;clear hS1 hbd hS;by_cases h1:SE=0
 rotate_left 1
 .have t1:(SE != 0)=true:=by rw[bne_iff_ne];exact h1
  have HV3:Hid (V=(rootZ,SE)):=aa (by rw[HV2.out,if_pos h1]);have e2:=F2.is;clear HV2 h1 F1 F2 FX hS2;go_wp2_with ((with_reducible refine wpList_store_row (o:=⟨Oh,.store 65 (.tmp 10) (.tmp 45),_,_,_,_⟩) ?_ 65 (.tmp 10) (.tmp 45) ?_ (w.heap.size+1) #[N9 Oa 0,N9 Oa 0,N9 Oa 0,Ob ⟨#[]⟩,Ob ⟨#[]⟩,N9 Oa 0,Ob ⟨#[]⟩] ?_ ?_ 65 #[N9 Oa 0,N9 Oa 0,N9 Oa 0,Ob ⟨#[]⟩,Ob ⟨#[]⟩,N9 Oa 0,Ob ⟨#[]⟩] ?_ ?_ ?_ ?_ ?_);rfl;rfl;rfl;rfl;exact e2;kernel_rfl;rfl;simp[Value.oneCell'])
  (try simp only[Exit.inBlock,Exit.then]);refine bodyPost_ret (kF results73 _ _ (w.heap.size+1) rootZ rfl (setRow_heap _ _ _ _ _ _ e2)) rfl ⟨?_,?_⟩
  .rw[HV3.out];rfl
  .exact bu hbw5 mOm _
 subst h1
 have HV3:=aa (HV2.out.trans (if_neg (fun h=>h rfl)));clear HV2;go_wp2_with fail;refine aD (S:=fun u=>ac w.heap.size w u/\(w.heap.size<u.heap.size/\bx<u.heap.size)/\(∀j,u.cell? ⟨w.heap.size,j,Oh⟩=(#[N9 Oa r.school,Oc (Og ⟨g,0,Oh⟩) r.keys.length cg]:Array Value)[j]?)/\(∀j,u.cell? ⟨bx,j,Oh⟩=(#[N9 Oa r.school,N9 Oa (l.length:Int),N9 Oa day,Ob TB,Ob LB,N9 Oa id,Ob ⟨#[]⟩]:Array Value)[j]?)) [(0,true),(1,true),(2,true),(4,true),(5,true),(6,true),(3,false),(7,false),(8,true)] hS2 ?_;have hS:=hS2
 iterate 6 refine ak ?_
 refine aJ 130 call130 (KB.out _) ?_;rintro x wn⟨rfl,hb⟩;replace hS:=cm hS hb;have hbd:=ah (Below.refl _ _).drew hb;refine⟨_,rfl,hS,?_⟩;(try clear hb);refine ay ?_;refine aJ 45 call45 (KV.out _ hS.1) ?_;rintro x wn⟨rfl,hb⟩;replace hS:=cm hS hb;replace hbd:=ah hbd hb;refine⟨_,rfl,hS,?_⟩;(try clear hb);refine ay ?_;refine ak ?_;simp only[aQ,aZ];have hbw6:=hS.1;have F2:=aO.mk (hbd.heap_of F2.is);have FX:=aO.mk (hbd.heap_of FX.is);have hbl6:=hbw6.size;clear hS2 hbd hS F1;by_cases h2:VV=0
 rotate_left 1
 .have t1:(VV != 0)=true:=by rw[bne_iff_ne];exact h2
  have HV4:Hid (V=(rootZ,VV)):=aa (by rw[HV3.out,if_pos h2]);have e2:=F2.is;clear HV3 h2 F2 FX;go_wp2_with ((with_reducible refine wpList_store_row (o:=⟨Oh,.store 65 (.tmp 10) (.tmp 57),_,_,_,_⟩) ?_ 65 (.tmp 10) (.tmp 57) ?_ (w.heap.size+1) #[N9 Oa 0,N9 Oa 0,N9 Oa 0,Ob ⟨#[]⟩,Ob ⟨#[]⟩,N9 Oa 0,Ob ⟨#[]⟩] ?_ ?_ 65 #[N9 Oa 0,N9 Oa 0,N9 Oa 0,Ob ⟨#[]⟩,Ob ⟨#[]⟩,N9 Oa 0,Ob ⟨#[]⟩] ?_ ?_ ?_ ?_ ?_);rfl;rfl;rfl;rfl;exact e2;kernel_rfl;rfl;simp[Value.oneCell'])
  (try simp only[Exit.inBlock,Exit.then]);refine bodyPost_ret (kF results73 _ _ (w.heap.size+1) rootZ rfl (setRow_heap _ _ _ _ _ _ e2)) rfl ⟨?_,?_⟩
  .rw[HV4.out];rfl
  .exact bu hbw6 mOm _
 subst h2
 have HV4:=aa ((HV3.out.trans (if_neg (fun h=>h rfl))).trans (by rw[HX.out]));clear HV3 HX;have c6:=ae FX.is 6;have g6:=aE FX.is 6
 go_upto_region 12 with fail
 have hset:=aF.set (S:=fun q=>q=bx) wn rfl 6 (Ob MK);have hb7:ac w.heap.size w (wn.setCell ⟨bx,6,Oh⟩ (Ob MK)):=hbw6.trans (hset.below (fun q hq e=>by subst e;omega) hbl6);have e2:(wn.setCell ⟨bx,6,Oh⟩ (Ob MK)).heap[w.heap.size+1]? = _:=(dA hne 6 (Ob MK)).trans F2.is;have ex:=bj FX.is 6 (Ob MK);obtain⟨w7,hw7⟩:∃u,u=wn.setCell ⟨bx,6,Oh⟩ (Ob MK):=⟨_,rfl⟩;rw[<-hw7] at hb7 e2 ex |-;have z0:w7.cell? ⟨bx,0,Oh⟩=Og (N9 Oa r.school):=ae ex 0;have z1:w7.cell? ⟨bx,1,Oh⟩=Og (N9 Oa (l.length:Int)):=ae ex 1;have z2:w7.cell? ⟨bx,2,Oh⟩=Og (N9 Oa day):=ae ex 2;have z3:w7.cell? ⟨bx,3,Oh⟩=Og (Ob TB):=ae ex 3;have z4:w7.cell? ⟨bx,4,Oh⟩=Og (Ob LB):=ae ex 4;have z5:w7.cell? ⟨bx,5,Oh⟩=Og (N9 Oa id):=ae ex 5;have z6:w7.cell? ⟨bx,6,Oh⟩=Og (Ob MK):=ae ex 6;clear c6 g6 hset hw7 ex F2 FX hbw6 hbl6;go_wp2_with ((with_reducible refine wpList_store_row (o:=⟨Oh,.store 65 (.tmp 10) (.tmp 61),_,_,_,_⟩) ?_ 65 (.tmp 10) (.tmp 61) ?_ (w.heap.size+1) #[N9 Oa r.school,N9 Oa (l.length:Int),N9 Oa day,Ob TB,Ob LB,N9 Oa id,Ob MK] ?_ ?_ 65 #[N9 Oa 0,N9 Oa 0,N9 Oa 0,Ob ⟨#[]⟩,Ob ⟨#[]⟩,N9 Oa 0,Ob ⟨#[]⟩] ?_ ?_ ?_ ?_ ?_);rfl;rfl;rfl;rfl;exact e2;kernel_rfl;rfl;simp[Value.oneCell'])
 (try simp only[Exit.inBlock,Exit.then]);refine bodyPost_ret (kF results73 _ _ (w.heap.size+1) ⟨r.school,l.length,day,TB,LB,id,MK⟩ rfl (setRow_heap _ _ _ _ _ _ e2)) rfl ⟨?_,?_⟩
 .rw[HV4.out];rfl
 .exact bu hb7 mOm _
end
section
attribute [local go_sem ↓] mq mr
attribute [local go_sem] aC.cells
theorem MN{r:bH}{id:Int}{B:List aC}{l:List Ent}{day:Int}(h:(mkR r id B l day).2=0) :
  kY r B l day=0/\(mkR r id B l day).1=⟨r.school,l.length,day,jV l,gP B.getLast?,id,(mkR r id B l day).1.mark⟩/\(mkR r id B l day).1.mark.size=8/\eu r id (bJ (mkX r id B l day)) (mkR r id B l day).1.mark day day=0:=by
 unfold mkR at h |-;by_cases h1:kY r B l day=0
 rotate_left 1
 .rw[if_pos h1] at h;exact absurd h h1
 rw[if_neg (fun hn=>hn h1)] at h |-
 by_cases h2:(eC r.keys r.school id (bJ (mkX r id B l day))).2=0
 rotate_left 1
 .rw[if_pos h2] at h;exact absurd h h2
 rw[if_neg (fun hn=>hn h2)] at h |-
 by_cases h3:eu r id (bJ (mkX r id B l day)) (eC r.keys r.school id (bJ (mkX r id B l day))).1 day day=0
 rotate_left 1
 .rw[if_pos h3] at h;exact absurd h h3
 rw[if_neg (fun hn=>hn h3)]
 refine⟨h1,rfl,?_,h3⟩
 show(eC r.keys r.school id (bJ (mkX r id B l day))).1.size=8
 unfold eC at h2 |-
 split
 .rfl
 .rename_i hk
  rw[hk] at h2;cases h2
theorem MJ{r:bH}{B:List aC}{l:List Ent}{day:Int}(h:kY r B l day=0) :
  cK r B=0/\B.length<200/\l.length<=2000/\(∀e∈l,e.school=r.school/\e.day<=day)/\au day 0 100000=true/\∀y,B.getLast? = Og y->y.size<=l.length/\y.day<day:=by
 unfold kY at h;by_cases h1:cK r B=0
 rotate_left 1
 .rw[if_pos h1] at h;exact absurd h h1
 rw[if_neg (fun hn=>hn h1)] at h
 split at h;· cases h
 rename_i h2
 split at h;· cases h
 rename_i h3
 split at h;· cases h
 rename_i h4
 split at h;· cases h
 rename_i h5
 refine⟨h1,mOm,mOm,fun e he=>⟨?_,?_⟩,by simpa using h4,fun y hy=>?_⟩
 .refine Classical.byContradiction fun hn=>h3 (iK.2 ⟨e,he,?_⟩)
  rw[beq_eq_false_iff_ne.2 hn];rfl
 .refine Classical.byContradiction fun hn=>h5 (iK.2 ⟨e,he,decide_eq_true mOm⟩)
 .rw[hy] at h;simp only at h
  split at h;· cases h
  rename_i h6
  omega
structure jW (r:bH) (l:List Ent) (R:List aC):Prop where
 few:R.length<=6
 err:dE r Oh R=0
 ring:R ≠ []->et r=0
 each:∀y∈R,y.Ok/\y.school=r.school/\∃m:Nat,m<=l.length/\m<=2000/\y.size=m/\y.tree=jV (l.take m)/\∀e∈l.take m,e.school=r.school/\e.day<=y.day
theorem jW.nil(r:bH)(l:List Ent):jW r l []:=⟨aP _,rfl,fun h=>absurd rfl h,fun y hy=>by cases hy⟩
theorem jW.snoc{r:bH}{l:List Ent}{R:List aC}{m:Nat}{id day:Int}(h:jW r l R)(hR:R.length<=5)(hm:m<=l.length)(_hl:l.length<=5000)(hs:I64 r.school)(hi:I64 id)(h0:(mkR r id R (l.take m) day).2=0):jW r l (R++[(mkR r id R (l.take m) day).1]):=by
 obtain⟨h1,h2,h3,h4⟩:=MN h0;obtain⟨g1,g2,g3,g4,g5,g6⟩:=MJ h1;have hlen:(l.take m).length=m:=by rw[List.length_take];omega
 have hday:=between_iff.1 g5;rw[hlen] at h2 g3;generalize (mkR r id R (l.take m) day).1.mark=mk at *;rw[h2];refine⟨by rw[ap];simp only[List.length_singleton];omega,?_,fun _=>zA g1,fun y hy=>?_⟩
 .have hre:eF r R.getLast? ⟨r.school,(m:Int),day,jV (l.take m),gP R.getLast?,id,mk⟩=0:=by
   unfold eF;rw[if_neg (fun hn=>hn rfl),if_neg (by rw[between_iff.2 ⟨by show(0:Int)<=(m:Int);omega,by show(m:Int)<=2000;omega⟩];decide),if_neg (by show ¬au day 0 100000=false;rw[g5];decide),if_neg,if_neg]
   .have hb9:bJ (mkX r id R (l.take m) day)=bJ ⟨r.school,(m:Int),day,jV (l.take m),gP R.getLast?,id,mk⟩:=by
     unfold bJ lX mkX;simp only[hlen]
    rw[hb9] at h4
    exact h4
   .intro hn;rcases hn with hn|hn
    .exact hn rfl
    .exact hn rfl
   .show ¬jI R.getLast? (m:Int) day
    unfold jI
    cases hg:R.getLast? with
    | none=>exact fun hf=>hf
    | some y =>
     have:=g6 y hg;rw[hlen] at this
     show ¬((m:Int)<y.size\/day<=y.day)
     omega
  refine vR r Oh R _ h.err ?_
  revert hre
  cases R.getLast? <;> exact fun h=>h
 .rcases bI.1 hy with hy|hy
  .exact h.each y hy
  .obtain rfl:=bE.1 hy;refine⟨⟨hs,⟨by show _<=(m:Int);omega,by show(m:Int)<=_;omega⟩,⟨by show _<=day;omega,by show day<=_;omega⟩,hi,(by show(8:Nat)<=_;omega),?_,by show mk.size<=_;omega⟩,rfl,m,hm,g3,rfl,rfl,g4⟩
   show(gP R.getLast?).size<=_
   cases R.getLast? with
   | none=>exact aP _
   | some y=>show(8:Nat)<=_;omega
end
section
def nI(ks:List TE):List Value:=ks.flatMap fun r=>r.1.cells.toList
theorem xX:∀ks:List TE,nI ks=aN bL (ks.map Prod.fst)
 | []=>rfl
 | k::ks=>by
  show k.1.cells.toList++nI ks=_
  rw[xX ks]
  rfl
theorem JO(L:List Ent):nI L.zipIdx=aN bL L:=by rw[xX,List.zipIdx_map_fst]
theorem oq(ks:List TE):(nI ks).length=ks.length*15:=by
 induction ks with
 | nil=>rfl
 | cons r l ih =>
  show(r.1.cells.toList++nI l).length=_
  rw[ap,ih]
  show 15+_=_
  simp only[List.length_cons];omega
theorem Cv:∀(ks:List TE)(t:Nat),(nI ks)[t]? = (ks[t / 15]?).bind (fun r=>r.1.cells.toList[t%15]?)
 | [],t=>by simp[nI]
 | r::l,t=>by
  show(r.1.cells.toList++nI l)[t]? = _
  have h15:r.1.cells.toList.length=15:=rfl
  by_cases ht:t<15
  .rw[bR mOm,show t / 15=0 by omega,show t%15=t by omega];rfl
  .rw[List.getElem?_append_right mOm,h15,Cv l (t-15),show t / 15=(t-15) / 15+1 by omega,show t%15=(t-15)%15 by omega];rfl
theorem CE(ks:List TE):flatK iT 15 ks.toArray=(nI ks).toArray:=by
 apply Array.ext
 .simp[oq]
 .intro t h1 h2;have hl:t<ks.length*15:=by simpa using h1
  have hk:t / 15<ks.length:=mOm;have hg:=Cv ks t;rw[ai hk,ai (by rw[oq];exact hl)] at hg;simp only[Option.bind_some] at hg;have h15:t%15<(ks[t / 15]).1.cells.toList.length:=by show t%15<15;omega
  rw[ai h15] at hg;simp only[Option.some.injEq] at hg;have h3:(flatK iT 15 ks.toArray)[t]=(iT ks.toArray[t / 15]!)[t%15]!:=by
   have:=get_flatK iT 15 ks.toArray t (by simpa using hl)
   rwa [getElem!_pos _ t h1] at this
  rw[h3]
  simp only[List.getElem_toArray];rw[hg,getElem!_pos ks.toArray (t / 15) (by simpa using hk)];simp only[List.getElem_toArray,iT];rw[getElem!_pos _ (t%15) h15]
theorem Ge{w:World}{g:Nat}{cur:Array Value}{e:TypeId}{ks:List TE}(hb:w.heap[g]? = Og (Of cur e (0,0)))(ht:cur.toList.take (ks.length*15)=nI ks):HoldsK iT 15 w g 0 ks.toArray:=by
 unfold HoldsK;rw[CE];intro j hj;have hj':j<(nI ks).length:=by simpa using hj
 have hj15:j<ks.length*15:=by rwa [oq] at hj'
 refine⟨?_,by simp[World.frozen?,hb]⟩;have h1:(cur.toList.take (ks.length*15))[j]? = (nI ks)[j]?:=by rw[ht]
 rw[dN hj15] at h1;simp only[World.cell?,hb,Nat.zero_add];simp only[Option.isSome_none,Bool.false_eq_true,if_false];rw[<-gK,h1,ai hj',getElem!_pos _ j hj];simp
theorem I6(cur:Array Value)(xs:List Value)(h:xs.length<=cur.size):(putCells id 0 xs.toArray cur).toList.take xs.length=xs:=by
 apply List.ext_getElem?;intro j;by_cases hj:j<xs.length
 .rw[dN hj,gK];simp[putCells,hj,show j<cur.size by omega]
 .rw[List.getElem?_take_eq_none mOm,List.getElem?_eq_none mOm]
theorem DP{w:World}{g n:Nat}{os:Array Obj}{cur:Array Value}{e:TypeId}{fr:Nat×Nat}(ts:List TE)(hb:w.heap[g]? = Og (Of cur e fr)) :
  (sortWorldK iT 15 w g 0 n ts.toArray os).heap[g]? = Og (Of (putCells id 0 (nI ts).toArray cur) e fr):=by
 have hg:g<w.heap.size:=(Array.getElem?_eq_some_iff.1 hb).1;unfold sortWorldK putRowK;rw[CE,heap_grow_old _ _ (by simpa using hg)];simp[putRow,mapBlock,Sort.ahead,eJ,hb,onCells]
theorem Ak{w:World}{g n:Nat}{os:Array Obj}(d:Array TE):w.grownBy (sortWorldK iT 15 w g 0 n d os) (Og g):=by
 unfold sortWorldK putRowK;refine⟨rfl,rfl,rfl,mSi,fun k hk hne=>?_⟩;rw[heap_grow_old _ _ (by simpa using hk)];have:g≠k:=fun e=>hne (by rw[e])
 simp[putRow,mapBlock,Sort.ahead,eJ,this]
theorem Ap{w:World}{base g cap n:Nat}{e:TypeId}{os:Array Obj}{cur:Array Value}{ks ts:List TE}(hl:ts.length=ks.length)(hbase:base<=g)(hb:w.heap[g]? = Og (Of cur e (0,0)))
  (h1:ks.length<=cap) (h2:cap<=maxLen) (h3:cur.size=cap*15) :
  (sortWorldK iT 15 w g 0 n ts.toArray os).ownsRow base e 15 (Oc (Og ⟨g,0,Oh⟩) ks.length cap) ks.length (nI ts):=
 ⟨by rw[oq,hl],.inr ⟨g,cap,_,rfl,hbase,DP _ hb,h1,h2,by simp[putCells,h3],by rw[<-hl,<-oq];exact I6 cur _ (by rw[oq];omega)⟩⟩
theorem J7(p:Option Addr)(cap:Nat)(W:World) :
  Calls prog 178 #[Oc p 0 cap,N9 Oa 0,N9 Oa (0:Nat),.func (.func 50) #[] #[]] W fun e w'=>e=Oe (.tuple #[])/\w'=W:=by
 go_enter func178,ntmps178;go_wp2_with fail;refine wp_loop_rounds 1 ?_;rw[rounds_succ];go_wp2_with fail;exact⟨rfl,_,results_none rfl _ _ _,rfl,rfl⟩
theorem KQ(w0 w:World)(v:Value)(L:List Ent)(h:bz bL 15 67 w0 w v L)(hl:L.length<=19) :
  Calls prog 49 #[v,.func (.func 50) #[] #[]] w fun e w'=>e=Oe (.tuple #[])/\∃L',L'.length=L.length/\BrS Ent.id L L'/\bz bL 15 67 w0 w' v L'/\aF (fun q=>v.ownBlock=Og q) w w':=by
 have hown:=h.own;rcases hown.2 with ⟨rfl,h0⟩|⟨g,cap,cur,rfl,hbase,hgb,h1,h2,h3,h4⟩
 .obtain rfl:=bn h0;exact(zK Oh 0 0 w (fun w'=>w'=w) mOm (J7 Oh 0 w)).mono fun e w' ⟨he,hw⟩=>⟨he,[],rfl,BrS.nil,by rw[hw];exact h,by rw[hw];exact aF.refl _ _⟩
 .have hH:HoldsK iT 15 w g 0 (aK L.zipIdx):=Ge hgb (by rw[iz,h4,JO]);have hgl:g<w.heap.size:=aG hgb;refine(KO g cap L w hH hgl hl).mono ?_;rintro e w'⟨rfl,k,os,ts,rfl,hp,hs⟩;have hlen:ts.length=L.length:=by rw[hp.length_eq,iz]
  have hlm:(ts.map Prod.fst).length=L.length:=by rw[List.length_map,hlen]
  have hgr:w.grownBy (sortWorldK iT 15 w g 0 k ts.toArray os) (Og g):=Ak _;have hbt:aF (fun q=>(Value.slice (Og ⟨g,0,Oh⟩) L.length cap).ownBlock=Og q) w (sortWorldK iT 15 w g 0 k ts.toArray os):=aF.grown hgr;have how:=Ap (base:=w0.heap.size) (n:=k) (os:=os) (ks:=L.zipIdx) (ts:=ts) (by rw[hlen,iz]) hbase hgb (by rw[iz];exact h1) h2 h3;rw[iz,xX] at how;refine⟨rfl,ts.map Prod.fst,hlm,BrS.of hp hs,⟨⟨_,_,by rw[hlm]⟩,by rw[hlm];exact how,h.low.trans (hbt.below (fun q hq e=>by have e:g=q:=Option.some.inj e;omega) h.low.size)⟩,hbt⟩
end
section
def tg(L:List bT):Prop:=∃y∈L,y.body.toList=[]
theorem DR(p:Option Addr)(c:Nat)(L:List bT)(w:World)(h:ar fX w (Oc p L.length c) L)(hl:L.length<=100000) :
  Calls prog 111 #[Oc p L.length c,.func (.func 47) #[] #[]] w fun e w'=>∃k:Int,e=Oe (N9 Oa k)/\(0<=k↔tg L)/\ac w.heap.size w w':=by
 have HL:=aa h;clear h;go_enter func111,ntmps111;go_wp2_with fail
 go_loopw [8] (fun i wr=>∃j:Nat,j<=L.length/\i=N9 Oa j/\ac w.heap.size w wr/\Hid (∀y∈L.take j,y.body.toList ≠ [])) (fun i _=>L.length-(aw i).toNat)
 case atStart=>exact⟨0,aP _,rfl,Below.refl _ _,aa (fun y hy=>by cases hy)⟩
 case round =>
  obtain⟨j,hj,rfl,hb,HN⟩:=hrel;by_cases hlt:j<L.length
  .obtain⟨g,o,hp,hg,hr⟩:=dh (kk:=3) HL.out (fun _=>rfl) rfl mOm;have hge:=ai hlt;have hrx:=hr j _ hge;have HT:Hid (L.take (j+1)=L.take j++[L[j]]):=aa (by rw[List.take_add_one,hge];rfl);have HM:Hid (L[j]∈L):=aa (List.getElem_mem hlt);generalize L[j]=y at *;have kh:=Gd y wr;obtain⟨yk,yh,yb⟩:=y;have z0:wr.cell? ⟨g,o+j*3,Oh⟩=Og (Ob yk):=(hb.cell (p:=⟨g,o+j*3,Oh⟩) hg).trans (hrx 0 _ rfl);have z1:wr.cell? ⟨g,o+j*3+1,Oh⟩=Og (Ob yh):=(hb.cell (p:=⟨g,o+j*3+1,Oh⟩) hg).trans (hrx 1 _ rfl);have z2:wr.cell? ⟨g,o+j*3+2,Oh⟩=Og (Ob yb):=(hb.cell (p:=⟨g,o+j*3+2,Oh⟩) hg).trans (hrx 2 _ rfl);have i1:(j:Int)<(L.length:Int):=mOm;have i2:(0:Int)<=(j:Int):=mOm;subst hp;clear hr hrx hge;obtain⟨bt,hbt⟩:∃b,yb.toList.isEmpty=b:=⟨_,rfl⟩;simp only at kh;rw[hbt] at kh;have HBT:=aa hbt;clear hbt;have HB:=aa hb;clear hb;go_wp2_with fail;refine kh.mono ?_;clear kh;rintro _ w5⟨rfl,hb5⟩;have HB5:=aa (ah HB.out hb5);clear hb5 z0 z1 z2
   cases bt
   .have HN2:Hid (∀y∈L.take (j+1),y.body.toList ≠ []):=aa (by
     rw[HT.out];intro y hy;rcases bI.1 hy with hy|hy
     .exact HN.out y hy
     .rw[bE.1 hy];intro e;have:=HBT.out;rw[show yb.toList=[] from e] at this
      cases this)
    go_wp2_with fail
    go_roundw
    case rel=>exact⟨j+1,mOm,by go_num,HB5.out,HN2⟩
    case measure=>simp[aw];omega
   .go_wp2_with fail;go_ret;refine⟨(j:Int),rfl,⟨fun _=>⟨_,HM.out,?_⟩,fun _=>by omega⟩,HB5.out⟩;exact List.isEmpty_iff.1 HBT.out
  .obtain rfl:j=L.length:=mOm;have i1:¬(L.length:Int)<(L.length:Int):=mOm;have HB:=aa hb;clear hb;go_wp2_with fail;go_ret;refine⟨-1,rfl,⟨fun h=>absurd h mDe,fun ⟨y,hy,he⟩=>?_⟩,HB.out⟩;have:=HN.out y (by rw[List.take_length];exact hy);exact absurd he this
theorem Aa(p:Option Addr)(c:Nat)(L:List bT)(w:World)(h:ar fX w (Oc p L.length c) L)(hl:L.length<=100000) :
  Calls prog 46 #[Oc p L.length c,.func (.func 47) #[] #[]] w (mf (tg L) w):=by
 have ki:=DR p c L w h hl;have HP:=aa (fun (e:Ending) (w':World) (h:∃b:Bool,e=Oe (.bool b)/\(b=true↔tg L)/\ac w.heap.size w w')=>(show mf (tg L) w e w' from h));clear h;go_enter func46,ntmps46;go_wp2_with fail;refine ki.mono ?_;clear ki;rintro _ w1⟨k,rfl,hk,hb⟩;have HK:=aa hk;clear hk;by_cases h0:0<=k
 .have t1:decide ((0:Int)<=k)=true:=decide_eq_true h0;go_wp2_with fail;go_ret;exact HP.out _ _ ⟨true,mSi,⟨fun _=>HK.out.1 h0,fun _=>rfl⟩,hb⟩
 .have t1:decide ((0:Int)<=k)=false:=decide_eq_false h0;go_wp2_with fail;go_ret;exact HP.out _ _ ⟨false,mSi,⟨fun h=>(nomatch h),fun h=>absurd (HK.out.2 h) mOm⟩,hb⟩
end
section
variable {s0 s1 s2 s3 s4 s5 s6 s7 s8 s9 a0 a1 a2 bm a3 a4 a5 a6 a7 a8 a9 ab ad af ag ao b0 b1 b2 b3 b4 b5 b6 b7 b8 b9 ba bb bc bd be bo bp bq br bs bv c0 c1 c2 c3 c4 bf bg bh bk:Value}
theorem bz.boxW{α:Type}{enc:α->List Value}{k:Nat}{e:TypeId}{w0 u w:World}{v:Value}{M:List α}(h:bz enc k e u w v M)(h0:ac w0.heap.size w0 u){b:Nat}(hb:w0.heap.size<=b)(hne:∀q,v.ownBlock=Og q->q≠b)(cs:Array Value):bz enc k e w0 (w.setRow b cs) v M:=
 (h.from_ h0).box hb hne cs
theorem nZ{p:Prop} (h:p:=by
 replace hOC:=hOC.boxW HBU.out hlo_bx hne_hOC_bx #[N9 Oa xs,N9 Oa xt,N9 Oa xr,Oc p M.length c]
 (try simp only[Act.put])
 simp only[dB,aZ]
 exact HQ.out _ _ _ _ _ _ _ _ _ _ _ _ _ _ _ _ hM hOC hlo_bx hx_bx hne_hOC_bx hS.1):p:=h
theorem nA{p q:Prop}(h:q) (f:Wq q->p:=by
 intro hq;have hset:=KS _ (bu hS.1 hlo_bx #[N9 Oa xs,N9 Oa xt,N9 Oa xr,Oc p M.length c])
 revert hset
 exact hq.1):p:=f ⟨h⟩
theorem Nn(xb nL cl np cp:Nat)(pl pp:Option Addr)(xs xt xf xl xr:Int)(EL:List Ent)(W:World)(Q:Exit->Act->World->Prop)(h0:∀j,W.cell? ⟨xb,j,Oh⟩=(#[N9 Oa xs,N9 Oa xt,N9 Oa xf,N9 Oa xl,N9 Oa xr,Oc pl nL cl,Oc pp np cp]:Array Value)[j]?)(hxb:xb<W.heap.size)(ksh:∀u,Calls prog 41 #[Oc pl nL cl] u fun e w'=>∃sb,e=Oe (.func (.func 94) #[] #[Od (Og ⟨sb,0,Oh⟩)])/\w'.heap[sb]? = Og (Of #[Oc pl nL cl] 36 (0,0))/\ac u.heap.size u w')(kco:∀u sb,ac W.heap.size W u->u.heap[sb]? = Og (Of #[Oc pl nL cl] 36 (0,0))->Calls prog 48 #[.func (.func 94) #[] #[Od (Og ⟨sb,0,Oh⟩)]] u fun e w'=>∃(M:List Ent) (p:Option Addr) (c:Nat),e=Oe (Oc p M.length c)/\Hid (M=EL)/\bz bL 15 67 u w' (Oc p M.length c) M/\Hid (ac W.heap.size W u)/\ac u.heap.size u w')
  (hQ:∀(c6 c7 c8 ca cb cc cd ce cf cg ch:Value)(wx:World)(bx:Nat)(M:List Ent)(p:Option Addr)(c:Nat),Hid (M=EL)->bz bL 15 67 W wx (Oc p M.length c) M->W.heap.size<=bx->wx.heap[bx]? = Og (Of #[N9 Oa xs,N9 Oa xt,N9 Oa xr,Oc p M.length c] 56 (0,0))->(∀q,(Value.slice p M.length c).ownBlock=Og q->q≠bx)->ac W.heap.size W wx->Q .normal ⟨aK (s0::s1::s2::s3::Od (Og ⟨xb,0,Oh⟩)::s5::s6::s7::s8::s9::a0::a1::a2::Od (Og ⟨bx,0,Oh⟩)::[a3,a4,a5,a6,a7,a8,a9,ab,ad,af,ag,ao,b0,b1,b2,b3,b4,b5,b6,b7,b8,b9,ba,bb,bc,bd,be,c6,c7,c8,ca,cb,cc,cd,ce,cf,cg,ch,bf,bg,bh,bk]),[]⟩ wx) :
  (db Tryz.f15 7).wp prog Q ⟨aK (s0::s1::s2::s3::Od (Og ⟨xb,0,Oh⟩)::[s5,s6,s7,s8,s9,a0,a1,a2,bm,a3,a4,a5,a6,a7,a8,a9,ab,ad,af,ag,ao,b0,b1,b2,b3,b4,b5,b6,b7,b8,b9,ba,bb,bc,bd,be,bo,bp,bq,br,bs,bv,c0,c1,c2,c3,c4,bf,bg,bh,bk]),[]⟩ W:=by
 refine mOn ?_;generalize Q .normal=K at hQ |-;have HQ:=aa hQ;clear hQ
 conv=>arg 2;whnf
 have KSH:=aa ksh
 have KCO:=aa kco;have KS:∀u,ac W.heap.size W u->ac W.heap.size W u/\(∀j,u.cell? ⟨xb,j,Oh⟩=(#[N9 Oa xs,N9 Oa xt,N9 Oa xf,N9 Oa xl,N9 Oa xr,Oc pl nL cl,Oc pp np cp]:Array Value)[j]?):=fun u hu=>⟨hu,fun j=>(hu.cell (p:=⟨xb,j,Oh⟩) hxb).trans (h0 j)⟩
 clear ksh kco h0 hxb;have hS:ac W.heap.size W W.drew/\(∀j,W.drew.cell? ⟨xb,j,Oh⟩=(#[N9 Oa xs,N9 Oa xt,N9 Oa xf,N9 Oa xl,N9 Oa xr,Oc pl nL cl,Oc pp np cp]:Array Value)[j]?):=KS _ (Below.refl _ _).drew;refine gJ (S:=fun u=>ac W.heap.size W u/\(∀j,u.cell? ⟨xb,j,Oh⟩=(#[N9 Oa xs,N9 Oa xt,N9 Oa xf,N9 Oa xl,N9 Oa xr,Oc pl nL cl,Oc pp np cp]:Array Value)[j]?)) (.take 0 (.take 1 (.take 2 (.take 3 (.take 4 (.take 5 (.take 6 (.take 7 (.two 8 11 (.two 9 11 (.take 10 (.one 11 (.one 12 .done))) (.one 9 (.take 10 (.one 12 .done)))) (.one 8 (.one 9 (.take 10 (.one 12 .done))))))))))))) hS ?_
 iterate 8 refine aW ?_
 refine ft ?_ ?_
 .refine bY ⟨_,_,_,_,_,_⟩ rfl mRf 41 _ _ mRf _ mRf call41 (KSH.out _) ?_;rintro x x1⟨sb,rfl,hsb,hb⟩;replace hS:=KS _ (ah hS.1 hb);refine⟨_,rfl,hS,?_⟩
  (try clear hb)
  refine ay ?_;refine ft ?_ ?_
  .refine bY ⟨_,_,_,_,_,_⟩ rfl mRf 48 _ _ mRf _ mRf call48 (KCO.out _ _ hS.1 hsb) ?_;rintro x x2⟨M,p,c,rfl,hM,hOC,HBU,hb⟩;replace hS:=KS _ (ah hS.1 hb);have l_hsb:=aG hsb;replace hsb:=hb.heap_of hsb;refine⟨_,rfl,hS,?_⟩
   (try clear hb)
   refine ay ?_;refine aW ?_;have hlo_bx:W.heap.size<=x2.heap.size:=hS.1.size;refine bW (bU ⟨_,_,_,_,_,_⟩ (Od (Og ⟨x2.heap.size,0,Oh⟩)) (x2.alloc (Of #[N9 Oa 0,N9 Oa 0,N9 Oa 0,Oc Oh 0 0] 56)) rfl mRf (by go_simp;try rfl) ⟨KS _ (ah hS.1 (aj _ _)),?_⟩);have hb:=aj (x2) (Of #[N9 Oa 0,N9 Oa 0,N9 Oa 0,Oc Oh 0 0] 56);replace hS:=KS _ (ah hS.1 hb);replace hsb:=hb.heap_of hsb;have hne_hOC_bx:∀q,Value.ownBlock _=Og q->q≠x2.heap.size:=fun q hq=>by have:=(hOC.own.lt q hq).2;omega
   replace hOC:=hOC.next hb;have hx_bx:=heap_alloc_new (x2) (Of #[N9 Oa 0,N9 Oa 0,N9 Oa 0,Oc Oh 0 0] 56)
   (try clear hb)
   refine ay ?_;refine nA ?_;intro hset;refine bW (di ⟨_,_,_,_,_,_⟩ rfl mRf 56 _ _ mRf (x2.heap.size) #[N9 Oa xs,N9 Oa xt,N9 Oa xr,Oc p M.length c] mRf mRf _ _ hx_bx mKr rfl (by simp[Value.oneCell']) ⟨hset,?_⟩);replace hS:=hset;clear hset;replace hx_bx:=setRow_heap (x2.alloc (Of #[N9 Oa 0,N9 Oa 0,N9 Oa 0,Oc Oh 0 0] 56)) (x2.heap.size) _ #[N9 Oa xs,N9 Oa xt,N9 Oa xr,Oc p M.length c] _ _ hx_bx;exact nZ
  .have hlo_bx:W.heap.size<=x1.heap.size:=hS.1.size;refine bU ⟨_,_,_,_,_,_⟩ (Od (Og ⟨x1.heap.size,0,Oh⟩)) (x1.alloc (Of #[N9 Oa 0,N9 Oa 0,N9 Oa 0,Oc Oh 0 0] 56)) rfl mRf (by go_simp;try rfl) ⟨KS _ (ah hS.1 (aj _ _)),?_⟩;have hb:=aj (x1) (Of #[N9 Oa 0,N9 Oa 0,N9 Oa 0,Oc Oh 0 0] 56);replace hS:=KS _ (ah hS.1 hb);replace hsb:=hb.heap_of hsb;have hx_bx:=heap_alloc_new (x1) (Of #[N9 Oa 0,N9 Oa 0,N9 Oa 0,Oc Oh 0 0] 56)
   (try clear hb)
   refine ay ?_;refine bW (bY ⟨_,_,_,_,_,_⟩ rfl mRf 48 _ _ mRf _ mRf call48 (KCO.out _ _ hS.1 hsb) ?_);rintro x x3⟨M,p,c,rfl,hM,hOC,HBU,hb⟩;replace hS:=KS _ (ah hS.1 hb);have l_hsb:=aG hsb;replace hsb:=hb.heap_of hsb;have l_hx_bx:=aG hx_bx;replace hx_bx:=hb.heap_of hx_bx;have hne_hOC_bx:∀q,Value.ownBlock _=Og q->q≠x1.heap.size:=fun q hq=>by have:=(hOC.own.lt q hq).1;(try simp only[fJ] at this);omega
   refine⟨_,rfl,hS,?_⟩
   (try clear hb)
   refine ay ?_;refine aW ?_;refine nA ?_;intro hset;refine bW (di ⟨_,_,_,_,_,_⟩ rfl mRf 56 _ _ mRf (x1.heap.size) #[N9 Oa xs,N9 Oa xt,N9 Oa xr,Oc p M.length c] mRf mRf _ _ hx_bx mKr rfl (by simp[Value.oneCell']) ⟨hset,?_⟩);replace hS:=hset;clear hset;replace hx_bx:=setRow_heap x3 (x1.heap.size) _ #[N9 Oa xs,N9 Oa xt,N9 Oa xr,Oc p M.length c] _ _ hx_bx;exact nZ
 .have hlo_bx:W.heap.size<=W.heap.size:=az _;refine bU ⟨_,_,_,_,_,_⟩ (Od (Og ⟨W.heap.size,0,Oh⟩)) (W.drew.alloc (Of #[N9 Oa 0,N9 Oa 0,N9 Oa 0,Oc Oh 0 0] 56)) rfl mRf (by go_simp;try rfl) ⟨KS _ (ah hS.1 (aj _ _)),?_⟩;have hb:=aj (W.drew) (Of #[N9 Oa 0,N9 Oa 0,N9 Oa 0,Oc Oh 0 0] 56);replace hS:=KS _ (ah hS.1 hb);have hx_bx:=heap_alloc_new (W.drew) (Of #[N9 Oa 0,N9 Oa 0,N9 Oa 0,Oc Oh 0 0] 56);replace hx_bx:(W.drew.alloc (Of #[N9 Oa 0,N9 Oa 0,N9 Oa 0,Oc Oh 0 0] 56)).heap[W.heap.size]? = Og _:=hx_bx
  (try clear hb)
  refine ay ?_;refine bW (bY ⟨_,_,_,_,_,_⟩ rfl mRf 41 _ _ mRf _ mRf call41 (KSH.out _) ?_);rintro x x4⟨sb,rfl,hsb,hb⟩;replace hS:=KS _ (ah hS.1 hb);replace hx_bx:=hb.heap_of hx_bx;refine⟨_,rfl,hS,?_⟩
  (try clear hb)
  refine ay ?_;refine bW (bY ⟨_,_,_,_,_,_⟩ rfl mRf 48 _ _ mRf _ mRf call48 (KCO.out _ _ hS.1 hsb) ?_);rintro x x5⟨M,p,c,rfl,hM,hOC,HBU,hb⟩;replace hS:=KS _ (ah hS.1 hb);have l_hx_bx:=aG hx_bx;replace hx_bx:=hb.heap_of hx_bx;have l_hsb:=aG hsb;replace hsb:=hb.heap_of hsb;have hne_hOC_bx:∀q,Value.ownBlock _=Og q->q≠W.heap.size:=fun q hq=>by have:=(hOC.own.lt q hq).1;(try simp only[fJ,World.size_drew] at this);omega
  refine⟨_,rfl,hS,?_⟩
  (try clear hb)
  refine ay ?_;refine aW ?_;refine nA ?_;intro hset;refine bW (di ⟨_,_,_,_,_,_⟩ rfl mRf 56 _ _ mRf (W.heap.size) #[N9 Oa xs,N9 Oa xt,N9 Oa xr,Oc p M.length c] mRf mRf _ _ hx_bx mKr rfl (by simp[Value.oneCell']) ⟨hset,?_⟩);replace hS:=hset;clear hset;replace hx_bx:=setRow_heap x5 (W.heap.size) _ #[N9 Oa xs,N9 Oa xt,N9 Oa xr,Oc p M.length c] _ _ hx_bx;exact nZ
open Classical in
noncomputable def lL(x:fc)(roots:List aC)(r:bH)(asof:Int):Int:=
 if dS x roots r asof≠0 then dS x roots r asof else if tg x.lines\/x.first≠0\/x.last≠100000 then 42 else 0
def wi(x:fc)(roots:List aC)(r:bH)(asof:Int)(w:World)(e:Ending)(w':World):Prop:=
 (lL x roots r asof≠0/\e=Oe (.tuple #[.agg #[N9 Oa 0,N9 Oa 0,N9 Oa 0,Oc Oh 0 0],N9 Oa (lL x roots r asof)])/\ac w.heap.size w w')\/
 (lL x roots r asof=0/\∃(p:Option Addr) (c:Nat) (M:List Ent),e=Oe (.tuple #[.agg #[N9 Oa x.school,N9 Oa x.student,N9 Oa x.root,Oc p M.length c],N9 Oa 0])/\BrS Ent.id (cT x.lines) M/\bz bL 15 67 w w' (Oc p M.length c) M)
theorem sK{fn:Func}{p u:Tmp}(h:fn.results=#[.cell p 56,.tmp u])(tmps:Array Value)(w:World)(g:Nat)(cs:Array Value)(hp:tmps.getD p undef=Od (Og ⟨g,0,Oh⟩))(hg:w.heap[g]? = Og (Of cs 56 (0,0)))(hs:cs.size=4:=by rfl) :
  (results fn tmps).run prog w=.ok (.tuple #[.agg cs,tmps.getD u undef]) w:=by
 rw[results_cell_tmp h,hp];have:=run_loadVar_row (P:=prog) w g 56 56 cs (0,0) _ hg underlying56 rfl (by rw[hs];kernel_rfl);simp only[asAddr,Sem.run_pure,Result.andThen_ok,this]
theorem og{p:Prop} (h:p:=by
 go_wp2_with ((with_reducible refine wpList_store_row (o:=⟨Oh,.store 56 (.tmp 8) (.tmp 40),_,_,_,_⟩) ?_ 56 (.tmp 8) (.tmp 40) ?_ (w.heap.size+1+1) #[N9 Oa 0,N9 Oa 0,N9 Oa 0,Oc Oh 0 0] ?_ ?_ 56 #[N9 Oa 0,N9 Oa 0,N9 Oa 0,Oc Oh 0 0] ?_ ?_ ?_ ?_ ?_);rfl;rfl;rfl;rfl;exact n2;kernel_rfl;rfl;simp[Value.oneCell'])
 (try simp only[Exit.inBlock,Exit.then]);refine bodyPost_ret (sK results15 _ _ (w.heap.size+1+1) #[N9 Oa 0,N9 Oa 0,N9 Oa 0,Oc Oh 0 0] rfl (setRow_heap _ _ _ _ _ _ n2)) rfl ?_
 exact HPB.out _ 42 (HE.out) (bu HBW3.out mOm _)):p:=h
theorem xo(x:fc)(pl pp:Option Addr)(cl cp:Nat)(roots:List aC)(pr:Option Addr)(cr:Nat)(r:bH)(g c:Nat)(asof:Int)(w:World)(hkJ:JudOk x roots r)(hi:JudIn x pl pp cl cp roots pr cr r g w)(h39:x.lines.length<=19) :
  Calls prog 15 #[.agg (x.cells pl pp cl cp),Oc pr roots.length cr,.agg #[N9 Oa r.school,Oc (Og ⟨g,0,Oh⟩) r.keys.length c],N9 Oa asof] w (wi x roots r asof w):=by
 classical
 obtain⟨hb3,h0,h1,h2⟩:=vY (w:=w) (Of #[N9 Oa x.school,N9 Oa x.student,N9 Oa x.first,N9 Oa x.last,N9 Oa x.root,Oc pl x.lines.length cl,Oc pp x.proof.length cp] 39) (Of #[N9 Oa r.school,Oc (Og ⟨g,0,Oh⟩) r.keys.length c] 33) (Of #[N9 Oa 0,N9 Oa 0,N9 Oa 0,Oc Oh 0 0] 56)
 obtain⟨W3,hW3⟩:∃u,u=((w.alloc (Of #[N9 Oa x.school,N9 Oa x.student,N9 Oa x.first,N9 Oa x.last,N9 Oa x.root,Oc pl x.lines.length cl,Oc pp x.proof.length cp] 39)).alloc (Of #[N9 Oa r.school,Oc (Og ⟨g,0,Oh⟩) r.keys.length c] 33)).alloc (Of #[N9 Oa 0,N9 Oa 0,N9 Oa 0,Oc Oh 0 0] 56):=⟨_,rfl⟩;rw[<-hW3] at hb3 h0 h1 h2;have kj:Calls prog 39 #[.agg #[N9 Oa x.school,N9 Oa x.student,N9 Oa x.first,N9 Oa x.last,N9 Oa x.root,Oc pl x.lines.length cl,Oc pp x.proof.length cp],Oc pr roots.length cr,.agg #[N9 Oa r.school,Oc (Og ⟨g,0,Oh⟩) r.keys.length c],N9 Oa asof] W3 fun e w'=>e=Oe (.tuple #[(pk x roots r asof).val,N9 Oa (dS x roots r asof)])/\ac W3.heap.size W3 w':=
  A0 x pl pp cl cp roots pr cr r g c asof W3 hkJ (hi.below hb3)
 have HV:Hid (lL x roots r asof=if dS x roots r asof≠0 then dS x roots r asof else if tg x.lines\/x.first≠0\/x.last≠100000 then 42 else 0):=aa rfl
 have HPB:Hid (∀u (er:Int),er≠0/\lL x roots r asof=er->ac w.heap.size w u->wi x roots r asof w (Oe (.tuple #[.agg #[N9 Oa 0,N9 Oa 0,N9 Oa 0,Oc Oh 0 0],N9 Oa er])) u):=aa (fun u er h hb=>.inl ⟨by rw[h.2];exact h.1,by rw[h.2],hb⟩);have HPG:Hid (∀u (p:Option Addr) (c:Nat) (M:List Ent),lL x roots r asof=0->BrS Ent.id (cT x.lines) M->bz bL 15 67 w u (Oc p M.length c) M->wi x roots r asof w (Oe (.tuple #[.agg #[N9 Oa x.school,N9 Oa x.student,N9 Oa x.root,Oc p M.length c],N9 Oa 0])) u):=aa (fun u p c M h h1 h2=>.inr ⟨h,p,c,M,rfl,h1,h2⟩);generalize wi x roots r asof w=PB at *;generalize lL x roots r asof=BE at *;generalize dS x roots r asof=V at *;generalize pk x roots r asof=RT at *;have HI:=aa hi;clear hi;have hxl:=aG h0;have hgl:=aG h1;have hzl:=aG h2;go_enter func15,ntmps15;unfold fc.cells;go_wp2_with fail;rw[<-hW3];clear hW3;refine kj.mono ?_;clear kj;rintro _ w1⟨rfl,hb1⟩;have hbw1:=ah hb3 hb1;have m0:=(hb1.block _ hxl).trans h0;have m1:=(hb1.block _ hgl).trans h1;have m2:=(hb1.block _ hzl).trans h2;clear h0 h1 h2 hb1 hb3 hxl hgl hzl;obtain⟨rs,rz,rd,rtr,rb,rky,rmk⟩:=RT;have hxl:=aG m0;have hzl:=aG m2;have hba:=aj w1 (Of #[N9 Oa rs,N9 Oa rz,N9 Oa rd,Ob rtr,Ob rb,N9 Oa rky,Ob rmk] 65);obtain⟨w2,hE2⟩:∃u,u=w1.alloc (Of #[N9 Oa rs,N9 Oa rz,N9 Oa rd,Ob rtr,Ob rb,N9 Oa rky,Ob rmk] 65):=⟨_,rfl⟩;rw[<-hE2] at hba;have hbw2:=ah hbw1 hba;have n0:=(hba.block _ hxl).trans m0;have n2:=(hba.block _ hzl).trans m2;clear m0 m1 m2 hba
 go_upto_region 2 with fail
 rw[<-hE2];clear hE2;by_cases hV:V=0
 rotate_left 1
 .have t1:(V != 0)=true:=by rw[bne_iff_ne];exact hV
  have HE:Hid (V≠0/\BE=V):=aa ⟨hV,by rw[HV.out,if_pos hV]⟩;clear HV hV;go_wp2_with ((with_reducible refine wpList_store_row (o:=⟨Oh,.store 56 (.tmp 8) (.tmp 24),_,_,_,_⟩) ?_ 56 (.tmp 8) (.tmp 24) ?_ (w.heap.size+1+1) #[N9 Oa 0,N9 Oa 0,N9 Oa 0,Oc Oh 0 0] ?_ ?_ 56 #[N9 Oa 0,N9 Oa 0,N9 Oa 0,Oc Oh 0 0] ?_ ?_ ?_ ?_ ?_);rfl;rfl;rfl;rfl;exact n2;kernel_rfl;rfl;simp[Value.oneCell'])
  (try simp only[Exit.inBlock,Exit.then]);refine bodyPost_ret (sK results15 _ _ (w.heap.size+1+1) #[N9 Oa 0,N9 Oa 0,N9 Oa 0,Oc Oh 0 0] rfl (setRow_heap _ _ _ _ _ _ n2)) rfl ?_
  exact HPB.out _ V (HE.out) (bu hbw2 mOm _)
 have t1:(V != 0)=false:=by rw[bne_eq_false_iff_eq];exact hV
 have HV2:=aa (HV.out.trans (if_neg (fun h=>h hV)));clear HV;subst hV;have x5:w2.cell? ⟨w.heap.size,5,Oh⟩=Og (Oc pl x.lines.length cl):=ae n0 5;have kc:=Aa pl cl x.lines w2 (HI.out.ext.lines.below hbw2) mOm;go_wp2_with fail;refine kc.mono ?_;clear kc x5 t1;rintro _ w3⟨bt,rfl,hbt,hb3⟩;have hbw3:=ah hbw2 hb3;have n0:=hb3.heap_of n0;have n2:=hb3.heap_of n2;have x2:w3.cell? ⟨w.heap.size,2,Oh⟩=Og (N9 Oa x.first):=ae n0 2;have x3:w3.cell? ⟨w.heap.size,3,Oh⟩=Og (N9 Oa x.last):=ae n0 3;have HBT:=aa hbt;have HBW3:=aa hbw3;have N0:=aO.mk n0;clear hbt hb3 hbw3 hbw2 hbw1 n0;have hzl:=aG n2
 cases bt
 rotate_left 1
 .have HE:Hid ((42:Int)≠0/\BE=42):=aa ⟨mDe,by rw[HV2.out,if_pos (.inl (HBT.out.1 rfl))]⟩;exact og
 by_cases hf:x.first=0
 rotate_left 1
 .have t1:(x.first != 0)=true:=by rw[bne_iff_ne];exact hf
  have HE:Hid ((42:Int)≠0/\BE=42):=aa ⟨mDe,by rw[HV2.out,if_pos (.inr (.inl hf))]⟩;clear hf;exact og
 have t1:(x.first != 0)=false:=by rw[bne_eq_false_iff_eq];exact hf
 by_cases hla:x.last=100000
 rotate_left 1
 .have t2:(x.last != 100000)=true:=by rw[bne_iff_ne];exact hla
  have HE:Hid ((42:Int)≠0/\BE=42):=aa ⟨mDe,by rw[HV2.out,if_pos (.inr (.inr hla))]⟩;clear hla hf;exact og
 have t2:(x.last != 100000)=false:=by rw[bne_eq_false_iff_eq];exact hla
 have HE:Hid (BE=0):=aa (by
  rw[HV2.out,if_neg];rintro(h|h|h)
  .cases HBT.out.2 h
  .exact h hf
  .exact h hla)
 clear hf hla HV2 HBT
 have N2:=aO.mk n2;clear n2
 go_upto_region 7 with fail
 clear t1 t2 x2 x3;refine Nn w.heap.size x.lines.length cl x.proof.length cp pl pp x.school x.student x.first x.last x.root (cT x.lines) w3 _ (ae N0.is) (aG N0.is) (fun u=>?_) (fun u sb hu hsb=>?_) ?_
 .refine(Bq _ pl x.lines.length cl rfl u).mono ?_;rintro e w'⟨rfl,rfl⟩;exact⟨u.heap.size,rfl,heap_alloc_new u _,aj u _⟩
 .refine(BG sb pl cl x.lines w u mOm hkJ.ext.lines HI.out.ext.lines HI.out.ready hsb (ah HBW3.out hu)).mono ?_;rintro e w'⟨v,rfl,hO⟩;obtain⟨p9,c9,rfl⟩:=hO.form;exact⟨cT x.lines,p9,c9,rfl,aa rfl,hO,aa hu,hO.low⟩
 intros
 rename_i w4 bx M p9 c9 hM hO4 hbx hx4 hne4 hb4
 have HBX:=aO.mk hx4
 have HO4:=aa hO4;have hml:M.length<=19:=by
  rw[hM.out];have:(cT x.lines).length<=x.lines.length:=by unfold cT;exact List.length_filterMap_le ..
  omega
 have ks:=KQ w3 w4 (Oc p9 M.length c9) M hO4 hml
 have v3:w4.cell? ⟨bx,3,Oh⟩=Og (Oc p9 M.length c9):=ae hx4 3;have N2:=aO.mk (hb4.heap_of N2.is);have HNE:=aa hne4;clear hx4 hO4 hne4;go_wp2_with fail;refine ks.mono ?_;clear ks v3;rintro _ w5⟨rfl,L',hlen,hBr,hO5,hbt⟩;have hb35:=HBW3.out;have hs3:=aG N2.is;have hown:∀q,(Value.slice p9 M.length c9).ownBlock=Og q->w3.heap.size<=q:=fun q hq=>(HO4.out.own.lt q hq).1
 have hx5:=hbt.heap HBX.is (fun e=>HNE.out _ e rfl);have n5:=hbt.heap N2.is (fun e=>by have:=hown _ e;have:=hzl;omega);obtain⟨n9,c5,hv5⟩:=hO5.form;have HO5:=aa hO5;have HBR:=aa hBr;have HL9:=aa hlen;have hne5:∀q,(Value.slice p9 M.length c9).ownBlock=Og q->q≠w.heap.size+1+1:=fun q hq e=>by have:=hown q hq;omega
 have HNE5:=aa hne5;have v0:w5.cell? ⟨bx,0,Oh⟩=Og (N9 Oa x.school):=ae hx5 0;have v1:w5.cell? ⟨bx,1,Oh⟩=Og (N9 Oa x.student):=ae hx5 1;have v2:w5.cell? ⟨bx,2,Oh⟩=Og (N9 Oa x.root):=ae hx5 2;have v3:w5.cell? ⟨bx,3,Oh⟩=Og (Oc p9 M.length c9):=ae hx5 3;clear hlen hBr hO5 hbt hx5 hown hne5 hv5 hb4 hbx;go_wp2_with ((with_reducible refine wpList_store_row (o:=⟨Oh,.store 56 (.tmp 8) (.tmp 55),_,_,_,_⟩) ?_ 56 (.tmp 8) (.tmp 55) ?_ (w.heap.size+1+1) #[N9 Oa x.school,N9 Oa x.student,N9 Oa x.root,Oc p9 M.length c9] ?_ ?_ 56 #[N9 Oa 0,N9 Oa 0,N9 Oa 0,Oc Oh 0 0] ?_ ?_ ?_ ?_ ?_);rfl;rfl;rfl;rfl;exact n5;kernel_rfl;rfl;simp[Value.oneCell'])
 (try simp only[Exit.inBlock,Exit.then]);refine bodyPost_ret (sK results15 _ _ (w.heap.size+1+1) #[N9 Oa x.school,N9 Oa x.student,N9 Oa x.root,Oc p9 M.length c9] rfl (setRow_heap _ _ _ _ _ _ n5)) rfl ?_
 have hfin:=HPG.out (w5.setRow (w.heap.size+1+1) #[N9 Oa x.school,N9 Oa x.student,N9 Oa x.root,Oc p9 M.length c9]) p9 c9 L' HE.out (by rw[<-hM.out];exact HBR.out);rw[HL9.out] at hfin;refine hfin ?_;have h6:=HO5.out;refine⟨⟨p9,c9,by rw[HL9.out]⟩,?_,?_⟩
 .exact jT (bK h6.own (aF.setRow w5 (w.heap.size+1+1) _) (fun q hq e=>HNE5.out q hq e)) hb35.size
 .exact bu (ah hb35 h6.low) mOm _
end
section
theorem brT:RowT prog aS 4 56 61 where
 len _:=rfl
 one x u hu:=by
  simp only[aS,List.mem_cons,List.not_mem_nil,or_false] at hu;rcases hu with rfl|rfl|rfl|rfl <;> rfl
 pos:=mDe
 und:=underlying61
 info:=by
  obtain⟨i0,hi,h1,h2,h3⟩:=info_parts (show(prog.info? 56).map (fun i=>(i.zero,i.size,i.bytes))=Og (Og (.agg #[N9 Oa 0,N9 Oa 0,N9 Oa 0,Oc Oh 0 0]),4,48) by kernel_rfl);exact⟨i0,_,hi,h1,h2,rfl,mOm⟩
theorem Fn(p:Option Addr)(c:Nat)(L:List Ent)(w:World)(h:ar bL w (Oc p L.length c) L)(hl:L.length<=1000000) :
  Calls prog 71 #[Oc p L.length c] w fun e w'=>∃v,e=Oe v/\bz bL 15 67 w w' v L:=by
 have q22:∀(w:World)(a:Option Addr)(n c n' c':Nat),(binOp .eql 34 (Oc a n c) (Oc Oh n' c')).run prog w=.ok (.bool a.isNone) w:=fun w a n c n' c'=>Lib.run_eql_slice_nil w _ _ a n c n' c' underlying34
 rcases p with _|ad
 .obtain⟨p',c',hv,_,hz,_⟩:=h;injection hv with e1 e2 e3;subst e1;subst e3;obtain rfl:=hz rfl;obtain rfl:L=[]:=bn mOm;go_enter func71,ntmps71;go_wp2_with fail;go_ret;exact⟨_,rfl,bz.nil _ _ _ _⟩
 .have hO:bz bL 15 67 w (w.alloc (Of #[] 67)) (Oc (Og ⟨w.heap.size,0,Oh⟩) 0 0) ([]:List Ent):=⟨⟨_,_,rfl⟩,World.ownsRow_lit w #[] 0 (az _) (aP _) rfl,aj w _⟩;have hr:=h.below (aj w (Of #[] 67));have hown:=hO.own;have hsz:=hO.low.size;have HO:=aa hO;clear h hO;go_enter func71,ntmps71;go_wp2_with (at_builtin;refine bl enT rfl (.tmp 5) (.tmp 6) rfl w.heap.size _ _ [] L rfl rfl hown hr (by simpa using hl) hsz ?_;intro v9 w9 hA9;have hO9:=HO.out.app hA9;rw[List.nil_append] at hO9;have HO9:=aa hO9;clear hO9 hA9);go_ret;exact⟨_,rfl,HO9.out⟩
theorem J1(fv:Value)(w:World):Calls prog 124 #[Oc Oh 0 0,fv] w fun e w'=>e=Oe (N9 Oa (-1))/\w=w':=by go_enter func124,ntmps124;go_wp2_with fail;refine wp_loop_rounds 1 ?_;rw[rounds_succ];go_wp2_with fail;go_ret;exact⟨rfl,rfl⟩
theorem nX{p:Prop} (h:p:=by
 go_wp2_with fail;refine(J1 _ _).mono ?_;rintro _ _⟨rfl,rfl⟩;go_wp2_with fail;go_ret
 exact⟨rfl,rfl⟩):p:=h
theorem JF(fv:Value)(w:World):Calls prog 64 #[Oc Oh 0 0,fv] w fun e w'=>e=Oe (.bool false)/\w=w':=by go_enter func64,ntmps64;exact nX
theorem JK(fv:Value)(w:World):Calls prog 66 #[Oc Oh 0 0,fv] w fun e w'=>e=Oe (Oc Oh 0 0)/\w=w':=by go_enter func66,ntmps66;exact nX
theorem Eo(fv:Value)(w:World):Calls prog 68 #[Oc Oh 0 0,fv] w fun e w'=>e=Oe (N9 Oa 0)/\w=w':=by go_enter func68,ntmps68;exact nX
theorem Fl(w:World):Calls prog 67 #[Oc Oh 0 0] w fun e w'=>e=Oe (Oc Oh 0 0)/\w=w':=by
 have q22:∀(w:World)(a:Option Addr)(n c n' c':Nat),(binOp .eql 61 (Oc a n c) (Oc Oh n' c')).run prog w=.ok (.bool a.isNone) w:=fun w a n c n' c'=>Lib.run_eql_slice_nil w _ _ a n c n' c' underlying61
 go_enter func67,ntmps67;go_wp2_with fail;go_ret;exact⟨rfl,rfl⟩
theorem J5(g:Nat)(y:BrtV)(w:World)(h:ar aS w (Oc (Og ⟨g,0,Oh⟩) 1 1) [y]) :
  Calls prog 70 #[Oc Oh 0 0,N9 Oa 0,Oc (Og ⟨g,0,Oh⟩) 1 1] w fun e w'=>∃(gr cr:Nat),e=Oe (Oc (Og ⟨gr,0,Oh⟩) 1 cr)/\bz aS 4 56 w w' (Oc (Og ⟨gr,0,Oh⟩) 1 cr) [y]:=by
 have hown:=(World.ownsRow_nil w w.heap.size 56 4);have hsz:=az w.heap.size;have HP:=aa (fun u v (hA:AppT aS 4 56 w w.heap.size (Oc Oh 0 0) [] [y] v u)=>(show bz aS 4 56 w u v ([]++[y]) from bz.app (bz.nil aS 4 56 w) hA));go_enter func70,ntmps70;go_wp2_with (at_builtin;refine bl brT rfl (.tmp 23) (.tmp 24) rfl w.heap.size (Oc Oh 0 0) (Oc (Og ⟨g,0,Oh⟩) 1 1) [] [y] rfl rfl hown h mSi hsz ?_;intro v9 w10 hA9;have HO:=aa (HP.out _ _ hA9);obtain⟨g9,c10,hv9⟩:=jU (M:=([]:List BrtV)) hA9.own;subst hv9;clear hA9 hown h hsz HP);go_ret;exact⟨g9,c10,rfl,HO.out⟩
theorem uF{w:World}{B gr cr:Nat}{y:BrtV}(h:w.ownsRow B 56 4 (Oc (Og ⟨gr,0,Oh⟩) 1 cr) 1 (aN aS [y]))(p2:Option Addr)(c2:Nat) :
  (∀j v,(aS y)[j]? = Og v->w.cell? ⟨gr,j,Oh⟩=Og v)/\w.frozen? ⟨gr,3,Oh⟩=false/\B<=gr/\gr<w.heap.size/\(w.setCell ⟨gr,3,Oh⟩ (Oc p2 y.b.ents.length c2)).ownsRow B 56 4 (Oc (Og ⟨gr,0,Oh⟩) 1 cr) 1 (aN aS [⟨y.b,p2,c2⟩]):=by
 rcases h.2 with ⟨hv,_⟩|⟨g,cap,cur,hv,hb,hg,h1,h2,h3,h4⟩
 .cases hv
 injection hv with e1 e2 e3
 injection e1 with e1;injection e1 with e1;subst e1;subst e3;have ht:cur.toList.take 4=aS y:=by
  have:aN aS [y]=aS y:=by simp[aN]
  rw[<-this,<-h4]
 have e:cur.toList=aS y++cur.toList.drop 4:=by rw[<-ht,List.take_append_drop]
 refine⟨fun j v hj=>?_,aE hg 3,hb,aG hg,rfl,.inr ⟨gr,cr,_,rfl,hb,bj hg 3 _,h1,h2,by rw[Array.size_setIfInBounds];exact h3,?_⟩⟩
 .have hl:j<(aS y).length:=(List.getElem?_eq_some_iff.1 hj).1;rw[ae hg j,<-gK,e,bR hl];exact hj
 .rw[Array.toList_setIfInBounds,e];rfl
theorem IE(f s r:Int)(p:Option Addr)(c:Nat)(L:List Ent)(w:World)(h:ar bL w (Oc p L.length c) L)(hl:L.length<=100000)(hf:1<=f/\f<=8)(hs:1<=s/\s<=999999)(hr:0<=r/\r<=1000000) :
  Calls prog 26 #[Oc Oh 0 0,.agg #[N9 Oa f,N9 Oa s,N9 Oa r,Oc p L.length c]] w fun e w'=>∃(p1 p2:Option Addr) (c1 c2:Nat),e=Oe (.tuple #[Oc p1 1 c1,N9 Oa 0])/\BrtIn w' (Oc p1 1 c1) [⟨⟨f,s,r,L⟩,p2,c2⟩]/\ac w.heap.size w w':=by
 have hx:=eR (heap_alloc_new w (Of #[N9 Oa f,N9 Oa s,N9 Oa r,Oc p L.length c] 56)) (Of #[.func (.func 63) #[] #[Od (Og ⟨w.heap.size,0,Oh⟩)]] 124);have hy:=heap_alloc_new (w.alloc (Of #[N9 Oa f,N9 Oa s,N9 Oa r,Oc p L.length c] 56)) (Of #[.func (.func 63) #[] #[Od (Og ⟨w.heap.size,0,Oh⟩)]] 124);rw[size_alloc] at hy;have hb0:=ah (aj w (Of #[N9 Oa f,N9 Oa s,N9 Oa r,Oc p L.length c] 56)) (aj _ (Of #[.func (.func 63) #[] #[Od (Og ⟨w.heap.size,0,Oh⟩)]] 124));have e0:=heap_alloc_new w (Of #[N9 Oa f,N9 Oa s,N9 Oa r,Oc p L.length c] 56);have z0:(w.alloc (Of #[N9 Oa f,N9 Oa s,N9 Oa r,Oc p L.length c] 56)).cell? ⟨w.heap.size,0,Oh⟩=Og (N9 Oa f):=ae e0 0;have z1:(w.alloc (Of #[N9 Oa f,N9 Oa s,N9 Oa r,Oc p L.length c] 56)).cell? ⟨w.heap.size,1,Oh⟩=Og (N9 Oa s):=ae e0 1;have z2:(w.alloc (Of #[N9 Oa f,N9 Oa s,N9 Oa r,Oc p L.length c] 56)).cell? ⟨w.heap.size,2,Oh⟩=Og (N9 Oa r):=ae e0 2;clear e0;have HR:=aa h;clear h;have k1:decide (f<1)=false:=decide_eq_false mOm;have k2:decide (8<f)=false:=decide_eq_false mOm;have k3:decide (s<1)=false:=decide_eq_false mOm;have k4:decide (999999<s)=false:=decide_eq_false mOm;have k5:decide (r<0)=false:=decide_eq_false mOm;obtain⟨W,hW⟩:∃u,u=(w.alloc (Of #[N9 Oa f,N9 Oa s,N9 Oa r,Oc p L.length c] 56)).alloc (Of #[.func (.func 63) #[] #[Od (Og ⟨w.heap.size,0,Oh⟩)]] 124):=⟨_,rfl⟩;rw[<-hW] at hx hy hb0;go_enter func26,ntmps26
 go_upto_region 4 with fail
 rw[<-hW];clear hW z0 z1 z2 k1 k2 k3 k4 k5;have HX:=aO.mk hx;have hS0:W.drew.cell? ⟨w.heap.size+1,0,Oh⟩=Og (.func (.func 63) #[] #[Od (Og ⟨w.heap.size,0,Oh⟩)]):=ae hy 0;clear hx hy;go_wp2_with fail;refine(JF _ _).mono ?_;rintro _ _⟨rfl,rfl⟩;go_wp2_with fail;refine aD (S:=fun u=>u.cell? ⟨w.heap.size+1,0,Oh⟩=Og (.func (.func 63) #[] #[Od (Og ⟨w.heap.size,0,Oh⟩)])) [(0,true),(2,true),(1,false),(3,false),(4,true)] hS0 ?_;have hS:=hS0
 iterate 2 refine ak ?_
 refine aJ 67 call67 (Fl _) ?_;rintro x wn⟨rfl,rfl⟩;refine⟨_,rfl,hS,?_⟩;refine ay ?_;refine aJ 66 call66 (JK _ _) ?_;rintro x wn⟨rfl,rfl⟩;refine⟨_,rfl,hS,?_⟩;refine ay ?_;refine ak ?_;simp only[aQ,aZ];clear hS hS0;go_wp2_with fail;refine(Eo _ _).mono ?_;rintro _ _⟨rfl,rfl⟩;have hbd:=ah hb0 (Below.refl _ W).drew;have hxd:=(Below.refl _ W).drew.heap_of HX.is;have x0:W.drew.cell? ⟨w.heap.size,0,Oh⟩=Og (N9 Oa f):=ae hxd 0;have x1:W.drew.cell? ⟨w.heap.size,1,Oh⟩=Og (N9 Oa s):=ae hxd 1;have x2:W.drew.cell? ⟨w.heap.size,2,Oh⟩=Og (N9 Oa r):=ae hxd 2;have x3:W.drew.cell? ⟨w.heap.size,3,Oh⟩=Og (Oc p L.length c):=ae hxd 3;have hlit:ar aS (W.drew.alloc (Of #[N9 Oa f,N9 Oa s,N9 Oa r,Oc p L.length c] 56)) (Oc (Og ⟨W.drew.heap.size,0,Oh⟩) 1 1) [(⟨⟨f,s,r,L⟩,p,c⟩:BrtV)]:=cN (heap_alloc_new W.drew _) _ rfl rfl;have ki:=J5 W.drew.heap.size ⟨⟨f,s,r,L⟩,p,c⟩ (W.drew.alloc (Of #[N9 Oa f,N9 Oa s,N9 Oa r,Oc p L.length c] 56)) hlit;have hb5:=ah hbd (aj W.drew (Of #[N9 Oa f,N9 Oa s,N9 Oa r,Oc p L.length c] 56));have HB5:=aa hb5;clear hbd hxd hlit hb0 hb5;go_wp2_with fail;refine ki.mono ?_;clear ki x0 x1 x2 x3;rintro _ w6⟨gr,cr,rfl,hO6⟩;obtain⟨hc6,-,hbg,hgl,-⟩:=uF hO6.own Oh 0;have hb6:=ah HB5.out hO6.low;have z3:w6.cell? ⟨gr,3,Oh⟩=Og (Oc p L.length c):=hc6 3 _ rfl;have kc:=Fn p c L w6 (HR.out.below hb6) mOm;have HB6:=aa hb6;have HO6:=aa hO6;clear hc6 hb6 hO6;go_wp2_with fail;refine wp_loop_rounds 2 ?_;rw[rounds_succ];go_wp2_with fail;refine kc.mono ?_;clear kc z3;rintro _ w7⟨v7,rfl,hO7⟩;obtain⟨p7,c7,rfl⟩:=hO7.form;obtain⟨-,f3,-,hgl7,hown8⟩:=uF (HO6.out.next hO7.low).own p7 c7;have c3:w7.cell? ⟨gr,3,Oh⟩=Og (Oc p L.length c):=(uF (HO6.out.next hO7.low).own p7 c7).1 3 _ rfl;have hset:=aF.set (S:=fun q=>q=gr) w7 rfl 3 (Oc p7 L.length c7);have hrow7:=bK hO7.own hset (fun q hq e=>by have:=(hO7.own.lt q hq).1;omega);have hbl:ac w.heap.size w (w7.setCell ⟨gr,3,Oh⟩ (Oc p7 L.length c7)):=(ah HB6.out hO7.low).trans (hset.below (fun q hq e=>by have:=HB5.out.size;omega) (ah HB6.out hO7.low).size);have HB8:=aa hbl;have HR8:=aa hown8;have HE8:=aa hrow7;clear hO7 hown8 hset hrow7 hbl hgl7;go_wp2_with fail;rw[rounds_succ];go_wp2_with fail
 go_ret2
 refine⟨Og ⟨gr,0,Oh⟩,p7,cr,c7,rfl,⟨fo dt mDe HR8.out,fun x hx=>?_,fun x hx=>?_⟩,HB8.out⟩
 .rw[bE.1 hx];exact fo eG mDe HE8.out
 .rw[bE.1 hx];exact hl
