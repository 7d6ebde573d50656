/- Lemmas. -/
import Derived.Test.YtnlhbdmeodbblaaGreatDoorMtar
set_option maxRecDepth 100000
set_option maxHeartbeats 16000000
set_option linter.all false
open Go.Proofs.Tryz
open Go.Lib renaming cell_of_heap->ae,hid->aa
open List renaming toArray->aK
open Go.RowKit renaming Below->ac
open Go.Ending renaming returned->Oe
open Go.IntKind renaming i64->Oa
open Go.Obj renaming cells->Of
open Go.Value renaming int->N9,string->Ob,slice->Oc,pointer->Od
open Option renaming some->Og,none->Oh
namespace Go.Proofs.YtnlhbdmeodbblaaGreatDoor
open Go Go.RowKit Go.Sort Go.Lib
section
variable {s0 s1 s2 s3 s4 s5 s6 s7 s8 s9 b7 b8 b9 bd be bf bg bh bk bm bo bp bq br bs bt bv:Value}
attribute [local go_sem] Ent.cells
theorem mP(w:World)(b:Nat)(x:Int)(h:w.cell? ⟨b,0,Oh⟩=Og (N9 .u8 x)):(convert 94 9 (Oc (Og ⟨b,0,Oh⟩) 1 1)).run prog w=.ok (Ob ⟨#[UInt8.ofNat x.toNat]⟩) w:=
 run_convert_bytes_arg _ 94 5 underlying94 underlying5 b 0 1 1 [x] rfl (fun i hi=>by
  match i,hi with
  | 0,_=>exact h) 9 underlying9
theorem KN(n:Nat):(dl n).length=6:=rfl
theorem uV(e:Ent)(a b c:Nat)(ha:e.student=a)(hb:e.on=b)(hc:e.id=c)(hk:1<=e.kind/\e.kind<=9) :
  (⟨(dl a).toArray⟩:ByteArray)++⟨#[32]⟩++⟨(dl b).toArray⟩++⟨#[32]⟩++⟨(dl c).toArray⟩++⟨#[32]⟩++⟨#[UInt8.ofNat (48+e.kind).toNat]⟩=⟨(gR e).toArray⟩:=by
 have h1:(48+e.kind).toNat=48+e.kind.toNat:=mOm;refine dL ?_;simp only[iv,gR,ha,hb,hc,h1,Int.toNat_natCast];simp
attribute [local go_sem] KN
theorem Em:kH .any (B5 (db f21 3)) (Array.replicate (B5 (db f21 3)).size false) (.take 0 (.take 1 (.take 4 (.take 5 (.take 9 (.take 10 (.take 14 (.take 15 (.take 16 (.take 17 (.two 2 18 (.take 3 (.two 6 18 (.take 7 (.take 8 (.two 11 18 (.take 12 (.take 13 (.one 18 (.one 19 (.take 20 (.take 21 .done)))))) (.two 11 19 (.take 12 (.take 13 (.one 19 (.take 20 (.take 21 .done))))) (.one 11 (.take 12 (.take 13 (.take 20 (.take 21 .done))))))))) (.two 6 19 (.take 7 (.take 8 (.two 11 19 (.take 12 (.take 13 (.one 19 (.take 20 (.take 21 .done))))) (.one 11 (.take 12 (.take 13 (.take 20 (.take 21 .done)))))))) (.one 6 (.take 7 (.take 8 (.one 11 (.take 12 (.take 13 (.take 20 (.take 21 .done))))))))))) (.two 2 19 (.take 3 (.two 6 19 (.take 7 (.take 8 (.two 11 19 (.take 12 (.take 13 (.one 19 (.take 20 (.take 21 .done))))) (.one 11 (.take 12 (.take 13 (.take 20 (.take 21 .done)))))))) (.one 6 (.take 7 (.take 8 (.one 11 (.take 12 (.take 13 (.take 20 (.take 21 .done)))))))))) (.one 2 (.take 3 (.one 6 (.take 7 (.take 8 (.one 11 (.take 12 (.take 13 (.take 20 (.take 21 .done))))))))))))))))))))))=true:=mKr
theorem nx{p q:Prop}(h:q) (f:Wq q->p:=by
 intro hq;refine bW (bY ⟨_,_,_,_,_,_⟩ rfl mRf 54 _ _ mRf [N9 Oa ((c:Nat):Int)] mRf call54 (it c _ mOm) ?_);rintro r w1⟨rfl,hb1⟩;replace hS:=aM.of_cells (e:=e) hS hb1
 revert w1 hb1 hS
 exact hq.1):p:=f ⟨h⟩
theorem qB{p q:Prop}(h:q) (f:Wq q->p:=by
 intro hq;refine bW (bY ⟨_,_,_,_,_,_⟩ rfl mRf 54 _ _ mRf [N9 Oa ((b:Nat):Int)] mRf call54 (it b _ mOm) ?_);rintro r w1⟨rfl,hb1⟩;replace hS:=aM.of_cells (e:=e) hS hb1
 revert w1 hb1 hS
 exact hq.1):p:=f ⟨h⟩
theorem rU{p:Prop} (h:p:=by
 refine ft ?_ ?_
 .refine bY ⟨_,_,_,_,_,_⟩ rfl mRf 54 _ _ mRf [N9 Oa ((b:Nat):Int)] mRf call54 (it b _ mOm) ?_;rintro r w1⟨rfl,hb1⟩;replace hS:=aM.of_cells (e:=e) hS hb1
  (try replace hB:=(hb1.block _ (av hB)).trans hB)
  refine⟨_,rfl,hS,?_⟩;clear hb1;refine ay ?_
  iterate 2 refine aW ?_
  refine ft ?_ ?_
  .refine bY ⟨_,_,_,_,_,_⟩ rfl mRf 54 _ _ mRf [N9 Oa ((c:Nat):Int)] mRf call54 (it c _ mOm) ?_;rintro r w1⟨rfl,hb1⟩;replace hS:=aM.of_cells (e:=e) hS hb1
   (try replace hB:=(hb1.block _ (av hB)).trans hB)
   refine⟨_,rfl,hS,?_⟩;clear hb1;refine ay ?_
   iterate 2 refine aW ?_
   refine bW (bU ⟨_,_,_,_,_,_⟩ (Ob ⟨#[UInt8.ofNat (48+e.kind).toNat]⟩) w1 rfl mRf ?_ ?_)
   .have hcv:=mP w1 nb _ (ae hB 0)
    go_simp
   refine⟨hS,?_⟩
   refine ay ?_
   iterate 2 refine aW ?_
   exact HQ.out _ _ _ _ _ _ _ _ _ _ _ _ _ _ _ _ _ _ _ _ _ _ _ (uV e a b c ha hb hc hk) hS.1
  .refine bU ⟨_,_,_,_,_,_⟩ (Ob ⟨#[UInt8.ofNat (48+e.kind).toNat]⟩) w1 rfl mRf ?_ ?_
   .have hcv:=mP w1 nb _ (ae hB 0)
    go_simp
   refine⟨hS,?_⟩
   refine ay ?_;refine nx ?_;intro w1 hb1 hS
   (try replace hB:=(hb1.block _ (av hB)).trans hB)
   refine⟨_,rfl,hS,?_⟩;clear hb1;refine ay ?_
   iterate 4 refine aW ?_
   exact HQ.out _ _ _ _ _ _ _ _ _ _ _ _ _ _ _ _ _ _ _ _ _ _ _ (uV e a b c ha hb hc hk) hS.1
 .refine bU ⟨_,_,_,_,_,_⟩ (Ob ⟨#[UInt8.ofNat (48+e.kind).toNat]⟩) w1 rfl mRf ?_ ?_
  .have hcv:=mP w1 nb _ (ae hB 0)
   go_simp
  refine⟨hS,?_⟩
  refine ay ?_;refine qB ?_;intro w1 hb1 hS
  (try replace hB:=(hb1.block _ (av hB)).trans hB)
  refine⟨_,rfl,hS,?_⟩;clear hb1;refine ay ?_
  iterate 2 refine aW ?_
  refine nx ?_;intro w1 hb1 hS
  (try replace hB:=(hb1.block _ (av hB)).trans hB)
  refine⟨_,rfl,hS,?_⟩;clear hb1;refine ay ?_
  iterate 4 refine aW ?_
  exact HQ.out _ _ _ _ _ _ _ _ _ _ _ _ _ _ _ _ _ _ _ _ _ _ _ (uV e a b c ha hb hc hk) hS.1):p:=h
theorem ry{p:Prop} (h:p:=by
 refine nx ?_;intro w1 hb1 hS
 (try replace hB:=(hb1.block _ (av hB)).trans hB)
 refine⟨_,rfl,hS,?_⟩;clear hb1;refine ay ?_
 iterate 4 refine aW ?_
 exact HQ.out _ _ _ _ _ _ _ _ _ _ _ _ _ _ _ _ _ _ _ _ _ _ _ (uV e a b c ha hb hc hk) hS.1):p:=h
theorem sq{p:Prop} (h:p:=by
 refine bW (bU ⟨_,_,_,_,_,_⟩ (Ob ⟨#[UInt8.ofNat (48+e.kind).toNat]⟩) w1 rfl mRf ?_ ?_)
 .have hcv:=mP w1 nb _ (ae hB 0)
  go_simp
 refine⟨hS,?_⟩
 refine ay ?_
 iterate 2 refine aW ?_
 exact HQ.out _ _ _ _ _ _ _ _ _ _ _ _ _ _ _ _ _ _ _ _ _ _ _ (uV e a b c ha hb hc hk) hS.1):p:=h
theorem lA{p q:Prop}(h:q) (f:Wq q->p:=by
 intro hq;have hB:=heap_alloc_new w1 (Of #[N9 .u8 (48+e.kind)] 5);replace hS:=aM.of_cells (e:=e) hS (aq w1 (Of #[N9 .u8 (48+e.kind)] 5));refine⟨hS,?_⟩
 revert hB hS
 exact hq.1):p:=f ⟨h⟩
theorem IR(eb a b c:Nat)(e:Ent)(W:World)(Q:Exit->Act->World->Prop)(hx:aM W eb e)(ha:e.student=a)(hb:e.on=b)(hc:e.id=c)(ba:a<=999999)(bb:b<=999999)(bc:c<=999999)(hk:1<=e.kind/\e.kind<=9)
  (hQ:∀(u6 u7 u8 u9 a0 a1 a2 a3 a4 a5 a6 a7 a8 a9 ab ad af ag ao b0 b6:Value)(s:ByteArray)(wx:World),s=⟨(gR e).toArray⟩->ac W.heap.size W wx->Q .normal ⟨aK (s0::Od (Og ⟨eb,0,Oh⟩)::Ob s::[s3,s4,s5,u6,u7,u8,u9,a0,a1,a2,a3,a4,a5,a6,a7,a8,a9,ab,ad,af,ag,ao,b0,b6]),[]⟩ wx) :
  (db f21 3).wp prog Q ⟨aK (s0::Od (Og ⟨eb,0,Oh⟩)::[s2,s3,s4,s5,s6,s7,s8,s9,b7,b8,b9,bd,be,bf,bg,bh,bk,bm,bo,bp,bq,br,bs,bt,bv]),[]⟩ W:=by
 refine mOn ?_;generalize Q .normal=K at hQ |-;have HQ:=aa hQ;clear hQ
 conv=>arg 2;whnf
 have hbd:ac W.heap.size W W.drew:=(Below.refl W.heap.size W).drew
 have hS:ac W.heap.size W W.drew/\(∀j,W.drew.cell? ⟨eb,j,Oh⟩=e.cells[j]?):=⟨hbd,(hx.below hbd).cell⟩;have hw2:IntKind.u8.wrap (48+e.kind)=48+e.kind:=by simp[IntKind.wrap,IntKind.signed,IntKind.bits];omega
 have hw1:IntKind.i64.wrap (48+e.kind)=48+e.kind:=IntWalk.i64_in _ mOm;refine oB (S:=(fun w'=>ac W.heap.size W w'/\(∀j,w'.cell? ⟨eb,j,Oh⟩=e.cells[j]?))) (.take 0 (.take 1 (.take 4 (.take 5 (.take 9 (.take 10 (.take 14 (.take 15 (.take 16 (.take 17 (.two 2 18 (.take 3 (.two 6 18 (.take 7 (.take 8 (.two 11 18 (.take 12 (.take 13 (.one 18 (.one 19 (.take 20 (.take 21 .done)))))) (.two 11 19 (.take 12 (.take 13 (.one 19 (.take 20 (.take 21 .done))))) (.one 11 (.take 12 (.take 13 (.take 20 (.take 21 .done))))))))) (.two 6 19 (.take 7 (.take 8 (.two 11 19 (.take 12 (.take 13 (.one 19 (.take 20 (.take 21 .done))))) (.one 11 (.take 12 (.take 13 (.take 20 (.take 21 .done)))))))) (.one 6 (.take 7 (.take 8 (.one 11 (.take 12 (.take 13 (.take 20 (.take 21 .done))))))))))) (.two 2 19 (.take 3 (.two 6 19 (.take 7 (.take 8 (.two 11 19 (.take 12 (.take 13 (.one 19 (.take 20 (.take 21 .done))))) (.one 11 (.take 12 (.take 13 (.take 20 (.take 21 .done)))))))) (.one 6 (.take 7 (.take 8 (.one 11 (.take 12 (.take 13 (.take 20 (.take 21 .done)))))))))) (.one 2 (.take 3 (.one 6 (.take 7 (.take 8 (.one 11 (.take 12 (.take 13 (.take 20 (.take 21 .done)))))))))))))))))))))) mKr mKr Em mDe hS ?_;generalize W.drew=w1 at hS hbd |-
 iterate 10 refine aW ?_
 refine ft ?_ ?_
 .refine bY ⟨_,_,_,_,_,_⟩ rfl mRf 54 _ _ mRf [N9 Oa ((a:Nat):Int)] mRf call54 (it a _ mOm) ?_;rintro r w1⟨rfl,hb1⟩;replace hS:=aM.of_cells (e:=e) hS hb1
  (try replace hB:=(hb1.block _ (av hB)).trans hB)
  refine⟨_,rfl,hS,?_⟩;clear hb1;refine ay ?_;refine aW ?_;refine ft ?_ ?_
  .refine bY ⟨_,_,_,_,_,_⟩ rfl mRf 54 _ _ mRf [N9 Oa ((b:Nat):Int)] mRf call54 (it b _ mOm) ?_;rintro r w1⟨rfl,hb1⟩;replace hS:=aM.of_cells (e:=e) hS hb1
   (try replace hB:=(hb1.block _ (av hB)).trans hB)
   refine⟨_,rfl,hS,?_⟩;clear hb1;refine ay ?_
   iterate 2 refine aW ?_
   refine ft ?_ ?_
   .refine bY ⟨_,_,_,_,_,_⟩ rfl mRf 54 _ _ mRf [N9 Oa ((c:Nat):Int)] mRf call54 (it c _ mOm) ?_;rintro r w1⟨rfl,hb1⟩;replace hS:=aM.of_cells (e:=e) hS hb1
    (try replace hB:=(hb1.block _ (av hB)).trans hB)
    refine⟨_,rfl,hS,?_⟩;clear hb1;refine ay ?_
    iterate 2 refine aW ?_
    refine bW (bU ⟨_,_,_,_,_,_⟩ (Oc (Og ⟨w1.heap.size,0,Oh⟩) 1 1) (w1.alloc (Of #[N9 .u8 (48+e.kind)] 5)) rfl mRf ?_ ?_)
    .go_simp
    refine lA ?_;intro hB hS
    generalize w1.heap.size=nb at hB |-;generalize w1.alloc (Of #[N9 .u8 (48+e.kind)] 5)=w2 at hB hS |-;obtain⟨w1,rfl⟩:∃w,w=w2:=⟨_,rfl⟩;refine ay ?_;exact sq
   .refine bU ⟨_,_,_,_,_,_⟩ (Oc (Og ⟨w1.heap.size,0,Oh⟩) 1 1) (w1.alloc (Of #[N9 .u8 (48+e.kind)] 5)) rfl mRf ?_ ?_
    .go_simp
    refine lA ?_;intro hB hS
    generalize w1.heap.size=nb at hB |-;generalize w1.alloc (Of #[N9 .u8 (48+e.kind)] 5)=w2 at hB hS |-;obtain⟨w1,rfl⟩:∃w,w=w2:=⟨_,rfl⟩;refine ay ?_;refine ft ?_ ?_
    .refine bY ⟨_,_,_,_,_,_⟩ rfl mRf 54 _ _ mRf [N9 Oa ((c:Nat):Int)] mRf call54 (it c _ mOm) ?_;rintro r w1⟨rfl,hb1⟩;replace hS:=aM.of_cells (e:=e) hS hb1
     (try replace hB:=(hb1.block _ (av hB)).trans hB)
     refine⟨_,rfl,hS,?_⟩;clear hb1;refine ay ?_
     iterate 2 refine aW ?_
     exact sq
    .refine bU ⟨_,_,_,_,_,_⟩ (Ob ⟨#[UInt8.ofNat (48+e.kind).toNat]⟩) w1 rfl mRf ?_ ?_
     .have hcv:=mP w1 nb _ (ae hB 0)
      go_simp
     refine⟨hS,?_⟩
     refine ay ?_;exact ry
  .refine bU ⟨_,_,_,_,_,_⟩ (Oc (Og ⟨w1.heap.size,0,Oh⟩) 1 1) (w1.alloc (Of #[N9 .u8 (48+e.kind)] 5)) rfl mRf ?_ ?_
   .go_simp
   refine lA ?_;intro hB hS
   generalize w1.heap.size=nb at hB |-;generalize w1.alloc (Of #[N9 .u8 (48+e.kind)] 5)=w2 at hB hS |-;obtain⟨w1,rfl⟩:∃w,w=w2:=⟨_,rfl⟩;refine ay ?_;exact rU
 .refine bU ⟨_,_,_,_,_,_⟩ (Oc (Og ⟨w1.heap.size,0,Oh⟩) 1 1) (w1.alloc (Of #[N9 .u8 (48+e.kind)] 5)) rfl mRf ?_ ?_
  .go_simp
  refine lA ?_;intro hB hS
  generalize w1.heap.size=nb at hB |-;generalize w1.alloc (Of #[N9 .u8 (48+e.kind)] 5)=w2 at hB hS |-;obtain⟨w1,rfl⟩:∃w,w=w2:=⟨_,rfl⟩;refine ay ?_;refine ft ?_ ?_
  .refine bY ⟨_,_,_,_,_,_⟩ rfl mRf 54 _ _ mRf [N9 Oa ((a:Nat):Int)] mRf call54 (it a _ mOm) ?_;rintro r w1⟨rfl,hb1⟩;replace hS:=aM.of_cells (e:=e) hS hb1
   (try replace hB:=(hb1.block _ (av hB)).trans hB)
   refine⟨_,rfl,hS,?_⟩;clear hb1;refine ay ?_;refine aW ?_;exact rU
  .refine bU ⟨_,_,_,_,_,_⟩ (Ob ⟨#[UInt8.ofNat (48+e.kind).toNat]⟩) w1 rfl mRf ?_ ?_
   .have hcv:=mP w1 nb _ (ae hB 0)
    go_simp
   refine⟨hS,?_⟩
   refine ay ?_;refine bW (bY ⟨_,_,_,_,_,_⟩ rfl mRf 54 _ _ mRf [N9 Oa ((a:Nat):Int)] mRf call54 (it a _ mOm) ?_);rintro r w1⟨rfl,hb1⟩;replace hS:=aM.of_cells (e:=e) hS hb1
   (try replace hB:=(hb1.block _ (av hB)).trans hB)
   refine⟨_,rfl,hS,?_⟩;clear hb1;refine ay ?_;refine aW ?_;refine qB ?_;intro w1 hb1 hS
   (try replace hB:=(hb1.block _ (av hB)).trans hB)
   refine⟨_,rfl,hS,?_⟩;clear hb1;refine ay ?_
   iterate 2 refine aW ?_
   exact ry
theorem ua(e:Ent)(h:e.Ok)(w:World) :
  Calls prog 21 #[e.val] w fun x w'=>x=Oe (Ob ⟨(fW e).toArray⟩)/\ac w.heap.size w w':=by
 have hC:=fun w=>vH e h w
 have hcell:=fun w1 (hb:ac (w.alloc (Of e.cells 67)).heap.size (w.alloc (Of e.cells 67)) w1)=>(aM.new w e).below hb
 by_cases h0:dQ e=0
 .have hr:fW e=gR e:=by unfold fW;rw[if_pos h0]
  obtain⟨s,o,i,k,h1,h2,h3,h4,b1,b2,b3,b4,b5⟩:=Bj h0;have hk9:1<=e.kind/\e.kind<=9:=mOm;have H:=aa hr;have H1:=aa h1;have H2:=aa h2;have H3:=aa h3;rw[h0] at hC;clear hr h0 h1 h2 h3 h4;go_enter func21,ntmps21;go_wp2_with fail;refine(hC _).mono ?_;rintro r w1⟨rfl,hb1⟩;have hx:=hcell w1 hb1;have hbe:ac w.heap.size w w1:=(aq w _).trans (hb1.mono mSi);clear hb1;go_wp2_with fail;refine IR w.heap.size s o i e _ _ hx H1.out H2.out H3.out b1 b2 b3 hk9 ?_;rintro u6 u7 u8 u9 a0 a1 a2 a3 a4 a5 a6 a7 a8 a9 ab ad af ag ao b0 b6 st wx rfl hb2;go_wp2_with fail;go_ret;exact⟨cU (by rw[H.out]),hbe.trans (hb2.mono hbe.size)⟩
 .have hr:fW e=[]:=by unfold fW;rw[if_neg h0]
  have hne:(dQ e != 0)=true:=by simpa using h0
  have H:=aa hr;clear hr h0;go_enter func21,ntmps21;go_wp2_with fail;refine(hC _).mono ?_;rintro r w1⟨rfl,hb1⟩;have hbe:ac w.heap.size w w1:=(aq w _).trans (hb1.mono mSi);go_wp2_with fail;go_ret;exact⟨cU (by rw[H.out]),hbe⟩
end
section
attribute [local go_sem] Ent.cells
theorem sm{p:Prop} (h:p:=by
 (try simp only[Exit.inBlock,Exit.then]);refine bodyPost_ret (lm results81 _ _ (w.heap.size+1+1) entZ rfl (gi hzb _)) rfl ⟨?_,?_⟩
 .rw[HV.out,HE1.out];rfl
 .exact bu hbw mOm _):p:=h
theorem qF{p q:Prop}(h:q) (f:Wq q->p:=by
 intro hq;have hS0:ac W.heap.size W W.drew/\(∀j,W.drew.cell? ⟨w.heap.size+1,j,Oh⟩=e1.cells[j]?)/\W.drew.cell? ⟨w.heap.size,0,Oh⟩=Og (N9 Oa sc)/\W.drew.cell? ⟨w.heap.size,1,Oh⟩=Og (Oc (Og ⟨g,0,Oh⟩) l.length c):=⟨(Below.refl _ _).drew,heb2.cell,ae hrb2 0,ae hrb2 1⟩;refine aD (S:=fun w'=>ac W.heap.size W w'/\(∀j,w'.cell? ⟨w.heap.size+1,j,Oh⟩=e1.cells[j]?)/\w'.cell? ⟨w.heap.size,0,Oh⟩=Og (N9 Oa sc)/\w'.cell? ⟨w.heap.size,1,Oh⟩=Og (Oc (Og ⟨g,0,Oh⟩) l.length c)) [(0,true),(1,true),(2,true),(3,false),(4,false),(5,true),(6,true),(7,true),(8,true),(9,true)] hS0 ?_;have hS:=hS0
 iterate 2 refine ak ?_
 refine uQ ⟨_,_,_,_,_,_⟩ e1 (w.heap.size+1) rfl mRf _ mRf mRf (fun w hS=>hS.2.1) ?_;refine ay ?_
 revert hS0 hS
 exact hq.1):p:=f ⟨h⟩
theorem lx{p q:Prop}(h:q) (f:Wq q->p:=by
 intro hq;refine hC.mono ?_;rintro x w1⟨rfl,hb1⟩;have hbw:=hb0.trans (hb1.mono hb0.size);have hzb:aM w1 (w.heap.size+1+1) entZ:=(hb1.block _ (av hz0)).trans hz0
 revert w1 hb1 hbw hzb
 exact hq.1):p:=f ⟨h⟩
theorem qC{p q:Prop}(h:q) (f:Wq q->p:=by
 intro hq;have hzb2:=hzb.far2 (b':=w.heap.size+1) mOm 13 (N9 Oa id);have heb2:=heb.set 13 (N9 Oa id) hset.out;have hbw2:=hbw.setCell (p:=⟨w.heap.size+1,13,Oh⟩) (by show w.heap.size<=w.heap.size+1;omega) (N9 Oa id);have hrb2:=(Below.heap_setCell w1 ⟨w.heap.size+1,13,Oh⟩ (N9 Oa id) w.heap.size (by show w.heap.size≠w.heap.size+1;omega)).trans hrb
 revert hzb2 heb2 hbw2 hrb2
 exact hq.1):p:=f ⟨h⟩
theorem qO{p q:Prop}(h:q) (f:Wq q->p:=by
 intro hq;have heb:aM w1 (w.heap.size+1) e:=(hb1.block _ (av he0)).trans he0;have hrb:=(hb1.block _ (av hr0)).trans hr0;have hc1:=heb.cell 1;have hc2:=ae hrb 0;have hc3:=ae hrb 1;have hT1:=hT.below hbw;have hk1:=hk.below hbw hg
 revert heb hrb hc1 hc2 hc3 hT1 hk1
 exact hq.1):p:=f ⟨h⟩
theorem Ek(g c:Nat)(sc:Int)(l:List bG)(id:Int)(e:Ent)(w:World)(hl:l.length<=1000)(hk:cR w g l)(hsz:∀k∈l,k.secret.size<=100000)(hg:g<w.heap.size)(hs:I64 sc)(hi:I64 id)(he:e.Ok)(hT:Tabs w) :
  Calls prog 81 #[.agg #[N9 Oa sc,Oc (Og ⟨g,0,Oh⟩) l.length c],N9 Oa id,e.val] w
   fun x w'=>x=Oe (Lh l sc id e)/\ac w.heap.size w w':=by
 obtain⟨hb0,hr0,he0,hz0⟩:=vY (w:=w) (Of #[N9 Oa sc,Oc (Og ⟨g,0,Oh⟩) l.length c] 33) (Of e.cells 67) (Of entZ.cells 67);have hC:=vH e he (((w.alloc (Of #[N9 Oa sc,Oc (Og ⟨g,0,Oh⟩) l.length c] 33)).alloc (Of e.cells 67)).alloc (Of entZ.cells 67));have HV:=aa (show Lh l sc id e=.tuple #[(oL l sc id e).1.val,N9 Oa (oL l sc id e).2] from rfl);have HE:=aa (KJ l sc id e);by_cases hc:dQ e=0
 rotate_left 1
 .have HE1:=aa (HE.out.trans (if_pos hc));have hcb:(dQ e != 0)=true:=by simpa using hc
  clear HE hc;generalize dQ e=cv at *;go_enter func81,ntmps81;go_wp2_with fail;refine lx ?_;intro w1 hb1 hbw hzb;clear hC hr0 he0 hz0 hb1;go_wp2_with ((with_reducible refine wpList_store_row (o:=⟨Oh,.store 67 (.tmp 6) (.tmp 14),_,_,_,_⟩) ?_ 67 (.tmp 6) (.tmp 14) ?_ (w.heap.size+1+1) (Ent.cells entZ) ?_ ?_ 67 (Ent.cells entZ) ?_ ?_ ?_ ?_ ?_);rfl;rfl;rfl;rfl;exact hzb;kernel_rfl;rfl;simp[Ent.cells,entZ,Value.oneCell']);exact sm
 rw[hc] at hC
 by_cases hq:e.school=sc
 rotate_left 1
 .have HE1:=aa ((HE.out.trans (if_neg (by simp[hc]))).trans (if_pos hq));have hqb:(e.school != sc)=true:=by simpa using hq
  have hcb:(dQ e != 0)=false:=by simpa using hc
  clear HE hc hq;go_enter func81,ntmps81;go_wp2_with fail;refine lx ?_;intro w1 hb1 hbw hzb;have hc1:=ae ((hb1.block _ (av he0)).trans he0) 1;have hc2:=ae ((hb1.block _ (av hr0)).trans hr0) 0;clear hC hr0 he0 hz0 hb1;go_wp2_with ((with_reducible refine wpList_store_row (o:=⟨Oh,.store 67 (.tmp 6) (.tmp 21),_,_,_,_⟩) ?_ 67 (.tmp 6) (.tmp 21) ?_ (w.heap.size+1+1) (Ent.cells entZ) ?_ ?_ 67 (Ent.cells entZ) ?_ ?_ ?_ ?_ ?_);rfl;rfl;rfl;rfl;exact hzb;kernel_rfl;rfl;simp[Ent.cells,entZ,Value.oneCell']);exact sm
 have HE1:=aa ((HE.out.trans (if_neg (by simp[hc]))).trans (if_neg (by simp[hq])))
 have hok:({ e with key:=id }:Ent).Ok:=⟨he.id,he.school,he.student,he.kind,he.day,he.on,he.credits,he.grade,he.ref,he.fro,he.programme,he.version,hi,he.course,he.mark⟩;have hB:=fun w (_:Tabs w)=>xG { e with key:=id } hok w
 have hbl:=pL { e with key:=id } hok;have hcs:=he.course;have hK:=fun w hk hg (_:Tabs w)=>tj g c sc l id ⟨({ e with key:=id }:Ent).body.toArray⟩ w hl hk hsz hg hs hi (by show({ e with key:=id }:Ent).body.length<=_;have:=hbl;simp only at this;omega)
 generalize hbd:(⟨({ e with key:=id }:Ent).body.toArray⟩:ByteArray)=bd at HE1 hB hK;obtain⟨m,n,hmn,hn⟩:=Gp l sc id bd;rw[hmn] at HE1 hK;have hqb:(e.school != sc)=false:=by simpa using hq
 clear HE hbl hcs hbd hmn;generalize hk1:({ e with key:=id }:Ent)=e1 at hB hok HE1;have hset:Hid (e.cells.setIfInBounds 13 (.int .i64 id)=e1.cells):=aa (by rw[<-hk1];rfl);have hset2:Hid (e1.cells.setIfInBounds 14 (.string m)=({ e with key:=id,mark:=m }:Ent).cells):=aa (by rw[<-hk1];rfl);have HE2:=aa (show oL l sc id e=(if (n:Int)≠0 then (entZ,n) else ({ e with key:=id,mark:=m },0)) from HE1.out);generalize ({ e with key:=id,mark:=m }:Ent)=e2 at hset2 HE2;clear hc HE1 hk1 hq;rcases hn with rfl|rfl
 .replace HE2:=aa (HE2.out.trans (if_neg mDe));go_enter func81,ntmps81;go_wp2_with fail;refine lx ?_;intro w1 hb1 hbw hzb;refine qO ?_;intro heb hrb hc1 hc2 hc3 hT1 hk1;have hg1:g<w1.heap.size:=by have:=hbw.size;omega
  have hfr:=heb.frozen 13;have hc13:w1.cell? ⟨w.heap.size+1,13,Oh⟩=Og (N9 Oa e.key):=heb.cell 13;clear hC hr0 he0 hz0 hb1 hb0;go_wp2_with fail;refine qC ?_;intro hzb2 heb2 hbw2 hrb2;clear hzb heb hc1 hc2 hc3 hrb hfr hT1 hk1 hg1 hc13;generalize w1.setCell ⟨w.heap.size+1,13,Oh⟩ (N9 Oa id)=W at *;have hTW:=hT.below hbw2;have hkW:=hk.below hbw2 hg;have hgW:g<W.heap.size:=by have:=hbw2.size;omega
  refine qF ?_;intro hS0 hS;refine aJ 23 call23 (hB _ (hTW.below hS.1)) ?_;rintro x wn⟨rfl,hb⟩;replace hS:=uc hS hb;refine⟨_,rfl,hS,?_⟩;(try clear hb);refine ay ?_;refine aJ 129 call129 (hK _ (hkW.below hS.1 hgW) (by have:=hS.1.size;omega) (hTW.below hS.1)) ?_;rintro x wn⟨rfl,hb⟩;replace hS:=uc hS hb;refine⟨_,rfl,hS,?_⟩;(try clear hb);refine ay ?_
  iterate 5 refine ak ?_
  simp only[aQ,aZ];have hbw3:=hbw2.trans (hS.1.mono hbw2.size);have hzb:=hzb2.below hS.1;have heb3:=heb2.below hS.1;clear hS hS0 hkW hTW hrb2 hzb2 heb2 hB hK hk;have hfr:=heb3.frozen 14;have hc14:wn.cell? ⟨w.heap.size+1,14,Oh⟩=Og (Ob e1.mark):=heb3.cell 14;have hat:=(heb3.set 14 (Ob m) hset2.out).at_;replace hzb:=hzb.far2 (b':=w.heap.size+1) mOm 14 (Ob m);have hbw4:=hbw3.setCell (p:=⟨w.heap.size+1,14,Oh⟩) (by show w.heap.size<=w.heap.size+1;omega) (Ob m);clear hbw hbw2 hbw3 heb3 hset2 hset
  go_wp2_with (first
   | ((with_reducible refine wpList_load_mid (op:=⟨_,_,_,_,_,_⟩) ?_ 67 (.tmp 5) ?_ (w.heap.size+1) 0 ?_ (Ent.cells e2).toList _ ?_ underlying67 ?_ ?_ ?_);rfl;rfl;rfl;exact hat;rfl;kernel_rfl)
   | ((with_reducible refine wpList_store_row (o:=⟨none,.store 67 (.tmp 6) (.tmp 38),_,_,_,_⟩) ?_ 67 (.tmp 6) (.tmp 38) ?_ (w.heap.size+1+1) (Ent.cells e2) ?_ ?_ 67 (Ent.cells entZ) ?_ ?_ ?_ ?_ ?_);rfl;rfl;rfl;rfl;exact hzb;kernel_rfl;rfl;simp[Ent.cells,Value.oneCell']))
  (try simp only[Exit.inBlock,Exit.then]);refine bodyPost_ret (lm results81 _ _ (w.heap.size+1+1) e2 rfl (gi hzb _)) rfl ⟨?_,?_⟩
  .rw[HV.out,HE2.out];rfl
  .exact bu hbw4 mOm _
 .replace HE2:=aa (HE2.out.trans (if_pos mDe));go_enter func81,ntmps81;go_wp2_with fail;refine lx ?_;intro w1 hb1 hbw hzb;refine qO ?_;intro heb hrb hc1 hc2 hc3 hT1 hk1;have hg1:g<w1.heap.size:=by have:=hbw.size;omega
  have hfr:=heb.frozen 13;have hc13:w1.cell? ⟨w.heap.size+1,13,Oh⟩=Og (N9 Oa e.key):=heb.cell 13;clear hC hr0 he0 hz0 hb1 hb0;go_wp2_with fail;refine qC ?_;intro hzb2 heb2 hbw2 hrb2;clear hzb heb hc1 hc2 hc3 hrb hfr hT1 hk1 hg1 hc13;generalize w1.setCell ⟨w.heap.size+1,13,Oh⟩ (N9 Oa id)=W at *;have hTW:=hT.below hbw2;have hkW:=hk.below hbw2 hg;have hgW:g<W.heap.size:=by have:=hbw2.size;omega
  refine qF ?_;intro hS0 hS;refine aJ 23 call23 (hB _ (hTW.below hS.1)) ?_;rintro x wn⟨rfl,hb⟩;replace hS:=uc hS hb;refine⟨_,rfl,hS,?_⟩;(try clear hb);refine ay ?_;refine aJ 129 call129 (hK _ (hkW.below hS.1 hgW) (by have:=hS.1.size;omega) (hTW.below hS.1)) ?_;rintro x wn⟨rfl,hb⟩;replace hS:=uc hS hb;refine⟨_,rfl,hS,?_⟩;(try clear hb);refine ay ?_
  iterate 5 refine ak ?_
  simp only[aQ,aZ];have hbw3:=hbw2.trans (hS.1.mono hbw2.size);have hzb:=hzb2.below hS.1;have heb3:=heb2.below hS.1;clear hS hS0 hkW hTW hrb2 hzb2 heb2 hB hK hk;go_wp2_with ((with_reducible refine wpList_store_row (o:=⟨Oh,.store 67 (.tmp 6) (.tmp 34),_,_,_,_⟩) ?_ 67 (.tmp 6) (.tmp 34) ?_ (w.heap.size+1+1) (Ent.cells entZ) ?_ ?_ 67 (Ent.cells entZ) ?_ ?_ ?_ ?_ ?_);rfl;rfl;rfl;rfl;exact hzb;kernel_rfl;rfl;simp[Ent.cells,entZ,Value.oneCell'])
  (try simp only[Exit.inBlock,Exit.then]);refine bodyPost_ret (lm results81 _ _ (w.heap.size+1+1) entZ rfl (gi hzb _)) rfl ⟨?_,?_⟩
  .rw[HV.out,HE2.out];rfl
  .exact bu hbw3 mOm _
