/- Lemmas. -/
import Derived.Test.YtnlhbdmeodbblaaGreatDoorMtat
import Derived.Test.YtnlhbdmeodbblaaGreatDoorMtav
set_option maxRecDepth 100000
set_option maxHeartbeats 16000000
set_option linter.all false
open Go.Proofs.Tryz
open Go.IntWalk renaming i64_in->aH
open Go.Lib renaming cell_of_heap->ae,hid->aa,itoa->dC
open Go.RowKit renaming Below->ac
open Go.Ending renaming returned->Oe
open Go.IntKind renaming i64->Oa
open Go.Obj renaming cells->Of
open Go.Value renaming int->N9,string->Ob,slice->Oc
open Option renaming some->Og,none->Oh
namespace Go.Proofs.YtnlhbdmeodbblaaGreatDoor
section
open Go Go.Proofs Go.RowKit Go.Sort Go.Lib
attribute [local go_sem] mz xq
theorem lS{n:Nat}(h:n<10):dC (n:Int)=[UInt8.ofNat (48+n%10)]:=by
 rw[jD (n:=(n:Int)) mOm mOm,Nat.mod_eq_of_lt h]
 congr 1
theorem pZ{n:Nat}(h:¬n<10):dC (n:Int)=dC ((n / 10:Nat):Int)++[UInt8.ofNat (48+n%10)]:=by
 rw[lN (n:=(n:Int)) mOm]
 congr 1
 rw[show(n:Int)%10=((n%10:Nat):Int) by omega,lS mOm,Nat.mod_mod]
theorem Dj{n:Nat}(hn:n<=999999):(dC (n:Int)).length<=6/\dl n=[48,48,48,48,48,48].take (6-(dC (n:Int)).length)++dC (n:Int):=by
 by_cases h1:n<10
 .rw[lS h1];refine⟨mSi,?_⟩;unfold dl;rw[show n / 10=0 by omega];rfl
 rw[pZ h1]
 by_cases h2:n / 10<10
 .rw[lS h2];refine⟨mSi,?_⟩;unfold dl;rw[show n / 10 / 10=0 by omega];rfl
 rw[pZ h2]
 by_cases h3:n / 10 / 10<10
 .rw[lS h3];refine⟨mSi,?_⟩;unfold dl;rw[show n / 10 / 10 / 10=0 by omega];rfl
 rw[pZ h3]
 by_cases h4:n / 10 / 10 / 10<10
 .rw[lS h4];refine⟨mSi,?_⟩;unfold dl;rw[show n / 10 / 10 / 10 / 10=0 by omega];rfl
 rw[pZ h4]
 by_cases h5:n / 10 / 10 / 10 / 10<10
 .rw[lS h5];refine⟨mSi,?_⟩;unfold dl;rw[show n / 10 / 10 / 10 / 10 / 10=0 by omega];rfl
 rw[pZ h5,lS (n:=n / 10 / 10 / 10 / 10 / 10) mOm]
 exact⟨mSi,rfl⟩
theorem sU(n:Nat)(w:World)(hn:n<=999999)(ht:Tabs w) :
  Calls prog 208 #[N9 Oa n] w fun e w'=>e=Oe (Ob ⟨(dl n).toArray⟩)/\ac w.heap.size w w':=by
 have ci:=lT (n:Int) w mOm mOm ht;have hl:(dC (n:Int)).length<=6:=(Dj hn).1;have hsx:=aa (Dj hn).2;generalize dC (n:Int)=s at *;have hsz:(⟨s.toArray⟩:ByteArray).size=s.length:=by simp[ByteArray.size]
 have hSd:(⟨s.toArray⟩:ByteArray).data.toList=s:=mSi;generalize (⟨s.toArray⟩:ByteArray)=S at *;have HSD:=aa hSd;clear hSd;obtain⟨q,hq⟩:∃q,q=6-s.length:=⟨_,rfl⟩;have a1:IntKind.i64.wrap (6-(S.size:Int))=(q:Int):=by rw[show 6-(S.size:Int)=(q:Int) by omega];exact fY _ _ rfl mOm
 have hq6:(q:Int)<=6:=mOm;have HQ:=aa hq;clear hq ht;go_enter func208,ntmps208;go_wp2_with fail;refine ci.mono ?_;rintro _ w1⟨rfl,hb1⟩;go_wp2_with fail;go_ret;exact⟨cU (dL (by simp[hsx.out,HSD.out])),hb1⟩
theorem sO(n:Nat)(w:World)(hn:n<=999999) :
  Calls prog 189 #[N9 Oa n] w fun e w'=>e=Oe (Ob ⟨(dl n).toArray⟩)/\ac w.heap.size w w':=by
 go_enter func189,ntmps189;go_wp2_with fail;refine wp_loop_rounds 7 ?_;rw[rounds_succ];go_wp2_with fail;rw[rounds_succ];go_wp2_with fail;rw[rounds_succ];go_wp2_with fail;rw[rounds_succ];go_wp2_with fail;rw[rounds_succ];go_wp2_with fail;rw[rounds_succ];go_wp2_with fail;rw[rounds_succ];go_wp2_with fail;go_ret;exact⟨cU rfl,(Below.refl _ _).alloc (Nat.le_refl _) _⟩
theorem rP{p:Prop} (h:p:=by
 refine ay ?_;refine bW (bU ⟨_,_,_,_,_,_⟩ (Ob ⟨#[UInt8.ofNat (IntKind.u8.wrap (IntKind.i64.wrap (48+n.tmod 10))).toNat]⟩) w1 rfl mRf ?_ ?_)
 .have hcv:=mP w1 nb _ (ae hB 0)
  go_simp
 refine⟨hS,?_⟩
 refine ay ?_
 iterate 2 refine aW ?_
 simp only[dB,aZ];clear hw1;go_wp2_with fail;go_ret
 exact⟨cU (dL (by simp[H.out,HF.out.1,HF.out.2])),hS⟩):p:=h
theorem qu{p q:Prop}(h:q) (f:Wq q->p:=by
 intro hq;have hB:=heap_alloc_new w1 (Of #[N9 .u8 (IntKind.u8.wrap (IntKind.i64.wrap (48+n.tmod 10)))] 5);replace hS:=ah hS (aq w1 (Of #[N9 .u8 (IntKind.u8.wrap (IntKind.i64.wrap (48+n.tmod 10)))] 5));refine⟨hS,?_⟩
 revert hB hS
 exact hq.1):p:=f ⟨h⟩
theorem Eu(k:Nat):∀(n:Int)(w:World),0<=n->n<k->n<=9223372036854775807->
  Calls prog 141 #[N9 Oa n] w fun e w'=>e=Oe (Ob ⟨(dC n).toArray⟩)/\ac w.heap.size w w':=by
 induction k with
 | zero=>intro n w h0 h1 _;omega
 | succ k ih =>
  intro n w h0 h1 h2;by_cases hs:n<10
  .have hw:IntKind.i64.wrap (48+n)=48+n:=aH _ mOm;have H:=aa (jD h0 hs);go_enter func141,ntmps141;go_wp2_with fail;go_ret;exact⟨cU (by rw[H.out]),aq _ _⟩
  .have hl1:=Lib.itoa_length_le (n / 10) mOm mOm;have H:=aa (lN (n:=n) mOm);have c1:=fun w=>ih (n / 10) w mOm mOm mOm
   clear ih;go_enter func141,ntmps141;go_wp2_with fail;have hw1:IntKind.i64.wrap (48+n%10)=48+n%10:=aH _ mOm;have hl2:¬9223372036854775807<(itoa (n / 10)).length+1:=mOm;have hd1:IntKind.i64.wrap (n.tdiv 10)=n / 10:=by rw[Int.tdiv_eq_ediv_of_nonneg h0];exact aH _ mOm
   have HF:Hid (UInt8.ofNat (IntKind.u8.wrap (IntKind.i64.wrap (48+n.tmod 10))).toNat=UInt8.ofNat (48+n%10).toNat/\itoa (n%10)=[UInt8.ofNat (48+n%10).toNat]):=aa (by
    rw[Int.tmod_eq_emod_of_nonneg h0,hw1]
    exact⟨by congr 2;simp[IntKind.wrap,IntKind.signed,IntKind.bits];omega,by rw[jD mOm mOm]⟩)
   have hs1:(⟨(itoa (n / 10)).toArray⟩:ByteArray).size=(itoa (n / 10)).length:=by simp[ByteArray.size]
   have hS:ac w.heap.size w w.drew:=(Below.refl _ w).drew;refine gJ (S:=fun w'=>ac w.heap.size w w') (.take 0 (.take 1 (.take 3 (.take 4 (.take 5 (.take 6 (.two 2 7 (.one 7 (.one 8 (.take 9 (.take 10 .done)))) (.two 2 8 (.one 8 (.take 9 (.take 10 .done))) (.one 2 (.take 9 (.take 10 .done))))))))))) hS ?_;generalize w.drew=w1 at hS |-
   iterate 6 refine aW ?_
   refine ft ?_ ?_
   .refine bY ⟨_,_,_,_,_,_⟩ rfl mRf 141 _ _ mRf [N9 Oa (n / 10)] mRf call141 (c1 _) ?_;rintro r w1⟨rfl,hb1⟩;replace hS:=ah hS hb1
    (try replace hB:=(hb1.block _ (av hB)).trans hB)
    refine⟨_,rfl,hS,?_⟩;clear hb1;refine ay ?_;refine bW (bU ⟨_,_,_,_,_,_⟩ (Oc (Og ⟨w1.heap.size,0,Oh⟩) 1 1) (w1.alloc (Of #[N9 .u8 (IntKind.u8.wrap (IntKind.i64.wrap (48+n.tmod 10)))] 5)) rfl mRf ?_ ?_)
    .go_simp
    refine qu ?_;intro hB hS
    generalize w1.heap.size=nb at hB |-;generalize w1.alloc (Of #[N9 .u8 (IntKind.u8.wrap (IntKind.i64.wrap (48+n.tmod 10)))] 5)=w2 at hB hS |-;obtain⟨w1,rfl⟩:∃w,w=w2:=⟨_,rfl⟩;exact rP
   .refine bU ⟨_,_,_,_,_,_⟩ (Oc (Og ⟨w1.heap.size,0,Oh⟩) 1 1) (w1.alloc (Of #[N9 .u8 (IntKind.u8.wrap (IntKind.i64.wrap (48+n.tmod 10)))] 5)) rfl mRf ?_ ?_
    .go_simp
    refine qu ?_;intro hB hS
    generalize w1.heap.size=nb at hB |-;generalize w1.alloc (Of #[N9 .u8 (IntKind.u8.wrap (IntKind.i64.wrap (48+n.tmod 10)))] 5)=w2 at hB hS |-;obtain⟨w1,rfl⟩:∃w,w=w2:=⟨_,rfl⟩;refine ay ?_;refine ft ?_ ?_
    .refine bY ⟨_,_,_,_,_,_⟩ rfl mRf 141 _ _ mRf [N9 Oa (n / 10)] mRf call141 (c1 _) ?_;rintro r w1⟨rfl,hb1⟩;replace hS:=ah hS hb1
     (try replace hB:=(hb1.block _ (av hB)).trans hB)
     refine⟨_,rfl,hS,?_⟩;clear hb1;exact rP
    .refine bU ⟨_,_,_,_,_,_⟩ (Ob ⟨#[UInt8.ofNat (IntKind.u8.wrap (IntKind.i64.wrap (48+n.tmod 10))).toNat]⟩) w1 rfl mRf ?_ ?_
     .have hcv:=mP w1 nb _ (ae hB 0)
      go_simp
     refine⟨hS,?_⟩
     refine ay ?_;refine bW (bY ⟨_,_,_,_,_,_⟩ rfl mRf 141 _ _ mRf [N9 Oa (n / 10)] mRf call141 (c1 _) ?_);rintro r w1⟨rfl,hb1⟩;replace hS:=ah hS hb1
     (try replace hB:=(hb1.block _ (av hB)).trans hB)
     refine⟨_,rfl,hS,?_⟩;clear hb1;refine ay ?_
     iterate 2 refine aW ?_
     simp only[dB,aZ];clear hw1;go_wp2_with fail;go_ret;exact⟨cU (dL (by simp[H.out,HF.out.1,HF.out.2])),hS⟩
