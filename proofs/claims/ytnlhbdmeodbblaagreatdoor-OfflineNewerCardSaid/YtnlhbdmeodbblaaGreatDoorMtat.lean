/- Lemmas. -/
import Derived.Test.YtnlhbdmeodbblaaGreatDoorMtap
import Derived.Laws.OwnMore
import Derived.Test.YtnlhbdmeodbblaaGreatDoorMtal
import Derived.Test.YtnlhbdmeodbblaaGreatDoorMtah
set_option maxRecDepth 100000
set_option maxHeartbeats 16000000
set_option linter.all false
open Go.Proofs.Tryz
open Bool renaming not_false->jO
open Int renaming toNat_natCast->cI
open Go.IntWalk renaming i64_in->aH
open Go.Lib renaming hid->aa
open List renaming append_nil->dq,eq_nil_of_length_eq_zero->bn,filter_append->dV,getD_eq_getElem?_getD->bi,getElem?_drop->el,getElem?_eq_getElem->ai,getElem?_eq_some_iff->aA,getElem?_map->en,getElem?_take_of_lt->dN,length_drop->bD,length_map->aU,length_singleton->aB,length_take->aI,map_map->mL,mem_map->ff,nil_append->dI,take_add_one->aR,take_append_drop->cP,take_length->aT,take_of_length_le->du
open Nat renaming add_zero->ew,le_refl->az,le_trans->aV,zero_le->aP
open Go.RowKit renaming Below->ac,intOf->aw
open Go.World renaming block_lt_of_cell?->al,ownsRow_lit->kg,ownsRow_nil->dX
open Go.Ending renaming returned->Oe
open Go.IntKind renaming i64->Oa
open Go.Obj renaming cells->Of
open Go.Value renaming int->N9,string->Ob,slice->Oc,pointer->Od
open Option renaming some->Og,none->Oh
namespace Go.Proofs.YtnlhbdmeodbblaaGreatDoor
open Go Go.RowKit Go.Sort Go.Lib
section
def lfD(l:List ByteArray)(i:Nat):ByteArray:=rh (l.getD i ⟨#[]⟩)
theorem oO(l:List ByteArray):∀t b,(lJ bw (lfD l) t b).size=8
 | 0,_=>rfl
 | _+1,_=>rfl
theorem ub(l:List ByteArray)(p:Option Addr)(c:Nat)(hz:∀s∈l,s.size<=100000000)(hn:l.length<=1000000):∀(t b:Nat)(w:World),b+2^t<=l.length->ar bV w (Oc p l.length c) l->
  Calls prog 258 #[Oc p l.length c,N9 Oa b,N9 Oa (2^t:Nat)] w fun e w'=>e=Oe (Ob (lJ bw (lfD l) t b))/\ac w.heap.size w w'
 | 0,b,w,hb,hl=>by
  have hlt:b<l.length:=by have:2^0=1:=rfl;omega
  obtain⟨g,o,rfl,hg,hcv⟩:=gb hl rfl mOm;have hge:=ai hlt;have q0:=hcv b _ hge;have hs:=hz _ (List.getElem_mem hlt);have hD:lJ bw (lfD l) 0 b=rh l[b]:=by show lfD l b=_;unfold lfD;rw[bi,hge];rfl
  rw[hD];have i1:(b:Int)<(l.length:Int):=mOm;have co:=Eg l[b] hs w;generalize l[b]=s at *;rw[show((2^0:Nat):Int)=1 from rfl];have HL:=aa (And.intro hl hz);clear hl hz hcv hge;go_enter func258,ntmps258;go_wp2_with fail;refine co.mono ?_;rintro _ w1⟨rfl,hb1⟩;go_wp2_with fail;go_ret;exact⟨rfl,hb1⟩
 | t+1,b,w,hb,hl=>by
  have h2:2^(t+1)=2*2^t:=by rw[Nat.pow_succ];omega
  rw[h2] at hb |-;have h1:=Nat.two_pow_pos t;have ih1:=ub l p c hz hn t b w mOm hl;have ih2:=fun w1 (hb1:ac w.heap.size w w1)=>ub l p c hz hn t (b+2^t) w1 mOm (hl.below hb1)
  have s1:=oO l t b;have s2:=oO l t (b+2^t);have HJ:=aa (show lJ bw (lfD l) (t+1) b=bw (lJ bw (lfD l) t b) (lJ bw (lfD l) t (b+2^t)) from rfl);rw[HJ.out];generalize lJ bw (lfD l) t b=x at *;generalize lJ bw (lfD l) t (b+2^t)=y at *;generalize 2^t=h at *;obtain⟨q,hq⟩:∃q,q=b+h:=⟨_,rfl⟩;have a1:IntKind.i64.wrap ((b:Int)+(h:Int))=(q:Int):=fY _ _ mOm mOm;have hqt:IntKind.i64.wrap (((2*h:Nat):Int) / 2)=(h:Int):=by rw[show((2*h:Nat):Int) / 2=(h:Int) by omega];exact fY _ _ rfl mOm
  obtain⟨g2,hg2⟩:∃g2:Nat,g2=2*h:=⟨_,rfl⟩
  rw[<-hq] at ih2;rw[<-hg2] at hqt |-;have t1:((g2:Int)==1)=false:=by rw[beq_eq_false_iff_ne];omega
  have cn:=fun w=>yj x y mOm mOm w
  have HH:=aa (And.intro hg2 hq);have IH2:=aa ih2;have CN:=aa cn;have HL:=aa (And.intro hl hz);clear hg2 hq ih2 cn hl hz s1 s2 h2 hb h1 HJ;go_enter func258,ntmps258;go_wp2_with fail;refine ih1.mono ?_;rintro _ w1⟨rfl,hb1⟩;go_wp2_with fail;refine(IH2.out _ hb1).mono ?_;rintro _ w2⟨rfl,hb2⟩;go_wp2_with fail;refine(CN.out _).mono ?_;rintro _ w3⟨rfl,hb3⟩;go_wp2_with fail;go_ret;exact⟨rfl,ah (ah hb1 hb2) hb3⟩
theorem JI{D:Type}{nd:D->D->D}{lf:Nat->D}{i j k:Nat}{z:Nat×Nat}(h:(cV i j)[k]? = Og z):((gw nd lf i j).map Bk.d).take (k+1)=((gw nd lf i j).map Bk.d).take k++[lJ nd lf z.2.log2 z.1]:=by unfold gw;rw[aR,mL,en,h];rfl
theorem Jp{i j k:Nat}{z:Nat×Nat}(h:(cV i j)[k]? = Og z):z.2=2^z.2.log2:=by
 have:∀f i,j-i<=f->∀z∈cV i j,∃u,z.2=2^u:=fun f=>by
  induction f with
  | zero=>intro i hi z hz;rw[lK mOm] at hz;cases hz
  | succ f ih =>
   intro i hi z hz;by_cases hij:i<j
   .have hb:=mh hij;rw[oQ hij] at hz;rcases List.mem_cons.1 hz with rfl|hz
    .exact Cg i j
    .exact ih _ mOm z hz
   .rw[lK hij] at hz;cases hz
 obtain⟨u,hu⟩:=this _ i (az _) z (List.mem_of_getElem? h)
 rw[hu,Nat.log2_two_pow]
def fw(l:List ByteArray)(i j:Nat):List ByteArray:=(gw bw (lfD l) i j).map Bk.d
structure bz {α:Type} (enc:α->List Value) (k:Nat) (e:TypeId) (w0 w:World) (v:Value) (M:List α):Prop where
 form:∃p c,v=Oc p M.length c
 own:w.ownsRow w0.heap.size e k v M.length (aN enc M)
 low:ac w0.heap.size w0 w
section
variable {α:Type} {enc:α->List Value} {k:Nat} {e:TypeId} {w0 w w':World} {v v':Value} {M Y:List α}
theorem bz.of(h:w.ownsRow w0.heap.size e k v M.length (aN enc M))(hb:ac w0.heap.size w0 w):bz enc k e w0 w v M:=⟨fZ h,h,hb⟩
theorem bz.nil(enc:α->List Value)(k:Nat)(e:TypeId)(w:World):bz enc k e w w (Oc Oh 0 0) ([]:List α):=⟨⟨_,_,rfl⟩,dX _ _ _ _,Below.refl _ _⟩
theorem bz.next(h:bz enc k e w0 w v M)(hb:ac w.heap.size w w'):bz enc k e w0 w' v M:=
 ⟨h.form,bK h.own (aF.of (S:=fun _=>False) hb) (fun _ _ e=>e),ah h.low hb⟩
theorem bz.app{u:World}(h:bz enc k e w0 w v M)(hA:AppT enc k e w w0.heap.size v M Y v' u):bz enc k e w0 u v' (M++Y):=
 ⟨fZ hA.own,hA.own,h.low.grown hA.grown h.low.size (fun q e=>(h.own.lt q e).1)⟩
theorem bz.row(h:bz enc k e w0 w v M)(hk:∀x,(enc x).length=k)(hk0:0<k):ar enc w v M:=fo hk hk0 h.own
theorem jT{w:World}{b b' k n:Nat}{e:TypeId}{v:Value}{xs:List Value}(h:w.ownsRow b e k v n xs)(hb:b'<=b):w.ownsRow b' e k v n xs:=by
 obtain⟨h1,(h2|⟨g,c,cur,h3,h4,h5⟩)⟩:=h
 .exact⟨h1,.inl h2⟩
 .exact⟨h1,.inr ⟨g,c,cur,h3,aV hb h4,h5⟩⟩
theorem bz.from_{u:World}(h:bz enc k e w0 w v M)(hb:ac u.heap.size u w0):bz enc k e u w v M:=⟨h.form,jT h.own hb.size,ah hb h.low⟩
end
theorem lY:RowT prog bV 1 9 37 where
 len _:=rfl
 one x u hu:=by simp[bV] at hu;subst hu;rfl
 pos:=mDe
 und:=underlying37
 info:=by
  obtain⟨i0,hi,h1,h2,h3⟩:=info_parts (show(prog.info? 9).map (fun i=>(i.zero,i.size,i.bytes))=Og (Og (Ob ⟨#[]⟩),1,16) by kernel_rfl);exact⟨i0,_,hi,h1,h2,rfl,mOm⟩
theorem ox(l:List ByteArray)(i j:Nat)(p:Option Addr)(c:Nat)(w:World)(hz:∀s∈l,s.size<=100000000)(hn:l.length<=5000)(hij:i<=j)(hj:j<=l.length)(hl:ar bV w (Oc p l.length c) l) :
  Calls prog 228 #[Oc p l.length c,N9 Oa i,N9 Oa j] w fun e w'=>∃v,e=Oe v/\bz bV 1 9 w w' v (fw l i j):=by
 have HL:=aa hl;have HZ:=aa hz;have kb:=uo i j hij mOm w;have hbl:=jR j (j-i) i (az _);have hdl:(fw l i j).length=(cV i j).length:=by unfold fw gw;rw[aU,aU]
 have HDL:=aa hdl;clear hl hz hdl;go_enter func228,ntmps228;go_wp2_with fail;refine kb.mono ?_;clear kb;rintro _ w1⟨v1,rfl,ho1,hb1⟩;have hr1:=fo (k:=3) (fun _=>rfl) mDe ho1;obtain⟨pB,cB,rfl⟩:=fZ ho1;have e2:(gS (cV i j)).length=(cV i j).length:=by unfold gS;rw[aU]
 rw[e2] at hr1 |-;have HR1:=aa hr1;have HAT:=aa (fun k z=>JI (nd:=bw) (lf:=lfD l) (i:=i) (j:=j) (k:=k) (z:=z));have HIN:=aa (fun k z (h:(cV i j)[k]? = Og z)=>And.intro (zZ hij h) (Jp h));clear ho1 hr1 e2;obtain⟨B,hB⟩:∃B,B=cV i j:=⟨_,rfl⟩;rw[<-hB] at HR1 HAT HIN HDL hbl |-;obtain⟨G,hG⟩:∃G,G=fw l i j:=⟨_,rfl⟩;rw[show(gw bw (lfD l) i j).map Bk.d=G from hG.symm] at HAT;rw[<-hG] at HDL;have HG:=aa hG;clear hB hG;go_wp2_with fail
 go_loopw [7,9] (fun v x wr=>∃k:Nat,k<=B.length/\x=N9 Oa k/\bz bV 1 9 w1 wr v (G.take k)) (fun _ i _=>B.length-(aw i).toNat)
 case atStart=>exact⟨0,aP _,rfl,bz.nil _ _ _ _⟩
 case round =>
  obtain⟨k,hk,rfl,hO⟩:=hrel;obtain⟨pv,cv,hv⟩:=hO.form;have hdk:(G.take k).length=k:=by rw[aI,HDL.out];omega
  rw[hdk] at hv;subst hv;have hbw:=hO.low;have hb:=ah hb1 hbw;by_cases hlt:k<B.length
  .obtain⟨g,o,rfl,hg0,hr⟩:=dh (kk:=3) HR1.out (fun _=>rfl) rfl (by unfold gS;rw[aU];omega);have hge:=ai hlt;have hz2:=HIN.out k _ hge;have HTK:=aa (HAT.out k _ hge);have hgb:(gS B)[k]? = Og ⟨B[k].1,B[k].2,⟨#[]⟩⟩:=by unfold gS;rw[en,hge];rfl
   have q0:=(hbw.cell (p:=⟨g,o+k*3+0,Oh⟩) hg0).trans (hr k _ hgb 0 _ rfl);have q1:=(hbw.cell (p:=⟨g,o+k*3+1,Oh⟩) hg0).trans (hr k _ hgb 1 _ rfl);generalize B[k]=z at *;obtain⟨⟨hz3,hz4⟩,hz5⟩:=hz2;have co:=fun w9 (hb9:ac w.heap.size w w9)=>ub l p c HZ.out mOm z.2.log2 z.1 w9 (by rw[<-hz5];omega) (HL.out.below hb9)
   have hds:=oO l z.2.log2 z.1;rw[<-hz5] at co;have i1:(k:Int)<(B.length:Int):=mOm;have i3:(0:Int)<=(k:Int):=mOm;rw[ew] at q0;have HOWN:=aa hO;have HCO:=aa co;have HDK:=aa hdk;generalize lJ bw (lfD l) z.2.log2 z.1=d at *;clear hO co hr hge hgb hz5 hdk;have keepS:∀{u v:World},(ac w1.heap.size w1 u/\u.cell? ⟨g,o+k*3,Oh⟩=Og (N9 Oa z.1)/\u.cell? ⟨g,o+k*3+1,Oh⟩=Og (N9 Oa z.2))->ac u.heap.size u v->(ac w1.heap.size w1 v/\v.cell? ⟨g,o+k*3,Oh⟩=Og (N9 Oa z.1)/\v.cell? ⟨g,o+k*3+1,Oh⟩=Og (N9 Oa z.2)):=fun h hb=>⟨ah h.1 hb,(hb.cell (p:=⟨g,o+k*3,Oh⟩) (al _ _ h.2.1)).trans h.2.1,(hb.cell (p:=⟨g,o+k*3+1,Oh⟩) (al _ _ h.2.2)).trans h.2.2⟩
   have hS0:ac w1.heap.size w1 wr.drew/\wr.drew.cell? ⟨g,o+k*3,Oh⟩=Og (N9 Oa z.1)/\wr.drew.cell? ⟨g,o+k*3+1,Oh⟩=Og (N9 Oa z.2):=keepS ⟨hbw,q0,q1⟩ (Below.refl _ wr).drew;clear q0 q1
   go_upto_region 6 with fail
   refine aD (S:=fun u=>ac w1.heap.size w1 u/\u.cell? ⟨g,o+k*3,Oh⟩=Og (N9 Oa z.1)/\u.cell? ⟨g,o+k*3+1,Oh⟩=Og (N9 Oa z.2)) [(0,true),(1,true),(2,true),(3,true),(4,true),(5,true),(6,true),(7,true),(8,true),(9,true),(10,true),(11,true),(12,false),(13,false),(14,false),(15,true)] hS0 ?_;have hS:=hS0
   iterate 12 refine ak ?_
   refine aJ 258 call258 (HCO.out _ (ah hb1 hS.1)) ?_;rintro x wn⟨rfl,hb⟩;replace hS:=keepS hS hb;have HOW3:=aa (HOWN.out.next (ah (Below.refl _ wr).drew hb));refine⟨_,rfl,hS,?_⟩;(try clear hb);refine ay ?_;refine lQ ⟨_,_,_,_,_,_⟩ (Oc (Og ⟨wn.heap.size,0,Oh⟩) 1 1) (wn.alloc (Of #[Ob d] 9)) rfl mRf (by go_simp) (keepS hS (aj _ _)) ?_;have hOm:=HOW3.out.next (aj wn (Of #[Ob d] 9));replace hS:=keepS hS (aj wn (Of #[Ob d] 9));refine ay ?_;refine fT lY ⟨_,_,_,_,_,_⟩ rfl mRf (.tmp 19) (.tmp 32) mRf w1.heap.size _ _ (G.take k) [d] mRf mRf hOm.own (cN (heap_alloc_new wn _) _ rfl rfl) (by rw[HDK.out];simp only[aB];omega) hS.1.size ?_;intro v9 w9 hA9;have hO9:=hOm.app hA9;replace hS:ac w1.heap.size w1 w9/\w9.cell? ⟨g,o+k*3,Oh⟩=Og (N9 Oa z.1)/\w9.cell? ⟨g,o+k*3+1,Oh⟩=Og (N9 Oa z.2):=⟨hO9.low,(hO9.low.cell (p:=⟨g,o+k*3,Oh⟩) hg0).trans ((hS.1.cell (p:=⟨g,o+k*3,Oh⟩) hg0).symm.trans hS.2.1),(hO9.low.cell (p:=⟨g,o+k*3+1,Oh⟩) hg0).trans ((hS.1.cell (p:=⟨g,o+k*3+1,Oh⟩) hg0).symm.trans hS.2.2)⟩;refine⟨hS,?_⟩;refine ay ?_;refine ak ?_;simp only[aQ,aZ];rw[<-HTK.out] at hO9;have HO9:=aa hO9;clear hS hS0 keepS hO9 hA9 hOm;go_wp2_with fail
   go_roundw
   case rel=>exact⟨k+1,mOm,by go_num,HO9.out⟩
   case measure=>simp[aw];omega
  .obtain rfl:k=B.length:=mOm;have hO2:=hO.from_ hb1;rw[show G.take B.length=fw l i j by rw[<-HDL.out,aT];exact HG.out] at hO2;have HO:=aa hO2;clear hO hO2;go_wp2_with fail;go_ret;exact⟨_,rfl,HO.out⟩
theorem fH:∀x:ByteArray,(bV x).length=1:=fun _=>rfl
def js(l:List ByteArray)(i j:Nat):List ByteArray:=fw l 0 i++fw l j l.length
theorem mJ(l:List ByteArray)(i j:Nat):(fw l i j).length=(cV i j).length:=by unfold fw gw;rw[aU,aU]
theorem Db(l:List ByteArray)(i j:Nat)(p:Option Addr)(c:Nat)(w:World)(hz:∀s∈l,s.size<=100000000)(hn:l.length<=5000)(hij:i<=j)(hj:j<=l.length)(hl:ar bV w (Oc p l.length c) l) :
  Calls prog 192 #[Oc p l.length c,N9 Oa i,N9 Oa j] w fun e w'=>∃v,e=Oe (.tuple #[v,.bool true])/\bz bV 1 9 w w' v (js l i j):=by
 have k1:=ox l 0 i p c w hz hn (aP _) mOm hl;rw[show((0:Nat):Int)=0 from rfl] at k1;have k2:=fun w1 (hb:ac w.heap.size w w1)=>ox l j l.length p c w1 hz hn hj (az _) (hl.below hb)
 have hd1:=mJ l 0 i;have hd2:=mJ l j l.length;have hb1:=jR i i 0 mOm;have hb2:=jR l.length (l.length-j) j (az _);have hD:fw l 0 i++fw l j l.length=js l i j:=rfl;generalize fw l 0 i=D1 at *;generalize fw l j l.length=D2 at *;have K2:=aa k2;have HD:=aa hD;have i1:¬(i:Int)<0:=mOm;have i2:¬(j:Int)<(i:Int):=mOm;have i3:¬(l.length:Int)<(j:Int):=mOm;have hsum:D1.length+D2.length<=1000000:=mOm;clear hl hz k2 hD hd1 hd2 hb1 hb2;go_enter func192,ntmps192;go_wp2_with fail;refine k1.mono ?_;clear k1;rintro _ w1⟨v1,rfl,hO1⟩;have HO1:=aa hO1;obtain⟨p1,c1,rfl⟩:=hO1.form;have kk:=K2.out w1 hO1.low;clear hO1;go_wp2_with fail;refine kk.mono ?_;clear kk;rintro _ w2⟨v2,rfl,hO2⟩;have hO1:=HO1.out.next hO2.low;have hrow:=hO2.row fH mDe;obtain⟨p2,c2,rfl⟩:=hO2.form;have hown:=hO1.own;have hsz:=hO1.low.size;have HO12:=aa hO1;clear hO1 hO2;go_wp2_with (at_builtin;refine bl lY rfl (.tmp 23) (.tmp 28) rfl w.heap.size _ _ D1 D2 rfl rfl hown hrow hsum hsz ?_;intro v9 w9 hA9;have hO9:=HO12.out.app hA9;have HO9:=aa hO9;clear hO9 hA9)
 (try simp only[Exit.inBlock,Exit.then]);refine bodyPost_ret (results_tmp2 rfl _ _ _) rfl ?_
 exact⟨_,rfl,HD.out ▸ HO9.out⟩
theorem vL(l:List ByteArray)(p:Option Addr)(c:Nat)(w:World)(hz:∀s∈l,s.size<=100000000)(hn:l.length<=5000)(hl:ar bV w (Oc p l.length c) l) :
  Calls prog 187 #[Oc p l.length c] w fun e w'=>e=Oe (Ob (oH l.length (jx bw iw (eO bw [] (gw bw (lfD l) 0 l.length)))))/\ac w.heap.size w w':=by
 have hbl:=jR l.length l.length 0 mOm;have hdl:=mJ l 0 l.length;have hwd:dF (cV 0 l.length) (fw l 0 l.length)=gw bw (lfD l) 0 l.length:=AE bw (lfD l) 0 l.length;have hrow:=(oS bw (lfD l) l.length l.length 0 mOm (aP _)).1
 have hfit:∀x∈dF (cV 0 l.length) (fw l 0 l.length),Blk.fit x/\x.b+x.s<=1099511627776:=Je (aP _) mOm (fun s hs=>by
  unfold fw gw at hs;rw[mL] at hs;obtain⟨z,_,rfl⟩:=ff.1 hs
  exact oO l _ _)
 have k1:=uo 0 l.length (aP _) mOm w
 have k2:=fun w1 (hb:ac w.heap.size w w1)=>ox l 0 l.length p c w1 hz hn (aP _) (az _) (hl.below hb)
 rw[show((0:Nat):Int)=0 from rfl] at k1 k2;rw[hwd] at hfit;have hts:=K0 (zx _ [] (fun y hy=>by cases hy) hfit);have hcn:=KF hrow;have hpe:=tW bw _ [] 0 l.length rfl hrow;have hwl:(dF (cV 0 l.length) (fw l 0 l.length)).length<=100000:=aV (wg _ _) mOm;rw[hwd] at hwl;generalize fw l 0 l.length=D at *;generalize cV 0 l.length=B at *;have K2:=aa k2;have kt:=fun v w (h:ar iS w v (gw bw (lfD l) 0 l.length))=>Mk _ v w h hwl hfit hcn
 rw[hpe] at kt;generalize gw bw (lfD l) 0 l.length=A at *;have KT:=aa kt;generalize jx bw iw (eO bw [] A)=T at *;have kr:=fun w=>Ej l.length T mOm mOm w
 have KR:=aa kr;have HWD:=aa hwd;have HDL:=aa hdl;clear hl hz k2 hrow hfit hcn hpe kt kr hwd hts hdl hwl;go_enter func187,ntmps187;go_wp2_with fail;refine k1.mono ?_;clear k1;rintro _ w1⟨v1,rfl,ho1,hb1⟩;have hr1:=fo (k:=3) (fun _=>rfl) mDe ho1;have kk:=K2.out w1 hb1;have HR1:=aa hr1;clear ho1 hr1;go_wp2_with fail;refine kk.mono ?_;clear kk;rintro _ w2⟨v2,rfl,hO2⟩;have hrow:=hO2.row fH mDe;obtain⟨p2,c2,rfl⟩:=hO2.form;have kw:=K7 B D v1 p2 D.length c2 w2 (HR1.out.below hO2.low) hrow (by have:=HDL.out;omega) mOm;have hb2:=ah hb1 hO2.low;clear hO2 hrow;go_wp2_with fail;refine kw.mono ?_;clear kw;rintro _ w3⟨v3,rfl,ho3,hb3⟩;have hr3:=fo (k:=3) (fun _=>rfl) mDe ho3;rw[HWD.out] at hr3;have kt2:=KT.out v3 w3 hr3;clear hr3 ho3;go_wp2_with fail;refine kt2.mono ?_;clear kt2;rintro _ w4⟨rfl,hb4⟩;go_wp2_with fail;refine(KR.out _).mono ?_;rintro _ w5⟨rfl,hb5⟩;go_wp2_with fail;go_ret;exact⟨rfl,ah (ah (ah hb2 hb3) hb4) hb5⟩
end
section
attribute [local go_sem ↓] mq mr
theorem vO{fn:Func}{t u v x:Tmp}(h:fn.results=#[.tmp t,.tmp u,.tmp v,.tmp x])(tmps:Array Value)(P:Program)(w:World) :
  (results fn tmps).run P w=.ok (.tuple #[tmps.getD t undef,tmps.getD u undef,tmps.getD v undef,tmps.getD x undef]) w:=by
 simp[results,h]
theorem En{w:World}{p:Option Addr}{n c i j:Nat}{L:List ByteArray}(h:ar bV w (Oc p n c) L)(hi:i<=j)(hj:j<=n):((p=Oh\/c=i->ar bV w (Oc p (j-i) (c-i)) ((L.drop i).take (j-i)))/\(p=Oh\/c=i->ar bV w (Oc p (j-i) 0) ((L.drop i).take (j-i))))/\(∀a,p=Og a->ar bV w (Oc (Og (a.add i)) (j-i) (c-i)) ((L.drop i).take (j-i))):=by
 have hd:=vS h (m:=i) mOm;have hn:L.length=n:=by obtain⟨_,_,e,_⟩:=h;injection e with _ e _;exact e.symm
 have hl:j-i<=(L.drop i).length:=by rw[bD];omega
 exact⟨⟨fun hc=>(hd.1.1 hc).take rfl hl,fun hc=>(hd.1.2 hc).take rfl hl⟩,fun a ha=>(hd.2 a ha).take rfl hl⟩
theorem IJ(w:World):bz bV 1 9 w (w.alloc (Of #[] 9)) (Oc (Og ⟨w.heap.size,0,Oh⟩) 0 0) []:=
 ⟨⟨_,_,rfl⟩,kg w #[] 0 (az _) (aP _) rfl,aj w _⟩
def eE(l:List ByteArray)(from_:ByteArray):Nat:=eL l from_-1
def iB(l:List ByteArray)(from_ to_:ByteArray):Nat:=min l.length (max (eL l from_) (eL l to_)+1)
theorem jE(l:List ByteArray)(s:ByteArray):eL l s<=l.length:=List.Sublist.length_le (List.takeWhile_sublist _)
def E5(l:List ByteArray)(from_ to_:ByteArray)(w:World)(e:Ending)(w':World):Prop:=
 (¬fq l/\e=Oe (.tuple #[N9 Oa 0,Oc Oh 0 0,Oc Oh 0 0,.bool false])/\ac w.heap.size w w')\/
 (fq l/\∃v1 v2,e=Oe (.tuple #[N9 Oa (eE l from_),v1,v2,.bool true])/\bz bV 1 9 w w' v1 ((l.drop (eE l from_)).take (iB l from_ to_-eE l from_))/\bz bV 1 9 w w' v2 (js l (eE l from_) (iB l from_ to_)))
theorem BP(l:List ByteArray)(from_ to_:ByteArray)(p:Option Addr)(c:Nat)(w:World)(hz:∀s∈l,s.size<=100000000)(hn:l.length<=5000)(hl:ar bV w (Oc p l.length c) l) :
  Calls prog 137 #[Oc p l.length c,Ob from_,Ob to_] w (E5 l from_ to_ w):=by
 have ks:=ur l p c w hl mOm;have k1:=fun w1 (hb:ac w.heap.size w w1)=>vI l from_ p c w1 (hl.below hb) mOm
 have k2:=fun w1 (hb:ac w.heap.size w w1)=>vI l to_ p c w1 (hl.below hb) mOm
 have f1:=jE l from_;have f2:=jE l to_;have hI:Hid (eE l from_=eL l from_-1):=aa rfl;have hJ:Hid (iB l from_ to_=min l.length (max (eL l from_) (eL l to_)+1)):=aa rfl;generalize eL l from_=a at *;generalize eL l to_=b at *;obtain⟨m,hm⟩:∃m,m=max a b:=⟨_,rfl⟩;obtain⟨i,hi⟩:∃i,i=a-1:=⟨_,rfl⟩;obtain⟨j,hj⟩:∃j,j=min l.length (m+1):=⟨_,rfl⟩;have HI:Hid (eE l from_=i):=aa (by rw[hI.out,hi]);have HJ:Hid (iB l from_ to_=j):=aa (by rw[hJ.out,hj,hm]);have hij:i<=j:=mOm;have hjl:j<=l.length:=mOm;have m1:mx (a:Int) (b:Int)=(m:Int):=by unfold mx;split <;> omega
 have m2:mx 0 ((a:Int)-1)=(i:Int):=by unfold mx;split <;> omega
 have m3:mn (l.length:Int) ((m:Int)+1)=(j:Int):=by unfold mn;split <;> omega
 have a1:IntKind.i64.wrap ((a:Int)-1)=(a:Int)-1:=aH _ mOm;have a2:IntKind.i64.wrap ((m:Int)+1)=(m:Int)+1:=aH _ mOm;have k3:=fun w1 (hb:ac w.heap.size w w1)=>Db l i j p c w1 hz hn hij hjl (hl.below hb)
 have hmid:=fun w1 (hb:ac w.heap.size w w1)=>En (hl.below hb) hij hjl
 have hc:l.length<=c:=by obtain⟨_,_,e,h,_⟩:=hl;injection e with _ _ e;omega
 have HM:=aa (And.intro hm (And.intro hi hj));have K1:=aa k1;have K2:=aa k2;have K3:=aa k3;have HMID:=aa hmid;have HTY:=aa (show(((l.drop i).take (j-i)).length)=j-i by rw[aI,bD];omega);clear k1 k2 k3 hmid hl hz hI hJ hm hi hj;go_enter func137,ntmps137;go_wp2_with fail;refine ks.mono ?_;clear ks;rintro _ w1⟨t,rfl,ht,hb1⟩;have HT:=aa ht;clear ht
 cases t
 .go_wp2_with fail
  (try simp only[Exit.inBlock,Exit.then]);refine bodyPost_ret (vO rfl _ _ _) rfl ?_
  exact .inl ⟨fun h=>(by have:=HT.out.2 h;cases this),rfl,hb1⟩
 have HSO:=aa (HT.out.1 rfl)
 clear HT;go_wp2_with fail;refine(K1.out w1 hb1).mono ?_;rintro _ w2⟨rfl,hb2⟩;have hb3:=ah hb1 hb2;go_wp2_with fail;refine(K2.out w2 hb3).mono ?_;rintro _ w3⟨rfl,hb4⟩;have hb5:=ah hb3 hb4;go_wp2_with fail;refine(K3.out w3 hb5).mono ?_;rintro _ w4⟨v4,rfl,hO4⟩;have hb6:=ah hb5 hO4.low;have HO4:=aa hO4;clear hO4;have i5:(i:Int)<=(j:Int):=mOm;have i6:(j:Int)<=(c:Int):=mOm;have hO5:=IJ w4;have hmid4:=HMID.out w4 hb6;have HO5:=aa hO5;have hown:=hO5.own;have hsz:=hO5.low.size;have HMD:=aa hmid4;clear hO5 hmid4;rcases p with _|a
 rotate_left 1
 by_cases hci:c=i
 all_goals
  go_wp2_with (at_builtin;refine bl lY rfl (.tmp 43) (.tmp 47) rfl w4.heap.size _ _ [] ((l.drop i).take (j-i)) rfl rfl hown (by
   first|exact(HMD.out.1.1 (.inl trivial)).below (aj w4 _)|exact(HMD.out.1.2 (.inl trivial)).below (aj w4 _)|exact(HMD.out.1.2 (.inr mOm)).below (aj w4 _)|exact(HMD.out.2 _ rfl).below (aj w4 _)) (by rw[HTY.out];simp only[List.length_nil];omega) hsz ?_;intro v9 w9 hA9;have hO9:=HO5.out.app hA9;have HO9:=aa hO9;clear hO9 hA9)
  (try simp only[Exit.inBlock,Exit.then]);refine bodyPost_ret (vO rfl _ _ _) rfl ?_
  refine .inr ⟨HSO.out,?_⟩;rw[HI.out,HJ.out];have hO10:=HO9.out.from_ hb6;rw[dI] at hO10;exact⟨_,_,rfl,hO10,(HO4.out.next HO9.out.low).from_ hb5⟩
end
section
theorem tB:∀(x y:List UInt8),(Op.bytesLess x y||x==y) = !Op.bytesLess y x
 | [],[]=>by simp[Op.bytesLess]
 | [],_::_=>by simp[Op.bytesLess]
 | _::_,[]=>by simp[Op.bytesLess]
 | a::x,b::y=>by
  have ih:=tB x y;unfold Op.bytesLess;by_cases h:a<b
  .have h2:¬b<a:=fun e=>absurd (Nat.lt_trans (show a.toNat<b.toNat from h) (show b.toNat<a.toNat from e)) (Nat.lt_irrefl _)
   have h3:¬b=a:=fun e=>by subst e;exact absurd h mSi
   simp[h,h2,h3]
  .by_cases h2:b<a
   .have h3:¬a=b:=fun e=>by subst e;exact absurd h2 mSi
    simp[h,h2,h3]
   .have h3:a=b:=by
     have h3:¬a.toNat<b.toNat:=h;have h4:¬b.toNat<a.toNat:=h2;exact UInt8.toNat_inj.1 mOm
    subst h3
    simpa [h] using ih
def leB(a b:ByteArray):Bool:=!Op.bytesLess b.toList a.toList
theorem EQ(a b:ByteArray):leB a b = !decide (cC b a<0):=by unfold leB;rw[kV]
theorem Ir(t:TypeId)(a b:ByteArray):binOp .leq t (Ob a) (Ob b)=pure (.bool (leB a b)):=by rw[binOp_string_leq,tB];rfl
theorem yZ(t:TypeId)(a b:ByteArray):binOp .geq t (Ob a) (Ob b)=pure (.bool (leB b a)):=by rw[binOp_string_geq];rfl
attribute [local go_sem 2000] Ir yZ
def wt(l:List ByteArray)(lo:ByteArray)(i:Nat):Bool:=decide (i=0)||(match l[0]? with|none=>false|some x=>decide (cC x lo<0))
def tt(l:List ByteArray)(hi:ByteArray)(i n:Nat):Bool:=decide (i+l.length=n)||(match l[l.length-1]? with|none=>false|some x=>!decide (cC x hi<0))
def inB(lo hi x:ByteArray):Bool:=!decide (cC x lo<0)&&decide (cC x hi<0)
def jo(root:ByteArray)(n:Int)(lo hi:ByteArray)(i:Int)(l proof:List ByteArray):Prop:=
 lj root n i l proof/\fq l/\wt l lo i.toNat=true/\tt l hi i.toNat n.toNat=true
def E8(root:ByteArray)(n:Int)(lo hi:ByteArray)(i:Int)(l proof:List ByteArray)(w:World)(e:Ending)(w':World):Prop:=
 (¬jo root n lo hi i l proof/\e=Oe (.tuple #[Oc Oh 0 0,.bool false])/\ac w.heap.size w w')\/
 (jo root n lo hi i l proof/\∃v,e=Oe (.tuple #[v,.bool true])/\bz bV 1 9 w w' v (l.filter (inB lo hi)))
theorem G8(root:ByteArray)(n:Int)(lo hi:ByteArray)(i:Int)(l proof:List ByteArray)(p1 p2:Option Addr)(c1 c2:Nat)(w:World)(i1:I64 n)(i2:I64 i)(hn:n<=5000)(hl:ar bV w (Oc p1 l.length c1) l)(hz:∀s∈l,s.size<=100000000)(hp:ar bV w (Oc p2 proof.length c2) proof) :
  Calls prog 159 #[Ob root,N9 Oa n,Ob lo,Ob hi,N9 Oa i,Oc p1 l.length c1,Oc p2 proof.length c2] w (E8 root n lo hi i l proof w):=by
 have kv:=G5 root n i l proof p1 p2 c1 c2 w i1 i2 hn hl hz hp;have HL:=aa hl;clear hl hz hp;go_enter func159,ntmps159;go_wp2_with fail;refine kv.mono ?_;clear kv;rintro _ w1⟨t,rfl,ht,hb1⟩;have HT:=aa ht;clear ht
 cases t
 .have HN:Hid (¬jo root n lo hi i l proof):=aa (fun h=>by have:=HT.out.2 h.1;cases this);clear HT;go_wp2_with fail
  go_ret2
  exact .inl ⟨HN.out,rfl,hb1⟩
 have HV:Hid (lj root n i l proof):=aa (HT.out.1 rfl)
 clear HT;have hvi:=HV.out.1;have ks:=GT l p1 c1 w1 (HL.out.below hb1) mOm;go_wp2_with fail;refine ks.mono ?_;clear ks;rintro _ w2⟨t,rfl,ht,hb2⟩;have hbw:=ah hb1 hb2;have HT:=aa ht;clear ht hb1 hb2
 cases t
 .have HN:Hid (¬jo root n lo hi i l proof):=aa (fun h=>by have:=HT.out.2 h.2.1;cases this);clear HT;go_wp2_with fail
  go_ret2
  exact .inl ⟨HN.out,rfl,hbw⟩
 have HS:Hid (fq l):=aa (HT.out.1 rfl)
 clear HT;obtain⟨m,rfl⟩:∃m:Nat,n=m:=⟨n.toNat,mOm⟩;obtain⟨k,rfl⟩:∃k:Nat,i=k:=⟨i.toNat,mOm⟩;obtain⟨tl,htl⟩:∃t,t=wt l lo k:=⟨_,rfl⟩;obtain⟨tr,htr⟩:∃t,t=tt l hi k m:=⟨_,rfl⟩;have HTL:=aa htl;have HTR:=aa htr;have hk5:k<=5000:=mOm;have hm5:m<=5000:=mOm;have hl5:l.length<=5000:=mOm;clear htl htr hvi i1 i2
 go_upto_region 3 with fail
 go_cut [16] (fun v wx=>v=.bool tl/\wx=w2)
 case first =>
  by_cases hk0:k=0
  .have t1:((k:Int)==0)=true:=by rw[beq_iff_eq];omega
   have HE:Hid (tl=true):=aa (by rw[HTL.out];unfold wt;rw[decide_eq_true hk0,Bool.true_or]);clear hk0;go_wp2_with fail
   go_meet
   case rel=>exact⟨by rw[HE.out],rfl⟩
  .have t1:((k:Int)==0)=false:=by rw[beq_eq_false_iff_ne];omega
   have HK0:=aa hk0;clear hk0;by_cases hl0:l.length=0
   .have t2:¬(0:Int)<(l.length:Int):=mOm;have HE:Hid (tl=false):=aa (by rw[HTL.out];unfold wt;rw[decide_eq_false HK0.out,bn hl0];rfl);clear hl0;go_wp2_with fail
    go_meet
    case rel=>exact⟨by rw[HE.out],rfl⟩
   .obtain⟨g,o,rfl,hg,hcv⟩:=gb (HL.out.below hbw) rfl mOm;have hge:=ai (show 0<l.length by omega);have q0:=hcv 0 _ hge;rw[ew] at q0;have t2:(0:Int)<(l.length:Int):=mOm;have HE:Hid (tl=decide (cC l[0] lo<0)):=aa (by rw[HTL.out];unfold wt;rw[decide_eq_false HK0.out,hge];rfl);generalize l[0]=x at *;have t3:=kV x lo;rw[<-HE.out] at t3;clear hl0 hcv hge;go_wp2_with fail
    go_meet
    case rel=>exact⟨by first|rfl|rw[t3],rfl⟩
 case rest =>
  obtain⟨rfl,rfl⟩:=hcut
  go_upto_region 4 with fail
  go_cut [17] (fun v wx=>v=.bool tr/\wx=wc)
  case first =>
   have a1:IntKind.i64.wrap ((k:Int)+(l.length:Int))=(k:Int)+(l.length:Int):=aH _ mOm;by_cases hk0:k+l.length=m
   .have t1:((k:Int)+(l.length:Int)==(m:Int))=true:=by rw[beq_iff_eq];omega
    have HE:Hid (tr=true):=aa (by rw[HTR.out];unfold tt;rw[decide_eq_true hk0,Bool.true_or]);clear hk0;go_wp2_with fail
    go_meet
    case rel=>exact⟨by rw[HE.out],rfl⟩
   .have t1:((k:Int)+(l.length:Int)==(m:Int))=false:=by rw[beq_eq_false_iff_ne];omega
    have HK0:=aa hk0;clear hk0;by_cases hl0:l.length=0
    .have t2:¬(0:Int)<(l.length:Int):=mOm;have HE:Hid (tr=false):=aa (by rw[HTR.out];unfold tt;rw[decide_eq_false HK0.out,bn hl0];rfl);clear hl0;go_wp2_with fail
     go_meet
     case rel=>exact⟨by rw[HE.out],rfl⟩
    .obtain⟨g,o,rfl,hg,hcv⟩:=gb (HL.out.below hbw) rfl mOm;obtain⟨q,hq⟩:∃q,q=l.length-1:=⟨_,rfl⟩;have hge:=ai (show q<l.length by omega);have q0:=hcv q _ hge;have a2:IntKind.i64.wrap ((l.length:Int)-1)=(q:Int):=by rw[show(l.length:Int)-1=(q:Int) by omega];exact fY _ _ rfl mOm
     have t2:(0:Int)<(l.length:Int):=mOm;have i7:(q:Int)<(l.length:Int):=mOm;have i8:(0:Int)<=(q:Int):=mOm;have HE:Hid (tr = !decide (cC l[q] hi<0)):=aa (by rw[HTR.out];unfold tt;rw[decide_eq_false HK0.out,<-hq,hge];rfl);generalize l[q]=x at *;have t3:=kV x hi;have HE2:Hid (tr=leB hi x):=aa (by rw[HE.out];unfold leB;rw[t3]);clear hl0 hcv hge hq t3;go_wp2_with fail
     go_meet
     case rel=>exact⟨by rw[HE2.out],rfl⟩
  case rest =>
   obtain⟨rfl,rfl⟩:=hcut
   have HWO:Hid (jo root m lo hi k l proof↔tl=true/\tr=true):=aa (by
    unfold jo;rw[cI,cI,<-HTL.out,<-HTR.out]
    exact⟨fun h=>⟨h.2.2.1,h.2.2.2⟩,fun h=>⟨HV.out,HS.out,h.1,h.2⟩⟩)
   by_cases hto:tl=true/\tr=true
   rotate_left 1
   .have HN:Hid (¬jo root m lo hi k l proof):=aa (fun h=>hto (HWO.out.1 h));clear HWO
    cases tl
    .clear hto;go_wp2_with fail
     go_ret2
     exact .inl ⟨HN.out,rfl,hbw⟩
    .cases tr
     .clear hto;go_wp2_with fail
      go_ret2
      exact .inl ⟨HN.out,rfl,hbw⟩
     .exact absurd ⟨rfl,rfl⟩ hto
   have HOK:=aa (HWO.out.2 hto)
   obtain⟨rfl,rfl⟩:=hto;clear HWO;go_wp2_with fail
   go_loopw [18,76] (fun v x wr=>∃j:Nat,j<=l.length/\x=N9 Oa j/\bz bV 1 9 w wr v ((l.take j).filter (inB lo hi))) (fun _ x _=>l.length-(aw x).toNat)
   case atStart=>exact⟨0,aP _,rfl,⟨⟨_,_,rfl⟩,dX _ _ _ _,hbw⟩⟩
   case round =>
    obtain⟨j,hj,rfl,hO⟩:=hrel;obtain⟨pv,cv,hv⟩:=hO.form;subst hv;by_cases hlt:j<l.length
    .obtain⟨g,o,rfl,hg,hcv⟩:=gb HL.out rfl mOm;have hge:=ai hlt;have q0:=(hO.low.cell (p:=⟨g,o+j,Oh⟩) hg).trans (hcv j _ hge);have i7:(j:Int)<(l.length:Int):=mOm;have i8:(0:Int)<=(j:Int):=mOm;have hfl:((l.take j).filter (inB lo hi)).length<=5000:=aV (List.length_filter_le _ _) (by rw[aI];omega)
     have HTK:Hid ((l.take (j+1)).filter (inB lo hi)=(l.take j).filter (inB lo hi)++(if inB lo hi l[j]=true then [l[j]] else [])):=aa (by
      rw[aR,hge,Option.toList_some,dV]
      congr 1
      by_cases h:inB lo hi l[j]=true
      .rw[if_pos h,List.filter_cons_of_pos h];rfl
      .rw[if_neg h,List.filter_cons_of_neg h];rfl)
     generalize l[j]=x at *
     generalize (l.take j).filter (inB lo hi)=F at *;have t3:=EQ lo x;have t4:=kV x hi;clear hcv hge;by_cases hin:inB lo hi x=true
     .have HTK2:Hid ((l.take (j+1)).filter (inB lo hi)=F++[x]):=aa (by rw[HTK.out,if_pos hin]);have hin2:decide (cC x lo<0)=false/\decide (cC x hi<0)=true:=by unfold inB at hin;simpa using hin
      obtain⟨h1,h2⟩:=hin2;rw[h1,jO] at t3;rw[h2] at t4;have hO1:=hO.next (aj wr (Of #[Ob x] 9));have hlit:ar bV (wr.alloc (Of #[Ob x] 9)) (Oc (Og ⟨wr.heap.size,0,Oh⟩) 1 1) [x]:=cN (heap_alloc_new wr _) _ rfl rfl;have hown:=hO1.own;have hsz:=hO1.low.size;have HO1:=aa hO1;clear hO hO1 hin h1 h2;go_wp2_with (at_builtin;refine bl lY rfl (.tmp 88) (.tmp 90) rfl w.heap.size _ _ F [x] rfl rfl hown hlit (by simp only[aB];omega) hsz ?_;intro v9 w9 hA9;have hO9:=HO1.out.app hA9;have HO9:=aa hO9;clear hO9 hA9)
      go_roundw
      case rel=>exact⟨j+1,mOm,by go_num,by rw[HTK2.out];exact HO9.out⟩
      case measure=>simp[aw];omega
     .have HTK2:Hid ((l.take (j+1)).filter (inB lo hi)=F):=aa (by rw[HTK.out,if_neg hin,dq]);have hor:leB lo x=false\/leB lo x=true/\Op.bytesLess x.toList hi.toList=false:=by
       rw[t3,t4];unfold inB at hin
       cases h1:decide (cC x lo<0) <;> cases h2:decide (cC x hi<0) <;> simp_all
      have HO:=aa hO
      clear hO hin t3 t4;rcases hor with t3|⟨t3,t4⟩
      all_goals
       go_wp2_with fail
       go_roundw
       case rel=>exact⟨j+1,mOm,by go_num,by rw[HTK2.out];exact HO.out⟩
       case measure=>simp[aw];omega
    .obtain rfl:j=l.length:=mOm;rw[aT] at hO |-;have HO:=aa hO;clear hO;go_wp2_with fail
     go_ret2
     exact .inr ⟨HOK.out,_,rfl,HO.out⟩
end
section
theorem oP(a b:UInt8)(x y:List UInt8):Op.bytesLess (a::x) (b::y)=true↔a.toNat<b.toNat\/(a=b/\Op.bytesLess x y=true):=by
 show(decide (a<b)||(a==b&&Op.bytesLess x y))=true↔_
 rw[Bool.or_eq_true,Bool.and_eq_true,decide_eq_true_eq,beq_iff_eq];exact Iff.rfl
theorem Cf:∀{x y z:List UInt8},Op.bytesLess x y=true->Op.bytesLess y z=true->Op.bytesLess x z=true
 | _,[],_,h,_=>by simp[Op.bytesLess] at h
 | _,_::_,[],_,h=>by simp[Op.bytesLess] at h
 | [],_::_,_::_,_,_=>by simp[Op.bytesLess]
 | a::x,b::y,c::z,h1,h2=>by
  rcases(oP _ _ _ _).1 h1 with k1|⟨rfl,k1⟩
  .rcases(oP _ _ _ _).1 h2 with k2|⟨rfl,k2⟩
   .exact(oP _ _ _ _).2 (.inl (Nat.lt_trans k1 k2))
   .exact(oP _ _ _ _).2 (.inl k1)
  .rcases(oP _ _ _ _).1 h2 with k2|⟨rfl,k2⟩
   .exact(oP _ _ _ _).2 (.inl k2)
   .exact(oP _ _ _ _).2 (.inr ⟨rfl,Cf k1 k2⟩)
theorem AN:∀{x:List UInt8},Op.bytesLess x x=false
 | []=>by simp[Op.bytesLess]
 | a::x=>by
  rw[Bool.eq_false_iff];intro h;rcases(oP _ _ _ _).1 h with h|⟨_,h⟩
  .exact Nat.lt_irrefl _ h
  .rw[AN] at h;cases h
theorem lt_bl{a b:ByteArray}:cC a b<0↔Op.bytesLess a.toList b.toList=true:=by rw[kV,decide_eq_true_eq]
theorem nH{a b c:ByteArray}(h:cC a b<0)(h2:cC b c<0):cC a c<0:=lt_bl.2 (Cf (lt_bl.1 h) (lt_bl.1 h2))
theorem sL{a:ByteArray}:¬cC a a<0:=fun h=>by have:=lt_bl.1 h;rw[AN] at this;cases this
theorem Fp{a b:ByteArray}(h:cC a b<0):¬cC b a<0:=fun h2=>sL (nH h h2)
theorem yQ{a b:ByteArray}(h:¬cC a b<0)(hne:a≠b):cC b a<0:=by
 have ht:=tB a.toList b.toList;have h1:Op.bytesLess a.toList b.toList=false:=Bool.eq_false_iff.2 (fun e=>h (lt_bl.2 e));have h2:(a.toList==b.toList)=false:=beq_eq_false_iff_ne.2 (fun e=>hne (ba_toList.1 e));rw[h1,h2] at ht;exact lt_bl.2 (by simpa using ht.symm)
theorem Br{l:List ByteArray}(hs:fq l):∀(d i:Nat)(a b:ByteArray),l[i]? = Og a->l[i+d+1]? = Og b->cC a b<0
 | 0,i,a,b,ha,hb=>hs i a b ha hb
 | d+1,i,a,b,ha,hb=>by
  have hlt:=(aA.1 hb).1;have hc:=ai (show i+d+1<l.length by omega);exact nH (Br hs d i a _ ha hc) (hs (i+d+1) _ b hc (by rw[show i+d+1+1=i+(d+1)+1 by omega];exact hb))
theorem uf{l:List ByteArray}(hs:fq l){i j:Nat}{a b:ByteArray}(hij:i<j)(ha:l[i]? = Og a)(hb:l[j]? = Og b):cC a b<0:=
 Br hs (j-i-1) i a b ha (by rw[show i+(j-i-1)+1=j by omega];exact hb)
theorem uh{α:Type}{p:α->Bool}:∀{l:List α}{k:Nat}{x:α},k<(l.takeWhile p).length->l[k]? = Og x->p x=true
 | [],_,_,h,_=>by simp at h
 | a::l,k,x,h,hx=>by
  by_cases hp:p a=true
  .rw[List.takeWhile_cons_of_pos hp] at h
   cases k with
   | zero=>obtain rfl:=Option.some.inj hx;exact hp
   | succ k=>exact uh (l:=l) (k:=k) (by simpa using h) (by simpa using hx)
  .rw[List.takeWhile_cons_of_neg hp] at h;simp at h
theorem ug{α:Type}{p:α->Bool}:∀{l:List α}{x:α},l[(l.takeWhile p).length]? = Og x->p x=false
 | [],_,h=>by simp at h
 | a::l,x,h=>by
  by_cases hp:p a=true
  .rw[List.takeWhile_cons_of_pos hp] at h;exact ug (l:=l) (by simpa using h)
  .rw[List.takeWhile_cons_of_neg hp] at h;obtain rfl:=Option.some.inj h
   simpa using hp
theorem kI{l:List ByteArray}(hs:fq l){s x:ByteArray}{k:Nat}(hx:l[k]? = Og x):k<eL l s↔cC x s<0:=by
 constructor
 .intro h;exact of_decide_eq_true (uh (p:=fun x=>decide (cC x s<0)) h hx)
 .intro h;refine Nat.lt_of_not_le fun hle=>?_
  have hlt:=(aA.1 hx).1;obtain⟨y,hge⟩:∃y,l[eL l s]? = some y:=⟨_,ai (show eL l s<l.length by omega)⟩;have h1:=ug (p:=fun x=>decide (cC x s<0)) hge;have h1:=of_decide_eq_false h1;rcases Nat.eq_or_lt_of_le hle with e|e
  .rw[e] at hge;rw[hge] at hx;obtain rfl:=Option.some.inj hx;exact h1 h
  .exact h1 (nH (uf hs e hge hx) h)
def gQ(l:List ByteArray):ByteArray:=oH l.length (jx bw iw (eO bw [] (gw bw (lfD l) 0 l.length)))
theorem D5(l:List ByteArray)(b:Nat):∀(m:List ByteArray),(∀k x,m[k]? = Og x->l[b+k]? = Og x)->oC bw (lfD l) (ie b m):=by
 have:∀(n:Nat)(m:List ByteArray),m.length=n->(∀k x,m[k]? = Og x->l[b+k]? = Og x)->oC bw (lfD l) (ie b m):=by
  intro n
  induction n with
  | zero=>intro m hm _;rw[bn hm];exact trivial
  | succ n ih =>
   intro m hm h;have hlast:=ai (show n<m.length by omega);have em:m=m.take n++[m[n]]:=by have e:=aR (l:=m) (i:=n);rw[hlast,du mOm] at e;exact e
   have hk:=h n _ hlast
   generalize m[n]=x at em hk;rw[em,sM];have hl:(m.take n).length=n:=by rw[aI];omega
   rw[hl];refine mA _ _ (ih (m.take n) hl (fun k y hy=>?_)) ⟨⟨0,rfl,Nat.mod_one _,?_⟩,trivial⟩
   .have hkn:=(aA.1 hy).1;rw[hl] at hkn;rw[dN hkn] at hy;exact h k y hy
   .show rh x=lfD l (b+n)
    unfold lfD
    rw[bi,hk];rfl
 exact fun m h=>this m.length m rfl h
theorem G7(i j:Nat)(l x:List ByteArray):dF (cV i j) (fw l i j++x)=gw bw (lfD l) i j:=by
 have h:=AE bw (lfD l) i j;have hl:=mJ l i j;rw[<-h];unfold dF
 congr 1
 show(cV i j).zip (fw l i j++x)=(cV i j).zip (fw l i j)
 generalize fw l i j=d at hl
 generalize cV i j=b at hl;clear h
 induction b generalizing d with
 | nil=>rfl
 | cons y b ih =>
  cases d with
  | nil=>simp at hl
  | cons z d=>rw[List.cons_append,List.zip_cons_cons,List.zip_cons_cons,ih d (by simpa using hl)]
theorem rc(l:List ByteArray)(i j:Nat):∀s∈fw l i j,s.size=8:=by intro s hs;unfold fw gw at hs;rw[mL] at hs;obtain⟨z,_,rfl⟩:=ff.1 hs;exact oO l _ _
theorem C4(l:List ByteArray)(i j:Nat)(hij:i<=j)(hj:j<=l.length)(hn:l.length<=1000000):lj (gQ l) l.length i ((l.drop i).take (j-i)) (js l i j):=by
 have hlen:((l.drop i).take (j-i)).length=j-i:=by rw[aI,bD];omega
 refine⟨⟨mOm,mOm,mOm,mOm,by rw[hlen];omega⟩,?_,?_,?_⟩
 .intro s hs;unfold js at hs;rcases List.mem_append.1 hs with hs|hs
  .exact rc _ _ _ s hs
  .exact rc _ _ _ s hs
 .rw[hlen,cI,cI,show i+(j-i)=j by omega];unfold js;rw[List.length_append,mJ,mJ]
 .rw[cI,cI];unfold gQ Am sS;rw[List.reverse_reverse]
  congr 2
  unfold Fb
  rw[hlen,show i+(j-i)=j by omega];unfold js;have ed:(fw l 0 i++fw l j l.length).drop (cV 0 i).length=fw l j l.length:=by rw[<-mJ l 0 i];exact List.drop_left
  rw[G7,ed];rw[show dF (cV j l.length) (fw l j l.length)=gw bw (lfD l) j l.length from AE bw (lfD l) j l.length];have h0:=oS bw (lfD l) l.length l.length 0 mOm (aP _);have h1:=oS bw (lfD l) i i 0 mOm (aP _);have h3:=oS bw (lfD l) l.length (l.length-j) j (az _) hj;have h2:=zq i ((l.drop i).take (j-i)) (j-i) mOm;rw[du mOm,show i+(j-i)=j by omega] at h2
  have h4:=D5 l i ((l.drop i).take (j-i)) (fun k x hx=>by
   have hk:=(aA.1 hx).1;rw[hlen] at hk;rw[dN hk,el] at hx
   exact hx)
  rw[vF bw (lfD l) _ l.length h0.1 h0.2,vF bw (lfD l) _ l.length (nQ (nQ h1.1 h2) h3.1) (mA _ _ (mA _ _ h1.2 h4) h3.2)]
def jS(l:List ByteArray)(lo hi:ByteArray):List ByteArray:=(l.drop (eE l lo)).take (iB l lo hi-eE l lo)
theorem Bz{l:List ByteArray}(hs:fq l)(lo hi:ByteArray)(hn:l.length<=1000000) :
  jo (gQ l) l.length lo hi (eE l lo) (jS l lo hi) (js l (eE l lo) (iB l lo hi))/\(jS l lo hi).filter (inB lo hi)=l.filter (inB lo hi):=by
 have hf1:=jE l lo;have hf2:=jE l hi;obtain⟨i,hi0⟩:∃i,i=eE l lo:=⟨_,rfl⟩;obtain⟨j,hj0⟩:∃j,j=iB l lo hi:=⟨_,rfl⟩;have ei:i=eL l lo-1:=hi0;have ej:j=min l.length (max (eL l lo) (eL l hi)+1):=hj0;have hij:i<=j:=mOm;have hjl:j<=l.length:=mOm;unfold jS;rw[<-hi0,<-hj0];have hlen:((l.drop i).take (j-i)).length=j-i:=by rw[aI,bD];omega
 have hat:∀k,k<j-i->((l.drop i).take (j-i))[k]? = l[i+k]?:=fun k hk=>by rw[dN hk,el]
 refine⟨⟨C4 l i j hij hjl hn,?_,?_,?_⟩,?_⟩
 .intro k a b ha hb;have hk:=(aA.1 hb).1;rw[hlen] at hk;rw[hat k mOm] at ha;rw[hat (k+1) hk,<-Nat.add_assoc] at hb;exact hs _ a b ha hb
 .rw[cI];unfold wt;by_cases h0:i=0
  .rw[decide_eq_true h0,Bool.true_or]
  .have hge:=ai (show i<l.length by omega);rw[hat 0 mOm,ew,hge];have:=(kI hs (s:=lo) hge).1 mOm
   show(decide _||decide _)=true
   rw[decide_eq_true this,Bool.or_true]
 .rw[cI,cI];unfold tt;rw[hlen];by_cases h0:i+(j-i)=l.length
  .rw[decide_eq_true h0,Bool.true_or]
  .have hge:=ai (show j-1<l.length by omega);rw[hat (j-i-1) mOm,show i+(j-i-1)=j-1 by omega,hge]
   have:¬cC l[j-1] hi<0:=fun h=>by
    have:=(kI hs (s:=hi) hge).2 h;omega
   show(decide _ || !decide _)=true
   rw[decide_eq_false this,jO,Bool.or_true]
 .have e1:l=l.take i++((l.drop i).take (j-i)++l.drop j):=by
   have h1:l.drop j=(l.drop i).drop (j-i):=by rw[List.drop_drop];congr 1;omega
   rw[h1,cP,cP]
  have e2:(l.take i).filter (inB lo hi)=[]:=by
   rw[List.filter_eq_nil_iff];intro x hx;obtain⟨k,hk,hk2⟩:=List.mem_take_iff_getElem.1 hx;have hge:l[k]? = Og x:=by rw[ai mOm,hk2]
   have:=(kI hs (s:=lo) hge).1 mOm;unfold inB;rw[decide_eq_true this];simp
  have e3:(l.drop j).filter (inB lo hi)=[]:=by
   rw[List.filter_eq_nil_iff];intro x hx;obtain⟨k,hk,hk2⟩:=List.getElem_of_mem hx;rw[bD] at hk;have hge:l[j+k]? = Og x:=by rw[<-el,ai (by rw[bD];omega),hk2]
   have:¬cC x hi<0:=fun h=>by
    have:=(kI hs (s:=hi) hge).2 h;omega
   unfold inB
   rw[decide_eq_false this];simp
  conv=>rhs;rw[e1]
  rw[dV,dV,e2,e3,dI,dq]
end
section
theorem oz(t te:TypeId)(hu:prog.underlying t=Og (.slice te))(hz:∀w,(sizeOf te).run prog w=.ok (prog.cellsOf te) w)(p:Option Addr)(n c m:Nat)(hm:m<=n)(hc:n<=c)(hp:p=Oh->c=0)(w:World):(Instr.sliceAt t (Oc p n c) Oh (Og (N9 Oa m)) Oh).run prog w=.ok (Oc p m c) w:=by
 have h1:(m:Int)<=(c:Int):=mOm;have h2:(m:Int)<=(n:Int):=mOm
 cases p with
 | none =>
  obtain rfl:=hp rfl;obtain rfl:n=0:=mOm;obtain rfl:m=0:=mOm
  go_simp
 | some a =>
  go_simp
theorem oV{ops:Array Oper}{Q:Exit->Act->World->Prop}{S:World->Prop}{i:Nat}{σ:List (Nat×Bool)}{a:Act}{w:World}(oi:Oper)(hi:ops[i]? = Og oi)(hw:Region.wanted oi (yielded ops a.tmps)=true)(t te:TypeId)(x y:Operand)(ho:oi.op=.slice t x Oh (Og y) Oh)(hu:prog.underlying t=Og (.slice te))(hz:∀w,(sizeOf te).run prog w=.ok (prog.cellsOf te) w)
  (p:Option Addr) (n c m:Nat) (hx:a.eval x=Oc p n c) (hy:a.eval y=N9 Oa m) (hm:m<=n) (hc:n<=c) (hp:p=Oh->c=0)
  (h:aQ prog ops Q S σ (a.put oi.dst (Oc p m c)) w):aQ prog ops Q S ((i,true)::σ) a w:=
 mR oi (Oc p m c) hi hw (fun w _=>by
  unfold execOp
  simp only[ho,hx,hy,Option.map_some,Option.map_none,Sem.run_bind,Sem.run_pure,oz t te hu hz p n c m hm hc hp w,Result.andThen_ok]) h
theorem BW{P:Program}{ops:Array Oper}{Q:Exit->Act->World->Prop}{S:World->Prop}{i:Nat}{t:FlowT}{a:Act}{w:World}(oi:Oper)(hi:ops[i]? = Og oi)(hw:Region.wanted oi (yielded ops a.tmps)=true)(ty:TypeId)(x:Operand)(ho:oi.op=.load ty x)
  (b o:Nat) (hx:a.eval x=Od (Og ⟨b,o,Oh⟩)) (cs:List Value) (d:TypeDesc) (hS:∀w,S w->w.rangeAt b o cs) (hu:P.underlying ty=Og d) (hd:d.isRow=true) (hi2:(P.info? ty).map (·.size)=Og cs.length)
  (h:dB P ops Q S t (a.put oi.dst (.agg cs.toArray)) w):dB P ops Q S (.take i t) a w:=⟨oi,_,hi,yieldsIf_load_mid hw ty x ho b o hx cs d hS hu hd hi2,h⟩
theorem bz.box{α:Type}{enc:α->List Value}{k:Nat}{e:TypeId}{w0 w:World}{v:Value}{M:List α}(h:bz enc k e w0 w v M){b:Nat}(hb:w0.heap.size<=b)(hne:∀q,v.ownBlock=Og q->q≠b)(cs:Array Value):bz enc k e w0 (w.setRow b cs) v M:=
 ⟨h.form,bK h.own (aF.setRow w b cs) (fun q hq e=>hne q hq e),bu h.low hb cs⟩
theorem IV{α:Type}{enc:α->List Value}{w:World}{v:Value}{L:List α}{bx:Nat}(h:ar enc w v L)(hne:∀b o n c,v=Oc (Og ⟨b,o,Oh⟩) n c->0<L.length->b≠bx)(cs:Array Value):ar enc (w.setRow bx cs) v L:=by
 obtain⟨p,c,rfl,h1,h2,h3⟩:=h;refine⟨p,c,rfl,h1,h2,fun hl=>?_⟩;obtain⟨b,o,rfl,hlt,hC⟩:=h3 hl;have hb:¬b=bx:=hne b o _ _ rfl hl;have hB:=aF.setRow w bx cs;exact⟨b,o,rfl,Nat.lt_of_lt_of_le hlt hB.size,fun j u hj=>(hB.cell hlt hb _ Oh).trans (hC j u hj)⟩
theorem jg{α:Type}{enc:α->List Value}{k:Nat}(hk:∀x,(enc x).length=k){w:World}{v:Value}{L:List α}(h:ar enc w v L){bx:Nat}{cs0:Array Value}{t:TypeId}(hbox:w.heap[bx]? = Og (Of cs0 t (0,0)))(hsz:cs0.size<k)(cs:Array Value):ar enc (w.setRow bx cs) v L:=by
 refine IV h (fun b o n c hv hl e=>?_) cs;subst e;obtain⟨p,c',rfl,h1,h2,h3⟩:=h;obtain⟨b',o',hp,hlt,hC⟩:=h3 hl;subst hp;injection hv with e1 _ _;injection e1 with e1;injection e1 with e1 e2 _;subst e1;subst e2;obtain⟨x,L',rfl⟩:∃x L',L=x::L':=by
  cases L with
  | nil=>cases hl
  | cons x L'=>exact⟨x,L',rfl⟩
 have hlen:k-1<(enc x).length:=by rw[hk];omega
 have hj:(aN enc (x::L'))[k-1]? = Og (enc x)[k-1]:=by
  show(enc x++aN enc L')[k-1]? = _
  rw[List.getElem?_append_left hlen,ai hlen]
 have:=hC _ _ hj
 rw[Lib.cell_of_heap hbox,Array.getElem?_eq_none mOm] at this
 cases this
theorem mj{α:Type}{enc:α->List Value}{k:Nat}(e:TypeId)(w:World)(cs:Array Value)(L:List α)(n:Nat)(hn:L.length=n)(hm:n<=maxLen)(hs:cs.size=n*k)(hcs:cs.toList=aN enc L):bz enc k e w (w.alloc (Of cs e)) (Oc (Og ⟨w.heap.size,0,Oh⟩) n n) L:=by subst hn;exact⟨⟨_,_,rfl⟩,hcs ▸ kg w cs L.length (az _) hm hs,aj w _⟩
