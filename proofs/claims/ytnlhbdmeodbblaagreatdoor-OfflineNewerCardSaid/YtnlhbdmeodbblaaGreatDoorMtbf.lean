/- Lemmas. -/
import Derived.Laws.IdiomCopy
import Derived.Shelf.Spec.SlicesInsert
import Derived.Test.YtnlhbdmeodbblaaGreatDoorMtbc
import Derived.Test.YtnlhbdmeodbblaaGreatDoorMtbd
set_option maxRecDepth 100000
set_option maxHeartbeats 16000000
set_option linter.all false
open Go.Proofs.Tryz
open Go.Lib renaming hid->aa
open List renaming drop_eq_getElem_cons->cL,drop_eq_nil_of_le->fm,eq_nil_of_length_eq_zero->bn,getElem?_eq_getElem->ai,getElem?_eq_some_iff->aA,length_append->ap,length_drop->bD,length_map->aU,length_singleton->aB,length_take->aI,mem_map->ff,mem_singleton->bE,take_add_one->aR,take_append_of_le_length->dK,take_length->aT
open Nat renaming zero_add->bP,zero_le->aP
open Option renaming toList_some->df
open Go.RowKit renaming Below->ac,intOf->aw
open Go.Ending renaming returned->Oe
open Go.IntKind renaming i64->Oa
open Go.Obj renaming cells->Of
open Go.Value renaming int->N9,string->Ob,slice->Oc
open Option renaming some->Og,none->Oh
namespace Go.Proofs.YtnlhbdmeodbblaaGreatDoor
open Go Go.RowKit Go.Sort Go.Lib
section
theorem MC(t:TypeId)(a b:ByteArray):binOp .gtr t (Ob a) (Ob b)=pure (.bool (Op.bytesLess b.toList a.toList)):=by rw[binOp_string_gtr,tB,Bool.not_not]
attribute [local go_sem 2000] MC
theorem xN{M:List ByteArray}{x:ByteArray}{at_:Nat}(hat:at_<=M.length)(h:∀y∈M.drop at_,cC x y<0)(h0:∀y,0<at_->M[at_-1]? = Og y->¬cC x y<0):M.take at_++x::M.drop at_=iW M x:=by have:=J4 hat h h0;unfold iW;rw[this]
theorem CH(L:List ByteArray):aN bV L=L.map Value.string:=by
 induction L with
 | nil=>rfl
 | cons a L ih=>show bV a++aN bV L=_;rw[ih];rfl
theorem Fr(M:List ByteArray)(z x:ByteArray)(a:Nat)(ha:a<=M.length):jk (jk (aN bV (M++[z])) (a+1) ((M.drop a).map Value.string)) a [Ob x]=aN bV (M.take a++x::M.drop a):=by
 rw[CH,CH,jb _ _ (a+1) (by simp;omega)];have hlen:(((M++[z]).map Value.string).take (a+1)++(M.drop a).map Value.string++((M++[z]).map Value.string).drop (a+1+((M.drop a).map Value.string).length)).length=M.length+1:=by simp only[ap,aI,bD,aU,aB];omega
 rw[jb _ _ a (by rw[hlen];simp only[aB];omega)]
 have e1:((M++[z]).map Value.string).drop (a+1+((M.drop a).map Value.string).length)=[]:=by apply fm;simp only[aU,ap,bD,aB];omega
 rw[e1,List.append_nil]
 have e2:(((M++[z]).map Value.string).take (a+1)++(M.drop a).map Value.string).take a=(M.take a).map Value.string:=by rw[dK (by simp only[aI,aU,ap,aB];omega),List.take_take,Nat.min_eq_left mOm,<-List.map_take,dK ha]
 have e3:(((M++[z]).map Value.string).take (a+1)++(M.drop a).map Value.string).drop (a+[Value.string x].length)=(M.drop a).map Value.string:=by
  have:(((M++[z]).map Value.string).take (a+1)).length=a+1:=by simp only[aI,aU,ap,aB];omega
  exact List.drop_left' this
 rw[e2,e3,List.map_append,List.map_cons]
 simp
theorem nf{p q:Prop}(h:q) (f:Wq q->p:=by
 intro hq;refine aD (S:=fun u=>ac w.heap.size w u) [(0,true),(1,true),(2,true),(3,true),(4,true),(5,true),(6,true),(7,false)] hS0 ?_;have hS:=hS0
 iterate 7 refine ak ?_
 revert hS
 exact hq.1):p:=f ⟨h⟩
theorem qt{p q:Prop}(h:q) (f:Wq q->p:=by
 intro hq;refine ll ⟨_,_,_,_,_,_⟩ rfl mRf (wp_copy_runI _ (.tmp 36) (.tmp 39) _ _ mRf _ _ mRf mRf (hrun0 _ _ _ _ _) ?_);refine⟨hS,?_⟩;refine ay ?_;simp only[aQ,aZ]
 exact hq.1):p:=f ⟨h⟩
theorem rK{p:Prop} (h:p:=by
 have hlit:ar bV ((wr.alloc (Of #[Ob ⟨#[]⟩] 9)).drew) (Oc (Og ⟨wr.heap.size,0,Oh⟩) 1 1) [⟨#[]⟩]:=cN (w:=((wr.alloc (Of #[Ob ⟨#[]⟩] 9)).drew)) (heap_alloc_new wr (Of #[Ob ⟨#[]⟩] 9)) _ rfl rfl;have hown:=hP.own;have hsz:=hP.low.size;have HP:=aa hP;clear hP;go_wp2_with (at_builtin;refine bl lY rfl (.tmp 30) (.tmp 31) rfl w.heap.size _ _ M [⟨#[]⟩] rfl rfl hown hlit (by have:=HM.out;simp only[aB];omega) hsz ?_;intro v9 w10 hA9;have H9:=aa (HP.out.app hA9);obtain⟨g9,c9,hv9⟩:=jU H9.out.own;subst hv9;clear hA9 hown hsz hlit);have hown9:=H9.out.own;have hlow9:=H9.out.low;obtain⟨q1,q2,q3,q4⟩:=pE hown9;rw[ap,HM.out,aB] at q1;have hr9:=H9.out.row fH mDe;obtain⟨g',o',hg',hl9,hc9⟩:=gb hr9 rfl (by rw[ap,HM.out,aB];omega);injection hg' with hg';injection hg' with hg1 hg2;subst hg1 hg2;have HC9:=aa hc9;have hxF:=hlow9.cell (p:=⟨lg,lo+k,Oh⟩) hlg |>.trans hxc
 clear hc9 hr9;rw[ap,HM.out,aB] at hown9;have hth:w10.there g9 0 (k+1):=gz hown9 0 (k+1) mOm;have a1:IntKind.i64.wrap ((at_:Int)+1)=(at_:Int)+1:=IntWalk.i64_in _ mOm;have b1:(0:Int)<=(at_:Int):=mOm;have b2:(at_:Int)<=(k:Int)+1:=mOm;have b3:(at_:Int)+1<=(k:Int)+1:=mOm;have b4:(0:Int)<=(at_:Int)+1:=mOm;have b5:((at_:Int)+1).toNat=at_+1:=mOm;have b6:¬c9=at_:=mOm;have b10:(at_:Int)<(k:Int)+1:=mOm;obtain⟨us,hus⟩:∃us,us=(M.drop at_).map Value.string:=⟨_,rfl⟩;have hul:us.length=k-at_:=by rw[hus,aU,bD,HM.out]
 have hue:∀j v,us[j]? = Og v->∃y,M[at_+j]? = Og y/\v=Ob y:=fun j v h=>by
  rw[hus,List.getElem?_map,List.getElem?_drop] at h
  cases hm:M[at_+j]? with
  | none=>rw[hm] at h;cases h
  | some y=>rw[hm] at h;exact⟨y,rfl,(Option.some.inj h).symm⟩
 have hu1:∀v∈us,v.oneCell'=true:=fun v hv=>by
  rw[hus] at hv;obtain⟨y,-,rfl⟩:=ff.1 hv;rfl
 have hrow2:=gG us w10.drew _ (at_+1) hown9
 have hgr:=aF.grown hrow2.2;have hrow3:=gG [Ob x] (w10.drew.setCells g9 (at_+1) us) _ at_ hrow2.1;have hgr3:=aF.grown hrow3.2;have hth3:(w10.drew.setCells g9 (at_+1) us).there g9 0 (k+1):=gz hrow2.1 0 (k+1) mOm;have hat3:=hth3 at_ mOm;rw[bP] at hat3;obtain⟨old,hold⟩:=Option.isSome_iff_exists.1 hat3.1;have hfz:=hat3.2;have hlg9:lg≠g9:=mOm;have hx3:(w10.drew.setCells g9 (at_+1) us).cell? ⟨lg,lo+k,Oh⟩=Og (Ob x):=(World.cell?_setCells_out g9 _ _ _ _ (fun e _=>absurd e hlg9)).trans hxF;have hfin:bz bV 1 9 w ((w10.drew.setCells g9 (at_+1) us).setCell ⟨g9,at_,Oh⟩ (Ob x)) (Oc (Og ⟨g9,0,Oh⟩) (k+1) c9) (iW M x):=by
  have h:=hrow3.1;rw[hus,Fr M ⟨#[]⟩ x at_ (by have:=HM.out;omega),HIN.out] at h;have hl:(iW M x).length=k+1:=by rw[tN,HM.out]
  rw[<-hus] at h;rw[<-hl] at h |-;exact bz.of h ((hlow9.drew.trans (hgr.below (B:=w.heap.size) (fun q hq e=>by have:=Option.some.inj e;omega) hlow9.size)).trans (hgr3.below (B:=w.heap.size) (fun q hq e=>by have:=Option.some.inj e;omega) (by have:=hgr.size;have:=hlow9.size;exact Nat.le_trans hlow9.size hgr.size)))
 have HFIN:=aa hfin
 have hrun:(Builtin.copy_ #[37,37] 3 #[Oc (Og ⟨g9,at_+1,Oh⟩) (k-at_) (c9-(at_+1)),Oc (Og ⟨g9,at_,Oh⟩) (k+1-at_) (c9-at_)]).run prog w10.drew=.ok (goInt us.length) (w10.drew.setCells g9 (at_+1) us):=
  run_copy_cells w10.drew _ _ _ 9 g9 (at_+1) (k-at_) _ ⟨g9,at_,Oh⟩ (k+1-at_) _ us underlying37 mKr (by rw[hul];exact(Nat.min_eq_right mOm).symm)
   (fun j v h=>by
    obtain⟨y,hy,rfl⟩:=hue j v h;rw[Addr.add_mid];have:=HC9.out (at_+j) y (by rw[List.getElem?_append_left (aA.1 hy).1];exact hy);rw[bP] at this
    exact this)
   (fun j hj=>by have:=hth (at_+1+j) mOm;rw[bP] at this;exact this.1)
   (fun j hj=>by have:=hth (at_+1+j) mOm;rw[bP] at this;exact this.2) hu1
 have hS0:ac w.heap.size w w10.drew:=hlow9.drew
 have hsF:ac w.heap.size w (w10.drew.setCells g9 (at_+1) us):=hlow9.drew.trans (hgr.below (B:=w.heap.size) (fun q hq e=>by have:=Option.some.inj e;omega) hlow9.size);clear hrow2 hrow3 hgr hgr3 hth hth3 hat3 hfin hue hu1 hown9 hlow9 hxF;by_cases hkk:at_=k
 .obtain rfl:us=[]:=bn mOm;obtain rfl:=hkk;have hrun0:∀(d a:Option Addr)(dCap sLen sCap:Nat),(Builtin.copy_ #[37,37] 3 #[Oc d 0 dCap,Oc a sLen sCap]).run prog w10.drew=.ok (goInt 0) w10.drew:=fun d a dCap sLen sCap=>run_copy_none w10.drew _ _ _ 9 d a 0 dCap sLen sCap underlying37 mKr (Nat.min_zero _)
  replace hold:w10.drew.cell? ⟨g9,at_,Oh⟩=Og old:=hold;replace hfz:w10.drew.frozen? ⟨g9,at_,Oh⟩=false:=hfz;replace hx3:w10.drew.cell? ⟨lg,lo+at_,Oh⟩=Og (Ob x):=hx3;have HFIN:Hid (bz bV 1 9 w (w10.drew.setCell ⟨g9,at_,Oh⟩ (Ob x)) (Oc (Og ⟨g9,0,Oh⟩) (at_+1) c9) (iW M x)):=HFIN;clear hrun hul hus hsF;by_cases d1:c9=at_+1
  .have d9:c9-(at_+1)=0:=mOm;refine nf ?_;intro hS;refine qt ?_;go_wp2_with fail
   go_roundw
   case rel=>exact⟨at_+1,mOm,by go_num,by rw[HT.out];exact HFIN.out,by rw[HT.out,tN,HM.out]⟩
   case measure=>simp[aw];omega
  .have d9:¬c9-(at_+1)=0:=mOm;refine nf ?_;intro hS;refine qt ?_;go_wp2_with fail
   go_roundw
   case rel=>exact⟨at_+1,mOm,by go_num,by rw[HT.out];exact HFIN.out,by rw[HT.out,tN,HM.out]⟩
   case measure=>simp[aw];omega
 .have d1:¬c9=at_+1:=mOm;clear hkk hul hus;refine nf ?_;intro hS;refine ll ⟨_,_,_,_,_,_⟩ rfl mRf (wp_copy_runI _ (.tmp 36) (.tmp 39) _ _ mRf _ _ mRf mRf hrun ?_);refine⟨hsF,?_⟩;refine ay ?_;simp only[aQ,aZ];go_wp2_with fail
  go_roundw
  case rel=>exact⟨k+1,mOm,by go_num,by rw[HT.out];exact HFIN.out,by rw[HT.out,tN,HM.out]⟩
  case measure=>simp[aw];omega):p:=h
theorem qy{p q:Prop}(h:q) (f:Wq q->p:=by
 intro hq;refine aD (S:=fun u=>ac wr.heap.size wr u/\u.cell? ⟨mg,mo+m,Oh⟩=Og (Ob y)/\u.cell? ⟨lg,lo+k,Oh⟩=Og (Ob x)) [(0,true),(1,true),(2,true),(3,true),(4,true),(5,true),(6,true),(7,true),(8,true),(9,true),(10,true),(11,true),(12,true),(13,true)] hS0 ?_;have hS:=hS0
 iterate 14 refine ak ?_
 simp only[aQ,aZ]
 revert hS
 exact hq.1):p:=f ⟨h⟩
theorem sR(l:List ByteArray)(p:Option Addr)(c:Nat)(w:World)(h:ar bV w (Oc p l.length c) l)(hl:l.length<=100000) :
  Calls prog 135 #[Oc p l.length c] w fun e w'=>∃v,e=Oe v/\bz bV 1 9 w w' v (kT l):=by
 have HL:=aa h;clear h;go_enter func135,ntmps135;go_wp2_with fail
 go_loopw [3,4] (fun v i wr=>∃k:Nat,k<=l.length/\i=N9 Oa k/\bz bV 1 9 w wr v ((l.take k).foldl iW [])/\((l.take k).foldl iW []).length=k) (fun _ i _=>l.length-(aw i).toNat)
 case atStart=>exact⟨0,aP _,rfl,bz.nil _ _ _ _,rfl⟩
 case round =>
  obtain⟨k,hk,rfl,hO,hMl⟩:=hrel;obtain⟨pv,cv,hv⟩:=hO.form;subst hv;by_cases hlt:k<l.length
  rotate_left 1
  .obtain rfl:k=l.length:=mOm;have i1:¬(l.length:Int)<(l.length:Int):=mOm;rw[aT] at hO;have HO:Hid (bz bV 1 9 w wr (Oc pv (l.foldl iW []).length cv) (kT l)):=aa hO;rw[aT];clear hO;go_wp2_with fail;go_ret;exact⟨_,rfl,HO.out⟩
  obtain⟨lg,lo,rfl,hlg,hlc⟩:=gb HL.out rfl mOm
  have hge:=ai hlt;have hxc:=hlc k _ hge;have j1:(k:Int)<(l.length:Int):=mOm;have j2:(0:Int)<=(k:Int):=mOm
  have HT:Hid ((l.take (k+1)).foldl iW []=iW ((l.take k).foldl iW []) l[k]):=aa (by
   rw[aR,hge,df,List.foldl_append];rfl)
  generalize l[k]=x at *
  generalize (l.take k).foldl iW []=M at *;rw[hMl];have hk5:k<=100000:=mOm;have HO:=aa hO;have HM:=aa hMl;have hlow:=hO.low;clear hO hge hlc;obtain⟨w2,hw2⟩:∃u,u=wr:=⟨_,rfl⟩;subst hw2;go_wp2_with fail
  go_loopw [5] (fun a wr=>∃at_:Nat,at_<=k/\a=N9 Oa at_/\Hid (∀y∈M.drop at_,cC x y<0)/\ac w2.heap.size w2 wr) (fun a _=>(aw a).toNat)
  case atStart=>exact⟨k,Nat.le_refl _,rfl,aa (fun y hy=>by rw[List.drop_of_length_le (by have:=HM.out;omega)] at hy;cases hy),Below.refl _ _⟩
  case round =>
   obtain⟨at_,hak,rfl,HA,hbi⟩:=hrel;by_cases hz:at_=0
   .have HIN:Hid (M.take at_++x::M.drop at_=iW M x):=aa (xN (by have:=HM.out;omega) HA.out (fun y h0=>by omega));have i0:decide (0<at_)=false:=decide_eq_false mOm;have hS0:ac wr.heap.size wr wr.drew:=(Below.refl _ wr).drew;clear hz;go_wp2_with fail;refine aD (S:=fun u=>ac wr.heap.size wr u) [(0,true),(1,true),(2,true),(3,true),(4,true),(5,true),(6,true),(7,true),(8,true),(9,true),(10,true),(11,true),(12,true),(13,true)] hS0 ?_;have hS:=hS0
    iterate 14 (first|refine ak ?_|refine dw ?_)
    simp only[aQ,aZ];clear hS hS0;have hbA:=ah hbi (aj wr (Of #[Ob ⟨#[]⟩] 9)).drew;have hP:bz bV 1 9 w ((wr.alloc (Of #[Ob ⟨#[]⟩] 9)).drew) (Oc pv k cv) M:=by
     have h:=HO.out.next hbA
     rwa [show Value.slice pv M.length cv=Value.slice pv k cv by rw[HM.out]] at h
    exact rK
   .obtain⟨m,hm⟩:∃m,at_=m+1:=⟨at_-1,mOm⟩;have hrow:=(HO.out.next hbi).row fH mDe;obtain⟨mg,mo,hpv,hmg,hmc⟩:=gb hrow rfl (by have:=HM.out;omega);subst hpv;have hgm:=ai (show m<M.length by have:=HM.out;omega);have hyc:=hmc m _ hgm;have HY:Hid (M.drop m=M[m]'(by have:=HM.out;omega)::M.drop (m+1)):=aa (cL _);have HGM:=aa hgm;generalize M[m]'(by have:=HM.out;omega)=y at *;have hxi:=((ah hlow hbi).cell (p:=⟨lg,lo+k,Oh⟩) hlg).trans hxc;have i0:decide (0<at_)=true:=decide_eq_true mOm;have i3:IntKind.i64.wrap ((at_:Int)-1)=(m:Int):=by rw[show(at_:Int)-1=(m:Int) by omega];exact fY _ _ rfl mOm
    have i4:(m:Int)<(k:Int):=mOm;have i5:(0:Int)<=(m:Int):=mOm;have hS0:ac wr.heap.size wr wr.drew/\wr.drew.cell? ⟨mg,mo+m,Oh⟩=Og (Ob y)/\wr.drew.cell? ⟨lg,lo+k,Oh⟩=Og (Ob x):=⟨(Below.refl _ wr).drew,hyc,hxi⟩;have hbl:=kV x y;have HMM:=aa hm;clear hgm hmc hrow hyc hxi hz hm;by_cases hxy:cC x y<0
    .rw[decide_eq_true hxy] at hbl
     have HA2:Hid (∀z∈M.drop m,cC x z<0):=aa (fun z hz=>by
      rw[HY.out,<-HMM.out] at hz;rcases List.mem_cons.1 hz with rfl|hz
      .exact hxy
      .exact HA.out z hz)
     have hmk:m<=k:=mOm
     have HMS:=aa (show m<at_ by have:=HMM.out;omega);clear hxy;go_wp2_with fail;refine qy ?_;intro hS;have hb2:=ah hbi hS.1;go_wp2_with fail
     go_roundw
     case rel=>exact⟨m,hmk,by go_num,HA2,hb2⟩
     case measure=>have:=HMS.out;first|(simp[aw];omega)|(simp[aw];done)
    .rw[decide_eq_false hxy] at hbl;have HIN:Hid (M.take at_++x::M.drop at_=iW M x):=aa (xN (by have:=HM.out;omega) HA.out (fun z h0 hz=>by rw[HMM.out,Nat.add_sub_cancel,HGM.out] at hz;obtain rfl:=Option.some.inj hz;exact hxy));clear hxy;go_wp2_with fail;refine qy ?_;intro hS;clear hS hS0;have hbA:=ah hbi (aj wr (Of #[Ob ⟨#[]⟩] 9)).drew;have hP:bz bV 1 9 w ((wr.alloc (Of #[Ob ⟨#[]⟩] 9)).drew) (Oc (Og ⟨mg,mo,Oh⟩) k cv) M:=by
      have h:=HO.out.next hbA
      rwa [show Value.slice (Og ⟨mg,mo,Oh⟩) M.length cv=Value.slice (Og ⟨mg,mo,Oh⟩) k cv by rw[HM.out]] at h
     exact rK
end
section
theorem zo(e:Ent):(dD e).size<=40:=by
 rw[bF]
 show(fW e++32::oE e.code).length<=40
 have:=tQ e
 rw[ap,List.length_cons,mT];omega
theorem uX(l:List Ent):∀s∈cH l,s.size<=100000000:=fun s hs=>by
 unfold cH at hs;obtain⟨e,-,rfl⟩:=ff.1 hs;have:=zo e;omega
theorem Hd(l:List Ent):∀s∈bQ l,s.size<=100000000:=fun s hs=>uX l s ((iZ _).mem_iff.1 hs)
theorem xK(l:List Ent)(hok:∀e∈l,e.Ok)(p:Option Addr)(c:Nat)(w:World)(h:ar bL w (Oc p l.length c) l)(hl:l.length<=5000) :
  Calls prog 131 #[Oc p l.length c] w fun e w'=>e=Oe (.tuple #[Ob (gQ (cH l)),Ob (gQ (bQ l))])/\ac w.heap.size w w':=by
 have k1:=xC l hok p c w h mOm;have hln:(cH l).length=l.length:=by unfold cH;rw[aU]
 have han:(bQ l).length=l.length:=by unfold bQ;rw[mW,hln]
 have k2:∀p2 c2 u,ar bV u (Oc p2 (cH l).length c2) (cH l)->Calls prog 187 #[Oc p2 (cH l).length c2] u fun e w'=>e=Oe (Ob (gQ (cH l)))/\ac u.heap.size u w':=fun p2 c2 u hu=>vL (cH l) p2 c2 u (uX l) mOm hu
 have k3:∀p2 c2 u,ar bV u (Oc p2 (cH l).length c2) (cH l)->Calls prog 135 #[Oc p2 (cH l).length c2] u fun e w'=>∃v,e=Oe v/\bz bV 1 9 u w' v (bQ l):=fun p2 c2 u hu=>sR (cH l) p2 c2 u hu mOm
 have k4:∀p2 c2 u,ar bV u (Oc p2 (bQ l).length c2) (bQ l)->Calls prog 187 #[Oc p2 (bQ l).length c2] u fun e w'=>e=Oe (Ob (gQ (bQ l)))/\ac u.heap.size u w':=fun p2 c2 u hu=>vL (bQ l) p2 c2 u (Hd l) mOm hu
 clear hok h hln han;generalize gQ (cH l)=R1 at *;generalize gQ (bQ l)=R2 at *;generalize bQ l=A at *;generalize cH l=B at *;go_enter func131,ntmps131;go_wp2_with fail;refine k1.mono ?_;rintro _ w1⟨v,rfl,hO⟩;obtain⟨pB,cB,hvB⟩:=hO.form;subst hvB;have hrow:=hO.row fH mDe;have hb1:=hO.low;clear k1 hO;go_wp2_with fail;refine(k2 _ _ _ hrow).mono ?_;rintro _ w2⟨rfl,hb2⟩;have hrow2:=hrow.below hb2;have hbz:=ah hb1 hb2;clear hrow hb1 hb2;go_wp2_with fail;refine(k3 _ _ _ hrow2).mono ?_;rintro _ w3⟨v,rfl,hO⟩;obtain⟨pA,cA,hvA⟩:=hO.form;subst hvA;have hrow3:=hO.row fH mDe;have hb3:=ah hbz hO.low;clear hO hrow2;go_wp2_with fail;refine(k4 _ _ _ hrow3).mono ?_;rintro _ w4⟨rfl,hb4⟩;have hbF:=ah hb3 hb4;clear hrow3 hb3 hb4 hbz;go_wp2_with fail
 go_ret2
 exact⟨rfl,hbF⟩
theorem zC(l:List ByteArray):(gQ l).size=8:=rfl
theorem vZ(l:List Ent)(hok:∀e∈l,e.Ok)(p:Option Addr)(c:Nat)(w:World)(h:ar bL w (Oc p l.length c) l)(hl:l.length<=5000) :
  Calls prog 74 #[Oc p l.length c] w fun e w'=>e=Oe (Ob (jV l))/\ac w.heap.size w w':=by
 have k1:=xK l hok p c w h hl;have k2:=fun u=>C9 (gQ (cH l)) (gQ (bQ l)) (by rw[zC];omega) (by rw[zC];omega) u
 have HT:Hid (lM (gQ (cH l)) (gQ (bQ l))=jV l):=aa rfl;generalize jV l=T at *;generalize gQ (cH l)=R1 at *;generalize gQ (bQ l)=R2 at *;go_enter func74,ntmps74;go_wp2_with fail;refine k1.mono ?_;rintro _ w1⟨rfl,hb1⟩;go_wp2_with fail;refine(k2 _).mono ?_;rintro _ w2⟨rfl,hb2⟩;have hbF:=ah hb1 hb2;go_wp2_with fail;go_ret;exact⟨cU HT.out,hbF⟩
end
section
def kX(l:List Ent)(y:aC):Prop:=0<=y.size/\y.size<=l.length/\jV (l.take y.size.toNat)=y.tree
def mK(R:List aC)(l:List Ent):Prop:=∀y∈R,kX l y
theorem rT{p:Prop} (h:p:=by
 go_wp2_with fail;refine aD (S:=fun u=>ac w.heap.size w u) [(0,true),(1,true),(2,true),(3,true),(4,true),(5,true),(6,true),(7,true),(8,true),(9,true),(10,true),(11,true),(13,true),(14,true),(15,true),(16,true),(17,true),(12,false),(18,true),(19,true)] hbD ?_;have hS:=hbD
 iterate 17 (first|refine ak ?_|refine dw ?_)
 refine jF ⟨_,_,_,_,_,_⟩ rfl mRf hS ?_;refine ay ?_
 iterate 2 (first|refine ak ?_|refine dw ?_)
 simp only[aQ,aZ];go_wp2_with fail;go_ret
 exact⟨false,rfl,⟨fun e=>(by cases e),fun h=>absurd h HN.out⟩,hbD⟩):p:=h
theorem D8(R:List aC)(l:List Ent)(hok:∀e∈l,e.Ok)(pr p:Option Addr)(cr c:Nat)(w:World)(hr:ar cY w (Oc pr R.length cr) R)(h:ar bL w (Oc p l.length c) l)(hR:R.length<=1000)(hl:l.length<=5000) :
  Calls prog 185 #[Oc pr R.length cr,Oc p l.length c] w (mf (mK R l) w):=by
 have HR:=aa hr;have HL:=aa h;have hcap:l.length<=c:=by obtain⟨p',c',e',h1,_⟩:=h;injection e' with _ _ e3;omega
 have hpn:p=Oh->c=0:=by obtain⟨p',c',e',_,h1,_⟩:=h;injection e' with e1 _ e3;rw[e1,e3];exact h1
 have HPN:=aa hpn;clear hr h hpn;go_enter func185,ntmps185;go_wp2_with fail
 go_loopw [5] (fun i wr=>∃k:Nat,k<=R.length/\i=N9 Oa k/\Hid (∀y∈R.take k,kX l y)/\ac w.heap.size w wr) (fun i _=>R.length-(aw i).toNat)
 case atStart=>exact⟨0,aP _,rfl,aa (fun y hy=>by cases hy),Below.refl _ _⟩
 case round =>
  obtain⟨k,hk,rfl,HI,hb⟩:=hrel;by_cases hlt:k<R.length
  .obtain⟨g1,o1,hpr,hbl1,hcv1⟩:=dh (kk:=7) HR.out dp rfl mOm;have hge:=ai hlt;have hra:=hcv1 k _ hge;have HT:Hid (R.take (k+1)=R.take k++[R[k]]):=aa (by rw[aR,hge];rfl);have HM:=aa (List.getElem_mem hlt);generalize R[k]=y at *;have HRX:Hid (∀u,ac w.heap.size w u->u.rangeAt g1 (o1+k*7) (cY y)):=aa (fun u hu j v hv=>(hu.cell (p:=⟨g1,o1+k*7+j,Oh⟩) hbl1).trans (hra j v hv))
   have HST:Hid (kX l y->∀z∈R.take (k+1),kX l z):=aa (fun hy z hz=>by
    rw[HT.out] at hz;rcases List.mem_append.1 hz with hz|hz
    .exact HI.out z hz
    .obtain rfl:=bE.1 hz;exact hy)
   have HNO:Hid (¬kX l y->¬mK R l):=aa (fun hn hm=>hn (hm y HM.out))
   have x1:wr.cell? ⟨g1,o1+k*7+1,Oh⟩=Og (N9 Oa y.size):=HRX.out _ hb 1 _ rfl;have j1:(k:Int)<(R.length:Int):=mOm;have j2:(0:Int)<=(k:Int):=mOm;subst hpr;clear hra hcv1 hge;have hbD:=ah hb (Below.refl _ wr).drew;by_cases hs1:y.size<0
   .have HN:Hid (¬mK R l):=aa (HNO.out (fun h=>by have:=h.1;omega));have t1:decide (y.size<0)=true:=decide_eq_true hs1;exact rT
   have t1:decide (y.size<0)=false:=decide_eq_false hs1
   by_cases hs2:(l.length:Int)<y.size
   .have HN:Hid (¬mK R l):=aa (HNO.out (fun h=>by have:=h.2.1;omega));have t2:decide ((l.length:Int)<y.size)=true:=decide_eq_true hs2;exact rT
   have t2:decide ((l.length:Int)<y.size)=false:=decide_eq_false hs2
   obtain⟨n,hn⟩:∃n:Nat,y.size=n:=⟨y.size.toNat,mOm⟩;have hnl:n<=l.length:=mOm;have hmr:kX l y↔jV (l.take n)=y.tree:=by
    unfold kX;rw[hn,Int.toNat_natCast];exact⟨fun h=>h.2.2,fun h=>⟨mOm,mOm,h⟩⟩
   have HMR:=aa hmr
   have htl:(l.take n).length=n:=by rw[aI];omega
   have kt:=fun u (hu:ac w.heap.size w u)=>vZ (l.take n) (fun e he=>hok e (List.mem_of_mem_take he)) p c u (by rw[htl];exact((HL.out.below hu).take rfl hnl)) mOm
   rw[htl] at kt;have KT:=aa kt;generalize jV (l.take n)=TB at *;have HN9:=aa hn;rw[hn] at x1 hs1 hs2 t1 t2;have n2:(0:Int)<=(n:Int):=mOm;have n3:(n:Int)<=(c:Int):=mOm;have n4:n<=c:=mOm;have keepS:∀{u v:World},(ac w.heap.size w u/\u.cell? ⟨g1,o1+k*7+3,Oh⟩=Og (Ob y.tree))->ac u.heap.size u v->(ac w.heap.size w v/\v.cell? ⟨g1,o1+k*7+3,Oh⟩=Og (Ob y.tree)):=fun h hb=>⟨ah h.1 hb,HRX.out _ (ah h.1 hb) 3 _ rfl⟩
   have hS0:ac w.heap.size w wr.drew/\wr.drew.cell? ⟨g1,o1+k*7+3,Oh⟩=Og (Ob y.tree):=⟨hbD,HRX.out _ hbD 3 _ rfl⟩;clear hn hmr htl kt hs1 hs2;obtain⟨bt,hbt⟩:∃b,b=(TB.toList==y.tree.toList):=⟨_,rfl⟩;have hbe:(TB.toList==y.tree.toList)=bt:=hbt.symm;have hbe2:(TB.toList != y.tree.toList) = !bt:=by rw[bne,hbe]
   have HBT:Hid (bt=true↔TB=y.tree):=aa (by rw[hbt,beq_iff_eq,ba_toList]);have n5:¬(n:Int)<0:=mOm;have n6:¬(l.length:Int)<(n:Int):=mOm;have n7:(n:Int).toNat=n:=mOm;have t2n:decide (l.length<n)=false:=decide_eq_false mOm;clear hbt;go_wp2_with fail;refine aD (S:=fun u=>ac w.heap.size w u/\u.cell? ⟨g1,o1+k*7+3,Oh⟩=Og (Ob y.tree)) [(0,true),(1,true),(2,true),(3,true),(4,true),(5,true),(6,true),(7,true),(8,true),(9,true),(10,true),(11,true),(13,true),(14,true),(15,true),(16,true),(17,true),(12,false),(18,true),(19,true)] hS0 ?_;have hS:=hS0
   iterate 11 refine ak ?_
   refine oV ⟨_,_,_,_,_,_⟩ rfl mRf 34 67 (.tmp 27) (.tmp 28) mRf underlying34 sizeOf67 p l.length c n mRf mRf hnl hcap HPN.out ?_;refine ay ?_
   iterate 5 refine ak ?_
   refine aJ 74 call74 (KT.out _ hS.1) ?_;rintro x wn⟨rfl,hb⟩;replace hS:=keepS hS hb;refine⟨_,rfl,hS,?_⟩;(try clear hb);refine ay ?_
   iterate 2 refine ak ?_
   simp only[aQ,aZ];have hbF:=hS.1;clear hS hS0 keepS
   cases bt
   rotate_left 1
   .have HY:=aa (HST.out (HMR.out.2 (HBT.out.1 rfl)));go_wp2_with fail
    go_roundw
    case rel=>exact⟨k+1,mOm,by go_num,HY,hbF⟩
    case measure=>simp[aw];omega
   .have HN:Hid (¬mK R l):=aa (HNO.out (fun h=>by have:=HBT.out.2 (HMR.out.1 h);cases this));go_wp2_with fail;go_ret;exact⟨false,rfl,⟨fun e=>(by cases e),fun h=>absurd h HN.out⟩,hbF⟩
  .obtain rfl:k=R.length:=mOm;have i1:¬(R.length:Int)<(R.length:Int):=mOm;have HY:Hid (mK R l):=aa (by have:=HI.out;rwa [aT] at this);go_wp2_with fail;go_ret;exact⟨true,rfl,⟨fun _=>HY.out,fun _=>rfl⟩,hb⟩
end
section
instance (l:List Ent) (y:aC):Decidable (kX l y):=by unfold kX;exact inferInstance
def kY(r:bH)(B:List aC)(l:List Ent)(day:Int):Int:=
 if cK r B≠0 then cK r B
 else if 200<=B.length\/2000<l.length then 2
 else if l.any (fun e=>!(e.school==r.school))=true then 22
 else if au day 0 100000=false then 23
 else if l.any (fun e=>decide (day<e.day))=true then 23
 else match B.getLast? with
  | none=>0
  | some y=>if (l.length:Int)<y.size\/day<=y.day then 7 else if ¬kX l y then 40 else 0
theorem B9{l:List Ent}{p:Ent->Bool}{k:Nat}{x:Ent}(h:l[k]? = Og x)(hk:(l.take k).any p=false):(p x=true->l.any p=true)/\(p x=false->(l.take (k+1)).any p=false):=by
 refine⟨fun hp=>List.any_eq_true.2 ⟨x,List.mem_of_getElem? h,hp⟩,fun hp=>?_⟩;rw[aR,h,df,List.any_append,hk,List.any_cons,hp];rfl
theorem CY{R:List aC}{l:List Ent}{y:aC}{k:Nat}(h:R[k]? = Og y)(hk:k+1=R.length):mK (R.drop k) l↔kX l y:=by
 obtain⟨h1,h2⟩:=aA.1 h;have e:R.drop k=[y]:=by rw[cL h1,h2,fm mOm]
 rw[e]
 exact⟨fun hm=>hm y (bE.2 rfl),fun hm z hz=>by obtain rfl:=bE.1 hz;exact hm⟩
theorem LU(g cg:Nat)(r:bH)(pb:Option Addr)(cb:Nat)(B:List aC)(p:Option Addr)(c:Nat)(l:List Ent)(day:Int)(w:World)(hr:ar cY w (Oc pb B.length cb) B)(hok:∀x∈B,x.Ok)(hB:B.length<=1000000)
  (hE:ar bL w (Oc p l.length c) l) (hEok:∀e∈l,e.Ok) (hll:l.length<=5000) (hk:cR w g r.keys) (hg:g<w.heap.size) (hl:r.keys.length<=1000) (hsz:∀k∈r.keys,k.secret.size<=100000) (hs:I64 r.school) :
  Calls prog 127 #[.agg #[N9 Oa r.school,Oc (Og ⟨g,0,Oh⟩) r.keys.length cg],Oc pb B.length cb,Oc p l.length c,N9 Oa day] w fun e w'=>e=Oe (N9 Oa (kY r B l day))/\ac w.heap.size w w':=by
 have kc:=fun u (hb:ac w.heap.size w u)=>yz g cg r pb cb B u (hr.below hb) hok hB (hk.below hb hg) (Nat.lt_of_lt_of_le hg hb.size) hl hsz hs
 have kmt:=fun (k:Nat) (hk1:k+1=B.length) (a:Addr) (ha:pb=Og a) u (hb:ac w.heap.size w u) (hrow:ar cY u (Oc (Og ⟨a.block,a.off+k*7,Oh⟩) (B.drop k).length (cb-k)) (B.drop k))=>D8 (B.drop k) l hEok (Og ⟨a.block,a.off+k*7,Oh⟩) p (cb-k) c u hrow (hE.below hb) (by rw[bD];omega) hll
 have HV:=aa (show kY r B l day=if cK r B≠0 then cK r B
  else if 200<=B.length\/2000<l.length then 2
  else if l.any (fun e=>!(e.school==r.school))=true then 22
  else if au day 0 100000=false then 23
  else if l.any (fun e=>decide (day<e.day))=true then 23
  else match B.getLast? with
   | none=>0
   | some y=>if (l.length:Int)<y.size\/day<=y.day then 7 else if ¬kX l y then 40 else 0 from rfl)
 have hcl:B.length<=cb:=by obtain⟨_,_,e,h,_⟩:=hr;injection e with _ _ e;omega
 generalize kY r B l day=V at *
 generalize hCK:cK r B=CK at *;clear hCK;have HEL:=aa hE;obtain⟨rs,kl⟩:=r;simp only at *;have hb0:=aj w (Of #[N9 Oa rs,Oc (Og ⟨g,0,Oh⟩) kl.length cg] 33);have hh:=heap_alloc_new w (Of #[N9 Oa rs,Oc (Og ⟨g,0,Oh⟩) kl.length cg] 33);have kc0:=kc _ hb0;have KM:=aa kmt;have HR:=aa hr;clear kc kmt hk hsz hr hok hE hEok;go_enter func127,ntmps127;go_wp2_with fail;refine kc0.mono ?_;rintro _ w1⟨rfl,hb1⟩;have hbw:=ah hb0 hb1;have e1:=(hb1.block _ (av hh)).trans hh;have r0:w1.cell? ⟨w.heap.size,0,Oh⟩=Og (N9 Oa rs):=Lib.cell_of_heap e1 0;have hrl:=av e1;clear kc0 hb1 hh e1;by_cases h0:CK=0
 rotate_left 1
 .have t1:(CK != 0)=true:=by rw[bne_iff_ne];exact h0
  have HV2:Hid (V=CK):=aa (by rw[HV.out,if_pos h0]);clear HV h0;go_wp2_with fail;go_ret;exact⟨aL HV2.out.symm,hbw⟩
 subst h0
 have HV2:=aa (HV.out.trans (if_neg (fun h=>h rfl)));clear HV;by_cases h2:200<=B.length
 .have i1:(200:Int)<=(B.length:Int):=mOm;have HV3:Hid (V=2):=aa (HV2.out.trans (if_pos (.inl h2)));clear HV2 h2;go_wp2_with fail;go_ret;exact⟨aL HV3.out.symm,hbw⟩
 have i1:¬(200:Int)<=(B.length:Int):=mOm
 by_cases h3:2000<l.length
 .have i2:(2000:Int)<(l.length:Int):=mOm;have HV3:Hid (V=2):=aa (HV2.out.trans (if_pos (.inr h3)));clear HV2 h2 h3;go_wp2_with fail;go_ret;exact⟨aL HV3.out.symm,hbw⟩
 have i2:¬(2000:Int)<(l.length:Int):=mOm
 have HV3:=aa (HV2.out.trans (if_neg mOm));clear HV2 h2 h3;go_wp2_with fail;clear i1 i2
 go_loopw [10] (fun i wr=>∃k:Nat,k<=l.length/\i=N9 Oa k/\Hid ((l.take k).any (fun e=>!(e.school==rs))=false)/\ac w1.heap.size w1 wr) (fun i _=>l.length-(aw i).toNat)
 case atStart=>exact⟨0,aP _,rfl,aa rfl,Below.refl _ _⟩
 case round =>
  obtain⟨k,hk,rfl,HI,hb⟩:=hrel;have hbk:=ah hbw hb;by_cases hlt:k<l.length
  .obtain⟨lg,lo,hpl,hlg,hrow⟩:=dh (kk:=15) HEL.out eG rfl mOm;have hge:=ai hlt;have hat:=hrow k _ hge;have HA:=aa (B9 hge HI.out);have j1:(k:Int)<(l.length:Int):=mOm;have j2:(0:Int)<=(k:Int):=mOm;generalize l[k]=x at *;have q:=fun j=>hbk.cell (p:=⟨lg,j,Oh⟩) hlg
   have s0:=(hb.cell (p:=⟨w.heap.size,0,Oh⟩) hrl).trans r0;have q1:wr.cell? ⟨lg,lo+k*15+1,Oh⟩=Og (N9 Oa x.school):=(q _).trans (hat 1 _ rfl);have hS0:ac wr.heap.size wr wr.drew/\wr.drew.cell? ⟨lg,lo+k*15+1,Oh⟩=Og (N9 Oa x.school)/\wr.drew.cell? ⟨w.heap.size,0,Oh⟩=Og (N9 Oa rs)/\wr.drew.cell? ⟨w.heap.size,0,Oh⟩=Og (N9 Oa rs):=⟨(Below.refl _ _).drew,q1,s0,s0⟩;subst hpl;clear hat hge q hrow s0 q1;go_wp2_with fail;refine aD (S:=fun u=>ac wr.heap.size wr u/\u.cell? ⟨lg,lo+k*15+1,Oh⟩=Og (N9 Oa x.school)/\u.cell? ⟨w.heap.size,0,Oh⟩=Og (N9 Oa rs)/\u.cell? ⟨w.heap.size,0,Oh⟩=Og (N9 Oa rs)) [(0,true),(1,true),(2,true),(3,true),(4,true),(5,true),(6,true),(7,true)] hS0 ?_;have hS:=hS0
   iterate 8 refine ak ?_
   simp only[aQ,aZ];have hbd:=ah hb hS.1;have hbb:=ah hbw hbd;clear hS hS0;by_cases hsc:x.school=rs
   rotate_left 1
   .have t1:(x.school != rs)=true:=by rw[bne_iff_ne];exact hsc
    have HN:Hid (V=22):=aa (HV3.out.trans (if_pos (HA.out.1 (by rw[beq_eq_false_iff_ne.2 hsc];rfl))));clear hsc;go_wp2_with fail;go_ret;exact⟨aL HN.out.symm,hbb⟩
   have t1:(x.school != rs)=false:=by rw[bne_eq_false_iff_eq];exact hsc
   have HN:=aa (HA.out.2 (by rw[beq_iff_eq.2 hsc];rfl));clear hsc HA HI;go_wp2_with fail
   go_roundw
   case rel=>exact⟨k+1,mOm,by go_num,HN,hbd⟩
   case measure=>simp[aw];omega
  .obtain rfl:k=l.length:=mOm;have k1:¬(l.length:Int)<(l.length:Int):=mOm;have HV4:=aa (HV3.out.trans (if_neg (by have:=HI.out;rw[aT] at this;rw[this];decide)));clear HV3 HI;obtain⟨bd,hbd⟩:∃x,au day 0 100000=x:=⟨_,rfl⟩;obtain⟨w2,hw2⟩:∃u,u=wr:=⟨_,rfl⟩;rw[<-hw2] at hb hbk |-;clear hw2 r0;go_wp2_with fail;refine(iP _ _).mono ?_;rintro _ _⟨rfl,rfl⟩;rw[hbd] at HV4 |-;clear hbd
   cases bd
   .have HV5:Hid (V=23):=aa (HV4.out.trans (if_pos rfl));clear HV4;go_wp2_with fail;go_ret;exact⟨aL HV5.out.symm,hbk⟩
   have HV5:=aa (HV4.out.trans (if_neg mSi))
   clear HV4 k1;go_wp2_with fail
   go_loopw [12] (fun i wr=>∃k:Nat,k<=l.length/\i=N9 Oa k/\Hid ((l.take k).any (fun e=>decide (day<e.day))=false)/\ac w2.heap.size w2 wr) (fun i _=>l.length-(aw i).toNat)
   case atStart=>exact⟨0,aP _,rfl,aa rfl,Below.refl _ _⟩
   case round =>
    obtain⟨k,hk,rfl,HI,hb3⟩:=hrel;have hbk3:=ah hbk hb3;by_cases hlt:k<l.length
    .obtain⟨lg,lo,hpl,hlg,hrow⟩:=dh (kk:=15) HEL.out eG rfl mOm;have hge:=ai hlt;have hat:=hrow k _ hge;have HA:=aa (B9 hge HI.out);have j1:(k:Int)<(l.length:Int):=mOm;have j2:(0:Int)<=(k:Int):=mOm;generalize l[k]=x at *;have q4:wr.cell? ⟨lg,lo+k*15+4,Oh⟩=Og (N9 Oa x.day):=(hbk3.cell (p:=⟨lg,lo+k*15+4,Oh⟩) hlg).trans (hat 4 _ rfl);subst hpl;clear hat hge hrow;by_cases hsc:day<x.day
     .have t1:decide (day<x.day)=true:=decide_eq_true hsc;have HN:Hid (V=23):=aa (HV5.out.trans (if_pos (HA.out.1 t1)));go_wp2_with fail;go_ret;exact⟨aL HN.out.symm,hbk3⟩
     have t1:decide (day<x.day)=false:=decide_eq_false hsc
     have HN:=aa (HA.out.2 t1);clear HA HI;go_wp2_with fail
     go_roundw
     case rel=>exact⟨k+1,mOm,by go_num,HN,hb3⟩
     case measure=>simp[aw];omega
    .obtain rfl:k=l.length:=mOm;have k1:¬(l.length:Int)<(l.length:Int):=mOm;have HV6:=aa (HV5.out.trans (if_neg (by have:=HI.out;rw[aT] at this;rw[this];decide)));clear HV5 HI;by_cases hz:B.length=0
     .have t0:((B.length:Int)==0)=true:=by rw[beq_iff_eq];omega
      have HN:Hid (V=0):=aa (by rw[HV6.out,bn hz];rfl);clear hz;go_wp2_with fail;go_ret;exact⟨aL HN.out.symm,hbk3⟩
     have t0:((B.length:Int)==0)=false:=by rw[beq_eq_false_iff_ne];omega
     obtain⟨m,hm⟩:∃m,m+1=B.length:=⟨B.length-1,mOm⟩;have hlt2:m<B.length:=mOm;obtain⟨bg,bo,hpb,hbg,hrowb⟩:=dh (kk:=7) HR.out dp rfl mOm;have hgb:=ai hlt2;have hatb:=hrowb m _ hgb;have HLS:=aa (show B.getLast? = Og B[m] by rw[List.getLast?_eq_getElem?,<-hm,Nat.add_sub_cancel];exact hgb);have HML:=aa (CY (l:=l) hgb hm);have j1:(m:Int)<(B.length:Int):=mOm;have j2:(0:Int)<=(m:Int):=mOm;have j3:(m:Int)<=(B.length:Int):=mOm;have j4:(m:Int)<=(cb:Int):=mOm;have j5:¬cb=m:=mOm;have j6:m<cb:=mOm;have a1:IntKind.i64.wrap ((B.length:Int)-1)=(m:Int):=by rw[show(B.length:Int)-1=(m:Int) by omega];exact fY _ _ rfl mOm
     have hdl:(B.drop m).length=1:=by rw[bD];omega
     have hd9:B.length-m=1:=mOm;rw[hpb] at HR;have hrd:=ar.drop HR.out dp (Nat.le_of_lt hlt2);rw[<-bD] at hrd;have HRD:=aa hrd;have hkm:=fun u (hu:ac w.heap.size w u)=>KM.out m hm ⟨bg,bo,Oh⟩ hpb u hu (HRD.out.below hu)
     rw[hdl] at hkm;have HKM:=aa hkm;rw[HLS.out] at HV6;generalize B[m]=y at *;obtain⟨ysc,ysz,ydy,ytr,ybf,yky,ymk⟩:=y;have q:=fun j=>hbk3.cell (p:=⟨bg,j,Oh⟩) hbg
     have q0:=(q _).trans (hatb 0 _ rfl);have q1:=(q _).trans (hatb 1 _ rfl);have q2:=(q _).trans (hatb 2 _ rfl);have q3:=(q _).trans (hatb 3 _ rfl);have q4:=(q _).trans (hatb 4 _ rfl);have q5:=(q _).trans (hatb 5 _ rfl);have q6:=(q _).trans (hatb 6 _ rfl);rw[Nat.add_zero] at q0;have hba:=aj wr (Of #[N9 Oa ysc,N9 Oa ysz,N9 Oa ydy,Ob ytr,Ob ybf,N9 Oa yky,Ob ymk] 65);have hbz:=ah hbk3 hba;have HMZ:=aa (HKM.out _ hbz);subst hpb;clear hatb hrowb hgb q hrd hkm KM HKM HR HLS hba hdl;by_cases h5:(l.length:Int)<ysz
     .have HN:Hid (V=7):=aa (HV6.out.trans (if_pos (.inl h5)));clear HV6 HMZ HML;go_wp2_with fail;go_ret;exact⟨aL HN.out.symm,hbz⟩
     by_cases h6:day<=ydy
     .have HN:Hid (V=7):=aa (HV6.out.trans (if_pos (.inr h6)));clear HV6 HMZ HML;go_wp2_with fail;go_ret;exact⟨aL HN.out.symm,hbz⟩
     have HV7:=aa (HV6.out.trans (if_neg (fun h=>by rcases h with h|h;exact h5 h;exact h6 h)))
     clear HV6;go_wp2_with fail;refine HMZ.out.mono ?_;clear HMZ;rintro _ w9⟨t,rfl,ht,hb9⟩;have HT:=aa ht;have hbF:=ah hbz hb9;clear ht
     cases t
     .have HN:Hid (V=40):=aa (HV7.out.trans (if_pos (fun hm=>by have:=HT.out.2 (HML.out.2 hm);cases this)));go_wp2_with fail;go_ret;exact⟨aL HN.out.symm,hbF⟩
     .have HN:Hid (V=0):=aa (HV7.out.trans (if_neg (fun hm=>hm (HML.out.1 (HT.out.1 rfl)))));go_wp2_with fail;go_ret;exact⟨aL HN.out.symm,hbF⟩
