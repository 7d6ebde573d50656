/- Lemmas. -/
import Derived.Test.YtnlhbdmeodbblaaGreatDoorMtaf
import Derived.Test.YtnlhbdmeodbblaaGreatDoorMtbn
import Derived.Test.YtnlhbdmeodbblaaGreatDoorMtbh
import Derived.Laws.Externs
import Derived.Lib.Overlaps
import Derived.Lib.AppendZerosOnto
set_option maxRecDepth 100000
set_option maxHeartbeats 16000000
set_option linter.all false
open Go.Proofs.Tryz
open Array renaming getElem?_toList->gK
open Go.IntWalk renaming i64_in->aH
open Go.Lib renaming cell_of_heap->ae,hid->aa
open List renaming append_assoc->bZ,append_nil->dq,eq_nil_of_length_eq_zero->bn,filter_append->dV,filter_cons_of_neg->de,filter_eq_self->jn,getElem?_drop->el,getElem?_eq_getElem->ai,getElem?_eq_some_iff->aA,getElem_mem->bA,length_append->ap,length_cons->bB,length_drop->bD,length_filter_le->eK,length_take->aI,mem_append->bI,mem_filter->lG,nil_append->dI,size_toArray->fa,take_append_drop->cP,take_append_of_le_length->dK,take_length->aT,take_of_length_le->du,take_take->mw
open Nat renaming add_zero->ew,le_refl->az,le_trans->aV,zero_add->bP,zero_le->aP
open Go.RowKit renaming Below->ac,intOf->aw
open Go.World renaming size_alloc->fJ
open Go.Ending renaming returned->Oe
open Go.IntKind renaming i64->Oa
open Go.Obj renaming cells->Of
open Go.Value renaming int->N9,slice->Oc,pointer->Od
open Option renaming some->Og,none->Oh
namespace Go.Proofs.YtnlhbdmeodbblaaGreatDoor
open Go Go.RowKit Go.Sort Go.Lib
section
def BrtV.cells(x:BrtV):Array Value:=#[N9 Oa x.b.fro,N9 Oa x.b.student,N9 Oa x.b.root,Oc x.p x.b.ents.length x.c]
def BrtV.val(x:BrtV):Value:=.agg #[N9 Oa x.b.fro,N9 Oa x.b.student,N9 Oa x.b.root,Oc x.p x.b.ents.length x.c]
def brZ:BrtV:=⟨⟨0,0,0,[]⟩,Oh,0⟩
def ic(x b:BrtE):Bool:=fh x b&&decide (b.root<x.root)
theorem Bn(x b:BrtV)(bx:Nat)(w:World)(h:w.heap[bx]? = Og (Of b.cells 56 (0,0))) :
  Calls prog 63 #[x.val,Od (Og ⟨bx,0,Oh⟩)] w fun e w'=>e=Oe (.bool (fh x.b b.b))/\ac w.heap.size w w':=by
 have h0:=ae h 0;have h1:=ae h 1;have hlt:=aG h;obtain⟨⟨xf,xs,xr,xe⟩,xp,xc⟩:=x;obtain⟨⟨bf,bs,br,be⟩,bp,bc⟩:=b;simp only[BrtV.cells,BrtV.val] at h0 h1 |-;unfold fh;obtain⟨b1,e1⟩:∃b,(xf==bf)=b:=⟨_,rfl⟩;obtain⟨b2,e2⟩:∃b,(xs==bs)=b:=⟨_,rfl⟩;simp only[e1,e2];go_enter func63,ntmps63
 cases b1 <;> go_wp2_with fail
 all_goals (go_ret;exact⟨rfl,aj w _⟩)
theorem LH(x b:BrtV)(bx:Nat)(w:World)(h:w.heap[bx]? = Og (Of b.cells 56 (0,0))) :
  Calls prog 69 #[x.val,Od (Og ⟨bx,0,Oh⟩)] w fun e w'=>e=Oe (.bool (dz x.b b.b))/\ac w.heap.size w w':=by
 have h0:=ae h 0;have h1:=ae h 1;have hlt:=aG h;obtain⟨⟨xf,xs,xr,xe⟩,xp,xc⟩:=x;obtain⟨⟨bf,bs,br,be⟩,bp,bc⟩:=b;simp only[BrtV.cells,BrtV.val] at h0 h1 |-;unfold dz;obtain⟨b1,e1⟩:∃b,decide (bf<xf)=b:=⟨_,rfl⟩;obtain⟨b2,e2⟩:∃b,(xf==bf)=b:=⟨_,rfl⟩;obtain⟨b3,e3⟩:∃b,decide (bs<xs)=b:=⟨_,rfl⟩;simp only[e1,e2,e3];go_enter func69,ntmps69
 cases b1 <;> cases b2 <;> go_wp2_with fail
 all_goals (go_ret;exact⟨rfl,aj w _⟩)
theorem Gs(x b:BrtV)(fx bx:Nat)(w:World)(h:w.heap[bx]? = Og (Of b.cells 56 (0,0)))(hf:w.heap[fx]? = Og (Of #[.func (.func 63) #[] #[Od (Og ⟨bx,0,Oh⟩)]] 124 (0,0))) :
  Calls prog 65 #[x.val,Od (Og ⟨fx,0,Oh⟩),Od (Og ⟨bx,0,Oh⟩)] w fun e w'=>e=Oe (.bool (ic x.b b.b))/\ac w.heap.size w w':=by
 have hb0:=aj w (Of x.cells 56);have hx:=heap_alloc_new w (Of x.cells 56);have hb1:=hb0.heap_of h;have kc:=Bn x b bx _ hb1;have cf:=ae (hb0.heap_of hf) 0;have HX:=aa (And.intro hx hb1);have HB:=aa hb0;unfold ic;obtain⟨s,hs⟩:∃s,fh x.b b.b=s:=⟨_,rfl⟩;rw[hs] at kc |-;obtain⟨r,hr⟩:∃r,decide (b.b.root<x.b.root)=r:=⟨_,rfl⟩;have hlt:=aG hb1;clear h hf hs;have hrow:((w.alloc (Of x.cells 56))).rangeAt w.heap.size 0 x.cells.toList:=fun q v hv=>by rw[bP,ae hx];simpa using hv
 clear hx hb1;rw[show x.val=.agg #[N9 Oa x.b.fro,N9 Oa x.b.student,N9 Oa x.b.root,Oc x.p x.b.ents.length x.c] from rfl];simp only[BrtV.cells] at hrow kc cf hlt |-;go_enter func65,ntmps65;go_wp2_with ((with_reducible refine wpList_load_mid (op:=⟨_,_,_,_,_,_⟩) ?_ 56 (.tmp 3) ?_ w.heap.size 0 ?_ (#[N9 Oa x.b.fro,N9 Oa x.b.student,N9 Oa x.b.root,Oc x.p x.b.ents.length x.c]:Array Value).toList _ ?_ underlying56 ?_ ?_ ?_);rfl;rfl;rfl;exact hrow;rfl;kernel_rfl);refine kc.mono ?_;rintro _ w1⟨rfl,hbw⟩;have c2:=ae (hbw.heap_of HX.out.1) 2;have d2:=ae (hbw.heap_of HX.out.2) 2;simp only[BrtV.cells] at c2 d2;have HE:=aa (ah HB.out hbw);clear hbw kc cf hrow
 cases s
 .go_wp2_with fail;go_ret;exact⟨rfl,HE.out⟩
 .go_wp2_with fail;go_ret;exact⟨by rw[Bool.true_and,hr];rfl,HE.out⟩
attribute [local go_sem] BrtV.cells
theorem od{p:Prop} (h:p:=by
 have HL:=aa h;have HC:=aa hC;clear h hC;go_enter func124,ntmps124;go_wp2_with fail
 go_loopw [8] (fun i wr=>∃k:Nat,k<=L.length/\Hid (∀y∈L.take k,P y=false)/\i=N9 Oa k/\ac w.heap.size w wr) (fun i _=>L.length-(aw i).toNat)
 case atStart=>exact⟨0,aP _,aa mSi,rfl,Below.refl _ _⟩
 case round =>
  obtain⟨k,hk,HI,rfl,hb⟩:=hrel;by_cases hlt:k<L.length
  .obtain⟨g,o,rfl,hg,hrow⟩:=dh (kk:=4) HL.out dt rfl mOm;have hge:=ai hlt;have hat:=hrow k _ hge;have hc:=HC.out wr L[k] (bA hlt) hb;have i1:(k:Int)<(L.length:Int):=mOm;have i2:(0:Int)<=(k:Int):=mOm;have HG:=aa hge;generalize L[k]=x at *;have hat2:wr.rangeAt g (o+k*4) (aS x):=fun j v hv=>(hb.cell (p:=⟨g,o+k*4+j,Oh⟩) hg).trans (hat j v hv)
   have HP:Hid (∀b,P x=b->(b=true->∃(j:Nat) (y:BrtV),(k:Int)=j/\L[j]? = Og y/\P y=true/\∀z∈L.take j,P z=false)/\(b=false->∀y∈L.take (k+1),P y=false)):=aa (fun b hb=>⟨fun e=>⟨k,x,rfl,HG.out,hb.trans e,HI.out⟩,fun e y hy=>by
    rw[ja HG.out] at hy;rcases bI.1 hy with hy|hy
    .exact HI.out y hy
    .obtain rfl:=List.mem_singleton.1 hy;exact hb.trans e⟩)
   replace HP:=aa (HP.out (P x) rfl)
   generalize P x=B at *;clear hge hat hrow HI;go_wp2_with ((with_reducible refine wpList_load_mid (op:=⟨_,_,_,_,_,_⟩) ?_ 56 (.tmp 14) ?_ g (o+k*4) ?_ (aS x) _ ?_ underlying56 ?_ ?_ ?_);rfl;rfl;rfl;exact hat2;rfl;kernel_rfl);refine hc.mono ?_;rintro _ w1⟨rfl,hb1⟩;have hbb:=ah hb hb1;clear hb1 hc
   cases B
   .have HN:=aa (HP.out.2 rfl);clear HP;go_wp2_with fail
    go_roundw
    case rel=>exact⟨k+1,mOm,HN,by go_num,hbb⟩
    case measure=>simp[aw];omega
   .have HN:=aa (HP.out.1 rfl);clear HP;go_wp2_with fail;go_ret;exact⟨⟨_,rfl,.inr HN.out⟩,hbb⟩
  .obtain rfl:k=L.length:=mOm;have HN:Hid (∀x∈L,P x=false):=aa (by have:=HI.out;rwa [aT] at this);go_wp2_with fail;go_ret
   exact⟨⟨_,rfl,.inl ⟨rfl,HN.out⟩⟩,hb⟩):p:=h
theorem AZ(bx:Nat)(ob:Obj)(P:BrtV->Bool)(p:Option Addr)(c:Nat)(L:List BrtV)(w:World)(hC:∀(u:World)(x:BrtV),x∈L->ac w.heap.size w u->Calls prog 63 #[x.val,Od (Og ⟨bx,0,Oh⟩)] u fun e w'=>e=Oe (.bool (P x))/\ac u.heap.size u w')(h:ar aS w (Oc p L.length c) L)(hl:L.length<=1000000) :
  Calls prog 124 #[Oc p L.length c,.func (.func 63) #[] #[Od (Og ⟨bx,0,Oh⟩)]] w fun e w'=>(∃k:Int,e=Oe (N9 Oa k)/\((k = -1/\∀x∈L,P x=false)\/∃(j:Nat) (x:BrtV),k=j/\L[j]? = Og x/\P x=true/\∀y∈L.take j,P y=false))/\ac w.heap.size w w':=by
 exact od
theorem Il(bx:Nat)(ob:Obj)(P:BrtV->Bool)(p:Option Addr)(c:Nat)(L:List BrtV)(w:World)(hC:∀(u:World)(x:BrtV),x∈L->ac w.heap.size w u->Calls prog 69 #[x.val,Od (Og ⟨bx,0,Oh⟩)] u fun e w'=>e=Oe (.bool (P x))/\ac u.heap.size u w')(h:ar aS w (Oc p L.length c) L)(hl:L.length<=1000000) :
  Calls prog 124 #[Oc p L.length c,.func (.func 69) #[] #[Od (Og ⟨bx,0,Oh⟩)]] w fun e w'=>(∃k:Int,e=Oe (N9 Oa k)/\((k = -1/\∀x∈L,P x=false)\/∃(j:Nat) (x:BrtV),k=j/\L[j]? = Og x/\P x=true/\∀y∈L.take j,P y=false))/\ac w.heap.size w w':=by
 exact od
theorem Ik(fx bx:Nat)(ob:Obj)(P:BrtV->Bool)(p:Option Addr)(c:Nat)(L:List BrtV)(w:World)(hC:∀(u:World)(x:BrtV),x∈L->ac w.heap.size w u->Calls prog 65 #[x.val,Od (Og ⟨fx,0,Oh⟩),Od (Og ⟨bx,0,Oh⟩)] u fun e w'=>e=Oe (.bool (P x))/\ac u.heap.size u w')(h:ar aS w (Oc p L.length c) L)(hl:L.length<=1000000) :
  Calls prog 124 #[Oc p L.length c,.func (.func 65) #[] #[Od (Og ⟨fx,0,Oh⟩),Od (Og ⟨bx,0,Oh⟩)]] w fun e w'=>(∃k:Int,e=Oe (N9 Oa k)/\((k = -1/\∀x∈L,P x=false)\/∃(j:Nat) (x:BrtV),k=j/\L[j]? = Og x/\P x=true/\∀y∈L.take j,P y=false))/\ac w.heap.size w w':=by
 exact od
theorem Hk(w:World)(g o n c:Nat)(ty:TypeId)(hn:0<n)(ht:w.there g o (n*4)) :
  ∃Z:List Value,Z.length=n*4/\(Builtin.clear_ #[61] ty #[Oc (Og ⟨g,o,Oh⟩) n c]).run prog w=.ok (.tuple #[]) (w.setCells g o Z):=by
 refine⟨(Builtin.zeroCells brZ.cells n).toList,by simp[Builtin.zeroCells,brZ,BrtV.cells],?_⟩;have hl:(Builtin.zeroCells brZ.cells n).toList.length=n*4:=by simp[Builtin.zeroCells,brZ,BrtV.cells]
 have hst:=run_storeCells_cells (P:=prog) g o (Builtin.zeroCells brZ.cells n).toList 0 w (fun j hj=>by simpa using (ht j mOm).1) (fun j hj=>by simpa using (ht j mOm).2) (by
  intro v hv;have hv':v∈(brZ:BrtV).cells.toList:=by simp only[Builtin.zeroCells,Array.toList_map,List.mem_map,Array.toList_range] at hv;obtain⟨k,hk,rfl⟩:=hv;rw[getElem!_pos (brZ:BrtV).cells _ (Nat.mod_lt _ mDe)];simp
  exact brT.one brZ v hv')
 simp only[ew] at hst
 obtain⟨m,rfl⟩:∃m,n=m+1:=⟨n-1,mOm⟩;have hz:∀w,(zeroValue 56).run prog w=.ok (brZ:BrtV).val w:=zeroValue56;have hzc:(brZ:BrtV).val.cells=(brZ:BrtV).cells:=rfl;simp[Builtin.clear_,run_underlying underlying61,hz,hzc,hst]
theorem Fv(B bx:Nat)(ob:Obj)(P:BrtV->Bool)(g c:Nat)(L:List BrtV)(w:World)(hbo:w.heap[bx]? = Og ob)(hgx:g≠bx)(hBw:B<=w.heap.size)(hC:∀(u:World)(x:BrtV),x∈L->u.heap[bx]? = Og ob->Calls prog 63 #[x.val,Od (Og ⟨bx,0,Oh⟩)] u fun e w'=>e=Oe (.bool (P x))/\ac u.heap.size u w')(hrow:w.ownsRow B 56 4 (Oc (Og ⟨g,0,Oh⟩) L.length c) L.length (aN aS L))(hl:L.length<=1000000) :
  Calls prog 66 #[Oc (Og ⟨g,0,Oh⟩) L.length c,.func (.func 63) #[] #[Od (Og ⟨bx,0,Oh⟩)]] w fun e w'=>∃v,e=Oe v/\w'.ownsRow B 56 4 v (L.filter fun x=>!P x).length (aN aS (L.filter fun x=>!P x))/\ac B w w':=by
 obtain⟨hlc,hBg,hgl,hcm⟩:=pE hrow;have hcap:c<=9223372036854775807:=by unfold maxLen at hcm;omega
 have ci:=AZ bx ob P (some ⟨g,0,none⟩) c L w (fun u x hx hb=>hC u x hx ((hb.block _ (aG hbo)).trans hbo)) (fo dt mDe hrow) hl;have HC:=aa hC;clear hC;go_enter func66,ntmps66;go_wp2_with fail;refine ci.mono ?_;rintro _ w1⟨⟨k,rfl,hk⟩,hb1⟩;have hrow1:=bK hrow (aF.of (S:=fun _=>False) hb1) (fun _ _ e=>e);have hB1:ac B w w1:=hb1.mono hBw;have hbo1:=(hb1.block _ (aG hbo)).trans hbo;clear ci hrow hb1 hbo;rcases hk with⟨rfl,hno⟩|⟨k,r,rfl,hr,hgone,hkeep⟩
 .have e:L.filter (fun x=>!P x)=L:=jn.2 (fun x hx=>by rw[hno x hx];rfl);have HE:=aa e;clear e hno;go_wp2_with fail;go_ret;refine⟨_,rfl,?_,hB1⟩;rw[HE.out];exact hrow1
 .have hkl:=(aA.1 hr).1
  have h0:Hid (((L.take (k+1)).filter fun x=>!P x).length=k/\L.take k=(L.take (k+1)).filter fun x=>!P x):=aa (by
   have e:(L.take k).filter (fun x=>!P x)=L.take k:=jn.2 (fun x hx=>by rw[hkeep x hx];rfl);have e2:(L.take (k+1)).filter (fun x=>!P x)=L.take k:=by rw[ja hr,dV,e,de (by rw[hgone];simp)];simp
   rw[e2]
   exact⟨by rw[aI];omega,rfl⟩)
  clear hgone hr hkeep
  have hneg:¬((k:Int) = -1):=mOm;have hkb:((k:Int) == -1)=false:=by rw[beq_eq_false_iff_ne];omega
  go_wp2_with fail
  go_loopw [5,6] (fun a b wr=>∃(i j:Nat) (X:List BrtV),a=N9 Oa i/\b=N9 Oa j/\i<j/\j<=L.length/\Hid (i=((L.take j).filter fun x=>!P x).length/\X.length=L.length/\X.take i=((L.take j).filter fun x=>!P x)/\X.drop j=L.drop j)/\
   Hid (wr.ownsRow B 56 4 (Oc (Og ⟨g,0,Oh⟩) L.length c) L.length (aN aS X))/\aO wr bx ob/\ac B w wr) (fun _ b _=>L.length-(aw b).toNat)
  case atStart=>exact⟨k,k+1,L,rfl,by go_num,mOm,mOm,aa ⟨h0.out.1.symm,rfl,h0.out.2,rfl⟩,aa hrow1,⟨hbo1⟩,hB1⟩
  case round =>
   obtain⟨i,j,X,rfl,rfl,hij,hj,HI,HR,HS,hB⟩:=hrel;have hBs:=hB.size;by_cases hlt:j<L.length
   .have hx:=ai hlt;have hxm:=bA hlt;generalize L[j]=x at hx hxm;have hatk:wr.rangeAt g (j*4) (aS x):=by
     have hxX:X[j]? = Og x:=by
      have h1:=congrArg (fun l=>l[0]?) HI.out.2.2.2;simp only[el,ew] at h1;rw[h1];exact hx
     obtain⟨b',o',e',_,hh⟩:=dh (kk:=4) (fo dt mDe HR.out) dt rfl (by rw[HI.out.2.1];omega)
     simp only[Option.some.injEq,Addr.mk.injEq,and_true] at e';obtain⟨rfl,rfl⟩:=e';have:=hh j x hxX
     rwa [bP] at this
    have i1:(j:Int)<(L.length:Int):=mOm
    have i2:(0:Int)<=(j:Int):=mOm;have hbA:=aj wr (Of x.cells 56);have HR1:Hid ((wr.alloc (Of x.cells 56)).ownsRow B 56 4 (Oc (Og ⟨g,0,Oh⟩) L.length c) L.length (aN aS X)):=aa (HR.out.alloc _);have hB2:ac B w (wr.alloc (Of x.cells 56)):=hB.alloc (aV hBw hBs) _;have hbox:Hid ((wr.alloc (Of x.cells 56)).heap[wr.heap.size]? = Og (Of x.cells 56 (0,0))):=aa (heap_alloc_new wr _);have hgw:g<wr.heap.size:=(HR.out.lt g rfl).2;have hob2:aO (wr.alloc (Of x.cells 56)) bx ob:=⟨(hbA.block _ (aG HS.is)).trans HS.is⟩;have cg:=HC.out _ x hxm hob2.is
    have HM:Hid (((L.take (j+1)).filter fun x=>!P x)=((L.take j).filter fun x=>!P x)++(if P x then [] else [x])):=aa (by
     rw[ja hx,dV]
     congr 1
     cases h:P x
     .rw[List.filter_cons_of_pos (by rw[h];rfl)];simp
     .rw[de (by rw[h];simp)];simp)
    generalize P x=G at cg HM
    clear hx hrow1 hB1 hbo1 hxm;go_wp2_with (refine wpList_load_mid rfl 56 (.tmp 24) rfl _ _ rfl x.cells.toList _ hatk underlying56 rfl mKr ?_);refine cg.mono ?_;rintro _ w2⟨rfl,hb2⟩;have HS2:aO w2 bx ob:=⟨(hb2.block _ (aG hob2.is)).trans hob2.is⟩;have hB3:ac B w w2:=hB2.trans (hb2.mono (aV hBw hB2.size));have HR2:=aa (bK HR1.out (aF.of (S:=fun _=>False) hb2) (fun _ _ e=>e));have hboxh:=(hb2.block _ (aG hbox.out)).trans hbox.out;have hbox2:Hid (w2.rangeAt wr.heap.size 0 x.cells.toList):=aa (fun q v hv=>by rw[bP,ae hboxh];simpa using hv);have hdr:X.drop (j+1)=L.drop (j+1):=by
     have:=congrArg (List.drop 1) HI.out.2.2.2
     simpa [List.drop_drop,Nat.add_comm] using this
    have HDR:=aa hdr
    clear cg hatk hbox hdr hB2 hb2 hob2 hbA hboxh
    cases G
    .have hthere:Hid (w2.there g (i*4) 4):=aa (gz HR2.out (i*4) 4 mOm);have hset:=gG x.cells.toList w2 (aN aS X) (i*4) HR2.out;rw[show x.cells.toList=aS x from rfl,xS dt X i x (by rw[HI.out.2.1];omega)] at hset;have HR3:=aa hset.1;have hB4:Hid (ac B w (w2.setCells g (i*4) (aS x))):=aa (hB3.grown hset.2 (aV hBw hB3.size) (fun q hq=>by cases hq;exact hBg));have HS4:aO (w2.setCells g (i*4) (aS x)) bx ob:=⟨(hset.2.block _ (aG HS2.is) (by simpa using fun e=>hgx e.symm)).trans HS2.is⟩
     have HI4:Hid (i+1=((L.take (j+1)).filter fun x=>!P x).length/\(X.set i x).length=L.length/\(X.set i x).take (i+1)=((L.take (j+1)).filter fun x=>!P x)/\(X.set i x).drop (j+1)=L.drop (j+1)):=aa (by
      obtain⟨i1,i2,i3,i4⟩:=HI.out;rw[HM.out];refine⟨by simp;omega,by simpa using i2,?_,by rw[List.drop_set_of_lt mOm];exact HDR.out⟩;rw[List.take_add_one,List.take_set_of_le (az _),List.getElem?_set_self mOm,i3]
      rfl)
     have hall:Hid (x.cells.all (·.oneCell')=true):=aa (by simp[brZ,BrtV.cells,Value.oneCell'])
     clear hset
     go_wp2_with (first
      | ((with_reducible refine wpList_load_mid (op:=⟨_,_,_,_,_,_⟩) ?_ 56 (.tmp 7) ?_ wr.heap.size 0 ?_ x.cells.toList _ ?_ underlying56 ?_ ?_ ?_);rfl;rfl;rfl;exact hbox2.out;rfl;kernel_rfl)
      | ((with_reducible refine wpList_store_mid (op:=⟨_,_,_,_,_,_⟩) ?_ 56 (.tmp 33) (.tmp 32) ?_ g (i*4) x.cells ?_ ?_ ?_ ?_ ?_ ?_);rfl;rfl;rfl;rfl;exact hthere.out;kernel_rfl;exact hall.out))
     go_roundw
     case rel=>exact⟨i+1,j+1,X.set i x,by go_num,by go_num,mOm,mOm,HI4,HR3,HS4,hB4.out⟩
     case measure=>simp[aw];omega
    .have HI4:Hid (i=((L.take (j+1)).filter fun x=>!P x).length/\X.length=L.length/\X.take i=((L.take (j+1)).filter fun x=>!P x)/\X.drop (j+1)=L.drop (j+1)):=aa (by
      obtain⟨i1,i2,i3,i4⟩:=HI.out;rw[HM.out]
      exact⟨by simpa using i1,i2,by simpa using i3,HDR.out⟩)
     go_wp2_with fail
     go_roundw
     case rel=>exact⟨i,j+1,X,rfl,by go_num,mOm,mOm,HI4,HR2,HS2,hB3⟩
     case measure=>simp[aw];omega
   .obtain rfl:j=L.length:=mOm;obtain⟨Z,hZ,hclr⟩:=Hk wr g (i*4) (L.length-i) (c-i) 0 mOm (gz HR.out _ _ mOm);have hset:=gG Z wr (aN aS X) (i*4) HR.out;obtain⟨i1,i2,i3,i4⟩:=HI.out;have hpre:=zD hset.1 i mOm;rw[jb _ _ _ (by rw[fB dt,hZ,i2];omega),bZ,dK (by rw[aI,fB dt,i2];omega),mw,Nat.min_self] at hpre;have hcut:(aN aS X).take (i*4)=aN aS (L.filter fun x=>!P x):=by
     rw[aT] at i3;rw[<-i3,iV dt]
    have hB4:ac B w (wr.setCells g (i*4) Z):=hB.grown hset.2 (aV hBw hBs) (fun q hq=>by cases hq;exact hBg)
    rw[hcut] at hpre;have HP:=aa hpre;have hiL:Hid (i=(L.filter fun x=>!P x).length):=aa (by rw[aT] at i1;exact i1);clear hset hpre hrow1 hbo1 hB1 i1 i2 i3 i4 hcut;go_wp2_with fail;go_ret;exact⟨_,rfl,by rw[<-hiL.out];exact HP.out,hB4⟩
theorem JC(p:Option Addr)(c:Nat)(L:List BrtV)(w:World)(h:ar aS w (Oc p L.length c) L)(hl:L.length<=1000000) :
  Calls prog 67 #[Oc p L.length c] w fun e w'=>∃v,e=Oe v/\bz aS 4 56 w w' v L:=by
 have q22:∀(w:World)(a:Option Addr)(n c n' c':Nat),(binOp .eql 61 (Oc a n c) (Oc Oh n' c')).run prog w=.ok (.bool a.isNone) w:=fun w a n c n' c'=>Lib.run_eql_slice_nil w _ _ a n c n' c' underlying61
 rcases p with _|ad
 .obtain⟨p',c',hv,_,hz,_⟩:=h;injection hv with e1 e2 e3;subst e1;subst e3;obtain rfl:=hz rfl;obtain rfl:L=[]:=bn mOm;go_enter func67,ntmps67;go_wp2_with fail;go_ret;exact⟨_,rfl,bz.nil _ _ _ _⟩
 .have hO:bz aS 4 56 w (w.alloc (Of #[] 56)) (Oc (Og ⟨w.heap.size,0,Oh⟩) 0 0) ([]:List BrtV):=⟨⟨_,_,rfl⟩,World.ownsRow_lit w #[] 0 (az _) (aP _) rfl,aj w _⟩;have hr:=h.below (aj w (Of #[] 56));have hown:=hO.own;have hsz:=hO.low.size;have HO:=aa hO;clear h hO;go_enter func67,ntmps67;go_wp2_with (at_builtin;refine bl brT rfl (.tmp 5) (.tmp 6) rfl w.heap.size _ _ [] L rfl rfl hown hr (by simpa using hl) hsz ?_;intro v9 w9 hA9;have hO9:=HO.out.app hA9;rw[dI] at hO9;have HO9:=aa hO9;clear hO9 hA9);go_ret;exact⟨_,rfl,HO9.out⟩
theorem Fw(bx:Nat)(w:World) :
  Calls prog 66 #[Oc Oh 0 0,.func (.func 63) #[] #[Od (Og ⟨bx,0,Oh⟩)]] w fun e w'=>e=Oe (Oc Oh 0 0)/\ac w.heap.size w w':=by
 have ci:=AZ bx (Of #[] 0) (fun _=>false) Oh 0 [] w (fun u x hx _=>(by cases hx)) (ar.nil _ _) mSi;go_enter func66,ntmps66;go_wp2_with fail;refine ci.mono ?_;rintro _ w1⟨⟨k,rfl,hk⟩,hb1⟩;have hk:k = -1:=by
  rcases hk with⟨h,_⟩|⟨_,_,_,h,_⟩
  .exact h
  .cases h
 subst hk
 go_wp2_with fail;go_ret;exact⟨rfl,hb1⟩
theorem DH(fx bx:Nat)(b:BrtV)(p:Option Addr)(c:Nat)(L:List BrtV)(w:World)(hbx:w.heap[bx]? = Og (Of b.cells 56 (0,0)))(hf:w.heap[fx]? = Og (Of #[.func (.func 63) #[] #[Od (Og ⟨bx,0,Oh⟩)]] 124 (0,0)))(h:ar aS w (Oc p L.length c) L)(hl:L.length<=1000000) :
  Calls prog 64 #[Oc p L.length c,.func (.func 65) #[] #[Od (Og ⟨fx,0,Oh⟩),Od (Og ⟨bx,0,Oh⟩)]] w fun e w'=>e=Oe (.bool (L.any fun x=>ic x.b b.b))/\ac w.heap.size w w':=by
 have ki:=Ik fx bx (Of #[] 0) (fun x=>ic x.b b.b) p c L w (fun u x _ hu=>Gs x b fx bx u (hu.heap_of hbx) (hu.heap_of hf)) h hl;clear hbx hf h;go_enter func64,ntmps64;go_wp2_with fail;refine ki.mono ?_;rintro _ w1⟨⟨k,rfl,hk⟩,hb⟩;obtain⟨a,ha⟩:∃a,(L.any fun x=>ic x.b b.b)=a:=⟨_,rfl⟩;have hd:decide (0<=k)=a:=by
  rcases hk with⟨rfl,hno⟩|⟨j,x,rfl,hx,hy,_⟩
  .rw[<-ha,eq_comm,List.any_eq_false.2 (fun x hx=>by rw[hno x hx];decide)];rfl
  .rw[<-ha,eq_comm,List.any_eq_true.2 ⟨x,List.mem_of_getElem? hx,hy⟩,eq_comm];exact decide_eq_true mOm
 have HA:=aa ha
 clear ki hk ha;go_wp2_with fail;go_ret;exact⟨by rw[HA.out];rfl,hb⟩
theorem IX(bx:Nat)(b:BrtV)(p:Option Addr)(c:Nat)(L:List BrtV)(w:World)(hbx:w.heap[bx]? = Og (Of b.cells 56 (0,0)))(h:ar aS w (Oc p L.length c) L)(hl:L.length<=1000000) :
  Calls prog 68 #[Oc p L.length c,.func (.func 69) #[] #[Od (Og ⟨bx,0,Oh⟩)]] w fun e w'=>∃j:Nat,e=Oe (N9 Oa j)/\(j<=L.length/\L.take j=L.takeWhile (fun x=>!dz x.b b.b)/\L.drop j=L.dropWhile (fun x=>!dz x.b b.b))/\ac w.heap.size w w':=by
 have ki:=Il bx (.cells #[] 0) (fun x=>dz x.b b.b) p c L w (fun u x _ hu=>LH x b bx u (hu.heap_of hbx)) h hl;clear hbx h;go_enter func68,ntmps68;go_wp2_with fail;refine ki.mono ?_;rintro _ w1⟨⟨k,rfl,hk⟩,hb⟩;clear ki;rcases hk with⟨rfl,hno⟩|⟨j,x,rfl,hx,hy,hq⟩
 .have HN:=aa hno;clear hno;go_wp2_with fail;go_ret;refine⟨L.length,rfl,⟨az _,?_,?_⟩,hb⟩
  .have:=List.takeWhile_append_of_pos (p:=fun x=>!dz x.b b.b) (l₁:=L) (l₂:=[]) (fun x hx=>by rw[HN.out x hx];rfl)
   simpa using this.symm
  .have:=List.dropWhile_append_of_pos (p:=fun x=>!dz x.b b.b) (l₁:=L) (l₂:=[]) (fun x hx=>by rw[HN.out x hx];rfl)
   simpa using this.symm
 .have hn0:¬((j:Int)<0):=mOm
  have HN:Hid (j<=L.length/\L.take j=L.takeWhile (fun x=>!dz x.b b.b)/\L.drop j=L.dropWhile (fun x=>!dz x.b b.b)):=aa (by
   obtain⟨hj,rfl⟩:=aA.1 hx;have e1:L.takeWhile (fun x=>!dz x.b b.b)=L.take j:=by
    conv=>lhs;rw[<-cP j L]
    rw[List.takeWhile_append_of_pos (fun x hx=>by rw[hq x hx];rfl),List.drop_eq_getElem_cons hj,List.takeWhile_cons_of_neg (by rw[hy];decide),dq]
   refine⟨mOm,e1.symm,?_⟩
   have e2:=List.takeWhile_append_dropWhile (p:=fun x=>!dz x.b b.b) (l:=L);rw[e1] at e2;have e3:=cP j L
   exact(List.append_cancel_left (e2.trans e3.symm)).symm)
  clear hx hy hq
  go_wp2_with fail;go_ret;exact⟨j,rfl,HN.out,hb⟩
end
section
theorem Ky{w:World}{B k n c g:Nat}{e:TypeId}{xs:List Value}(h:w.ownsRow B e k (Oc (Og ⟨g,0,Oh⟩) n c) n xs)(hc:n+1<=c) :
  ∃ys:List Value,ys.length=k/\w.ownsRow B e k (Oc (Og ⟨g,0,Oh⟩) (n+1) c) (n+1) (xs++ys):=by
 obtain⟨h1,(⟨hv,_⟩|⟨g',c',cur,hv,hb,hg,q1,q2,q3,q4⟩)⟩:=h
 .cases hv
 injection hv with e1 e2 e3
 injection e1 with e1;injection e1 with e1;subst e1;subst e3;have hm:(n+1)*k<=c*k:=Nat.mul_le_mul_right k hc;have hs:(n+1)*k=n*k+k:=Nat.succ_mul n k;have hl:cur.toList.length=c*k:=by rw[Array.length_toList];exact q3
 refine⟨(cur.toList.drop (n*k)).take k,by rw[aI,bD,hl];omega,?_,.inr ⟨g,c,cur,rfl,hb,hg,hc,q2,q3,?_⟩⟩
 .rw[ap,aI,bD,hl,h1];omega
 .rw[hs,List.take_add,q4]
theorem mG{P:Program}(w:World)(dT sT ty elem:TypeId)(k b o dLen dCap:Nat)(a:Addr)(sLen sCap m:Nat)(cs:List Value)
  (hu:P.underlying dT=Og (.slice elem)) (hs:(P.info? elem).map (·.size)=Og k) (hm:m=Nat.min sLen dLen) (hn:cs.length=m*k)
  (hsrc:∀j v,cs[j]? = Og v->w.cell? (a.add j)=Og v) (hc:∀j,j<cs.length->(w.cell? ⟨b,o+j,Oh⟩).isSome=true) (hf:∀j,j<cs.length->w.frozen? ⟨b,o+j,Oh⟩=false) (h1:∀v∈cs,v.oneCell'=true) :
  (Builtin.copy_ #[dT,sT] ty #[Oc (Og ⟨b,o,Oh⟩) dLen dCap,Oc (Og a) sLen sCap]).run P w=.ok (goInt m) (w.setCells b o cs):=by
 have hl:=run_loadCells_list (P:=P) w a cs hsrc;have hst:=run_storeCells_cells (P:=P) b o cs 0 w (by simpa using hc) (by simpa using hf) h1
 cases hq:P.info? elem with
 | none=>simp[hq] at hs
 | some i =>
  have hi:i.size=k:=by simpa [hq] using hs
  simp[Builtin.copy_,run_underlying hu,Builtin.lenOf,Builtin.firstCells,sizeOf,typeInfo,hq,hi,<-hm,<-hn,hl,hst]
theorem Lm(w:World)(vb g o lb cb:Nat)(y:BrtV)(hv:w.heap[vb]? = Og (Of y.cells 56 (0,0)))(cur:Array Value)(hg:w.heap[g]? = Og (Of cur 56 (0,0)))(hk:cur.size≠0)(hne:vb≠g) :
  (callFunc 125 #[Oc (Og ⟨vb,0,Oh⟩) 1 1,Oc (Og ⟨g,o,Oh⟩) lb cb]).run prog w=.ok (.value (.bool false)) w:=by
 rw[run_callFunc_extern func125 mKr mKr mKr (e:=Extern.SlicesOverlaps.overlaps #[61,61] #[4]) mKr,
  Lib.run_overlaps_apart w 61 4 56 underlying61 4 sizeOf56 ⟨vb,0,Oh⟩ ⟨g,o,Oh⟩ 1 1 lb cb hne 56 56 4 cur.size (by unfold World.shape?;rw[hv];rfl) (by unfold World.shape?;rw[hg]) hk (by unfold World.frozen?;rw[hv];rfl) (by unfold World.frozen?;rw[hv];rfl)]
 rfl
theorem tD:(prog.info? 56).map (·.size)=Og 4:=mKr
theorem CF(L:List BrtV):∀v∈aN aS L,v.oneCell'=true:=uN brT.one L
theorem DW(i:Nat)(y:BrtV)(vb g c:Nat)(L:List BrtV)(W w:World)(hO:bz aS 4 56 W w (Oc (Og ⟨g,0,Oh⟩) L.length c) L)(hv:w.heap[vb]? = Og (Of y.cells 56 (0,0)))(hne:vb≠g)(hi:i<L.length)(hc:L.length+1<=c)(hl:L.length<=1000) :
  Calls prog 70 #[Oc (Og ⟨g,0,Oh⟩) L.length c,N9 Oa i,Oc (Og ⟨vb,0,Oh⟩) 1 1] w fun e w'=>∃v,e=Oe v/\bz aS 4 56 W w' v (L.take i++y::L.drop i):=by
 obtain⟨ys,hys,hrow⟩:=Ky hO.own hc;have hn4:(aN aS L).length=L.length*4:=fB dt L;have hdl:(aN aS (L.drop i)).length=(L.length-i)*4:=by rw[fB dt,bD]
 obtain⟨n,hn⟩:∃n,L.length=n:=⟨_,rfl⟩;rw[hn] at hrow hn4 hdl hi hc hl |-;have hcm:=pE hrow;have hcap:c<=9223372036854775807:=by have:=hcm.2.2.2;unfold maxLen at this;omega
 have hrow':w.drew.ownsRow W.heap.size 56 4 (Oc (Og ⟨g,0,Oh⟩) (n+1) c) (n+1) (aN aS L++ys):=hrow;have hs1:=gG (aN aS (L.drop i)) w.drew (aN aS L++ys) ((i+1)*4) hrow';have hs2:=gG (aS y) _ _ (i*4) hs1.1
 have hthere:∀j,j<(n+1)*4->(w.drew.cell? ⟨g,j,Oh⟩).isSome=true/\w.drew.frozen? ⟨g,j,Oh⟩=false:=fun j hj=>by
  have:=gz hrow' 0 ((n+1)*4) mOm j hj
  rwa [bP] at this
 have hcp1:∀ty dc sc,(Builtin.copy_ #[61,61] ty #[Oc (Og ⟨g,(i+1)*4,Oh⟩) (n-i) dc,Oc (Og ⟨g,i*4,Oh⟩) (n+1-i) sc]).run prog w.drew=.ok (goInt ((n-i:Nat):Int)) (w.drew.setCells g ((i+1)*4) (aN aS (L.drop i))):=fun ty dc sc =>
  mG w.drew _ _ ty 56 4 g ((i+1)*4) (n-i) dc ⟨g,i*4,Oh⟩ (n+1-i) sc (n-i) _ underlying61 tD (by simp only[Nat.min_def];split <;> omega) hdl
   (fun j v hj=>by
    have hlt:=(aA.1 hj).1;rw[hdl] at hlt
    rw[Addr.add_lit,hrow'.cellAt (i*4+j) mOm,List.getElem?_append_left mOm,<-hj,<-uO dt L i mOm,el])
   (fun j hj=>(hthere _ mOm).1) (fun j hj=>(hthere _ mOm).2) (CF _)
 have hcp2:∀(u:World),(∀x,u.cell? x=(w.drew.setCells g ((i+1)*4) (aN aS (L.drop i))).cell? x)->(∀x,u.frozen? x=(w.drew.setCells g ((i+1)*4) (aN aS (L.drop i))).frozen? x)->∀ty dc,(Builtin.copy_ #[61,61] ty #[Oc (Og ⟨g,i*4,Oh⟩) (n+1-i) dc,Oc (Og ⟨vb,0,Oh⟩) 1 1]).run prog u=.ok (goInt ((1:Nat):Int)) (u.setCells g (i*4) (aS y)):=fun u hc1 hf1 ty dc =>
  mG u _ _ ty 56 4 g (i*4) (n+1-i) dc ⟨vb,0,Oh⟩ 1 1 1 _ underlying61 tD (by simp only[Nat.min_def];split <;> omega) rfl
   (fun j v hj=>by
    rw[Addr.add_lit,hc1,World.cell?_setCells_out _ _ _ _ _ (fun h _=>absurd h hne),bP]
    exact(ae (w:=w) hv j).trans (by rw[<-gK];exact hj))
   (fun j hj=>by rw[hc1];exact(gz hs1.1 (i*4) 4 mOm j hj).1) (fun j hj=>by rw[hf1];exact(gz hs1.1 (i*4) 4 mOm j hj).2) (brT.one y)
 have hov:∀o lb cb,(callFunc 125 #[Oc (Og ⟨vb,0,Oh⟩) 1 1,Oc (Og ⟨g,o,Oh⟩) lb cb]).run prog w=.ok (.value (.bool false)) w:=by
  rcases hrow.2 with ⟨e,_⟩|⟨g',c',cur,e,_,hg,_,_,hcs,_⟩
  .cases e
  .injection e with e1 e2 e3;injection e1 with e1;injection e1 with e1;subst e1;subst e3;exact fun o lb cb=>Lm w vb g o lb cb y hv cur hg mOm hne
 have HF:Hid (bz aS 4 56 W ((w.drew.setCells g ((i+1)*4) (aN aS (L.drop i))).setCells g (i*4) (aS y)) (Oc (Og ⟨g,0,Oh⟩) (n+1) c) (L.take i++y::L.drop i)):=aa (by
  have hlen:(L.take i++y::L.drop i).length=n+1:=by rw[ap,bB,aI,bD,hn];omega
  have e1:∀D:List Value,D.length=(n-i)*4->jk (aN aS L++ys) ((i+1)*4) D=(aN aS L++ys).take ((i+1)*4)++D:=fun D hD=>by
   rw[jb _ _ _ (by rw[ap,hD,hn4,hys];omega),List.drop_of_length_le (by rw[ap,hD,hn4,hys];omega),dq]
  have e2:jk ((aN aS L++ys).take ((i+1)*4)++aN aS (L.drop i)) (i*4) (aS y)=aN aS (L.take i++y::L.drop i):=by
   have ht:((aN aS L++ys).take ((i+1)*4)).length=(i+1)*4:=by rw[aI,ap,hn4,hys];omega
   rw[jb _ _ _ (by rw[ap,ht,dt];omega),dK (by rw[ht];omega),mw,show min (i*4) ((i+1)*4)=i*4 by omega,dK (by rw[hn4];omega),iV dt,dt,show i*4+4=(i+1)*4 by omega,List.drop_append_of_le_length (by rw[ht];omega),List.drop_of_length_le (by rw[ht];omega),dI,kJ,bZ];rfl
  have ho:=hs2.1
  rw[e1 _ hdl,e2] at ho;refine⟨⟨_,_,by rw[hlen]⟩,by rw[hlen];exact ho,?_⟩;have hb1:=hO.low.drew.grown hs1.2 hO.low.size (fun q hq=>by cases hq;exact hcm.2.1)
  exact hb1.grown hs2.2 (aV hO.low.size hs1.2.size) (fun q hq=>by cases hq;exact hcm.2.1))
 have hz2:¬((i:Int)=(n:Int)):=mOm
 have hb2:¬(c=i+1):=mOm;have hb4:¬(c=i):=mOm;have hb5:¬((c:Int)<(n:Int)+1):=mOm;have hb7:(i:Int)<=(n:Int)+1:=mOm;have hb8:(0:Int)<=(i:Int)+1:=mOm;have hb9:i<=n:=mOm;have hb10:((i:Int)+1).toNat=i+1:=mOm;have hw1:IntKind.i64.wrap ((i:Int)+1)=(i:Int)+1:=aH _ mOm;have mixed:prog.follows .mixedOrders=true:=mKr;clear hO hv hne hrow hcm hrow' hs1 hs2 hthere hys hdl hn4;go_enter func70,ntmps70;go_wp2_with (simp only[hov])
 go_region_law_o (refine step_copy_runI rfl _ _ 61 61 rfl _ _ (by simp[Act.eval,Act.put]) (by simp[Act.eval,Act.put]) (hcp1 _ _ _) ?_)
 go_wp2_with (at_builtin;refine wpList_copy_runI _ rfl _ _ 61 61 rfl _ _ rfl rfl (hcp2 _ (fun _=>rfl) (fun _=>rfl) _ _) ?_);go_ret;exact⟨_,rfl,HF.out⟩
theorem DU(i:Nat)(y:BrtV)(vb g c:Nat)(L:List BrtV)(W w:World)(hO:bz aS 4 56 W w (Oc (Og ⟨g,0,Oh⟩) L.length c) L)(hv:w.heap[vb]? = Og (Of y.cells 56 (0,0)))(hi:i<L.length)(hc:c<L.length+1)(hl:L.length<=1000) :
  Calls prog 70 #[Oc (Og ⟨g,0,Oh⟩) L.length c,N9 Oa i,Oc (Og ⟨vb,0,Oh⟩) 1 1] w fun e w'=>∃v,e=Oe v/\bz aS 4 56 W w' v (L.take i++y::L.drop i):=by
 have hn4:(aN aS L).length=L.length*4:=fB dt L;have hdl:(aN aS (L.drop i)).length=(L.length-i)*4:=by rw[fB dt,bD]
 have htl:(aN aS (L.take i)).length=i*4:=by rw[fB dt,aI];congr 1;omega
 have hrow:=hO.own;obtain⟨n,hn⟩:∃n,L.length=n:=⟨_,rfl⟩;rw[hn] at hrow hn4 hdl hi hc hl |-;have hcm:=pE hrow;have hvw:=aG hv;obtain⟨i0,hi0,hz0,hzs,hzb⟩:=info_parts (show(prog.info? 56).map (fun i=>(i.zero,i.size,i.bytes))=Og (Og (.agg #[N9 Oa 0,N9 Oa 0,N9 Oa 0,Oc Oh 0 0]),4,48) by kernel_rfl);obtain⟨Z,hZ⟩:∃Z:Array Value,Z=(Value.agg #[N9 Oa 0,N9 Oa 0,N9 Oa 0,Oc Oh 0 0]).cells:=⟨_,rfl⟩;have hZ4:Z.size=4:=by rw[hZ];rfl
 have hzl:∀k,(Builtin.zeroCells Z k).size=k*4:=fun k=>by simp[Builtin.zeroCells,hZ4]
 have hcs:∀j v,(aN aS L)[j]? = Og v->w.cell? ⟨g,j,Oh⟩=Og v:=fun j v hj=>by
  have hlt:=(aA.1 hj).1;rw[hrow.cellAt j mOm];exact hj
 have hold:(Builtin.firstCells i0.size i (Oc (Og ⟨g,0,Oh⟩) i c)).run prog w.drew=.ok (aN aS (L.take i)).toArray w.drew:=by
  rw[hzs]
  exact run_firstCells_some w.drew 4 i ⟨g,0,Oh⟩ i c (aN aS (L.take i)) htl (fun j v hj=>by
   rw[Addr.add_lit,bP];have hlt:=(aA.1 hj).1;rw[<-iV dt,List.getElem?_take,if_pos mOm] at hj
   exact hcs j v hj)
 obtain⟨G,hG⟩:∃G,G=grownCap w (n+1) c 56:=⟨_,rfl⟩
 have hik:i+(n+1-i)=n+1:=mOm;have hkk:(n:Int)+1-(i:Int)=((n+1-i:Nat):Int):=mOm;obtain⟨ROW,hROW⟩:∃ROW:Array Value,ROW=(aN aS (L.take i)).toArray++Builtin.zeroCells Z (n+1-i)++Builtin.zeroCells Z (G-(n+1)):=⟨_,rfl⟩
 have hrz:∀ty,(Builtin.append_ #[61,3] ty #[Oc (Og ⟨g,0,Oh⟩) i c,N9 Oa ((n:Int)+1-(i:Int))]).run prog w=.ok (Oc (Og ⟨w.heap.size,0,Oh⟩) (n+1) G) (w.drew.alloc (Of ROW 56)):=fun ty=>by
  have h:=Lib.run_append_grow_zeros w 61 3 ty 56 i0 _ Oa Oa underlying61 underlying3 hi0 hz0 (Og ⟨g,0,Oh⟩) i c (aN aS (L.take i)) hold (n+1-i) mOm mOm mOm mOm (by rw[hzb];omega) (by rw[hzb,hik];exact growslice_fits mOm mOm);rw[hik,<-hG,<-hZ,<-hROW] at h;rw[hkk];exact h
 have hGn:n+1<=G:=by rw[hG];exact grownCap_ge w _ _ _
 have hGm:G<=maxLen:=by rw[hG];exact grownCap_le_maxLen w (n+1) c 56 (by unfold maxLen;omega)
 have hG63:G<=9223372036854775807:=by unfold maxLen at hGm;omega
 have hRs:ROW.size=G*4:=by rw[hROW,Array.size_append,Array.size_append,hzl,hzl,fa,htl];omega
 have hRt:ROW.toList.take ((n+1)*4)=aN aS (L.take i)++(Builtin.zeroCells Z (n+1-i)).toList:=by rw[hROW,Array.toList_append,Array.toList_append,dK (by simp only[ap,Array.length_toList,fa,hzl,htl];omega),du (by simp only[ap,Array.length_toList,fa,hzl,htl];omega)]
 clear hG hkk hold hROW
 obtain⟨xs,hxs⟩:∃xs,xs=aN aS (L.take i)++(Builtin.zeroCells Z (n+1-i)).toList:=⟨_,rfl⟩;rw[<-hxs] at hRt;have hxl:xs.length=(n+1)*4:=by rw[hxs];simp only[ap,Array.length_toList,hzl,htl];omega
 have hrow1:((w.alloc (Of ROW 56)).drew).ownsRow W.heap.size 56 4 (Oc (Og ⟨w.heap.size,0,Oh⟩) (n+1) G) (n+1) xs:=⟨hxl,.inr ⟨_,_,ROW,rfl,hO.low.size,heap_alloc_new w _,hGn,hGm,hRs,hRt⟩⟩;have hs1:=gG (aS y) _ _ (i*4) hrow1;have hs1':(((w.alloc (Of ROW 56)).drew.setCells w.heap.size (i*4) (aS y)).drew).ownsRow W.heap.size 56 4 (Oc (Og ⟨w.heap.size,0,Oh⟩) (n+1) G) (n+1) (jk xs (i*4) (aS y)):=hs1.1;have hs2:=gG (aN aS (L.drop i)) _ _ ((i+1)*4) hs1'
 have hcpA:∀(u:World),(∀x,u.cell? x=(w.alloc (Of ROW 56)).cell? x)->(∀x,u.frozen? x=(w.alloc (Of ROW 56)).frozen? x)->∀ty dc,(Builtin.copy_ #[61,61] ty #[Oc (Og ⟨w.heap.size,i*4,Oh⟩) (n+1-i) dc,Oc (Og ⟨vb,0,Oh⟩) 1 1]).run prog u=.ok (goInt ((1:Nat):Int)) (u.setCells w.heap.size (i*4) (aS y)):=fun u hc1 hf1 ty dc =>
  mG u _ _ ty 56 4 w.heap.size (i*4) (n+1-i) dc ⟨vb,0,Oh⟩ 1 1 1 _ underlying61 tD (by simp only[Nat.min_def];split <;> omega) rfl
   (fun j v hj=>by
    rw[Addr.add_lit,hc1,bP,World.cell?_alloc_past _ vb j hvw]
    exact(ae (w:=w) hv j).trans (by rw[<-gK];exact hj))
   (fun j hj=>by rw[hc1];exact(gz hrow1 (i*4) 4 mOm j hj).1) (fun j hj=>by rw[hf1];exact(gz hrow1 (i*4) 4 mOm j hj).2) (brT.one y)
 have hgN:g≠w.heap.size:=mOm
 have hcpB:∀(u:World),(∀x,u.cell? x=((w.alloc (Of ROW 56)).drew.setCells w.heap.size (i*4) (aS y)).cell? x)->(∀x,u.frozen? x=((w.alloc (Of ROW 56)).drew.setCells w.heap.size (i*4) (aS y)).frozen? x)->∀ty dc sc,(Builtin.copy_ #[61,61] ty #[Oc (Og ⟨w.heap.size,(i+1)*4,Oh⟩) (n-i) dc,Oc (Og ⟨g,i*4,Oh⟩) (n-i) sc]).run prog u=.ok (goInt ((n-i:Nat):Int)) (u.setCells w.heap.size ((i+1)*4) (aN aS (L.drop i))):=fun u hc1 hf1 ty dc sc =>
  mG u _ _ ty 56 4 w.heap.size ((i+1)*4) (n-i) dc ⟨g,i*4,Oh⟩ (n-i) sc (n-i) _ underlying61 tD (by simp only[Nat.min_def];split <;> omega) hdl
   (fun j v hj=>by
    rw[<-uO dt L i mOm,el] at hj;rw[Addr.add_lit,hc1,World.cell?_setCells_out _ _ _ _ _ (fun h _=>absurd h hgN)]
    exact(World.cell?_alloc_past (w:=w) _ g _ hcm.2.2.1).trans (hcs _ v hj))
   (fun j hj=>by rw[hc1];exact(gz hs1.1 ((i+1)*4) ((n-i)*4) mOm j mOm).1) (fun j hj=>by rw[hf1];exact(gz hs1.1 ((i+1)*4) ((n-i)*4) mOm j mOm).2) (CF _)
 have HF:Hid (bz aS 4 56 W ((((w.alloc (Of ROW 56)).drew.setCells w.heap.size (i*4) (aS y)).drew).setCells w.heap.size ((i+1)*4) (aN aS (L.drop i))) (Oc (Og ⟨w.heap.size,0,Oh⟩) (n+1) G) (L.take i++y::L.drop i)):=aa (by
  have hlen:(L.take i++y::L.drop i).length=n+1:=by rw[ap,bB,aI,bD,hn];omega
  have e1:jk xs (i*4) (aS y)=aN aS (L.take i)++aS y++xs.drop (i*4+4):=by rw[jb _ _ _ (by rw[hxl,dt];omega),hxs,dK mOm,du mOm];rfl
  have e2:∀D:List Value,D.length=(n-i)*4->jk (aN aS (L.take i)++aS y++xs.drop (i*4+4)) ((i+1)*4) D=aN aS (L.take i)++aS y++D:=fun D hD=>by
   have h1:(aN aS (L.take i)++aS y).length=(i+1)*4:=by rw[ap,htl,dt];omega
   rw[jb _ _ _ (by rw[ap,h1,bD,hxl,hD];omega),dK mOm,du mOm,List.drop_of_length_le (by rw[ap,h1,bD,hxl,hD];omega),dq]
  have ho:=hs2.1
  rw[e1,e2 _ hdl] at ho;refine⟨⟨_,_,by rw[hlen]⟩,by rw[hlen,kJ];rw[bZ] at ho;exact ho,?_⟩;have hb0:=(hO.low.alloc hO.low.size (Of ROW 56)).drew;have hb1:=(hb0.grown hs1.2 (by rw[World.size_drew,fJ];have:=hO.low.size;omega) (fun q hq=>by cases hq;exact hO.low.size)).drew
  exact hb1.grown hs2.2 (aV (by rw[World.size_drew,fJ];have:=hO.low.size;omega) hs1.2.size) (fun q hq=>by cases hq;exact hO.low.size))
 have hz2:¬((i:Int)=(n:Int)):=mOm
 have hz3:(c:Int)<(n:Int)+1:=mOm;have hGi:¬(G=i):=mOm;have hGim:¬(G=i+1):=mOm;have hic:i<=c:=by have:=hcm.1;omega
 have hci:¬(c=i):=mOm;have hw1:IntKind.i64.wrap ((i:Int)+1)=(i:Int)+1:=aH _ mOm;have hb8:(0:Int)<=(i:Int)+1:=mOm;have hb9:i<=n:=mOm;have hb10:((i:Int)+1).toNat=i+1:=mOm;have hb7:(i:Int)<=(n:Int)+1:=mOm;have hb3:(i:Int)<=(n:Int):=mOm;have mixed:prog.follows .mixedOrders=true:=mKr;have hE1:∀x,((w.alloc (Of ROW 56)).drew).cell? x=(w.alloc (Of ROW 56)).cell? x:=fun x=>rfl
 have hE2:∀x,((w.alloc (Of ROW 56)).drew).frozen? x=(w.alloc (Of ROW 56)).frozen? x:=fun x=>rfl
 have hF1:∀x,(((w.alloc (Of ROW 56)).drew.setCells w.heap.size (i*4) (aS y)).drew).cell? x=((w.alloc (Of ROW 56)).drew.setCells w.heap.size (i*4) (aS y)).cell? x:=fun x=>rfl
 have hF2:∀x,(((w.alloc (Of ROW 56)).drew.setCells w.heap.size (i*4) (aS y)).drew).frozen? x=((w.alloc (Of ROW 56)).drew.setCells w.heap.size (i*4) (aS y)).frozen? x:=fun x=>rfl
 clear hO hv hrow hcm hrow1 hs1 hs1' hs2 hdl hn4 htl hcs hRs hRt hxl hxs hzl hZ4 hZ hi0 hz0 hzs hzb hik;go_enter func70,ntmps70
 go_wp2_with (first
  | (at_builtin;refine Lib.wpList_append_run _ rfl _ _ _ _ rfl _ _ rfl rfl _ _ (hrz _) ?_)
  | (at_builtin;refine wpList_copy_runI _ rfl _ _ 61 61 rfl _ _ rfl rfl (hcpA _ hE1 hE2 _ _) ?_))
 go_region_law_o (refine step_copy_runI rfl _ _ 61 61 rfl (Oc (Og ⟨w.heap.size,(i+1)*4,Oh⟩) (n-i) (G-(i+1))) (Oc (Og ⟨g,i*4,Oh⟩) (n-i) (c-i)) (by simp[Act.eval,Act.put]) (by simp[Act.eval,Act.put]) (hcpB _ hF1 hF2 3 (G-(i+1)) (c-i)) ?_)
 go_wp2
 go_ret;exact⟨_,rfl,HF.out⟩
theorem yM{w:World}{vb:Nat}{y:BrtV}(hv:w.heap[vb]? = Og (Of y.cells 56 (0,0))):ar aS w (Oc (Og ⟨vb,0,Oh⟩) 1 1) [y]:=
 ⟨_,_,rfl,az _,(fun h=>by cases h),fun _=>⟨vb,0,rfl,aG hv,fun j u hj=>by
  rw[bP];have e:aN aS [y]=aS y:=by simp[aN]
  rw[e] at hj
  exact(ae (w:=w) hv j).trans (by rw[<-gK];exact hj)⟩⟩
theorem Gg(y:BrtV)(vb:Nat)(p:Option Addr)(c:Nat)(L:List BrtV)(W w:World)(hO:bz aS 4 56 W w (Oc p L.length c) L)(hv:w.heap[vb]? = Og (Of y.cells 56 (0,0)))(hl:L.length<=1000) :
  Calls prog 70 #[Oc p L.length c,N9 Oa L.length,Oc (Og ⟨vb,0,Oh⟩) 1 1] w fun e w'=>∃v,e=Oe v/\bz aS 4 56 W w' v (L++[y]):=by
 have hown:=hO.own;have hr:=yM hv;have hsz:=hO.low.size;have HP:=aa (fun u v (hA:AppT aS 4 56 w W.heap.size (Oc p L.length c) L [y] v u)=>bz.app hO hA);clear hO hv;obtain⟨n,hn⟩:∃n,L.length=n:=⟨_,rfl⟩;have hlen:L.length+[y].length<=140737488355328 / 64:=by simp;omega
 rcases hown.2 with ⟨hv,hn0⟩|⟨gv,cap,cur,hv,hbg,_,hnc,hcm,_⟩
 .have e1:p=Oh/\L.length=0/\c=0:=by injection hv with a b c;exact⟨a,b,c⟩
  obtain⟨rfl,e2,rfl⟩:=e1;obtain rfl:=bn e2;clear hv hn0 hn e2;go_enter func70,ntmps70;go_wp2_with (at_builtin;refine bl brT rfl (.tmp 23) (.tmp 24) rfl W.heap.size (Oc Oh 0 0) (Oc (Og ⟨vb,0,Oh⟩) 1 1) [] [y] rfl rfl hown hr mSi hsz ?_;intro v9 w10 hA9;have HO:=aa (HP.out _ _ hA9);clear hA9);go_ret;exact⟨_,rfl,HO.out⟩
 .have e1:p=Og ⟨gv,0,Oh⟩/\c=cap:=by injection hv with a b c;exact⟨a,c⟩
  obtain⟨rfl,rfl⟩:=e1;have hc63:c<=9223372036854775807:=by unfold maxLen at hcm;omega
  clear hv;rw[hn] at hnc hown HP hlen |-;go_enter func70,ntmps70;go_wp2_with (at_builtin;refine bl brT rfl (.tmp 23) (.tmp 24) rfl W.heap.size (Oc (Og ⟨gv,0,Oh⟩) n c) (Oc (Og ⟨vb,0,Oh⟩) 1 1) L [y] rfl rfl (by rw[hn];exact hown) hr (by simp;omega) hsz ?_;intro v9 w10 hA9;have HO:=aa (HP.out _ _ hA9);clear hA9)
  all_goals (go_ret;exact⟨_,rfl,HO.out⟩)
theorem In(i:Nat)(y:BrtV)(vb:Nat)(p:Option Addr)(c:Nat)(L:List BrtV)(W w:World)(hO:bz aS 4 56 W w (Oc p L.length c) L)(hv:w.heap[vb]? = Og (Of y.cells 56 (0,0)))(hne:∀q,(Value.slice p L.length c).ownBlock=Og q->q≠vb)(hi:i<=L.length)(hl:L.length<=1000) :
  Calls prog 70 #[Oc p L.length c,N9 Oa i,Oc (Og ⟨vb,0,Oh⟩) 1 1] w fun e w'=>∃v,e=Oe v/\bz aS 4 56 W w' v (L.take i++y::L.drop i):=by
 by_cases he:i=L.length
 .subst he;rw[aT,List.drop_length];exact Gg y vb p c L W w hO hv hl
 .rcases hO.own.2 with ⟨e,hn0⟩|⟨gv,cap,cur,e,hbg,_,hnc,hcm,_⟩
  .omega
  .have e1:p=Og ⟨gv,0,Oh⟩:=by injection e
   subst e1;by_cases hc:L.length+1<=c
   .exact DW i y vb gv c L W w hO hv (fun h=>hne gv rfl h.symm) mOm hc hl
   .exact DU i y vb gv c L W w hO hv mOm mOm hl
end
section
structure ZeroB (x:BrtV):Prop where
 ents:x.b.ents=[]
 p:x.p=Oh
 c:x.c=0
def oG(L:List BrtV)(b:BrtV):List BrtV:=L.filter fun x=>!fh x.b b.b
def kZ(L:List BrtV)(b:BrtV):List BrtV:=(oG L b).takeWhile (fun x=>!dz x.b b.b)++b::(oG L b).dropWhile (fun x=>!dz x.b b.b)
theorem Gy(L:List BrtV)(b:BrtV):(kZ L b).map BrtV.b=kC (L.map BrtV.b) b.b:=by
 have e:mp (L.map BrtV.b) b.b=(oG L b).map BrtV.b:=by unfold mp oG;rw[List.filter_map];rfl
 unfold kZ kC;rw[e,List.map_append,List.map_cons,List.takeWhile_map,List.dropWhile_map];rfl
theorem zv{L:List BrtV}{b x:BrtV}(h:x∈kZ L b):x=b\/x∈L:=by
 unfold kZ at h;rcases bI.1 h with h|h
 .exact .inr (lG.1 ((List.takeWhile_sublist _).subset h)).1
 .rcases List.mem_cons.1 h with h|h
  .exact .inl h
  .exact .inr (lG.1 ((List.dropWhile_sublist _).subset h)).1
theorem zu(L:List BrtV)(b:BrtV):(kZ L b).length<=L.length+1:=by
 have h:=congrArg List.length (List.takeWhile_append_dropWhile (p:=fun x=>!dz x.b b.b) (l:=oG L b));have h2:(oG L b).length<=L.length:=eK _ _;unfold kZ;rw[ap] at h;rw[ap,bB];omega
theorem EO{l:List BrtE}{b:BrtE}(h:b.fro<1\/8<b.fro\/b.student<1\/999999<b.student\/b.root<0):eI l b=1:=by unfold eI;rw[if_pos];unfold au;simp only[Bool.and_eq_false_iff,decide_eq_false_iff_not];omega
theorem Cx{l:List BrtE}{b:BrtE}(h:¬(b.fro<1\/8<b.fro\/b.student<1\/999999<b.student\/b.root<0)):eI l b=if l.any (fun x=>ic x b)=true then 7 else 0:=by
 unfold eI;rw[if_neg]
 .rfl
 unfold au
 simp only[Bool.and_eq_false_iff,decide_eq_false_iff_not];omega
theorem Fm(w:World):Calls prog 71 #[Oc Oh 0 0] w fun e w'=>e=Oe (Oc Oh 0 0)/\w=w':=by
 have q22:∀(w:World)(a:Option Addr)(n c n' c':Nat),(binOp .eql 34 (Oc a n c) (Oc Oh n' c')).run prog w=.ok (.bool a.isNone) w:=fun w a n c n' c'=>Lib.run_eql_slice_nil w _ _ a n c n' c' underlying34
 go_enter func71,ntmps71;go_wp2_with fail;go_ret;exact⟨rfl,rfl⟩
theorem Mu(bx:Nat)(b:BrtV)(p:Option Addr)(c:Nat)(L:List BrtV)(W w:World)(hO:bz aS 4 56 W w (Oc p L.length c) L)(hbx:w.heap[bx]? = Og (Of b.cells 56 (0,0)))(hlo:bx<W.heap.size)(hl:L.length<=1000000) :
  Calls prog 66 #[Oc p L.length c,.func (.func 63) #[] #[Od (Og ⟨bx,0,Oh⟩)]] w fun e w'=>∃v,e=Oe v/\bz aS 4 56 W w' v (oG L b):=by
 rcases hO.own.2 with ⟨hv,hn0⟩|⟨gv,cap,cur,hv,hbg,_⟩
 .have e1:p=Oh/\L.length=0/\c=0:=by injection hv with a b c;exact⟨a,b,c⟩
  obtain⟨rfl,e2,rfl⟩:=e1;obtain rfl:=bn e2;refine(Fw bx w).mono ?_;rintro _ w2⟨rfl,hb2⟩;exact⟨_,rfl,⟨⟨_,_,rfl⟩,World.ownsRow_nil _ _ _ _,ah hO.low hb2⟩⟩
 .have e1:p=Og ⟨gv,0,Oh⟩:=by injection hv
  subst e1;refine(Fv W.heap.size bx _ (fun x=>fh x.b b.b) gv c L w hbx mOm hO.low.size (fun u x _ hu=>Bn x b bx u hu) hO.own hl).mono ?_;rintro _ w2⟨v2,rfl,ho2,hb2⟩;exact⟨v2,rfl,fZ ho2,ho2,hO.low.trans hb2⟩
theorem IC(f s r:Int)(p:Option Addr)(c:Nat)(L:List BrtV)(w:World)(h:ar aS w (Oc p L.length c) L)(hz:∀x∈L,ZeroB x)(hl:L.length<=900) :
  Calls prog 26 #[Oc p L.length c,.agg #[N9 Oa f,N9 Oa s,N9 Oa r,Oc Oh 0 0]] w fun e w'=>∃v,e=Oe (.tuple #[v,N9 Oa (eI (L.map BrtV.b) ⟨f,s,r,[]⟩)])/\(eI (L.map BrtV.b) ⟨f,s,r,[]⟩=0->bz aS 4 56 w w' v (kZ L ⟨⟨f,s,r,[]⟩,Oh,0⟩))/\(eI (L.map BrtV.b) ⟨f,s,r,[]⟩≠0->v=Oc Oh 0 0)/\ac w.heap.size w w':=by
 have hb0:=aj w (Of #[N9 Oa f,N9 Oa s,N9 Oa r,Oc Oh 0 0] 56);have HB0:=aa hb0;have e0:=heap_alloc_new w (Of #[N9 Oa f,N9 Oa s,N9 Oa r,Oc Oh 0 0] 56);have z0:(w.alloc (Of #[N9 Oa f,N9 Oa s,N9 Oa r,Oc Oh 0 0] 56)).cell? ⟨w.heap.size,0,Oh⟩=Og (N9 Oa f):=ae e0 0;have z1:(w.alloc (Of #[N9 Oa f,N9 Oa s,N9 Oa r,Oc Oh 0 0] 56)).cell? ⟨w.heap.size,1,Oh⟩=Og (N9 Oa s):=ae e0 1;have z2:(w.alloc (Of #[N9 Oa f,N9 Oa s,N9 Oa r,Oc Oh 0 0] 56)).cell? ⟨w.heap.size,2,Oh⟩=Og (N9 Oa r):=ae e0 2;have HR:=aa h;have HZ:=aa hz;clear h hz e0 hb0;by_cases hbad:f<1\/8<f\/s<1\/999999<s\/r<0
 .rw[EO hbad];obtain⟨q1,e1⟩:∃q,decide (f<1)=q:=⟨_,rfl⟩;obtain⟨q2,e2⟩:∃q,decide (8<f)=q:=⟨_,rfl⟩;obtain⟨q3,e3⟩:∃q,decide (s<1)=q:=⟨_,rfl⟩;obtain⟨q4,e4⟩:∃q,decide (999999<s)=q:=⟨_,rfl⟩;obtain⟨q5,e5⟩:∃q,decide (r<0)=q:=⟨_,rfl⟩;have hq:q1=true\/q2=true\/q3=true\/q4=true\/q5=true:=by
   subst e1 e2 e3 e4 e5
   simpa using hbad
  clear hbad
  go_enter func26,ntmps26
  cases q1
  .cases q2
   .cases q3
    .cases q4
     .cases q5
      .simp at hq
      .clear hq;go_wp2_with fail
       go_ret2
       exact⟨_,rfl,(fun h=>by cases h),(fun _=>rfl),HB0.out⟩
     .clear hq;go_wp2_with fail
      go_ret2
      exact⟨_,rfl,(fun h=>by cases h),(fun _=>rfl),HB0.out⟩
    .clear hq;go_wp2_with fail
     go_ret2
     exact⟨_,rfl,(fun h=>by cases h),(fun _=>rfl),HB0.out⟩
   .clear hq;go_wp2_with fail
    go_ret2
    exact⟨_,rfl,(fun h=>by cases h),(fun _=>rfl),HB0.out⟩
  .clear hq;go_wp2_with fail
   go_ret2
   exact⟨_,rfl,(fun h=>by cases h),(fun _=>rfl),HB0.out⟩
 .rw[Cx hbad];have hx:=eR (heap_alloc_new w (Of #[N9 Oa f,N9 Oa s,N9 Oa r,Oc Oh 0 0] 56)) (Of #[.func (.func 63) #[] #[Od (Og ⟨w.heap.size,0,Oh⟩)]] 124);have hy:=heap_alloc_new (w.alloc (Of #[N9 Oa f,N9 Oa s,N9 Oa r,Oc Oh 0 0] 56)) (Of #[.func (.func 63) #[] #[Od (Og ⟨w.heap.size,0,Oh⟩)]] 124);rw[size_alloc] at hy;have hb0:=ah HB0.out (aj _ (Of #[.func (.func 63) #[] #[Od (Og ⟨w.heap.size,0,Oh⟩)]] 124));have k1:decide (f<1)=false:=decide_eq_false mOm;have k2:decide (8<f)=false:=decide_eq_false mOm;have k3:decide (s<1)=false:=decide_eq_false mOm;have k4:decide (999999<s)=false:=decide_eq_false mOm;have k5:decide (r<0)=false:=decide_eq_false mOm;have hany:((L.map BrtV.b).any fun x=>ic x ⟨f,s,r,[]⟩)=(L.any fun x=>ic x.b (⟨⟨f,s,r,[]⟩,Oh,0⟩:BrtV).b):=by rw[List.any_map];rfl
  obtain⟨W,hW⟩:∃u,u=(w.alloc (Of #[N9 Oa f,N9 Oa s,N9 Oa r,Oc Oh 0 0] 56)).alloc (Of #[.func (.func 63) #[] #[Od (Og ⟨w.heap.size,0,Oh⟩)]] 124):=⟨_,rfl⟩;rw[<-hW] at hx hy hb0;have kc:=DH (w.heap.size+1) w.heap.size ⟨⟨f,s,r,[]⟩,Oh,0⟩ p c L W hx hy (HR.out.below hb0) mOm;have hyl:=aG hy;rw[hany];generalize (L.any fun x=>ic x.b (⟨⟨f,s,r,[]⟩,Oh,0⟩:BrtV).b)=a at kc;obtain⟨E,hE⟩:∃E:Int,(if a=true then 7 else 0)=E:=⟨_,rfl⟩;rw[hE];have HE:=aa hE;clear hany hbad hE;go_enter func26,ntmps26
  go_upto_region 4 with fail
  rw[<-hW];clear hW z0 z1 z2 k1 k2 k3 k4 k5;have HX:=aO.mk hx;have HY:=aO.mk hy;clear hx hy;go_wp2_with fail;refine kc.mono ?_;clear kc;rintro _ w2⟨rfl,hb2⟩;have HB2:=aa (ah hb0 hb2);replace HX:aO w2 w.heap.size _:=⟨hb2.heap_of HX.is⟩;replace HY:aO w2 (w.heap.size+1) _:=⟨hb2.heap_of HY.is⟩;clear hb2 hb0 HB0
  cases a
  .have hE0:(0:Int)=E:=HE.out;subst hE0;have hS0:ac w2.heap.size w2 w2.drew/\w2.drew.cell? ⟨w.heap.size+1,0,Oh⟩=Og (.func (.func 63) #[] #[Od (Og ⟨w.heap.size,0,Oh⟩)]):=⟨(Below.refl _ _).drew,ae HY.is 0⟩;have hrow2:=HR.out.below HB2.out;have hxl:=aG HX.is;have hwl:w.heap.size<w2.heap.size:=hxl;have keepS:∀{u u':World},(ac w2.heap.size w2 u/\u.cell? ⟨w.heap.size+1,0,Oh⟩=Og (.func (.func 63) #[] #[Od (Og ⟨w.heap.size,0,Oh⟩)]))->ac u.heap.size u u'->(ac w2.heap.size w2 u'/\u'.cell? ⟨w.heap.size+1,0,Oh⟩=Og (.func (.func 63) #[] #[Od (Og ⟨w.heap.size,0,Oh⟩)])):=fun hS hb=>⟨ah hS.1 hb,(hb.cell (p:=⟨w.heap.size+1,0,Oh⟩) (World.block_lt_of_cell? _ _ hS.2)).trans hS.2⟩
   go_wp2_with fail;refine aD (S:=fun u=>ac w2.heap.size w2 u/\u.cell? ⟨w.heap.size+1,0,Oh⟩=Og (.func (.func 63) #[] #[Od (Og ⟨w.heap.size,0,Oh⟩)])) [(0,true),(2,true),(1,false),(3,false),(4,true)] hS0 ?_;have hS:=hS0
   iterate 2 refine ak ?_
   refine aJ 67 call67 (JC p c L _ (hrow2.below hS.1) mOm) ?_;rintro x w3⟨v3,rfl,hO3⟩;obtain⟨p3,c3,hv3⟩:=hO3.form;subst hv3;replace hS:=keepS hS hO3.low;refine⟨_,rfl,hS,?_⟩;refine ay ?_;refine aJ 66 call66 (Mu w.heap.size (⟨⟨f,s,r,[]⟩,Oh,0⟩:BrtV) p3 c3 L _ _ (hO3.from_ hS0.1) (hS.1.heap_of HX.is) hxl mOm) ?_;rintro x w4⟨v4,rfl,hO4⟩;obtain⟨p4,c4,hv4⟩:=hO4.form;subst hv4;replace hS:=And.intro hO4.low (ae (hO4.low.heap_of HY.is) 0);refine⟨_,rfl,hS,?_⟩;refine ay ?_;refine ak ?_;simp only[aQ,aZ];have hx4:=hO4.low.heap_of HX.is;have hrl:(oG L (⟨⟨f,s,r,[]⟩,Oh,0⟩:BrtV)).length<=900:=aV (eK _ _) hl;have ks:=IX w.heap.size (⟨⟨f,s,r,[]⟩,Oh,0⟩:BrtV) p4 c4 (oG L (⟨⟨f,s,r,[]⟩,Oh,0⟩:BrtV)) w4 hx4 (hO4.row dt mDe) mOm;have HO4:=aa hO4;have HRL:=aa hrl;replace HX:aO w4 w.heap.size _:=⟨hx4⟩;clear hS hS0 keepS hO3 hO4 hrl hx4 hrow2 hxl hyl HY;obtain⟨R,hR⟩:∃R,R=oG L (⟨⟨f,s,r,[]⟩,Oh,0⟩:BrtV):=⟨_,rfl⟩;rw[<-hR] at ks HO4 HRL |-;have HRR:=aa hR;clear hR;go_wp2_with fail;refine ks.mono ?_;clear ks;rintro _ w5⟨j,rfl,hj,hb5⟩;have hx5:=hb5.heap_of HX.is;have x0:w5.cell? ⟨w.heap.size,0,Oh⟩=Og (N9 Oa f):=ae hx5 0;have x1:w5.cell? ⟨w.heap.size,1,Oh⟩=Og (N9 Oa s):=ae hx5 1;have x2:w5.cell? ⟨w.heap.size,2,Oh⟩=Og (N9 Oa r):=ae hx5 2;have x3:w5.cell? ⟨w.heap.size,3,Oh⟩=Og (Oc Oh 0 0):=ae hx5 3;have hO5:=(HO4.out.next hb5);have hO5':=hO5.next (aj w5 (Of #[N9 Oa f,N9 Oa s,N9 Oa r,Oc Oh 0 0] 56));have hO5'':=hO5.own;have ki:=In j (⟨⟨f,s,r,[]⟩,Oh,0⟩:BrtV) w5.heap.size p4 c4 R w2 (w5.alloc (Of #[N9 Oa f,N9 Oa s,N9 Oa r,Oc Oh 0 0] 56)) hO5' (heap_alloc_new w5 _) (fun q hq=>by have:=(hO5''.lt q hq).2;omega) hj.1 (by have:=HRL.out;omega);have HM:Hid (R.take j++(⟨⟨f,s,r,[]⟩,Oh,0⟩:BrtV)::R.drop j=kZ L (⟨⟨f,s,r,[]⟩,Oh,0⟩:BrtV)):=aa (by rw[hj.2.1,hj.2.2,HRR.out];rfl);have hMl:Hid ((kZ L (⟨⟨f,s,r,[]⟩,Oh,0⟩:BrtV)).length<=901):=aa (aV (zu _ _) mOm);clear hO5 hO5' hO5'' hb5 hx5 hj;go_wp2_with fail;refine ki.mono ?_;clear ki x0 x1 x2 x3;rintro _ w6⟨v6,rfl,hO6⟩;rw[HM.out] at hO6
   have HZM:Hid (∀x∈kZ L (⟨⟨f,s,r,[]⟩,Oh,0⟩:BrtV),ZeroB x):=aa (fun x hx=>by
    rcases zv hx with rfl|hx
    .exact⟨rfl,rfl,rfl⟩
    .exact HZ.out x hx)
   obtain⟨M,hM⟩:∃M,M=kZ L (⟨⟨f,s,r,[]⟩,Oh,0⟩:BrtV):=⟨_,rfl⟩
   rw[<-hM] at hO6 HZM hMl;have HMM:=aa hM;clear hM HM HRR HRL HO4 HX;obtain⟨p6,c6,hv6⟩:=hO6.form;subst hv6;have HO6:=aa hO6;clear hO6;go_wp2_with fail
   go_loopw [51] (fun i wr=>∃k:Nat,k<=M.length/\i=N9 Oa k/\Hid (bz aS 4 56 w2 wr (Oc p6 M.length c6) M)) (fun i _=>M.length-(aw i).toNat)
   case atStart=>exact⟨0,aP _,rfl,HO6⟩
   case round =>
    obtain⟨k,hk,rfl,HO⟩:=hrel;have hm9:=hMl.out;by_cases hlt:k<M.length
    .rcases HO.out.own.2 with ⟨e,hn0⟩|⟨g,cap,cur,e,_⟩
     .omega
     have e1:p6=Og ⟨g,0,Oh⟩:=by injection e
     subst e1;have hge:=ai hlt;have hzx:=HZM.out _ (bA hlt);obtain⟨b',o',e',_,hrow⟩:=dh (kk:=4) (HO.out.row dt mDe) dt rfl mOm;simp only[Option.some.injEq,Addr.mk.injEq,and_true] at e';obtain⟨rfl,rfl⟩:=e';have hat:=hrow k _ hge;have hc3:wr.cell? ⟨g,k*4+3,Oh⟩=Og (Oc Oh 0 0):=by
      have:=hat 3 (Oc Oh 0 0) (by rw[show aS M[k]=[N9 Oa M[k].b.fro,N9 Oa M[k].b.student,N9 Oa M[k].b.root,.slice M[k].p M[k].b.ents.length M[k].c] from rfl,hzx.ents,hzx.p,hzx.c];rfl)
      rwa [bP] at this
     have hfl:(aN aS M)[k*4+3]? = Og (Oc Oh 0 0):=by rw[jp dt hge (j:=3) (u:=Oc Oh 0 0) (by rw[show aS M[k]=[N9 Oa M[k].b.fro,N9 Oa M[k].b.student,N9 Oa M[k].b.root,.slice M[k].p M[k].b.ents.length M[k].c] from rfl,hzx.ents,hzx.p,hzx.c];rfl)]
     have hfz:=(gz HO.out.own (k*4+3) 1 mOm 0 mOm).2
     simp only[ew] at hfz;have hst:=HO.out.own.stored (k*4+3) (Oc Oh 0 0);have hset:(aN aS M).set (k*4+3) (Oc Oh 0 0)=aN aS M:=by
      obtain⟨hl2,he2⟩:=aA.1 hfl
      conv=>lhs;rw[<-he2]
      exact List.set_getElem_self hl2
     rw[hset] at hst
     have HN:Hid (bz aS 4 56 w2 (wr.setCell ⟨g,k*4+3,Oh⟩ (Oc Oh 0 0)) (Oc (Og ⟨g,0,Oh⟩) M.length c6) M):=aa ⟨⟨_,_,rfl⟩,hst.1,HO.out.low.grown hst.2 HO.out.low.size (fun q hq=>by cases hq;exact(HO.out.own.lt g rfl).1)⟩;have i1:(k:Int)<(M.length:Int):=mOm;have i2:(0:Int)<=(k:Int):=mOm;clear hst hset hfl hat hrow hzx hge e HO;go_wp2_with fail;refine(Fm _).mono ?_;rintro _ _⟨rfl,rfl⟩;go_wp2_with fail
     go_roundw
     case rel=>exact⟨k+1,mOm,by go_num,HN⟩
     case measure=>simp[aw];omega
    .obtain rfl:k=M.length:=mOm;go_wp2_with fail
     go_ret2
     exact⟨_,rfl,(by rw[<-HMM.out];exact HO.out.from_ HB2.out),ah HB2.out HO.out.low⟩
  .go_wp2_with fail
   go_ret2
   obtain rfl:7=E:=HE.out;exact⟨_,rfl,(fun h=>by cases h),(fun _=>rfl),HB2.out⟩
