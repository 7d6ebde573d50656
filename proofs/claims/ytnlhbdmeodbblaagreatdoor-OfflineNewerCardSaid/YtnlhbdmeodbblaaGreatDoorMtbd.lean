/- Lemmas. -/
import Derived.Lib.SliceRun
import Derived.Test.YtnlhbdmeodbblaaGreatDoorMtba
set_option maxRecDepth 100000
set_option maxHeartbeats 16000000
set_option linter.all false
open Go.Proofs.Tryz
open Bool renaming and_eq_true->aX
open Go.Lib renaming cell_of_heap->ae,hid->aa
open List renaming append_assoc->bZ,eq_nil_of_length_eq_zero->bn,filter_append->dV,filter_cons_of_neg->de,filter_eq_self->jn,getElem?_eq_getElem->ai,getElem_mem->bA,length_take->aI,nil_append->dI,take_add_one->aR,take_length->aT,toArray->aK
open Nat renaming add_zero->ew,le_refl->az,le_trans->aV,zero_add->bP,zero_le->aP
open Go.RowKit renaming Below->ac,intOf->aw
open Go.Ending renaming returned->Oe
open Go.IntKind renaming i64->Oa
open Go.Obj renaming cells->Of
open Go.Value renaming int->N9,string->Ob,slice->Oc,pointer->Od
open Option renaming some->Og,none->Oh
namespace Go.Proofs.YtnlhbdmeodbblaaGreatDoor
open Go Go.RowKit Go.Sort Go.Lib
section
def aC.cells(x:aC):Array Value:=#[N9 Oa x.school,N9 Oa x.size,N9 Oa x.day,Ob x.tree,Ob x.before,N9 Oa x.key,Ob x.mark]
theorem rootT:RowT prog cY 7 65 35 where
 len _:=rfl
 one x u hu:=by
  simp only[cY,List.mem_cons,List.not_mem_nil,or_false] at hu;rcases hu with rfl|rfl|rfl|rfl|rfl|rfl|rfl <;> rfl
 pos:=mDe
 und:=underlying35
 info:=by
  obtain⟨i0,hi,h1,h2,h3⟩:=info_parts (show(prog.info? 65).map (fun i=>(i.zero,i.size,i.bytes))=Og (Og rootZ.val,7,80) by kernel_rfl);exact⟨i0,_,hi,h1,h2,rfl,mOm⟩
structure aO (u:World) (bx:Nat) (ob:Obj):Prop where
 is:u.heap[bx]? = Og ob
def jk:List Value->Nat->List Value->List Value
 | xs,_,[]=>xs
 | xs,j,u::us=>jk (xs.set j u) (j+1) us
theorem jb(us:List Value):∀(xs:List Value)(j:Nat),j+us.length<=xs.length->jk xs j us=xs.take j++us++xs.drop (j+us.length):=by
 induction us with
 | nil=>intro xs j h;simp[jk]
 | cons u us ih =>
  intro xs j h;simp only[List.length_cons] at h;rw[jk,ih _ _ (by simp;omega),aR,List.take_set_of_le (az _),List.drop_set_of_lt mOm];rw[List.getElem?_set_self mOm];simp[bZ,Nat.add_assoc,Nat.add_comm 1]
theorem gG{base:Nat}{e:TypeId}{size n cap g:Nat}(us:List Value):∀(w:World)(xs:List Value)(j:Nat),w.ownsRow base e size (Oc (Og ⟨g,0,Oh⟩) n cap) n xs->
  (w.setCells g j us).ownsRow base e size (Oc (Og ⟨g,0,Oh⟩) n cap) n (jk xs j us)/\w.grownBy (w.setCells g j us) (Og g):=by
 induction us with
 | nil=>intro w xs j h;exact⟨h,⟨rfl,rfl,rfl,az _,fun _ _ _=>rfl⟩⟩
 | cons u us ih =>
  intro w xs j h;obtain⟨h1,h2⟩:=h.stored j u;obtain⟨h3,h4⟩:=ih _ _ (j+1) h1;exact⟨h3,⟨h4.os.trans h2.os,h4.tape.trans h2.tape,h4.output.trans h2.output,aV h2.size h4.size,fun k hk hr=>(h4.block k (Nat.lt_of_lt_of_le hk h2.size) hr).trans (h2.block k hk hr)⟩⟩
theorem gz{w:World}{base:Nat}{e:TypeId}{size n cap g:Nat}{xs:List Value}(h:w.ownsRow base e size (Oc (Og ⟨g,0,Oh⟩) n cap) n xs)(o m:Nat)(hm:o+m<=n*size):w.there g o m:=fun j hj=>by
 refine⟨?_,h.frozenAt _⟩;rw[h.cellAt (o+j) mOm,ai (by rw[h.1];omega)];rfl
theorem zD{w:World}{base:Nat}{e:TypeId}{size n cap g:Nat}{xs:List Value}(h:w.ownsRow base e size (Oc (Og ⟨g,0,Oh⟩) n cap) n xs)(m:Nat)(hm:m<=n):w.ownsRow base e size (Oc (Og ⟨g,0,Oh⟩) m cap) m (xs.take (m*size)):=tU h hm
theorem ja{α:Type}{L:List α}{k:Nat}{r:α}(h:L[k]? = Og r):L.take (k+1)=L.take k++[r]:=by rw[aR,h];rfl
theorem uO{α:Type}{enc:α->List Value}{k:Nat}(hk:∀x,(enc x).length=k)(L:List α)(m:Nat)(hm:m<=L.length):(aN enc L).drop (m*k)=aN enc (L.drop m):=by
 have e:aN enc L=aN enc (L.take m)++aN enc (L.drop m):=by rw[<-kJ,List.take_append_drop]
 have hl:(aN enc (L.take m)).length=m*k:=by rw[fB hk,aI,Nat.min_eq_left hm]
 rw[e,List.drop_append_of_le_length mOm,List.drop_of_length_le mOm,dI]
theorem xS{α:Type}{enc:α->List Value}{k:Nat}(hk:∀x,(enc x).length=k)(X:List α)(i:Nat)(r:α)(h:i<X.length):jk (aN enc X) (i*k) (enc r)=aN enc (X.set i r):=by
 have hmul:i*k+k<=X.length*k:=by rw[<-Nat.succ_mul];exact Nat.mul_le_mul_right _ h
 rw[jb _ _ _ (by rw[fB hk,hk];exact hmul),List.set_eq_take_append_cons_drop,if_pos h,hk,iV hk,show i*k+k=(i+1)*k by rw[Nat.succ_mul],uO hk X (i+1) mOm,kJ];simp[aN,bZ]
theorem pE{w:World}{base g n c:Nat}{e:TypeId}{size:Nat}{xs:List Value}(h:w.ownsRow base e size (Oc (Og ⟨g,0,Oh⟩) n c) n xs):n<=c/\base<=g/\g<w.heap.size/\c<=maxLen:=by
 rcases h.2 with ⟨h',_⟩|⟨g',cap',cur,h',hb,hg,h1,h2,_⟩
 .cases h'
 .simp only[Value.slice.injEq,Option.some.injEq,Addr.mk.injEq,and_true,true_and] at h';obtain⟨rfl,rfl⟩:=h';exact⟨h1,hb,aG hg,h2⟩
theorem LX(x:aC)(bx:Nat)(s:Int)(w:World)(h:w.heap[bx]? = Og (Of #[N9 Oa s] 3 (0,0))) :
  Calls prog 151 #[x.val,Od (Og ⟨bx,0,Oh⟩)] w fun e w'=>e=Oe (.bool (!(x.school==s)))/\ac w.heap.size w w':=by
 have h0:=ae h 0;have hlt:=aG h;obtain⟨sc,sz,dy,tr,bf,ky,mk⟩:=x;simp only;obtain⟨b,hb⟩:∃b,(sc==s)=b:=⟨_,rfl⟩;have hb2:(sc != s) = !b:=by unfold bne;rw[hb]
 rw[hb];go_enter func151,ntmps151;go_wp2_with fail;go_ret;exact⟨rfl,aj w _⟩
attribute [local go_sem] aC.cells
theorem zi(bx:Nat)(_ob:Obj)(P:aC->Bool)(p:Option Addr)(c:Nat)(L:List aC)(w:World)(hC:∀(u:World)(x:aC),x∈L->ac w.heap.size w u->Calls prog 151 #[x.val,Od (Og ⟨bx,0,Oh⟩)] u fun e w'=>e=Oe (.bool (P x))/\ac u.heap.size u w')(h:ar cY w (Oc p L.length c) L)(hl:L.length<=1000000) :
  Calls prog 202 #[Oc p L.length c,.func (.func 151) #[] #[Od (Og ⟨bx,0,Oh⟩)]] w fun e w'=>(∃k:Int,e=Oe (N9 Oa k)/\((k = -1/\∀x∈L,P x=false)\/∃(j:Nat) (x:aC),k=j/\L[j]? = Og x/\P x=true/\∀y∈L.take j,P y=false))/\ac w.heap.size w w':=by
 have HL:=aa h;have HC:=aa hC;clear h hC;go_enter func202,ntmps202;go_wp2_with fail
 go_loopw [8] (fun i wr=>∃k:Nat,k<=L.length/\Hid (∀y∈L.take k,P y=false)/\i=N9 Oa k/\ac w.heap.size w wr) (fun i _=>L.length-(aw i).toNat)
 case atStart=>exact⟨0,aP _,aa mSi,rfl,Below.refl _ _⟩
 case round =>
  obtain⟨k,hk,HI,rfl,hb⟩:=hrel;by_cases hlt:k<L.length
  .obtain⟨g,o,rfl,hg,hrow⟩:=dh (kk:=7) HL.out dp rfl mOm;have hge:=ai hlt;have hat:=hrow k _ hge;have hc:=HC.out wr L[k] (bA hlt) hb;have i1:(k:Int)<(L.length:Int):=mOm;have i2:(0:Int)<=(k:Int):=mOm;have HG:=aa hge;generalize L[k]=x at *;have hat2:wr.rangeAt g (o+k*7) (cY x):=fun j v hv=>(hb.cell (p:=⟨g,o+k*7+j,Oh⟩) hg).trans (hat j v hv)
   have HP:Hid (∀b,P x=b->(b=true->∃(j:Nat) (y:aC),(k:Int)=j/\L[j]? = Og y/\P y=true/\∀z∈L.take j,P z=false)/\(b=false->∀y∈L.take (k+1),P y=false)):=aa (fun b hb=>⟨fun e=>⟨k,x,rfl,HG.out,hb.trans e,HI.out⟩,fun e y hy=>by
    rw[ja HG.out] at hy;rcases List.mem_append.1 hy with hy|hy
    .exact HI.out y hy
    .obtain rfl:=List.mem_singleton.1 hy;exact hb.trans e⟩)
   replace HP:=aa (HP.out (P x) rfl)
   generalize P x=B at *;clear hge hat hrow HI;go_wp2_with ((with_reducible refine wpList_load_mid (op:=⟨_,_,_,_,_,_⟩) ?_ 65 (.tmp 14) ?_ g (o+k*7) ?_ (cY x) _ ?_ underlying65 ?_ ?_ ?_);rfl;rfl;rfl;exact hat2;rfl;kernel_rfl);refine hc.mono ?_;rintro _ w1⟨rfl,hb1⟩;have hbb:=ah hb hb1;clear hb1 hc
   cases B
   .have HN:=aa (HP.out.2 rfl);clear HP;go_wp2_with fail
    go_roundw
    case rel=>exact⟨k+1,mOm,HN,by go_num,hbb⟩
    case measure=>simp[aw];omega
   .have HN:=aa (HP.out.1 rfl);clear HP;go_wp2_with fail;go_ret;exact⟨⟨_,rfl,.inr HN.out⟩,hbb⟩
  .obtain rfl:k=L.length:=mOm;have HN:Hid (∀x∈L,P x=false):=aa (by have:=HI.out;rwa [aT] at this);go_wp2_with fail;go_ret;exact⟨⟨_,rfl,.inl ⟨rfl,HN.out⟩⟩,hb⟩
theorem Fk(w:World)(g o n c:Nat)(ty:TypeId)(hn:0<n)(ht:w.there g o (n*7)) :
  ∃Z:List Value,Z.length=n*7/\(Builtin.clear_ #[35] ty #[Oc (Og ⟨g,o,Oh⟩) n c]).run prog w=.ok (.tuple #[]) (w.setCells g o Z):=by
 refine⟨(Builtin.zeroCells rootZ.cells n).toList,by simp[Builtin.zeroCells,rootZ,aC.cells],?_⟩;have hl:(Builtin.zeroCells rootZ.cells n).toList.length=n*7:=by simp[Builtin.zeroCells,rootZ,aC.cells]
 have hst:=run_storeCells_cells (P:=prog) g o (Builtin.zeroCells rootZ.cells n).toList 0 w (fun j hj=>by simpa using (ht j mOm).1) (fun j hj=>by simpa using (ht j mOm).2) (by
  intro v hv;have hv':v∈(rootZ:aC).cells.toList:=by simp only[Builtin.zeroCells,Array.toList_map,List.mem_map,Array.toList_range] at hv;obtain⟨k,hk,rfl⟩:=hv;rw[getElem!_pos (rootZ:aC).cells _ (Nat.mod_lt _ mDe)];simp
  exact rootT.one rootZ v hv')
 simp only[ew] at hst
 obtain⟨m,rfl⟩:∃m,n=m+1:=⟨n-1,mOm⟩;have hz:∀w,(zeroValue 65).run prog w=.ok (rootZ:aC).val w:=zeroValue65;have hzc:(rootZ:aC).val.cells=(rootZ:aC).cells:=rfl;simp[Builtin.clear_,run_underlying underlying35,hz,hzc,hst]
theorem DJ(B bx:Nat)(ob:Obj)(P:aC->Bool)(g c:Nat)(L:List aC)(w:World)(hbo:w.heap[bx]? = Og ob)(hgx:g≠bx)(hBw:B<=w.heap.size)(hC:∀(u:World)(x:aC),x∈L->u.heap[bx]? = Og ob->Calls prog 151 #[x.val,Od (Og ⟨bx,0,Oh⟩)] u fun e w'=>e=Oe (.bool (P x))/\ac u.heap.size u w')(hrow:w.ownsRow B 65 7 (Oc (Og ⟨g,0,Oh⟩) L.length c) L.length (aN cY L))(hl:L.length<=1000000) :
  Calls prog 149 #[Oc (Og ⟨g,0,Oh⟩) L.length c,.func (.func 151) #[] #[Od (Og ⟨bx,0,Oh⟩)]] w fun e w'=>∃v,e=Oe v/\w'.ownsRow B 65 7 v (L.filter fun x=>!P x).length (aN cY (L.filter fun x=>!P x))/\ac B w w':=by
 obtain⟨hlc,hBg,hgl,hcm⟩:=pE hrow;have hcap:c<=9223372036854775807:=by unfold maxLen at hcm;omega
 have ci:=zi bx ob P (some ⟨g,0,none⟩) c L w (fun u x hx hb=>hC u x hx ((hb.block _ (aG hbo)).trans hbo)) (fo dp mDe hrow) hl;have HC:=aa hC;clear hC;go_enter func149,ntmps149;go_wp2_with fail;refine ci.mono ?_;rintro _ w1⟨⟨k,rfl,hk⟩,hb1⟩;have hrow1:=bK hrow (aF.of (S:=fun _=>False) hb1) (fun _ _ e=>e);have hB1:ac B w w1:=hb1.mono hBw;have hbo1:=(hb1.block _ (aG hbo)).trans hbo;clear ci hrow hb1 hbo;rcases hk with⟨rfl,hno⟩|⟨k,r,rfl,hr,hgone,hkeep⟩
 .have e:L.filter (fun x=>!P x)=L:=jn.2 (fun x hx=>by rw[hno x hx];rfl);have HE:=aa e;clear e hno;go_wp2_with fail;go_ret;refine⟨_,rfl,?_,hB1⟩;rw[HE.out];exact hrow1
 .have hkl:=(List.getElem?_eq_some_iff.1 hr).1
  have h0:Hid (((L.take (k+1)).filter fun x=>!P x).length=k/\L.take k=(L.take (k+1)).filter fun x=>!P x):=aa (by
   have e:(L.take k).filter (fun x=>!P x)=L.take k:=jn.2 (fun x hx=>by rw[hkeep x hx];rfl);have e2:(L.take (k+1)).filter (fun x=>!P x)=L.take k:=by rw[ja hr,dV,e,de (by rw[hgone];simp)];simp
   rw[e2]
   exact⟨by rw[aI];omega,rfl⟩)
  clear hgone hr hkeep
  have hneg:¬((k:Int) = -1):=mOm;have hkb:((k:Int) == -1)=false:=by rw[beq_eq_false_iff_ne];omega
  go_wp2_with fail
  go_loopw [5,6] (fun a b wr=>∃(i j:Nat) (X:List aC),a=N9 Oa i/\b=N9 Oa j/\i<j/\j<=L.length/\Hid (i=((L.take j).filter fun x=>!P x).length/\X.length=L.length/\X.take i=((L.take j).filter fun x=>!P x)/\X.drop j=L.drop j)/\
   Hid (wr.ownsRow B 65 7 (Oc (Og ⟨g,0,Oh⟩) L.length c) L.length (aN cY X))/\aO wr bx ob/\ac B w wr) (fun _ b _=>L.length-(aw b).toNat)
  case atStart=>exact⟨k,k+1,L,rfl,by go_num,mOm,mOm,aa ⟨h0.out.1.symm,rfl,h0.out.2,rfl⟩,aa hrow1,⟨hbo1⟩,hB1⟩
  case round =>
   obtain⟨i,j,X,rfl,rfl,hij,hj,HI,HR,HS,hB⟩:=hrel;have hBs:=hB.size;by_cases hlt:j<L.length
   .have hx:=ai hlt;have hxm:=bA hlt;generalize L[j]=x at hx hxm;have hatk:wr.rangeAt g (j*7) (cY x):=by
     have hxX:X[j]? = Og x:=by
      have h1:=congrArg (fun l=>l[0]?) HI.out.2.2.2;simp only[List.getElem?_drop,ew] at h1;rw[h1];exact hx
     obtain⟨b',o',e',_,hh⟩:=dh (kk:=7) (fo dp mDe HR.out) dp rfl (by rw[HI.out.2.1];omega)
     simp only[Option.some.injEq,Addr.mk.injEq,and_true] at e';obtain⟨rfl,rfl⟩:=e';have:=hh j x hxX
     rwa [bP] at this
    have i1:(j:Int)<(L.length:Int):=mOm
    have i2:(0:Int)<=(j:Int):=mOm;have hbA:=aj wr (Of x.cells 65);have HR1:Hid ((wr.alloc (Of x.cells 65)).ownsRow B 65 7 (Oc (Og ⟨g,0,Oh⟩) L.length c) L.length (aN cY X)):=aa (HR.out.alloc _);have hB2:ac B w (wr.alloc (Of x.cells 65)):=hB.alloc (aV hBw hBs) _;have hbox:Hid ((wr.alloc (Of x.cells 65)).heap[wr.heap.size]? = Og (Of x.cells 65 (0,0))):=aa (heap_alloc_new wr _);have hgw:g<wr.heap.size:=(HR.out.lt g rfl).2;have hob2:aO (wr.alloc (Of x.cells 65)) bx ob:=⟨(hbA.block _ (aG HS.is)).trans HS.is⟩;have cg:=HC.out _ x hxm hob2.is
    have HM:Hid (((L.take (j+1)).filter fun x=>!P x)=((L.take j).filter fun x=>!P x)++(if P x then [] else [x])):=aa (by
     rw[ja hx,dV]
     congr 1
     cases h:P x
     .rw[List.filter_cons_of_pos (by rw[h];rfl)];simp
     .rw[de (by rw[h];simp)];simp)
    generalize P x=G at cg HM
    clear hx hrow1 hB1 hbo1 hxm;go_wp2_with (refine wpList_load_mid rfl 65 (.tmp 24) rfl _ _ rfl x.cells.toList _ hatk underlying65 rfl mKr ?_);refine cg.mono ?_;rintro _ w2⟨rfl,hb2⟩;have HS2:aO w2 bx ob:=⟨(hb2.block _ (aG hob2.is)).trans hob2.is⟩;have hB3:ac B w w2:=hB2.trans (hb2.mono (aV hBw hB2.size));have HR2:=aa (bK HR1.out (aF.of (S:=fun _=>False) hb2) (fun _ _ e=>e));have hboxh:=(hb2.block _ (aG hbox.out)).trans hbox.out;have hbox2:Hid (w2.rangeAt wr.heap.size 0 x.cells.toList):=aa (fun q v hv=>by rw[bP,ae hboxh];simpa using hv);have hdr:X.drop (j+1)=L.drop (j+1):=by
     have:=congrArg (List.drop 1) HI.out.2.2.2
     simpa [List.drop_drop,Nat.add_comm] using this
    have HDR:=aa hdr
    clear cg hatk hbox hdr hB2 hb2 hob2 hbA hboxh
    cases G
    .have hthere:Hid (w2.there g (i*7) 7):=aa (gz HR2.out (i*7) 7 mOm);have hset:=gG x.cells.toList w2 (aN cY X) (i*7) HR2.out;rw[show x.cells.toList=cY x from rfl,xS dp X i x (by rw[HI.out.2.1];omega)] at hset;have HR3:=aa hset.1;have hB4:Hid (ac B w (w2.setCells g (i*7) (cY x))):=aa (hB3.grown hset.2 (aV hBw hB3.size) (fun q hq=>by cases hq;exact hBg));have HS4:aO (w2.setCells g (i*7) (cY x)) bx ob:=⟨(hset.2.block _ (aG HS2.is) (by simpa using fun e=>hgx e.symm)).trans HS2.is⟩
     have HI4:Hid (i+1=((L.take (j+1)).filter fun x=>!P x).length/\(X.set i x).length=L.length/\(X.set i x).take (i+1)=((L.take (j+1)).filter fun x=>!P x)/\(X.set i x).drop (j+1)=L.drop (j+1)):=aa (by
      obtain⟨i1,i2,i3,i4⟩:=HI.out;rw[HM.out];refine⟨by simp;omega,by simpa using i2,?_,by rw[List.drop_set_of_lt mOm];exact HDR.out⟩;rw[aR,List.take_set_of_le (az _),List.getElem?_set_self mOm,i3]
      rfl)
     have hall:Hid (x.cells.all (·.oneCell')=true):=aa (by simp[aC.cells,Value.oneCell'])
     clear hset
     go_wp2_with (first
      | ((with_reducible refine wpList_load_mid (op:=⟨_,_,_,_,_,_⟩) ?_ 65 (.tmp 7) ?_ wr.heap.size 0 ?_ x.cells.toList _ ?_ underlying65 ?_ ?_ ?_);rfl;rfl;rfl;exact hbox2.out;rfl;kernel_rfl)
      | ((with_reducible refine wpList_store_mid (op:=⟨_,_,_,_,_,_⟩) ?_ 65 (.tmp 33) (.tmp 32) ?_ g (i*7) x.cells ?_ ?_ ?_ ?_ ?_ ?_);rfl;rfl;rfl;rfl;exact hthere.out;kernel_rfl;exact hall.out))
     go_roundw
     case rel=>exact⟨i+1,j+1,X.set i x,by go_num,by go_num,mOm,mOm,HI4,HR3,HS4,hB4.out⟩
     case measure=>simp[aw];omega
    .have HI4:Hid (i=((L.take (j+1)).filter fun x=>!P x).length/\X.length=L.length/\X.take i=((L.take (j+1)).filter fun x=>!P x)/\X.drop (j+1)=L.drop (j+1)):=aa (by
      obtain⟨i1,i2,i3,i4⟩:=HI.out;rw[HM.out]
      exact⟨by simpa using i1,i2,by simpa using i3,HDR.out⟩)
     go_wp2_with fail
     go_roundw
     case rel=>exact⟨i,j+1,X,rfl,by go_num,mOm,mOm,HI4,HR2,HS2,hB3⟩
     case measure=>simp[aw];omega
   .obtain rfl:j=L.length:=mOm;obtain⟨Z,hZ,hclr⟩:=Fk wr g (i*7) (L.length-i) (c-i) 0 mOm (gz HR.out _ _ mOm);have hset:=gG Z wr (aN cY X) (i*7) HR.out;obtain⟨i1,i2,i3,i4⟩:=HI.out;have hpre:=zD hset.1 i mOm;rw[jb _ _ _ (by rw[fB dp,hZ,i2];omega),bZ,List.take_append_of_le_length (by rw[aI,fB dp,i2];omega),List.take_take,Nat.min_self] at hpre;have hcut:(aN cY X).take (i*7)=aN cY (L.filter fun x=>!P x):=by
     rw[aT] at i3;rw[<-i3,iV dp]
    have hB4:ac B w (wr.setCells g (i*7) Z):=hB.grown hset.2 (aV hBw hBs) (fun q hq=>by cases hq;exact hBg)
    rw[hcut] at hpre;have HP:=aa hpre;have hiL:Hid (i=(L.filter fun x=>!P x).length):=aa (by rw[aT] at i1;exact i1);clear hset hpre hrow1 hbo1 hB1 i1 i2 i3 i4 hcut;go_wp2_with fail;go_ret;exact⟨_,rfl,by rw[<-hiL.out];exact HP.out,hB4⟩
theorem Fo(p:Option Addr)(c:Nat)(L:List aC)(w:World)(h:ar cY w (Oc p L.length c) L)(hl:L.length<=1000000) :
  Calls prog 150 #[Oc p L.length c] w fun e w'=>∃v,e=Oe v/\bz cY 7 65 w w' v L:=by
 have q22:∀(w:World)(a:Option Addr)(n c n' c':Nat),(binOp .eql 35 (Oc a n c) (Oc Oh n' c')).run prog w=.ok (.bool a.isNone) w:=fun w a n c n' c'=>Lib.run_eql_slice_nil w _ _ a n c n' c' underlying35
 rcases p with _|ad
 .obtain⟨p',c',hv,_,hz,_⟩:=h;injection hv with e1 e2 e3;subst e1;subst e3;obtain rfl:=hz rfl;obtain rfl:L=[]:=bn mOm;go_enter func150,ntmps150;go_wp2_with fail;go_ret;exact⟨_,rfl,bz.nil _ _ _ _⟩
 .have hO:bz cY 7 65 w (w.alloc (Of #[] 65)) (Oc (Og ⟨w.heap.size,0,Oh⟩) 0 0) ([]:List aC):=⟨⟨_,_,rfl⟩,World.ownsRow_lit w #[] 0 (az _) (aP _) rfl,aj w _⟩;have hr:=h.below (aj w (Of #[] 65));have hown:=hO.own;have hsz:=hO.low.size;have HO:=aa hO;clear h hO;go_enter func150,ntmps150;go_wp2_with (at_builtin;refine bl rootT rfl (.tmp 5) (.tmp 6) rfl w.heap.size _ _ [] L rfl rfl hown hr (by simpa using hl) hsz ?_;intro v9 w9 hA9;have hO9:=HO.out.app hA9;rw[dI] at hO9;have HO9:=aa hO9;clear hO9 hA9);go_ret;exact⟨_,rfl,HO9.out⟩
theorem DK(bx:Nat)(w:World) :
  Calls prog 149 #[Oc Oh 0 0,.func (.func 151) #[] #[Od (Og ⟨bx,0,Oh⟩)]] w fun e w'=>e=Oe (Oc Oh 0 0)/\ac w.heap.size w w':=by
 have ci:=zi bx (Of #[] 0) (fun _=>false) Oh 0 [] w (fun u x hx _=>(by cases hx)) (ar.nil _ _) mSi;go_enter func149,ntmps149;go_wp2_with fail;refine ci.mono ?_;rintro _ w1⟨⟨k,rfl,hk⟩,hb1⟩;have hk:k = -1:=by
  rcases hk with⟨h,_⟩|⟨_,_,_,h,_⟩
  .exact h
  .cases h
 subst hk
 go_wp2_with fail;go_ret;exact⟨rfl,hb1⟩
theorem GM(s:Int)(p:Option Addr)(c:Nat)(L:List aC)(w:World)(h:ar cY w (Oc p L.length c) L)(hl:L.length<=1000000) :
  Calls prog 89 #[Oc p L.length c,N9 Oa s] w fun e w'=>∃v,e=Oe v/\bz cY 7 65 w w' v (dO L s):=by
 have hb0:=aj w (.cells #[.int .i64 s] 3);have hh:=heap_alloc_new w (.cells #[.int .i64 s] 3);have kc:=Fo p c L _ (h.below hb0) hl;have HF:Hid (L.filter (fun x=>!(!(x.school==s)))=dO L s):=aa (by unfold dO;congr 1;funext x;rw[Bool.not_not]);have HH:aO (w.alloc (.cells #[.int .i64 s] 3)) w.heap.size (.cells #[.int .i64 s] 3 (0,0)):=⟨hh⟩;clear h hh;go_enter func89,ntmps89;go_wp2_with fail;refine kc.mono ?_;rintro _ w1⟨v,rfl,hO⟩;have hbw:=ah hb0 hO.low;have hh1:=(hO.low.block _ (aG HH.is)).trans HH.is;have hown:=hO.own;obtain⟨pv,cv,rfl⟩:=hO.form;have hsz:=hO.low.size;have hlt:=aG HH.is;rcases hown.2 with ⟨hn,hn0⟩|⟨gv,cap,cur,hv,hbg,_⟩
 .have e1:pv=Oh/\L.length=0/\cv=0:=by injection hn with a b c;exact⟨a,b,c⟩
  obtain⟨rfl,e2,rfl⟩:=e1;obtain rfl:=bn e2;have kd:=DK w.heap.size w1;clear hO hown kc hh1 hn hn0 e2;go_wp2_with fail;refine kd.mono ?_;rintro _ w2⟨rfl,hb2⟩;go_wp2_with fail;go_ret;exact⟨_,rfl,⟨⟨_,_,rfl⟩,World.ownsRow_nil _ _ _ _,ah hbw hb2⟩⟩
 .have e1:pv=Og ⟨gv,0,Oh⟩:=by injection hv with a b c
  subst e1;have kd:=DJ w.heap.size w.heap.size _ (fun x=>!(x.school==s)) gv cv L w1 hh1 mOm (by have:=hbw.size;omega) (fun u x _ hu=>LX x w.heap.size s u hu) (jT hown (by have:=hb0.size;omega)) hl;have HBW:=aa hbw;clear hO hown kc hh1 hv;go_wp2_with fail;refine kd.mono ?_;rintro _ w2⟨v2,rfl,ho2,hb2⟩;have HO2:=aa ho2;clear kd ho2;go_wp2_with fail;go_ret;refine⟨_,rfl,?_⟩;have h2:=HO2.out;rw[HF.out] at h2;exact⟨fZ h2,h2,HBW.out.trans hb2⟩
end
section
variable {s0 s1 s2 s3 s4 s5 s6 s7 s8 s9 a6 a7 a8 a9 ad af ag ao b0 b1 b5 b6 b7 b8 b9 ba bb bc bd be b2 b3 b4:Value}
theorem Ns(xb ob ab g o n c r:Nat)(rt:aC)(x0 x1 x2 x3:Int)(x5 x6 z0 z1 z2 z3 z4 z5 z6:Value)(W:World)(Q:Exit->Act->World->Prop)(hbx:W.heap[xb]? = Og (Of #[N9 Oa x0,N9 Oa x1,N9 Oa x2,N9 Oa x3,N9 Oa (r:Int),x5,x6] 39 (0,0)))(hbo:W.heap[ob]? = Og (Of #[Oc (Og ⟨g,o,Oh⟩) n c] 35 (0,0)))(hba:W.heap[ab]? = Og (Of #[z0,z1,z2,z3,z4,z5,z6] 65 (0,0)))(hra:W.rangeAt g (o+r*7) (cY rt))(hgl:g<W.heap.size)(hxx:¬(xb=ob\/xb=ab))(hgx:¬(g=ob\/g=ab))(hoa:ab≠ob)(hn:r<n)(hm:n<=1000000)(hmc:n<=c)
  (hQ:∀(a0 a2 a3 a4 a5:Value)(wx:World),aF (fun k=>k=ob\/k=ab) W wx->wx.heap[ob]? = Og (Of #[Oc (Og ⟨g,o,Oh⟩) (r+1) c] 35 (0,0))->wx.heap[ab]? = Og (Of #[N9 Oa rt.school,N9 Oa rt.size,N9 Oa rt.day,Ob rt.tree,Ob rt.before,N9 Oa rt.key,Ob rt.mark] 65 (0,0))->Q .normal ⟨aK (s0::Od (Og ⟨xb,0,Oh⟩)::s2::Od (Og ⟨ob,0,Oh⟩)::Od (Og ⟨ab,0,Oh⟩)::s5::s6::s7::s8::s9::a6::a7::a8::a9::ad::af::ag::ao::b0::b1::a0::Od (Og ⟨xb,4,Oh⟩)::N9 Oa (r:Int)::a2::a3::a4::Od (Og ⟨xb,4,Oh⟩)::N9 Oa (r:Int)::N9 Oa ((r:Int)+1)::[a5,b2,b3,b4]),[]⟩ wx) :
  (db f88 6).wp prog Q ⟨aK (s0::Od (Og ⟨xb,0,Oh⟩)::s2::Od (Og ⟨ob,0,Oh⟩)::Od (Og ⟨ab,0,Oh⟩)::[s5,s6,s7,s8,s9,a6,a7,a8,a9,ad,af,ag,ao,b0,b1,b5,b6,b7,b8,b9,ba,bb,bc,bd,be,b2,b3,b4]),[]⟩ W:=by
 refine mOn ?_;generalize Q .normal=K at hQ |-;have HQ:=aa hQ;clear hQ
 conv=>arg 2;whnf
 have hxl:=aG hbx
 have n0:(0:Int)<=(r:Int):=mOm;have n1:(r:Int)<(n:Int):=mOm;have n2:r<n:=mOm;have n3:¬c<r+1:=mOm;have n4:¬c=0:=mOm;have n5:(0:Int)<=(r:Int)+1:=mOm;have n6:(r:Int)+1<=(c:Int):=mOm;have n7:((r:Int)+1).toNat=r+1:=mOm;have a1:IntKind.i64.wrap ((r:Int)+1)=(r:Int)+1:=IntWalk.i64_in _ mOm;refine li (S:=fun w=>aF (fun k=>k=ob\/k=ab) W w) (I:=fun L' a w=>∃a0 a2 a3 a4 a5:Value,a=⟨aK (s0::Od (Og ⟨xb,0,Oh⟩)::s2::Od (Og ⟨ob,0,Oh⟩)::Od (Og ⟨ab,0,Oh⟩)::s5::s6::s7::s8::s9::a6::a7::a8::a9::ad::af::ag::ao::b0::b1::a0::Od (Og ⟨xb,4,Oh⟩)::N9 Oa (r:Int)::a2::a3::a4::Od (Og ⟨xb,4,Oh⟩)::N9 Oa (r:Int)::N9 Oa ((r:Int)+1)::[a5,b2,b3,b4]),[]⟩/\(aF (fun k=>k=ob\/k=ab) W w)/\(L'.getD 0 false=true->a0=Oc (Og ⟨g,o,Oh⟩) n c)/\(L'.getD 3 false=true->a2=Od (Og ⟨g,o+r*7,Oh⟩))/\(L'.getD 4 false=true->a3=.agg #[N9 Oa rt.school,N9 Oa rt.size,N9 Oa rt.day,Ob rt.tree,Ob rt.before,N9 Oa rt.key,Ob rt.mark])/\(L'.getD 5 false=true->a4=Oc (Og ⟨g,o,Oh⟩) n c)/\(L'.getD 9 false=true->a5=Oc (Og ⟨g,o,Oh⟩) (r+1) c)/\(L'.getD 10 false=true->w.heap[ab]? = Og (Of #[N9 Oa rt.school,N9 Oa rt.size,N9 Oa rt.day,Ob rt.tree,Ob rt.before,N9 Oa rt.key,Ob rt.mark] 65 (0,0)))/\(L'.getD 11 false=true->w.heap[ob]? = Og (Of #[Oc (Og ⟨g,o,Oh⟩) (r+1) c] 35 (0,0)))/\(L'.getD 11 false=false->w.heap[ob]? = Og (Of #[Oc (Og ⟨g,o,Oh⟩) n c] 35 (0,0)))/\(L'.getD 10 false=false->w.heap[ab]? = Og (Of #[z0,z1,z2,z3,z4,z5,z6] 65 (0,0)))) (pre:=fun i L'=>L'.size==12&&((i==0 && !L'.getD 11 false)||(i==3&&L'.getD 0 false)||(i==4&&L'.getD 3 false)||(i==5 && !L'.getD 11 false)||(i==9&&L'.getD 5 false)||(i==10&&L'.getD 4 false && !L'.getD 10 false && !L'.getD 11 false)||(i==11&&L'.getD 9 false&&L'.getD 10 false && !L'.getD 11 false))) (fin:=fun L'=>L'.getD 11 false&&L'.getD 10 false) [1,2,6,7,8] 7 mKr mKr mKr mKr mDe (aF.of (Below.refl _ _).drew) ?_ ?_ ?_
 .intro i L' a w hp hI;obtain⟨a0,a2,a3,a4,a5,rfl,hSw,hP0,hP3,hP4,hP5,hP9,hP10,hP11,hN0,hN1⟩:=hI;simp only[aX,Bool.or_eq_true,beq_iff_eq,Bool.not_eq_true'] at hp;obtain⟨hsz,hp⟩:=hp;rcases hp with ((((((⟨rfl,gn11⟩|⟨rfl,gd0⟩)|⟨rfl,gd3⟩)|⟨rfl,gn11⟩)|⟨rfl,gd5⟩)|⟨⟨⟨rfl,gd4⟩,gn10⟩,gn11⟩)|⟨⟨⟨rfl,gd9⟩,gd10⟩,gn11⟩)
  .have g0:=fy (L:=L') (i:=0);have g3:=am (L:=L') (i:=0) (j:=3);have g4:=am (L:=L') (i:=0) (j:=4);have g5:=am (L:=L') (i:=0) (j:=5);have g9:=am (L:=L') (i:=0) (j:=9);have g10:=am (L:=L') (i:=0) (j:=10);have g11:=am (L:=L') (i:=0) (j:=11);have hcc:=ae (hN0 gn11) 0;have hSn:=hSw;refine fl ⟨_,_,_,_,_,_⟩ (Oc (Og ⟨g,o,Oh⟩) n c) w rfl mRf (by go_simp) ?_;exact⟨hSn,(Oc (Og ⟨g,o,Oh⟩) n c),(a2),(a3),(a4),(a5),mPt,hSn,fun _=>rfl,by rw[g3];exact hP3,by rw[g4];exact hP4,by rw[g5];exact hP5,by rw[g9];exact hP9,by rw[g10];exact hP10,by rw[g11];exact fun e=>absurd (e.symm.trans gn11) mDe,by rw[g11];exact hN0,by rw[g10];exact hN1⟩
  .have g0:=am (L:=L') (i:=3) (j:=0);have g3:=fy (L:=L') (i:=3);have g4:=am (L:=L') (i:=3) (j:=4);have g5:=am (L:=L') (i:=3) (j:=5);have g9:=am (L:=L') (i:=3) (j:=9);have g10:=am (L:=L') (i:=3) (j:=10);have g11:=am (L:=L') (i:=3) (j:=11);have hD0:=hP0 gd0;obtain rfl:=hD0;have hSn:=hSw;refine fl ⟨_,_,_,_,_,_⟩ (Od (Og ⟨g,o+r*7,Oh⟩)) w rfl mRf (by go_simp) ?_;exact⟨hSn,(Oc (Og ⟨g,o,Oh⟩) n c),(Od (Og ⟨g,o+r*7,Oh⟩)),(a3),(a4),(a5),mPt,hSn,by rw[g0];exact hP0,fun _=>rfl,by rw[g4];exact hP4,by rw[g5];exact hP5,by rw[g9];exact hP9,by rw[g10];exact hP10,by rw[g11];exact hP11,by rw[g11];exact hN0,by rw[g10];exact hN1⟩
  .have g0:=am (L:=L') (i:=4) (j:=0);have g3:=am (L:=L') (i:=4) (j:=3);have g4:=fy (L:=L') (i:=4);have g5:=am (L:=L') (i:=4) (j:=5);have g9:=am (L:=L') (i:=4) (j:=9);have g10:=am (L:=L') (i:=4) (j:=10);have g11:=am (L:=L') (i:=4) (j:=11);have hD3:=hP3 gd3;obtain rfl:=hD3;have rc0:w.cell? ⟨g,o+r*7,Oh⟩=Og (N9 Oa rt.school):=(hSw.cell hgl hgx _ Oh).trans (hra 0 _ rfl);have rc1:w.cell? ⟨g,o+r*7+1,Oh⟩=Og (N9 Oa rt.size):=(hSw.cell hgl hgx _ Oh).trans (hra 1 _ rfl);have rc2:w.cell? ⟨g,o+r*7+2,Oh⟩=Og (N9 Oa rt.day):=(hSw.cell hgl hgx _ Oh).trans (hra 2 _ rfl);have rc3:w.cell? ⟨g,o+r*7+3,Oh⟩=Og (Ob rt.tree):=(hSw.cell hgl hgx _ Oh).trans (hra 3 _ rfl);have rc4:w.cell? ⟨g,o+r*7+4,Oh⟩=Og (Ob rt.before):=(hSw.cell hgl hgx _ Oh).trans (hra 4 _ rfl);have rc5:w.cell? ⟨g,o+r*7+5,Oh⟩=Og (N9 Oa rt.key):=(hSw.cell hgl hgx _ Oh).trans (hra 5 _ rfl);have rc6:w.cell? ⟨g,o+r*7+6,Oh⟩=Og (Ob rt.mark):=(hSw.cell hgl hgx _ Oh).trans (hra 6 _ rfl);have hSn:=hSw;refine fl ⟨_,_,_,_,_,_⟩ (.agg #[N9 Oa rt.school,N9 Oa rt.size,N9 Oa rt.day,Ob rt.tree,Ob rt.before,N9 Oa rt.key,Ob rt.mark]) w rfl mRf (by go_simp) ?_;exact⟨hSn,(a0),(Od (Og ⟨g,o+r*7,Oh⟩)),(.agg #[N9 Oa rt.school,N9 Oa rt.size,N9 Oa rt.day,Ob rt.tree,Ob rt.before,N9 Oa rt.key,Ob rt.mark]),(a4),(a5),mPt,hSn,by rw[g0];exact hP0,by rw[g3];exact hP3,fun _=>rfl,by rw[g5];exact hP5,by rw[g9];exact hP9,by rw[g10];exact hP10,by rw[g11];exact hP11,by rw[g11];exact hN0,by rw[g10];exact hN1⟩
  .have g0:=am (L:=L') (i:=5) (j:=0);have g3:=am (L:=L') (i:=5) (j:=3);have g4:=am (L:=L') (i:=5) (j:=4);have g5:=fy (L:=L') (i:=5);have g9:=am (L:=L') (i:=5) (j:=9);have g10:=am (L:=L') (i:=5) (j:=10);have g11:=am (L:=L') (i:=5) (j:=11);have hcc:=ae (hN0 gn11) 0;have hSn:=hSw;refine fl ⟨_,_,_,_,_,_⟩ (Oc (Og ⟨g,o,Oh⟩) n c) w rfl mRf (by go_simp) ?_;exact⟨hSn,(a0),(a2),(a3),(Oc (Og ⟨g,o,Oh⟩) n c),(a5),mPt,hSn,by rw[g0];exact hP0,by rw[g3];exact hP3,by rw[g4];exact hP4,fun _=>rfl,by rw[g9];exact hP9,by rw[g10];exact hP10,by rw[g11];exact fun e=>absurd (e.symm.trans gn11) mDe,by rw[g11];exact hN0,by rw[g10];exact hN1⟩
  .have g0:=am (L:=L') (i:=9) (j:=0);have g3:=am (L:=L') (i:=9) (j:=3);have g4:=am (L:=L') (i:=9) (j:=4);have g5:=am (L:=L') (i:=9) (j:=5);have g9:=fy (L:=L') (i:=9);have g10:=am (L:=L') (i:=9) (j:=10);have g11:=am (L:=L') (i:=9) (j:=11);have hD5:=hP5 gd5;obtain rfl:=hD5;have hSn:=hSw;refine fl ⟨_,_,_,_,_,_⟩ (Oc (Og ⟨g,o,Oh⟩) (r+1) c) w rfl mRf (by go_simp) ?_;exact⟨hSn,(a0),(a2),(a3),(Oc (Og ⟨g,o,Oh⟩) n c),(Oc (Og ⟨g,o,Oh⟩) (r+1) c),mPt,hSn,by rw[g0];exact hP0,by rw[g3];exact hP3,by rw[g4];exact hP4,by rw[g5];exact hP5,fun _=>rfl,by rw[g10];exact hP10,by rw[g11];exact hP11,by rw[g11];exact hN0,by rw[g10];exact hN1⟩
  .have g0:=am (L:=L') (i:=10) (j:=0);have g3:=am (L:=L') (i:=10) (j:=3);have g4:=am (L:=L') (i:=10) (j:=4);have g5:=am (L:=L') (i:=10) (j:=5);have g9:=am (L:=L') (i:=10) (j:=9);have g10:=fy (L:=L') (i:=10);have g11:=am (L:=L') (i:=10) (j:=11);have hD4:=hP4 gd4;obtain rfl:=hD4;have hold:=hN1 gn10;have hg:aF (fun k=>k=ab) w (w.setRow ab #[N9 Oa rt.school,N9 Oa rt.size,N9 Oa rt.day,Ob rt.tree,Ob rt.before,N9 Oa rt.key,Ob rt.mark]):=aF.setRow w ab _;have hSn:=hSw.trans (hg.mono (fun k _ h=>.inr h));refine di ⟨_,_,_,_,_,_⟩ rfl mRf 65 _ _ mRf ab #[N9 Oa rt.school,N9 Oa rt.size,N9 Oa rt.day,Ob rt.tree,Ob rt.before,N9 Oa rt.key,Ob rt.mark] mRf mRf _ _ hold mKr rfl (by simp[Value.oneCell']) ?_;exact⟨hSn,(a0),(a2),(.agg #[N9 Oa rt.school,N9 Oa rt.size,N9 Oa rt.day,Ob rt.tree,Ob rt.before,N9 Oa rt.key,Ob rt.mark]),(a4),(a5),by simp only[Act.put],hSn,by rw[g0];exact hP0,by rw[g3];exact hP3,by rw[g4];exact hP4,by rw[g5];exact hP5,by rw[g9];exact hP9,fun _=>setRow_heap w ab _ _ _ _ hold,by rw[g11];exact fun e=>absurd (e.symm.trans gn11) mDe,by rw[g11];exact fun e=>hg.heap (hN0 e) (fun e=>hoa e.symm),by rw[g10];exact fun e=>absurd e mDe⟩
  .have g0:=am (L:=L') (i:=11) (j:=0);have g3:=am (L:=L') (i:=11) (j:=3);have g4:=am (L:=L') (i:=11) (j:=4);have g5:=am (L:=L') (i:=11) (j:=5);have g9:=am (L:=L') (i:=11) (j:=9);have g10:=am (L:=L') (i:=11) (j:=10);have g11:=fy (L:=L') (i:=11);have hD9:=hP9 gd9;obtain rfl:=hD9;have hD10:=hP10 gd10;have hold:=hN0 gn11;have hc:=ae hold 0;have hf:=Lib.frozen_of_heap hold 0;have hg:aF (fun k=>k=ob) w (w.setCell ⟨ob,0,Oh⟩ (Oc (Og ⟨g,o,Oh⟩) (r+1) c)):=aF.set (S:=fun k=>k=ob) w rfl 0 _;have hSn:=hSw.trans (hg.mono (fun k _ h=>.inl h));refine vD ⟨_,_,_,_,_,_⟩ (w.setCell ⟨ob,0,Oh⟩ (Oc (Og ⟨g,o,Oh⟩) (r+1) c)) rfl mRf (by go_simp) ?_;exact⟨hSn,(a0),(a2),(a3),(a4),(Oc (Og ⟨g,o,Oh⟩) (r+1) c),by simp only[Act.put],hSn,by rw[g0];exact hP0,by rw[g3];exact hP3,by rw[g4];exact hP4,by rw[g5];exact hP5,by rw[g9];exact hP9,by rw[g10];exact fun e=>hg.heap (hP10 e) hoa,fun _=>bj hold 0 _,by rw[g11];exact fun e=>absurd e mDe,by rw[g10];exact fun e=>absurd (gd10.symm.trans e) mDe⟩
 .intro L' a w hp hI;obtain⟨a0,a2,a3,a4,a5,rfl,hSw,hP0,hP3,hP4,hP5,hP9,hP10,hP11,hN0,hN1⟩:=hI
  (try simp only[aX] at hp)
  obtain⟨p11,p10⟩:=hp;obtain hfin:=hP11 p11;exact HQ.out _ _ _ _ _ w hSw hfin (hP10 p10)
 .refine cq ⟨_,_,_,_,_,_⟩ ?_ rfl mRf ?_ ?_
  rotate_left 1
  .intro w hSw;(try dsimp only at hSw);go_simp;(try with_reducible rfl)
  refine ay ?_
  refine cq ⟨_,_,_,_,_,_⟩ ?_ rfl mRf ?_ ?_
  rotate_left 1
  .intro w hSw;(try dsimp only at hSw);have hc:=(hSw.cell hxl hxx 4 Oh).trans (ae hbx 4);go_simp;(try with_reducible rfl)
  refine ay ?_
  refine cq ⟨_,_,_,_,_,_⟩ ?_ rfl mRf ?_ ?_
  rotate_left 1
  .intro w hSw;(try dsimp only at hSw);go_simp;(try with_reducible rfl)
  refine ay ?_
  refine cq ⟨_,_,_,_,_,_⟩ ?_ rfl mRf ?_ ?_
  rotate_left 1
  .intro w hSw;(try dsimp only at hSw);have hc:=(hSw.cell hxl hxx 4 Oh).trans (ae hbx 4);go_simp;(try with_reducible rfl)
  refine ay ?_
  refine cq ⟨_,_,_,_,_,_⟩ ?_ rfl mRf ?_ ?_
  rotate_left 1
  .intro w hSw;(try dsimp only at hSw);go_simp;(try with_reducible rfl)
  refine ay ?_
  exact⟨_,_,_,_,_,rfl,(aF.of (Below.refl _ _).drew),(fun e=>absurd e (by decide +kernel)),(fun e=>absurd e (by decide +kernel)),(fun e=>absurd e (by decide +kernel)),(fun e=>absurd e (by decide +kernel)),(fun e=>absurd e (by decide +kernel)),(fun e=>absurd e (by decide +kernel)),(fun e=>absurd e (by decide +kernel)),(fun _=>hbo),(fun _=>hba)⟩
