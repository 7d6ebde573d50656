/- Lemmas. -/
import Derived.LoopTactic
import Derived.LoopN
import Derived.Test.YtnlhbdmeodbblaaGreatDoorMtaa
import Derived.Sort.LotA
import Derived.Sort.Statements
import Derived.Sort.Lot0
set_option maxRecDepth 100000
set_option maxHeartbeats 16000000
set_option linter.all false
open Go.Proofs.Tryz
open List renaming append_assoc->bZ,cons_append->eY,drop_eq_getElem_cons->cL,drop_eq_nil_of_le->fm,getElem?_eq_getElem->ai,length_append->ap,mem_append->bI,mem_cons->bM,mem_cons_self->cM,pairwise_cons->eP,take_add_one->aR,take_of_length_le->du,toArray->aK
open Nat renaming le_refl->az
open Go.Ending renaming returned->Oe
open Go.IntKind renaming i64->Oa
open Go.Value renaming int->N9,string->Ob
namespace Go.Proofs.YtnlhbdmeodbblaaGreatDoor
section
open Go Go.RowKit Go.Sort Go.Lib
attribute [local go_sem] mz xq
def dl(n:Nat):List UInt8:=[n / 10 / 10 / 10 / 10 / 10,n / 10 / 10 / 10 / 10,n / 10 / 10 / 10,n / 10 / 10,n / 10,n].map fun m=>UInt8.ofNat (48+m%10)
theorem lz{p q:Prop}(h:q) (f:Wq q->p:=by
 intro hq;rw[rounds_succ];go_wp2_with fail;rw[rounds_succ];go_wp2_with fail;rw[rounds_succ];go_wp2_with fail
 exact hq.1):p:=f ⟨h⟩
theorem Ax(n:Nat)(w:World)(hn:n<=999999) :
  Calls prog 200 #[N9 Oa n] w fun e w'=>e=Oe (Ob ⟨(dl n).toArray⟩)/\Below w.heap.size w w':=by
 go_enter func200,ntmps200;go_wp2_with fail;refine wp_loop_rounds 7 ?_;refine lz ?_;refine lz ?_;rw[rounds_succ];go_wp2_with fail;go_ret;exact⟨cU rfl,(Below.refl _ _).alloc (az _) _⟩
theorem it(n:Nat)(w:World)(hn:n<=999999) :
  Calls prog 54 #[N9 Oa n] w fun e w'=>e=Oe (Ob ⟨(dl n).toArray⟩)/\Below w.heap.size w w':=by
 go_enter func54,ntmps54;go_wp2_with fail;refine wp_loop_rounds 7 ?_;refine lz ?_;refine lz ?_;rw[rounds_succ];go_wp2_with fail;go_ret;refine⟨cU (dL (by simp[dl,UInt8.ofNat_add])),?_⟩;exact((((((Below.refl _ _).alloc (az _) _).alloc mSi _).alloc (by simp;omega) _).alloc (by simp;omega) _).alloc (by simp;omega) _).alloc (by simp;omega) _
end
section
open Go.Sort
section
variable {α:Type} (ky:α->Int)
def ltI(x y:α×Nat):Bool:=decide (ky x.1<ky y.1)
def ltL(x y:α×Nat):Bool:=decide (ky x.1<ky y.1)||(ky x.1==ky y.1&&decide (x.2<y.2))
variable {ky}
theorem ltL_iff{x y:α×Nat}:ltL ky x y=true↔ky x.1<ky y.1\/(ky x.1=ky y.1/\x.2<y.2):=by unfold ltL;rw[Bool.or_eq_true,Bool.and_eq_true,decide_eq_true_eq,decide_eq_true_eq,beq_iff_eq]
theorem ltL_not{x y:α×Nat}:ltL ky x y=false↔¬(ky x.1<ky y.1\/(ky x.1=ky y.1/\x.2<y.2)):=by rw[<-ltL_iff,Bool.not_eq_true]
theorem Kg{x y:α×Nat}(h:y.2<x.2):ltL ky x y=ltI ky x y:=by
 by_cases h1:ky x.1<ky y.1
 .rw[ltL_iff.2 (.inl h1)];exact(decide_eq_true h1).symm
 .rw[ltL_not.2 mOm];exact(decide_eq_false h1).symm
theorem M7:SWO (ltL ky) where
 irrefl x:=ltL_not.2 mOm
 trans x y z h1 h2:=by rw[ltL_iff] at *;omega
 ntrans x y z h1 h2:=by rw[ltL_not] at *;omega
end
section
variable {α:Type} [Inhabited α] {ky:α->Int}
def B8(d:Array (α×Nat))(a b:Nat):Prop:=∀p q,a<=p->p<q->q<b->(d[p]!).2<(d[q]!).2
theorem ul(a:Nat):∀(j:Nat)(d:Array (α×Nat)),j<d.size->(∀p,a<=p->p<j->(d[p]!).2<(d[j]!).2)->insInner (ltI ky) a j d=insInner (ltL ky) a j d
 | 0,_,_,_=>rfl
 | j+1,d,hj,h=>by
  unfold insInner;by_cases hc:j+1>a
  .have e:=Kg (ky:=ky) (h j mOm mOm);rw[e]
   split
   .refine ul a j _ (by rw[swp_size];omega) fun p hp hpj=>?_
    have g:=swp_get d hj (show j<d.size by omega);rw[g,g];simp only[show p≠j by omega,show p≠j+1 by omega,if_false,if_true];exact h p hp mOm
   .rfl
  .simp only[hc,decide_false,Bool.false_and,Bool.false_eq_true,if_false]
theorem GV{d d':Array (α×Nat)}{a b i:Nat}(hp:PermIn a (i+1) d d')(hi:i<b)(hb:b<=d.size)(h:∀p q,a<=p->p<q->i<q->q<b->(d[p]!).2<(d[q]!).2):∀p q,a<=p->p<q->i<q->q<b->(d'[p]!).2<(d'[q]!).2:=by
 intro p q hap hpq hiq hqb;have eq:d'[q]! = d[q]!:=hp.2.1 q (.inr mOm);rw[eq];by_cases hpi:p<=i
 .exact permIn_all d d' a (i+1) (fun x=>x.2<(d[q]!).2) mOm hp (fun k h1 h2=>h k q h1 mOm hiq hqb) p hap mOm
 .rw[hp.2.1 p (.inr mOm)];exact h p q hap hpq hiq hqb
theorem um(a b:Nat):∀(n i:Nat)(d:Array (α×Nat)),b-i=n->a<i->b<=d.size->SortedIn (ltL ky) a i d->(∀p q,a<=p->p<q->i<=q->q<b->(d[p]!).2<(d[q]!).2)->insOuter (ltI ky) a b i d=insOuter (ltL ky) a b i d
 | 0,i,d,hn,_,_,_,_=>by
  rw[insOuter,if_neg mOm,insOuter.eq_def (ltL ky),if_neg mOm]
 | n+1,i,d,hn,hai,hb,hs,h=>by
  have hlt:i<b:=mOm;rw[insOuter,if_pos hlt,insOuter.eq_def (ltL ky),if_pos hlt];have h1:=insInner_spec (M7 (ky:=ky)) swp_permIn permIn_refl permIn_trans a (i+1) i mOm i d mOm (az _) mOm ⟨fun p q hap hpq hqi _ hq=>hs p q hap hpq mOm,fun q h1 h2=>by omega⟩;rw[ul a i d mOm (fun p h1 h2=>h p i h1 h2 (az _) hlt)];exact um a b n (i+1) _ mOm mOm (by rw[h1.1.1];exact hb) h1.2 (fun p q h2 h3 h4 h5=>GV (b:=b) h1.1 hlt hb (fun p q h2 h3 h4 h5=>h p q h2 h3 mOm h5) p q h2 h3 mOm h5)
theorem Al{d:Array (α×Nat)}{a b:Nat}(hb:b<=d.size)(h:B8 d a b):insertionSort (ltI ky) d a b=insertionSort (ltL ky) d a b:=by
 unfold insertionSort;exact um a b _ (a+1) d rfl mOm hb (fun i j h1 h2 h3=>by omega) (fun p q h1 h2 _ h4=>h p q h1 h2 h4)
end
section
variable {α β:Type} (ky:α->Int)
theorem zN{r:β->β->Prop}(hr:∀x y,r x y->¬r y x):∀{a b:List β},a.Pairwise r->b.Pairwise r->a.Perm b->a=b
 | [],b,_,_,hp=>(hp.symm.eq_nil).symm
 | x::a,[],_,_,hp=>absurd hp.eq_nil mSi
 | x::a,y::b,ha,hb,hp=>by
  have hxy:x=y:=by
   have h1:x∈y::b:=hp.subset cM;have h2:y∈x::a:=hp.symm.subset cM;rcases bM.1 h1 with h|h
   .exact h
   rcases bM.1 h2 with h'|h'
   .exact h'.symm
   exact absurd ((eP.1 ha).1 y h') (hr _ _ ((eP.1 hb).1 x h))
  subst hxy
  rw[zN hr (eP.1 ha).2 (eP.1 hb).2 (List.perm_cons x |>.1 hp)]
def BrS(L out:List α):Prop:=∃T:List (α×Nat),T.map Prod.fst=out/\T.Perm L.zipIdx/\T.Pairwise (fun x y=>ltL ky x y=true)
variable {ky}
theorem BrS.one{L a b:List α}(h:BrS ky L a)(h2:BrS ky L b):a=b:=by
 obtain⟨T,h3,h4,h5⟩:=h;obtain⟨U,h6,h7,h8⟩:=h2;rw[<-h3,<-h6,zN (fun x y hxy hyx=>by rw[ltL_iff] at *;omega) h5 h8 (h4.trans h7.symm)]
theorem BrS.nil:BrS ky ([]:List α) []:=⟨[],rfl,List.Perm.refl _,List.Pairwise.nil⟩
theorem BrS.of{L:List α}{T:List (α×Nat)}(hp:T.Perm L.zipIdx)(hs:T.Pairwise fun a b=>ltL ky b a=false):BrS ky L (T.map Prod.fst):=by
 refine⟨T,rfl,hp,?_⟩;have hn:T.Pairwise fun a b=>a.2≠b.2:=by
  have:(T.map Prod.snd).Nodup:=by have h1:=hp.map Prod.snd;rw[List.zipIdx_map_snd] at h1;exact h1.nodup_iff.2 List.nodup_range'
  exact List.pairwise_map.1 this
 refine List.Pairwise.imp₂ ?_ hs hn
 intro a b h1 h2;rw[ltL_not] at h1;rw[ltL_iff];omega
end
end
section
open Go.Sort
variable {α:Type}
theorem Id[Inhabited α](L1 L2:List α)(x:α):(aK (L1++x::L2))[L1.length]! = x:=by rw[getElem!_pos _ _ mSi];simp
theorem IY(L1 L2:List α)(x y:α):(L1++x::L2).set L1.length y=L1++y::L2:=by rw[List.set_append_right _ _ (az _)];simp
theorem rS{p:Prop} (h:p:=by
 simp only[bZ,eY,ap,List.length_cons] at this;rw[show L1.length+1+L2.length=L1.length+(L2.length+1) by omega]
 exact this):p:=h
theorem KX[Inhabited α](L1 L2 L3:List α)(x y:α):swp (aK (L1++x::(L2++y::L3))) L1.length (L1.length+1+L2.length)=aK (L1++y::(L2++x::L3)):=by
 have e1:=Id L1 (L2++y::L3) x;have e2:(aK (L1++x::(L2++y::L3)))[L1.length+1+L2.length]! = y:=by have:=Id (L1++x::L2) L3 y;exact rS
 unfold swp
 rw[e1,e2];simp only[List.setIfInBounds_toArray]
 congr 1
 rw[IY]
 have:=IY (L1++y::L2) L3 y x;exact rS
def pc(P X Y Z S:List α)(k:Nat):List α:=P++(Z.take k++(X.drop k++(Y++(X.take k++(Z.drop k++S)))))
theorem NM(P X Y Z S:List α):pc P X Y Z S 0=P++(X++(Y++(Z++S))):=by simp[pc]
theorem NK{P X Y Z S:List α}{n:Nat}(hx:X.length=n)(hz:Z.length=n):pc P X Y Z S n=P++(Z++(Y++(X++S))):=by unfold pc;rw[du mOm,du mOm,fm mOm,fm mOm];simp
theorem NV{P X Y Z S:List α}{n k:Nat}(hx:X.length=n)(hz:Z.length=n)(hk:k<=n):(pc P X Y Z S k).length=P.length+n+Y.length+n+S.length:=by simp only[pc,ap,List.length_take,List.length_drop];omega
theorem NL[Inhabited α]{P X Y Z S:List α}{n k:Nat}(hx:X.length=n)(hz:Z.length=n)(hk:k<n):swp (aK (pc P X Y Z S k)) (P.length+k) (P.length+n+Y.length+k)=aK (pc P X Y Z S (k+1)):=by
 have hX:X.drop k=X[k]'mOm::X.drop (k+1):=cL mOm;have hZ:Z.drop k=Z[k]'mOm::Z.drop (k+1):=cL mOm;have tX:X.take (k+1)=X.take k++[X[k]'mOm]:=by rw[aR,ai mOm];rfl
 have tZ:Z.take (k+1)=Z.take k++[Z[k]'mOm]:=by rw[aR,ai mOm];rfl
 have h:=KX (P++Z.take k) (X.drop (k+1)++(Y++X.take k)) (Z.drop (k+1)++S) (X[k]'mOm) (Z[k]'mOm);have l1:(P++Z.take k).length=P.length+k:=by simp;omega
 have l2:(P++Z.take k).length+1+(X.drop (k+1)++(Y++X.take k)).length=P.length+n+Y.length+k:=by simp;omega
 rw[l2,l1] at h;have e1:pc P X Y Z S k=P++Z.take k++X[k]'mOm::(X.drop (k+1)++(Y++X.take k)++Z[k]'mOm::(Z.drop (k+1)++S)):=by unfold pc;rw[hX,hZ];simp only[bZ,eY]
 have e2:pc P X Y Z S (k+1)=P++Z.take k++Z[k]'mOm::(X.drop (k+1)++(Y++X.take k)++X[k]'mOm::(Z.drop (k+1)++S)):=by unfold pc;rw[tX,tZ];simp only[bZ,eY,List.nil_append]
 rw[e1,e2];exact h
def Srt(lt:α->α->Bool)(l:List α):Prop:=l.Pairwise fun a b=>lt b a=false
variable {lt:α->α->Bool}
theorem srt_app{A B:List α}:Srt lt (A++B)↔Srt lt A/\Srt lt B/\∀a∈A,∀b∈B,lt b a=false:=List.pairwise_append
theorem CW(h:SWO lt){x y:α}(hx:lt x y=true):lt y x=false:=by
 cases hy:lt y x with
 | false=>rfl
 | true=>have:=h.trans x y x hx hy;rw[h.irrefl] at this;cases this
theorem NF(h:SWO lt){A1 A2 B1 B2 C1 C2:List α}(hA:Srt lt (A1++A2))(hB:Srt lt (B1++B2))(h1:∀x∈A1,∀y∈B2,lt y x=false)(h2:∀y∈B1,∀x∈A2,lt y x=true)
  (p1:C1.Perm (A1++B1)) (s1:Srt lt C1) (p2:C2.Perm (A2++B2)) (s2:Srt lt C2):(C1++C2).Perm ((A1++A2)++(B1++B2))/\Srt lt (C1++C2):=by
 obtain⟨_,_,a12⟩:=srt_app.1 hA;obtain⟨_,_,b12⟩:=srt_app.1 hB;constructor
 .refine(p1.append p2).trans ?_;have:(A1++B1++(A2++B2)).Perm (A1++A2++(B1++B2)):=by
   rw[bZ,bZ,<-bZ B1,<-bZ A2];exact(List.perm_append_comm.append_right B2).append_left A1
  exact this
 .refine srt_app.2 ⟨s1,s2,fun c hc e he=>?_⟩;rcases bI.1 (p1.mem_iff.1 hc) with hc|hc <;> rcases bI.1 (p2.mem_iff.1 he) with he|he
  .exact a12 c hc e he
  .exact h1 c hc e he
  .exact CW h (h2 c hc e he)
  .exact b12 c hc e he
theorem NX(h:SWO lt){x:α}{B1 B2:List α}(hB:Srt lt (B1++B2))(h1:∀y∈B1,lt y x=true)(h2:∀y∈B2,lt y x=false):Srt lt (B1++x::B2):=by
 obtain⟨s1,s2,b⟩:=srt_app.1 hB;refine srt_app.2 ⟨s1,eP.2 ⟨h2,s2⟩,fun y hy z hz=>?_⟩;rcases bM.1 hz with rfl|hz
 .exact CW h (h1 y hy)
 .exact b y hy z hz
theorem NO(h:SWO lt){y:α}{A1 A2:List α}(hA:Srt lt (A1++A2))(h1:∀x∈A1,lt y x=false)(h2:∀x∈A2,lt y x=true):Srt lt (A1++y::A2):=by
 obtain⟨s1,s2,b⟩:=srt_app.1 hA;refine srt_app.2 ⟨s1,eP.2 ⟨fun x hx=>CW h (h2 x hx),s2⟩,fun x hx z hz=>?_⟩;rcases bM.1 hz with rfl|hz
 .exact h1 x hx
 .exact b x hx z hz
theorem NZ{l:List α}(hs:Srt lt l){i j:Nat}(hij:i<=j)(hj:j<l.length)(h:SWO lt):lt l[j] (l[i]'mOm)=false:=by
 rcases Nat.lt_or_eq_of_le hij with hl|rfl
 .exact(List.pairwise_iff_getElem.1 hs) i j mOm hj hl
 .exact h.irrefl _
theorem N8(h:SWO lt){x y z:α}(hxy:lt x y=true)(hyz:lt z y=false):lt x z=true:=by
 cases hxz:lt x z with
 | true=>rfl
 | false=>have:=h.ntrans x z y hxz hyz;rw[hxy] at this;cases this
theorem N5(h:SWO lt){x y z:α}(hxy:lt y x=false)(hyz:lt y z=true):lt x z=true:=by
 cases hxz:lt x z with
 | true=>rfl
 | false=>have:=h.ntrans y x z hxy hxz;rw[hyz] at this;cases this
