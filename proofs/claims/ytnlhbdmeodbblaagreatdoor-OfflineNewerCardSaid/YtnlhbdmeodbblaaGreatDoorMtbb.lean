/- Lemmas. -/
import Derived.Test.YtnlhbdmeodbblaaGreatDoorMtaw
set_option maxRecDepth 100000
set_option maxHeartbeats 16000000
set_option linter.all false
open Bool renaming and_eq_true->aX
open List renaming drop_drop->jP,filter_append->dV,filter_cons_of_neg->de,filter_cons_of_pos->dG,getElem?_drop->el,getElem?_eq_getElem->ai,getElem?_eq_some_iff->aA,getElem_mem->bA,getElem_of_mem->ik,length_drop->bD,length_reverse->fF,length_take->aI,mem_cons->bM,mem_take_iff_getElem->gF,nil_append->dI,pairwise_iff_getElem->fj,take_append_drop->cP
open Option renaming some->Og
namespace Go.Proofs.YtnlhbdmeodbblaaGreatDoor
section
open Go Go.Proofs Go.RowKit Go.Sort Go.Lib
def mE(out:List ByteArray)(x:ByteArray):Nat:=out.length-(out.reverse.takeWhile fun y=>decide (cC x y<0)).length
def iW(out:List ByteArray)(x:ByteArray):List ByteArray:=out.take (mE out x)++x::out.drop (mE out x)
def kT(l:List ByteArray):List ByteArray:=l.foldl iW []
theorem Ng{α:Type}(p:α->Bool)(l:List α)(k:Nat)(h:∀x∈l.take k,p x=true)(hk:∀x,l[k]? = Og x->p x=false)(hkl:k<=l.length):(l.takeWhile p).length=k:=by
 rcases Nat.lt_trichotomy (l.takeWhile p).length k with hlt|e|hgt
 .have hge:=ai (show(l.takeWhile p).length<l.length by omega);have h1:=ug hge;have h2:=h _ (gF.2 ⟨(l.takeWhile p).length,mOm,rfl⟩);rw[h1] at h2;cases h2
 .exact e
 .have hle:(l.takeWhile p).length<=l.length:=List.Sublist.length_le (List.takeWhile_sublist _);have hge:=ai (show k<l.length by omega);have h1:=uh hgt hge;rw[hk _ hge] at h1;cases h1
theorem J4{out:List ByteArray}{x:ByteArray}{at_:Nat}(hat:at_<=out.length)(h:∀y∈out.drop at_,cC x y<0)(h0:∀y,0<at_->out[at_-1]? = Og y->¬cC x y<0):mE out x=at_:=by
 unfold mE;rw[Ng _ out.reverse (out.length-at_) (fun y hy=>?_) (fun y hy=>?_) (by rw[fF];omega)]
 .omega
 .rw[List.take_reverse,show out.length-(out.length-at_)=at_ by omega] at hy;exact decide_eq_true (h y (List.mem_reverse.1 hy))
 .have hlt:=(aA.1 hy).1;rw[fF] at hlt;rw[List.getElem?_reverse mOm] at hy;exact decide_eq_false (h0 y mOm (by rw[<-hy];congr 1;omega))
theorem tN(out:List ByteArray)(x:ByteArray):(iW out x).length=out.length+1:=by
 unfold iW;have:mE out x<=out.length:=by unfold mE;omega
 rw[List.length_append,List.length_cons,aI,bD];omega
theorem Im(out:List ByteArray)(x:ByteArray):(iW out x).Perm (x::out):=by unfold iW;refine(List.perm_middle).trans ?_;rw[cP]
theorem re:∀(l out:List ByteArray),(l.foldl iW out).Perm (out++l)
 | [],out=>by simp
 | x::l,out=>by
  refine(re l (iW out x)).trans ?_;refine((Im out x).append_right l).trans ?_;exact(List.perm_middle (l₁:=out) (l₂:=l) (a:=x)).symm
theorem iZ(l:List ByteArray):(kT l).Perm l:=by have:=re l [];rw[dI] at this;exact this
theorem mW(l:List ByteArray):(kT l).length=l.length:=(iZ l).length_eq
def leP(a b:ByteArray):Prop:=¬cC b a<0
theorem Ip{a b c:ByteArray}(h:leP a b)(h2:leP b c):leP a c:=fun e=>by
 by_cases hab:cC a b<0
 .exact h2 (nH e hab)
 .by_cases e2:a=b
  .subst e2;exact h2 e
  .exact h (yQ hab e2)
theorem J3(out:List ByteArray)(x:ByteArray):mE out x<=out.length/\(∀y∈out.drop (mE out x),cC x y<0)/\∀y,0<mE out x->out[mE out x-1]? = Og y->¬cC x y<0:=by
 obtain⟨k,hk⟩:∃k,k=(out.reverse.takeWhile fun y=>decide (cC x y<0)).length:=⟨_,rfl⟩;have hkl:k<=out.length:=by have e:out.length=out.reverse.length:=List.length_reverse.symm;rw[hk,e];exact List.Sublist.length_le (List.takeWhile_sublist _)
 unfold mE
 rw[<-hk];refine⟨mOm,fun y hy=>?_,fun y h0 hy=>?_⟩
 .obtain⟨j,hj,rfl⟩:=ik hy;rw[bD] at hj;have hge:out.reverse[k-1-j]? = Og (out.drop (out.length-k))[j]:=by
   rw[List.getElem?_reverse mOm,show out.length-1-(k-1-j)=out.length-k+j by omega,<-el,ai]
  exact of_decide_eq_true (uh (p:=fun y=>decide (cC x y<0)) (l:=out.reverse) (k:=k-1-j) mOm hge)
 .have hge:out.reverse[k]? = Og y:=by rw[List.getElem?_reverse mOm,<-hy];congr 1;omega
  rw[hk] at hge;exact of_decide_eq_false (ug (p:=fun y=>decide (cC x y<0)) hge)
theorem DT{out:List ByteArray}(x:ByteArray)(h:out.Pairwise leP):(iW out x).Pairwise leP:=by
 obtain⟨h1,h2,h3⟩:=J3 out x;unfold iW;generalize mE out x=k at h1 h2 h3;have hp:=h;rw[<-cP k out,List.pairwise_append] at hp;rw[List.pairwise_append];refine⟨hp.1,List.pairwise_cons.2 ⟨fun y hy e=>Fp (h2 y hy) e,hp.2.1⟩,fun a ha b hb=>?_⟩;have hax:leP a x:=by
  have hk0:0<k:=by
   cases k with
   | zero=>simp at ha
   | succ k=>omega
  have hge:=ai (show k-1<out.length by omega)
  have h4:leP out[k-1] x:=h3 _ hk0 hge;obtain⟨j,hj,hj2⟩:=gF.1 ha;by_cases e:j=k-1
  .subst e;rw[<-hj2];exact h4
  .have h5:=fj.1 h j (k-1) mOm mOm mOm;rw[hj2] at h5;exact Ip h5 h4
 rcases bM.1 hb with rfl|hb
 .exact hax
 .exact hp.2.2 a ha b hb
theorem Dl(l:List ByteArray):(kT l).Pairwise leP:=by
 have:∀(l out:List ByteArray),out.Pairwise leP->(l.foldl iW out).Pairwise leP:=fun l=>by
  induction l with
  | nil=>exact fun _ h=>h
  | cons x l ih=>exact fun out h=>ih _ (DT x h)
 exact this l [] List.Pairwise.nil
theorem zI{l:List ByteArray}(h:l.Pairwise leP)(hn:l.Nodup):fq l:=by
 intro i a b ha hb;obtain⟨hi,rfl⟩:=aA.1 ha;obtain⟨hj,rfl⟩:=aA.1 hb;have h1:=fj.1 h i (i+1) hi hj mOm;have h2:=fj.1 hn i (i+1) hi hj mOm;by_cases hc:cC l[i] l[i+1]<0
 .exact hc
 .exact absurd (yQ hc h2) h1
theorem ri{l:List ByteArray}(h:fq l):l.Nodup:=by rw[List.Nodup,fj];intro i j hi hj hij e;have:=uf h hij (ai hi) (ai hj);rw[e] at this;exact sL this
def eH(e:Ent):ByteArray:=⟨(fW e).toArray⟩
def fD(l:List Ent):Prop:=(∀e∈l,dQ e=0)/\fq (kT (l.map eH))
def cH(l:List Ent):List ByteArray:=l.map dD
def bQ(l:List Ent):List ByteArray:=kT (cH l)
def jV(l:List Ent):ByteArray:=lM (gQ (cH l)) (gQ (bQ l))
def fL(e:Ent):bT:=⟨eH e,⟨(oE e.code).toArray⟩,⟨e.code.toArray⟩⟩
def inQ(st fi la:Int)(e:Ent):Bool:=decide (e.student=st)&&decide (fi<=e.on)&&decide (e.on<=la)
def fV(l:List Ent)(all:List ByteArray)(st fi la:Int):List bT:=all.flatMap fun a=>(l.filter fun e=>decide (dD e=a)&&inQ st fi la e).map fL
theorem nK{l:List Ent}(h:fD l):fq (bQ l)/\(cH l).Nodup:=by
 have hk:(l.map eH).Nodup:=(iZ _).nodup_iff.1 (ri h.2);have hn:(cH l).Nodup:=by
  unfold cH;rw[List.Nodup,List.pairwise_map];rw[List.Nodup,List.pairwise_map] at hk;refine List.Pairwise.imp_of_mem (fun {a b} ha hb hab e=>hab ?_) hk;have h1:=h.1 a ha;have h2:=h.1 b hb;unfold eH fW;rw[if_pos h1,if_pos h2,Ke h1 h2 e]
 exact⟨zI (Dl _) ((iZ _).nodup_iff.2 hn),hn⟩
theorem Ko{l:List Ent}(hn:(cH l).Nodup){e:Ent}(he:e∈l)(p:Ent->Bool):(l.filter fun x=>decide (dD x=dD e)&&p x)=if p e=true then [e] else []:=by
 induction l with
 | nil=>cases he
 | cons x l ih =>
  unfold cH at hn;rw[List.map_cons,List.nodup_cons] at hn;rcases bM.1 he with rfl|he
  .have h0:(l.filter fun x=>decide (dD x=dD e)&&p x)=[]:=by
    rw[List.filter_eq_nil_iff];intro y hy e2;rw[aX,decide_eq_true_eq] at e2;exact hn.1 (e2.1 ▸ List.mem_map_of_mem hy)
   by_cases hp:p e=true
   .rw[dG (by rw[decide_eq_true rfl,hp];rfl),h0,if_pos hp]
   .rw[de (by rw[decide_eq_true rfl];simpa using hp),h0,if_neg hp]
  .have hne:dD x≠dD e:=fun e2=>hn.1 (e2 ▸ List.mem_map_of_mem he)
   rw[de (by rw[decide_eq_false hne];simp)];exact ih hn.2 he
theorem Ep{l:List Ent}(h:fD l){st fi la:Int}(hr:ep st fi la):dU (fV l (bQ l) st fi la)=(bQ l).filter (inB (loB st fi) (hiB st la)):=by
 have hn:=(nK h).2
 have:∀(all:List ByteArray),(∀a∈all,a∈cH l)->dU (fV l all st fi la)=all.filter (inB (loB st fi) (hiB st la)):=fun all=>by
  induction all with
  | nil=>exact fun _=>rfl
  | cons a all ih =>
   intro hm;obtain⟨e,he,rfl⟩:=List.mem_map.1 (hm a (List.mem_cons_self ..));have ih:=ih (fun b hb=>hm b (List.mem_cons_of_mem _ hb));have hin:=LQ (h.1 e he) hr;have hq:inQ st fi la e=inB (loB st fi) (hiB st la) (dD e):=by rw[Bool.eq_iff_iff,hin];unfold inQ;rw[aX,aX,decide_eq_true_eq,decide_eq_true_eq,decide_eq_true_eq,and_assoc]
   unfold fV at ih |-
   rw[List.flatMap_cons];unfold dU at ih |-;rw[List.map_append,ih,Ko hn he];by_cases hp:inQ st fi la e=true
   .rw[if_pos hp,dG (by rw[<-hq];exact hp)];have e1:(fL e).key++⟨#[32]⟩++(fL e).hash=dD e:=by
     refine dL ?_;rw[iv,iv];unfold fL eH dD;simp
    show[(fL e).key++⟨#[32]⟩++(fL e).hash]++_=_
    rw[e1];rfl
   .rw[if_neg hp,de (by rw[<-hq];exact hp)];rfl
 exact this _ (fun a ha=>(iZ _).mem_iff.1 ha)
theorem JW{l:List ByteArray}(hs:fq l){lo hi:ByteArray}(h:cC lo hi<0):eL l lo<=eL l hi:=by
 refine Nat.le_of_not_lt fun hlt=>?_
 have h1:=jE l lo;have hge:=ai (show eL l hi<l.length by omega);have h2:=(kI hs (s:=lo) hge).1 hlt;have h3:=(kI hs (s:=hi) hge).2 (nH h2 h);omega
theorem qp{p q:Prop}(h:q) (f:Wq q->p:=by
 intro hq;have hab:=JW hs h;have hf2:=jE l hi;have a1:∀k x,l[k]? = Og x->(k<eL l lo↔cC x lo<0):=fun k x hx=>kI hs hx
 have a2:∀k x,l[k]? = Og x->(k<eL l hi↔cC x hi<0):=fun k x hx=>kI hs hx
 revert hab hf2 a1 a2
 exact hq.1):p:=f ⟨h⟩
theorem F9{l:List ByteArray}(hs:fq l){lo hi:ByteArray}(h:cC lo hi<0):l.filter (inB lo hi)=(l.drop (eL l lo)).take (eL l hi-eL l lo):=by
 refine qp ?_;intro hab hf2 a1 a2;generalize eL l lo=a at *;generalize eL l hi=b at *;have e1:l=l.take a++((l.drop a).take (b-a)++l.drop b):=by
  have h1:l.drop b=(l.drop a).drop (b-a):=by rw[jP];congr 1;omega
  rw[h1,cP,cP]
 have e2:(l.take a).filter (inB lo hi)=[]:=by rw[List.filter_eq_nil_iff];intro x hx;obtain⟨k,hk,hk2⟩:=gF.1 hx;have:=(a1 k x (by rw[ai mOm,hk2])).1 mOm;unfold inB;rw[decide_eq_true this];simp
 have e3:(l.drop b).filter (inB lo hi)=[]:=by
  rw[List.filter_eq_nil_iff];intro x hx;obtain⟨k,hk,hk2⟩:=ik hx;rw[bD] at hk;have hge:l[b+k]? = Og x:=by rw[<-el,ai (by rw[bD];omega),hk2]
  have:¬cC x hi<0:=fun h=>by
   have:=(a2 _ x hge).2 h;omega
  unfold inB
  rw[decide_eq_false this];simp
 have e4:((l.drop a).take (b-a)).filter (inB lo hi)=(l.drop a).take (b-a):=by
  rw[List.filter_eq_self];intro x hx;obtain⟨k,hk,hk2⟩:=gF.1 hx;rw[bD] at hk;have hge:l[a+k]? = Og x:=by rw[<-el,ai (by rw[bD];omega),hk2]
  have h1:¬cC x lo<0:=fun h=>by
   have:=(a1 _ x hge).2 h;omega
  have h2:=(a2 _ x hge).1 mOm
  unfold inB;rw[decide_eq_false h1,decide_eq_true h2];rfl
 conv=>lhs;rw[e1]
 rw[dV,dV,e2,e3,e4,dI,List.append_nil]
def om(m:List ByteArray)(lo:ByteArray):ByteArray:=match m[0]? with|some x=>if cC x lo<0 then x else ⟨#[]⟩|none=>⟨#[]⟩
def ol(m:List ByteArray)(hi:ByteArray):ByteArray:=match m[m.length-1]? with|some x=>if cC x hi<0 then ⟨#[]⟩ else x|none=>⟨#[]⟩
theorem IB{l:List ByteArray}(hs:fq l)(hz:∀x∈l,0<x.size){lo hi:ByteArray}(h:cC lo hi<0) :
  (if (om (jS l lo hi) lo).size=0 then [] else [om (jS l lo hi) lo])++l.filter (inB lo hi)++(if (ol (jS l lo hi) hi).size=0 then [] else [ol (jS l lo hi) hi])=jS l lo hi:=by
 rw[F9 hs h];refine qp ?_;intro hab hf2 a1 a2;have z0:(⟨#[]⟩:ByteArray).size=0:=rfl;unfold jS eE iB;generalize eL l lo=a at *;generalize eL l hi=b at *;obtain⟨j,hj⟩:∃j,j=min l.length (max a b+1):=⟨_,rfl⟩;rw[<-hj];have hlen:((l.drop (a-1)).take (j-(a-1))).length=j-(a-1):=by rw[aI,bD];omega
 have hat:∀k,k<j-(a-1)->((l.drop (a-1)).take (j-(a-1)))[k]? = l[a-1+k]?:=fun k hk=>by rw[List.getElem?_take_of_lt hk,el]
 have eB:(if (om ((l.drop (a-1)).take (j-(a-1))) lo).size=0 then [] else [om ((l.drop (a-1)).take (j-(a-1))) lo])=(l.drop (a-1)).take (a-(a-1)):=by
  unfold om;by_cases h0:a=0
  .subst h0
   have hc:∀x,((l.drop (0-1)).take (j-(0-1)))[0]? = Og x->¬cC x lo<0:=fun x hx h2=>by
    have hjp:=(aA.1 hx).1;rw[hat 0 mOm] at hx;have:=(a1 _ x hx).2 h2;omega
   cases hx:((l.drop (0-1)).take (j-(0-1)))[0]? with
   | none=>rw[if_pos z0];simp
   | some x=>simp only[if_neg (hc x hx)];rw[if_pos z0];simp
  .have hlt:a-1<l.length:=mOm;have hge:=ai hlt;rw[hat 0 mOm,Nat.add_zero,hge];have hc:=(a1 _ _ hge).1 mOm;have hsz:=hz _ (bA hlt);simp only[if_pos hc];rw[if_neg mOm,show a-(a-1)=1 by omega,List.take_one,List.head?_drop,hge];rfl
 have eA:(if (ol ((l.drop (a-1)).take (j-(a-1))) hi).size=0 then [] else [ol ((l.drop (a-1)).take (j-(a-1))) hi])=(l.drop b).take (j-b):=by
  unfold ol;rw[hlen];by_cases h0:b<l.length
  .have ej:j=b+1:=mOm;have hge:=ai h0;rw[hat (j-(a-1)-1) mOm,show a-1+(j-(a-1)-1)=b by omega,hge];have hc:¬cC l[b] hi<0:=fun h2=>by have:=(a2 _ _ hge).2 h2;omega
   have hsz:=hz _ (bA h0);simp only[if_neg hc];rw[if_neg mOm,show j-b=1 by omega,List.take_one,List.head?_drop,hge];rfl
  .have ej:j=l.length:=mOm
   have hc:∀x,((l.drop (a-1)).take (j-(a-1)))[j-(a-1)-1]? = Og x->cC x hi<0:=fun x hx=>by
    have hjp:=(aA.1 hx).1;rw[hlen] at hjp;rw[hat _ hjp] at hx;exact(a2 _ x hx).1 mOm
   rw[show j-b=0 by omega,List.take_zero]
   cases hx:((l.drop (a-1)).take (j-(a-1)))[j-(a-1)-1]? with
   | none=>simp only;rw[if_pos z0]
   | some x=>simp only[if_pos (hc x hx)];rw[if_pos z0]
 rw[eB,eA]
 have e5:(l.drop a).take (b-a)++(l.drop b).take (j-b)=(l.drop a).take (j-a):=by
  have h1:l.drop b=(l.drop a).drop (b-a):=by rw[jP];congr 1;omega
  rw[h1,<-List.take_add];congr 1;omega
 have e6:(l.drop (a-1)).take (a-(a-1))++(l.drop a).take (j-a)=(l.drop (a-1)).take (j-(a-1)):=by
  have h1:l.drop a=(l.drop (a-1)).drop (a-(a-1)):=by rw[jP];congr 1;omega
  rw[h1,<-List.take_add];congr 1;omega
 rw[List.append_assoc,e5,e6]
