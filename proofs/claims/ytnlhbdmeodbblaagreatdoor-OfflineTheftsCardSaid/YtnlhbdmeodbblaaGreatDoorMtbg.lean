/- Lemmas. -/
import Derived.Test.YtnlhbdmeodbblaaGreatDoorMtas
import Derived.Test.YtnlhbdmeodbblaaGreatDoorMtbc
set_option maxRecDepth 100000
set_option maxHeartbeats 16000000
set_option linter.all false
open List renaming getElem?_eq_some_iff->aA,getElem?_map->en,length_take->aI
open Option renaming some->Og,none->Oh
namespace Go.Proofs.YtnlhbdmeodbblaaGreatDoor
section
open Go Go.Proofs Go.RowKit Go.Sort Go.Lib
theorem uv(r:bH):∀(k:Nat)(p:Option aC)(l:List aC),dE r p l=0->dE r p (l.take k)=0
 | 0,_,_,_=>rfl
 | _+1,_,[],_=>rfl
 | k+1,p,y::l,h=>by
  unfold dE at h;by_cases hy:eF r p y=0
  .rw[if_neg (fun hn=>hn hy)] at h;rw[List.take_succ_cons];unfold dE;rw[if_neg (fun hn=>hn hy)];exact uv r k (Og y) l h
  .rw[if_pos hy] at h;exact absurd h hy
theorem ph{r:bH}{l:List aC}(h:cK r l=0)(k:Nat):cK r (l.take k)=0:=by
 unfold cK at h |-;by_cases h1:et r=0
 .rw[if_neg (fun hn=>hn h1)] at h |-;by_cases h2:200<l.length
  .rw[if_pos h2] at h;cases h
  .rw[if_neg h2] at h;rw[if_neg (by rw[aI];omega)];exact uv r k Oh l h
 .rw[if_pos h1] at h;exact absurd h h1
theorem sP{l:List aC}{s:Int}(h:∀x∈l,x.school=s):dO l s=l:=by unfold dO;rw[List.filter_eq_self];intro x hx;rw[h x hx,beq_self_eq_true]
theorem ut(r:bH):∀(p:Option aC)(l:List aC),dE r p l=0->l.Pairwise (fun a b=>a.day<b.day)/\∀q,p=Og q->∀x∈l,q.day<x.day
 | _,[],_=>⟨List.Pairwise.nil,fun _ _ _ hx=>by cases hx⟩
 | p,y::l,h=>by
  unfold dE at h;by_cases hy:eF r p y=0
  .rw[if_neg (fun hn=>hn hy)] at h;have ih:=ut r (Og y) l h;refine⟨List.pairwise_cons.2 ⟨ih.2 y rfl,ih.1⟩,fun q hq x hx=>?_⟩;have hqy:q.day<y.day:=by
    subst hq;unfold eF at hy
    split at hy;· cases hy
    split at hy;· cases hy
    split at hy;· cases hy
    split at hy
    .cases hy
    .rename_i hl
     have hl:¬(y.size<q.size\/y.day<=q.day):=hl
     omega
   rcases List.mem_cons.1 hx with rfl|hx
   .exact hqy
   .have:=ih.2 y rfl x hx;omega
  .rw[if_pos hy] at h;exact absurd h hy
def kG(e:bG)(day:Int):Int:=if e.stolen=0\/day<e.stolen then day else e.stolen
def fM(e:bG)(day:Int):bG:={ e with stolen:=kG e day }
def dr(r:bH)(j:Nat)(e:bG)(day:Int):bH:=⟨r.school,r.keys.set j (fM e day)⟩
theorem Gn{l:List bG}{j:Nat}{e k:bG}(hj:l[j]? = Og e)(hid:k.id=e.id)(id:Int):cw (l.set j k) id=cw l id:=by
 have:∀l:List bG,cw l id=(l.map bG.id).findIdx (· == id):=fun l=>by
  unfold cw;rw[List.findIdx_map];rfl
 rw[this,this]
 congr 1
 obtain⟨hlt,hje⟩:=aA.1 hj
 refine List.ext_getElem? fun i=>?_
 rw[en,en,List.getElem?_set];by_cases hij:j=i
 .subst hij;rw[if_pos rfl,if_pos hlt,hj]
  show Og k.id=Og e.id
  rw[hid]
 .rw[if_neg hij]
theorem Dn{r:bH}{j:Nat}{e:bG}{day:Int}(hj:r.keys[j]? = Og e)(id:Int):(dr r j e day).keys[cw (dr r j e day).keys id]? = if cw r.keys id=j then Og (fM e day) else r.keys[cw r.keys id]?:=by
 have hlt:=(aA.1 hj).1;unfold dr;simp only;rw[Gn hj mRf,List.getElem?_set];by_cases h:j=cw r.keys id
 .rw[if_pos h,if_pos mOm,if_pos h.symm]
 .rw[if_neg h,if_neg (fun e=>h e.symm)]
theorem zL{r:bH}{j:Nat}{e:bG}{day:Int}(hj:r.keys[j]? = Og e)(hd:1<=day)(id:Int)(t mark:ByteArray)(d seen:Int)(hs:seen<day):eu (dr r j e day) id t mark d seen=eu r id t mark d seen:=by
 unfold eu;rw[Dn hj];by_cases h:cw r.keys id=j
 .rw[if_pos h,h,hj];have hc:((fM e day).stolen≠0/\(fM e day).stolen<=seen)↔(e.stolen≠0/\e.stolen<=seen):=by
   show(kG e day≠0/\kG e day<=seen)↔_
   unfold kG
   split <;> omega
  show(if d<e.fro then (23:Int) else if e.secret.size=0\/mark≠nS e r.school id t then 11 else if (fM e day).stolen≠0/\(fM e day).stolen<=seen then 11 else 0)=_
  by_cases hcc:e.stolen≠0/\e.stolen<=seen
  .rw[if_pos (hc.2 hcc)]
   show _=(if d<e.fro then (23:Int) else if e.secret.size=0\/mark≠nS e r.school id t then 11 else if e.stolen≠0/\e.stolen<=seen then 11 else 0)
   rw[if_pos hcc]
  .rw[if_neg (fun x=>hcc (hc.1 x))]
   show _=(if d<e.fro then (23:Int) else if e.secret.size=0\/mark≠nS e r.school id t then 11 else if e.stolen≠0/\e.stolen<=seen then 11 else 0)
   rw[if_neg hcc]
 .rw[if_neg h];rfl
theorem zM{r:bH}{j:Nat}{e:bG}{day:Int}(hj:r.keys[j]? = Og e)(hd:1<=day)(id:Int)(t mark:ByteArray)(d seen:Int)(h0:eu (dr r j e day) id t mark d seen=0):eu r id t mark d seen=0/\(day<=seen->cw r.keys id≠j):=by
 unfold eu at h0 |-;rw[Dn hj] at h0;by_cases h:cw r.keys id=j
 .rw[if_pos h] at h0;have h0:(if d<e.fro then (23:Int) else if e.secret.size=0\/mark≠nS e r.school id t then 11 else if (fM e day).stolen≠0/\(fM e day).stolen<=seen then 11 else 0)=0:=h0;rw[h,hj]
  show(if d<e.fro then (23:Int) else if e.secret.size=0\/mark≠nS e r.school id t then 11 else if e.stolen≠0/\e.stolen<=seen then 11 else 0)=0/\_
  by_cases c1:d<e.fro
  .rw[if_pos c1] at h0;cases h0
  .rw[if_neg c1] at h0 |-;by_cases c2:e.secret.size=0\/mark≠nS e r.school id t
   .rw[if_pos c2] at h0;cases h0
   .rw[if_neg c2] at h0 |-;by_cases c3:(fM e day).stolen≠0/\(fM e day).stolen<=seen
    .rw[if_pos c3] at h0;cases h0
    .have c3:¬(kG e day≠0/\kG e day<=seen):=c3;unfold kG at c3;refine⟨if_neg ?_,?_⟩
     .split at c3 <;> omega
     .intro hds;exfalso
      split at c3 <;> omega
 .rw[if_neg h] at h0;exact⟨h0,fun _=>h⟩
theorem CS{a b:Int}{e:bG}{day:Int}(h:eV a b e=0)(h1:1<=day)(h2:day<=100000)(h3:e.fro<=day):eV a b (fM e day)=0:=by
 unfold eV at h |-
 split at h;· cases h
 rename_i c1
 split at h;· cases h
 rename_i c2
 split at h;· cases h
 rename_i c3
 split at h;· cases h
 rename_i c4
 have e1:(fM e day).id=e.id:=rfl
 have e2:(fM e day).secret=e.secret:=rfl;have e3:(fM e day).fro=e.fro:=rfl;have e4:(fM e day).stolen=kG e day:=rfl;rw[e1,e2,e3,e4,if_neg c1,if_neg c2,if_neg,if_neg c4];unfold kG;rw[not_or,not_or] at c3 |-;refine⟨c3.1,?_,?_⟩
 .have:=c3.2.1
  split
  .rw[between_iff.2 ⟨mOm,h2⟩];decide
  .exact this
 .have:=c3.2.2
  split <;> omega
theorem un{e:bG}{day:Int}(h1:1<=day)(h2:day<=100000)(h3:e.fro<=day):∀(l:List bG)(j:Nat)(a b:Int),l[j]? = Og e->dZ a b l=0->dZ a b (l.set j (fM e day))=0
 | [],_,_,_,h,_=>by simp at h
 | k::l,0,a,b,h,h0=>by
  obtain rfl:k=e:=by simpa using h
  unfold dZ at h0;by_cases hk:eV a b k=0
  .rw[if_neg (fun hn=>hn hk)] at h0
   show dZ a b (fM k day::l)=0
   unfold dZ
   rw[if_neg (fun hn=>hn (CS hk h1 h2 h3))];exact h0
  .rw[if_pos hk] at h0;exact absurd h0 hk
 | k::l,j+1,a,b,h,h0=>by
  unfold dZ at h0;by_cases hk:eV a b k=0
  .rw[if_neg (fun hn=>hn hk)] at h0
   show dZ a b (k::l.set j (fM e day))=0
   unfold dZ
   rw[if_neg (fun hn=>hn hk)];exact un h1 h2 h3 l j _ _ (by simpa using h) h0
  .rw[if_pos hk] at h0;exact absurd h0 hk
theorem BU{r:bH}{j:Nat}{e:bG}{day:Int}(hj:r.keys[j]? = Og e)(h1:1<=day)(h2:day<=100000)(h3:e.fro<=day)(h:et r=0):et (dr r j e day)=0:=by
 unfold et at h |-
 split at h;· cases h
 rename_i c1
 split at h;· cases h
 rename_i c2
 rw[if_neg (show ¬au (dr r j e day).school 1 8=false from c1),if_neg (show ¬20<(dr r j e day).keys.length by show ¬20<(r.keys.set j _).length;rw[List.length_set];exact c2)]
 exact un h1 h2 h3 _ _ _ _ hj h
theorem tm{r:bH}{j:Nat}{e:bG}{day:Int}(hj:r.keys[j]? = Og e)(hd:1<=day):∀(p:Option aC)(l:List aC),(∀x∈l,x.day<day)->dE (dr r j e day) p l=dE r p l
 | _,[],_=>rfl
 | p,x::l,h=>by
  have hx:eF (dr r j e day) p x=eF r p x:=by unfold eF;rw[zL hj hd _ _ _ _ _ (h x (List.mem_cons_self ..))];rfl
  unfold dE
  rw[hx,tm hj hd (Og x) l (fun y hy=>h y (List.mem_cons_of_mem _ hy))]
theorem At{r:bH}{j:Nat}{e:bG}{day:Int}(hj:r.keys[j]? = Og e)(h1:1<=day)(h2:day<=100000)(h3:e.fro<=day){l:List aC}(hl:∀x∈l,x.day<day)(h:cK r l=0):cK (dr r j e day) l=0:=by
 have hre:=oI h;have hri:=zA h;unfold cK at h |-;rw[if_neg (fun hn=>hn hri)] at h;rw[if_neg (fun hn=>hn (BU hj h1 h2 h3 hri))];by_cases h4:200<l.length
 .rw[if_pos h4] at h;cases h
 .rw[if_neg h4,tm hj h1 Oh l hl];exact hre
theorem Hn{r:bH}{l:List aC}{k:Nat}{rt:aC}(h:dE r Oh (l.take (k+1))=0)(hk:l[k]? = Og rt):∀x∈l.take (k+1),x.day<=rt.day:=by
 have hp:=(ut r Oh _ h).1;have hlt:=(aA.1 hk).1;intro x hx;obtain⟨i,hi,rfl⟩:=List.getElem_of_mem hx;rw[aI] at hi;have e:(l.take (k+1))[k]'(by rw[aI];omega)=rt:=by have:=List.getElem?_take_of_lt (l:=l) (i:=k) (j:=k+1) mOm;rw[hk,List.getElem?_eq_getElem (by rw[aI];omega)] at this;exact Option.some.inj this
 by_cases hik:i=k
 .subst hik;rw[e];omega
 .have:=List.pairwise_iff_getElem.1 hp i k (by rw[aI];omega) (by rw[aI];omega) mOm;rw[e] at this;omega
