/- Lemmas. -/
import Derived.Test.YtnlhbdmeodbblaaGreatDoorMtay
import Derived.Test.YtnlhbdmeodbblaaGreatDoorMtbc
set_option maxRecDepth 100000
set_option maxHeartbeats 16000000
set_option linter.all false
open Bool renaming and_eq_true->aX
open List renaming any_eq_true->iK,cons_append->eY,filter_cons_of_neg->de,filter_cons_of_pos->dG,mem_append->bI,mem_cons->bM,mem_cons_of_mem->dj,mem_cons_self->cM,mem_filter->lG,pairwise_cons->eP
namespace Go.Proofs.YtnlhbdmeodbblaaGreatDoor
section
open Go Go.Proofs Go.RowKit Go.Sort Go.Lib
def dz(x b:BrtE):Bool:=decide (b.fro<x.fro)||(x.fro==b.fro&&decide (b.student<x.student))
def eI(l:List BrtE)(b:BrtE):Int:=
 if au b.fro 1 8=false\/au b.student 1 999999=false\/b.root<0 then 1
 else if l.any (fun x=>fh x b&&decide (b.root<x.root))=true then 7 else 0
def mp(l:List BrtE)(b:BrtE):List BrtE:=l.filter fun x=>!fh x b
def kC(l:List BrtE)(b:BrtE):List BrtE:=(mp l b).takeWhile (fun x=>!dz x b)++b::(mp l b).dropWhile (fun x=>!dz x b)
def nT(a:List BrtE)(b:BrtE):List BrtE:=if eI a b=0 then kC a b else a
theorem same_iff{x b:BrtE}:fh x b=true↔x.fro=b.fro/\x.student=b.student:=by unfold fh;rw[aX,beq_iff_eq,beq_iff_eq]
theorem greater_iff{x b:BrtE}:dz x b=true↔ltK b x:=by
 unfold dz ltK;rw[Bool.or_eq_true,aX,decide_eq_true_eq,decide_eq_true_eq,beq_iff_eq];constructor
 .rintro(h|⟨h,h2⟩)
  .exact .inl h
  .exact .inr ⟨h.symm,h2⟩
 .rintro(h|⟨h,h2⟩)
  .exact .inl h
  .exact .inr ⟨h.symm,h2⟩
theorem Be{a b c:BrtE}(h:ltK a b)(h2:ltK b c):ltK a c:=by unfold ltK at *;omega
theorem tR{a:BrtE}:¬ltK a a:=by unfold ltK;omega
theorem newer_mem{l:List BrtE}{b x:BrtE}:x∈kC l b↔x=b\/(x∈l/\fh x b=false):=by
 have h:x∈mp l b↔x∈l/\fh x b=false:=by unfold mp;rw[lG,Bool.not_eq_true']
 rw[<-h]
 have h2:=List.takeWhile_append_dropWhile (p:=fun x=>!dz x b) (l:=mp l b)
 conv=>rhs;rw[<-h2]
 unfold kC
 rw[bI,bM,bI];constructor
 .rintro(h|h|h)
  .exact .inr (.inl h)
  .exact .inl h
  .exact .inr (.inr h)
 .rintro(h|h|h)
  .exact .inr (.inl h)
  .exact .inl h
  .exact .inr (.inr h)
theorem CZ{l:List BrtE}(hs:l.Pairwise ltK)(b:BrtE):(kC l b).Pairwise ltK:=by
 have hr:(mp l b).Pairwise ltK:=hs.filter _
 have hm:∀x∈mp l b,fh x b=false:=fun x hx=>by
  have:=(lG.1 hx).2
  simpa using this
 unfold kC
 generalize mp l b=r at hr hm
 induction r with
 | nil=>exact List.pairwise_singleton ..
 | cons x r ih =>
  have hr2:=eP.1 hr;have hmx:=hm x (cM ..);by_cases hg:dz x b=true
  .rw[List.takeWhile_cons_of_neg (by rw[hg];decide),List.dropWhile_cons_of_neg (by rw[hg];decide),List.nil_append];refine eP.2 ⟨fun y hy=>?_,hr⟩;have hb:=greater_iff.1 hg;rcases bM.1 hy with rfl|hy
   .exact hb
   .exact Be hb (hr2.1 y hy)
  .have hg2:(!dz x b)=true:=by simpa using hg
   rw[List.takeWhile_cons_of_pos (p:=fun x=>!dz x b) hg2,List.dropWhile_cons_of_pos (p:=fun x=>!dz x b) hg2,eY];refine eP.2 ⟨fun y hy=>?_,ih hr2.2 (fun z hz=>hm z (dj _ hz))⟩;have hxb:ltK x b:=by
    have h1:¬ltK b x:=fun h=>hg (greater_iff.2 h)
    have h2:¬(x.fro=b.fro/\x.student=b.student):=fun h=>by rw[same_iff.2 h] at hmx;cases hmx
    unfold ltK at h1 |-;omega
   rcases bI.1 hy with hy|hy
   .exact hr2.1 y ((List.takeWhile_sublist _).subset hy)
   .rcases bM.1 hy with rfl|hy
    .exact hxb
    .exact hr2.1 y ((List.dropWhile_sublist _).subset hy)
theorem KeptB.nil:KeptB [] []:=⟨List.Pairwise.nil,fun x=>by simp,fun y h=>by cases h⟩
theorem pq{x y:BrtE}(h:fh x y=true):fh y x=true:=by rw[same_iff] at h |-;exact⟨h.1.symm,h.2.symm⟩
theorem sQ{x y z:BrtE}(h:fh x y=true)(h2:fh y z=true):fh x z=true:=by rw[same_iff] at h h2 |-;exact⟨h.1.trans h2.1,h.2.trans h2.2⟩
theorem GO(x:BrtE):fh x x=true:=same_iff.2 ⟨rfl,rfl⟩
theorem KeptB.step{a P:List BrtE}(h:KeptB a P){b:BrtE}(hb:¬(au b.fro 1 8=false\/au b.student 1 999999=false\/b.root<0))(he:∀y∈b::P,∀z∈b::P,fh y z=true->y.root=z.root->y=z):KeptB (nT a b) (b::P):=by
 unfold nT eI;rw[if_neg hb];by_cases hc:a.any (fun x=>fh x b&&decide (b.root<x.root))=true
 .rw[if_pos hc,if_neg mDe];rw[iK] at hc;obtain⟨z,hz,hc⟩:=hc;rw[aX,decide_eq_true_eq] at hc;have hzP:=((h.mem z).1 hz).1;refine⟨h.ord,fun x=>?_,fun y hy=>?_⟩
  .rw[h.mem];constructor
   .rintro⟨h1,h2⟩;refine⟨dj _ h1,fun y hy hyx=>?_⟩;rcases bM.1 hy with rfl|hy
    .have:=h2 z hzP (sQ hc.1 hyx);omega
    .exact h2 y hy hyx
   .rintro⟨h1,h2⟩;rcases bM.1 h1 with rfl|h1
    .have:=h2 z (dj _ hzP) hc.1;omega
    .exact⟨h1,fun y hy=>h2 y (dj _ hy)⟩
  .rcases bM.1 hy with rfl|hy
   .exact⟨z,hz,hc.1,mOm⟩
   .exact h.top y hy
 .rw[if_neg hc,if_pos rfl]
  have hno:∀x∈a,fh x b=true->x.root<=b.root:=fun x hx hs=>by
   refine Int.not_lt.1 fun hlt=>hc ?_
   rw[iK];exact⟨x,hx,by rw[hs,decide_eq_true hlt];rfl⟩
  have hall:∀y∈P,fh y b=true->y.root<=b.root:=fun y hy hs=>by
   obtain⟨x,hx,h1,h2⟩:=h.top y hy;have:=hno x hx (sQ h1 hs);omega
  refine⟨CZ h.ord b,fun x=>?_,fun y hy=>?_⟩
  .rw[newer_mem,h.mem];constructor
   .rintro(rfl|⟨⟨h1,h2⟩,h3⟩)
    .refine⟨cM ..,fun y hy hyx=>?_⟩;rcases bM.1 hy with rfl|hy
     .exact Int.le_refl _
     .exact hall y hy hyx
    .refine⟨dj _ h1,fun y hy hyx=>?_⟩;rcases bM.1 hy with rfl|hy
     .rw[pq hyx] at h3;cases h3
     .exact h2 y hy hyx
   .rintro⟨h1,h2⟩;by_cases hs:fh x b=true
    .refine .inl ?_;have h3:=h2 b (cM ..) (pq hs);rcases bM.1 h1 with rfl|h1
     .rfl
     .exact he x (dj _ h1) b (cM ..) hs (by have:=hall x h1 hs;omega)
    .rcases bM.1 h1 with rfl|h1
     .exact .inl rfl
     .exact .inr ⟨⟨h1,fun y hy=>h2 y (dj _ hy)⟩,by simpa using hs⟩
  .rcases bM.1 hy with rfl|hy
   .exact⟨y,newer_mem.2 (.inl rfl),GO y,Int.le_refl _⟩
   .by_cases hs:fh y b=true
    .exact⟨b,newer_mem.2 (.inl rfl),pq hs,hall y hy hs⟩
    .obtain⟨x,hx,h1,h2⟩:=h.top y hy;refine⟨x,newer_mem.2 (.inr ⟨hx,?_⟩),h1,h2⟩;rw[Bool.eq_false_iff];exact fun hxb=>hs (sQ (pq h1) hxb)
theorem zH:∀{a b:List BrtE},a.Pairwise ltK->b.Pairwise ltK->(∀x,x∈a↔x∈b)->a=b
 | [],[],_,_,_=>rfl
 | [],y::b,_,_,h=>absurd ((h y).2 (cM ..)) mSi
 | x::a,[],_,_,h=>absurd ((h x).1 (cM ..)) mSi
 | x::a,y::b,ha,hb,h=>by
  have ha2:=eP.1 ha;have hb2:=eP.1 hb;have hxy:x=y:=by
   rcases bM.1 ((h x).1 (cM ..)) with e|h1
   .exact e
   .rcases bM.1 ((h y).2 (cM ..)) with e|h2
    .exact e.symm
    .exact absurd (Be (hb2.1 x h1) (ha2.1 y h2)) tR
  subst hxy
  congr 1
  refine zH ha2.2 hb2.2 fun z=>?_
  constructor
  .intro hz;rcases bM.1 ((h z).1 (dj _ hz)) with rfl|h1
   .exact absurd (ha2.1 z hz) tR
   .exact h1
  .intro hz;rcases bM.1 ((h z).2 (dj _ hz)) with rfl|h1
   .exact absurd (hb2.1 z hz) tR
   .exact h1
theorem KeptB.same{a b P Q:List BrtE}(h:KeptB a P)(h2:KeptB b Q)(hm:∀x,x∈P↔x∈Q):a=b:=by
 refine zH h.ord h2.ord fun x=>?_
 rw[h.mem,h2.mem,hm];exact⟨fun hx=>⟨hx.1,fun y hy=>hx.2 y ((hm y).2 hy)⟩,fun hx=>⟨hx.1,fun y hy=>hx.2 y ((hm y).1 hy)⟩⟩
def il(b:BrtE):List BrtE->Bool->List BrtE
 | [],false=>[b]
 | [],true=>[]
 | x::l,p=>if fh x b=true then il b l p else if p=false/\dz x b=true then b::x::il b l true else x::il b l p
theorem vG(b:BrtE):∀l,il b l true=mp l b
 | []=>rfl
 | x::l=>by
  unfold il mp;by_cases h:fh x b=true
  .rw[if_pos h,de (by rw[h];decide)];exact vG b l
  .rw[if_neg h,if_neg (fun e=>by cases e.1),dG (by simpa using h)]
   congr 1;exact vG b l
theorem tY(b:BrtE):∀l,il b l false=kC l b
 | []=>rfl
 | x::l=>by
  unfold il kC mp;by_cases h:fh x b=true
  .rw[if_pos h,de (by rw[h];decide)];exact tY b l
  .rw[if_neg h,dG (by simpa using h)];by_cases hg:dz x b=true
   .rw[if_pos ⟨rfl,hg⟩,List.takeWhile_cons_of_neg (by rw[hg];decide),List.dropWhile_cons_of_neg (by rw[hg];decide),vG];rfl
   .have hg2:(!dz x b)=true:=by simpa using hg
    rw[if_neg (fun e=>hg e.2),List.takeWhile_cons_of_pos (p:=fun x=>!dz x b) hg2,List.dropWhile_cons_of_pos (p:=fun x=>!dz x b) hg2,eY]
    congr 1;exact tY b l
