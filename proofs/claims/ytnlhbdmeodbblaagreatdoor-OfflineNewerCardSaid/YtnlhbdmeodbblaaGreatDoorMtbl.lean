/- Lemmas. -/
import Derived.Shelf.SlSortCmp.KitK
import Derived.Test.YtnlhbdmeodbblaaGreatDoorMtbi
import Derived.Laws.BitsLemmas
set_option maxRecDepth 100000
set_option maxHeartbeats 16000000
set_option linter.all false
open Go.Proofs.Tryz
open Go.Lib renaming cell_of_heap->ae
open List renaming getElem?_append_left->bR,getElem?_append_right->bS,getElem?_eq_getElem->ai,getElem?_eq_none->eh,size_toArray->fa,toArray->aK
open Go.Ending renaming returned->Oe
open Go.IntKind renaming i64->Oa
open Go.Obj renaming cells->Of
open Go.Value renaming int->N9,string->Ob,slice->Oc,pointer->Od
open Option renaming some->Og,none->Oh
namespace Go.Proofs.YtnlhbdmeodbblaaGreatDoor
open Go Go.RowKit Go.Sort Go.Lib
section
abbrev TE:=Ent×Nat
instance:Inhabited Ent:=⟨entZ⟩
def iT(x:TE):List Value:=x.1.cells.toList
def Hb(w w':World):Prop:=∃q os,w'=Go.Sort.grow (w.drewN q) os
def Cj(x y:TE):Int:=Lib.compareInt x.1.id y.1.id
def ltT:TE->TE->Bool:=ltL Ent.id
theorem NY:SWO ltT:=M7
theorem Ln(x y:TE):decide (Cj x y<0)=ltI Ent.id x y:=by
 unfold Cj ltI Lib.compareInt
 split
 .rename_i h;simp[h]
 .rename_i h
  split <;> simp[h]
theorem NS(r:Ent):r.cells.all (·.oneCell')=true:=by simp[Ent.cells,Value.oneCell']
theorem Mm{oi:Oper}(a:Act)(x:Operand)(ho:oi.op=.load 67 x)(w:World)(g o:Nat)(r:Ent)(hr:w.rangeAt g o r.cells.toList)(hx:a.eval x=Od (Og ⟨g,o,Oh⟩)):(execOp a.eval oi).run prog w=.ok (.value r.val) w:=by have hl:(Instr.loadAt 67 (Od (Og ⟨g,o,Oh⟩))).run prog w=.ok r.val w:=run_loadAt_mid w g o 67 r.cells.toList _ hr underlying67 rfl mKr;unfold execOp;simp only[ho,hx,Sem.run_bind,Sem.run_pure,hl,Result.andThen_ok]
attribute [local go_sem] Ent.cells
theorem JD(a b:TE)(w:World):Calls prog 50 #[a.1.val,b.1.val] w fun x w'=>x=Oe (N9 Oa (Cj a b))/\Hb w w':=by
 have g2:Hb w ((w.alloc (Of #[N9 Oa a.1.id,N9 Oa a.1.school,N9 Oa a.1.student,N9 Oa a.1.kind,N9 Oa a.1.day,N9 Oa a.1.on,Ob a.1.course,N9 Oa a.1.credits,N9 Oa a.1.grade,N9 Oa a.1.ref,N9 Oa a.1.fro,N9 Oa a.1.programme,N9 Oa a.1.version,N9 Oa a.1.key,Ob a.1.mark] 67)).alloc (Of #[N9 Oa b.1.id,N9 Oa b.1.school,N9 Oa b.1.student,N9 Oa b.1.kind,N9 Oa b.1.day,N9 Oa b.1.on,Ob b.1.course,N9 Oa b.1.credits,N9 Oa b.1.grade,N9 Oa b.1.ref,N9 Oa b.1.fro,N9 Oa b.1.programme,N9 Oa b.1.version,N9 Oa b.1.key,Ob b.1.mark] 67)):=⟨0,#[Of #[N9 Oa a.1.id,N9 Oa a.1.school,N9 Oa a.1.student,N9 Oa a.1.kind,N9 Oa a.1.day,N9 Oa a.1.on,Ob a.1.course,N9 Oa a.1.credits,N9 Oa a.1.grade,N9 Oa a.1.ref,N9 Oa a.1.fro,N9 Oa a.1.programme,N9 Oa a.1.version,N9 Oa a.1.key,Ob a.1.mark] 67,Of #[N9 Oa b.1.id,N9 Oa b.1.school,N9 Oa b.1.student,N9 Oa b.1.kind,N9 Oa b.1.day,N9 Oa b.1.on,Ob b.1.course,N9 Oa b.1.credits,N9 Oa b.1.grade,N9 Oa b.1.ref,N9 Oa b.1.fro,N9 Oa b.1.programme,N9 Oa b.1.version,N9 Oa b.1.key,Ob b.1.mark] 67],by rw[Go.Sort.alloc_eq_grow,Go.Sort.alloc_eq_grow,Go.Sort.grow_grow];rfl⟩;have h1:=eR (heap_alloc_new w (Of #[N9 Oa a.1.id,N9 Oa a.1.school,N9 Oa a.1.student,N9 Oa a.1.kind,N9 Oa a.1.day,N9 Oa a.1.on,Ob a.1.course,N9 Oa a.1.credits,N9 Oa a.1.grade,N9 Oa a.1.ref,N9 Oa a.1.fro,N9 Oa a.1.programme,N9 Oa a.1.version,N9 Oa a.1.key,Ob a.1.mark] 67)) (Of #[N9 Oa b.1.id,N9 Oa b.1.school,N9 Oa b.1.student,N9 Oa b.1.kind,N9 Oa b.1.day,N9 Oa b.1.on,Ob b.1.course,N9 Oa b.1.credits,N9 Oa b.1.grade,N9 Oa b.1.ref,N9 Oa b.1.fro,N9 Oa b.1.programme,N9 Oa b.1.version,N9 Oa b.1.key,Ob b.1.mark] 67);have h2:=heap_alloc_new (w.alloc (Of #[N9 Oa a.1.id,N9 Oa a.1.school,N9 Oa a.1.student,N9 Oa a.1.kind,N9 Oa a.1.day,N9 Oa a.1.on,Ob a.1.course,N9 Oa a.1.credits,N9 Oa a.1.grade,N9 Oa a.1.ref,N9 Oa a.1.fro,N9 Oa a.1.programme,N9 Oa a.1.version,N9 Oa a.1.key,Ob a.1.mark] 67)) (Of #[N9 Oa b.1.id,N9 Oa b.1.school,N9 Oa b.1.student,N9 Oa b.1.kind,N9 Oa b.1.day,N9 Oa b.1.on,Ob b.1.course,N9 Oa b.1.credits,N9 Oa b.1.grade,N9 Oa b.1.ref,N9 Oa b.1.fro,N9 Oa b.1.programme,N9 Oa b.1.version,N9 Oa b.1.key,Ob b.1.mark] 67);rw[size_alloc] at h2;obtain⟨W,hW⟩:∃u,u=(w.alloc (Of #[N9 Oa a.1.id,N9 Oa a.1.school,N9 Oa a.1.student,N9 Oa a.1.kind,N9 Oa a.1.day,N9 Oa a.1.on,Ob a.1.course,N9 Oa a.1.credits,N9 Oa a.1.grade,N9 Oa a.1.ref,N9 Oa a.1.fro,N9 Oa a.1.programme,N9 Oa a.1.version,N9 Oa a.1.key,Ob a.1.mark] 67)).alloc (Of #[N9 Oa b.1.id,N9 Oa b.1.school,N9 Oa b.1.student,N9 Oa b.1.kind,N9 Oa b.1.day,N9 Oa b.1.on,Ob b.1.course,N9 Oa b.1.credits,N9 Oa b.1.grade,N9 Oa b.1.ref,N9 Oa b.1.fro,N9 Oa b.1.programme,N9 Oa b.1.version,N9 Oa b.1.key,Ob b.1.mark] 67):=⟨_,rfl⟩;rw[<-hW] at g2 h1 h2;have z0:W.cell? ⟨w.heap.size,0,Oh⟩=Og (N9 Oa a.1.id):=ae h1 0;have z1:W.cell? ⟨w.heap.size+1,0,Oh⟩=Og (N9 Oa b.1.id):=ae h2 0;clear h1 h2;go_enter func50,ntmps50
 go_upto_region 1 with fail
 rw[<-hW];clear hW;go_wp2_with fail;refine(Tryz.cmp_Compare_int _ _ _).mono ?_;rintro x w1⟨rfl,rfl⟩;go_wp2_with fail;go_ret;exact⟨rfl,g2⟩
end
section
theorem LL(P A S:List TE)(a b:Nat)(ha:P.length=a)(hb:a+A.length=b):∃C,Go.Sort.insertionSort ltT (aK (P++(A++S))) a b=aK (P++(C++S))/\C.Perm A/\Srt ltT C:=by
 obtain⟨⟨h1,h2,h3⟩,h4⟩:=insertionSort_holds (lt:=ltT) NY (aK (P++(A++S))) a b mOm (by simp;omega);generalize Go.Sort.insertionSort ltT (aK (P++(A++S))) a b=d at h1 h2 h3 h4;obtain⟨L⟩:=d;have hl:L.length=a+A.length+S.length:=by
  have:L.length=(P++(A++S)).length:=by simpa using h1
  rw[this];simp;omega
 have hget:∀i,i<a\/b<=i->L[i]? = (P++(A++S))[i]?:=by
  intro i hi;have hll:(P++(A++S)).length=L.length:=by rw[hl];simp;omega
  by_cases hlt:i<L.length
  .have:=h2 i hi;rw[getElem!_pos _ _ (by simpa using hlt),getElem!_pos _ _ (by rw[fa];omega)] at this;rw[ai hlt,ai mOm];exact congrArg Og (by simpa using this)
  .rw[eh mOm,eh mOm]
 have e:L=P++((L.drop a).take A.length++S):=by
  apply List.ext_getElem?;intro i;by_cases c1:i<a
  .rw[hget i (.inl c1),bR mOm,bR mOm]
  .by_cases c2:i<b
   .rw[bS mOm,bR (by simp;omega),List.getElem?_take,if_pos mOm,List.getElem?_drop,show a+(i-P.length)=i by omega]
   .rw[hget i (.inr mOm),bS mOm,bS mOm,bS mOm,bS (by simp;omega)]
    congr 1
    simp
    omega
 refine⟨(L.drop a).take A.length,congrArg aK e,?_,?_⟩
 .have e2:b-a=A.length:=mOm;have e3:((P++(A++S)).drop a).take A.length=A:=by rw[<-ha];simp
  simpa [List.extract_eq_take_drop,e2,e3] using h3
 .refine List.pairwise_iff_getElem.2 fun i j hi hj hij=>?_
  have hj':j<A.length:=by simp at hj;omega
  have:=h4 (a+i) (a+j) mOm mOm mOm;rw[getElem!_pos _ _ (by rw[fa];omega),getElem!_pos _ _ (by rw[fa];omega)] at this
  simpa using this
theorem Iu:ltOf Cj=ltI Ent.id:=funext fun x=>funext fun y=>Ln x y
theorem J6(blk cap a b:Nat)(d:Array TE)(w:World)(hH:HoldsK iT 15 w blk 0 d)(hblk:blk<w.heap.size)(hab:a<=b)(hb:b<=d.size)(hsz:d.size<4611686018427387904)(ht:B8 d a b) :
  Calls prog 178 #[Oc (Og ⟨blk,0,Oh⟩) d.size cap,N9 Oa a,N9 Oa b,.func (.func 50) #[] #[]] w fun e w' =>
   e=Oe (.tuple #[])/\∃n os,w'=sortWorldK iT 15 w blk 0 n (Go.Sort.insertionSort ltT d a b) os:=by
 have h:=AnyQ.insertionSortCmpFunc (P:=prog) (ρ:=Tryz.insEnt_ren) { Tryz.insEnt with } 15 isAgg67 sizeOf67 iT (fun _=>rfl) (fun x v hv=>by
   simp[iT,Ent.cells] at hv
   rcases hv with rfl|rfl|rfl|rfl|rfl|rfl|rfl|rfl|rfl|rfl|rfl|rfl|rfl|rfl|rfl <;> rfl) Cj 50 #[] blk 0 cap a b d w (enters_of func50 mKr rfl)
  (fun m os dk _ x y=>JD x y _) hH hblk hab hb hsz
 rw[Iu,Al hb ht] at h
 exact h
theorem zK(p:Option Addr)(n cap:Nat)(W:World)(Q:World->Prop)(hn:n<=19)
  (ci:Calls prog 178 #[Oc p n cap,N9 Oa 0,N9 Oa n,.func (.func 50) #[] #[]] W fun e w'=>e=Oe (.tuple #[])/\Q w') :
  Calls prog 49 #[Oc p n cap,.func (.func 50) #[] #[]] W fun e w'=>e=Oe (.tuple #[])/\Q w':=by
 have hs:Calls prog 113 #[Oc p n cap,N9 Oa n,.func (.func 50) #[] #[]] W fun e w'=>e=Oe (.tuple #[])/\Q w':=by
  have h20:decide ((20:Int)<=(n:Int))=false:=by rw[decide_eq_false_iff_not];omega
  have h20':decide ((20:Int)<(n:Int))=false:=by rw[decide_eq_false_iff_not];omega
  go_enter func113,ntmps113;go_wp2_with fail;refine wp_loop_rounds 1 ?_;rw[rounds_succ];go_wp2_with fail;refine ci.mono ?_;rintro _ w1⟨rfl,hQ⟩;go_wp2_with fail;refine wp_loop_rounds 1 ?_;rw[rounds_succ];go_wp2_with fail;exact⟨rfl,_,results_none rfl _ _ _,rfl,hQ⟩
 go_enter func49,ntmps49
 go_wp2_with fail;refine hs.mono ?_;rintro _ w1⟨rfl,hQ⟩;go_wp2_with fail;exact⟨rfl,_,results_none rfl _ _ _,rfl,hQ⟩
theorem E3{L:List Ent}{p:Nat}{x:TE}(h:L.zipIdx[p]? = Og x):x.2=p:=by rw[List.getElem?_zipIdx] at h;obtain⟨a,_,rfl⟩:=Option.map_eq_some_iff.1 h;exact Nat.zero_add p
def Nl(N:Nat):Prop:=∀(blk cap:Nat)(L:List Ent)(W:World),HoldsK iT 15 W blk 0 (aK L.zipIdx)->blk<W.heap.size->L.length<=N->
  Calls prog 49 #[Oc (Og ⟨blk,0,Oh⟩) L.length cap,.func (.func 50) #[] #[]] W fun e w'=>e=Oe (.tuple #[])/\∃k os ts,w'=sortWorldK iT 15 W blk 0 k (aK ts) os/\ts.Perm L.zipIdx/\Srt ltT ts
theorem Mj{X:List TE}{a b:Nat}(hb:b<=X.length)(h:∀(p q:Nat)(x y:TE),a<=p->p<q->X[p]? = Og x->X[q]? = Og y->x.2<y.2):B8 (aK X) a b:=by
 intro p q hap hpq hqb;rw[getElem!_pos _ _ (by rw[fa];omega),getElem!_pos _ _ (by rw[fa];omega)];have h1:p<X.length:=mOm;have h2:q<X.length:=mOm;have:=h p q _ _ hap hpq (ai h1) (ai h2)
 simpa using this
theorem KO:Nl 19:=fun blk cap L W hH hblk hl=>by
 have hzl:L.zipIdx.length=L.length:=List.length_zipIdx;have hT0:∀(p q:Nat)(x y:TE),p<q->L.zipIdx[p]? = Og x->L.zipIdx[q]? = Og y->x.2<y.2:=fun p q x y hpq hx hy=>by rw[E3 hx,E3 hy];exact hpq
 rw[<-hzl] at hl |-;generalize L.zipIdx=ks at *;have ci:=J6 blk cap 0 ks.length ks.toArray W hH hblk (Nat.zero_le _) mSi (by simp;omega) (Mj mOm fun p q x y _ hpq hx hy=>hT0 p q x y hpq hx hy);obtain⟨C,i1,pC,sC⟩:=LL [] ks [] 0 ks.length rfl mSi;simp only[List.nil_append,List.append_nil] at i1;rw[i1] at ci;simp only[fa] at ci
 exact zK (Og ⟨blk,0,Oh⟩) ks.length cap W (fun w'=>∃k os ts,w'=sortWorldK iT 15 W blk 0 k (aK ts) os/\ts.Perm ks/\Srt ltT ts) mOm
  (ci.mono fun e w' ⟨he,n,os,hw⟩=>⟨he,n,os,C,hw,pC,sC⟩)
