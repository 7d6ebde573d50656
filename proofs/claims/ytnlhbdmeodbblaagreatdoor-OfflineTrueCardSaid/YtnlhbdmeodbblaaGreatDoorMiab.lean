/- Lemmas. -/
import Derived.Deep.CutBlock
import Derived.Test.YtnlhbdmeodbblaaGreatDoorMiaa
import Derived.Laws.RangeString
import Derived.Laws.RangeAny
import Derived.LoopTactic
import Derived.LoopN
import Derived.Laws.EntriesVeiled
set_option maxRecDepth 100000
set_option maxHeartbeats 16000000
set_option linter.all false
open Go.Proofs.Tryz
open Array renaming getElem?_eq_none→fC,replicate→fD
open Bool renaming and_eq_true→aW
open Int renaming tmod_eq_emod_of_nonneg→bQ
open Go.IntWalk renaming i64_in→aF
open Go.Lib renaming byteCells→it,cell_of_heap→ae,hid→aa,idxFuncFrom→gS
open List renaming all_eq_true→ep,drop_eq_nil_of_le→eE,getD_eq_getElem?_getD→bi,getElem?_eq_getElem→ai,length_append→ax,length_cons→bA,mem_cons→cR,mem_of_mem_take→cT,not_mem_nil→et
open Nat renaming le_refl→aD,le_trans→bu,lt_or_ge→gH,zero_add→bM
open Go.RowKit renaming Below→ac
open Go.World renaming block_lt_of_cell?→am
open Go.Ending renaming returned→JT
open Go.IntKind renaming i64→JP
open Go.Obj renaming cells→JU
open Go.Value renaming int→JO,string→JQ,slice→JR,pointer→JS
open Option renaming some→JV,none→JW
namespace Go.Proofs.YtnlhbdmeodbblaaGreatDoor
section
open Go Go.Proofs Go.RowKit Go.Sort Go.Lib
attribute [local go_sem] Oper.semAt_some
theorem al (w:World) (o:Obj):ac w.heap.size w (w.alloc o):=(Below.refl _ _).alloc (aD _) _
theorem _root_.Go.RowKit.Below.heap_of {w w':World} (h:ac w.heap.size w w') {b:Nat} {o:Obj} (hb:w.heap[b]? = JV o):w'.heap[b]? = JV o:=(h.block _ (aU hb)).trans hb
theorem eR (x:Int) (n:Nat) (h:x=n) (hb:n≤9223372036854775807):IntKind.i64.wrap x=(n:Int):=by rw [h];exact aF _ mOm
def iT (i j:Nat):Nat→Nat
 | 0=>i
 | k+1=>iT i j k+gg (iT i j k) j
theorem pV (i j:Nat):∀ k,iT (i+gg i j) j k=iT i j (k+1)
 | 0=>rfl
 | k+1=>by show iT (i+gg i j) j k+_=iT i j (k+1)+_;rw [pV i j k]
theorem rQ (j:Nat):∀ (k i:Nat),k < (bY i j).length→iT i j k < j∧(bY i j)[k]? = JV (iT i j k,gg (iT i j k) j)
 | k,i,h=>by
  by_cases hij:i < j
  ·rw [kR hij] at h ⊢
   cases k with
   | zero=>exact ⟨hij,rfl⟩
   | succ k =>
    have:=rQ j k (i+gg i j) (by simpa using h);rw [pV] at this;exact this
  ·rw [iM hij] at h;simp at h
theorem sS (j:Nat):∀ f i,j - i≤f→i≤j→iT i j (bY i j).length=j
 | f,i,hf,hle=>by
  by_cases hij:i < j
  ·have hb:=jx hij;rw [kR hij,bA,← pV]
   cases f with
   | zero=>omega
   | succ f=>exact sS j f _ mOm mOm
  ·rw [iM hij]
   show i=j
   omega
def ud (ib i j:Nat) (k:Nat) (W:World):Prop:=W.heap[ib]? = JV (JU #[JO JP (iT i j k)] 3 (0,0))∧W.heap[ib+1]? = JV (JU #[JO JP j] 3 (0,0))
def A8 (x:Nat×Nat):Value:=.agg #[JO JP x.1,JO JP x.2]
theorem A9 (i j:Int) (w:World) :
  Calls prog 270 #[JO JP i,JO JP j] w fun x w'=>x=JT (.func (.func 287) #[] #[JS (JV ⟨w.heap.size,0,JW⟩),JS (JV ⟨w.heap.size+1,0,JW⟩)])∧
   w'=(w.alloc (JU #[JO JP i] 3)).alloc (JU #[JO JP j] 3):=by
 go_enter func270,ntmps270;go_wp2_with fail;go_ret;exact ⟨rfl,rfl⟩
theorem zq (ib i j:Nat) (hij:i≤j) (hj:j≤1099511627776) :
  tU 287 #[JS (JV ⟨ib,0,JW⟩),JS (JV ⟨ib+1,0,JW⟩)] (fun k=>#[A8 ((bY i j).getD k (0,0))]) (bY i j).length (fun b=>b=ib) (ud ib i j):=by
 intro lp I X wL hIs hXs hK0 hI0 hY;have HIS:=aa hIs;have HXS:=aa hXs;have HYY:=aa hY;have HEND:=aa (sS j j i mOm hij);have HAT:=aa (fun k=>rQ j k i);clear hIs hXs hY;generalize hL:bY i j=L at *;clear hL;go_enter func287,ntmps287;go_wp2_with fail
 go_loopg [] L.length (fun r wr=>∃ k,k+r=L.length∧ud ib i j k wr∧Hid (I k wr))
 case atStart=>exact ⟨0,bM _,hK0,aa hI0⟩
 case round =>
  obtain ⟨k,hk,⟨hbi,hbj⟩,HI⟩:=hrel;have ci:=ae hbi 0;have cj:=ae hbj 0;by_cases hlt:k < L.length
  ·obtain ⟨hp,hget⟩:=HAT.out k hlt;generalize hpe:iT i j k=p at *;have hpn:iT i j (k+1)=p+gg p j:=by show iT i j k+gg (iT i j k) j=_;rw [hpe]
   have HPE:=aa (And.intro hpe hpn);clear hpe hpn;have hp':(p:Int) < (j:Int):=mOm;have hgd:L.getD k (0,0)=(p,gg p j):=by rw [bi,hget];rfl
   have hb0:=jx hp;have HG:=aa (show ig p j 64 (2 ^ 0)=gg p j from rfl);generalize gg p j=z at *;go_wp2_with fail
   go_loopg [] 64 (fun f w2=>∃ s t:Nat,t+f=64∧Hid (s=2 ^ t∧ig p j f s=z)∧(p+s≤j∧1≤s)∧w2=wr.alloc (JU #[JO JP p,JO JP s] 293))
   case atStart=>exact ⟨1,0,rfl,aa ⟨rfl,HG.out⟩,mOm,rfl⟩
   case round =>
    obtain ⟨s,t,htf,HS,⟨hs1,hs2⟩,rfl⟩:=hrel;have a1:IntKind.i64.wrap (2*(s:Int))=2*(s:Int):=aF _ mOm;have a1':IntKind.i64.wrap ((s:Int)*2)=(s:Int)*2:=aF _ mOm;have a3:IntKind.i64.wrap ((p:Int)+2*(s:Int))=(p:Int)+2*(s:Int):=aF _ mOm;have ci2:(wr.alloc (JU #[JO JP p,JO JP s] 293)).cell? ⟨ib,0,JW⟩=JV (JO JP p):=by exact ((al wr _).cell (p:=⟨ib,0,JW⟩) (aU hbi)).trans ci
    have cj2:(wr.alloc (JU #[JO JP p,JO JP s] 293)).cell? ⟨ib+1,0,JW⟩=JV (JO JP j):=by exact ((al wr _).cell (p:=⟨ib+1,0,JW⟩) (aU hbj)).trans cj
    have HN:Hid (∀ f,gk=f+1→p%(2*s)=0→p+2*s≤j→2*s=2 ^ (t+1)∧ig p j f (2*s)=z):=aa (fun f hf e1 e2=>⟨by rw [HS.out.1,Nat.pow_succ];omega,by
     have h:=HS.out.2;rw [hf,ig,if_pos ⟨e1,e2⟩] at h;exact h⟩)
    have em:(p:Int)%(2*(s:Int))=((p%(2*s):Nat):Int):=by push_cast;rfl
    have HEM:=aa em;clear em;by_cases e1:p%(2*s)=0∧p+2*s≤j
    ·obtain ⟨e1,e2⟩:=e1;have t1:((p:Int)%(2*(s:Int))==0)=true:=by rw [beq_iff_eq,HEM.out,e1];rfl
     have t2:(p:Int)+2*(s:Int)≤(j:Int):=mOm;clear hs1 hb0;obtain ⟨f',rfl⟩:∃ f',gk=f'+1:=by
      cases gk with
      | zero =>
       exfalso;obtain rfl:t=64:=mOm;have:=HS.out.1;omega
      | succ f'=>exact ⟨f',rfl⟩
     have HN2:=HN.out f' rfl e1 e2
     replace HN2:=aa HN2;clear e1;go_wp2_with fail
     go_roundg f'
     case measure=>omega
     case rel=>exact ⟨2*s,t+1,mOm,HN2,mOm,by simp [Int.mul_comm]⟩
    ·have HZ:s=z:=by
      have h:=HS.out.2
      cases gk with
      | zero=>exact h
      | succ f'=>rw [ig,if_neg e1] at h;exact h
     have hor:((p:Int)%(2*(s:Int))==0)=false∨((p:Int)%(2*(s:Int))==0)=true∧¬ (p:Int)+2*(s:Int)≤(j:Int):=by
      by_cases e0:p%(2*s)=0
      ·exact .inr ⟨by rw [beq_iff_eq,HEM.out,e0];rfl,mOm⟩
      ·exact .inl (by rw [beq_eq_false_iff_ne,HEM.out];omega)
     have hbu:LM (fun b=>b=ib) wr (wr.alloc (JU #[JO JP p,JO JP s] 293)):=LM.alloc _ _ _
     obtain ⟨fn,tmps,assign,body,hy,hR⟩:=HYY.out k wr (wr.alloc (.cells #[.int .i64 p,.int .i64 s] 293)) hlt HI.out hbu (by unfold ud;rw [HPE.out.1];exact ⟨(al wr _).heap_of hbi,(al wr _).heap_of hbj⟩) 2;rw [hgd] at hy;subst HZ;unfold A8 at hy;have HNX:=aa hgd;clear e1 HS HN HEM hgd hbu htf;rcases hor with t1 | ⟨t1,t2⟩
     all_goals
      go_upto_region 4 with fail
      refine (wpIn_wide (n:=3)).1 ?_
      gi_wp2
      refine hR.mono ?_
      clear hR hy ci2 cj2;rintro _ w3 (⟨rfl,hI3,hK3,hf3⟩ | ⟨rfl,hX⟩)
      ·unfold ud at hK3;rw [HPE.out.1] at hK3;have hb3:=hf3 wr.heap.size (aD _) mSi;rw [heap_alloc_new] at hb3;have HI3:=aa hI3;obtain ⟨ki,kj⟩:=hK3;have d1:=ae ki 0;have d2:=Lib.frozen_of_heap ki 0;have d3:=ae hb3 1;have a5:IntKind.i64.wrap ((p:Int)+(s:Int))=((p+s:Nat):Int):=eR _ _ rfl mOm
       gi_wp2
       go_wp2_with fail
       go_roundg (L.length - (k+1))
       case measure=>omega
       case rel =>
        refine ⟨k+1,mOm,⟨?_,?_⟩,aa (HIS.out (k+1) _ _ HI3.out (LM.set (S:=fun b=>b=ib) w3 rfl 0 _))⟩
        ·rw [HPE.out.2];exact bp ki 0 _
        ·rw [de mOm];exact kj
      ·have HX:=aa hX;clear hX
       gi_wp2
       go_wp2_with fail
       refine bodyPost_ret (results_none rfl _ _ _) rfl ?_;exact ⟨⟨_,rfl⟩,.inr HX.out⟩
  ·obtain rfl:k=L.length:=mOm;rw [HEND.out] at ci hbi;clear hlt hbi;go_wp2_with fail
   go_end0
   exact ⟨⟨_,rfl⟩,.inl HI.out⟩
end
section
open Go Go.Proofs Go.RowKit Go.Sort Go.Lib
abbrev Blk:=Bk ByteArray
def jC (x:Blk):List Value:=[JO JP x.b,JO JP x.s]
def m7 (x:Blk):List Value:=[JQ x.d]
theorem Jj:RowT prog jC 2 293 262 where
 len _:=rfl
 one x u hu:=by simp [jC] at hu;rcases hu with rfl | rfl <;> rfl
 pos:=mDe
 und:=underlying262
 info:=by
  obtain ⟨i0,hi,h1,h2,h3⟩:=info_parts (show (prog.info? 293).map (fun i=>(i.zero,i.size,i.bytes))=JV (JV (.agg #[JO JP 0,JO JP 0]),2,16) by kernel_rfl);exact ⟨i0,_,hi,h1,h2,rfl,mOm⟩
theorem Jk:RowT prog m7 1 9 37 where
 len _:=rfl
 one s u hu:=by simp [m7] at hu;subst hu;rfl
 pos:=mDe
 und:=underlying37
 info:=by
  obtain ⟨i0,hi,h1,h2,h3⟩:=info_parts (show (prog.info? 9).map (fun i=>(i.zero,i.size,i.bytes))=JV (JV (JQ ⟨#[]⟩),1,16) by kernel_rfl);exact ⟨i0,_,hi,h1,h2,rfl,mOm⟩
theorem B9 (b s:Nat) (hs:s≤1099511627776) (w:World):Calls prog 289 #[.agg #[JO JP b,JO JP s]] w fun x w'=>x=JT (.agg #[JO JP b,JO JP (2*(s:Int))])∧ac w.heap.size w w':=by have a1:IntKind.i64.wrap (2*(s:Int))=2*(s:Int):=aF _ mOm;go_enter func289,ntmps289;go_wp2_with fail;exact bodyPost_ret (v:=.agg #[JO JP b,JO JP (2*(s:Int))]) (results_cell_row (P:=prog) results289 _ _ (w.heap.size+1) 293 #[JO JP b,JO JP (2*(s:Int))] (0,0) _ rfl (by have h:=heap_alloc_new (w.alloc (JU #[JO JP b,JO JP s] 293)) (JU #[JO JP b,JO JP (2*(s:Int))] 293);rw [World.size_alloc] at h;exact h) underlying293 rfl mKr) rfl ⟨rfl,((al w _).alloc mSi _)⟩
def lW (b s b2 s2:Nat):Bool:=decide (b2=b+s∧s2=s∧b%(2*s)=0)
theorem B5 (b s b2 s2:Nat) (hb:b≤1099511627776) (hs:s≤1099511627776) (h0:0 < s) (w:World):Calls prog 288 #[.agg #[JO JP b,JO JP s],.agg #[JO JP b2,JO JP s2]] w fun x w'=>x=JT (.bool (lW b s b2 s2))∧ac w.heap.size w w':=by
 have a1:IntKind.i64.wrap (2*(s:Int))=2*(s:Int):=aF _ mOm;have a2:IntKind.i64.wrap ((b:Int)+(s:Int))=(b:Int)+(s:Int):=aF _ mOm;go_enter func288,ntmps288;go_wp2_with fail
 all_goals
  go_ret
  refine ⟨bX ?_,(al w _).alloc mSi _⟩;unfold lW
 ·rename_i e1 e2
  rw [Bool.eq_iff_iff,beq_iff_eq,decide_eq_true_eq]
  have em:(b:Int)%(2*(s:Int))=((b%(2*s):Nat):Int):=by push_cast;rfl
  rw [em];omega
 ·rename_i e1 e2
  symm
  rw [decide_eq_false_iff_not];rintro ⟨h1,h2,-⟩;omega
 ·rename_i e1
  symm
  rw [decide_eq_false_iff_not];rintro ⟨h1,h2,-⟩;omega
end
section
open Go
def lr (md:Region.Mode) (ops:Array Oper):Array Bool→List (Nat×Bool)→Bool
 | listed,[]=>(Region.ready md ops listed).isEmpty
 | listed,(i,true)::σ=>(Region.ready md ops listed).contains i&&Region.free md ops listed i&&lr md ops (listed.setIfInBounds i true) σ
 | listed,(i,false)::σ=>(Region.ready md ops listed==[i])&&lr md ops (listed.setIfInBounds i true) σ
def aO (P:Program) (ops:Array Oper) (Q:Exit→Act→World→Prop) (S:World→Prop):List (Nat×Bool)→Act→World→Prop
 | [],a,w=>Q .normal a w
 | (i,true)::σ,a,w=>∃ oi v,ops[i]? = some oi∧YieldsIf P ops S oi v a∧aO P ops Q S σ (a.put oi.dst v) w
 | (i,false)::σ,a,w=>wpOp P ops Q i (fun a' w'=>S w'∧aO P ops Q S σ a' w') a w
section
variable {P:Program} {ops:Array Oper} {Q:Exit→Act→World→Prop} {md:Region.Mode} {S:World→Prop}
theorem mE (hs:Region.noSelect ops=true) (hQ:∀ d c v a w,Q (.panic c) (Act.put a d v) w→Q (.panic c) a w) :
  ∀ (σ:List (Nat×Bool)) (listed:Array Bool) (fuel:Nat) (a:Act) (w:World),lr md ops listed σ=true→σ.length≤fuel→S w→aO P ops Q S σ a w→wpAnyH P md ops Q S fuel listed a w
 | [],listed,fuel,a,w,hf,_,_,h=>by
  refine wpAnyH_done ?_ h fuel
  simpa [lr] using hf
 | (i,true)::σ,listed,fuel,a,w,hf,hl,hS,h=>by
  obtain ⟨oi,v,hi,hy,h⟩:=h;simp only [lr,aW] at hf
  cases fuel with
  | zero=>simp at hl
  | succ fuel=>exact wpAnyH_take hi hs hf.1.2 hf.1.1 (fun c a w=>hQ _ c v a w) hy hS (mE hs hQ σ _ fuel _ w hf.2 (by simpa using hl) hS h)
 | (i,false)::σ,listed,fuel,a,w,hf,hl,hS,h=>by
  simp only [lr,aW,beq_iff_eq] at hf
  cases fuel with
  | zero=>simp at hl
  | succ fuel =>
   refine wpAnyH_all hf.1 mSi fun j hj=>?_
   obtain rfl:j=i:=by simpa using hj
   exact wpOp_mono (fun a' w' h'=>⟨h'.1,mE hs hQ σ _ fuel a' w' hf.2 (by simpa using hl) h'.1 h'.2⟩) h
theorem az {K:Act→World→Prop} {id:Nat} {a:Act} {w:World} (σ:List (Nat×Bool)) (hm:P.follows .mixedOrders=true) (hs:Region.noSelect ops=true)
  (hf:lr .any ops (fD ops.size false) σ=true) (hl:σ.length≤ops.size) (hS:S w.drew) (h:aO P ops (bj K) S σ a w.drew):(Code.region id ops true).wp P (bj K) a w:=
 wp_region_held hm (mE hs (fun _ _ _ _ _ h=>h) σ _ _ a w.drew hf hl hS h)
theorem fU {i:Nat} {σ:List (Nat×Bool)} {a:Act} {w:World} (oi:Oper) (v:Value) (hi:ops[i]? = JV oi) (hw:Region.wanted oi (yielded ops a.tmps)=true) (hy:∀ w,S w→(execOp a.eval oi).run P w=.ok (.value v) w)
  (h:aO P ops Q S σ (a.put oi.dst v) w):aO P ops Q S ((i,true)::σ) a w:=⟨oi,v,hi,.inl ⟨hw,hy⟩,h⟩
theorem Dp {i:Nat} {σ:List (Nat×Bool)} {a:Act} {w:World} (oi:Oper) (hi:ops[i]? = JV oi) (hw:Region.wanted oi (yielded ops a.tmps)=false)
  (h:aO P ops Q S σ (a.put oi.dst undef) w):aO P ops Q S ((i,true)::σ) a w:=⟨oi,undef,hi,.inr ⟨hw,rfl⟩,h⟩
theorem gC {i:Nat} {σ:List (Nat×Bool)} {a:Act} {w:World} (oi:Oper) (hi:ops[i]? = JV oi) (hw:Region.wanted oi (yielded ops a.tmps)=false) (hS:S w)
  (h:aO P ops Q S σ (a.put oi.dst undef) w):aO P ops Q S ((i,false)::σ) a w:=by
 unfold aO wpOp;simp only [hi,hw,Bool.false_eq_true,if_false];exact ⟨hS,h⟩
theorem iV {i:Nat} {σ:List (Nat×Bool)} {a:Act} {w:World} (oi:Oper) (hi:ops[i]? = JV oi) (hw:Region.wanted oi (yielded ops a.tmps)=true)
  (h:oi.wp P a w (fun a' w'=>S w'∧aO P ops Q S σ a' w') Q):aO P ops Q S ((i,false)::σ) a w:=by
 unfold aO wpOp;simp only [hi,hw,if_true];exact .inl h
theorem nD {i:Nat} {σ:List (Nat×Bool)} {a:Act} {w:World} (oi:Oper) (hi:ops[i]? = JV oi) (hw:Region.wanted oi (yielded ops a.tmps)=true) (f:FuncId) (args:Array Operand) (tys:Array TypeId)
  (ho:oi.op=.call { callee:=.value (.func f),args:=args,argTypes:=tys }) (vs:List Value) (hvs:args.toList.map a.eval=vs) (hc:∀ xs w,(callFunc f xs).run P w=.ok (.enter f xs) w) {R:Ending→World→Prop} (h:Calls P f vs.toArray w R)
  (hK:∀ e w',R e w'→∃ v,e=JT v∧S w'∧aO P ops Q S σ (a.put oi.dst v) w'):aO P ops Q S ((i,false)::σ) a w:=
 iV oi hi hw (rY f args tys ho vs hvs hc h fun e w' hR=>let ⟨v,he,hS,h⟩:=hK e w' hR;⟨v,he,hS,h⟩)
end
theorem lV {P:Program} {ops:Array Oper} {Q:Exit→Act→World→Prop} {S:World→Prop} {i:Nat} {σ:List (Nat×Bool)} {a:Act} {w:World} (oi:Oper) (v:Value) (w':World) (hi:ops[i]? = JV oi) (hw:Region.wanted oi (yielded ops a.tmps)=true) (hr:(execOp a.eval oi).run P w=.ok (.value v) w')
  (hS:S w') (h:aO P ops Q S σ (a.put oi.dst v) w'):aO P ops Q S ((i,false)::σ) a w:=
 iV oi hi hw (by unfold Oper.wp;rw [hr,Oper.upon_value];exact ⟨hS,h⟩)
def xD:Code→Array Oper
 | .region _ ops _=>ops
 | _=>#[]
theorem JM {P:Program} {ops:Array Oper} {S:World→Prop} {K:Act→World→Prop} {id:Nat} {a:Act} {w:World} (t:List (Nat×Bool)) (hS:S w.drew) (h:aO P ops (bj K) S t a w.drew) (hm:P.follows .mixedOrders=true:=by kernel_rfl) (hs:Region.noSelect ops=true:=by kernel_rfl) (hf:lr .any ops (fD ops.size false) t=true:=by kernel_rfl) (hl:t.length≤ops.size:=by decide):(Code.region id ops true).wp P (bj K) a w:=az t hm hs hf hl hS h
theorem Jy {P:Program} {ops:Array Oper} {S:World→Prop} {K:Act→World→Prop} {id:Nat} {a:Act} {w:World} {Q:Exit→Act→World→Prop} (t:List (Nat×Bool)) (hS:S w.drew) (h:aO P ops (bj K) S t a w.drew) (hm:P.follows .mixedOrders=true:=by kernel_rfl) (hs:Region.noSelect ops=true:=by kernel_rfl) (hf:lr .any ops (fD ops.size false) t=true:=by kernel_rfl) (hl:t.length≤ops.size:=by decide) (hk:∀ a w,K a w→Q .normal a w:=by exact fun _ _ h=>h):(Code.region id ops true).wp P Q a w:=aC (az t hm hs hf hl hS h) hk
theorem aj {P:Program} {ops:Array Oper} {Q:Exit→Act→World→Prop} {S:World→Prop} {i:Nat} {σ:List (Nat×Bool)} {a:Act} {w:World} {d} {o} {t} {p} {af} {g} {v:Value} {q:Prop} (h:q) (hi:ops[i]? = some (Oper.mk d o t p af g):=by rfl) (hw:Region.wanted (Oper.mk d o t p af g) (yielded ops a.tmps)=true:=by rfl) (hy:∀ w,S w→(execOp a.eval (Oper.mk d o t p af g)).run P w=.ok (.value v) w:=by intro w hSw;(try dsimp only at hSw);go_simp;(try with_reducible rfl)) (f:Wq q→aO P ops Q S σ (Act.put a d v) w:=by intro hq;(try simp only [Act.put,List.setIfInBounds_toArray,List.set_cons_zero,List.set_cons_succ]);exact hq.1):aO P ops Q S ((i,true)::σ) a w:=fU (Oper.mk d o t p af g) v hi hw hy (f ⟨h⟩)
theorem cN {P:Program} {ops:Array Oper} {Q:Exit→Act→World→Prop} {S:World→Prop} {i:Nat} {σ:List (Nat×Bool)} {a:Act} {w:World} {d} {o} {t} {p} {af} {g} {q:Prop} (h:q) (hi:ops[i]? = some (Oper.mk d o t p af g):=by rfl) (hw:Region.wanted (Oper.mk d o t p af g) (yielded ops a.tmps)=false:=by rfl) (f:Wq q→aO P ops Q S σ (Act.put a d undef) w:=by intro hq;(try simp only [Act.put,List.setIfInBounds_toArray,List.set_cons_zero,List.set_cons_succ]);exact hq.1):aO P ops Q S ((i,true)::σ) a w:=Dp (Oper.mk d o t p af g) hi hw (f ⟨h⟩)
theorem aH {P:Program} {ops:Array Oper} {Q:Exit→Act→World→Prop} {S:World→Prop} {i:Nat} {σ:List (Nat×Bool)} {a:Act} {w:World} {d} {o} {t} {p} {af} {g} {args:Array Operand} {tys:Array TypeId} {vs:List Value} (f:FuncId) (hc:∀ xs w,(callFunc f xs).run P w=.ok (.enter f xs) w) {R:Ending→World→Prop} (h:Calls P f vs.toArray w R)
  (hK:∀ e w',R e w'→∃ v,e=JT v∧S w'∧aO P ops Q S σ (a.put d v) w') (hi:ops[i]? = JV (Oper.mk d o t p af g):=by rfl) (hw:Region.wanted (Oper.mk d o t p af g) (yielded ops a.tmps)=true:=by rfl) (ho:o=.call { callee:=.value (.func f),args:=args,argTypes:=tys }:=by rfl) (hvs:args.toList.map a.eval=vs:=by rfl):aO P ops Q S ((i,false)::σ) a w:=nD (Oper.mk d o t p af g) hi hw f args tys ho vs hvs hc h hK
end
section
open Go
def rW (md:Region.Mode) (ops:Array Oper):Array Bool→List Nat→Bool
 | _,[]=>true
 | L,i::σ=>(Region.ready md ops L).contains i&&Region.free md ops L i&&rW md ops (L.setIfInBounds i true) σ
def kg (P:Program) (ops:Array Oper) (S:World→Prop):List Nat→Act→(Act→Prop)→Prop
 | [],a,K=>K a
 | i::σ,a,K=>∃ oi v,ops[i]? = some oi∧YieldsIf P ops S oi v a∧kg P ops S σ (a.put oi.dst v) K
def Hj (md:Region.Mode) (ops:Array Oper) (Ls:List (Array Bool)):List (Array Bool):=(Ls.flatMap fun L=>(Region.ready md ops L).map fun i=>L.setIfInBounds i true).eraseDups
def xB (md:Region.Mode) (ops:Array Oper) (pre:Nat→Array Bool→Bool) (fin:Array Bool→Bool):Nat→List (Array Bool)→Bool
 | 0,Ls=>Ls.all fun L=>(Region.ready md ops L).isEmpty&&fin L
 | n+1,Ls=>(Ls.all fun L=>!(Region.ready md ops L).isEmpty&&(Region.ready md ops L).all fun i=>pre i L)&&xB md ops pre fin n (Hj md ops Ls)
section
variable {P:Program} {ops:Array Oper} {Q:Exit→Act→World→Prop} {md:Region.Mode} {S:World→Prop}
theorem sM (hs:Region.noSelect ops=true) (hQ:∀ d c v a w,Q (.panic c) (Act.put a d v) w→Q (.panic c) a w) :
  ∀ (σ:List Nat) (L:Array Bool) (fuel:Nat) (a:Act) (w:World),rW md ops L σ=true→S w→kg P ops S σ a (fun a'=>wpAnyH P md ops Q S fuel (σ.foldl (fun L i=>L.setIfInBounds i true) L) a' w)→wpAnyH P md ops Q S (fuel+σ.length) L a w
 | [],_,_,_,_,_,_,h=>h
 | i::σ,L,fuel,a,w,hf,hS,h=>by
  obtain ⟨oi,v,hi,hy,h⟩:=h;simp only [rW,aW] at hf;exact wpAnyH_take hi hs hf.1.2 hf.1.1 (fun c a w=>hQ _ c v a w) hy hS (sM hs hQ σ _ fuel _ w hf.2 hS h)
theorem wD {I:Array Bool→Act→World→Prop} {pre:Nat→Array Bool→Bool} {fin:Array Bool→Bool}
  (hstep:∀ i L a w,pre i L=true→I L a w→wpOp P ops Q i (fun a' w'=>S w'∧I (L.setIfInBounds i true) a' w') a w) (hfin:∀ L a w,fin L=true→I L a w→Q .normal a w) :
  ∀ (n:Nat) (Ls:List (Array Bool)) (L:Array Bool) (a:Act) (w:World),xB md ops pre fin n Ls=true→L∈Ls→I L a w→wpAnyH P md ops Q S n L a w
 | 0,Ls,L,a,w,hok,hL,hI=>by
  have h:=ep.1 hok L hL;simp only [aW,List.isEmpty_iff] at h;exact ⟨h.1,hfin L a w h.2 hI⟩
 | n+1,Ls,L,a,w,hok,hL,hI=>by
  simp only [xB,aW] at hok;have h:=ep.1 hok.1 L hL;simp only [aW,Bool.not_eq_true',List.isEmpty_eq_false_iff,ep] at h;refine ⟨fun h0=>absurd h0 h.1,fun i hi=>wpOp_mono (fun a' w' h'=>⟨h'.1,wD hstep hfin n _ _ a' w' hok.2 ?_ h'.2⟩) (hstep i L a w (h.2 i hi) hI)⟩;exact List.mem_eraseDups.2 (List.mem_flatMap.2 ⟨L,hL,List.mem_map.2 ⟨i,hi,rfl⟩⟩)
theorem fV {K:Act→World→Prop} {id:Nat} {a:Act} {w:World} (σ:List Nat) (n:Nat) {I:Array Bool→Act→World→Prop} {pre:Nat→Array Bool→Bool} {fin:Array Bool→Bool} (hm:P.follows .mixedOrders=true) (hs:Region.noSelect ops=true)
  (hf:rW .any ops (fD ops.size false) σ=true) (hl:xB .any ops pre fin n [σ.foldl (fun L i=>L.setIfInBounds i true) (fD ops.size false)]=true) (hn:n+σ.length=ops.size) (hS:S w.drew)
  (hstep:∀ i L a w,pre i L=true→I L a w→wpOp P ops (bj K) i (fun a' w'=>S w'∧I (L.setIfInBounds i true) a' w') a w) (hfin:∀ L a w,fin L=true→I L a w→K a w)
  (h:kg P ops S σ a (fun a'=>I (σ.foldl (fun L i=>L.setIfInBounds i true) (fD ops.size false)) a' w.drew)):(Code.region id ops true).wp P (bj K) a w:=by
 have go:∀ (σ':List Nat) (a:Act),kg P ops S σ' a (fun a'=>I (σ.foldl (fun L i=>L.setIfInBounds i true) (fD ops.size false)) a' w.drew)→kg P ops S σ' a (fun a'=>wpAnyH P .any ops (bj K) S n (σ.foldl (fun L i=>L.setIfInBounds i true) (fD ops.size false)) a' w.drew):=by
  intro σ'
  induction σ' with
  | nil=>intro a h;exact wD hstep hfin n _ _ a w.drew hl (List.mem_singleton.2 rfl) h
  | cons i σ' ih=>intro a ⟨oi,v,hi,hy,h⟩;exact ⟨oi,v,hi,hy,ih _ h⟩
 have key:=sM (S:=S) (Q:=bj K) hs (fun _ _ _ _ _ h=>h) σ (fD ops.size false) n a w.drew hf hS (go σ a h)
 rw [hn] at key;exact wp_region_held (S:=S) hm key
theorem aV {i:Nat} {σ:List Nat} {a:Act} {K:Act→Prop} (oi:Oper) (v:Value) (hi:ops[i]? = JV oi) (hw:Region.wanted oi (yielded ops a.tmps)=true) (hy:∀ w,S w→(execOp a.eval oi).run P w=.ok (.value v) w)
  (h:kg P ops S σ (a.put oi.dst v) K):kg P ops S (i::σ) a K:=⟨oi,v,hi,.inl ⟨hw,hy⟩,h⟩
theorem jV {i:Nat} {K:Act→World→Prop} {a:Act} {w:World} (oi:Oper) (hi:ops[i]? = JV oi) (hw:Region.wanted oi (yielded ops a.tmps)=true) (h:oi.wp P a w K Q):wpOp P ops Q i K a w:=by unfold wpOp;simp only [hi,hw,if_true];exact .inl h
theorem tN {i:Nat} {K:Act→World→Prop} {a:Act} {w:World} (oi:Oper) (hi:ops[i]? = JV oi) (hw:Region.wanted oi (yielded ops a.tmps)=true) (f:FuncId) (args:Array Operand) (tys:Array TypeId)
  (ho:oi.op=.call { callee:=.value (.func f),args:=args,argTypes:=tys }) (vs:List Value) (hvs:args.toList.map a.eval=vs) (hc:∀ xs w,(callFunc f xs).run P w=.ok (.enter f xs) w) {R:Ending→World→Prop} (h:Calls P f vs.toArray w R)
  (hK:∀ e w',R e w'→∃ v,e=JT v∧K (a.put oi.dst v) w'):wpOp P ops Q i K a w:=
 jV oi hi hw (rY f args tys ho vs hvs hc h hK)
theorem cQ {i:Nat} {K:Act→World→Prop} {a:Act} {w:World} (oi:Oper) (v:Value) (w':World) (hi:ops[i]? = JV oi) (hw:Region.wanted oi (yielded ops a.tmps)=true) (hr:(execOp a.eval oi).run P w=.ok (.value v) w') (h:K (a.put oi.dst v) w'):wpOp P ops Q i K a w:=
 jV oi hi hw (by unfold Oper.wp;rw [hr,Oper.upon_value];exact h)
end
theorem Ep (L:Array Bool) (i j:Nat):(L.setIfInBounds i true).getD j false=if i=j∧i < L.size then true else L.getD j false:=by
 simp only [Array.getD_eq_getD_getElem?,Array.getElem?_setIfInBounds];by_cases h:i=j
 ·subst h;by_cases h2:i < L.size
  ·simp [h2]
  ·simp [h2]
 ·simp [h]
theorem ak {L:Array Bool} {i j:Nat} (h:i ≠ j:=by decide):(L.setIfInBounds i true).getD j false=L.getD j false:=by rw [Ep,if_neg (fun e=>h e.1)]
theorem cK {L:Array Bool} {i:Nat} (h:i < L.size:=by omega):(L.setIfInBounds i true).getD i false=true:=by rw [Ep,if_pos ⟨rfl,h⟩]
end
section
open Go Go.Proofs Go.RowKit Go.Sort Go.Lib
section
variable {P:Program} {ops:Array Oper} {Q:Exit→Act→World→Prop} {S:World→Prop}
theorem uM {α:Type} {enc:α→List Value} {k:Nat} {e t:TypeId} (R:RowT P enc k e t) {i:Nat} {K:Act→World→Prop} {a:Act} {w:World} (oi:Oper) (hi:ops[i]? = JV oi) (hw:Region.wanted oi (yielded ops a.tmps)=true) (s x:Operand) (ho:oi.op=.call { callee:=.builtin .append,args:=#[s,x],argTypes:=#[t,t] })
  (base:Nat) (v xv:Value) (X Y:List α) (hs:a.eval s=v) (hxv:a.eval x=xv) (hown:w.ownsRow base e k v X.length (br enc X)) (hx:LK enc w xv Y) (hl:X.length+Y.length≤1000000) (hb:base≤w.heap.size)
  (h:∀ v' w',AppT enc k e w base v X Y v' w'→K (a.put oi.dst v') w'):wpOp P ops Q i K a w:=
 jV oi hi hw (qL R s x ho base v xv X Y hs hxv hown hx hl hb h)
theorem bH {i:Nat} {K:Act→World→Prop} {a:Act} {w:World} (oi:Oper) (hi:ops[i]? = JV oi) (hw:Region.wanted oi (yielded ops a.tmps)=true) (ty:TypeId) (x y:Operand) (ho:oi.op=.store ty x y)
  (g:Nat) (cells:Array Value) (hx:a.eval x=JS (JV ⟨g,0,JW⟩)) (hy:a.eval y=.agg cells) (t:TypeId) (old:Array Value) (hg:w.heap[g]? = JV (JU old t (0,0))) (hi2:(P.info? ty).map (·.size)=JV cells.size)
  (hold:old.size=cells.size) (h1:cells.all (·.oneCell')=true) (h:K (a.put oi.dst undef) (w.setRow g cells)):wpOp P ops Q i K a w:=
 jV oi hi hw (wp_store_row ty x y ho g cells hx hy t old hg hi2 hold h1 h)
theorem rq {i:Nat} {σ:List Nat} {a:Act} {K:Act→Prop} (oi:Oper) (hi:ops[i]? = JV oi) (hw:Region.wanted oi (yielded ops a.tmps)=true) (ty:TypeId) (x:Operand) (ho:oi.op=.load ty x)
  (b o:Nat) (hx:a.eval x=JS (JV ⟨b,o,JW⟩)) (cs:List Value) (d:TypeDesc) (hS:∀ w,S w→w.rangeAt b o cs) (hu:P.underlying ty=JV d) (hd:d.isRow=true) (hi2:(P.info? ty).map (·.size)=JV cs.length)
  (h:kg P ops S σ (a.put oi.dst (.agg cs.toArray)) K):kg P ops S (i::σ) a K:=⟨oi,_,hi,yieldsIf_load_mid hw ty x ho b o hx cs d hS hu hd hi2,h⟩
theorem rm {i:Nat} {K:Act→World→Prop} {a:Act} {w:World} (oi:Oper) (w':World) (hi:ops[i]? = JV oi) (hw:Region.wanted oi (yielded ops a.tmps)=true) (hr:(execOp a.eval oi).run P w=.ok .skip w') (h:K (a.put oi.dst undef) w'):wpOp P ops Q i K a w:=
 jV oi hi hw (by unfold Oper.wp;rw [hr,Oper.upon_skip];exact h)
theorem dC {i:Nat} {σ:List (Nat×Bool)} {a:Act} {w:World} (oi:Oper) (hi:ops[i]? = JV oi) (hw:Region.wanted oi (yielded ops a.tmps)=true) (ty:TypeId) (x:Operand) (ho:oi.op=.load ty x)
  (b o:Nat) (hx:a.eval x=JS (JV ⟨b,o,JW⟩)) (cs:List Value) (d:TypeDesc) (hS:∀ w,S w→w.rangeAt b o cs) (hu:P.underlying ty=JV d) (hd:d.isRow=true) (hi2:(P.info? ty).map (·.size)=JV cs.length)
  (h:aO P ops Q S σ (a.put oi.dst (.agg cs.toArray)) w):aO P ops Q S ((i,true)::σ) a w:=⟨oi,_,hi,yieldsIf_load_mid hw ty x ho b o hx cs d hS hu hd hi2,h⟩
end
theorem LM.grown {w w':World} {r:Option Nat} (h:w.grownBy w' r):LM (fun k=>r=JV k) w w':=⟨h.os,h.tape,h.output,h.size,fun k hk hs=>h.block k hk (fun e=>hs e.symm)⟩
theorem cF {α:Type} {enc:α→List Value} {w:World} {b n:Nat} {cs:Array Value} {t:TypeId} (h:w.heap[b]? = JV (JU cs t (0,0))) (L:List α) (hcs:cs.toList=br enc L) (hn:L.length=n):LK enc w (JR (JV ⟨b,0,JW⟩) n n) L:=by
 subst hn;refine ⟨_,_,rfl,aD _,fun hn=>(by cases hn),fun _=>⟨_,_,rfl,aU h,fun j u hj=>?_⟩⟩;rw [bM,ae h];rw [← hcs] at hj
 simpa using hj
theorem bE {S:Nat→Prop} {base k n:Nat} {e:TypeId} {v:Value} {xs:List Value} {w w':World} (h:w.ownsRow base e k v n xs) (hb:LM S w w') (hs:∀ g,v.ownBlock=JV g→¬ S g):w'.ownsRow base e k v n xs:=by
 obtain ⟨hl,h⟩:=h;refine ⟨hl,?_⟩;rcases h with h | ⟨g,cap,cur,rfl,h1,h2,h3⟩
 ·exact .inl h
 ·exact .inr ⟨g,cap,cur,rfl,h1,hb.heap h2 (hs g rfl),h3⟩
def fR (fb:Nat) (bv dv:Value) (k:Nat):Prop:=k=fb∨bv.ownBlock=JV k∨dv.ownBlock=JV k
structure LZ (fb:Nat) (bv dv:Value) (L:List Blk) (w:World):Prop where
 box:w.heap[fb]? = JV (JU #[bv,dv] 264 (0,0))
 bs:w.ownsRow (fb+1) 293 2 bv L.length (br jC L)
 ds:w.ownsRow (fb+1) 9 1 dv L.length (br m7 L)
 few:L.length≤10000
 fit:∀ x∈L,x.b≤1099511627776∧0 < x.s∧x.s≤1099511627776∧x.d.size=8
theorem iP {α:Type} {w:World} {base k:Nat} {e:TypeId} {v:Value} {M:List α} {z:α} {xs:List Value} (h:w.ownsRow base e k v (M++[z]).length xs):∃ g c,v=JR (JV ⟨g,0,JW⟩) (M++[z]).length c:=by
 obtain ⟨-,(⟨-,h0⟩ | ⟨g,c,cur,rfl,-⟩)⟩:=h
 ·simp at h0
 ·exact ⟨g,c,rfl⟩
theorem LZ.apart {fb:Nat} {bv dv:Value} {L:List Blk} {w:World} (h:LZ fb bv dv L w) (q:Nat) (h1:bv.ownBlock=JV q) (h2:dv.ownBlock=JV q):False:=by
 obtain ⟨-,(⟨rfl,-⟩ | ⟨g,c,cur,rfl,-,hg,-⟩)⟩:=h.bs
 ·cases h1
 ·obtain ⟨-,(⟨rfl,-⟩ | ⟨g2,c2,cur2,rfl,-,hg2,-⟩)⟩:=h.ds
  ·cases h2
  ·injection h1 with h1;injection h2 with h2;simp only at h1 h2;subst h1;subst h2;rw [hg] at hg2;injection hg2 with hg2;injection hg2 with _ e;exact absurd e mDe
theorem LZ.buts {S:Nat→Prop} {fb:Nat} {bv dv:Value} {L:List Blk} {w w':World} (h:LZ fb bv dv L w) (hb:LM S w w') (h0:¬ S fb) (h1:∀ k,bv.ownBlock=JV k→¬ S k) (h2:∀ k,dv.ownBlock=JV k→¬ S k):LZ fb bv dv L w':=
 ⟨hb.heap h.box h0,bE h.bs hb h1,bE h.ds hb h2,h.few,h.fit⟩
theorem LM.setRow (w:World) (xb:Nat) (cs:Array Value):LM (fun k=>k=xb) w (w.setRow xb cs):=by
 have hz:(w.setRow xb cs).heap.size=w.heap.size:=by simp [World.setRow]
 exact ⟨rfl,rfl,rfl,mOm,fun k _ hs=>by simp [World.setRow,Array.getElem?_modify,Ne.symm hs]⟩
end
section
open Go Go.Proofs Go.RowKit Go.Maps Go.Sort Go.Lib
section
variable {P:Program} {o:Oper} {a:Act} {w:World} {next:Act→World→Prop} {Q:Exit→Act→World→Prop} {l n:Nat}
theorem Ea {row:String} {args:Array Value} {R:Value→World→Prop} (h:Rows P row args w R):RowsIn (Fence.wide.inRound l) n P row args w R:=
 fun c cs _=>let ⟨v,w',r,s⟩:=h c cs;⟨v,w',r,stepsIn_wide.2 s⟩
theorem Cr (hd:∀ c,o.op ≠ .defer c) (h:o.wp P a w next Q):o.wpIn (Fence.wide.inRound l) n P a w next Q:=by
 unfold Oper.wp at h;unfold Oper.wpIn;refine ⟨fun _ _=>trivial,?_⟩;rw [Oper.semAt_plain _ _ _ hd];have hdp:(Fence.wide.inRound l).depth.isSome=true→1≤n:=fun hh=>by simp [Fence.wide] at hh
 generalize (execOp a.eval o).run P w=r at h ⊢
 cases r with
 | ok x w' =>
  cases x with
  | value v=>exact h
  | skip=>exact h
  | defer d=>exact h
  | enter f args=>exact ⟨hdp,CallsIn.inRound l (callsIn_wide.2 h)⟩
  | row row args=>exact ⟨hdp,Ea h⟩
  | _=>exact (h:False).elim
 | halt hh w' =>
  cases hh with
  | panic v=>exact h
  | _=>exact (h:False).elim
theorem nJ {ops:Array Oper} (hd:∀ (j:Nat) (o:Oper),ops[j]? = JV o→∀ c,o.op ≠ .defer c) (hQ:¬ LetsOut Q):∀ (is:List Nat) (a:Act) (w:World),wpOps P ops Q is a w→wpOpsIn (Fence.wide.inRound l) n P ops Q is a w
 | [],_,_,h=>h
 | i::is,a,w,h=>by
  unfold wpOps at h;unfold wpOpsIn
  cases ho:ops[i]? with
  | none =>
   rw [ho] at h;exact nJ hd hQ is a w h
  | some o =>
   rw [ho] at h;dsimp only at h ⊢
   split at h
   ·rename_i hw
    rw [if_pos hw]
    rcases h with h | h
    ·exact Cr (hd i o ho) (Oper.wp_mono (fun a w h=>nJ hd hQ is a w h) h)
    ·exact absurd h.2 hQ
   ·rename_i hw
    rw [if_neg hw]
    exact ⟨fun _ _=>trivial,nJ hd hQ is _ w h⟩
theorem me {F:Fence} {c:Code} {K:Act→World→Prop} (h:c.wpIn F n P (bj K) a w) (hk:∀ a w,K a w→Q .normal a w):c.wpIn F n P Q a w:=
 Code.wpIn_mono (fun e a w h=>by cases e <;> first | exact hk _ _ h | exact (h:False).elim) h
theorem kJ {ops:Array Oper} {S:World→Prop} {K:Act→World→Prop} {id:Nat} {a:Act} {w:World} (σ:List (Nat×Bool)) (hm:P.follows .mixedOrders=true) (hs:Region.noSelect ops=true) (hd:ops.all (fun o=>match o.op with | .defer _=>false | _=>true)=true)
  (hf:lr .any ops (fD ops.size false) σ=true) (hl:σ.length≤ops.size) (hS:S w.drew) (h:aO P ops (bj K) S σ a w.drew):(Code.region id ops true).wpIn (Fence.wide.inRound l) n P (bj K) a w:=
 wpIn_region_draw fun t=>by
  simp only [Region.schedule,hm,Bool.true_or,if_true];refine nJ (fun j o ho c e=>?_) (fun ⟨_,_,h⟩=>h) _ _ _ (wpAny_sound ops.size t _ a _ (wpAny_of_held _ _ _ _ (mE hs (fun _ _ _ _ _ h=>h) σ _ _ a w.drew hf hl hS h)));have hm2:=Array.all_eq_true.1 hd j (by rcases Array.getElem?_eq_some_iff.1 ho with ⟨h,_⟩;exact h);rcases Array.getElem?_eq_some_iff.1 ho with ⟨_,rfl⟩;rw [e] at hm2
  cases hm2
end
end
section
open Go Go.RowKit Go.Sort
def Bld (B b:Nat) (l:List UInt8) (w:World):Prop:=Lib.IsBuilderF 158 5 B b (it l) w∧B≤w.heap.size
abbrev xG (b:Nat) (w w':World):Prop:=Lib.OthersKept 5 (JV b) w w'
theorem wB {b:Nat} {w w':World} (h:xG b w w') {k:Nat} {cs:Array Value} {t:TypeId} {fz:Nat×Nat} (hk:w.heap[k]? = JV (JU cs t fz)) (hb:k ≠ b) (ht:t ≠ 5):w'.heap[k]? = JV (JU cs t fz):=
 h k _ hk (by simpa using hb) (by intro c f e;injection e with _ e2;exact ht e2)
theorem Bld.new (w:World):Bld w.heap.size w.heap.size [] (w.alloc (JU #[.pointer JW,JR JW 0 0] 158)):=
 ⟨Lib.IsBuilderF.of (Lib.fresh_isBuilder _ _ w),mSi⟩
theorem Bld.lt {B b:Nat} {l:List UInt8} {w:World} (h:Bld B b l w):b < w.heap.size:=by
 rcases h.1 with h | h <;> exact h.lt
theorem ub {T e B b:Nat} {p:Value} {bs:List Value} {w w':World} (h:Lib.BuilderAtF T e B b p bs w) (hb:Below w.heap.size w w'):Lib.BuilderAtF T e B b p bs w':=by
 obtain ⟨hB,v,hh,ho,hn⟩:=h;have hlt:b < w.heap.size:=by
  rcases gH b w.heap.size with h' | h'
  ·exact h'
  ·rw [fC h'] at hh;cases hh
 refine ⟨hB,v,by rw [hb.block b hlt];exact hh,?_,hn⟩
 exact ho.kept (row:=JW) ⟨hb.os,hb.tape,hb.output,hb.size,fun k hk _=>hb.block k hk⟩ (by cases hv:v.ownBlock <;> simp)
theorem Bld.below {B b:Nat} {l:List UInt8} {w w':World} (h:Bld B b l w) (hb:Below w.heap.size w w'):Bld B b l w':=
 ⟨h.1.elim (fun h=>.inl (ub h hb)) (fun h=>.inr (ub h hb)),bu h.2 hb.size⟩
theorem Bld.alloc {B b:Nat} {l:List UInt8} {w:World} (h:Bld B b l w) (o:Obj):Bld B b l (w.alloc o):=h.below ((Below.refl _ _).alloc (aD _) _)
theorem wY (l m:List UInt8):it l++Lib.strCells ⟨m.toArray⟩=it (l++m):=by simp [it,Lib.strCells]
theorem qM (B b:Nat) (l m:List UInt8) (w:World) (h:Bld B b l w) (hlen:l.length+m.length≤1000000000) :
  Calls prog 96 #[JS (JV ⟨b,0,JW⟩),JQ ⟨m.toArray⟩] w fun e w'=>e=JT (.tuple #[JO JP m.length,.nilIface])∧Bld B b (l++m) w'∧Below B w w'∧xG b w w':=by
 have h1:(⟨m.toArray⟩:ByteArray).size=m.length:=by simp [ByteArray.size]
 have:=Tryz.Builder_WriteString_k B b (it l) ⟨m.toArray⟩ w h.1 (by rw [Lib.byteCells_length,h1];omega) h.2;rw [h1] at this;exact this.mono fun e w' ⟨he,hb,hl,hk⟩=>⟨he,⟨.inr (by rw [← wY];exact hb),bu h.2 hl.size⟩,hl,hk⟩
theorem uc (B b:Nat) (l:List UInt8) (w:World) (h:Bld B b l w) :
  Calls prog 99 #[JS (JV ⟨b,0,JW⟩)] w fun e w'=>e=JT (JQ ⟨l.toArray⟩)∧Bld B b l w'∧Below B w w'∧xG b w w':=
 (Tryz.Builder_String_any_k B b l w h.1 h.2).mono fun _e _w' ⟨he,hb,hl,hk⟩=>⟨he,⟨hb,bu h.2 hl.size⟩,hl,hk⟩
end
section
open Go Go.RowKit Go.Sort
structure Ent where
 id:Int
 school:Int
 student:Int
 kind:Int
 day:Int
 on:Int
 course:ByteArray
 credits:Int
 grade:Int
 ref:Int
 fro:Int
 programme:Int
 version:Int
 key:Int
 mark:ByteArray
def I64 (n:Int):Prop:=-9223372036854775808≤n∧n≤9223372036854775807
structure Ent.Ok (e:Ent):Prop where
 id:I64 e.id
 school:I64 e.school
 student:I64 e.student
 kind:I64 e.kind
 day:I64 e.day
 on:I64 e.on
 credits:I64 e.credits
 grade:I64 e.grade
 ref:I64 e.ref
 fro:I64 e.fro
 programme:I64 e.programme
 version:I64 e.version
 key:I64 e.key
 course:e.course.size≤100000
 mark:e.mark.size≤100000
@[reducible] def Ent.val (e:Ent):Value:=.agg #[JO JP e.id,JO JP e.school,JO JP e.student,JO JP e.kind,JO JP e.day,JO JP e.on,JQ e.course,JO JP e.credits,JO JP e.grade,JO JP e.ref,JO JP e.fro,JO JP e.programme,JO JP e.version,JO JP e.key,JQ e.mark]
def Ent.ints1 (e:Ent):List Int:=[e.id,e.school,e.student,e.kind,e.day,e.on]
def Ent.ints2 (e:Ent):List Int:=[e.credits,e.grade,e.ref,e.fro,e.programme,e.version,e.key]
def fu (l:List Int):List UInt8:=l.flatMap dj
def Ent.body (e:Ent):List UInt8:=fu e.ints1++d8 e.course++fu e.ints2
def Ent.code (e:Ent):List UInt8:=e.body++d8 e.mark
theorem CR (l:List Int) (n:Int):fu (l++[n])=fu l++dj n:=by simp [fu]
theorem mM (l:List Int) (k:Nat) (h:k < l.length):fu (l.take (k+1))=fu (l.take k)++dj (l.getD k 0):=by rw [List.take_succ_eq_append_getElem h,CR,bi,ai h];rfl
theorem jb (l:List Int) (h:∀ n∈l,I64 n):(fu l).length≤22*l.length:=by
 induction l with
 | nil=>simp [fu]
 | cons a l ih =>
  have h1:=ez a (h a mSi).1 (h a mSi).2;have h2:=ih (fun n hn=>h n (by simp [hn]));simp only [fu,List.flatMap_cons,ax,bA] at *;omega
theorem ng {l:List Int} {k:Nat} (h:k < l.length):l.getD k 0∈l:=by rw [bi,ai h];simp
theorem Ent.Ok.ints1 {e:Ent} (h:e.Ok):∀ n∈e.ints1,I64 n:=by
 obtain ⟨a,b,c,d,f,g,_⟩:=h;simp only [Ent.ints1,cR,et,or_false];rintro n (rfl | rfl | rfl | rfl | rfl | rfl) <;> assumption
theorem Ent.Ok.ints2 {e:Ent} (h:e.Ok):∀ n∈e.ints2,I64 n:=by
 obtain ⟨_,_,_,_,_,_,a,b,c,d,f,g,i,_⟩:=h;simp only [Ent.ints2,cR,et,or_false];rintro n (rfl | rfl | rfl | rfl | rfl | rfl | rfl) <;> assumption
def L0 (w:World) (b:Nat) (l:List Int):Prop:=w.heap[b]? = JV (JU (l.map (Value.int JP)).toArray 3 (0,0))
theorem L0.cell {w:World} {b:Nat} {l:List Int} (h:L0 w b l) {k:Nat} (hk:k < l.length):w.cell? ⟨b,k,JW⟩=JV (JO JP (l.getD k 0)):=by unfold L0 at h;rw [ae h];simp [bi,ai hk]
theorem L0.kept {w w':World} {b c:Nat} {l:List Int} (h:L0 w b l) (hk:xG c w w') (hb:b ≠ c):L0 w' b l:=wB hk h hb mDe
theorem ay {w:World} {b:Nat} {o:Obj} (h:w.heap[b]? = JV o):b < w.heap.size:=by
 rcases gH b w.heap.size with h' | h'
 ·exact h'
 ·rw [fC h'] at h;cases h
theorem L0.below {w w':World} {b:Nat} {l:List Int} (h:L0 w b l) (hk:Below w.heap.size w w'):L0 w' b l:=by unfold L0 at *;rw [hk.block b (ay h)];exact h
def Ent.cells (e:Ent):Array Value:=#[JO JP e.id,JO JP e.school,JO JP e.student,JO JP e.kind,JO JP e.day,JO JP e.on,JQ e.course,JO JP e.credits,JO JP e.grade,JO JP e.ref,JO JP e.fro,JO JP e.programme,JO JP e.version,JO JP e.key,JQ e.mark]
def LN (w:World) (b:Nat) (e:Ent):Prop:=w.heap[b]? = JV (JU e.cells 67 (0,0))
theorem LN.kept {w w':World} {b c:Nat} {e:Ent} (h:LN w b e) (hk:xG c w w') (hb:b ≠ c):LN w' b e:=wB hk h hb mDe
theorem LN.below {w w':World} {b:Nat} {e:Ent} (h:LN w b e) (hk:Below w.heap.size w w'):LN w' b e:=by unfold LN at *;rw [hk.block b (ay h)];exact h
theorem LN.cell {w:World} {b:Nat} {e:Ent} (h:LN w b e) (k:Nat):w.cell? ⟨b,k,JW⟩=e.cells[k]?:=ae h k
theorem size_alloc (w:World) (o:Obj):(w.alloc o).heap.size=w.heap.size+1:=mSi
theorem L0.new (w:World) (l:List Int):L0 (w.alloc (JU (l.map (Value.int JP)).toArray 3)) w.heap.size l:=heap_alloc_new w _
theorem LN.new (w:World) (e:Ent):LN (w.alloc (JU e.cells 67)) w.heap.size e:=heap_alloc_new w _
theorem EE (e:Ent) (h:e.Ok) (w:World) (ht:Tabs w) :
  Calls prog 42 #[e.val] w fun x w'=>x=JT (JQ ⟨e.body.toArray⟩)∧Below w.heap.size w w':=by
 have hl1:=jb e.ints1 h.ints1;have hl2:=fB e.course (by have:=h.course;omega);have hl3:e.ints1.length=6:=rfl;have hcs:=h.course;go_enter func42,ntmps42;go_wp2
 go_loopw [22] (fun i wr=>∃ k:Nat,k≤6∧i=JO JP k∧Bld (w.heap.size+1) (w.heap.size+1) (fu (e.ints1.take k)) wr∧Below w.heap.size w wr∧LN wr w.heap.size e∧L0 wr (w.heap.size+1+1) e.ints1) (fun i _=>6 - (intOf i).toNat)
 case atStart =>
  refine ⟨0,mOm,rfl,?_,?_,?_,?_⟩
  ·have:=(Bld.new (w.alloc (JU e.cells 67))).alloc (JU (e.ints1.map (Value.int JP)).toArray 3);rw [size_alloc] at this;exact this
  ·exact (((Below.refl _ _).alloc (aD _) _).alloc mSi _).alloc (by simp;omega) _
  ·exact ((LN.new w e).below (au _ _)).below (au _ _)
  ·have:=L0.new ((w.alloc (JU e.cells 67)).alloc (JU #[.pointer JW,JR JW 0 0] 158)) e.ints1;rw [size_alloc,size_alloc] at this;exact this
 case round =>
  obtain ⟨k,hk,rfl,hbl,hbe,hbox,hrow⟩:=hrel;by_cases hlt:k < 6
  ·have hc:=hrow.cell (k:=k) (by simpa [Ent.ints1] using hlt);have hi:=h.ints1 _ (ng (l:=e.ints1) (k:=k) (by simpa [Ent.ints1] using hlt));have htr:=ht.below hbe;have hlen:=jb (e.ints1.take k) (fun n hn=>h.ints1 n (cT hn));have hlen2:(e.ints1.take k).length≤6:=by simp [Ent.ints1];omega
   have H:=aa (mM e.ints1 k (by simpa [Ent.ints1] using hlt));generalize e.ints1.getD k 0=n at hc hi H;have hwl:=ez n hi.1 hi.2;go_wp2_with fail;refine (jA n _ hi.1 hi.2 htr).mono ?_;rintro x w1 ⟨rfl,hb1⟩;go_wp2_with fail;refine (qM _ _ _ (dj n) _ (hbl.below hb1) mOm).mono ?_;rintro x w2 ⟨rfl,hbl2,hb2,hk2⟩;go_wp2_with fail
   go_roundw
   case rel=>exact ⟨k+1,mOm,by go_num,by rw [H.out];exact hbl2,(hbe.trans (hb1.mono hbe.size)).trans (hb2.mono mOm),(hbox.below hb1).kept hk2 mOm,(hrow.below hb1).kept hk2 mOm⟩
   case measure=>simp [intOf];omega
  ·obtain rfl:k=6:=mOm;have e6:e.ints1.take 6=e.ints1:=rfl;rw [e6] at hbl;clear hlt hk e6;have hc6:wr.cell? ⟨w.heap.size,6,JW⟩=JV (JQ e.course):=hbox.cell 6;go_wp2_with fail;refine (nx e.course _ mOm (ht.below hbe)).mono ?_;rintro x w1 ⟨rfl,hb1⟩;go_wp2_with fail;refine (qM _ _ _ (d8 e.course) _ (hbl.below hb1) mOm).mono ?_;rintro x w2 ⟨rfl,hbl2,hb2,hk2⟩;have hbe2:=(hbe.trans (hb1.mono hbe.size)).trans (hb2.mono mOm);have hbox2:=(hbox.below hb1).kept hk2 mOm;clear hbl hb1 hb2 hk2 hbe hbox hrow hc6;have hc7:w2.cell? ⟨w.heap.size,7,JW⟩=JV (JO JP e.credits):=hbox2.cell 7;have hc8:w2.cell? ⟨w.heap.size,8,JW⟩=JV (JO JP e.grade):=hbox2.cell 8;have hc9:w2.cell? ⟨w.heap.size,9,JW⟩=JV (JO JP e.ref):=hbox2.cell 9;have hc10:w2.cell? ⟨w.heap.size,10,JW⟩=JV (JO JP e.fro):=hbox2.cell 10;have hc11:w2.cell? ⟨w.heap.size,11,JW⟩=JV (JO JP e.programme):=hbox2.cell 11;have hc12:w2.cell? ⟨w.heap.size,12,JW⟩=JV (JO JP e.version):=hbox2.cell 12;have hc13:w2.cell? ⟨w.heap.size,13,JW⟩=JV (JO JP e.key):=hbox2.cell 13;go_wp2_with fail;clear hc7 hc8 hc9 hc10 hc11 hc12 hc13
   go_loopw [50] (fun i wr=>∃ k:Nat,k≤7∧i=JO JP k∧Bld (w.heap.size+1) (w.heap.size+1) (fu e.ints1++d8 e.course++fu (e.ints2.take k)) wr∧Below w.heap.size w wr∧L0 wr w2.heap.size e.ints2) (fun i _=>7 - (intOf i).toNat)
   case atStart =>
    refine ⟨0,mOm,rfl,?_,hbe2.trans ((au _ _).mono hbe2.size),L0.new w2 e.ints2⟩;have:=hbl2.alloc (JU (e.ints2.map (Value.int JP)).toArray 3);have e0:fu (e.ints2.take 0)=[]:=rfl;rw [e0,List.append_nil];exact this
   case round =>
    have hlt2:=hbl2.lt;clear hbe2 hbox2 hbl2;obtain ⟨k,hk,rfl,hbl,hbe,hrow⟩:=hrel;have hl4:e.ints2.length=7:=rfl;by_cases hlt:k < 7
    ·have hc:=hrow.cell (k:=k) (by simpa [Ent.ints2] using hlt);have hi:=h.ints2 _ (ng (l:=e.ints2) (k:=k) (by simpa [Ent.ints2] using hlt));have htr:=ht.below hbe;have hlen:=jb (e.ints2.take k) (fun n hn=>h.ints2 n (cT hn));have hlen2:(e.ints2.take k).length≤7:=by simp [Ent.ints2];omega
     have H:=aa (mM e.ints2 k (by simpa [Ent.ints2] using hlt));generalize e.ints2.getD k 0=n at hc hi H;have hwl:=ez n hi.1 hi.2;go_wp2_with fail;refine (jA n _ hi.1 hi.2 htr).mono ?_;rintro x w1 ⟨rfl,hb1⟩;go_wp2_with fail;refine (qM _ _ _ (dj n) _ (hbl.below hb1) (by simp only [ax];omega)).mono ?_;rintro x w3 ⟨rfl,hbl3,hb3,hk3⟩;go_wp2_with fail
     go_roundw
     case rel=>exact ⟨k+1,mOm,by go_num,by rw [H.out,← List.append_assoc];exact hbl3,(hbe.trans (hb1.mono hbe.size)).trans (hb3.mono mOm),(hrow.below hb1).kept hk3 mOm⟩
     case measure=>simp [intOf];omega
    ·obtain rfl:k=7:=mOm;have e7:e.ints2.take 7=e.ints2:=rfl;rw [e7] at hbl;clear hlt hk e7 hrow;go_wp2_with fail;refine (uc _ _ _ _ hbl).mono ?_;rintro x w3 ⟨rfl,_,hb3,_⟩;go_wp2_with fail;go_ret;exact ⟨cJ (by simp [Ent.body]),hbe.trans (hb3.mono mOm)⟩
theorem lR (e:Ent) (h:e.Ok):e.body.length≤e.course.size+400:=by have hl1:=jb e.ints1 h.ints1;have hl2:=fB e.course (by have:=h.course;omega);have hl3:=jb e.ints2 h.ints2;have h1:e.ints1.length=6:=rfl;have h2:e.ints2.length=7:=rfl;simp only [Ent.body,ax];omega
def EntAt (w:World) (b o:Nat) (e:Ent):Prop:=w.rangeAt b o e.cells.toList
theorem LN.at_ {w:World} {b:Nat} {e:Ent} (h:LN w b e):EntAt w b 0 e:=by intro j v hv;rw [bM,h.cell j];simpa using hv
theorem EntAt.below {w w':World} {B b o:Nat} {e:Ent} (h:EntAt w b o e) (hb:Below B w w') (hB:b < B):EntAt w' b o e:=fun j v hv=>by
 rw [hb.cell (p:=⟨b,o+j,JW⟩) hB];exact h j v hv
theorem EntAt.cell {w:World} {b o:Nat} {e:Ent} (h:EntAt w b o e) (j:Nat) {v:Value} (hv:e.cells.toList[j]? = JV v):w.cell? ⟨b,o+j,JW⟩=JV v:=h j v hv
theorem E9 (w:World) (b o:Nat) (e:Ent) (h:EntAt w b o e):(Instr.loadAt 67 (JS (JV ⟨b,o,JW⟩))).run prog w=.ok e.val w:=
 run_loadAt_mid w b o 67 e.cells.toList _ h underlying67 rfl mKr
theorem LN.of_cells {b:Nat} {e:Ent} {W w w':World} (h:Below W.heap.size W w∧∀ j,w.cell? ⟨b,j,JW⟩=e.cells[j]?) (hb:Below w.heap.size w w'):Below W.heap.size W w'∧∀ j,w'.cell? ⟨b,j,JW⟩=e.cells[j]?:=by
 have h0:w.cell? ⟨b,0,JW⟩=JV (JO JP e.id):=h.2 0;have hlt:b < w.heap.size:=am w _ h0;exact ⟨h.1.trans (hb.mono h.1.size),fun j=>(hb.cell (p:=⟨b,j,JW⟩) hlt).trans (h.2 j)⟩
attribute [local go_sem] Ent.cells
end
section
open Go Go.RowKit Go.Sort Go.Lib
def fW (r:Nat):Bool:=(decide (r < 65)||decide (90 < r))&&(decide (r < 48)||decide (57 < r))
def ie (l:List UInt8):Bool:=decide (1≤l.length)&&decide (l.length≤8)&&l.all (fun c=>!fW c.toNat)
theorem vg (r:Nat) (h:128≤r):fW r=true:=by have a:90 < r:=mOm;have b:57 < r:=mOm;simp [fW,a,b]
theorem GO (s:ByteArray) (f pos:Nat) (hf:s.size≤f+pos):decide (gS fW true s f pos < 0)=(s.data.toList.drop pos).all (fun c=>!fW c.toNat):=by
 induction f generalizing pos with
 | zero =>
  have h1:s.data.toList.drop pos=[]:=eE (by rw [← bw];omega);rw [h1];simp [gS]
 | succ f ih =>
  by_cases hp:pos < s.size
  ·have hl:pos < s.data.toList.length:=by rw [← bw];exact hp
   have hg:s.data.toList[pos]'hl=s[pos]'hp:=rfl;rw [List.drop_eq_getElem_cons hl,List.all_cons,hg];unfold gS;rw [if_pos hp];by_cases ha:(s[pos]'hp).toNat < 128
   ·rw [decode_ascii s pos hp ha];by_cases hw:fW (s[pos]'hp).toNat=true
    ·rw [if_pos hw,hw];simp
    ·have hw':fW (s[pos]'hp).toNat=false:=by simpa using hw
     rw [if_neg hw,hw',ih (pos+1) mOm];simp
   ·have hd:=decode_high s pos hp mOm;have hw:=vg _ hd.1;have hw2:=vg (s[pos]'hp).toNat mOm;rw [if_pos hw,hw2];simp
  ·have h1:s.data.toList.drop pos=[]:=eE (by rw [← bw];omega);rw [h1,Lib.idxFuncFrom_end _ _ _ _ _ hp];rfl
theorem Cs (w:World):PredAt prog 263 #[] encR fW w:=fun W r _=>by
 unfold FnGives;by_cases h1:r < 65 <;> by_cases h2:90 < r <;> by_cases h3:r < 48 <;> by_cases h4:57 < r
 all_goals first | (exfalso;omega) | skip
 all_goals
  go_enter func263,ntmps263
  go_wp2
  all_goals first | (exfalso;omega) | (go_ret;exact ⟨by simp [fW,h1,h2,h3,h4] <;> omega,0,rfl⟩)
theorem EP (s:ByteArray) (w:World) (hs:s.size≤9223372036854775807) :
  Calls prog 236 #[JQ s] w fun e w'=>e=JT (.bool (ie s.data.toList))∧Below w.heap.size w w':=by
 have hC:=fun W=>Tryz.strings_IndexFunc 263 #[] (enters_of func263 mKr rfl) fW s W (Cs W)
 have hi:=GO s s.size 0 mOm;have hsz:=bw s;have hz:Lib.idxFunc fW true s=gS fW true s s.size 0:=rfl;rw [← hz,List.drop_zero] at hi;clear hz;by_cases h0:s.data.toList=[]
 ·have hr:ie s.data.toList=false:=by simp [ie,h0]
  have h1:(!s.toList.isEmpty)=false:=by rw [ByteArray.toList_eq];simp [h0]
  have h2:s.toList=[]:=by rw [ByteArray.toList_eq];exact h0
  have H:=aa hr;clear hr hC hi h0 hsz;go_enter func236,ntmps236;go_wp2_with fail;go_ret;exact ⟨bX H.out.symm,Below.refl _ _⟩
 ·have h1:(!s.toList.isEmpty)=true:=by rw [ByteArray.toList_eq];simpa using h0
  have h2:¬ s.toList=[]:=by rw [ByteArray.toList_eq];exact h0
  by_cases h8:s.size≤8
  ·have hr:ie s.data.toList=s.data.toList.all (fun c=>!fW c.toNat):=by
    have:1≤s.data.toList.length:=by rcases h:s.data.toList with _ | ⟨a,l⟩;exact absurd h h0;simp
    have h9:s.data.toList.length≤8:=mOm;simp only [ie,this,h9,decide_true,Bool.true_and]
   rw [← hi] at hr
   have H:=aa hr;clear hr hi h0 hsz;go_enter func236,ntmps236;go_wp2_with fail;refine (hC _).mono ?_;rintro x w1 ⟨rfl,hb⟩;go_wp2_with fail;go_ret;exact ⟨bX H.out.symm,hb⟩
  ·have hr:ie s.data.toList=false:=by
    have h9:¬ s.data.toList.length≤8:=mOm;simp only [ie,h9,decide_false,Bool.and_false,Bool.false_and]
   have H:=aa hr
   clear hr hC hi h0 hsz;go_enter func236,ntmps236;go_wp2_with fail;go_ret;exact ⟨bX H.out.symm,Below.refl _ _⟩
theorem Ez (l:List UInt8) (k:Nat) (h:k < l.length) (p:UInt8→Bool):(l.take (k+1)).all p=((l.take k).all p&&p l[k]):=by rw [List.take_succ_eq_append_getElem h,List.all_append];simp
theorem zV (s:ByteArray) (w:World) (hs:s.size≤9223372036854775807) :
    Calls prog 180 #[JQ s] w fun e w'=>e=JT (.bool (ie s.data.toList))∧w=w':=by
  go_enter func180,ntmps180;go_wp2_with fail
  go_loop [3] (fun i=>∃ k:Nat,k≤s.size∧i=JO JP k∧Hid ((s.data.toList.take k).all (fun c=>!fW c.toNat)=true)) (fun i=>s.size - (intOf i).toNat)
  case atStart=>exact ⟨0,Nat.zero_le _,rfl,rfl⟩
  case round =>
    obtain ⟨k,hk,rfl,H⟩:=hrel;by_cases hlt:k < s.size
    · have hl:k < s.data.toList.length:=by rw [← bw];exact hlt
      have hts:=Ez s.data.toList k hl (fun c=>!fW c.toNat)
      have hg:s.data.toList[k]'hl=s[k]'hlt:=rfl;rw [hg] at hts;by_cases h1:(65:Int)≤(s[k].toNat:Int) <;> by_cases h2:(s[k].toNat:Int)≤90 <;> by_cases h3:(48:Int)≤(s[k].toNat:Int) <;> by_cases h4:(s[k].toNat:Int)≤57
      all_goals first | (exfalso;omega) | skip
      all_goals
        have h1':s[k].toNat < 65↔¬ (65:Int)≤(s[k].toNat:Int):=mOm
        have h2':90 < s[k].toNat↔¬ (s[k].toNat:Int)≤90:=mOm;have h3':s[k].toNat < 48↔¬ (48:Int)≤(s[k].toNat:Int):=mOm;have h4':57 < s[k].toNat↔¬ (s[k].toNat:Int)≤57:=mOm;have hw:fW s[k].toNat=((decide (s[k].toNat < 65)||decide (90 < s[k].toNat))&&(decide (s[k].toNat < 48)||decide (57 < s[k].toNat))):=rfl;simp only [h1',h2',h3',h4',h1,h2,h3,h4,not_true_eq_false,not_false_eq_true,decide_true,decide_false,Bool.or_true,Bool.or_false,Bool.and_true,Bool.and_false] at hw;have HT:=aa hts;have HW:=aa hw;clear hts hw h1' h2' h3' h4' hg;go_wp2_with fail
        first
          | (go_round
             case rel=>exact ⟨k+1,mOm,by go_num,by unfold Hid;rw [HT.out,HW.out,H.out];rfl⟩
             case measure=>simp [intOf];omega)
          | (go_ret
             exact ⟨bX (by
               have hall:s.data.toList.all (fun c=>!fW c.toNat)=false:=by
                 have h5:(s.data.toList.take (k+1)).all (fun c=>!fW c.toNat)=false:=by rw [HT.out,HW.out];simp
                 rw [← Bool.not_eq_true,ep] at h5 ⊢;exact fun h6=>h5 fun x hx=>h6 x (cT hx)
               simp [ie,hall]),rfl⟩)
    · obtain rfl:k=s.size:=mOm
      have e1:s.data.toList.take s.size=s.data.toList:=by rw [bw];exact List.take_length
      rw [e1] at H;clear hlt e1 hk;by_cases hs1:1≤s.size
      · have hs1':(1:Int)≤(s.size:Int):=mOm
        go_wp2_with fail
        go_ret;exact ⟨bX (by simp only [ie,H.out,← bw];simp [hs1];omega),rfl⟩
      · have hs0:s.data.toList=[]:=by rw [← List.length_eq_zero_iff,← bw];omega
        have HS:=aa hs0
        clear hs0;go_wp2_with fail;go_ret;exact ⟨bX (by rw [HS.out];rfl),rfl⟩
end
section
open Go Go.RowKit
theorem AE (n m:Int):(n.tmod m+m)%m=n%m:=by
 rw [Int.add_emod_right];by_cases hn:0≤n
 ·rw [bQ hn,Int.emod_emod_of_dvd _ (Int.dvd_refl m)]
 ·have h1:n.tmod m = -((-n)%m):=by
   rw [← bQ mOm,Int.neg_tmod,Int.neg_neg]
  have h2:=Int.emod_add_mul_ediv n m
  have h3:=Int.tmod_add_mul_tdiv n m;have e:n.tmod m=n%m+m*(n / m - n.tdiv m):=by rw [Int.mul_sub];omega
  rw [e,Int.add_mul_emod_self_left,Int.emod_emod_of_dvd _ (Int.dvd_refl m)]
theorem vE (n m:Int) (w:World) (hm:0 < m) (hm2:m≤1000000) :
  Calls prog 37 #[JO JP n,JO JP m] w fun e w'=>e=JT (JO JP (n%m))∧w=w':=by
 have hlo:=Int.lt_tmod_of_pos n hm;have hhi:=Int.tmod_lt_of_pos n hm;have hne:(m==0)=false:=by simp;omega
 have H:=aa (AE n m);go_enter func37,ntmps37;go_wp2
 go_ret;exact ⟨aI H.out,rfl⟩
def cz (n lo hi:Int):Bool:=decide (n < lo)||decide (hi < n)
theorem fX (n lo hi:Int) (w:World) :
  Calls prog 232 #[JO JP n,JO JP lo,JO JP hi] w fun e w'=>e=JT (.bool (cz n lo hi))∧w=w':=by
 by_cases h:n < lo
 ·have hd:decide (n < lo)=true:=by simpa using h
  go_enter func232,ntmps232;go_wp2
  go_ret;exact ⟨bX (by simp [cz,hd]),rfl⟩
 ·have hd:decide (n < lo)=false:=by simpa using h
  go_enter func232,ntmps232;go_wp2
  go_ret;exact ⟨bX (by simp [cz,hd]),rfl⟩
def aB (n lo hi:Int):Bool:=decide (lo≤n)&&decide (n≤hi)
theorem fN (n lo hi:Int) (w:World) :
  Calls prog 115 #[JO JP n,JO JP lo,JO JP hi] w fun e w'=>e=JT (.bool (aB n lo hi))∧w=w':=by
 by_cases h:lo≤n
 ·have hd:decide (lo≤n)=true:=by simpa using h
  go_enter func115,ntmps115;go_wp2
  go_ret;exact ⟨bX (by simp [aB,hd]),rfl⟩
 ·have hd:decide (lo≤n)=false:=by simpa using h
  go_enter func115,ntmps115;go_wp2
  go_ret;exact ⟨bX (by simp [aB,hd]),rfl⟩
def cL (k:Int):Int:=if k=1∨k=8 then 32 else if k=2 then 96 else if k=3 then 7 else if k=4 then 12 else if k=5∨k=6∨k=9 then 8 else if k=7 then 16 else 0
theorem AA (k:Int) (w:World) :
  Calls prog 234 #[JO JP k] w fun e w'=>e=JT (JO JP (cL k))∧w=w':=by
 go_enter func234,ntmps234;go_wp2
 all_goals go_ret
 all_goals exact ⟨aI (by simp_all [cL]),rfl⟩
end
section
open Go Go.RowKit Go.Sort Go.Lib
theorem EH (e:Ent) (h:e.course.size≤1000000) (b:Nat) (w:World) (hb:LN w b e) :
  Calls prog 235 #[JS (JV ⟨b,0,JW⟩)] w fun x w'=>x=JT (.bool (!ie e.course.data.toList))∧Below w.heap.size w w':=by
 have hc:w.cell? ⟨b,6,JW⟩=JV (JQ e.course):=hb.cell 6;go_enter func235,ntmps235;go_wp2_with fail;refine (EP e.course _ mOm).mono ?_;rintro x w1 ⟨rfl,hb1⟩;go_wp2_with fail;go_ret;exact ⟨rfl,hb1⟩
theorem EI (e:Ent) (b:Nat) (w:World) (hb:LN w b e) :
  Calls prog 237 #[JS (JV ⟨b,0,JW⟩)] w fun x w'=>x=JT (.bool (cz e.credits 1 60))∧w=w':=by
 have hc:w.cell? ⟨b,7,JW⟩=JV (JO JP e.credits):=hb.cell 7;go_enter func237,ntmps237;go_wp2_with fail;refine (fX _ _ _ _).mono ?_;rintro x w1 ⟨rfl,rfl⟩;go_wp2_with fail;go_ret;exact ⟨rfl,rfl⟩
theorem EJ (e:Ent) (b:Nat) (w:World) (hb:LN w b e) :
  Calls prog 238 #[JS (JV ⟨b,0,JW⟩)] w fun x w'=>x=JT (.bool (cz e.grade (-1000) 1000))∧w=w':=by
 have hc:w.cell? ⟨b,8,JW⟩=JV (JO JP e.grade):=hb.cell 8;go_enter func238,ntmps238;go_wp2_with fail;refine (fX _ _ _ _).mono ?_;rintro x w1 ⟨rfl,rfl⟩;go_wp2_with fail;go_ret;exact ⟨rfl,rfl⟩
theorem EK (e:Ent) (b:Nat) (w:World) (hb:LN w b e) :
  Calls prog 239 #[JS (JV ⟨b,0,JW⟩)] w fun x w'=>x=JT (.bool (decide (e.programme < 1)))∧w=w':=by
 have hc:w.cell? ⟨b,11,JW⟩=JV (JO JP e.programme):=hb.cell 11;go_enter func239,ntmps239;go_wp2_with fail;go_ret;exact ⟨rfl,rfl⟩
theorem EM (e:Ent) (b:Nat) (w:World) (hb:LN w b e) :
  Calls prog 240 #[JS (JV ⟨b,0,JW⟩)] w fun x w'=>x=JT (.bool (decide (e.version < 1)))∧w=w':=by
 have hc:w.cell? ⟨b,12,JW⟩=JV (JO JP e.version):=hb.cell 12;go_enter func240,ntmps240;go_wp2_with fail;go_ret;exact ⟨rfl,rfl⟩
theorem EN (e:Ent) (b:Nat) (w:World) (hb:LN w b e) :
  Calls prog 241 #[JS (JV ⟨b,0,JW⟩)] w fun x w'=>x=JT (.bool (cz e.fro 1 8||e.fro==e.school))∧w=w':=by
 have hc:w.cell? ⟨b,10,JW⟩=JV (JO JP e.fro):=hb.cell 10;have hc1:w.cell? ⟨b,1,JW⟩=JV (JO JP e.school):=hb.cell 1
 cases hbb:cz e.fro 1 8
 all_goals
  go_enter func241,ntmps241
  go_wp2_with fail;refine (fX _ _ _ _).mono ?_;rintro x w1 ⟨rfl,rfl⟩;go_wp2_with fail;go_ret;exact ⟨bX mSi,rfl⟩
theorem EO (e:Ent) (b:Nat) (w:World) (hb:LN w b e) :
  Calls prog 242 #[JS (JV ⟨b,0,JW⟩)] w fun x w'=>x=JT (.bool (cz e.ref 1 899999||e.ref==e.id))∧w=w':=by
 have hc:w.cell? ⟨b,9,JW⟩=JV (JO JP e.ref):=hb.cell 9;have hc1:w.cell? ⟨b,0,JW⟩=JV (JO JP e.id):=hb.cell 0
 cases hbb:cz e.ref 1 899999
 all_goals
  go_enter func242,ntmps242
  go_wp2_with fail;refine (fX _ _ _ _).mono ?_;rintro x w1 ⟨rfl,rfl⟩;go_wp2_with fail;go_ret;exact ⟨bX mSi,rfl⟩
def vk (l:List Bool):Nat→Int
 | 0=>0
 | k+1=>if l.getD k false then bits .or .i64 (vk l k) (2 ^ k:Nat) else vk l k
def Ent.some7 (e:Ent):List Bool:=[!e.course.toList.isEmpty,e.credits != 0,e.grade != 0,e.ref != 0,e.fro != 0,e.programme != 0,e.version != 0]
def kU (e:Ent):Int:=vk e.some7 7
theorem BW (e:Ent) (w:World) :
  Calls prog 233 #[e.val] w fun x w'=>x=JT (JO JP (kU e))∧Below w.heap.size w w':=by
 go_enter func233,ntmps233;go_wp2_with fail;have H7:Hid (kU e=vk [!e.course.toList.isEmpty,e.credits != 0,e.grade != 0,e.ref != 0,e.fro != 0,e.programme != 0,e.version != 0] 7):=rfl;generalize (!e.course.toList.isEmpty)=b0 at H7 ⊢;generalize (e.credits != 0)=b1 at H7 ⊢;generalize (e.grade != 0)=b2 at H7 ⊢;generalize (e.ref != 0)=b3 at H7 ⊢;generalize (e.fro != 0)=b4 at H7 ⊢;generalize (e.programme != 0)=b5 at H7 ⊢;generalize (e.version != 0)=b6 at H7 ⊢
 go_loop [3,29] (fun t i=>∃ (k:Nat) (m:Int),k≤7∧i=JO JP k∧t=JO JP m∧Hid (m=vk [b0,b1,b2,b3,b4,b5,b6] k)) (fun _ i=>7 - (intOf i).toNat)
 case atStart=>exact ⟨0,0,mOm,rfl,rfl,rfl⟩
 case round =>
  obtain ⟨k,m,hk,rfl,rfl,H⟩:=hrel;have hk8:k=0∨k=1∨k=2∨k=3∨k=4∨k=5∨k=6∨k=7:=mOm;rcases hk8 with rfl | rfl | rfl | rfl | rfl | rfl | rfl | rfl
  ·cases b0
   all_goals
    go_wp2_with fail
    go_round
    case rel=>exact ⟨1,_,mOm,rfl,rfl,by unfold Hid;rw [H.out];rfl⟩
    case measure=>simp [intOf]
  ·cases b1
   all_goals
    go_wp2_with fail
    go_round
    case rel=>exact ⟨2,_,mOm,rfl,rfl,by unfold Hid;rw [H.out];rfl⟩
    case measure=>simp [intOf]
  ·cases b2
   all_goals
    go_wp2_with fail
    go_round
    case rel=>exact ⟨3,_,mOm,rfl,rfl,by unfold Hid;rw [H.out];rfl⟩
    case measure=>simp [intOf]
  ·cases b3
   all_goals
    go_wp2_with fail
    go_round
    case rel=>exact ⟨4,_,mOm,rfl,rfl,by unfold Hid;rw [H.out];rfl⟩
    case measure=>simp [intOf]
  ·cases b4
   all_goals
    go_wp2_with fail
    go_round
    case rel=>exact ⟨5,_,mOm,rfl,rfl,by unfold Hid;rw [H.out];rfl⟩
    case measure=>simp [intOf]
  ·cases b5
   all_goals
    go_wp2_with fail
    go_round
    case rel=>exact ⟨6,_,mOm,rfl,rfl,by unfold Hid;rw [H.out];rfl⟩
    case measure=>simp [intOf]
  ·cases b6
   all_goals
    go_wp2_with fail
    go_round
    case rel=>exact ⟨7,_,mOm,rfl,rfl,by unfold Hid;rw [H.out];rfl⟩
    case measure=>simp [intOf]
  ·go_wp2_with fail;go_ret;exact ⟨aI (by rw [H.out,H7.out]),((Below.refl _ _).alloc (aD _) _).alloc mSi _⟩
def aY (hv:Int) (e:Ent) (k:Nat):Int:=
 if k≤0∧(bits .and JP hv 1 != 0)=true∧(!ie e.course.data.toList)=true then 12
 else if k≤1∧(bits .and JP hv 2 != 0)=true∧cz e.credits 1 60=true then 3
 else if k≤2∧(bits .and JP hv 4 != 0)=true∧cz e.grade (-1000) 1000=true then 3
 else if k≤3∧(bits .and JP hv 32 != 0)=true∧decide (e.programme < 1)=true then 3
 else if k≤4∧(bits .and JP hv 64 != 0)=true∧decide (e.version < 1)=true then 3
 else if k≤5∧(bits .and JP hv 16 != 0)=true∧(cz e.fro 1 8||e.fro==e.school)=true then 3
 else if k≤6∧(bits .and JP hv 8 != 0)=true∧(cz e.ref 1 899999||e.ref==e.id)=true then 21
 else 0
def dr (e:Ent):Int:=
 if (cz e.id 1 899999||cz e.school 1 8||cz e.student 1 999999)=true then 1
 else if (cz e.kind 1 9||bits .andNot JP (kU e) (cL e.kind) != 0)=true then 20
 else if (cz e.day 0 100000||cz e.on 0 e.day)=true then 23
 else aY (cL e.kind) e 0
end
section
open Go Go.RowKit Go.Sort Go.Lib
attribute [local go_sem] Ent.cells
def yP (b:Nat):Array Value:=#[JO JP 1,.func (.func 235) #[] #[JS (JV ⟨b,0,JW⟩)],JO JP 12,
 JO JP 2,.func (.func 237) #[] #[JS (JV ⟨b,0,JW⟩)],JO JP 3,
 JO JP 4,.func (.func 238) #[] #[JS (JV ⟨b,0,JW⟩)],JO JP 3,
 JO JP 32,.func (.func 239) #[] #[JS (JV ⟨b,0,JW⟩)],JO JP 3,
 JO JP 64,.func (.func 240) #[] #[JS (JV ⟨b,0,JW⟩)],JO JP 3,
 JO JP 16,.func (.func 241) #[] #[JS (JV ⟨b,0,JW⟩)],JO JP 3,
 JO JP 8,.func (.func 242) #[] #[JS (JV ⟨b,0,JW⟩)],JO JP 21]
def LX (w:World) (g b:Nat):Prop:=w.heap[g]? = JV (JU (yP b) 257 (0,0))
theorem LX.cell {w:World} {g b:Nat} (h:LX w g b) (k:Nat):w.cell? ⟨g,k,JW⟩=(yP b)[k]?:=ae h k
theorem LX.below {w w':World} {g b:Nat} (h:LX w g b) (hk:Below w.heap.size w w'):LX w' g b:=by unfold LX at *;rw [hk.block g (ay h)];exact h
theorem LX.drewN {w:World} {g b:Nat} (h:LX w g b) (n:Nat):LX (w.drewN n) g b:=h
structure Rule1 (w:World) (e:Ent) (q g:Nat) (w':World):Prop where
 below:Below w.heap.size w w'
 box:LN w' w.heap.size e
 rules:LX w' g w.heap.size
 c0:w'.cell? ⟨q,0,JW⟩=JV (JO JP 1)
 c1:w'.cell? ⟨q,1,JW⟩=JV (.func (.func 235) #[] #[JS (JV ⟨w.heap.size,0,JW⟩)])
 c2:w'.cell? ⟨q,2,JW⟩=JV (JO JP 12)
theorem Rule1.step {w w' w'':World} {e:Ent} {q g:Nat} (h:Rule1 w e q g w') (hb:Below w'.heap.size w' w''):Rule1 w e q g w'':=
 ⟨h.below.trans (hb.mono h.below.size),h.box.below hb,h.rules.below hb,
  (hb.cell (p:=⟨q,0,JW⟩) (am w' _ h.c0)).trans h.c0,(hb.cell (p:=⟨q,1,JW⟩) (am w' _ h.c1)).trans h.c1,(hb.cell (p:=⟨q,2,JW⟩) (am w' _ h.c2)).trans h.c2⟩
theorem Rule1.held {w w':World} {e:Ent} {q g:Nat} (h:Rule1 w e q g w'):Rule1 w e q g w'∧w'.cell? ⟨w.heap.size,3,JW⟩=JV (JO JP e.kind)∧w'.cell? ⟨q,0,JW⟩=JV (JO JP 1)∧w'.cell? ⟨q,1,JW⟩=JV (.func (.func 235) #[] #[JS (JV ⟨w.heap.size,0,JW⟩)]):=
 ⟨h,h.box.cell 3,h.c0,h.c1⟩
theorem ey {B:Nat} {a w:World} (h:Below B a w) (n:Nat):Below B a (w.drewN n):=h.trans ⟨rfl,rfl,rfl,aD _,fun _ _=>rfl⟩
theorem LN.drewN {w:World} {b:Nat} {e:Ent} (h:LN w b e) (n:Nat):LN (w.drewN n) b e:=h
theorem fs {P:Program} {f:FuncId} {args:Array Value} {w:World} {n:Nat} {v:Value} (h:Calls P f args (w.drewN n) fun e w'=>e=JT v∧w.drewN n=w') :
  Calls P f args (w.drewN n) fun e w''=>e=JT v∧∃ m,w''=w.drewN m:=h.mono fun _ _ ⟨he,hm⟩=>⟨he,n,hm.symm⟩
theorem JZ {p q:Prop} (h:q) (f:Wq q→p:=by
 intro hq;have hltq:=ay hrl;have hc3:wr.cell? ⟨w.heap.size,3,JW⟩=JV (JO JP e.kind):=hbox.cell 3
 revert hltq hc3
 exact hq.1):p:=f ⟨h⟩
theorem C6 (e:Ent) (h:e.Ok) (w:World) :
    Calls prog 198 #[e.val] w fun x w'=>x=JT (JO JP (dr e))∧Below w.heap.size w w':=by
  have hb1:=au w (JU e.cells 67);have hcs:=h.course;go_enter func198,ntmps198;go_wp2_with fail;refine (fX _ _ _ _).mono ?_;rintro x w1 ⟨rfl,rfl⟩
  cases h0:cz e.id 1 899999
  case true =>
    have h0:=aa h0;go_wp2_with fail;go_ret;exact ⟨aI (by unfold dr;simp [h0.out]),hb1⟩
  have H0:=aa h0
  clear h0;go_wp2_with fail;refine (fX _ _ _ _).mono ?_;rintro x w1 ⟨rfl,rfl⟩
  cases h1:cz e.school 1 8
  case true =>
    have h1:=aa h1;go_wp2_with fail;go_ret;exact ⟨aI (by unfold dr;simp [H0.out,h1.out]),hb1⟩
  have H1:=aa h1
  clear h1;go_wp2_with fail;refine (fX _ _ _ _).mono ?_;rintro x w1 ⟨rfl,rfl⟩
  cases h2:cz e.student 1 999999
  case true =>
    have h2:=aa h2;go_wp2_with fail;go_ret;exact ⟨aI (by unfold dr;simp [H0.out,H1.out,h2.out]),hb1⟩
  have H2:=aa h2
  clear h2;go_wp2_with fail;refine (fX _ _ _ _).mono ?_;rintro x w1 ⟨rfl,rfl⟩
  cases h3:cz e.kind 1 9
  case true =>
    have h3:=aa h3;go_wp2_with fail;go_ret;exact ⟨aI (by unfold dr;simp [H0.out,H1.out,H2.out,h3.out]),hb1⟩
  have H3:=aa h3
  clear h3;go_wp2_with fail;have hbx:=fun j=>(LN.new w e).cell j
  go_region_held3 (fun w'=>Below w.heap.size w w'∧∀ j,w'.cell? ⟨w.heap.size,j,none⟩=e.cells[j]?) (first | exact ⟨hb1.drew,hbx⟩ | assumption)
    (first
      | (go_at_call 233;refine (BW e _).mono ?_;rintro x w1 ⟨rfl,hf1⟩;have hS1:=LN.of_cells (e:=e) (by assumption) hf1;have hbw1:=LN.below (w:=(w.alloc (.cells e.cells 67)).drew) (LN.new w e) hf1)
      | (go_at_call 234;refine (AA _ _).mono ?_;rintro x w2 ⟨rfl,rfl⟩))
  rename_i hHeld
  clear hHeld hf1 hbx hb1
  obtain ⟨hb1,hbx⟩:=hS1;have hlt:w.heap.size < w1.heap.size:=am w1 _ (show w1.cell? ⟨w.heap.size,0,JW⟩=JV (JO JP e.id) from hbx 0);generalize h4:(bits .andNot JP (kU e) (cL e.kind) != 0)=b4
  cases b4
  case true =>
    have H4:=aa h4;clear h4;go_wp2_with fail;go_ret;exact ⟨aI (by unfold dr;simp [H0.out,H1.out,H2.out,H3.out];have:=H4.out;simp at this;simp [this]),hb1⟩
  have H4:=aa h4
  clear h4;go_wp2_with fail;refine (fX _ _ _ _).mono ?_;rintro x w2 ⟨rfl,rfl⟩
  cases h5:cz e.day 0 100000
  case true =>
    have h5:=aa h5;go_wp2_with fail;go_ret;exact ⟨aI (by have h4:=H4.out;simp only [bne_eq_false_iff_eq] at h4;unfold dr;simp [H0.out,H1.out,H2.out,H3.out,h5.out,h4]),hb1⟩
  have H5:=aa h5
  clear h5;go_wp2_with fail;refine (fX _ _ _ _).mono ?_;rintro x w2 ⟨rfl,rfl⟩
  cases h6:cz e.on 0 e.day
  case true =>
    have h6:=aa h6;go_wp2_with fail;go_ret;exact ⟨aI (by have h4:=H4.out;simp only [bne_eq_false_iff_eq] at h4;unfold dr;simp [H0.out,H1.out,H2.out,H3.out,H5.out,h6.out,h4]),hb1⟩
  have H6:=aa h6
  clear h6;go_wp2_with fail;have hB0:Below w.heap.size w (w1.alloc (JU (yP w.heap.size) 257)):=hb1.trans ((au _ _).mono hb1.size);obtain ⟨hv,hhv⟩:∃ hv,hv=cL e.kind:=⟨_,rfl⟩;have qh:∀ W,Calls prog 234 #[JO JP e.kind] W fun x w'=>x=JT (JO JP hv)∧W=w':=fun W=>by rw [hhv];exact AA e.kind W
  rw [← hhv];have hchk:dr e=aY hv e 0:=by have h4:=H4.out;rw [← hhv] at h4;unfold dr;rw [H0.out,H1.out,H2.out,H3.out,H5.out,H6.out,← hhv,h4];simp
  have HC:=aa hchk
  clear hhv hchk
  go_loopw [53] (fun i wr=>∃ k:Nat,k≤7∧i=JO JP k∧Below w.heap.size w wr∧LN wr w.heap.size e∧LX wr w1.heap.size w.heap.size∧Hid (aY hv e 0=aY hv e k)) (fun i _=>7 - (intOf i).toNat)
  case atStart=>exact ⟨0,mOm,rfl,hB0,LN.below hbw1 (au _ _),heap_alloc_new _ _,rfl⟩
  case round =>
    obtain ⟨k,hk,rfl,hbe,hbox,hrl,H⟩:=hrel;have hk8:k=0∨k=1∨k=2∨k=3∨k=4∨k=5∨k=6∨k=7:=mOm;rcases hk8 with rfl | rfl | rfl | rfl | rfl | rfl | rfl | rfl
    · have hltr:=ay hbox
      refine JZ ?_;intro hltq hc3
      have hl0:wr.cell? ⟨w1.heap.size,0,JW⟩=JV (JO JP 1):=hrl.cell 0;have hl1:wr.cell? ⟨w1.heap.size,1,JW⟩=JV (.func (.func 235) #[] #[JS (JV ⟨w.heap.size,0,JW⟩)]):=hrl.cell 1;have hl2:wr.cell? ⟨w1.heap.size,2,JW⟩=JV (JO JP 12):=hrl.cell 2;by_cases hg:(bits .and JP hv 1 != 0)=true
      · cases hq:(!ie e.course.data.toList)
        all_goals
          have HQ:=aa hq
          have q:=fun W hW=>EH e mOm w.heap.size W hW
          rw [hq] at q;clear hq;go_wp2_with fail;have hba:=hbe.trans ((au wr (JU #[JO JP 1,.func (.func 235) #[] #[JS (JV ⟨w.heap.size,0,JW⟩)],JO JP 12] 257)).mono hbe.size);have hbb:=hbox.below (au wr (JU #[JO JP 1,.func (.func 235) #[] #[JS (JV ⟨w.heap.size,0,JW⟩)],JO JP 12] 257));have hbr:=hrl.below (au wr (JU #[JO JP 1,.func (.func 235) #[] #[JS (JV ⟨w.heap.size,0,JW⟩)],JO JP 12] 257));have hS0:Rule1 w e wr.heap.size w1.heap.size (wr.alloc (JU #[JO JP 1,.func (.func 235) #[] #[JS (JV ⟨w.heap.size,0,JW⟩)],JO JP 12] 257)).drew:=⟨hba.drew,hbb,hbr,ae (heap_alloc_new wr _) 0,ae (heap_alloc_new wr _) 1,ae (heap_alloc_new wr _) 2⟩;clear hba hbb hbr
          go_region_held3 (fun w'=>Rule1 w e wr.heap.size w1.heap.size w'∧w'.cell? ⟨w.heap.size,3,none⟩=some (.int .i64 e.kind)∧w'.cell? ⟨wr.heap.size,0,none⟩=some (.int .i64 1)∧w'.cell? ⟨wr.heap.size,1,none⟩=some (.func (.func 235) #[] #[.pointer (some ⟨w.heap.size,0,none⟩)])) (first | exact Rule1.held hS0 | assumption)
            (first
              | (go_at_call 234;refine (qh _).mono ?_;rintro x w2 ⟨rfl,rfl⟩)
              | (go_at_call 235;refine (q _ (Rule1.box (And.left (by assumption)))).mono ?_;rintro x w3 ⟨rfl,hb3⟩;have hS3:=Rule1.step (And.left (by assumption)) hb3;have hS4:=Rule1.held hS3))
          rename_i hHeld
          clear hHeld hS4
          have hc2:=hS3.c2;go_wp2_with fail
          first
            | (go_roundw
               case rel=>exact ⟨1,mOm,rfl,hS3.below,hS3.box,hS3.rules,by unfold Hid;unfold aY;simp only [HQ.out];simp⟩
               case measure=>simp [intOf])
            | (go_ret
               exact ⟨aI (by rw [HC.out];unfold aY;simp only [HQ.out];simp [hg]),hS3.below⟩)
      · go_wp2_with fail
        go_quiet ((go_at_call 234;exact fs (qh _)))
        go_wp2_with fail
        go_roundw
        case rel=>exact ⟨1,mOm,rfl,ey (hbe.trans ((au wr _).mono hbe.size)) _,LN.drewN (hbox.below (au wr _)) _,LX.drewN (hrl.below (au wr _)) _,by unfold Hid;unfold aY;simp [hg]⟩
        case measure=>simp [intOf]
    · have hltr:=ay hbox
      refine JZ ?_;intro hltq hc3
      have hl0:wr.cell? ⟨w1.heap.size,3,JW⟩=JV (JO JP 2):=hrl.cell 3;have hl1:wr.cell? ⟨w1.heap.size,4,JW⟩=JV (.func (.func 237) #[] #[JS (JV ⟨w.heap.size,0,JW⟩)]):=hrl.cell 4;have hl2:wr.cell? ⟨w1.heap.size,5,JW⟩=JV (JO JP 3):=hrl.cell 5;by_cases hg:(bits .and JP hv 2 != 0)=true
      · cases hq:cz e.credits 1 60
        all_goals
          have HQ:=aa hq
          have q:=fun W hW=>EI e w.heap.size W hW
          rw [hq] at q;clear hq;go_wp2_with fail
          go_quiet ((first | (go_at_call 234;exact fs (qh _)) | (go_at_call 237;exact fs (q _ (LN.drewN (hbox.below (au _ _)) _)))))
          go_wp2_with fail
          first
            | (go_roundw
               case rel=>exact ⟨2,mOm,rfl,ey (hbe.trans ((au wr _).mono hbe.size)) _,LN.drewN (hbox.below (au wr _)) _,LX.drewN (hrl.below (au wr _)) _,by unfold Hid;rw [H.out];unfold aY;simp only [HQ.out];simp⟩
               case measure=>simp [intOf])
            | (go_ret
               exact ⟨aI (by rw [HC.out,H.out];unfold aY;simp only [HQ.out];simp [hg]),ey (hbe.trans ((au wr _).mono hbe.size)) _⟩)
      · go_wp2_with fail
        go_quiet ((go_at_call 234;exact fs (qh _)))
        go_wp2_with fail
        go_roundw
        case rel=>exact ⟨2,mOm,rfl,ey (hbe.trans ((au wr _).mono hbe.size)) _,LN.drewN (hbox.below (au wr _)) _,LX.drewN (hrl.below (au wr _)) _,by unfold Hid;rw [H.out];unfold aY;simp [hg]⟩
        case measure=>simp [intOf]
    · have hltr:=ay hbox
      refine JZ ?_;intro hltq hc3
      have hl0:wr.cell? ⟨w1.heap.size,6,JW⟩=JV (JO JP 4):=hrl.cell 6;have hl1:wr.cell? ⟨w1.heap.size,7,JW⟩=JV (.func (.func 238) #[] #[JS (JV ⟨w.heap.size,0,JW⟩)]):=hrl.cell 7;have hl2:wr.cell? ⟨w1.heap.size,8,JW⟩=JV (JO JP 3):=hrl.cell 8;by_cases hg:(bits .and JP hv 4 != 0)=true
      · cases hq:cz e.grade (-1000) 1000
        all_goals
          have HQ:=aa hq
          have q:=fun W hW=>EJ e w.heap.size W hW
          rw [hq] at q;clear hq;go_wp2_with fail
          go_quiet ((first | (go_at_call 234;exact fs (qh _)) | (go_at_call 238;exact fs (q _ (LN.drewN (hbox.below (au _ _)) _)))))
          go_wp2_with fail
          first
            | (go_roundw
               case rel=>exact ⟨3,mOm,rfl,ey (hbe.trans ((au wr _).mono hbe.size)) _,LN.drewN (hbox.below (au wr _)) _,LX.drewN (hrl.below (au wr _)) _,by unfold Hid;rw [H.out];unfold aY;simp only [HQ.out];simp⟩
               case measure=>simp [intOf])
            | (go_ret
               exact ⟨aI (by rw [HC.out,H.out];unfold aY;simp only [HQ.out];simp [hg]),ey (hbe.trans ((au wr _).mono hbe.size)) _⟩)
      · go_wp2_with fail
        go_quiet ((go_at_call 234;exact fs (qh _)))
        go_wp2_with fail
        go_roundw
        case rel=>exact ⟨3,mOm,rfl,ey (hbe.trans ((au wr _).mono hbe.size)) _,LN.drewN (hbox.below (au wr _)) _,LX.drewN (hrl.below (au wr _)) _,by unfold Hid;rw [H.out];unfold aY;simp [hg]⟩
        case measure=>simp [intOf]
    · have hltr:=ay hbox
      refine JZ ?_;intro hltq hc3
      have hl0:wr.cell? ⟨w1.heap.size,9,JW⟩=JV (JO JP 32):=hrl.cell 9;have hl1:wr.cell? ⟨w1.heap.size,10,JW⟩=JV (.func (.func 239) #[] #[JS (JV ⟨w.heap.size,0,JW⟩)]):=hrl.cell 10;have hl2:wr.cell? ⟨w1.heap.size,11,JW⟩=JV (JO JP 3):=hrl.cell 11;by_cases hg:(bits .and JP hv 32 != 0)=true
      · cases hq:decide (e.programme < 1)
        all_goals
          have HQ:=aa hq
          have q:=fun W hW=>EK e w.heap.size W hW
          rw [hq] at q;clear hq;go_wp2_with fail
          go_quiet ((first | (go_at_call 234;exact fs (qh _)) | (go_at_call 239;exact fs (q _ (LN.drewN (hbox.below (au _ _)) _)))))
          go_wp2_with fail
          first
            | (go_roundw
               case rel=>exact ⟨4,mOm,rfl,ey (hbe.trans ((au wr _).mono hbe.size)) _,LN.drewN (hbox.below (au wr _)) _,LX.drewN (hrl.below (au wr _)) _,by unfold Hid;rw [H.out];unfold aY;simp only [HQ.out];simp⟩
               case measure=>simp [intOf])
            | (go_ret
               exact ⟨aI (by rw [HC.out,H.out];unfold aY;simp only [HQ.out];simp [hg]),ey (hbe.trans ((au wr _).mono hbe.size)) _⟩)
      · go_wp2_with fail
        go_quiet ((go_at_call 234;exact fs (qh _)))
        go_wp2_with fail
        go_roundw
        case rel=>exact ⟨4,mOm,rfl,ey (hbe.trans ((au wr _).mono hbe.size)) _,LN.drewN (hbox.below (au wr _)) _,LX.drewN (hrl.below (au wr _)) _,by unfold Hid;rw [H.out];unfold aY;simp [hg]⟩
        case measure=>simp [intOf]
    · have hltr:=ay hbox
      refine JZ ?_;intro hltq hc3
      have hl0:wr.cell? ⟨w1.heap.size,12,JW⟩=JV (JO JP 64):=hrl.cell 12;have hl1:wr.cell? ⟨w1.heap.size,13,JW⟩=JV (.func (.func 240) #[] #[JS (JV ⟨w.heap.size,0,JW⟩)]):=hrl.cell 13;have hl2:wr.cell? ⟨w1.heap.size,14,JW⟩=JV (JO JP 3):=hrl.cell 14;by_cases hg:(bits .and JP hv 64 != 0)=true
      · cases hq:decide (e.version < 1)
        all_goals
          have HQ:=aa hq
          have q:=fun W hW=>EM e w.heap.size W hW
          rw [hq] at q;clear hq;go_wp2_with fail
          go_quiet ((first | (go_at_call 234;exact fs (qh _)) | (go_at_call 240;exact fs (q _ (LN.drewN (hbox.below (au _ _)) _)))))
          go_wp2_with fail
          first
            | (go_roundw
               case rel=>exact ⟨5,mOm,rfl,ey (hbe.trans ((au wr _).mono hbe.size)) _,LN.drewN (hbox.below (au wr _)) _,LX.drewN (hrl.below (au wr _)) _,by unfold Hid;rw [H.out];unfold aY;simp only [HQ.out];simp⟩
               case measure=>simp [intOf])
            | (go_ret
               exact ⟨aI (by rw [HC.out,H.out];unfold aY;simp only [HQ.out];simp [hg]),ey (hbe.trans ((au wr _).mono hbe.size)) _⟩)
      · go_wp2_with fail
        go_quiet ((go_at_call 234;exact fs (qh _)))
        go_wp2_with fail
        go_roundw
        case rel=>exact ⟨5,mOm,rfl,ey (hbe.trans ((au wr _).mono hbe.size)) _,LN.drewN (hbox.below (au wr _)) _,LX.drewN (hrl.below (au wr _)) _,by unfold Hid;rw [H.out];unfold aY;simp [hg]⟩
        case measure=>simp [intOf]
    · have hltr:=ay hbox
      refine JZ ?_;intro hltq hc3
      have hl0:wr.cell? ⟨w1.heap.size,15,JW⟩=JV (JO JP 16):=hrl.cell 15;have hl1:wr.cell? ⟨w1.heap.size,16,JW⟩=JV (.func (.func 241) #[] #[JS (JV ⟨w.heap.size,0,JW⟩)]):=hrl.cell 16;have hl2:wr.cell? ⟨w1.heap.size,17,JW⟩=JV (JO JP 3):=hrl.cell 17;by_cases hg:(bits .and JP hv 16 != 0)=true
      · cases hq:(cz e.fro 1 8||e.fro==e.school)
        all_goals
          have HQ:=aa hq
          have q:=fun W hW=>EN e w.heap.size W hW
          rw [hq] at q;clear hq;go_wp2_with fail
          go_quiet ((first | (go_at_call 234;exact fs (qh _)) | (go_at_call 241;exact fs (q _ (LN.drewN (hbox.below (au _ _)) _)))))
          go_wp2_with fail
          first
            | (go_roundw
               case rel=>exact ⟨6,mOm,rfl,ey (hbe.trans ((au wr _).mono hbe.size)) _,LN.drewN (hbox.below (au wr _)) _,LX.drewN (hrl.below (au wr _)) _,by unfold Hid;rw [H.out];unfold aY;simp only [HQ.out];simp⟩
               case measure=>simp [intOf])
            | (go_ret
               exact ⟨aI (by rw [HC.out,H.out];unfold aY;simp only [HQ.out];simp [hg]),ey (hbe.trans ((au wr _).mono hbe.size)) _⟩)
      · go_wp2_with fail
        go_quiet ((go_at_call 234;exact fs (qh _)))
        go_wp2_with fail
        go_roundw
        case rel=>exact ⟨6,mOm,rfl,ey (hbe.trans ((au wr _).mono hbe.size)) _,LN.drewN (hbox.below (au wr _)) _,LX.drewN (hrl.below (au wr _)) _,by unfold Hid;rw [H.out];unfold aY;simp [hg]⟩
        case measure=>simp [intOf]
    · have hltr:=ay hbox
      refine JZ ?_;intro hltq hc3
      have hl0:wr.cell? ⟨w1.heap.size,18,JW⟩=JV (JO JP 8):=hrl.cell 18;have hl1:wr.cell? ⟨w1.heap.size,19,JW⟩=JV (.func (.func 242) #[] #[JS (JV ⟨w.heap.size,0,JW⟩)]):=hrl.cell 19;have hl2:wr.cell? ⟨w1.heap.size,20,JW⟩=JV (JO JP 21):=hrl.cell 20;by_cases hg:(bits .and JP hv 8 != 0)=true
      · cases hq:(cz e.ref 1 899999||e.ref==e.id)
        all_goals
          have HQ:=aa hq
          have q:=fun W hW=>EO e w.heap.size W hW
          rw [hq] at q;clear hq;go_wp2_with fail
          go_quiet ((first | (go_at_call 234;exact fs (qh _)) | (go_at_call 242;exact fs (q _ (LN.drewN (hbox.below (au _ _)) _)))))
          go_wp2_with fail
          first
            | (go_roundw
               case rel=>exact ⟨7,mOm,rfl,ey (hbe.trans ((au wr _).mono hbe.size)) _,LN.drewN (hbox.below (au wr _)) _,LX.drewN (hrl.below (au wr _)) _,by unfold Hid;rw [H.out];unfold aY;simp only [HQ.out];simp⟩
               case measure=>simp [intOf])
            | (go_ret
               exact ⟨aI (by rw [HC.out,H.out];unfold aY;simp only [HQ.out];simp [hg]),ey (hbe.trans ((au wr _).mono hbe.size)) _⟩)
      · go_wp2_with fail
        go_quiet ((go_at_call 234;exact fs (qh _)))
        go_wp2_with fail
        go_roundw
        case rel=>exact ⟨7,mOm,rfl,ey (hbe.trans ((au wr _).mono hbe.size)) _,LN.drewN (hbox.below (au wr _)) _,LX.drewN (hrl.below (au wr _)) _,by unfold Hid;rw [H.out];unfold aY;simp [hg]⟩
        case measure=>simp [intOf]
    · go_wp2_with fail
      go_ret
      exact ⟨aI (by rw [HC.out,H.out];unfold aY;simp),hbe⟩
end
section
open Go Go.RowKit Go.Sort Go.Lib
attribute [local go_sem] kz sg
def cV (n:Nat):List UInt8:=[n / 10 / 10 / 10 / 10 / 10,n / 10 / 10 / 10 / 10,n / 10 / 10 / 10,n / 10 / 10,n / 10,n].map fun m=>UInt8.ofNat (48+m%10)
theorem J7 {p q:Prop} (h:q) (f:Wq q→p:=by
 intro hq;rw [rounds_succ];go_wp2_with fail;rw [rounds_succ];go_wp2_with fail;rw [rounds_succ];go_wp2_with fail
 exact hq.1):p:=f ⟨h⟩
theorem vP (n:Nat) (w:World) (hn:n≤999999) :
  Calls prog 200 #[JO JP n] w fun e w'=>e=JT (JQ ⟨(cV n).toArray⟩)∧Below w.heap.size w w':=by
 go_enter func200,ntmps200;go_wp2_with fail;refine wp_loop_rounds 7 ?_;refine J7 ?_;refine J7 ?_;rw [rounds_succ];go_wp2_with fail;go_ret;exact ⟨cJ rfl,(Below.refl _ _).alloc (aD _) _⟩
theorem ft (n:Nat) (w:World) (hn:n≤999999) :
  Calls prog 54 #[JO JP n] w fun e w'=>e=JT (JQ ⟨(cV n).toArray⟩)∧Below w.heap.size w w':=by
 go_enter func54,ntmps54;go_wp2_with fail;refine wp_loop_rounds 7 ?_;refine J7 ?_;refine J7 ?_;rw [rounds_succ];go_wp2_with fail;go_ret;refine ⟨cJ (dl (by simp [cV,UInt8.ofNat_add])),?_⟩;exact ((((((Below.refl _ _).alloc (aD _) _).alloc mSi _).alloc (by simp;omega) _).alloc (by simp;omega) _).alloc (by simp;omega) _).alloc (by simp;omega) _
