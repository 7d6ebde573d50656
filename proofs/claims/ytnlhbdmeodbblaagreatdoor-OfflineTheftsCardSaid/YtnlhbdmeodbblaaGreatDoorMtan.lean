/- Lemmas. -/
import Derived.Test.YtnlhbdmeodbblaaGreatDoorMtah
import Derived.Test.YtnlhbdmeodbblaaGreatDoorMtad
import Derived.Test.YtnlhbdmeodbblaaGreatDoorMtai
import Derived.JoinedOf
set_option maxRecDepth 100000
set_option maxHeartbeats 16000000
set_option linter.all false
open Go.Proofs.Tryz
open Array renaming replicate->ef
open Bool renaming and_eq_true->aX
open Option renaming some->Og
namespace Go.Proofs.YtnlhbdmeodbblaaGreatDoor
section
open Go
inductive FlowT3 where
 | done
 | take (i:Nat) (t:FlowT3)
 | one (i:Nat) (t:FlowT3)
 | two (i j:Nat) (t u:FlowT3)
 | three (i j k:Nat) (t u v:FlowT3)
def gX(md:Region.Mode)(ops:Array Oper):Array Bool->FlowT3->Bool
 | listed,.done=>(Region.ready md ops listed).isEmpty
 | listed,.take i t=>(Region.ready md ops listed).contains i&&Region.free md ops listed i&&gX md ops (listed.setIfInBounds i true) t
 | listed,.one i t=>(Region.ready md ops listed==[i])&&gX md ops (listed.setIfInBounds i true) t
 | listed,.two i j t u=>(Region.ready md ops listed==[i,j])&&gX md ops (listed.setIfInBounds i true) t&&gX md ops (listed.setIfInBounds j true) u
 | listed,.three i j k t u v=>(Region.ready md ops listed==[i,j,k])&&gX md ops (listed.setIfInBounds i true) t&&gX md ops (listed.setIfInBounds j true) u&&gX md ops (listed.setIfInBounds k true) v
def FlowT3.deep:FlowT3->Nat
 | .done=>0
 | .take _ t=>t.deep+1
 | .one _ t=>t.deep+1
 | .two _ _ t u=>max t.deep u.deep+1
 | .three _ _ _ t u v=>max t.deep (max u.deep v.deep)+1
def ec(P:Program)(ops:Array Oper)(Q:Exit->Act->World->Prop)(S:World->Prop):FlowT3->Act->World->Prop
 | .done,a,w=>Q .normal a w
 | .take i t,a,w=>∃oi v,ops[i]? = some oi/\YieldsIf P ops S oi v a/\ec P ops Q S t (a.put oi.dst v) w
 | .one i t,a,w=>wpOp P ops Q i (fun a' w'=>S w'/\ec P ops Q S t a' w') a w
 | .two i j t u,a,w=>wpOp P ops Q i (fun a' w'=>S w'/\ec P ops Q S t a' w') a w/\wpOp P ops Q j (fun a' w'=>S w'/\ec P ops Q S u a' w') a w
 | .three i j k t u v,a,w=>wpOp P ops Q i (fun a' w'=>S w'/\ec P ops Q S t a' w') a w/\wpOp P ops Q j (fun a' w'=>S w'/\ec P ops Q S u a' w') a w/\wpOp P ops Q k (fun a' w'=>S w'/\ec P ops Q S v a' w') a w
section
variable {P:Program} {ops:Array Oper} {Q:Exit->Act->World->Prop} {md:Region.Mode} {S:World->Prop}
theorem jh(hs:Region.noSelect ops=true)(hQ:∀d c v a w,Q (.panic c) (Act.put a d v) w->Q (.panic c) a w) :
  ∀(t:FlowT3)(listed:Array Bool)(fuel:Nat)(a:Act)(w:World),gX md ops listed t=true->t.deep<=fuel->S w->ec P ops Q S t a w->wpAnyH P md ops Q S fuel listed a w
 | .done,listed,fuel,a,w,hf,_,_,h=>by
  refine wpAnyH_done ?_ h fuel
  simpa [gX] using hf
 | .take i t,listed,fuel,a,w,hf,hl,hS,h=>by
  obtain⟨oi,v,hi,hy,h⟩:=h;simp only[gX,aX] at hf
  cases fuel with
  | zero=>simp[FlowT3.deep] at hl
  | succ fuel=>exact wpAnyH_take hi hs hf.1.2 hf.1.1 (fun c a w=>hQ _ c v a w) hy hS (jh hs hQ t _ fuel _ w hf.2 (by simpa [FlowT3.deep] using hl) hS h)
 | .one i t,listed,fuel,a,w,hf,hl,hS,h=>by
  simp only[gX,aX,beq_iff_eq] at hf
  cases fuel with
  | zero=>simp[FlowT3.deep] at hl
  | succ fuel =>
   refine wpAnyH_all hf.1 mSi fun j hj=>?_
   obtain rfl:j=i:=by simpa using hj
   exact wpOp_mono (fun a' w' h'=>⟨h'.1,jh hs hQ t _ fuel a' w' hf.2 (by simpa [FlowT3.deep] using hl) h'.1 h'.2⟩) h
 | .two i j t u,listed,fuel,a,w,hf,hl,hS,h=>by
  simp only[gX,aX,beq_iff_eq] at hf
  cases fuel with
  | zero=>simp[FlowT3.deep] at hl
  | succ fuel =>
   have hl':max t.deep u.deep<=fuel:=by simpa [FlowT3.deep] using hl
   refine wpAnyH_all hf.1.1 mSi fun k hk=>?_
   have hk':k=i\/k=j:=by simpa using hk
   by_cases hki:k=i
   .subst hki;exact wpOp_mono (fun a' w' h'=>⟨h'.1,jh hs hQ t _ fuel a' w' hf.1.2 mOm h'.1 h'.2⟩) h.1
   .obtain rfl:k=j:=hk'.resolve_left hki;exact wpOp_mono (fun a' w' h'=>⟨h'.1,jh hs hQ u _ fuel a' w' hf.2 mOm h'.1 h'.2⟩) h.2
 | .three i j k t u v,listed,fuel,a,w,hf,hl,hS,h=>by
  simp only[gX,aX,beq_iff_eq] at hf
  cases fuel with
  | zero=>simp[FlowT3.deep] at hl
  | succ fuel =>
   have hl':max t.deep (max u.deep v.deep)<=fuel:=by simpa [FlowT3.deep] using hl
   refine wpAnyH_all hf.1.1.1 mSi fun m hm=>?_
   have hm':m=i\/m=j\/m=k:=by simpa using hm
   by_cases hmi:m=i
   .subst hmi;exact wpOp_mono (fun a' w' h'=>⟨h'.1,jh hs hQ t _ fuel a' w' hf.1.1.2 mOm h'.1 h'.2⟩) h.1
   by_cases hmj:m=j
   .subst hmj;exact wpOp_mono (fun a' w' h'=>⟨h'.1,jh hs hQ u _ fuel a' w' hf.1.2 mOm h'.1 h'.2⟩) h.2.1
   obtain rfl:m=k:=by rcases hm' with h1|h1|h1;exact absurd h1 hmi;exact absurd h1 hmj;exact h1
   exact wpOp_mono (fun a' w' h'=>⟨h'.1,jh hs hQ v _ fuel a' w' hf.2 mOm h'.1 h'.2⟩) h.2.2
theorem sJ{K:Act->World->Prop}{id:Nat}{a:Act}{w:World}(t:FlowT3)(hm:P.follows .mixedOrders=true)(hs:Region.noSelect ops=true)
  (hf:gX .any ops (ef ops.size false) t=true) (hl:t.deep<=ops.size) (hS:S w.drew) (h:ec P ops (aZ K) S t a w.drew):(Code.region id ops true).wp P (aZ K) a w:=
 wp_region_held hm (jh hs (fun _ _ _ _ _ h=>h) t _ _ a w.drew hf hl hS h)
theorem zQ{i:Nat}{t:FlowT3}{a:Act}{w:World}(oi:Oper)(v:Value)(hi:ops[i]? = Og oi)(hw:Region.wanted oi (yielded ops a.tmps)=true)(hy:∀w,S w->(execOp a.eval oi).run P w=.ok (.value v) w)
  (h:ec P ops Q S t (a.put oi.dst v) w):ec P ops Q S (.take i t) a w:=⟨oi,v,hi,.inl ⟨hw,hy⟩,h⟩
theorem G0{i:Nat}{t:FlowT3}{a:Act}{w:World}(oi:Oper)(hi:ops[i]? = Og oi)(hw:Region.wanted oi (yielded ops a.tmps)=false)
  (h:ec P ops Q S t (a.put oi.dst undef) w):ec P ops Q S (.take i t) a w:=⟨oi,undef,hi,.inr ⟨hw,rfl⟩,h⟩
theorem lZ{i:Nat}{t:FlowT3}{a:Act}{w:World}(h:wpOp P ops Q i (fun a' w'=>S w'/\ec P ops Q S t a' w') a w):ec P ops Q S (.one i t) a w:=h
theorem mc{i j:Nat}{t u:FlowT3}{a:Act}{w:World}(h:wpOp P ops Q i (fun a' w'=>S w'/\ec P ops Q S t a' w') a w)(h':wpOp P ops Q j (fun a' w'=>S w'/\ec P ops Q S u a' w') a w):ec P ops Q S (.two i j t u) a w:=⟨h,h'⟩
theorem xP{i j k:Nat}{t u v:FlowT3}{a:Act}{w:World}(h:wpOp P ops Q i (fun a' w'=>S w'/\ec P ops Q S t a' w') a w)(h':wpOp P ops Q j (fun a' w'=>S w'/\ec P ops Q S u a' w') a w)(h2:wpOp P ops Q k (fun a' w'=>S w'/\ec P ops Q S v a' w') a w):ec P ops Q S (.three i j k t u v) a w:=⟨h,h',h2⟩
end
theorem Jh{P:Program}{ops:Array Oper}{S:World->Prop}{K:Act->World->Prop}{id:Nat}{a:Act}{w:World}(t:FlowT3)(hS:S w.drew)(h:ec P ops (aZ K) S t a w.drew)(hm:P.follows .mixedOrders=true:=by kernel_rfl)(hs:Region.noSelect ops=true:=by kernel_rfl)(hf:gX .any ops (ef ops.size false) t=true:=by kernel_rfl)(hl:t.deep<=ops.size:=by decide):(Code.region id ops true).wp P (aZ K) a w:=sJ t hm hs hf hl hS h
theorem xn{P:Program}{ops:Array Oper}{S:World->Prop}{K:Act->World->Prop}{id:Nat}{a:Act}{w:World}{Q:Exit->Act->World->Prop}(t:FlowT3)(hS:S w.drew)(h:ec P ops (aZ K) S t a w.drew)(hm:P.follows .mixedOrders=true:=by kernel_rfl)(hs:Region.noSelect ops=true:=by kernel_rfl)(hf:gX .any ops (ef ops.size false) t=true:=by kernel_rfl)(hl:t.deep<=ops.size:=by decide)(hk:∀a w,K a w->Q .normal a w:=by exact fun _ _ h=>h):(Code.region id ops true).wp P Q a w:=qb (sJ t hm hs hf hl hS h) hk
theorem lh{P:Program}{ops:Array Oper}{Q:Exit->Act->World->Prop}{S:World->Prop}{i:Nat}{tr:FlowT3}{a:Act}{w:World}{d}{o}{t}{p}{af}{g}{v:Value}{q:Prop}(h:q)(hi:ops[i]? = some (Oper.mk d o t p af g):=by rfl)(hw:Region.wanted (Oper.mk d o t p af g) (yielded ops a.tmps)=true:=by rfl)(hy:∀w,S w->(execOp a.eval (Oper.mk d o t p af g)).run P w=.ok (.value v) w:=by intro w hSw;(try dsimp only at hSw);go_simp;(try with_reducible rfl))(f:Wq q->ec P ops Q S tr (Act.put a d v) w:=by intro hq;(try simp only[Act.put,List.setIfInBounds_toArray,List.set_cons_zero,List.set_cons_succ]);exact hq.1):ec P ops Q S (.take i tr) a w:=zQ (Oper.mk d o t p af g) v hi hw hy (f ⟨h⟩)
theorem Mn{P:Program}{ops:Array Oper}{Q:Exit->Act->World->Prop}{S:World->Prop}{i:Nat}{tr:FlowT3}{a:Act}{w:World}{d}{o}{t}{p}{af}{g}{q:Prop}(h:q)(hi:ops[i]? = some (Oper.mk d o t p af g):=by rfl)(hw:Region.wanted (Oper.mk d o t p af g) (yielded ops a.tmps)=false:=by rfl)(f:Wq q->ec P ops Q S tr (Act.put a d undef) w:=by intro hq;(try simp only[Act.put,List.setIfInBounds_toArray,List.set_cons_zero,List.set_cons_succ]);exact hq.1):ec P ops Q S (.take i tr) a w:=G0 (Oper.mk d o t p af g) hi hw (f ⟨h⟩)
end
section
open Go Go.ChangeShapes Go.WideShapes Go.ChangeAt Go.WideElems Go.RowKit Go.Lib
section
variable {H:Type} {enc:TypeId×Value->H} {P:Program}
end
section
variable {P:Program} {w:World} {r:Reach} {b0:Nat} {t:TypeId}
theorem pN{k:IntKind}{v:Value}(ht:P.underlying t=Og (.int k))(h:Cell.okWide P w r b0 t v):∃n,v=.int k n/\k.has n:=by
 unfold Cell.okWide at h;rw[ht] at h;unfold Cell.ok at h;rw[ht] at h
 cases v <;> simp_all
end
end
section
open Go Go.ChangeShapes Go.WideShapes Go.ChangeAt Go.WideElems Go.RowKit Go.Lib
theorem wU:(Rows.offlineTheftsRow.wf (OpenSpec.ofChange Rows.offlineTheftsSpec))=true:=mKr
theorem wV:(laidOutB prog)=true:=mKr
theorem wW:(mapsRowed prog)=true:=mKr
theorem wX:(Tryz.f5.params.all (prog.readableRec ·))=true:=mKr
theorem wY:(namedTie prog Rows.offlineTheftsRow.named Rows.offlineTheftsSpec.vars)=true:=mKr
theorem wZ:((Rows.offlineTheftsRow.stops==[]))=true:=mKr
theorem xa:((prog.stops==[]))=true:=mKr
theorem xg:((Rows.offlineTheftsRow.knobs==[]))=true:=mKr
theorem xj:((prog.stopKnobs==[]))=true:=mKr
theorem xm:((Rows.offlineTheftsRow.inPlace==prog.inPlace 5))=true:=mKr
theorem vc:((Rows.offlineTheftsRow.unfollowed==prog.unfollowed 5))=true:=mKr
theorem vd:((Rows.offlineTheftsRow.recurses==prog.recurses 5))=true:=mKr
theorem vf:((Rows.offlineTheftsRow.named==prog.varsNamed 5))=true:=mKr
theorem vh:((Rows.offlineTheftsRow.maps==(Tryz.f5.params.toList++Rows.offlineTheftsSpec.plain.varTypes prog).any (prog.mapsRec ·)))=true:=mKr
theorem vi:((Rows.offlineTheftsRow.ifaces==(Tryz.f5.params.toList++Rows.offlineTheftsSpec.plain.varTypes prog).any (prog.ifacesRec ·)))=true:=mKr
theorem vj:((Rows.offlineTheftsRow.mapsOut==prog.mapsAmong Tryz.f5.resultTypes.toList))=true:=mKr
theorem vk:((Rows.offlineTheftsRow.loops==(Tryz.f5.params.toList++Rows.offlineTheftsSpec.plain.varTypes prog).any (prog.loopsFrom ·)))=true:=mKr
theorem vl:((Rows.offlineTheftsRow.wideKeys==(Tryz.f5.params.toList++Rows.offlineTheftsSpec.plain.varTypes prog++Tryz.f5.resultTypes.toList).any (prog.wideKeysFrom ·)))=true:=mKr
theorem vm:(Rows.offlineTheftsSpec.vars.all (prog.varReadable ·))=true:=mKr
theorem vn:(Tryz.f5.resultTypes.all (fun t=>prog.readableRec t&&decide (t<prog.types.size)))=true:=mKr
theorem vp:((Rows.offlineTheftsRow.ifacesOut==Tryz.f5.resultTypes.toList.any (prog.ifacesRec ·)))=true:=mKr
theorem vq:((Rows.offlineTheftsRow.loopsOut==Tryz.f5.resultTypes.toList.any (prog.loopsFrom ·)))=true:=mKr
theorem vr:((Rows.offlineTheftsRow.plainKeys==prog.plainKeys))=true:=mKr
theorem vt:(Rows.offlineTheftsRow.shortTexts.isNone)=true:=mKr
theorem vu:(prog.stopsHeard)=true:=mKr
theorem vv:(prog.mayEnter)=true:=mKr
theorem vw:((Rows.offlineTheftsRow.lifted==prog.liftsFinal))=true:=mKr
theorem vx:((prog.make==Og Rows.offlineTheftsRow.make))=true:=mKr
theorem vy:((Rows.offlineTheftsRow.kinds==(if Rows.offlineTheftsRow.domain.isEmpty then [] else Tryz.f5.params.toList.map fun t=>match prog.underlying t with|some (.int k)=>some k|_=>none)))=true:=mKr
theorem vz:((Rows.offlineTheftsRow.pinned==Rows.offlineTheftsRow.pinnedBy))=true:=mKr
theorem vA:((Rows.offlineTheftsRow.veiled==(Tryz.f5.params.toList++Rows.offlineTheftsSpec.plain.varTypes prog++Tryz.f5.resultTypes.toList).any (prog.veiledRec ·)))=true:=mKr
theorem vB:(Rows.offlineTheftsRow.veiledFits prog Tryz.f5.params.toList (Tryz.f5.params.toList++Rows.offlineTheftsSpec.plain.varTypes prog++Tryz.f5.resultTypes.toList))=true:=mKr
theorem tS:joinedFacts prog 5 Tryz.f5 Rows.offlineTheftsSpec Rows.offlineTheftsRow=true:=by unfold joinedFacts;simp only[aX];exact⟨⟨⟨⟨⟨⟨⟨⟨⟨⟨⟨⟨⟨⟨⟨⟨⟨⟨⟨⟨⟨⟨⟨⟨⟨⟨⟨⟨⟨⟨⟨wU,wV⟩,wW⟩,wX⟩,wY⟩,wZ⟩,xa⟩,xg⟩,xj⟩,xm⟩,vc⟩,vd⟩,vf⟩,vh⟩,vi⟩,vj⟩,vk⟩,vl⟩,vm⟩,vn⟩,vp⟩,vq⟩,vr⟩,vt⟩,vu⟩,vv⟩,vw⟩,vx⟩,vy⟩,vz⟩,vA⟩,vB⟩
