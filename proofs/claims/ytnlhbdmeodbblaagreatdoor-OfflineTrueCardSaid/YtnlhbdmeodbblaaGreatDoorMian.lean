/- Lemmas. -/
import Derived.Test.YtnlhbdmeodbblaaGreatDoorMiah
import Derived.Test.YtnlhbdmeodbblaaGreatDoorMial
set_option maxRecDepth 100000
set_option maxHeartbeats 16000000
set_option linter.all false
open Go.Proofs.Tryz
open Option renaming map_some→MD
open Go.IntKind renaming i64→JP
open Go.Obj renaming cells→JU
open Go.Value renaming int→JO,slice→JR,pointer→JS
open Option renaming some→JV,none→JW
namespace Go.Proofs.YtnlhbdmeodbblaaGreatDoor
section
open Go Go.Proofs Go.RowKit Go.Sort Go.Lib
theorem nu (t te:TypeId) (hu:prog.underlying t=JV (.slice te)) (hz:∀ w,(sizeOf te).run prog w=.ok (prog.cellsOf te) w) (p:Option Addr) (n c m:Nat) (hm:m≤n) (hc:n≤c) (hp:p=JW→c=0) (w:World):(Instr.sliceAt t (JR p n c) JW (JV (JO JP m)) JW).run prog w=.ok (JR p m c) w:=by
 have h1:(m:Int)≤(c:Int):=mOm;have h2:(m:Int)≤(n:Int):=mOm
 cases p with
 | none =>
  obtain rfl:=hp rfl;obtain rfl:n=0:=mOm;obtain rfl:m=0:=mOm
  go_simp
 | some a =>
  go_simp
theorem Em {ops:Array Oper} {Q:Exit→Act→World→Prop} {S:World→Prop} {i:Nat} {tr:FlowT} {a:Act} {w:World} (oi:Oper) (hi:ops[i]? = JV oi) (hw:Region.wanted oi (yielded ops a.tmps)=true) (t te:TypeId) (x y:Operand) (ho:oi.op=.slice t x JW (JV y) JW) (hu:prog.underlying t=JV (.slice te)) (hz:∀ w,(sizeOf te).run prog w=.ok (prog.cellsOf te) w)
  (p:Option Addr) (n c m:Nat) (hx:a.eval x=JR p n c) (hy:a.eval y=JO JP m) (hm:m≤n) (hc:n≤c) (hp:p=JW→c=0)
  (h:dp prog ops Q S tr (a.put oi.dst (JR p m c)) w):dp prog ops Q S (.take i tr) a w:=
 wS oi (JR p m c) hi hw (fun w _=>by
  unfold execOp
  simp only [ho,hx,hy,MD,Option.map_none,Sem.run_bind,Sem.run_pure,nu t te hu hz p n c m hm hc hp w,Result.andThen_ok]) h
theorem nE {ops:Array Oper} {Q:Exit→Act→World→Prop} {S:World→Prop} {i:Nat} {σ:List (Nat×Bool)} {a:Act} {w:World} (oi:Oper) (hi:ops[i]? = JV oi) (hw:Region.wanted oi (yielded ops a.tmps)=true) (t te:TypeId) (x y:Operand) (ho:oi.op=.slice t x JW (JV y) JW) (hu:prog.underlying t=JV (.slice te)) (hz:∀ w,(sizeOf te).run prog w=.ok (prog.cellsOf te) w)
  (p:Option Addr) (n c m:Nat) (hx:a.eval x=JR p n c) (hy:a.eval y=JO JP m) (hm:m≤n) (hc:n≤c) (hp:p=JW→c=0)
  (h:aO prog ops Q S σ (a.put oi.dst (JR p m c)) w):aO prog ops Q S ((i,true)::σ) a w:=
 fU oi (JR p m c) hi hw (fun w _=>by
  unfold execOp
  simp only [ho,hx,hy,MD,Option.map_none,Sem.run_bind,Sem.run_pure,nu t te hu hz p n c m hm hc hp w,Result.andThen_ok]) h
theorem xy {P:Program} {ops:Array Oper} {Q:Exit→Act→World→Prop} {S:World→Prop} {i:Nat} {t:FlowT} {a:Act} {w:World} (oi:Oper) (hi:ops[i]? = JV oi) (hw:Region.wanted oi (yielded ops a.tmps)=true) (ty:TypeId) (x:Operand) (ho:oi.op=.load ty x)
  (b o:Nat) (hx:a.eval x=JS (JV ⟨b,o,JW⟩)) (cs:List Value) (d:TypeDesc) (hS:∀ w,S w→w.rangeAt b o cs) (hu:P.underlying ty=JV d) (hd:d.isRow=true) (hi2:(P.info? ty).map (·.size)=JV cs.length)
  (h:dp P ops Q S t (a.put oi.dst (.agg cs.toArray)) w):dp P ops Q S (.take i t) a w:=⟨oi,_,hi,yieldsIf_load_mid hw ty x ho b o hx cs d hS hu hd hi2,h⟩
theorem LQ.box {α:Type} {enc:α→List Value} {k:Nat} {e:TypeId} {w0 w:World} {v:Value} {M:List α} (h:LQ enc k e w0 w v M) {b:Nat} (hb:w0.heap.size≤b) (hne:∀ q,v.ownBlock=JV q→q ≠ b) (cs:Array Value):LQ enc k e w0 (w.setRow b cs) v M:=
 ⟨h.form,bE h.own (LM.setRow w b cs) (fun q hq e=>hne q hq e),aQ h.low hb cs⟩
theorem D9 {α:Type} {enc:α→List Value} {w:World} {v:Value} {L:List α} {bx:Nat} (h:LK enc w v L) (hne:∀ b o n c,v=JR (JV ⟨b,o,JW⟩) n c→0 < L.length→b ≠ bx) (cs:Array Value):LK enc (w.setRow bx cs) v L:=by
 obtain ⟨p,c,rfl,h1,h2,h3⟩:=h;refine ⟨p,c,rfl,h1,h2,fun hl=>?_⟩;obtain ⟨b,o,rfl,hlt,hC⟩:=h3 hl;have hb:¬ b=bx:=hne b o _ _ rfl hl;have hB:=LM.setRow w bx cs;exact ⟨b,o,rfl,Nat.lt_of_lt_of_le hlt hB.size,fun j u hj=>(hB.cell hlt hb _ JW).trans (hC j u hj)⟩
theorem kZ {α:Type} {enc:α→List Value} {k:Nat} (hk:∀ x,(enc x).length=k) {w:World} {v:Value} {L:List α} (h:LK enc w v L) {bx:Nat} {cs0:Array Value} {t:TypeId} (hbox:w.heap[bx]? = JV (JU cs0 t (0,0))) (hsz:cs0.size < k) (cs:Array Value):LK enc (w.setRow bx cs) v L:=by
 refine D9 h (fun b o n c hv hl e=>?_) cs;subst e;obtain ⟨p,c',rfl,h1,h2,h3⟩:=h;obtain ⟨b',o',hp,hlt,hC⟩:=h3 hl;subst hp;injection hv with e1 _ _;injection e1 with e1;injection e1 with e1 e2 _;subst e1;subst e2;obtain ⟨x,L',rfl⟩:∃ x L',L=x::L':=by
  cases L with
  | nil=>cases hl
  | cons x L'=>exact ⟨x,L',rfl⟩
 have hlen:k - 1 < (enc x).length:=by rw [hk];omega
 have hj:(br enc (x::L'))[k - 1]? = JV (enc x)[k - 1]:=by
  show (enc x++br enc L')[k - 1]? = _
  rw [List.getElem?_append_left hlen,List.getElem?_eq_getElem hlen]
 have:=hC _ _ hj
 rw [Lib.cell_of_heap hbox,Array.getElem?_eq_none mOm] at this
 cases this
theorem mQ {α:Type} {enc:α→List Value} {k:Nat} (e:TypeId) (w:World) (cs:Array Value) (L:List α) (n:Nat) (hn:L.length=n) (hm:n≤maxLen) (hs:cs.size=n*k) (hcs:cs.toList=br enc L):LQ enc k e w (w.alloc (JU cs e)) (JR (JV ⟨w.heap.size,0,JW⟩) n n) L:=by subst hn;exact ⟨⟨_,_,rfl⟩,hcs ▸ World.ownsRow_lit w cs L.length (Nat.le_refl _) hm hs,al w _⟩
