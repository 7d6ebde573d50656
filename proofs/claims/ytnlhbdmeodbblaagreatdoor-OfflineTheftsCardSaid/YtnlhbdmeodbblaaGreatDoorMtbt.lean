/- Lemmas. -/
import Derived.Test.YtnlhbdmeodbblaaGreatDoorMtbo
import Derived.Test.YtnlhbdmeodbblaaGreatDoorMtbr
import Derived.Test.YtnlhbdmeodbblaaGreatDoorMtbm
import Derived.Test.YtnlhbdmeodbblaaGreatDoorMtan
set_option maxRecDepth 100000
set_option maxHeartbeats 16000000
set_option linter.all false
open Go.Proofs.Tryz
open Int renaming emod_lt_of_pos->fd,emod_nonneg->gE
open Go.Lib renaming cell_of_heap->ae,hid->aa
open List renaming getD_eq_getElem?_getD->bi,getElem?_eq_getElem->ai,length_take->aI,mem_map->ff,mem_of_getElem?->cZ
open Nat renaming le_trans->aV,lt_of_lt_of_le->ax,zero_add->bP
open Go.RowKit renaming Below->ac
open Go.Ending renaming returned->Oe
open Go.IntKind renaming i64->Oa
open Go.Obj renaming cells->Of
open Go.Value renaming int->N9,slice->Oc,pointer->Od
open Option renaming some->Og,none->Oh
namespace Go.Proofs.YtnlhbdmeodbblaaGreatDoor
section
open Go Go.Proofs Go.RowKit Go.Sort Go.Lib
theorem uk:∀es:List Ent,iN es=aN bL es
 | []=>rfl
 | e::es=>by
  show e.cells.toList++iN es=_
  rw[uk es]
  rfl
theorem Fx{base:Nat}{w:World}{v:Value}{es:List Ent}(h:Ents base w v es):ar bL w v es:=by
 have h2:w.ownsRow base 67 15 v es.length (iN es):=h;rw[uk] at h2;exact fo (fun _=>rfl) mDe h2
theorem eU.up{B B':Nat}{A:Option Addr}{n:Nat}{w w':World}(h:eU B A n w)(hb:ac B w w')(hB:B<=B'):eU B' A n w':=
 ⟨h.1,fun j hj=>by
  obtain⟨b,off,z,hA,hB2,hc,hz⟩:=h.2 j hj
  exact⟨b,off,z,hA,mOm,(hb.cell (p:=⟨b,off+j,Oh⟩) hB2).trans hc,hz⟩⟩
theorem zn{w0 w:World}{t:TypeId}{g c:Nat}{K:List bG}(h:bz fp 4 t w0 w (Oc (Og ⟨g,0,Oh⟩) K.length c) K)(hK:0<K.length):cR w g K/\g<w.heap.size:=by
 obtain⟨b,o,h1,h2,h3⟩:=dh (kk:=4) (h.row (fun _=>rfl) mDe) (fun _=>rfl) rfl hK;injection h1 with h1;injection h1 with e1 e2 e3;subst e1;subst e2;exact⟨fun k e he=>by have:=h3 k e he;rw[bP] at this;exact this,h2⟩
theorem bz.boxes{α:Type}{enc:α->List Value}{k:Nat}{e:TypeId}{w W u:World}{v:Value}{M:List α}(h:bz enc k e W u v M)(hb:ac w.heap.size w W){b1 b2:Nat}(h1:w.heap.size<=b1/\b1<W.heap.size)(h2:w.heap.size<=b2/\b2<W.heap.size)(c1 c2:Array Value):bz enc k e w ((u.setRow b1 c1).setRow b2 c2) v M:=
 ⟨h.form,jT (bK (bK h.own (aF.setRow u b1 c1) (fun q hq e=>by have:=(h.own.lt q hq).1;omega)) (aF.setRow _ b2 c2) (fun q hq e=>by have:=(h.own.lt q hq).1;omega)) hb.size,bu (bu (ah hb h.low) h1.1 _) h2.1 _⟩
theorem gH{W:World}{b b':Nat}{cs:Array Value}(h:b≠b'):(W.setRow b cs).heap[b']? = W.heap[b']?:=by simp[World.setRow,Array.getElem?_modify,h]
theorem CmX.boxes{l:List Ent}{R:List aC}{w W u:World}{X:Array Value}(h:CmX l R W u X)(hb:ac w.heap.size w W){b1 b2:Nat}(h1:w.heap.size<=b1/\b1<W.heap.size)(h2:w.heap.size<=b2/\b2<W.heap.size)(c1 c2:Array Value):CmX l R w ((u.setRow b1 c1).setRow b2 c2) X:=by obtain⟨k,st,fi,la,ids,p1,p2,d1,d2,h3,h4,h5,h6,h7⟩:=h;exact⟨k,st,fi,la,ids,p1,p2,d1,d2,h3,h4,h5,h6.boxes hb h1 h2 c1 c2,h7.boxes hb h1 h2 c1 c2⟩
theorem Mg{r:bH}{e:Ent}(he:0<=e.day/\e.day<=1000000):0<=(sgE r e).day/\(sgE r e).day<=1000000:=by
 rcases Aw r e with h|⟨id,mk,h,h1,h2⟩
 .rw[h];exact⟨mDe,mDe⟩
 .rw[h];exact he
theorem Es{r:bH}{l es:List Ent}(h:fQ 1 es)(hl:l=es.map (sgE r)):∀e∈l,0<=e.day/\e.day<=1000000:=by intro e he;rw[hl] at he;obtain⟨x,hx,rfl⟩:=ff.1 he;have:=(h.good x hx).day;exact Mg mOm
def Nm(X:Array Value):Prop:=∃(x0 x1 x2 x3 x4:Int) (p1:Option Addr) (n1 c1:Nat) (p2:Option Addr) (n2 c2:Nat),X=#[N9 Oa x0,N9 Oa x1,N9 Oa x2,N9 Oa x3,N9 Oa x4,Oc p1 n1 c1,Oc p2 n2 c2]
def Ha(w:World)(e:Ending)(w':World):Prop:=
 ∃(r:bH) (l:List Ent) (R:List aC) (g cg:Nat) (pl:Option Addr) (cl:Nat) (pr:Option Addr) (cr:Nat) (X:Array Value) (b:Bool),
  e=Oe (.tuple #[.agg #[N9 Oa r.school,Oc (Og ⟨g,0,Oh⟩) r.keys.length cg],Oc pl l.length cl,Oc pr R.length cr,.agg X,.bool b])/\Nm X/\CaseP r l R/\
  bz fp 4 78 w w' (Oc (Og ⟨g,0,Oh⟩) r.keys.length cg) r.keys/\bz bL 15 67 w w' (Oc pl l.length cl) l/\bz cY 7 65 w w' (Oc pr R.length cr) R/\(b=true->CmX l R w w' X)
theorem vP{fn:Func}{p2 u3 u4 p5 u6:Tmp}(h:fn.results=#[.cell p2 33,.tmp u3,.tmp u4,.cell p5 39,.tmp u6])(tmps:Array Value)(w:World)(g1 g2:Nat)(c1 c2:Array Value)
  (hp1:tmps.getD p2 undef=Od (Og ⟨g1,0,Oh⟩)) (hp2:tmps.getD p5 undef=Od (Og ⟨g2,0,Oh⟩)) (hg1:w.heap[g1]? = Og (Of c1 33 (0,0))) (hg2:w.heap[g2]? = Og (Of c2 39 (0,0))) (hs1:c1.size=2) (hs2:c2.size=7) :
  (results fn tmps).run prog w=.ok (.tuple #[.agg c1,tmps.getD u3 undef,tmps.getD u4 undef,.agg c2,tmps.getD u6 undef]) w:=by
 have r1:=run_loadVar_row (P:=prog) w g1 33 33 c1 (0,0) _ hg1 underlying33 rfl (by rw[hs1];kernel_rfl);have r2:=run_loadVar_row (P:=prog) w g2 39 39 c2 (0,0) _ hg2 underlying39 rfl (by rw[hs2];kernel_rfl);simp only[results,h];simp[Sem.run_bind,Result.andThen,-Array.getD_eq_getD_getElem?,hp1,hp2,asAddr,r1,r2]
theorem Gw(B:Option Addr)(m cB:Nat)(u:World)(hi:eU u.heap.size B m u) :
  Calls prog 33 #[Oc B m cB,N9 Oa 1] u fun e w'=>∃(es:List Ent) (p:Option Addr) (c:Nat),e=Oe (Oc p es.length c)/\Hid (fQ 1 es)/\ar bL w' (Oc p es.length c) es/\ac u.heap.size u w':=by
 refine(Kh B m cB 1 u mDe hi).mono ?_;rintro e w'⟨v,es,rfl,hok,hes,hb⟩;obtain⟨p,c,rfl,-⟩:=hes.form;exact⟨es,p,c,rfl,aa hok,Fx hes,hb⟩
theorem GR(K:List bG)(g cg:Nat)(es:List Ent)(p:Option Addr)(c:Nat)(u:World)(h:ar bL u (Oc p es.length c) es)(hm:Hid (fQ 1 es))(hk:cR u g K)(hg:g<u.heap.size)(h1:1<=K.length)(h3:K.length<=3)(hs:∀k∈K,k.secret.size<=103/\I64 k.id)(hT:Tabs u) :
  Calls prog 32 #[.agg #[N9 Oa 1,Oc (Og ⟨g,0,Oh⟩) K.length cg],Oc p es.length c] u fun e w'=>∃(l:List Ent) (p:Option Addr) (c:Nat),e=Oe (Oc p l.length c)/\Hid (∃es,fQ 1 es/\l=es.map (sgE ⟨1,K⟩))/\bz bL 15 67 u w' (Oc p l.length c) l/\ac u.heap.size u w':=by
 have h24:=hm.out.len;refine(zG ⟨1,K⟩ g cg es (fun e he=>AT (hm.out.good e he) mOm) p c u h mOm hk hg ⟨h1,aV h3 mDe⟩ (fun k hk=>⟨by have:=(hs k hk).1;omega,(hs k hk).2⟩) (show I64 1 from⟨mDe,mDe⟩) hT).mono ?_;rintro e w'⟨v,rfl,hO⟩;obtain⟨p2,c2,rfl⟩:=hO.form;exact⟨es.map (sgE ⟨1,K⟩),p2,c2,rfl,aa ⟨es,hm.out,rfl⟩,hO,hO.low⟩
theorem Hh(K:List bG)(g cg:Nat)(l:List Ent)(p:Option Addr)(c:Nat)(D:Option Addr)(q cD:Nat)(u:World)(h:ar bL u (Oc p l.length c) l)(hm:Hid (∃es,fQ 1 es/\l=es.map (sgE ⟨1,K⟩)))(hi:eU u.heap.size D q u)(hk:cR u g K)(hg:g<u.heap.size)(h3:K.length<=3)(hs:∀k∈K,k.secret.size<=103/\I64 k.id) :
  Calls prog 34 #[.agg #[N9 Oa 1,Oc (Og ⟨g,0,Oh⟩) K.length cg],Oc p l.length c,Oc D q cD] u fun e w'=>∃(R:List aC) (p:Option Addr) (c:Nat),e=Oe (Oc p R.length c)/\Hid (jW ⟨1,K⟩ l R)/\bz cY 7 65 u w' (Oc p R.length c) R/\ac u.heap.size u w':=by
 obtain⟨es,he,hl⟩:=hm.out;have h24:=ue he hl;refine(DF g cg ⟨1,K⟩ p c l D q cD u h (vX he hl (fun k hk=>(hs k hk).2)) mOm (Es he hl) hi hk hg (aV h3 mDe) (fun k hk=>⟨by have:=(hs k hk).1;omega,(hs k hk).2⟩) (show I64 1 from⟨mDe,mDe⟩)).mono ?_;rintro e w'⟨v,rfl,R,hC,hO⟩;obtain⟨p2,c2,rfl⟩:=hO.form;exact⟨R,p2,c2,rfl,aa hC,hO,hO.low⟩
theorem I2(l:List Ent)(p:Option Addr)(c:Nat)(st fi la bits:Int)(u:World)(h:ar bL u (Oc p l.length c) l)(hl:l.length<=24) :
  Calls prog 35 #[Oc p l.length c,N9 Oa st,N9 Oa fi,N9 Oa la,N9 Oa bits] u fun e w'=>∃(ids:List Int) (p:Option Addr) (c:Nat),e=Oe (Oc p ids.length c)/\ids.length<=24/\bz lv 1 3 u w' (Oc p ids.length c) ids/\ac u.heap.size u w':=by
 refine(Er l p c st fi la bits u h mOm).mono ?_;rintro e w'⟨v,rfl,ids,h1,hO⟩;obtain⟨p2,c2,rfl⟩:=hO.form;exact⟨ids,p2,c2,rfl,mOm,hO,hO.low⟩
theorem Jg(l:List Ent)(hok:∀e∈l,e.Ok)(p:Option Addr)(c:Nat)(R:List aC)(pr:Option Addr)(cr:Nat)(k:Nat)(st fi la:Int)(ids:List Int)(pi:Option Addr)(ci:Nat)(u:World)(h:ar bL u (Oc p l.length c) l)(hl:l.length<=24)(hr:ar cY u (Oc pr R.length cr) R)(hR:R.length<=6)(hk:k<R.length)(hi:ar lv u (Oc pi ids.length ci) ids)(hn:ids.length<=24) :
  Calls prog 29 #[Oc p l.length c,Oc pr R.length cr,N9 Oa (k:Int),N9 Oa st,N9 Oa fi,N9 Oa la,Oc pi ids.length ci] u fun e w'=>∃(x0 x1 x2 x3 x4:Int) (p1 p2:Option Addr) (n1 c1 n2 c2:Nat) (er:Int),e=Oe (.tuple #[.agg #[N9 Oa x0,N9 Oa x1,N9 Oa x2,N9 Oa x3,N9 Oa x4,Oc p1 n1 c1,Oc p2 n2 c2],N9 Oa er])/\Hid (er=0->CmX l R u w' #[N9 Oa x0,N9 Oa x1,N9 Oa x2,N9 Oa x3,N9 Oa x4,Oc p1 n1 c1,Oc p2 n2 c2])/\ac u.heap.size u w':=by
 refine(By l hok p c R pr cr k st fi la ids pi ci u h mOm hr mOm hi mOm).mono ?_;rintro e w' (⟨h0,pl,cl,pp,cp,rfl,hO1,hO2⟩|⟨h0,rfl,hb⟩)
 .exact⟨_,_,_,_,_,pl,pp,_,cl,_,cp,0,rfl,aa fun _=>⟨k,st,fi,la,ids,pl,pp,cl,cp,hk,h0,rfl,hO1,hO2⟩,hO1.low⟩
 .exact⟨0,0,0,0,0,Oh,Oh,0,0,0,0,_,rfl,aa fun h=>absurd h h0,hb⟩
end
section
open Go Go.Proofs Go.RowKit Go.Sort Go.Lib
theorem BC:∀s∈codesL,s.size<=100:=mDe
theorem I0{r:bH}{e:Ent}(hg:Good 1 e):(sgE r e).course.size<=100/\(sgE r e).mark.size<=8:=by
 have hc:e.course.size<=100:=by
  have h9:=hg.course
  split at h9
  .exact BC _ h9.1
  .rw[h9.1];decide
 rcases Aw r e with h|⟨id,mk,h,-,h2⟩
 .rw[h];exact⟨mDe,mDe⟩
 .rw[h];exact⟨hc,h2⟩
theorem Fq{e:Ent}(h:e.Ok)(hc:e.course.size<=100)(hm:e.mark.size<=8):e.code.length<=600/\0<e.code.length:=by
 have h1:=pL e h;have h2:=ia e.mark mOm;have h3:0<(eW e.mark).length:=by simp[eW];omega
 unfold Ent.code;rw[List.length_append];omega
theorem CaseP.small{r:bH}{l:List Ent}{R:List aC}(h:CaseP r l R):∀e∈l,e.code.length<=600/\0<e.code.length:=by intro e he;have hok:=h.ok e he;obtain⟨es,h1,h2⟩:=h.ents;rw[h2] at he;obtain⟨x,hx,rfl⟩:=ff.1 he;have:=I0 (r:=r) (h1.good x hx);exact Fq hok this.1 this.2
theorem NU{r:bH}{l:List Ent}{R:List aC}{k:Nat}{st fi la:Int}{ids:List Int}(h:CaseP r l R)(hk:k<R.length)(h0:sV l R k st fi la ids=0):∃m rt,MdX r l R k st fi la ids m rt:=by
 have hge:=ai hk;have hmem:=cZ hge;generalize R[k]=rt at *;have hg:R.getD (k:Int).toNat rootZ=rt:=by rw[Int.toNat_natCast,bi,hge];rfl
 obtain⟨hy,hsc,m,hm1,hm2,hsz,htr,hea⟩:=h.chain.each rt hmem;have hmn:rt.size.toNat=m:=mOm;have hs1:rt.school=1:=by rw[hsc,h.school]
 have hR:=h.chain.few;have hne:R ≠ []:=by intro e;rw[e] at hk;exact Nat.not_lt_zero _ hk
 unfold sV at h0;rw[hg,hmn] at h0
 split at h0;· cases h0
 split at h0;· cases h0
 split at h0;· cases h0
 split at h0;· cases h0
 split at h0;· cases h0
 rename_i h5
 have h5:=Classical.not_not.1 h5
 have hex:cE l R k st fi la ids=mD (l.take m) 1 k st fi la ids:=by unfold cE;rw[hg,hmn,hs1]
 have heach:∀e∈l.take m,e.Ok/\e.code.length<=600/\0<e.code.length/\e.school=1/\e.day<=rt.day:=fun e he=>by
  have hel:=List.mem_of_mem_take he;exact⟨h.ok e hel,(h.small e hel).1,(h.small e hel).2,by rw[(hea e he).1,h.school],(hea e he).2⟩
 have hlen:(l.take m).length=m:=by rw[aI];omega
 have hj:=yg (r:=r) (own:=R) (root:=k) (l:=l.take m) (rt:=rt) (roots:=R) (st:=st) (fi:=fi) (la:=la)
  (sP fun x hx=>(h.chain.each x hx).2.1) hge (ph (h.chain.chk hne) (k+1)) (by rw[hlen,hsz]) htr h5.2 h5.1 mOm ids (by rw[h.school];decide) mOm
  (fun e he=>⟨(heach e he).1,by have:=(heach e he).2.1;omega,by rw[(heach e he).2.2.2.1,h.school]⟩)
 rw[h.school] at hj
 exact⟨m,rt,hge,hm1,hsz,hex,h5.2,h5.1,htr,by rw[hex];exact hj.1,by rw[hex];exact hj.2,heach⟩
theorem CaseP.judOk{r:bH}{l:List Ent}{R:List aC}(h:CaseP r l R){x:fc}(hx:x.Fit):JudOk x R r:=
 ⟨hx,by have:=h.chain.few;omega,fun y hy=>(h.chain.each y hy).1,by have:=h.keys.2;omega,fun k hk=>by have:=(h.sec k hk).1;omega,by rw[h.school];unfold I64;decide⟩
end
section
open Go Go.Proofs Go.RowKit Go.Maps Go.Sort Go.Lib
attribute [local go_sem] Ent.cells cY
def NA(kb:ByteArray)(L:List bT):Bool:=L.any fun x=>decide (x.key=kb) && !decide (x.body.size=0)
structure MadeIn (W wx:World) (r:bH) (l:List Ent) (R:List aC) (g cg:Nat) (pl:Option Addr) (cl:Nat) (pr:Option Addr) (cr rb xb:Nat) (X:Array Value) (bo:Bool):Prop where
 low:ac W.heap.size W wx
 case_:CaseP r l R
 rbox:rb<wx.heap.size/\∀j,wx.cell? ⟨rb,j,Oh⟩=(#[N9 Oa r.school,Oc (Og ⟨g,0,Oh⟩) r.keys.length cg]:Array Value)[j]?
 xbox:xb<wx.heap.size/\∀j,wx.cell? ⟨xb,j,Oh⟩=X[j]?
 keys:bz fp 4 78 W wx (Oc (Og ⟨g,0,Oh⟩) r.keys.length cg) r.keys
 ents:bz bL 15 67 W wx (Oc pl l.length cl) l
 roots:bz cY 7 65 W wx (Oc pr R.length cr) R
 ext:bo=true->CmX l R W wx X
theorem Bt(w:World)(o1 o2:Obj):ac w.heap.size w ((w.alloc o1).alloc o2)/\((w.alloc o1).alloc o2).heap[w.heap.size]? = Og o1/\((w.alloc o1).alloc o2).heap[w.heap.size+1]? = Og o2:=by have h1:=heap_alloc_new w o1;have h2:=heap_alloc_new (w.alloc o1) o2;rw[size_alloc] at h2;exact⟨ah (aj w o1) (aj _ o2),eR h1 o2,h2⟩
end
section
open Go Go.Proofs Go.RowKit Go.Sort Go.Lib
theorem kE{fn:Func}{p u:Tmp}(h:fn.results=#[.cell p 33,.tmp u])(tmps:Array Value)(w:World)(g:Nat)(cs:Array Value)(hp:tmps.getD p undef=Od (Og ⟨g,0,Oh⟩))(hg:w.heap[g]? = Og (Of cs 33 (0,0)))(hs:cs.size=2:=by rfl) :
  (results fn tmps).run prog w=.ok (.tuple #[.agg cs,tmps.getD u undef]) w:=by
 rw[results_cell_tmp h,hp];have:=run_loadVar_row (P:=prog) w g 33 33 cs (0,0) _ hg underlying33 rfl (by rw[hs];kernel_rfl);simp only[asAddr,Sem.run_pure,Result.andThen_ok,this]
theorem Kq{α:Type}{enc:α->List Value}{k:Nat}{e:TypeId}{w0 w:World}{v:Value}{M:List α}(h:bz enc k e w0 w v M)(h0:0<M.length):∃g c,v=Oc (Og ⟨g,0,Oh⟩) M.length c/\w0.heap.size<=g:=by
 obtain⟨p,c,hv⟩:=h.form;obtain⟨-,(⟨rfl,hn⟩|⟨g,c2,cur,rfl,hle,-⟩)⟩:=h.own
 .injection hv with _ e2 _;omega
 .injection hv with e1 e2 e3;exact⟨g,c2,by rw[<-e2],(h.own.lt g rfl).1⟩
theorem Kr{α:Type}{enc:α->List Value}{k:Nat}{e:TypeId}{w0 w:World}{g n c:Nat}{M:List α}(h:bz enc k e w0 w (Oc (Og ⟨g,0,Oh⟩) n c) M):∃cs,w.heap[g]? = Og (Of cs e (0,0)):=by
 obtain⟨-,(⟨h1,-⟩|⟨g',c',cur,h1,-,hg,-⟩)⟩:=h.own
 .cases h1
 .injection h1 with e1 _ _;injection e1 with e1;injection e1 with e1 _ _;subst e1;exact⟨_,hg⟩
theorem yP{W:World}{b b':Nat}{cs:Array Value}(h:b≠b')(j:Nat):(W.setRow b cs).cell? ⟨b',j,Oh⟩=W.cell? ⟨b',j,Oh⟩:=by unfold World.cell?;rw[gH h]
theorem CG:∀(K:List bG)(j:Nat)(k:bG)(d:Int),K[j]? = Og k->aN fp (K.set j { k with stolen:=d })=(aN fp K).set (j*4+3) (N9 Oa d)
 | [],_,_,_,h=>by simp at h
 | x::K,0,k,d,h=>by
  obtain rfl:x=k:=by simpa using h
  rfl
 | x::K,j+1,k,d,h=>by
  have ih:=CG K j k d (by simpa using h)
  show fp x++aN fp (K.set j _)=(fp x++aN fp K).set ((j+1)*4+3) _
  rw[ih,List.set_append_right]
  .congr 2
   show j*4+3=(j+1)*4+3-4
   omega
  .show 4<=(j+1)*4+3
   omega
theorem De{w:World}{g c:Nat}{K:List bG}{j:Nat}{k:bG}(d:Int)(h:ar fp w (Oc (Og ⟨g,0,Oh⟩) K.length c) K)(hj:K[j]? = Og k):ar fp (w.setCell ⟨g,j*4+3,Oh⟩ (N9 Oa d)) (Oc (Og ⟨g,0,Oh⟩) (K.set j { k with stolen:=d }).length c) (K.set j { k with stolen:=d }):=by
 obtain⟨p,c',e,h1,h2,h3⟩:=h;injection e with e1 e2 e3;subst e1;subst e3;have hlt:=(List.getElem?_eq_some_iff.1 hj).1;refine⟨_,_,rfl,by rw[List.length_set];exact h1,h2,fun _=>?_⟩;obtain⟨b,o,hp,hb,hc⟩:=h3 mOm;injection hp with hp;injection hp with e1 e2 _;subst e1;subst e2;have hB:aF (fun q=>q=g) w (w.setCell ⟨g,j*4+3,Oh⟩ (N9 Oa d)):=aF.set (S:=fun q=>q=g) w rfl _ _;refine⟨g,0,rfl,ax hb hB.size,fun i v hv=>?_⟩;rw[CG K j k d hj] at hv;have hold:w.cell? ⟨g,0+(j*4+3),Oh⟩=Og (N9 Oa k.stolen):=hc _ _ (jp (enc:=fp) (k:=4) (fun _=>rfl) hj rfl);rw[bP] at hold;by_cases hi:i=j*4+3
 .subst hi;have hv2:v=N9 Oa d:=by
   rw[List.getElem?_set] at hv
   split at hv
   .split at hv
    .exact(Option.some.inj hv).symm
    .cases hv
   .rename_i hn;exact absurd rfl hn
  subst hv2
  rw[bP];exact World.cell?_setCell_same' w _ _ (by rw[hold];rfl)
 .rw[List.getElem?_set_ne (fun e=>hi e.symm)] at hv;rw[World.cell?_setCell_other _ _ _ _ (by simp <;> omega)];exact hc i v hv
theorem pm{w:World}{g c:Nat}{K:List bG}(h:ar fp w (Oc (Og ⟨g,0,Oh⟩) K.length c) K)(h0:0<K.length):cR w g K/\g<w.heap.size:=by
 obtain⟨b,o,h1,h2,h3⟩:=dh (kk:=4) h (fun _=>rfl) rfl h0;injection h1 with h1;injection h1 with e1 e2 e3;subst e1;subst e2;exact⟨fun k e he=>by have:=h3 k e he;rw[bP] at this;exact this,h2⟩
theorem Fs(rs:Int)(g cg:Nat)(K:List bG)(w:World)(hr:ar fp w (Oc (Og ⟨g,0,Oh⟩) K.length cg) K)(hl:K.length<=1000)(h0:0<K.length) :
  Calls prog 38 #[.agg #[N9 Oa rs,Oc (Og ⟨g,0,Oh⟩) K.length cg]] w fun e w'=>∃g2 c2,e=Oe (.agg #[N9 Oa rs,Oc (Og ⟨g2,0,Oh⟩) K.length c2])/\w.heap.size<=g2/\ar fp w' (Oc (Og ⟨g2,0,Oh⟩) K.length c2) K/\(∃cs,w'.heap[g2]? = Og (Of cs 78 (0,0)))/\ac w.heap.size w w':=by
 obtain⟨hb2,b0,b1⟩:=Bt w (Of #[N9 Oa rs,Oc (Og ⟨g,0,Oh⟩) K.length cg] 33) (Of #[N9 Oa 0,Oc Oh 0 0] 33);obtain⟨W,hW⟩:∃u,u=(w.alloc (Of #[N9 Oa rs,Oc (Og ⟨g,0,Oh⟩) K.length cg] 33)).alloc (Of #[N9 Oa 0,Oc Oh 0 0] 33):=⟨_,rfl⟩;rw[<-hW] at hb2 b0 b1;have HR:=aa hr;have hbD:=ah hb2 (Below.refl _ W).drew;have hS0:ac w.heap.size w W.drew/\w.heap.size<W.drew.heap.size/\∀j,W.drew.cell? ⟨w.heap.size,j,Oh⟩=(#[N9 Oa rs,Oc (Og ⟨g,0,Oh⟩) K.length cg]:Array Value)[j]?:=⟨hbD,aG b0,fun j=>ae b0 j⟩;have keepK:∀{u v:World},(ac w.heap.size w u/\w.heap.size<u.heap.size/\∀j,u.cell? ⟨w.heap.size,j,Oh⟩=(#[N9 Oa rs,Oc (Og ⟨g,0,Oh⟩) K.length cg]:Array Value)[j]?)->ac u.heap.size u v->ac w.heap.size w v/\w.heap.size<v.heap.size/\∀j,v.cell? ⟨w.heap.size,j,Oh⟩=(#[N9 Oa rs,Oc (Og ⟨g,0,Oh⟩) K.length cg]:Array Value)[j]?:=fun {u v} h hb=>⟨ah h.1 hb,ax h.2.1 hb.size,fun j=>(hb.cell (p:=⟨w.heap.size,j,Oh⟩) h.2.1).trans (h.2.2 j)⟩
 have B0:=aO.mk b0;have B1:=aO.mk b1;go_enter func38,ntmps38
 go_upto_region 1 with fail
 rw[<-hW];clear hW hr b0 b1;have hal:=aj W.drew (Of #[] 78);have hO:=(mj (enc:=fp) (k:=4) 78 W.drew #[] [] 0 rfl mDe rfl rfl).from_ (Below.refl _ W).drew;have hRW:=HR.out.below (ah hbD hal);have HB2:=aa hb2;clear hb2 hbD;refine aD (S:=fun u=>ac w.heap.size w u/\w.heap.size<u.heap.size/\∀j,u.cell? ⟨w.heap.size,j,Oh⟩=(#[N9 Oa rs,Oc (Og ⟨g,0,Oh⟩) K.length cg]:Array Value)[j]?) [(0,true),(1,true),(3,true),(4,true),(2,false),(5,false),(6,true),(7,false)] hS0 ?_;have hS:=hS0
 iterate 4 refine ak ?_
 refine yX ⟨_,_,_,_,_,_⟩ (Oc (Og ⟨W.drew.heap.size,0,Oh⟩) 0 0) (W.drew.alloc (Of #[] 78)) rfl mRf (by go_simp;try rfl) (keepK hS hal) ?_;replace hS:=keepK hS hal;refine ay ?_;refine fT kyT ⟨_,_,_,_,_,_⟩ rfl mRf (.tmp 5) (.tmp 7) mRf W.heap.size _ _ [] K mRf mRf hO.own hRW (by simp only[List.length_nil];omega) hO.low.size ?_;intro v9 w9 hA9;have hO9:=hO.app hA9;rw[List.nil_append] at hO9;obtain⟨g2,c2,hv2,hg2⟩:=Kq hO9 h0;subst hv2;have hx0:=hO9.low.heap_of B0.is;have hx9:=hO9.low.heap_of B1.is;replace hS:ac w.heap.size w w9/\w.heap.size<w9.heap.size/\∀j,w9.cell? ⟨w.heap.size,j,Oh⟩=(#[N9 Oa rs,Oc (Og ⟨g,0,Oh⟩) K.length cg]:Array Value)[j]?:=⟨ah HB2.out hO9.low,aG hx0,ae hx0⟩;have hrow:=hO9.row ow mDe;obtain⟨cs9,hcs9⟩:=Kr hO9;have hg2n:w.heap.size+1≠g2:=(by have:=HB2.out.size;have:=aG B1.is;omega);have HG2:=aa (aV HB2.out.size hg2);refine⟨hS,?_⟩;clear hA9 hx0 hg2;refine ay ?_;refine ak ?_;have hS9:ac w.heap.size w (w9.setRow (w.heap.size+1) #[N9 Oa rs,Oc (Og ⟨g2,0,Oh⟩) K.length c2])/\w.heap.size<(w9.setRow (w.heap.size+1) #[N9 Oa rs,Oc (Og ⟨g2,0,Oh⟩) K.length c2]).heap.size/\∀j,(w9.setRow (w.heap.size+1) #[N9 Oa rs,Oc (Og ⟨g2,0,Oh⟩) K.length c2]).cell? ⟨w.heap.size,j,Oh⟩=(#[N9 Oa rs,Oc (Og ⟨g,0,Oh⟩) K.length cg]:Array Value)[j]?:=⟨bu hS.1 mOm _,ax hS.2.1 (aF.setRow w9 _ _).size,fun j=>(yP mOm j).trans (hS.2.2 j)⟩;refine ll ⟨_,_,_,_,_,_⟩ rfl mRf (wp_store_row 33 (.tmp 2) (.tmp 9) mRf (w.heap.size+1) #[N9 Oa rs,Oc (Og ⟨g2,0,Oh⟩) K.length c2] mRf mRf _ _ hx9 mKr rfl (by simp[Value.oneCell']) ⟨hS9,?_⟩);simp only[Act.put];simp only[aQ,aZ];have HROW:=aa (jg ow hrow hx9 mDe #[N9 Oa rs,Oc (Og ⟨g2,0,Oh⟩) K.length c2]);have hx10:=setRow_heap w9 (w.heap.size+1) _ #[N9 Oa rs,Oc (Og ⟨g2,0,Oh⟩) K.length c2] _ _ hx9;have HS9:=aa hS9.1;have HCS:=aa (show ∃cs,(w9.setRow (w.heap.size+1) #[N9 Oa rs,Oc (Og ⟨g2,0,Oh⟩) K.length c2]).heap[g2]? = Og (Of cs 78 (0,0)) from⟨cs9,(gH hg2n).trans hcs9⟩);clear hS hS0 hS9 hrow hO9 hO hRW hal hcs9;go_wp2_with fail;refine bodyPost_ret (v:=.agg #[N9 Oa rs,Oc (Og ⟨g2,0,Oh⟩) K.length c2]) (results_cell_row (P:=prog) results38 _ _ (w.heap.size+1) 33 #[N9 Oa rs,Oc (Og ⟨g2,0,Oh⟩) K.length c2] (0,0) _ rfl hx10 underlying33 rfl mKr) rfl ?_;exact⟨g2,c2,rfl,HG2.out,HROW.out,HCS.out,HS9.out⟩
def sX(r:bH)(id day er s2:Int)(p2:Option Addr)(K2:List bG):Prop:=er=0->et r=0/\s2=r.school/\(∃g2,p2=Og ⟨g2,0,Oh⟩)/\∃k,r.keys[cw r.keys id]? = Og k/\1<=day/\day<=100000/\k.fro<=day/\K2=(dr r (cw r.keys id) k day).keys
theorem rF{p:Prop} (h:p:=by
 clear hs0 hset
 go_upto_region 13 with fail
 rw[<-hW6];clear hW6;go_wp2_with ((with_reducible refine wpList_store_row (o:=⟨Oh,.store 33 (.tmp 6) (.tmp 68),_,_,_,_⟩) ?_ 33 (.tmp 6) (.tmp 68) ?_ (w.heap.size+1) #[N9 Oa rs,Oc (Og ⟨g2,0,Oh⟩) K.length c2] ?_ ?_ 33 #[N9 Oa 0,Oc Oh 0 0] ?_ ?_ ?_ ?_ ?_);rfl;rfl;rfl;rfl;exact n6;kernel_rfl;rfl;simp[Value.oneCell'])
 (try simp only[Exit.inBlock,Exit.then]);refine bodyPost_ret (kE results25 _ _ (w.heap.size+1) #[N9 Oa rs,Oc (Og ⟨g2,0,Oh⟩) K.length c2] rfl (setRow_heap _ _ _ _ _ _ n6)) rfl ?_
 exact FIN.out _ rfl):p:=h
theorem sj{p:Prop} (h:p:=by
 go_wp2_with ((with_reducible refine wpList_store_row (o:=⟨Oh,.store 33 (.tmp 6) (.tmp 42),_,_,_,_⟩) ?_ 33 (.tmp 6) (.tmp 42) ?_ (w.heap.size+1) #[N9 Oa 0,Oc Oh 0 0] ?_ ?_ 33 #[N9 Oa 0,Oc Oh 0 0] ?_ ?_ ?_ ?_ ?_);rfl;rfl;rfl;rfl;exact n1;kernel_rfl;rfl;simp[Value.oneCell'])
 (try simp only[Exit.inBlock,Exit.then]);refine bodyPost_ret (kE results25 _ _ (w.heap.size+1) #[N9 Oa 0,Oc Oh 0 0] rfl (setRow_heap _ _ _ _ _ _ n1)) rfl ?_
 exact⟨0,Oh,[],0,23,rfl,ar.nil _ _,HOK2,bu HBW2.out mOm _⟩):p:=h
theorem sr{p:Prop} (h:p:=by
 (try simp only[Exit.inBlock,Exit.then]);refine bodyPost_ret (kE results25 _ _ (w.heap.size+1) #[N9 Oa 0,Oc Oh 0 0] rfl (setRow_heap _ _ _ _ _ _ n1)) rfl ?_
 exact⟨0,Oh,[],0,23,rfl,ar.nil _ _,HOK2,bu HBW2.out mOm _⟩):p:=h
theorem Et(rs:Int)(K:List bG)(g cg:Nat)(id day:Int)(w:World)(hr:ar fp w (Oc (Og ⟨g,0,Oh⟩) K.length cg) K)(hl:K.length<=1000)(h0:0<K.length) :
  Calls prog 25 #[.agg #[N9 Oa rs,Oc (Og ⟨g,0,Oh⟩) K.length cg],N9 Oa id,N9 Oa day] w fun e w'=>∃(s2:Int) (p2:Option Addr) (K2:List bG) (c2:Nat) (er:Int),e=Oe (.tuple #[.agg #[N9 Oa s2,Oc p2 K2.length c2],N9 Oa er])/\ar fp w' (Oc p2 K2.length c2) K2/\Hid (sX ⟨rs,K⟩ id day er s2 p2 K2)/\ac w.heap.size w w':=by
 obtain⟨hb2,b0,b1⟩:=Bt w (Of #[N9 Oa rs,Oc (Og ⟨g,0,Oh⟩) K.length cg] 33) (Of #[N9 Oa 0,Oc Oh 0 0] 33);obtain⟨W,hW⟩:∃u,u=(w.alloc (Of #[N9 Oa rs,Oc (Og ⟨g,0,Oh⟩) K.length cg] 33)).alloc (Of #[N9 Oa 0,Oc Oh 0 0] 33):=⟨_,rfl⟩;rw[<-hW] at hb2 b0 b1;obtain⟨hk,hg⟩:=pm hr h0;have HR:=aa hr;have HKA:=aa hk;have r0:W.cell? ⟨w.heap.size,0,Oh⟩=Og (N9 Oa rs):=ae b0 0;have r1:W.cell? ⟨w.heap.size,1,Oh⟩=Og (Oc (Og ⟨g,0,Oh⟩) K.length cg):=ae b0 1;have kc:=qg g cg ⟨rs,K⟩ W (hk.below hb2 hg) (ax hg hb2.size) hl;have HOK:Hid (∀s2 p2 K2 er,(er=0->et ⟨rs,K⟩=0/\s2=rs/\(∃g2,p2=Og ⟨g2,0,Oh⟩)/\∃k,K[cw K id]? = Og k/\1<=day/\day<=100000/\k.fro<=day/\K2=(dr ⟨rs,K⟩ (cw K id) k day).keys)->sX ⟨rs,K⟩ id day er s2 p2 K2):=aa (fun _ _ _ _ h=>h);have HNX:Hid (∀k d,dr ⟨rs,K⟩ (cw K id) k d=⟨rs,K.set (cw K id) (fM k d)⟩):=aa (fun _ _=>rfl);have HCK:Hid (et ⟨rs,K⟩=et ⟨rs,K⟩):=aa rfl;generalize sX ⟨rs,K⟩ id day=OKP at *;obtain⟨CK,hCK⟩:∃c,c=et ⟨rs,K⟩:=⟨_,rfl⟩;rw[<-hCK] at kc HOK;have B0:=aO.mk b0;have B1:=aO.mk b1;have HB2:=aa hb2;have HCKE:=aa hCK;clear hk hr b0 b1 hb2 HCK hCK;go_enter func25,ntmps25
 go_upto_region 1 with fail
 rw[<-hW];clear hW;go_wp2_with fail;refine kc.mono ?_;clear kc r0 r1;rintro _ w1⟨rfl,hb1⟩;have hbw1:=ah HB2.out hb1;have n1:=hb1.heap_of B1.is;have B0:=aO.mk (hb1.heap_of B0.is);have hzl:=aG n1;by_cases hc0:CK=0
 rotate_left 1
 .have t1:(CK != 0)=true:=by rw[bne_iff_ne];exact hc0
  have HNE:Hid (¬CK=0):=aa hc0;have HOK2:=aa (HOK.out 0 Oh [] CK (fun h=>absurd h hc0));clear hc0;go_wp2_with ((with_reducible refine wpList_store_row (o:=⟨Oh,.store 33 (.tmp 6) (.tmp 16),_,_,_,_⟩) ?_ 33 (.tmp 6) (.tmp 16) ?_ (w.heap.size+1) #[N9 Oa 0,Oc Oh 0 0] ?_ ?_ 33 #[N9 Oa 0,Oc Oh 0 0] ?_ ?_ ?_ ?_ ?_);rfl;rfl;rfl;rfl;exact n1;kernel_rfl;rfl;simp[Value.oneCell'])
  (try simp only[Exit.inBlock,Exit.then]);refine bodyPost_ret (kE results25 _ _ (w.heap.size+1) #[N9 Oa 0,Oc Oh 0 0] rfl (setRow_heap _ _ _ _ _ _ n1)) rfl ?_
  exact⟨0,Oh,[],0,CK,rfl,ar.nil _ _,HOK2,bu hbw1 mOm _⟩
 have t1:(CK != 0)=false:=by rw[bne_eq_false_iff_eq];exact hc0
 have CKZ:=HCKE.out.symm.trans hc0;clear HCKE;subst hc0;have r0:w1.cell? ⟨w.heap.size,0,Oh⟩=Og (N9 Oa rs):=ae B0.is 0;have r1:w1.cell? ⟨w.heap.size,1,Oh⟩=Og (Oc (Og ⟨g,0,Oh⟩) K.length cg):=ae B0.is 1;have kf:=sN g cg rs K id w1 hl (HKA.out.below hbw1 hg) (ax hg hbw1.size);have HBW1:=aa hbw1;have N1:=aO.mk n1;clear hb1 hbw1 n1;go_wp2_with fail;refine kf.mono ?_;clear kf r0 r1;rintro _ w2⟨rfl,hb2⟩;have hbw2:=ah HBW1.out hb2;have n1:=hb2.heap_of N1.is;have B0:=aO.mk (hb2.heap_of B0.is);have hzl:=aG n1;by_cases hj:cw K id<K.length
 rotate_left 1
 .rw[if_neg hj];have HNE:Hid (¬(5:Int)=0):=aa mDe;have HOK2:=aa (HOK.out 0 Oh [] 5 (fun h=>absurd h mDe));clear hj;go_wp2_with ((with_reducible refine wpList_store_row (o:=⟨Oh,.store 33 (.tmp 6) (.tmp 23),_,_,_,_⟩) ?_ 33 (.tmp 6) (.tmp 23) ?_ (w.heap.size+1) #[N9 Oa 0,Oc Oh 0 0] ?_ ?_ 33 #[N9 Oa 0,Oc Oh 0 0] ?_ ?_ ?_ ?_ ?_);rfl;rfl;rfl;rfl;exact n1;kernel_rfl;rfl;simp[Value.oneCell'])
  (try simp only[Exit.inBlock,Exit.then]);refine bodyPost_ret (kE results25 _ _ (w.heap.size+1) #[N9 Oa 0,Oc Oh 0 0] rfl (setRow_heap _ _ _ _ _ _ n1)) rfl ?_
  exact⟨0,Oh,[],0,5,rfl,ar.nil _ _,HOK2,bu hbw2 mOm _⟩
 rw[if_pos hj]
 obtain⟨k,hk⟩:∃k,K[cw K id]? = Og k:=⟨_,ai hj⟩;generalize cw K id=j at *;have jlt:¬(j:Int)<0:=mOm;have jl:(j:Int)<(K.length:Int):=mOm;have jlt2:=hj;have j0:(0:Int)<=(j:Int):=mOm;have k3:=fun u=>iP day u
 have HBW2:=aa hbw2;have N1:=aO.mk n1;have HK:=aa hk;clear hb2 hbw2 n1;go_wp2_with fail;refine(k3 _).mono ?_;clear k3;rintro _ w3⟨rfl,rfl⟩;have n1:=N1.is;have r1:w2.cell? ⟨w.heap.size,1,Oh⟩=Og (Oc (Og ⟨g,0,Oh⟩) K.length cg):=ae B0.is 1;have hkc:=HKA.out.below HBW2.out hg;have q2:w2.cell? ⟨g,j*4+2,Oh⟩=Og (N9 Oa k.fro):=hkc j k hk 2 _ rfl;by_cases hd1:day<1
 .have HNE:Hid (¬(23:Int)=0):=aa mDe;have HOK2:=aa (HOK.out 0 Oh [] 23 (fun h=>absurd h mDe));have t2:decide (day<1)=true:=decide_eq_true hd1;generalize au day 0 100000=bb;clear hd1 hk hkc
  cases bb
  .go_wp2_with ((with_reducible refine wpList_store_row (o:=⟨Oh,.store 33 (.tmp 6) (.tmp 42),_,_,_,_⟩) ?_ 33 (.tmp 6) (.tmp 42) ?_ (w.heap.size+1) #[N9 Oa 0,Oc Oh 0 0] ?_ ?_ 33 #[N9 Oa 0,Oc Oh 0 0] ?_ ?_ ?_ ?_ ?_);rfl;rfl;rfl;rfl;exact n1;kernel_rfl;rfl;simp[Value.oneCell']);exact sr
  .go_wp2_with ((with_reducible refine wpList_store_row (o:=⟨Oh,.store 33 (.tmp 6) (.tmp 42),_,_,_,_⟩) ?_ 33 (.tmp 6) (.tmp 42) ?_ (w.heap.size+1) #[N9 Oa 0,Oc Oh 0 0] ?_ ?_ 33 #[N9 Oa 0,Oc Oh 0 0] ?_ ?_ ?_ ?_ ?_);rfl;rfl;rfl;rfl;exact n1;kernel_rfl;rfl;simp[Value.oneCell']);exact sr
 have t2:decide (day<1)=false:=decide_eq_false hd1
 by_cases hd2:au day 0 100000=true
 rotate_left 1
 .rw[Bool.not_eq_true] at hd2;rw[hd2];have HNE:Hid (¬(23:Int)=0):=aa mDe;have HOK2:=aa (HOK.out 0 Oh [] 23 (fun h=>absurd h mDe));clear hd1 hd2 hk hkc;exact sj
 rw[hd2]
 by_cases hd3:day<k.fro
 .have t3:decide (day<k.fro)=true:=decide_eq_true hd3;have HNE:Hid (¬(23:Int)=0):=aa mDe;have HOK2:=aa (HOK.out 0 Oh [] 23 (fun h=>absurd h mDe));clear hd1 hd2 hd3 hk hkc;exact sj
 have t3:decide (day<k.fro)=false:=decide_eq_false hd3
 have HD:Hid (1<=day/\day<=100000/\k.fro<=day):=aa ⟨mOm,(between_iff.1 hd2).2,mOm⟩;have r0:w2.cell? ⟨w.heap.size,0,Oh⟩=Og (N9 Oa rs):=ae B0.is 0;have kcp:=Fs rs g cg K w2 (HR.out.below HBW2.out) hl h0;clear hd1 hd2 hd3 hk hkc n1;go_wp2_with fail;refine kcp.mono ?_;clear kcp r0 r1 q2;rintro _ w4⟨g2,c2,rfl,hg2,hrow,⟨cs4,hcs4⟩,hb4⟩;have hbw4:=ah HBW2.out hb4;have hx:=heap_alloc_new w4 (Of #[N9 Oa rs,Oc (Og ⟨g2,0,Oh⟩) K.length c2] 33);have hba:=aj w4 (Of #[N9 Oa rs,Oc (Og ⟨g2,0,Oh⟩) K.length c2] 33);have N1:=aO.mk (hba.heap_of (hb4.heap_of N1.is));obtain⟨W5,hW5⟩:∃u,u=w4.alloc (Of #[N9 Oa rs,Oc (Og ⟨g2,0,Oh⟩) K.length c2] 33):=⟨_,rfl⟩;obtain⟨ob,hob⟩:∃b,b=w4.heap.size:=⟨_,rfl⟩;have hgl:=(pm hrow h0).2;have hg2l:g2<ob:=by rw[hob];exact hgl
 have hrow5:=hrow.below hba;have hcs5:=hba.heap_of hcs4;rw[<-hW5] at hx hba N1 hrow5 hcs5;rw[<-hob] at hx
 go_upto_region 11 with fail
 rw[<-hW5,<-hob];have HBW5:=aa (ah hbw4 hba);have HROW:=aa hrow5;have OB:=aO.mk hx;have hk5:=(pm hrow5 h0).1;have HG2:=aa (aV HBW2.out.size hg2);have hzo:w.heap.size+1≠g2/\ob≠g2:=⟨mOm,mOm⟩;clear hW5 hob hba hrow hrow5 hb4 hbw4 hgl;have q3f:W5.frozen? ⟨g2,j*4+3,Oh⟩=false:=Lib.frozen_of_heap hcs5 _;have q3:W5.cell? ⟨g2,j*4+3,Oh⟩=Og (N9 Oa k.stolen):=hk5 j k HK.out 3 _ rfl;have o0:W5.cell? ⟨ob,0,Oh⟩=Og (N9 Oa rs):=ae OB.is 0;have o1:W5.cell? ⟨ob,1,Oh⟩=Og (Oc (Og ⟨g2,0,Oh⟩) K.length c2):=ae OB.is 1;clear hk5 hx hcs5 hcs4;have HKL:Hid (∀d,(K.set j { k with stolen:=d }).length=K.length):=aa (fun d=>List.length_set);have hcase:∀(bt:Bool),((k.stolen==0)||decide (day<k.stolen))=bt->True:=fun _ _=>trivial
 clear hcase;by_cases hset:k.stolen=0\/day<k.stolen
 .have HEQ:Hid (fM k day={ k with stolen:=day }):=aa (by unfold fM kG;rw[if_pos hset]);have HOK2:Hid (OKP 0 rs (some ⟨g2,0,none⟩) (K.set j { k with stolen:=day })):=aa (HOK.out _ _ _ _ (fun _=>⟨by first|exact CKZ|trivial,rfl,⟨g2,rfl⟩,k,HK.out,HD.out.1,HD.out.2.1,HD.out.2.2,by rw[HNX.out,HEQ.out]⟩));obtain⟨W6,hW6⟩:∃u,u=W5.setCell ⟨g2,j*4+3,none⟩ (.int .i64 day):=⟨_,rfl⟩;have hB:aF (fun q=>q=g2) W5 W6:=by rw[hW6];exact aF.set (S:=fun q=>q=g2) W5 rfl _ _
  have n1:W6.heap[w.heap.size+1]? = Og (Of #[N9 Oa 0,Oc Oh 0 0] 33 (0,0)):=(hB.block _ (aG N1.is) mOm).trans N1.is;have ho6:W6.heap[ob]? = Og (Of #[N9 Oa rs,Oc (Og ⟨g2,0,Oh⟩) K.length c2] 33 (0,0)):=(hB.block _ (aG OB.is) mOm).trans OB.is;have p0:W6.cell? ⟨ob,0,Oh⟩=Og (N9 Oa rs):=ae ho6 0;have p1:W6.cell? ⟨ob,1,Oh⟩=Og (Oc (Og ⟨g2,0,Oh⟩) K.length c2):=ae ho6 1;have HR6:Hid (ar fp W6 (Oc (Og ⟨g2,0,Oh⟩) (K.set j { k with stolen:=day }).length c2) (K.set j { k with stolen:=day })):=aa (by rw[hW6];exact De day HROW.out HK.out);have HBW6:Hid (ac w.heap.size w W6):=aa (by rw[hW6];exact HBW5.out.trans ((aF.set (S:=fun q=>q=g2) W5 rfl _ _).below (fun q hq e=>by have:=HG2.out;omega) HBW5.out.size));have N6:=aO.mk n1;clear hB n1 ho6
  have finish:∀(u:World),u=W6.setRow (w.heap.size+1) #[N9 Oa rs,Oc (Og ⟨g2,0,Oh⟩) K.length c2]->∃(s2:Int) (p2:Option Addr) (K2:List bG) (c2':Nat) (er:Int),Ending.returned (.tuple #[.agg #[N9 Oa rs,Oc (Og ⟨g2,0,Oh⟩) K.length c2],N9 Oa 0])=Oe (.tuple #[.agg #[N9 Oa s2,Oc p2 K2.length c2'],N9 Oa er])/\ar fp u (Oc p2 K2.length c2') K2/\Hid (OKP er s2 p2 K2)/\ac w.heap.size w u:=fun u hu=>by
   subst hu;exact⟨rs,Og ⟨g2,0,Oh⟩,K.set j { k with stolen:=day },c2,0,by rw[HKL.out],jg ow HR6.out N6.is mDe _,HOK2,bu HBW6.out mOm _⟩
  have FIN:=aa finish
  clear finish;have n6:=N6.is;by_cases hs0:k.stolen=0
  .have t4:(k.stolen==0)=true:=by rw[beq_iff_eq];exact hs0
   exact rF
  .have t4:(k.stolen==0)=false:=by rw[beq_eq_false_iff_ne];exact hs0
   have t5:decide (day<k.stolen)=true:=decide_eq_true mOm;exact rF
 .have HEQ:Hid (K.set j (fM k day)=K):=aa (by
   have:fM k day=k:=by unfold fM kG;rw[if_neg hset]
   rw[this]
   exact List.ext_getElem? (fun i=>by
    rw[List.getElem?_set];by_cases h:j=i
    .subst h;rw[if_pos rfl,if_pos jlt2];exact HK.out.symm
    .rw[if_neg h]))
  have HOK2:Hid (OKP 0 rs (some ⟨g2,0,none⟩) K):=aa (HOK.out _ _ _ _ (fun _=>⟨by first|exact CKZ|trivial,rfl,⟨g2,rfl⟩,k,HK.out,HD.out.1,HD.out.2.1,HD.out.2.2,by rw[HNX.out];exact HEQ.out.symm⟩))
  have t4:(k.stolen==0)=false:=by rw[beq_eq_false_iff_ne];omega
  have t5:decide (day<k.stolen)=false:=decide_eq_false mOm;have n6:=N1.is;clear hset;go_wp2_with ((with_reducible refine wpList_store_row (o:=⟨Oh,.store 33 (.tmp 6) (.tmp 68),_,_,_,_⟩) ?_ 33 (.tmp 6) (.tmp 68) ?_ (w.heap.size+1) #[N9 Oa rs,Oc (Og ⟨g2,0,Oh⟩) K.length c2] ?_ ?_ 33 #[N9 Oa 0,Oc Oh 0 0] ?_ ?_ ?_ ?_ ?_);rfl;rfl;rfl;rfl;exact n6;kernel_rfl;rfl;simp[Value.oneCell'])
  (try simp only[Exit.inBlock,Exit.then]);refine bodyPost_ret (kE results25 _ _ (w.heap.size+1) #[N9 Oa rs,Oc (Og ⟨g2,0,Oh⟩) K.length c2] rfl (setRow_heap _ _ _ _ _ _ n6)) rfl ?_
  exact⟨rs,Og ⟨g2,0,Oh⟩,K,c2,0,rfl,jg ow HROW.out n6 mDe _,HOK2,bu HBW5.out mOm _⟩
end
section
open Go Go.Proofs Go.RowKit Go.Sort Go.Lib
attribute [local go_sem ↓] mq mr
theorem nr{p q:Prop}(h:q) (f:Wq q->p:=by
 intro hq;have F1:=aO.mk (hbd.heap_of F1.is);have F2:=aO.mk (hbd.heap_of F2.is);have FR:=aO.mk (hbd.heap_of FR.is)
 revert F1 F2 FR
 exact hq.1):p:=f ⟨h⟩
theorem Jt(A B D:Option Addr)(n m q cA cB cD:Nat)(a0 a1 a2 a3 a4:Int)(w:World)(hA:eU w.heap.size A n w)(hB:eU w.heap.size B m w)(hD:eU w.heap.size D q w)(hqc:q<=cD)(hDn:D=Oh->cD=0)(hT:Tabs w) :
  Calls prog 8 #[.agg #[Oc A n cA,Oc B m cB,Oc D q cD,N9 Oa a0,N9 Oa a1,N9 Oa a2,N9 Oa a3,N9 Oa a4]] w (Ha w):=by
 have HA:=aa hA;have HB:=aa hB;have HD:=aa hD;have HT:=aa hT;have HDN:=aa hDn;have e0:=heap_alloc_new w (Of #[Oc A n cA,Oc B m cB,Oc D q cD,N9 Oa a0,N9 Oa a1,N9 Oa a2,N9 Oa a3,N9 Oa a4] 25);have e1:=heap_alloc_new (w.alloc (Of #[Oc A n cA,Oc B m cB,Oc D q cD,N9 Oa a0,N9 Oa a1,N9 Oa a2,N9 Oa a3,N9 Oa a4] 25)) (Of #[N9 Oa 0,Oc Oh 0 0] 33);have e2:=heap_alloc_new ((w.alloc (Of #[Oc A n cA,Oc B m cB,Oc D q cD,N9 Oa a0,N9 Oa a1,N9 Oa a2,N9 Oa a3,N9 Oa a4] 25)).alloc (Of #[N9 Oa 0,Oc Oh 0 0] 33)) (Of #[N9 Oa 0,N9 Oa 0,N9 Oa 0,N9 Oa 0,N9 Oa 0,Oc Oh 0 0,Oc Oh 0 0] 39);rw[size_alloc] at e1;rw[size_alloc,size_alloc] at e2;have k0:=eR (eR e0 (Of #[N9 Oa 0,Oc Oh 0 0] 33)) (Of #[N9 Oa 0,N9 Oa 0,N9 Oa 0,N9 Oa 0,N9 Oa 0,Oc Oh 0 0,Oc Oh 0 0] 39);have k1:=eR e1 (Of #[N9 Oa 0,N9 Oa 0,N9 Oa 0,N9 Oa 0,N9 Oa 0,Oc Oh 0 0,Oc Oh 0 0] 39);have hb0:=ah (aj w (Of #[Oc A n cA,Oc B m cB,Oc D q cD,N9 Oa a0,N9 Oa a1,N9 Oa a2,N9 Oa a3,N9 Oa a4] 25)) (ah (aj _ (Of #[N9 Oa 0,Oc Oh 0 0] 33)) (aj _ (Of #[N9 Oa 0,N9 Oa 0,N9 Oa 0,N9 Oa 0,N9 Oa 0,Oc Oh 0 0,Oc Oh 0 0] 39)));obtain⟨W,hW⟩:∃u,u=((w.alloc (Of #[Oc A n cA,Oc B m cB,Oc D q cD,N9 Oa a0,N9 Oa a1,N9 Oa a2,N9 Oa a3,N9 Oa a4] 25)).alloc (Of #[N9 Oa 0,Oc Oh 0 0] 33)).alloc (Of #[N9 Oa 0,N9 Oa 0,N9 Oa 0,N9 Oa 0,N9 Oa 0,Oc Oh 0 0,Oc Oh 0 0] 39):=⟨_,rfl⟩;rw[<-hW] at e2 k0 k1 hb0;clear e0 e1 hA hB hD hT hDn;have z0:=ae k0 0;have F0:=aO.mk k0;have F1:=aO.mk k1;have F2:=aO.mk e2;have HB0:=aa hb0;have hWs:=av e2;have km:=Gv 1 A n cA W mDe (HA.out.up hb0 hb0.size);clear k0 k1 e2 hb0;go_enter func8,ntmps8
 go_upto_region 1 with fail
 rw[<-hW];clear hW;go_wp2_with fail;refine km.mono ?_;clear km z0;rintro _ w1⟨g,cg,K,rfl,hk1,hk3,hks,hO1⟩;have hb1:=ah HB0.out hO1.low;have hx:=heap_alloc_new w1 (Of #[N9 Oa 1,Oc (Og ⟨g,0,Oh⟩) K.length cg] 33);have hba:=aj w1 (Of #[N9 Oa 1,Oc (Og ⟨g,0,Oh⟩) K.length cg] 33);obtain⟨W2,hW2⟩:∃u,u=w1.alloc (Of #[N9 Oa 1,Oc (Og ⟨g,0,Oh⟩) K.length cg] 33):=⟨_,rfl⟩;have F0:=aO.mk ((hO1.low.heap_of F0.is));have F1:=aO.mk ((hO1.low.heap_of F1.is));have F2:=aO.mk ((hO1.low.heap_of F2.is));rw[<-hW2] at hx hba;obtain⟨rb,hrb⟩:∃b,b=w1.heap.size:=⟨_,rfl⟩;have F0:=aO.mk (hba.heap_of F0.is);have F1:=aO.mk (hba.heap_of F1.is);have F2:=aO.mk (hba.heap_of F2.is);have HOK:=aa (hO1.next hba);have HBW:=aa (ah hO1.low hba);have HKS:=aa hks;have hb2:=ah hb1 hba;have hKA:=zn HOK.out hk1;have HG:=aa hKA
 go_upto_region 2 with fail
 rw[<-hW2,<-hrb];rw[<-hrb] at hx;have hrl:w.heap.size+3<=rb:=by have:=hO1.low.size;rw[hrb];omega
 have FR:=aO.mk hx;have hS0:ac w.heap.size w W2/\(w.heap.size<W2.heap.size/\rb<W2.heap.size)/\(∀j,W2.cell? ⟨w.heap.size,j,Oh⟩=(#[Oc A n cA,Oc B m cB,Oc D q cD,N9 Oa a0,N9 Oa a1,N9 Oa a2,N9 Oa a3,N9 Oa a4]:Array Value)[j]?)/\(∀j,W2.cell? ⟨rb,j,Oh⟩=(#[N9 Oa 1,Oc (Og ⟨g,0,Oh⟩) K.length cg]:Array Value)[j]?):=⟨hb2,⟨av F0.is,av hx⟩,ae F0.is,ae hx⟩;have hS1:=cm hS0 (Below.refl _ W2).drew;have KM:Hid (∀u,ac w.heap.size w u->Calls prog 33 #[Oc B m cB,N9 Oa 1] u _):=aa (fun u hu=>Gw B m cB u (HB.out.up hu hu.size));have KS:Hid (∀u,ac W2.heap.size W2 u->∀es p c,ar bL u (Oc p es.length c) es->Hid (fQ 1 es)->Calls prog 32 #[.agg #[N9 Oa 1,Oc (Og ⟨g,0,Oh⟩) K.length cg],Oc p es.length c] u _):=aa (fun u hu es p c h hm=>GR K g cg es p c u h hm (HG.out.1.below hu HG.out.2) (ax HG.out.2 hu.size) hk1 hk3 HKS.out (HT.out.below (ah hb2 hu)));have HB2:=aa hb2;clear hW2 hrb hx hba hO1 hb1 hKA hS0 hb2 hks;refine aD (S:=fun u=>ac w.heap.size w u/\(w.heap.size<u.heap.size/\rb<u.heap.size)/\(∀j,u.cell? ⟨w.heap.size,j,Oh⟩=(#[Oc A n cA,Oc B m cB,Oc D q cD,N9 Oa a0,N9 Oa a1,N9 Oa a2,N9 Oa a3,N9 Oa a4]:Array Value)[j]?)/\(∀j,u.cell? ⟨rb,j,Oh⟩=(#[N9 Oa 1,Oc (Og ⟨g,0,Oh⟩) K.length cg]:Array Value)[j]?)) [(0,true),(1,true),(2,true),(3,false),(4,false),(5,true)] hS1 ?_;have hS:=hS1
 iterate 3 refine ak ?_
 refine aJ 33 call33 (KM.out _ hS.1) ?_;rintro x wn⟨es,pe,ce,rfl,hMO,hEN,hb⟩;replace hS:=cm hS hb;have hbd:=ah (Below.refl _ W2).drew hb;refine⟨_,rfl,hS,?_⟩;(try clear hb);refine ay ?_;refine aJ 32 call32 (KS.out _ hbd es pe ce hEN hMO) ?_;rintro x wn⟨l,pl,cl,rfl,hLS,hOL,hb⟩;replace hS:=cm hS hb;have hOL:=hOL.from_ hbd;replace hbd:=ah hbd hb;refine⟨_,rfl,hS,?_⟩;(try clear hb);refine ay ?_;refine ak ?_;simp only[aQ,aZ];obtain⟨w2,rfl⟩:∃u,u=wn:=⟨_,rfl⟩;have hS2:=cm hS (Below.refl _ w2).drew;have HOL:=aa (hOL.from_ HBW.out);have HOK:=aa (HOK.out.next hbd);have HBD:=aa hbd;have HB2:=aa hS.1;have F0:=aO.mk (hbd.heap_of F0.is);refine nr ?_;intro F1 F2 FR;have hlr:=HOL.out.row eG mDe;have hcap:l.length<=cl:=by obtain⟨p',c',e',h1,_⟩:=hlr;injection e' with _ _ e3;omega
 have hpn:pl=Oh->cl=0:=by obtain⟨p',c',e',_,h1,_⟩:=hlr;injection e' with e1 _ e3;rw[e1,e3];exact h1
 have HPN:=aa hpn;have HLR:=aa hlr;obtain⟨mm,hmm,hmq⟩:∃mm:Nat,mn (q:Int) 4=(mm:Int)/\mm<=q:=by
  unfold mn
  split
  .exact⟨4,rfl,mOm⟩
  .exact⟨q,rfl,mOm⟩
 have KC:Hid (∀u,ac w2.heap.size w2 u->Calls prog 34 #[.agg #[N9 Oa 1,Oc (Og ⟨g,0,Oh⟩) K.length cg],Oc pl l.length cl,Oc D mm cD] u _):=aa (fun u hu=>Hh K g cg l pl cl D mm cD u (HLR.out.below hu) hLS ((HD.out.few hmq).up (ah HB2.out hu) (ah HB2.out hu).size) (HG.out.1.below (ah HBD.out hu) HG.out.2) (ax HG.out.2 (ah HBD.out hu).size) hk3 HKS.out)
 clear hS hS1 hOL hbd hlr hpn hEN hMO
 go_upto_region 3 with fail
 refine aD (S:=fun u=>ac w.heap.size w u/\(w.heap.size<u.heap.size/\rb<u.heap.size)/\(∀j,u.cell? ⟨w.heap.size,j,Oh⟩=(#[Oc A n cA,Oc B m cB,Oc D q cD,N9 Oa a0,N9 Oa a1,N9 Oa a2,N9 Oa a3,N9 Oa a4]:Array Value)[j]?)/\(∀j,u.cell? ⟨rb,j,Oh⟩=(#[N9 Oa 1,Oc (Og ⟨g,0,Oh⟩) K.length cg]:Array Value)[j]?)) [(0,true),(1,true),(2,true),(3,true),(4,true),(5,true),(6,true),(7,true),(8,true),(9,false),(10,true)] hS2 ?_;have hS:=hS2
 iterate 7 refine ak ?_
 refine mR ⟨_,_,_,_,_,_⟩ (N9 Oa (mm:Int)) rfl mRf (by intro w hSw;go_simp) ?_;refine ay ?_;refine oV ⟨_,_,_,_,_,_⟩ rfl mRf 22 3 (.tmp 29) (.tmp 33) mRf underlying22 sizeOf3 D q cD mm mRf mRf hmq hqc HDN.out ?_;refine ay ?_;refine aJ 34 call34 (KC.out _ (Below.refl _ w2).drew) ?_;rintro x wn⟨R,pr,cr,rfl,hCH,hOR,hb⟩;replace hS:=cm hS hb;have hbd:=ah (Below.refl _ w2).drew hb;have hOR:=hOR.from_ (Below.refl _ w2).drew;refine⟨_,rfl,hS,?_⟩;(try clear hb);refine ay ?_;refine ak ?_;simp only[aQ,aZ];obtain⟨w3,rfl⟩:∃u,u=wn:=⟨_,rfl⟩;have HOR:=aa ((hOR.from_ HBD.out).from_ HBW.out);have HOL:=aa (HOL.out.next hbd);have HOK:=aa (HOK.out.next hbd);have HB3:=aa hS.1;have F0:=aO.mk (hbd.heap_of F0.is);refine nr ?_;intro F1 F2 FR;have HLR:=aa (HLR.out.below hbd);have hS3:=cm hS (Below.refl _ w3).drew;have HCH:=hCH;have hb1W:w.heap.size<=w.heap.size+1/\w.heap.size+1<W.heap.size:=⟨mOm,mOm⟩;have hb2W:w.heap.size<=w.heap.size+2/\w.heap.size+2<W.heap.size:=⟨mOm,mOm⟩;clear hS hS2 hOR hbd hCH hmm KC;by_cases h0:R.length=0
 .have t1:((R.length:Int)==0)=true:=by rw[beq_iff_eq];omega
  clear h0;have s1:=F1.is;have s2:∀cs,(w3.setRow (w.heap.size+1) cs).heap[w.heap.size+2]? = Og (Of #[N9 Oa 0,N9 Oa 0,N9 Oa 0,N9 Oa 0,N9 Oa 0,Oc Oh 0 0,Oc Oh 0 0] 39 (0,0)):=fun cs=>(gH mOm).trans F2.is
  have r0:=ae FR.is 0;have r1:=ae FR.is 1;go_wp2_with (first|((with_reducible refine wpList_store_row (o:=⟨none,.store 33 (.tmp 2) (.tmp 39),_,_,_,_⟩) ?_ 33 (.tmp 2) (.tmp 39) ?_ (w.heap.size+1) #[.int .i64 1,.slice (some ⟨g,0,none⟩) K.length cg] ?_ ?_ 33 #[.int .i64 0,.slice none 0 0] ?_ ?_ ?_ ?_ ?_);rfl;rfl;rfl;rfl;exact s1;kernel_rfl;rfl;simp[Value.oneCell'])|((with_reducible refine wpList_store_row (o:=⟨none,.store 39 (.tmp 5) (.tmp 42),_,_,_,_⟩) ?_ 39 (.tmp 5) (.tmp 42) ?_ (w.heap.size+2) #[.int .i64 0,.int .i64 0,.int .i64 0,.int .i64 0,.int .i64 0,.slice none 0 0,.slice none 0 0] ?_ ?_ 39 #[.int .i64 0,.int .i64 0,.int .i64 0,.int .i64 0,.int .i64 0,.slice none 0 0,.slice none 0 0] ?_ ?_ ?_ ?_ ?_);rfl;rfl;rfl;rfl;exact s2 _;kernel_rfl;rfl;simp[Value.oneCell']))
  (try simp only[Exit.inBlock,Exit.then]);refine bodyPost_ret (vP results8 _ _ (w.heap.size+1) (w.heap.size+2) #[N9 Oa 1,Oc (Og ⟨g,0,Oh⟩) K.length cg] #[N9 Oa 0,N9 Oa 0,N9 Oa 0,N9 Oa 0,N9 Oa 0,Oc Oh 0 0,Oc Oh 0 0] rfl rfl ((gH mOm).trans (setRow_heap _ _ _ _ _ _ s1)) (setRow_heap _ _ _ _ _ _ (s2 _)) rfl rfl) rfl ?_
  exact⟨⟨1,K⟩,l,R,g,cg,pl,cl,pr,cr,#[.int .i64 0,.int .i64 0,.int .i64 0,.int .i64 0,.int .i64 0,.slice none 0 0,.slice none 0 0],false,rfl,⟨_,_,_,_,_,_,_,_,_,_,_,rfl⟩,⟨rfl,⟨hk1,hk3⟩,HKS.out,hLS.out,HCH.out⟩,HOK.out.boxes HB0.out hb1W hb2W _ _,HOL.out.boxes HB0.out hb1W hb2W _ _,HOR.out.boxes HB0.out hb1W hb2W _ _,fun h=>nomatch h⟩
 have t1:((R.length:Int)==0)=false:=by rw[beq_eq_false_iff_ne];omega
 obtain⟨rg,ro,hpr,hrg,hrr⟩:=dh (kk:=7) (HOR.out.row dp mDe) dp rfl mOm;subst hpr;obtain⟨k,hk,hkR⟩:∃k:Nat,a3%(R.length:Int)=(k:Int)/\k<R.length:=by have e1:=gE a3 (b:=(R.length:Int)) mOm;have e2:=fd a3 (b:=(R.length:Int)) mOm;exact⟨(a3%(R.length:Int)).toNat,mOm,mOm⟩
 have hfew:=HCH.out.few
 have km3:=fun u=>lV a3 R.length u mOm mOm
 rw[hk] at km3;have KM3:=aa km3;have hge:=ai hkR;obtain⟨-,-,mS,hm1,-,hsz,-⟩:=HCH.out.each _ (cZ hge);have x1:=hrr k _ hge 1 _ rfl;rw[hsz] at x1;have HX1:=aa x1;have g0:=gE a0 (b:=3) mDe;have g1:=fd a0 (b:=3) mDe;have g2:=gE a1 (b:=500) mDe;have g3:=fd a1 (b:=500) mDe;have g4:=gE a2 (b:=400) mDe;have g5:=fd a2 (b:=400) mDe;have KM0:=aa (fun u=>lV a0 3 u mDe mDe);have KM1:=aa (fun u=>lV a1 500 u mDe mDe);have KM2:=aa (fun u=>lV a2 400 u mDe mDe);generalize a0%3=d0 at *;generalize a1%500=d1 at *;generalize a2%400=d2 at *;have w1d:IntKind.i64.wrap (1+d0)=1+d0:=IntWalk.i64_in _ mOm;clear hk km3 hge hsz x1 hrr;go_wp2_with fail;refine aD (S:=fun u=>ac w.heap.size w u/\(w.heap.size<u.heap.size/\rb<u.heap.size)/\(∀j,u.cell? ⟨w.heap.size,j,Oh⟩=(#[Oc A n cA,Oc B m cB,Oc D q cD,N9 Oa a0,N9 Oa a1,N9 Oa a2,N9 Oa a3,N9 Oa a4]:Array Value)[j]?)/\(∀j,u.cell? ⟨rb,j,Oh⟩=(#[N9 Oa 1,Oc (Og ⟨g,0,Oh⟩) K.length cg]:Array Value)[j]?)) [(0,true),(1,true),(2,true),(5,true),(6,true),(7,true),(9,true),(10,true),(11,true),(12,true),(13,true),(3,false),(4,true),(8,false),(14,false),(15,true),(16,true),(17,true)] hS3 ?_;have hS:=hS3
 iterate 11 refine ak ?_
 (first|(refine aJ 12 call12 (KM0.out _) ?_;rintro x wn⟨rfl,rfl⟩;refine⟨_,rfl,hS,?_⟩)|(refine aJ 12 call12 (KM1.out _) ?_;rintro x wn⟨rfl,rfl⟩;refine⟨_,rfl,hS,?_⟩)|(refine aJ 12 call12 (KM3.out _) ?_;rintro x wn⟨rfl,rfl⟩;refine⟨_,rfl,hS,?_⟩))
 refine ay ?_
 refine ak ?_
 (first|(refine aJ 12 call12 (KM0.out _) ?_;rintro x wn⟨rfl,rfl⟩;refine⟨_,rfl,hS,?_⟩)|(refine aJ 12 call12 (KM1.out _) ?_;rintro x wn⟨rfl,rfl⟩;refine⟨_,rfl,hS,?_⟩)|(refine aJ 12 call12 (KM3.out _) ?_;rintro x wn⟨rfl,rfl⟩;refine⟨_,rfl,hS,?_⟩))
 refine ay ?_
 (first|(refine aJ 12 call12 (KM0.out _) ?_;rintro x wn⟨rfl,rfl⟩;refine⟨_,rfl,hS,?_⟩)|(refine aJ 12 call12 (KM1.out _) ?_;rintro x wn⟨rfl,rfl⟩;refine⟨_,rfl,hS,?_⟩)|(refine aJ 12 call12 (KM3.out _) ?_;rintro x wn⟨rfl,rfl⟩;refine⟨_,rfl,hS,?_⟩))
 refine ay ?_
 iterate 3 refine ak ?_
 simp only[aQ,aZ];obtain⟨w4,hw4⟩:∃u,u=w3.drew:=⟨_,rfl⟩;rw[<-hw4] at hS |-;have hb4:ac w3.heap.size w3 w4:=by rw[hw4];exact(Below.refl _ _).drew
 have HOR:=aa (HOR.out.next hb4);have HOL:=aa (HOL.out.next hb4);have HOK:=aa (HOK.out.next hb4);have F0:=aO.mk (hb4.heap_of F0.is);have F1:=aO.mk (hb4.heap_of F1.is);have F2:=aO.mk (hb4.heap_of F2.is);have FR:=aO.mk (hb4.heap_of FR.is);have HLR:=aa (HLR.out.below hb4);have HX1:=aa ((hb4.cell (p:=⟨rg,ro+k*7+1,Oh⟩) hrg).trans HX1.out);have HB4:=aa hS.1;have hrg:=ax hrg hb4.size;have z5:=ae F0.is 5;clear hw4 hb4 hS hS3 KM0 KM1 KM3 t1 HB3
 go_upto_region 7 with fail
 go_wp2_with fail;refine(KM2.out _).mono ?_;rintro _ _⟨rfl,rfl⟩;clear KM2;have q0:=Int.lt_tmod_of_pos a2 (b:=3) mDe;have q1:=Int.tmod_lt_of_pos a2 (b:=3) mDe;obtain⟨r3,hr3⟩:∃r:Int,a2.tmod 3=r:=⟨_,rfl⟩;rw[hr3] at q0 q1
 go_upto_if 68 with fail
 go_cut [11,13] (fun v11 v13 wx=>∃fi la:Int,v11=N9 Oa fi/\v13=N9 Oa la/\wx=w4)
 case first =>
  by_cases h3:r3=0
  .have t3:(r3==0)=true:=by rw[beq_iff_eq];exact h3
   clear h3;go_wp2_with fail
   go_meet
   case rel=>exact⟨0,100000,rfl,rfl,rfl⟩
  .have t3:(r3==0)=false:=by rw[beq_eq_false_iff_ne];exact h3
   clear h3;go_wp2_with fail
   go_meet
   case rel=>exact⟨_,_,rfl,rfl,rfl⟩
 case rest =>
  obtain⟨fi,la,rfl,rfl,rfl⟩:=hcut;obtain⟨w4,rfl⟩:∃u,u=wc:=⟨_,rfl⟩;have x1:=HX1.out;have i1:(k:Int)<(R.length:Int):=mOm;have i2:(0:Int)<=(k:Int):=mOm;clear z5 q0 q1 hr3
  go_upto_region 11 with fail
  have htl:(l.take mS).length=mS:=by rw[aI];omega
  have hrl:∀u,ac w4.heap.size w4 u->ar bL u (Oc pl mS cl) (l.take mS):=fun u hu=>(HLR.out.below hu).take rfl hm1
  have h24:l.length<=24:=by obtain⟨es,h1,h2⟩:=hLS.out;exact ue h1 h2
  have ksh:=fun (bits:Int) u (hu:ac w4.heap.size w4 u)=>I2 (l.take mS) pl cl (1+d0) fi la bits u (by rw[htl];exact hrl u hu) mOm
  rw[htl] at ksh;have KSH:=aa ksh;have hsl:∀u,(Instr.sliceAt 34 (Oc pl l.length cl) Oh (Og (N9 Oa (mS:Int))) Oh).run prog u=.ok (Oc pl mS cl) u:=fun u=>oz 34 67 underlying34 sizeOf67 pl l.length cl mS hm1 hcap HPN.out u
  have HSL:=aa hsl;have hS4:ac w.heap.size w w4/\(w.heap.size<w4.heap.size/\rb<w4.heap.size)/\(∀j,w4.cell? ⟨w.heap.size,j,Oh⟩=(#[Oc A n cA,Oc B m cB,Oc D q cD,N9 Oa a0,N9 Oa a1,N9 Oa a2,N9 Oa a3,N9 Oa a4]:Array Value)[j]?)/\(∀j,w4.cell? ⟨rb,j,Oh⟩=(#[N9 Oa 1,Oc (Og ⟨g,0,Oh⟩) K.length cg]:Array Value)[j]?):=⟨HB4.out,⟨av F0.is,av FR.is⟩,ae F0.is,ae FR.is⟩;have hS5:=cm hS4 (Below.refl _ w4).drew;clear htl hrl ksh x1 i1 i2 hS4 hsl;refine aD (S:=fun u=>ac w.heap.size w u/\(w.heap.size<u.heap.size/\rb<u.heap.size)/\(∀j,u.cell? ⟨w.heap.size,j,Oh⟩=(#[Oc A n cA,Oc B m cB,Oc D q cD,N9 Oa a0,N9 Oa a1,N9 Oa a2,N9 Oa a3,N9 Oa a4]:Array Value)[j]?)/\(∀j,u.cell? ⟨rb,j,Oh⟩=(#[N9 Oa 1,Oc (Og ⟨g,0,Oh⟩) K.length cg]:Array Value)[j]?)) [(0,true),(1,true),(2,true),(3,true),(4,true),(5,true),(6,true),(7,true),(8,true),(9,false),(10,true)] hS5 ?_;have hS:=hS5
  iterate 2 refine ak ?_
  refine oV ⟨_,_,_,_,_,_⟩ rfl mRf 34 67 (.tmp 74) (.tmp 75) mRf underlying34 sizeOf67 pl l.length cl mS mRf mRf hm1 hcap HPN.out ?_;refine ay ?_
  iterate 6 refine ak ?_
  refine aJ 35 call35 (KSH.out _ _ (Below.refl _ w4).drew) ?_;rintro x wn⟨ids,pi,ci,rfl,hil,hIDS,hb⟩;replace hS:=cm hS hb;have hbd:=ah (Below.refl _ w4).drew hb;have hIDS:=hIDS.row lR mDe;refine⟨_,rfl,hS,?_⟩;(try clear hb);refine ay ?_;refine ak ?_;simp only[aQ,aZ];obtain⟨w5,rfl⟩:∃u,u=wn:=⟨_,rfl⟩;have HBD:=aa hbd;have HIDS:=aa hIDS;have z7:=(hbd.heap_of F0.is);have z7:=ae z7 7;clear hS hS5 hbd hIDS;have q0:=Int.lt_tmod_of_pos a4 (b:=2) mDe;have q1:=Int.tmod_lt_of_pos a4 (b:=2) mDe;obtain⟨r2,hr2⟩:∃r:Int,a4.tmod 2=r:=⟨_,rfl⟩;rw[hr2] at q0 q1
  go_upto_if 88 with fail
  go_cut [15] (fun v wx=>∃(ids:List Int) (pi:Option Addr) (ci:Nat),v=Oc pi ids.length ci/\ids.length<=24/\Hid (ar lv wx (Oc pi ids.length ci) ids)/\Hid (ac w4.heap.size w4 wx))
  case first =>
   by_cases h3:r2=0
   .have t3:(r2==0)=true:=by rw[beq_iff_eq];exact h3
    have hsl:=HSL.out;clear h3;go_wp2_with fail;refine(KSH.out _ _ HBD.out).mono ?_;clear hsl;rintro _ w6⟨ids2,pi2,ci2,rfl,hil2,hIDT,hb6⟩;have HR6:=aa (hIDT.row lR mDe);have HB6:=aa (ah HBD.out hb6);clear hIDT hb6;go_wp2_with fail
    go_meet
    case rel=>exact⟨ids2,pi2,ci2,rfl,hil2,HR6,HB6⟩
   .have t3:(r2==0)=false:=by rw[beq_eq_false_iff_ne];exact h3
    clear h3;go_wp2_with fail
    go_meet
    case rel=>exact⟨ids,pi,ci,rfl,hil,HIDS,HBD⟩
  case rest =>
   obtain⟨ids,pi,ci,rfl,hil,HRI,HBD⟩:=hcut;have hbd:=HBD.out;have HOR:=aa (HOR.out.next hbd);have HOL:=aa (HOL.out.next hbd);have HOK:=aa (HOK.out.next hbd);refine nr ?_;intro F1 F2 FR;have HB5:=aa (ah HB4.out hbd);obtain⟨es,hes1,hes2⟩:=hLS.out;have kx:=Jg l (vX hes1 hes2 (fun k hk=>(HKS.out k hk).2)) pl cl R (Og ⟨rg,ro,Oh⟩) cr k (1+d0) fi la ids pi ci wc (HOL.out.row eG mDe) h24 (HOR.out.row dp mDe) hfew hkR HRI.out hil;clear hbd z7 q0 q1 hr2 hes1 hes2 KSH HSL;go_wp2_with fail;refine kx.mono ?_;clear kx;rintro _ w7⟨x0,x1,x2,x3,x4,p1,p2,n1,c1,n2,c2,er,rfl,HCX,hb7⟩;have hx:=heap_alloc_new w7 (Of #[N9 Oa x0,N9 Oa x1,N9 Oa x2,N9 Oa x3,N9 Oa x4,Oc p1 n1 c1,Oc p2 n2 c2] 39);have hba:=aj w7 (Of #[N9 Oa x0,N9 Oa x1,N9 Oa x2,N9 Oa x3,N9 Oa x4,Oc p1 n1 c1,Oc p2 n2 c2] 39);have hbd:=ah hb7 hba;obtain⟨w8,hw8⟩:∃u,u=w7.alloc (Of #[N9 Oa x0,N9 Oa x1,N9 Oa x2,N9 Oa x3,N9 Oa x4,Oc p1 n1 c1,Oc p2 n2 c2] 39):=⟨_,rfl⟩;obtain⟨xb,hxb⟩:∃b,b=w7.heap.size:=⟨_,rfl⟩;rw[<-hw8] at hx hba hbd
   go_upto_region 15 with fail
   rw[<-hw8,<-hxb];rw[<-hxb] at hx;have HX8:=aa (fun h=>(HCX.out h).next HOL.out.low hba);have hd:=ah hbd (Below.refl _ w8).drew;have hd8:=(Below.refl w8.heap.size w8).drew;have HX8:=aa (fun h=>(HX8.out h).next (Below.refl _ _) hd8);have HOR:=aa (HOR.out.next hd);have HOL:=aa (HOL.out.next hd);have HOK:=aa (HOK.out.next hd);have hs1:=hd.heap_of F1.is;have hs2:=hd.heap_of F2.is;have hsr:=hd.heap_of FR.is;have hsx:=hd8.heap_of hx;have hrne:w.heap.size+1≠rb/\w.heap.size+2≠rb:=⟨mOm,mOm⟩;have hxne:w.heap.size+1≠xb/\w.heap.size+2≠xb:=by
    have:=HOL.out.low.size;have:=hb7.size;have:=av hs1;have e1:=HB5.out.size;have e2:=av F2.is;constructor <;> omega
   have k0:(∀j,w8.drew.cell? ⟨rb,j,Oh⟩=(#[N9 Oa 1,Oc (Og ⟨g,0,Oh⟩) K.length cg]:Array Value)[j]?)/\(∀j,w8.drew.cell? ⟨xb,j,Oh⟩=(#[N9 Oa x0,N9 Oa x1,N9 Oa x2,N9 Oa x3,N9 Oa x4,Oc p1 n1 c1,Oc p2 n2 c2]:Array Value)[j]?):=⟨ae hsr,ae hsx⟩
   have k1:(∀j,(w8.drew.setRow (w.heap.size+1) #[N9 Oa 1,Oc (Og ⟨g,0,Oh⟩) K.length cg]).cell? ⟨rb,j,Oh⟩=(#[N9 Oa 1,Oc (Og ⟨g,0,Oh⟩) K.length cg]:Array Value)[j]?)/\(∀j,(w8.drew.setRow (w.heap.size+1) #[N9 Oa 1,Oc (Og ⟨g,0,Oh⟩) K.length cg]).cell? ⟨xb,j,Oh⟩=(#[N9 Oa x0,N9 Oa x1,N9 Oa x2,N9 Oa x3,N9 Oa x4,Oc p1 n1 c1,Oc p2 n2 c2]:Array Value)[j]?):=⟨ae ((gH hrne.1).trans hsr),ae ((gH hxne.1).trans hsx)⟩;have hs3:(w8.drew.setRow (w.heap.size+1) #[N9 Oa 1,Oc (Og ⟨g,0,Oh⟩) K.length cg]).heap[w.heap.size+2]? = Og (Of #[N9 Oa 0,N9 Oa 0,N9 Oa 0,N9 Oa 0,N9 Oa 0,Oc Oh 0 0,Oc Oh 0 0] 39 (0,0)):=(gH mOm).trans hs2;have k2:(∀j,((w8.drew.setRow (w.heap.size+1) #[N9 Oa 1,Oc (Og ⟨g,0,Oh⟩) K.length cg]).setRow (w.heap.size+2) #[N9 Oa x0,N9 Oa x1,N9 Oa x2,N9 Oa x3,N9 Oa x4,Oc p1 n1 c1,Oc p2 n2 c2]).cell? ⟨rb,j,Oh⟩=(#[N9 Oa 1,Oc (Og ⟨g,0,Oh⟩) K.length cg]:Array Value)[j]?)/\(∀j,((w8.drew.setRow (w.heap.size+1) #[N9 Oa 1,Oc (Og ⟨g,0,Oh⟩) K.length cg]).setRow (w.heap.size+2) #[N9 Oa x0,N9 Oa x1,N9 Oa x2,N9 Oa x3,N9 Oa x4,Oc p1 n1 c1,Oc p2 n2 c2]).cell? ⟨xb,j,Oh⟩=(#[N9 Oa x0,N9 Oa x1,N9 Oa x2,N9 Oa x3,N9 Oa x4,Oc p1 n1 c1,Oc p2 n2 c2]:Array Value)[j]?):=⟨ae ((gH hrne.2).trans ((gH hrne.1).trans hsr)),ae ((gH hxne.2).trans ((gH hxne.1).trans hsx))⟩;clear hw8 hxb hx hba hbd hd hd8 hb7 hsr hsx;refine aD (S:=fun u=>(∀j,u.cell? ⟨rb,j,Oh⟩=(#[N9 Oa 1,Oc (Og ⟨g,0,Oh⟩) K.length cg]:Array Value)[j]?)/\(∀j,u.cell? ⟨xb,j,Oh⟩=(#[N9 Oa x0,N9 Oa x1,N9 Oa x2,N9 Oa x3,N9 Oa x4,Oc p1 n1 c1,Oc p2 n2 c2]:Array Value)[j]?)) [(0,true),(1,true),(2,true),(3,true),(4,true),(5,true),(6,false),(7,true),(8,true),(9,false),(10,true)] k0 ?_;have hS:=k0
   iterate 6 refine ak ?_
   refine ll ⟨_,_,_,_,_,_⟩ rfl mRf (wp_store_row 33 (.tmp 2) (.tmp 107) mRf (w.heap.size+1) #[N9 Oa 1,Oc (Og ⟨g,0,Oh⟩) K.length cg] mRf mRf 33 #[N9 Oa 0,Oc Oh 0 0] hs1 mKr rfl (by simp[Value.oneCell']) ?_);refine⟨k1,?_⟩;replace hS:=k1
   (try simp only[Act.put])
   iterate 2 refine ak ?_
   refine ll ⟨_,_,_,_,_,_⟩ rfl mRf (wp_store_row 39 (.tmp 5) (.tmp 110) mRf (w.heap.size+2) #[N9 Oa x0,N9 Oa x1,N9 Oa x2,N9 Oa x3,N9 Oa x4,Oc p1 n1 c1,Oc p2 n2 c2] mRf mRf 39 #[N9 Oa 0,N9 Oa 0,N9 Oa 0,N9 Oa 0,N9 Oa 0,Oc Oh 0 0,Oc Oh 0 0] hs3 mKr rfl (by simp[Value.oneCell']) ?_);refine⟨k2,?_⟩;replace hS:=k2
   (try simp only[Act.put])
   refine ak ?_;simp only[aQ,aZ];clear k0 k1 k2 hS;go_wp2_with fail
   (try simp only[Exit.inBlock,Exit.then]);refine bodyPost_ret (vP results8 _ _ (w.heap.size+1) (w.heap.size+2) #[N9 Oa 1,Oc (Og ⟨g,0,Oh⟩) K.length cg] #[N9 Oa x0,N9 Oa x1,N9 Oa x2,N9 Oa x3,N9 Oa x4,Oc p1 n1 c1,Oc p2 n2 c2] rfl rfl ((gH mOm).trans (setRow_heap _ _ _ _ _ _ hs1)) (setRow_heap _ _ _ _ _ _ hs3) rfl rfl) rfl ?_
   exact⟨⟨1,K⟩,l,R,g,cg,pl,cl,Og ⟨rg,ro,Oh⟩,cr,#[N9 Oa x0,N9 Oa x1,N9 Oa x2,N9 Oa x3,N9 Oa x4,Oc p1 n1 c1,Oc p2 n2 c2],_,rfl,⟨_,_,_,_,_,_,_,_,_,_,_,rfl⟩,⟨rfl,⟨hk1,hk3⟩,HKS.out,hLS.out,HCH.out⟩,HOK.out.boxes HB0.out hb1W hb2W _ _,HOL.out.boxes HB0.out hb1W hb2W _ _,HOR.out.boxes HB0.out hb1W hb2W _ _,fun h=>(HX8.out (by simpa using h)).boxes HB0.out hb1W hb2W _ _⟩
end
section
open Go Go.Proofs Go.RowKit Go.Maps Go.Sort Go.Lib
theorem gp{W u:World}{b:Nat}{cs:Array Value}(hb:ac W.heap.size W u)(hl:b<W.heap.size)(h:∀j,W.cell? ⟨b,j,Oh⟩=cs[j]?):∀j,u.cell? ⟨b,j,Oh⟩=cs[j]?:=fun j=>(hb.cell (p:=⟨b,j,Oh⟩) hl).trans (h j)
structure TrIn (W:World) (rs:Int) (KL:List bG) (g:Nat) (l:List Ent) (lp:Option Addr) (lc:Nat) (L:List bT) (pl:Option Addr) (cl m:Nat) (rt:aC) (st fi la:Int) (ids:List Int) (EV:List Ent) (pv:Option Addr) (cv:Nat):Prop where
 many:m<=l.length/\l.length<=1000/\L.length<=4000/\EV.length<=100000
 ok:∀y∈l.take m,y.Ok
 open_:∀y∈l.take m,inQ st fi la y=true->NA (eH y) L=decide (y.id∈ids)
 has:∀y∈l.take m,inQ st fi la y=true->y.id∈ids->(y∈EV↔zR ⟨rs,KL⟩ rt y=true)
 ents:ar bL W (Oc lp l.length lc) l
 lines:ar fX W (Oc pl L.length cl) L
 ver:ar bL W (Oc pv EV.length cv) EV
 keys:cR W g KL/\g<W.heap.size/\KL.length<=1000/\(∀k∈KL,k.secret.size<=100000)/\I64 rs
 ready:Wr.Ready W
end
section
open Go Go.ChangeShapes Go.WideShapes Go.ChangeAt Go.WideElems Go.RowKit Go.Lib
open Go.Extern.Stop Go.Stop Go.Extern
theorem K6{n:Int}(h:Lit.wf (.int .u16 n)):0<=n/\n<65536:=by simp[Lit.wf,IntKind.min,IntKind.max,IntKind.signed,IntKind.bits] at h;omega
theorem ML{α:Type}{l:List α}{k:Nat}(h:k<l.length)(d:α):l.getD k d∈l:=by rw[bi,ai h];exact List.getElem_mem h
theorem K5{n:Int}(h:Lit.wf (.int .i64 n)):I64 n:=by simp[Lit.wf,IntKind.min,IntKind.max,IntKind.signed,IntKind.bits] at h;unfold I64;omega
section
variable {H:Type} {enc:TypeId×Value->H} {w:World} {held:Bool} {fuel:Nat} {c:Value} {y:DataW H×List MemPlace}
theorem uS(h:DataW.trod enc prog w 0 (fun _=>true) held fuel 22 [c]=some y)(hs:∀elems spare,y.1=.slice elems spare->(elems.length+spare.length)*8<=reachBytes):∃A n cc,c=.slice A n cc/\eU w.heap.size A n w/\n<=cc/\(A=none->cc=0):=by
 rcases open_ints underlying22 underlying3 mKr h with⟨hc,hx⟩|⟨a,len,cap,zs,hc,_,hl,hm,hz,hx,hcell,hwf⟩
 .simp at hc;exact⟨none,0,0,hc,⟨mOm,fun j hj=>by omega⟩,Nat.le_refl _,fun _=>rfl⟩
 .simp at hc;subst hc;simp only[if_true] at hz;have hsz:=hs _ _ (by rw[hx]);simp only[lits,List.length_map,aI,List.length_drop,reachBytes] at hsz;refine⟨some a,len,cap,rfl,⟨mOm,fun j hj=>?_⟩,mOm,fun h=>nomatch h⟩;have h1:=hcell j mOm;have h0:=hcell 0 mOm;rw[tv] at h0;obtain⟨b,o,rfl⟩:=Bf h0;rw[xV] at h1;exact⟨b,o,zs.getD j 0,rfl,World.block_lt_of_cell? w _ h1,h1,K5 (hwf _ (ML mOm 0))⟩
end
section
variable {H:Type} {enc:TypeId×Value->H} {P:Program} {w:World} {base:Nat} {spare:Nat->Bool} {held:Bool}
theorem AD{t:TypeId}{f0 f1 f2 f3:Field}{fuel:Nat}{cs:List Value}{x:DataW H×List MemPlace}(ht:P.underlying t=some (.struct #[f0,f1,f2,f3]))(h:DataW.trod enc P w base spare held fuel t cs=some x) :
  ∃(y0 y1 y2 y3:DataW H×List MemPlace) (n:Nat),x.1=.agg [y0.1,y1.1,y2.1,y3.1]/\DataW.trod enc P w base spare held n f0.type ((cs.drop f0.offset).take (P.cellsOf f0.type))=some y0/\
   DataW.trod enc P w base spare held n f1.type ((cs.drop f1.offset).take (P.cellsOf f1.type))=some y1/\DataW.trod enc P w base spare held n f2.type ((cs.drop f2.offset).take (P.cellsOf f2.type))=some y2:=by
 obtain⟨xs,n,_,rfl,hl,hlen,hf⟩:=DataW.trod_struct ht h
 match xs,hlen with
 | [y0,y1,y2,y3],_=>exact⟨y0,y1,y2,y3,n,rfl,by simpa using hf 0 f0 rfl,by simpa using hf 1 f1 rfl,by simpa using hf 2 f2 rfl⟩
end
theorem DD:∃f0 f1 f2 f3,prog.underlying 25=some (.struct #[f0,f1,f2,f3])/\(f0.type,f1.type,f2.type,f0.offset,f1.offset,f2.offset)=(22,22,22,0,1,2):=
 ⟨_,_,_,_,underlying25,mKr⟩
theorem Eb{H:Type}{enc:TypeId×Value->H}{w:World}{held:Bool}{r:Reach}{b0:Nat}{v:Value}{d:DataW H}{p:List MemPlace}(h:DataW.Trod enc prog w 0 (fun _=>true) held 25 v d p)(hv:Value.okWide prog w r b0 25 v)(hs:∀z∈d.weights prog 25,z<=reachBytes) :
  ∃A B D n m q cA cB cD d0 d1 d2 d3 d4,CaseIn23 w v A B D n m q cA cB cD d0 d1 d2 d3 d4:=by
 unfold Value.okWide at hv;rw[underlying25] at hv;obtain⟨cs,rfl,hsz,ts,hts,_,hat⟩:=hv;have hc:prog.cellTypes prog.depth 25=some [22,22,22,3,3,3,3,3]:=mKr;have hn:prog.cellsOf 25=8:=mKr;obtain rfl:=Option.some.inj (hts.symm.trans hc);rw[hn] at hsz;obtain⟨l⟩:=cs
 match l,hsz with
 | [c0,c1,c2,c3,c4,c5,c6,c7],_ =>
  obtain⟨t3,r3,o3⟩:=hat 3 c3 rfl;obtain rfl:3=t3:=Option.some.inj r3;obtain⟨x3,rfl,y3⟩:=pN underlying3 o3;obtain⟨t4,r4,o4⟩:=hat 4 c4 rfl;obtain rfl:3=t4:=Option.some.inj r4;obtain⟨x4,rfl,y4⟩:=pN underlying3 o4;obtain⟨t5,r5,o5⟩:=hat 5 c5 rfl;obtain rfl:3=t5:=Option.some.inj r5;obtain⟨x5,rfl,y5⟩:=pN underlying3 o5;obtain⟨t6,r6,o6⟩:=hat 6 c6 rfl;obtain rfl:3=t6:=Option.some.inj r6;obtain⟨x6,rfl,y6⟩:=pN underlying3 o6;obtain⟨t7,r7,o7⟩:=hat 7 c7 rfl;obtain rfl:3=t7:=Option.some.inj r7;obtain⟨x7,rfl,y7⟩:=pN underlying3 o7;obtain⟨fuel,hf⟩:=h;obtain⟨f0,f1,f2,f3,hu,ht⟩:=DD;simp only[Prod.mk.injEq] at ht;obtain⟨e0,e1,e2,o0,o1,o2⟩:=ht;obtain⟨z0,z1,z2,z3,m,hd,g0,g1,g2⟩:=AD hu hf;have hw:d.weights prog 25=DataW.weightsEach prog [f0.type,f1.type,f2.type,f3.type] [z0.1,z1.1,z2.1,z3.1]:=by have hd':d=.agg [z0.1,z1.1,z2.1,z3.1]:=hd;rw[hd'];simp[DataW.weights,hu]
  have hby:prog.bytesOf 3=8:=mKr
  have hsl:∀(j:Nat)(z:DataW H),([f0.type,f1.type,f2.type,f3.type])[j]? = some 22->([z0.1,z1.1,z2.1,z3.1])[j]? = some z->∀elems spare,z=.slice elems spare->(elems.length+spare.length)*8<=reachBytes:=fun j z h1 h2 elems spare hz=>by
   refine hs _ ?_;rw[hw];refine DataW.weights_mem_each h1 h2 _ ?_;rw[hz];simp[DataW.weights,underlying22,hby]
  have hcc:prog.cellsOf 22=1:=mKr
  rw[e0,o0,hcc] at g0;rw[e1,o1,hcc] at g1;rw[e2,o2,hcc] at g2;obtain⟨A,n,cA,rfl,i0,-,-⟩:=uS (c:=c0) g0 (hsl 0 _ (by show some f0.type=_;rw[e0]) rfl);obtain⟨B,m,cB,rfl,i1,-,-⟩:=uS (c:=c1) g1 (hsl 1 _ (by show some f1.type=_;rw[e1]) rfl);obtain⟨D,q,cD,rfl,i2,j1,j2⟩:=uS (c:=c2) g2 (hsl 2 _ (by show some f2.type=_;rw[e2]) rfl);exact⟨A,B,D,n,m,q,cA,cB,cD,x3,x4,x5,x6,x7,rfl,i0,i1,i2,j1,j2⟩
