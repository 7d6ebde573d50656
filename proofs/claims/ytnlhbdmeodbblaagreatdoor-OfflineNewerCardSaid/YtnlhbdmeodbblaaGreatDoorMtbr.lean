/- Lemmas. -/
import Derived.Test.YtnlhbdmeodbblaaGreatDoorMtbj
import Derived.Test.YtnlhbdmeodbblaaGreatDoorMtbn
import Derived.Lib.Itoa
import Derived.Stop.LaidErr
import Derived.SizedLaws
set_option maxRecDepth 100000
set_option maxHeartbeats 16000000
set_option linter.all false
open Go.Proofs.Tryz
open Go.Lib renaming cell_of_heap->ae,frozen_of_heap->aE,hid->aa
open List renaming getElem?_eq_getElem->ai,length_append->ap,length_cons->bB,length_map->aU,length_singleton->aB,length_take->aI,map_cons->fP,mem_append->bI,mem_cons->bM,mem_map->ff,mem_of_getElem?->cZ,mem_of_mem_take->cu,mem_singleton->bE,not_mem_nil->eZ,take_add_one->aR,take_length->aT
open Nat renaming le_refl->az,le_trans->aV,lt_of_lt_of_le->ax,zero_le->aP
open Go.RowKit renaming Below->ac,intOf->aw
open Go.Ending renaming returned->Oe
open Go.IntKind renaming i64->Oa
open Go.Obj renaming cells->Of
open Go.Value renaming int->N9,string->Ob,slice->Oc,pointer->Od
open Option renaming some->Og,none->Oh
namespace Go.Proofs.YtnlhbdmeodbblaaGreatDoor
section
open Go Go.Proofs Go.RowKit Go.Sort Go.Lib
attribute [local go_sem] aC.cells
open Classical in
noncomputable def sV(l:List Ent)(R:List aC)(root st fi la:Int)(ids:List Int):Int:=
 if root<0\/(R.length:Int)<=root then 40
 else if (R.getD root.toNat rootZ).size<0\/(l.length:Int)<(R.getD root.toNat rootZ).size then 40
 else if ¬∀e∈l.take (R.getD root.toNat rootZ).size.toNat,e.school=(R.getD root.toNat rootZ).school then 22
 else if ¬jV (l.take (R.getD root.toNat rootZ).size.toNat)=(R.getD root.toNat rootZ).tree then 40
 else if ¬(ep st fi la/\fD (l.take (R.getD root.toNat rootZ).size.toNat)) then 1
 else if ¬jH (fV (l.take (R.getD root.toNat rootZ).size.toNat) (bQ (l.take (R.getD root.toNat rootZ).size.toNat)) st fi la) ids then 5 else 0
def cE(l:List Ent)(R:List aC)(root st fi la:Int)(ids:List Int):fc:=mD (l.take (R.getD root.toNat rootZ).size.toNat) (R.getD root.toNat rootZ).school root st fi la ids
def AM(l:List Ent)(R:List aC)(root st fi la:Int)(ids:List Int)(w:World)(e:Ending)(w':World):Prop:=
 (sV l R root st fi la ids=0/\∃pl cl pp cp,e=Oe (.tuple #[.agg ((cE l R root st fi la ids).cells pl pp cl cp),N9 Oa 0])/\bz fX 3 69 w w' (Oc pl (cE l R root st fi la ids).lines.length cl) (cE l R root st fi la ids).lines/\bz bV 1 9 w w' (Oc pp (cE l R root st fi la ids).proof.length cp) (cE l R root st fi la ids).proof)\/
 (sV l R root st fi la ids≠0/\e=Oe (.tuple #[.agg #[N9 Oa 0,N9 Oa 0,N9 Oa 0,N9 Oa 0,N9 Oa 0,Oc Oh 0 0,Oc Oh 0 0],N9 Oa (sV l R root st fi la ids)])/\ac w.heap.size w w')
theorem lk{fn:Func}{p u:Tmp}(h:fn.results=#[.cell p 39,.tmp u])(tmps:Array Value)(w:World)(g:Nat)(cs:Array Value)(hp:tmps.getD p undef=Od (Og ⟨g,0,Oh⟩))(hg:w.heap[g]? = Og (Of cs 39 (0,0)))(hs:cs.size=7:=by rfl) :
  (results fn tmps).run prog w=.ok (.tuple #[.agg cs,tmps.getD u undef]) w:=by
 rw[results_cell_tmp h,hp];have:=run_loadVar_row (P:=prog) w g 39 39 cs (0,0) _ hg underlying39 rfl (by rw[hs];kernel_rfl);simp only[asAddr,Sem.run_pure,Result.andThen_ok,this]
def mi(ids:List Int)(y:bT):bT:=if idL y.key.data.toList∈ids then y else { y with body:=⟨#[]⟩ }
theorem LI{e:Ent}(h:dQ e=0):idL (eH e).data.toList=e.id:=by rw[A8 h];obtain⟨i1,i2⟩:=(qo h).1;have hl:(gR e).length=22:=rfl;have hd:((gR e).drop 14).take 6=dl e.id.toNat:=rfl;unfold idL;rw[if_pos hl,hd,wo mOm];omega
theorem AY{ids:List Int}:∀(E:List Ent),(∀e∈E,dQ e=0)->(E.map fL).map (mi ids)=E.map (eM ids)
 | [],_=>rfl
 | e::E,h=>by
  rw[fP,fP,fP,AY E (fun x hx=>h x (List.mem_cons_of_mem _ hx))]
  congr 1
  unfold mi eM
  have e1:(fL e).key=eH e:=rfl;rw[e1,LI (h e List.mem_cons_self)]
  split <;> rfl
structure XmI (w:World) (B xb N:Nat) (hd:List Value) (pf:Value) (PV:List ByteArray) (M:List bT) (u:World):Prop where
 low:ac w.heap.size w u
 box:∃p c,u.heap[xb]? = Og (Of (hd++[Oc p M.length c,pf]).toArray 39 (0,0))/\u.ownsRow N 69 3 (Oc p M.length c) M.length (aN fX M)
 prf:u.ownsRow B 9 1 pf PV.length (aN bV PV)
 few:∀q,pf.ownBlock=Og q->q<xb
 size:N<=u.heap.size
 at_:w.heap.size<=xb/\xb<N
theorem XmI.grow{w u u':World}{B xb N:Nat}{hd:List Value}{pf:Value}{PV:List ByteArray}{M:List bT}(h:XmI w B xb N hd pf PV M u)(hb:ac u.heap.size u u'):XmI w B xb N hd pf PV M u':=by
 obtain⟨p,c,h1,h2⟩:=h.box;exact⟨ah h.low hb,⟨p,c,hb.heap_of h1,bK h2 (aF.of (S:=fun _=>False) hb) (fun _ _ e=>e)⟩,bK h.prf (aF.of (S:=fun _=>False) hb) (fun _ _ e=>e),h.few,aV h.size hb.size,h.at_⟩
theorem XmI.put{w u u':World}{B xb N:Nat}{hd:List Value}{pf:Value}{PV:List ByteArray}{M:List bT}(h:XmI w B xb N hd pf PV M u)(hb:ac u.heap.size u u'){b:Nat}(hbb:u.heap.size<=b)(j:Nat)(v:Value):XmI w B xb N hd pf PV M (u'.setCell ⟨b,j,Oh⟩ v):=by
 obtain⟨p,c,h1,h2⟩:=h.box;have hB:aF (fun q=>q=b) u (u'.setCell ⟨b,j,Oh⟩ v):=(aF.of hb).trans (aF.set (S:=fun q=>q=b) u' rfl j v);have hx:=aG h1;have hsz:=h.size;refine⟨(ah h.low hb).trans ((aF.set (S:=fun q=>q=b) u' rfl j v).below (fun q hq e=>by have:=h.low.size;omega) (ah h.low hb).size),⟨p,c,hB.heap h1 mOm,bK h2 hB (fun q hq e=>by have:=(h2.lt q hq).2;omega)⟩,bK h.prf hB (fun q hq e=>by have:=h.few q hq;omega),h.few,aV h.size hB.size,h.at_⟩
theorem XmI.app{w u u':World}{B xb N:Nat}{a0 a1 a2 a3 a4:Value}{pf:Value}{PV:List ByteArray}{M:List bT}{y:bT}{p:Option Addr}{c:Nat}{v9:Value}(h:XmI w B xb N [a0,a1,a2,a3,a4] pf PV M u)(hx:u.heap[xb]? = Og (Of #[a0,a1,a2,a3,a4,Oc p M.length c,pf] 39 (0,0)))(ho:u.ownsRow N 69 3 (Oc p M.length c) M.length (aN fX M))(hA:AppT fX 3 69 u N (Oc p M.length c) M [y] v9 u'):XmI w B xb N [a0,a1,a2,a3,a4] pf PV (M++[y]) (u'.setCell ⟨xb,5,Oh⟩ v9):=by
 have hlo:∀q,(Value.slice p M.length c).ownBlock=Og q->N<=q:=fun q hq=>(ho.lt q hq).1
 have hbA:=aF.grown hA.grown;have hset:=aF.set (S:=fun q=>q=xb) u' rfl 5 v9;have hx':=hbA.heap hx (fun e=>by have:=hlo _ e;have:=h.at_;omega);obtain⟨p9,c9,rfl⟩:=fZ hA.own;refine⟨?_,⟨p9,c9,?_,?_⟩,?_,h.few,?_,h.at_⟩
 .have h1:=h.low.grown hA.grown h.low.size (fun q e=>by have:=hlo _ e;have:=h.at_;omega);exact h1.trans (hset.below (fun q hq e=>by have:=h.at_;omega) h1.size)
 .have:=bj hx' 5 (Oc p9 (M++[y]).length c9);rw[this];rfl
 .exact bK hA.own hset (fun q hq e=>by have:=(hA.own.lt q hq).1;have:=h.at_;omega)
 .exact bK (bK h.prf hbA (fun q hq e=>by have:=hlo _ e;have:=h.few q hq;have:=h.at_;omega)) hset (fun q hq e=>by have:=h.few q hq;omega)
 .have:=hbA.size;have:=hset.size;have:=h.size;omega
theorem sg{p:Prop} (h:p:=by
 clear HV2;go_wp2_with ((with_reducible refine wpList_store_row (o:=⟨Oh,.store 39 (.tmp 14) (.tmp 50),_,_,_,_⟩) ?_ 39 (.tmp 14) (.tmp 50) ?_ w.heap.size #[N9 Oa 0,N9 Oa 0,N9 Oa 0,N9 Oa 0,N9 Oa 0,Oc Oh 0 0,Oc Oh 0 0] ?_ ?_ 39 #[N9 Oa 0,N9 Oa 0,N9 Oa 0,N9 Oa 0,N9 Oa 0,Oc Oh 0 0,Oc Oh 0 0] ?_ ?_ ?_ ?_ ?_);rfl;rfl;rfl;rfl;exact e14;kernel_rfl;rfl;simp[Value.oneCell'])
 (try simp only[Exit.inBlock,Exit.then]);refine bodyPost_ret (lk results29 _ _ w.heap.size #[N9 Oa 0,N9 Oa 0,N9 Oa 0,N9 Oa 0,N9 Oa 0,Oc Oh 0 0,Oc Oh 0 0] rfl (setRow_heap _ _ _ _ _ _ e14)) rfl ?_
 exact .inr ⟨by rw[HN.out];decide,by rw[HN.out];rfl,bu hb0 (az _) _⟩):p:=h
theorem sG{p:Prop} (h:p:=by
 clear HV;go_wp2_with ((with_reducible refine wpList_store_row (o:=⟨Oh,.store 39 (.tmp 14) (.tmp 50),_,_,_,_⟩) ?_ 39 (.tmp 14) (.tmp 50) ?_ w.heap.size #[N9 Oa 0,N9 Oa 0,N9 Oa 0,N9 Oa 0,N9 Oa 0,Oc Oh 0 0,Oc Oh 0 0] ?_ ?_ 39 #[N9 Oa 0,N9 Oa 0,N9 Oa 0,N9 Oa 0,N9 Oa 0,Oc Oh 0 0,Oc Oh 0 0] ?_ ?_ ?_ ?_ ?_);rfl;rfl;rfl;rfl;exact e14;kernel_rfl;rfl;simp[Value.oneCell'])
 (try simp only[Exit.inBlock,Exit.then]);refine bodyPost_ret (lk results29 _ _ w.heap.size #[N9 Oa 0,N9 Oa 0,N9 Oa 0,N9 Oa 0,N9 Oa 0,Oc Oh 0 0,Oc Oh 0 0] rfl (setRow_heap _ _ _ _ _ _ e14)) rfl ?_
 exact .inr ⟨by rw[HN.out];decide,by rw[HN.out];rfl,bu hb0 (az _) _⟩):p:=h
theorem sh{p:Prop} (h:p:=by
 (try simp only[Exit.inBlock,Exit.then]);refine bodyPost_ret (lk results29 _ _ w.heap.size #[N9 Oa 0,N9 Oa 0,N9 Oa 0,N9 Oa 0,N9 Oa 0,Oc Oh 0 0,Oc Oh 0 0] rfl (setRow_heap _ _ _ _ _ _ e14)) rfl ?_
 exact .inr ⟨by rw[HN.out];decide,by rw[HN.out];rfl,bu hbF (az _) _⟩):p:=h
theorem ss{p:Prop} (h:p:=by
 go_roundw
 case rel=>exact⟨j+1,mOm,by go_num,by rw[HTK.out,HHI.out];exact XA.out.app HBA.is HOA.out HA9.out⟩
 case measure=>simp[aw];omega):p:=h
open Classical in
theorem By(l:List Ent)(hok:∀e∈l,e.Ok)(p:Option Addr)(c:Nat)(R:List aC)(pr:Option Addr)(cr:Nat)(root st fi la:Int)(ids:List Int)(pi:Option Addr)(ci:Nat)(w:World)(h:ar bL w (Oc p l.length c) l)(hl:l.length<=400)(hr:ar cY w (Oc pr R.length cr) R)(hR:R.length<=100000)(hi:ar lv w (Oc pi ids.length ci) ids)(hn:ids.length<=100000) :
  Calls prog 29 #[Oc p l.length c,Oc pr R.length cr,N9 Oa root,N9 Oa st,N9 Oa fi,N9 Oa la,Oc pi ids.length ci] w (AM l R root st fi la ids w):=by
 have hcap:l.length<=c:=by obtain⟨p',c',e',h1,_⟩:=h;injection e' with _ _ e3;omega
 have hpn:p=Oh->c=0:=by obtain⟨p',c',e',_,h1,_⟩:=h;injection e' with e1 _ e3;rw[e1,e3];exact h1
 have HL:=aa h;have HR:=aa hr;have HI:=aa hi;have HOK:=aa hok
 have HV:=aa (show sV l R root st fi la ids=if root<0\/(R.length:Int)<=root then 40
 else if (R.getD root.toNat rootZ).size<0\/(l.length:Int)<(R.getD root.toNat rootZ).size then 40
 else if ¬∀e∈l.take (R.getD root.toNat rootZ).size.toNat,e.school=(R.getD root.toNat rootZ).school then 22
 else if ¬jV (l.take (R.getD root.toNat rootZ).size.toNat)=(R.getD root.toNat rootZ).tree then 40
 else if ¬(ep st fi la/\fD (l.take (R.getD root.toNat rootZ).size.toNat)) then 1
 else if ¬jH (fV (l.take (R.getD root.toNat rootZ).size.toNat) (bQ (l.take (R.getD root.toNat rootZ).size.toNat)) st fi la) ids then 5 else 0 from rfl)
 have HXX:=aa (show cE l R root st fi la ids=mD (l.take (R.getD root.toNat rootZ).size.toNat) (R.getD root.toNat rootZ).school root st fi la ids from rfl)
 unfold AM;generalize hV9:sV l R root st fi la ids=V at *;generalize hX9:cE l R root st fi la ids=X at *;clear hV9 hX9;have hb0:=aj w (Of #[N9 Oa 0,N9 Oa 0,N9 Oa 0,N9 Oa 0,N9 Oa 0,Oc Oh 0 0,Oc Oh 0 0] 39);have e14:=heap_alloc_new w (Of #[N9 Oa 0,N9 Oa 0,N9 Oa 0,N9 Oa 0,N9 Oa 0,Oc Oh 0 0,Oc Oh 0 0] 39);clear h hr hi hok;go_enter func29,ntmps29;by_cases h1:root<0
 .have HN:Hid (V=40):=aa (by rw[HV.out,if_pos (.inl h1)]);exact sG
 by_cases h2:(R.length:Int)<=root
 .have HN:Hid (V=40):=aa (by rw[HV.out,if_pos (.inr h2)]);exact sG
 have HV2:=aa (HV.out.trans (if_neg (fun h=>by omega)))
 clear HV;obtain⟨k,rfl⟩:∃k:Nat,root=k:=⟨root.toNat,mOm⟩;have hkR:k<R.length:=mOm;have hge:=ai hkR;have hgd:R.getD ((k:Int).toNat) rootZ=R[k]:=by rw[Int.toNat_natCast,List.getD_eq_getElem?_getD,hge];rfl
 rw[hgd] at HV2 HXX;obtain⟨g1,o1,hpr,hbl1,hcv1⟩:=dh (kk:=7) HR.out dp rfl mOm;have hra:=hcv1 k _ hge;generalize R[k]=y at *;have HRX:Hid (∀u,ac w.heap.size w u->u.rangeAt g1 (o1+k*7) (cY y)):=aa (fun u hu j v hv=>(hu.cell (p:=⟨g1,o1+k*7+j,Oh⟩) hbl1).trans (hra j v hv));have x1:(w.alloc (Of #[N9 Oa 0,N9 Oa 0,N9 Oa 0,N9 Oa 0,N9 Oa 0,Oc Oh 0 0,Oc Oh 0 0] 39)).cell? ⟨g1,o1+k*7+1,Oh⟩=Og (N9 Oa y.size):=HRX.out _ hb0 1 _ rfl;have i1:¬(k:Int)<0:=mOm;have i2:(k:Int)<(R.length:Int):=mOm;have i3:(0:Int)<=(k:Int):=mOm;subst hpr;clear hcv1 hra hge hgd h1 h2;by_cases h3:y.size<0
 .have HN:Hid (V=40):=aa (by rw[HV2.out,if_pos (.inl h3)]);exact sg
 by_cases h4:(l.length:Int)<y.size
 .have HN:Hid (V=40):=aa (by rw[HV2.out,if_pos (.inr h4)]);exact sg
 have HV3:=aa (HV2.out.trans (if_neg (fun h=>by omega)))
 clear HV2;obtain⟨m,hm⟩:∃m:Nat,y.size=m:=⟨y.size.toNat,mOm⟩;have hml:m<=l.length:=mOm;have hmt:y.size.toNat=m:=mOm;rw[hmt] at HV3 HXX;rw[hm] at x1;have i4:¬(m:Int)<0:=mOm;have i5:¬(l.length:Int)<(m:Int):=mOm;have htl:(l.take m).length=m:=by rw[aI];omega
 have hok2:∀e∈l.take m,e.Ok:=fun e he=>HOK.out e (cu he)
 have hrl:∀u,ac w.heap.size w u->ar bL u (Oc p m c) (l.take m):=fun u hu=>(HL.out.below hu).take rfl hml
 have kt:=fun u (hu:ac w.heap.size w u)=>vZ (l.take m) hok2 p c u (by rw[htl];exact hrl u hu) mOm
 have ks:=fun u (hu:ac w.heap.size w u)=>GP (l.take m) hok2 p c st fi la u (by rw[htl];exact hrl u hu) mOm
 rw[htl] at kt ks;unfold xU at ks;have hsl:∀u,(Instr.sliceAt 34 (Oc p l.length c) Oh (Og (N9 Oa (m:Int))) Oh).run prog u=.ok (Oc p m c) u:=fun u=>oz 34 67 underlying34 sizeOf67 p l.length c m hml hcap hpn u
 have HX2:=aa (show mD (l.take m) y.school (k:Int) st fi la ids=⟨y.school,st,fi,la,(k:Int),(ju (l.take m) (bQ (l.take m)) st fi la).map (eM ids),jr (l.take m) st fi la⟩ from rfl)
 have HHE:Hid (fD (l.take m)->(fV (l.take m) (bQ (l.take m)) st fi la).map (mi ids)=(ju (l.take m) (bQ (l.take m)) st fi la).map (eM ids)):=aa (fun hk=>by
  rw[ud,AY _ (fun e he=>hk.1 e (oU he).1)])
 have HSL:Hid ((fV (l.take m) (bQ (l.take m)) st fi la).length<=5000\/¬(ep st fi la/\fD (l.take m))):=aa (by
  by_cases hk:ep st fi la/\fD (l.take m)
  .left;rw[ud,aU];have:=xY hk.2 hk.1;omega
  .exact .inr hk)
 have HLT:=aa htl
 have HRL:=aa hrl;have KT:=aa kt;have KS:=aa ks;clear h3 h4 hm hmt hok2 hrl kt ks hpn htl;generalize l.take m=O at *;generalize fV O (bQ O) st fi la=LS at *;generalize jr O st fi la=PV at *;generalize jV O=TB at *;go_wp2_with fail;clear hsl x1 i4 i5;have E14:=aO.mk e14;obtain⟨w0,hw0⟩:∃u,u=w.alloc (Of #[N9 Oa 0,N9 Oa 0,N9 Oa 0,N9 Oa 0,N9 Oa 0,Oc Oh 0 0,Oc Oh 0 0] 39):=⟨_,rfl⟩;rw[<-hw0] at hb0 E14 |-;clear hw0 e14
 go_loopw [17] (fun i wr=>∃j:Nat,j<=m/\i=N9 Oa j/\Hid (∀e∈O.take j,e.school=y.school)/\ac w0.heap.size w0 wr) (fun i _=>m-(aw i).toNat)
 case atStart=>exact⟨0,aP _,rfl,aa (fun e he=>by cases he),Below.refl _ _⟩
 case round =>
  obtain⟨j,hj,rfl,HJ,hb⟩:=hrel;have hbw:=ah hb0 hb;have e14:=hb.heap_of E14.is;by_cases hlt:j<m
  .have hrO:=HRL.out w (Below.refl _ _);rw[<-HLT.out] at hrO;obtain⟨eg,eo,hpe,heg,hrow⟩:=dh (kk:=15) hrO eG rfl (by rw[HLT.out];omega);have hge:=ai (show j<O.length by rw[HLT.out];exact hlt);have hre:=hrow j _ hge;have HT:Hid (O.take (j+1)=O.take j++[O[j]'(by rw[HLT.out];exact hlt)]):=aa (by rw[aR,hge];rfl);have HM:=aa (cZ hge);generalize O[j]'(by rw[HLT.out];exact hlt)=x at *;have j1:(j:Int)<(m:Int):=mOm;have j2:(0:Int)<=(j:Int):=mOm;have q1:wr.cell? ⟨eg,eo+j*15+1,Oh⟩=Og (N9 Oa x.school):=(hbw.cell (p:=⟨eg,eo+j*15+1,Oh⟩) heg).trans (hre 1 _ rfl);have q0:wr.cell? ⟨g1,o1+k*7,Oh⟩=Og (N9 Oa y.school):=HRX.out _ hbw 0 _ rfl;have hS0:ac wr.heap.size wr wr.drew/\wr.drew.cell? ⟨eg,eo+j*15+1,Oh⟩=Og (N9 Oa x.school)/\wr.drew.cell? ⟨g1,o1+k*7,Oh⟩=Og (N9 Oa y.school)/\wr.drew.cell? ⟨g1,o1+k*7,Oh⟩=Og (N9 Oa y.school):=⟨(Below.refl _ _).drew,q1,q0,q0⟩;have hnm:¬(m:Int)<=(j:Int):=mOm;subst hpe;clear hre hrow hge hrO q1 q0;go_wp2_with fail;refine aD (S:=fun u=>ac wr.heap.size wr u/\u.cell? ⟨eg,eo+j*15+1,Oh⟩=Og (N9 Oa x.school)/\u.cell? ⟨g1,o1+k*7,Oh⟩=Og (N9 Oa y.school)/\u.cell? ⟨g1,o1+k*7,Oh⟩=Og (N9 Oa y.school)) [(0,true),(1,true),(2,true),(3,true),(4,true),(5,true),(6,true),(7,true),(8,true),(9,true),(10,true)] hS0 ?_;have hS:=hS0
   iterate 11 refine ak ?_
   simp only[aQ,aZ];have hbd:=ah hb hS.1;have hbb:=ah hbw hS.1;have e14:=hS.1.heap_of e14;clear hS hS0;by_cases hsc:x.school=y.school
   rotate_left 1
   .have t1:(x.school != y.school)=true:=by rw[bne_iff_ne];exact hsc
    have HN:Hid (V=22):=aa (by rw[HV3.out,if_pos (fun h=>hsc (h x HM.out))]);clear hsc;go_wp2_with ((with_reducible refine wpList_store_row (o:=⟨Oh,.store 39 (.tmp 14) (.tmp 75),_,_,_,_⟩) ?_ 39 (.tmp 14) (.tmp 75) ?_ w.heap.size #[N9 Oa 0,N9 Oa 0,N9 Oa 0,N9 Oa 0,N9 Oa 0,Oc Oh 0 0,Oc Oh 0 0] ?_ ?_ 39 #[N9 Oa 0,N9 Oa 0,N9 Oa 0,N9 Oa 0,N9 Oa 0,Oc Oh 0 0,Oc Oh 0 0] ?_ ?_ ?_ ?_ ?_);rfl;rfl;rfl;rfl;exact e14;kernel_rfl;rfl;simp[Value.oneCell'])
    (try simp only[Exit.inBlock,Exit.then]);refine bodyPost_ret (lk results29 _ _ w.heap.size #[N9 Oa 0,N9 Oa 0,N9 Oa 0,N9 Oa 0,N9 Oa 0,Oc Oh 0 0,Oc Oh 0 0] rfl (setRow_heap _ _ _ _ _ _ e14)) rfl ?_
    exact .inr ⟨by rw[HN.out];decide,by rw[HN.out];rfl,bu hbb (az _) _⟩
   have t1:(x.school != y.school)=false:=by rw[bne_eq_false_iff_eq];exact hsc
   have HN:Hid (∀e∈O.take (j+1),e.school=y.school):=aa (fun e he=>by
    rw[HT.out] at he;rcases bI.1 he with he|he
    .exact HJ.out e he
    .obtain rfl:=bE.1 he;exact hsc)
   clear hsc e14
   go_wp2_with fail
   go_roundw
   case rel=>exact⟨j+1,mOm,by go_num,HN,hbd⟩
   case measure=>simp[aw];omega
  .obtain rfl:j=m:=mOm;have k1:¬(j:Int)<(j:Int):=mOm;have HV4:=aa (HV3.out.trans (if_neg (fun h=>h (by have:=HJ.out;rwa [<-HLT.out,aT] at this))));clear HV3 HJ E14;have q3:wr.cell? ⟨g1,o1+k*7+3,Oh⟩=Og (Ob y.tree):=HRX.out _ hbw 3 _ rfl;have keepS:∀{u v:World},(ac wr.heap.size wr u/\u.cell? ⟨g1,o1+k*7+3,Oh⟩=Og (Ob y.tree))->ac u.heap.size u v->(ac wr.heap.size wr v/\v.cell? ⟨g1,o1+k*7+3,Oh⟩=Og (Ob y.tree)):=fun h hb=>⟨ah h.1 hb,(hb.cell (World.block_lt_of_cell? _ _ h.2)).trans h.2⟩
   have hS0:ac wr.heap.size wr wr.drew/\wr.drew.cell? ⟨g1,o1+k*7+3,Oh⟩=Og (Ob y.tree):=⟨(Below.refl _ _).drew,q3⟩;have HBW:=aa hbw;obtain⟨bt,hbt⟩:∃b,b=(TB.toList==y.tree.toList):=⟨_,rfl⟩;have hbe:(TB.toList==y.tree.toList)=bt:=hbt.symm;have hbe2:(TB.toList != y.tree.toList) = !bt:=by rw[bne,hbe]
   have HBT:Hid (bt=true↔TB=y.tree):=aa (by rw[hbt,beq_iff_eq,ba_toList]);have E14:=aO.mk e14;clear hbt q3 hbw e14;go_wp2_with fail;refine aD (S:=fun u=>ac wr.heap.size wr u/\u.cell? ⟨g1,o1+k*7+3,Oh⟩=Og (Ob y.tree)) [(0,true),(2,true),(3,true),(4,true),(5,true),(6,true),(1,false),(7,true)] hS0 ?_;have hS:=hS0
   iterate 6 refine ak ?_
   refine aJ 74 call74 (KT.out _ (ah HBW.out hS.1)) ?_;rintro x wn⟨rfl,hb⟩;replace hS:=keepS hS hb;refine⟨_,rfl,hS,?_⟩;(try clear hb);refine ay ?_;refine ak ?_;simp only[aQ,aZ];have hb9:=ah HBW.out hS.1;have e14:=hS.1.heap_of E14.is;clear hS hS0 keepS E14 KT hb
   cases bt
   .have HN:Hid (V=40):=aa (by rw[HV4.out,if_pos (fun h=>by have:=HBT.out.2 h;cases this)]);go_wp2_with ((with_reducible refine wpList_store_row (o:=⟨Oh,.store 39 (.tmp 14) (.tmp 84),_,_,_,_⟩) ?_ 39 (.tmp 14) (.tmp 84) ?_ w.heap.size #[N9 Oa 0,N9 Oa 0,N9 Oa 0,N9 Oa 0,N9 Oa 0,Oc Oh 0 0,Oc Oh 0 0] ?_ ?_ 39 #[N9 Oa 0,N9 Oa 0,N9 Oa 0,N9 Oa 0,N9 Oa 0,Oc Oh 0 0,Oc Oh 0 0] ?_ ?_ ?_ ?_ ?_);rfl;rfl;rfl;rfl;exact e14;kernel_rfl;rfl;simp[Value.oneCell'])
    (try simp only[Exit.inBlock,Exit.then]);refine bodyPost_ret (lk results29 _ _ w.heap.size #[N9 Oa 0,N9 Oa 0,N9 Oa 0,N9 Oa 0,N9 Oa 0,Oc Oh 0 0,Oc Oh 0 0] rfl (setRow_heap _ _ _ _ _ _ e14)) rfl ?_
    exact .inr ⟨by rw[HN.out];decide,by rw[HN.out];rfl,bu hb9 (az _) _⟩
   have HV5:=aa (HV4.out.trans (if_neg (fun h=>h (HBT.out.1 rfl))))
   clear HV4 HBT hbe hbe2;have E14:=aO.mk e14;clear e14;go_wp2_with fail;refine(KS.out _ hb9).mono ?_;clear KS;rintro _ w11 (⟨hno,rfl,hb11⟩|⟨hyes,v1,v2,rfl,hO1,hO2⟩)
   .have HN:Hid (V=1):=aa (by rw[HV5.out,if_pos hno]);have hbF:=ah hb9 hb11;have e14:=hb11.heap_of E14.is;clear E14 hno;go_wp2_with ((with_reducible refine wpList_store_row (o:=⟨Oh,.store 39 (.tmp 14) (.tmp 96),_,_,_,_⟩) ?_ 39 (.tmp 14) (.tmp 96) ?_ w.heap.size #[N9 Oa 0,N9 Oa 0,N9 Oa 0,N9 Oa 0,N9 Oa 0,Oc Oh 0 0,Oc Oh 0 0] ?_ ?_ 39 #[N9 Oa 0,N9 Oa 0,N9 Oa 0,N9 Oa 0,N9 Oa 0,Oc Oh 0 0,Oc Oh 0 0] ?_ ?_ ?_ ?_ ?_);rfl;rfl;rfl;rfl;exact e14;kernel_rfl;rfl;simp[Value.oneCell']);exact sh
   have HV6:=aa (HV5.out.trans (if_neg (fun h=>h hyes)))
   have HHE2:=aa (HHE.out hyes.2);have hLS:LS.length<=5000:=by rcases HSL.out with h|h;exact h;exact absurd hyes h
   have E14z:=E14;have e14:=hO1.low.heap_of E14.is;have E14:=aO.mk e14;obtain⟨p1,c1,hv1⟩:=hO1.form;obtain⟨p2,c2,hv2⟩:=hO2.form;subst hv1;subst hv2;have hb11:=ah hb9 hO1.low;have HO1:=aa (hO1.from_ hb9);have hl14:=aG E14z.is;have HPF:Hid (w11.ownsRow (w.heap.size+1) 9 1 (Oc p2 PV.length c2) PV.length (aN bV PV)):=aa (jT hO2.own (Nat.succ_le_of_lt hl14));have hrl:=(hO1.row (fun _=>rfl) mDe);have kn:=D3 LS ids p1 pi c1 ci w11 hrl (HI.out.below hb11) hLS hn;clear HV5 hO1 hO2 hyes e14 hrl;go_wp2_with fail;refine kn.mono ?_;clear kn;rintro _ w12⟨t,rfl,ht,hb12⟩;have hbF:=ah hb11 hb12;have e14:=hb12.heap_of E14.is;clear E14
   cases t
   .have HN:Hid (V=5):=aa (by rw[HV6.out,if_pos (fun h=>by have:=ht.2 h;cases this)]);clear ht;go_wp2_with ((with_reducible refine wpList_store_row (o:=⟨Oh,.store 39 (.tmp 14) (.tmp 101),_,_,_,_⟩) ?_ 39 (.tmp 14) (.tmp 101) ?_ w.heap.size #[N9 Oa 0,N9 Oa 0,N9 Oa 0,N9 Oa 0,N9 Oa 0,Oc Oh 0 0,Oc Oh 0 0] ?_ ?_ 39 #[N9 Oa 0,N9 Oa 0,N9 Oa 0,N9 Oa 0,N9 Oa 0,Oc Oh 0 0,Oc Oh 0 0] ?_ ?_ ?_ ?_ ?_);rfl;rfl;rfl;rfl;exact e14;kernel_rfl;rfl;simp[Value.oneCell']);exact sh
   have HV7:Hid (V=0):=aa (HV6.out.trans (if_neg (fun h=>h (ht.1 rfl))))
   clear HV6 ht;have r0:w12.cell? ⟨g1,o1+k*7,Oh⟩=Og (N9 Oa y.school):=HRX.out _ hbF 0 _ rfl;have HO1:=aa (HO1.out.next hb12);have hbx:=aj w12 (Of #[N9 Oa y.school,N9 Oa st,N9 Oa fi,N9 Oa la,N9 Oa (k:Int),Oc Oh 0 0,Oc p2 PV.length c2] 39);have hhx:=heap_alloc_new w12 (Of #[N9 Oa y.school,N9 Oa st,N9 Oa fi,N9 Oa la,N9 Oa (k:Int),Oc Oh 0 0,Oc p2 PV.length c2] 39);obtain⟨WX,hWX⟩:∃u,u=w12.alloc (Of #[N9 Oa y.school,N9 Oa st,N9 Oa fi,N9 Oa la,N9 Oa (k:Int),Oc Oh 0 0,Oc p2 PV.length c2] 39):=⟨_,rfl⟩;have hzs:WX.heap.size=w12.heap.size+1:=by rw[hWX,size_alloc]
   rw[<-hWX] at hbx hhx;have hne:w.heap.size<w12.heap.size:=av e14;have hX0:XmI w12 (w.heap.size+1) w12.heap.size (w12.heap.size+1) [N9 Oa y.school,N9 Oa st,N9 Oa fi,N9 Oa la,N9 Oa (k:Int)] (Oc p2 PV.length c2) PV [] WX:=⟨hbx,⟨Oh,0,hhx,World.ownsRow_nil _ _ _ _⟩,bK (bK HPF.out (aF.of (S:=fun _=>False) hb12) (fun _ _ e=>e)) (aF.of (S:=fun _=>False) hbx) (fun _ _ e=>e),fun q hq=>ax (HPF.out.lt q hq).2 hb12.size,mOm,mOm,mOm⟩;have HR1:=aa (HO1.out.row (fun _=>rfl) mDe)
   go_upto_region 17 with fail
   rw[<-hWX];clear hWX hbx hhx r0 hb12 hb11 hb9;have HX0:=aa hX0;have E14:=aO.mk e14;have HBF:=aa hbF;clear e14 hX0 hbF;go_wp2_with fail
   go_loopw [22] (fun i wr=>∃j:Nat,j<=LS.length/\i=N9 Oa j/\XmI w12 (w.heap.size+1) w12.heap.size (w12.heap.size+1) [N9 Oa y.school,N9 Oa st,N9 Oa fi,N9 Oa la,N9 Oa (k:Int)] (Oc p2 PV.length c2) PV ((LS.take j).map (mi ids)) wr) (fun i _=>LS.length-(aw i).toNat)
   case atStart=>exact⟨0,aP _,rfl,HX0.out⟩
   case round =>
    obtain⟨j,hj,rfl,hX⟩:=hrel;by_cases hlt:j<LS.length
    .obtain⟨lg,lo,hp1,hlg,hrr⟩:=dh (kk:=3) HR1.out (fun _=>rfl) rfl mOm;have hge:=ai hlt;have hrx:=hrr j _ hge;have HTK:Hid ((LS.take (j+1)).map (mi ids)=(LS.take j).map (mi ids)++[mi ids LS[j]]):=aa (by rw[aR,hge,Option.toList_some,List.map_append];rfl);have hML:((LS.take j).map (mi ids)).length<=5000:=by rw[aU,aI];omega
     generalize LS[j]=z at *;generalize (LS.take j).map (mi ids)=M at *;have hrx':=fun i v hv=>(hX.low.cell (p:=⟨lg,lo+j*3+i,Oh⟩) hlg).trans (hrx i v hv)
     have j1:(j:Int)<(LS.length:Int):=mOm;have j2:(0:Int)<=(j:Int):=mOm;have kid:=fun u=>CL z u
     obtain⟨zk,zh,zb⟩:=z;have y0:wr.cell? ⟨lg,lo+j*3,Oh⟩=Og (Ob zk):=hrx' 0 _ rfl;have y1:wr.cell? ⟨lg,lo+j*3+1,Oh⟩=Og (Ob zh):=hrx' 1 _ rfl;have y2:wr.cell? ⟨lg,lo+j*3+2,Oh⟩=Og (Ob zb):=hrx' 2 _ rfl;have hba5:=aj wr (Of #[Ob zk,Ob zh,Ob zb] 69);have hw5:=heap_alloc_new wr (Of #[Ob zk,Ob zh,Ob zb] 69);obtain⟨w5,hE5⟩:∃u,u=wr.alloc (Of #[Ob zk,Ob zh,Ob zb] 69):=⟨_,rfl⟩;rw[<-hE5] at hba5 hw5;have z0:w5.cell? ⟨wr.heap.size,0,Oh⟩=Og (Ob zk):=ae hw5 0;have z1:w5.cell? ⟨wr.heap.size,1,Oh⟩=Og (Ob zh):=ae hw5 1;have z2:w5.cell? ⟨wr.heap.size,2,Oh⟩=Og (Ob zb):=ae hw5 2;have HHI0:=aa (show mi ids ⟨zk,zh,zb⟩=if idL zk.data.toList∈ids then ⟨zk,zh,zb⟩ else ⟨zk,zh,⟨#[]⟩⟩ from rfl);have HW5:=aO.mk hw5;have HXR:=aa hX;have HB5:=aa hba5;have khas:=fun u (hu:ac w.heap.size w u)=>AW ids (idL zk.data.toList) pi ci u (HI.out.below hu) mOm
     have hlw:=ah (ah HBF.out hX.low) hba5;generalize idL zk.data.toList=NN at *;subst hp1;clear hrr hge hrx hrx' hX hw5 hba5
     go_upto_region 21 with fail
     rw[<-hE5];clear hE5 y0 y1 y2;go_wp2_with fail;refine(kid _).mono ?_;clear kid z0 z1 z2;rintro _ w6⟨rfl,hb6⟩;go_wp2_with fail;refine(khas _ (ah hlw hb6)).mono ?_;clear khas;rintro _ w7⟨rfl,hb7⟩;have hb57:=ah hb6 hb7;have hbr7:=ah HB5.out hb57;have hw7:=hb57.heap_of HW5.is;clear hb6 hb7 hb57 hlw HW5;by_cases hin:NN∈ids
     .have t1:decide (NN∈ids)=true:=decide_eq_true hin;have HHI:Hid (mi ids ⟨zk,zh,zb⟩=⟨zk,zh,zb⟩):=aa (by rw[HHI0.out,if_pos hin]);have hX8:=HXR.out.grow hbr7;have z0:w7.cell? ⟨wr.heap.size,0,Oh⟩=Og (Ob zk):=ae hw7 0;have z1:w7.cell? ⟨wr.heap.size,1,Oh⟩=Og (Ob zh):=ae hw7 1;have z2:w7.cell? ⟨wr.heap.size,2,Oh⟩=Og (Ob zb):=ae hw7 2;clear hin HXR hw7 hbr7 HB5 HHI0;obtain⟨p9,c9,hb9x,ho9⟩:=hX8.box;have c5:w7.cell? ⟨w12.heap.size,5,Oh⟩=Og (Oc p9 M.length c9):=ae hb9x 5;have hba:=aj w7 (Of #[Ob zk,Ob zh,Ob zb] 69);have hlit:ar fX (w7.alloc (Of #[Ob zk,Ob zh,Ob zb] 69)) (Oc (Og ⟨w7.heap.size,0,Oh⟩) 1 1) [(⟨zk,zh,zb⟩:bT)]:=cN (heap_alloc_new w7 _) _ rfl rfl;have hown:=bK ho9 (aF.of (S:=fun _=>False) hba) (fun _ _ e=>e);have hbA:=hba.heap_of hb9x;have XA:=aa (hX8.grow hba);have HBA:=aO.mk hbA;have HOA:=aa hown;have hsz:=aV hX8.size hba.size;clear hX8 hb9x ho9 hba hbA;go_wp2_with (at_builtin;refine bl lnT rfl (.tmp 130) (.tmp 132) rfl (w12.heap.size+1) _ _ M [(⟨zk,zh,zb⟩:bT)] rfl rfl hown hlit (by simp only[aB];omega) hsz ?_;intro v9 w10 hA9;obtain⟨g9,c10,hv9⟩:=jU hA9.own;subst hv9;rw[ap,aB] at hA9;have HA9:=aa hA9;have k9:=(aF.grown hA9.grown).heap HBA.is (fun e2=>by have:=(HOA.out.lt _ e2).1;omega);have c19:=ae k9 5;have f19:=aE k9 5;clear hA9 hown hlit hsz k9);exact ss
     .have t1:decide (NN∈ids)=false:=decide_eq_false hin;have HHI:Hid (mi ids ⟨zk,zh,zb⟩=⟨zk,zh,⟨#[]⟩⟩):=aa (by rw[HHI0.out,if_neg hin]);have hX8:=HXR.out.put hbr7 (az _) 2 (Ob ⟨#[]⟩);have z2:w7.cell? ⟨wr.heap.size,2,Oh⟩=Og (Ob zb):=ae hw7 2;have f2:=aE hw7 2;have hw8:=bj hw7 2 (Ob ⟨#[]⟩);obtain⟨w8,hE8⟩:∃u,u=w7.setCell ⟨wr.heap.size,2,Oh⟩ (Ob ⟨#[]⟩):=⟨_,rfl⟩;rw[<-hE8] at hX8 hw8;have HX8:=aa hX8;have HW8:=aO.mk hw8;clear hin HXR hw7 hbr7 HB5 HHI0 hX8 hw8
      go_upto_region 23 with fail
      rw[<-hE8];clear hE8 z2 f2;have hX8:=HX8.out;have hw8:=HW8.is;have z0:w8.cell? ⟨wr.heap.size,0,Oh⟩=Og (Ob zk):=ae hw8 0;have z1:w8.cell? ⟨wr.heap.size,1,Oh⟩=Og (Ob zh):=ae hw8 1;have z2:w8.cell? ⟨wr.heap.size,2,Oh⟩=Og (Ob ⟨#[]⟩):=ae hw8 2;clear HX8 HW8 hw8;obtain⟨p9,c9,hb9x,ho9⟩:=hX8.box;have c5:w8.cell? ⟨w12.heap.size,5,Oh⟩=Og (Oc p9 M.length c9):=ae hb9x 5;have hba:=aj w8 (Of #[Ob zk,Ob zh,Ob ⟨#[]⟩] 69);have hlit:ar fX (w8.alloc (Of #[Ob zk,Ob zh,Ob ⟨#[]⟩] 69)) (Oc (Og ⟨w8.heap.size,0,Oh⟩) 1 1) [(⟨zk,zh,⟨#[]⟩⟩:bT)]:=cN (heap_alloc_new w8 _) _ rfl rfl;have hown:=bK ho9 (aF.of (S:=fun _=>False) hba) (fun _ _ e=>e);have hbA:=hba.heap_of hb9x;have XA:=aa (hX8.grow hba);have HBA:=aO.mk hbA;have HOA:=aa hown;have hsz:=aV hX8.size hba.size;clear hX8 hb9x ho9 hba hbA;go_wp2_with (at_builtin;refine bl lnT rfl (.tmp 130) (.tmp 132) rfl (w12.heap.size+1) _ _ M [(⟨zk,zh,⟨#[]⟩⟩:bT)] rfl rfl hown hlit (by simp only[aB];omega) hsz ?_;intro v9 w10 hA9;obtain⟨g9,c10,hv9⟩:=jU hA9.own;subst hv9;rw[ap,aB] at hA9;have HA9:=aa hA9;have k9:=(aF.grown hA9.grown).heap HBA.is (fun e2=>by have:=(HOA.out.lt _ e2).1;omega);have c19:=ae k9 5;have f19:=aE k9 5;clear hA9 hown hlit hsz k9);exact ss
    .obtain rfl:j=LS.length:=mOm;have k1:¬(LS.length:Int)<(LS.length:Int):=mOm;rw[aT] at hX;have hlen9:(LS.map (mi ids)).length=X.lines.length:=by rw[HXX.out,HX2.out,HHE2.out]
     rw[HHE2.out] at hX hlen9;obtain⟨p9,c9,hbx,ho9⟩:=hX.box;have e14:=hX.low.heap_of E14.is;have HX:=aa hX;have HO9:=aa ho9;have HXE:Hid (X=⟨y.school,st,fi,la,(k:Int),(ju O (bQ O) st fi la).map (eM ids),PV⟩):=aa (by rw[HXX.out,HX2.out]);generalize (ju O (bQ O) st fi la).map (eM ids)=EL at *;have hcs:=hbx;have c0:wr.cell? ⟨w12.heap.size,0,Oh⟩=Og (N9 Oa y.school):=ae hcs 0;have c1:wr.cell? ⟨w12.heap.size,1,Oh⟩=Og (N9 Oa st):=ae hcs 1;have c2':wr.cell? ⟨w12.heap.size,2,Oh⟩=Og (N9 Oa fi):=ae hcs 2;have c3:wr.cell? ⟨w12.heap.size,3,Oh⟩=Og (N9 Oa la):=ae hcs 3;have c4:wr.cell? ⟨w12.heap.size,4,Oh⟩=Og (N9 Oa (k:Int)):=ae hcs 4;have c5:wr.cell? ⟨w12.heap.size,5,Oh⟩=Og (Oc p9 EL.length c9):=ae hcs 5;have c6:wr.cell? ⟨w12.heap.size,6,Oh⟩=Og (Oc p2 PV.length c2):=ae hcs 6;have hne14:w.heap.size<w12.heap.size:=aG E14.is;clear hbx hcs hX ho9 hlen9 E14;go_wp2_with ((with_reducible refine wpList_store_row (o:=⟨Oh,.store 39 (.tmp 14) (.tmp 135),_,_,_,_⟩) ?_ 39 (.tmp 14) (.tmp 135) ?_ w.heap.size #[N9 Oa y.school,N9 Oa st,N9 Oa fi,N9 Oa la,N9 Oa (k:Int),Oc p9 EL.length c9,Oc p2 PV.length c2] ?_ ?_ 39 #[N9 Oa 0,N9 Oa 0,N9 Oa 0,N9 Oa 0,N9 Oa 0,Oc Oh 0 0,Oc Oh 0 0] ?_ ?_ ?_ ?_ ?_);rfl;rfl;rfl;rfl;exact e14;kernel_rfl;rfl;simp[Value.oneCell'])
     (try simp only[Exit.inBlock,Exit.then]);refine bodyPost_ret (lk results29 _ _ w.heap.size #[N9 Oa y.school,N9 Oa st,N9 Oa fi,N9 Oa la,N9 Oa (k:Int),Oc p9 EL.length c9,Oc p2 PV.length c2] rfl (setRow_heap _ _ _ _ _ _ e14)) rfl ?_
     refine .inl ⟨HV7.out,p9,c9,p2,c2,?_,?_,?_⟩
     .rw[HXE.out];rfl
     .rw[HXE.out];exact⟨⟨_,_,rfl⟩,jT (bK HO9.out (aF.setRow wr w.heap.size _) (fun q hq e=>by have:=(HO9.out.lt q hq).1;omega)) mOm,bu (ah HBF.out HX.out.low) (az _) _⟩
     .rw[HXE.out];exact⟨⟨_,_,rfl⟩,jT (bK HX.out.prf (aF.setRow wr w.heap.size _) (fun q hq e=>by have:=(HX.out.prf.lt q hq).1;omega)) mOm,bu (ah HBF.out HX.out.low) (az _) _⟩
end
section
open Go Go.Proofs Go.RowKit Go.Sort Go.Lib
theorem eU.few{B:Nat}{A:Option Addr}{n m:Nat}{w:World}(h:eU B A n w)(hm:m<=n):eU B A m w:=
 ⟨aV hm h.1,fun j hj=>h.2 j mOm⟩
theorem Cl:∀s∈codesL,s.size<=100000:=mDe
theorem AT{sc:Int}{e:Ent}(g:Good sc e)(hsc:1<=sc/\sc<=100):e.Ok:=by
 obtain⟨h1,h2,h3,h4,h5,h6,h7,h8,h9,h10,h11,h12,h13,h14⟩:=g;have hc:e.course.size<=100000/\I64 e.credits:=by
  split at h9
  .exact⟨Cl _ h9.1,by unfold I64;omega⟩
  .rw[h9.1,h9.2];exact⟨mDe,by unfold I64;omega⟩
 have hm:e.mark.size<=100000:=by rw[h8];decide
 clear h8 h9;refine⟨?_,?_,?_,?_,?_,?_,hc.2,?_,?_,?_,?_,?_,?_,hc.1,hm⟩ <;> unfold I64 <;> (try split at h10) <;> (try split at h11) <;> (try split at h12) <;> (try split at h13) <;> (try split at h14) <;> omega
def CmX(l:List Ent)(R:List aC)(w w':World)(X:Array Value):Prop:=
 ∃(k:Nat) (st fi la:Int) (ids:List Int) (p1 p2:Option Addr) (c1 c2:Nat),k<R.length/\sV l R k st fi la ids=0/\X=(cE l R k st fi la ids).cells p1 p2 c1 c2/\
  bz fX 3 69 w w' (Oc p1 (cE l R k st fi la ids).lines.length c1) (cE l R k st fi la ids).lines/\bz bV 1 9 w w' (Oc p2 (cE l R k st fi la ids).proof.length c2) (cE l R k st fi la ids).proof
theorem CmX.next{l:List Ent}{R:List aC}{w0 w u v:World}{X:Array Value}(h:CmX l R w u X)(hb0:ac w0.heap.size w0 w)(hb:ac u.heap.size u v):CmX l R w0 v X:=by obtain⟨k,st,fi,la,ids,p1,p2,d1,d2,h3,h4,h5,h6,h7⟩:=h;exact⟨k,st,fi,la,ids,p1,p2,d1,d2,h3,h4,h5,(h6.from_ hb0).next hb,(h7.from_ hb0).next hb⟩
theorem Aw(r:bH)(e:Ent):sgE r e=entZ\/∃id mk,sgE r e={ e with key:=id,mark:=mk }/\id=sgK r.keys e.day/\mk.size<=8:=by
 unfold sgE oL
 split
 .exact .inl rfl
 split
 .exact .inl rfl
 split
 .exact .inl rfl
 .refine .inr ⟨_,_,rfl,rfl,?_⟩;unfold eC
  split
  .exact az 8
  .exact aP 8
theorem IZ{r:bH}(hk:∀k∈r.keys,I64 k.id){e:Ent}(he:e.Ok):(sgE r e).Ok:=by
 rcases Aw r e with h|⟨id,mk,h,h1,h2⟩
 .rw[h];exact Ag
 .rw[h];have:=EZ (d:=e.day) hk;rw[<-h1] at this;exact⟨he.id,he.school,he.student,he.kind,he.day,he.on,he.credits,he.grade,he.ref,he.fro,he.programme,he.version,this,he.course,by show mk.size<=_;omega⟩
structure CaseP (r:bH) (l:List Ent) (R:List aC):Prop where
 school:r.school=1
 keys:1<=r.keys.length/\r.keys.length<=3
 sec:∀k∈r.keys,k.secret.size<=103/\I64 k.id
 ents:∃es,fQ 1 es/\l=es.map (sgE r)
 chain:jW r l R
theorem ue{r:bH}{l es:List Ent}(h:fQ 1 es)(hl:l=es.map (sgE r)):l.length<=24:=by rw[hl,aU];exact h.len
theorem vX{r:bH}{l es:List Ent}(h:fQ 1 es)(hl:l=es.map (sgE r))(hk:∀k∈r.keys,I64 k.id):∀e∈l,e.Ok:=by intro e he;rw[hl] at he;obtain⟨x,hx,rfl⟩:=ff.1 he;exact IZ hk (AT (h.good x hx) mOm)
theorem CaseP.len{r:bH}{l:List Ent}{R:List aC}(h:CaseP r l R):l.length<=24:=by obtain⟨es,h1,h2⟩:=h.ents;exact ue h1 h2
theorem CaseP.ok{r:bH}{l:List Ent}{R:List aC}(h:CaseP r l R):∀e∈l,e.Ok:=by
 obtain⟨es,h1,h2⟩:=h.ents;exact vX h1 h2 (fun k hk=>(h.sec k hk).2)
end
section
open Go Go.Proofs Go.RowKit Go.Sort Go.Lib
attribute [local go_sem] aC.cells
theorem yX{P:Program}{ops:Array Oper}{Q:Exit->Act->World->Prop}{S:World->Prop}{i:Nat}{σ:List (Nat×Bool)}{a:Act}{w:World}(oi:Oper)(v:Value)(w':World)(hi:ops[i]? = Og oi)(hw:Region.wanted oi (yielded ops a.tmps)=true)(hr:(execOp a.eval oi).run P w=.ok (.value v) w')(hS:S w')
  (h:aQ P ops Q S σ (a.put oi.dst v) w'):aQ P ops Q S ((i,false)::σ) a w:=
 ll oi hi hw (by unfold Oper.wp;rw[hr,Oper.upon_value];exact⟨hS,h⟩)
def exE:List Ent:=[⟨1,1,5,3,20,10,⟨#[65,49]⟩,5,70,0,0,0,0,0,⟨#[]⟩⟩,⟨2,1,5,5,40,30,⟨#[]⟩,0,0,1,0,0,0,0,⟨#[]⟩⟩]
def exG(s:Int):bH:=⟨1,[⟨1,C0,0,s⟩]⟩
def exL:List Ent:=exE.map (sgE (exG 0))
def exR:aC:=(mkR (exG 0) 1 [] exL 50).1
theorem Hv:∀e∈exE,e.Ok:=by
 intro e he;simp only[exE,bM,eZ,or_false] at he;rcases he with rfl|rfl <;> exact⟨by unfold I64;decide,by unfold I64;decide,by unfold I64;decide,by unfold I64;decide,by unfold I64;decide,by unfold I64;decide,by unfold I64;decide,by unfold I64;decide,by unfold I64;decide,by unfold I64;decide,by unfold I64;decide,by unfold I64;decide,by unfold I64;decide,mDe,mDe⟩
theorem yV(s:Int):∀k∈(exG s).keys,k.secret.size<=100000/\I64 k.id:=by intro k hk;simp only[exG,bE] at hk;subst hk;exact⟨by show(3:Nat)<=100000;decide,by show I64 1;unfold I64;decide⟩
theorem yW:∀e∈exL,e.Ok:=by
 intro e he;obtain⟨x,hx,rfl⟩:=ff.1 he;exact IZ (fun k hk=>(yV 0 k hk).2) (Hv x hx)
theorem Lv:exL.length=2:=rfl
theorem BK(w:World)(hT:Tabs w) :
  Calls prog 28 #[] w fun e w'=>∃(p1 p2:Option Addr) (c1 c2:Nat),e=Oe (.tuple #[Oc p1 2 c1,Oc p2 1 c2])/\bz bL 15 67 w w' (Oc p1 2 c1) exL/\bz cY 7 65 w w' (Oc p2 1 c2) [exR]:=by
 have HT:=aa hT;clear hT;go_enter func28,ntmps28;go_wp2_with fail;refine(iY 0 w).mono ?_;rintro _ w1⟨g,rfl,hK,hbg,hgl,hb1⟩;have hlit:=mj (enc:=bL) (k:=15) 67 w1 #[N9 Oa 1,N9 Oa 1,N9 Oa 5,N9 Oa 3,N9 Oa 20,N9 Oa 10,Ob ⟨#[65,49]⟩,N9 Oa 5,N9 Oa 70,N9 Oa 0,N9 Oa 0,N9 Oa 0,N9 Oa 0,N9 Oa 0,Ob ⟨#[]⟩,N9 Oa 2,N9 Oa 1,N9 Oa 5,N9 Oa 5,N9 Oa 40,N9 Oa 30,Ob ⟨#[]⟩,N9 Oa 0,N9 Oa 0,N9 Oa 1,N9 Oa 0,N9 Oa 0,N9 Oa 0,N9 Oa 0,Ob ⟨#[]⟩] exE 2 rfl mDe rfl rfl;have hbl:=hlit.low;have ks:=zG (exG 0) g 1 exE Hv _ _ _ (hlit.row eG mDe) mDe (hK.below hbl hgl) (ax hgl hbl.size) mDe (yV 0) (by unfold I64;decide) (HT.out.below (ah hb1 hbl));have HB1:=aa (ah hb1 hbl);clear hlit hK hbg hgl hb1 hbl;go_wp2_with fail;refine ks.mono ?_;clear ks;rintro _ w2⟨v2,rfl,hO2⟩;obtain⟨p2,c2,rfl⟩:=hO2.form;have HO2:=aa (hO2.from_ HB1.out);clear hO2;go_wp2_with fail;refine(iY 0 w2).mono ?_;rintro _ w3⟨g3,rfl,hK3,hbg3,hgl3,hb3⟩;have HO3:=aa (HO2.out.next hb3);have km:=zt g3 1 (exG 0) 1 Oh 0 [] p2 c2 exL 50 w3 (ar.nil _ _) (fun x hx=>by cases hx) mDe (HO3.out.row eG mDe) yW mDe hK3 hgl3 mDe (fun k hk=>(yV 0 k hk).1) (by unfold I64;decide) (by unfold I64;decide) (by unfold I64;decide);have HXR:Hid ((mkR (exG 0) 1 [] exL 50).1=exR):=aa rfl;generalize (mkR (exG 0) 1 [] exL 50).2=er at *;obtain⟨⟨r0,r1,r2,r3,r4,r5,r6⟩,HRR⟩:∃y,Hid (exR=y):=⟨_,aa rfl⟩;rw[HXR.out,HRR.out] at km;have HO3:=aa (show bz bL 15 67 w w3 (Oc p2 2 c2) exL from HO3.out);clear HO2 hK3 hbg3 hgl3 hb3 HXR;go_wp2_with fail;refine km.mono ?_;clear km;rintro _ w4⟨rfl,hb4⟩;have HO4:=aa (HO3.out.next hb4);have hx:=heap_alloc_new w4 (Of #[N9 Oa r0,N9 Oa r1,N9 Oa r2,Ob r3,Ob r4,N9 Oa r5,Ob r6] 65);have hba:=aj w4 (Of #[N9 Oa r0,N9 Oa r1,N9 Oa r2,Ob r3,Ob r4,N9 Oa r5,Ob r6] 65);obtain⟨w5,hw5⟩:∃u,u=w4.alloc (Of #[N9 Oa r0,N9 Oa r1,N9 Oa r2,Ob r3,Ob r4,N9 Oa r5,Ob r6] 65):=⟨_,rfl⟩;obtain⟨xb,hxb⟩:∃b,b=w4.heap.size:=⟨_,rfl⟩;rw[<-hw5] at hx hba
 go_upto_region 3 with fail
 rw[<-hw5,<-hxb];rw[<-hxb] at hx;have hd:=(Below.refl w5.heap.size w5).drew;have hxd:=hd.heap_of hx;have hS0:∀j,w5.drew.cell? ⟨xb,j,Oh⟩=(#[N9 Oa r0,N9 Oa r1,N9 Oa r2,Ob r3,Ob r4,N9 Oa r5,Ob r6]:Array Value)[j]?:=ae hxd;have hS1:∀j,(w5.drew.alloc (Of #[N9 Oa r0,N9 Oa r1,N9 Oa r2,Ob r3,Ob r4,N9 Oa r5,Ob r6] 65)).cell? ⟨xb,j,Oh⟩=(#[N9 Oa r0,N9 Oa r1,N9 Oa r2,Ob r3,Ob r4,N9 Oa r5,Ob r6]:Array Value)[j]?:=ae (eR hxd _);have hlit:=mj (enc:=cY) (k:=7) 65 w5.drew #[N9 Oa r0,N9 Oa r1,N9 Oa r2,Ob r3,Ob r4,N9 Oa r5,Ob r6] [(⟨r0,r1,r2,r3,r4,r5,r6⟩:aC)] 1 rfl mDe rfl rfl;have HLIT:=aa (hlit.from_ (ah HO4.out.low (ah hba hd)));have HO5:=aa (HO4.out.next (ah (ah hba hd) hlit.low));clear hw5 hxb hx hba hb4 hd hxd hlit HO3 HO4;refine aD (S:=fun u=>∀j,u.cell? ⟨xb,j,Oh⟩=(#[N9 Oa r0,N9 Oa r1,N9 Oa r2,Ob r3,Ob r4,N9 Oa r5,Ob r6]:Array Value)[j]?) [(0,true),(1,true),(3,true),(2,false),(4,true)] hS0 ?_;have hS:=hS0
 iterate 2 refine ak ?_
 refine mR ⟨_,_,_,_,_,_⟩ ?_ rfl mRf ?_ ?_
 rotate_left 1
 .intro w hSw;(try dsimp only at hSw);go_simp;(try with_reducible rfl)
 simp only[Act.put,List.setIfInBounds_toArray,List.set_cons_zero]
 refine yX ⟨_,_,_,_,_,_⟩ (Oc (Og ⟨w5.drew.heap.size,0,Oh⟩) 1 1) (w5.drew.alloc (Of #[N9 Oa r0,N9 Oa r1,N9 Oa r2,Ob r3,Ob r4,N9 Oa r5,Ob r6] 65)) rfl mRf (by go_simp;try rfl) hS1 ?_;replace hS:=hS1;refine ay ?_;refine ak ?_;simp only[aQ,aZ];clear hS hS0 hS1;go_wp2_with fail
 go_ret2
 exact⟨p2,Og ⟨w5.drew.heap.size,0,Oh⟩,c2,1,rfl,HO5.out,by rw[HRR.out];exact HLIT.out⟩
end
section
open Go Go.Proofs Go.RowKit Go.Sort Go.Lib
structure MdX (r:bH) (l:List Ent) (R:List aC) (k:Nat) (st fi la:Int) (ids:List Int) (m:Nat) (rt:aC):Prop where
 root:R[k]? = Og rt
 many:m<=l.length
 size:rt.size=m
 ext:cE l R k st fi la ids=mD (l.take m) 1 k st fi la ids
 keyed:fD (l.take m)
 range:ep st fi la
 tree:rt.tree=jV (l.take m)
 jud:dS (cE l R k st fi la ids) R r 100000=0
 at_:dW (cE l R k st fi la ids) R=rt
 each:∀e∈l.take m,e.Ok/\e.code.length<=600/\0<e.code.length/\e.school=1/\e.day<=rt.day
theorem D4(e:Ent):(dD e).size<=39:=by have h1:=tQ e;have h2:=mT e.code;rw[bF];unfold dD;simp only[ap,bB];omega
theorem Fa(l:List Ent):∀x∈bQ l,x.size<=39:=fun x hx=>by
 obtain⟨e,-,rfl⟩:=ff.1 ((iZ _).mem_iff.1 hx);exact D4 e
theorem Fd{m:List ByteArray}(h:∀x∈m,x.size<=39)(lo:ByteArray):(om m lo).size<=39:=by
 unfold om
 split
 .rename_i x hx
  split
  .exact h x (cZ hx)
  .exact aP _
 .exact aP _
theorem E9{m:List ByteArray}(h:∀x∈m,x.size<=39)(hi:ByteArray):(ol m hi).size<=39:=by
 unfold ol
 split
 .rename_i x hx
  split
  .exact aP _
  .exact h x (cZ hx)
 .exact aP _
theorem yT(l:List ByteArray)(i j:Nat):(fw l i j).length<=j-i:=by unfold fw gw;rw[aU,aU];exact jR j _ i (az _)
theorem Ed(l:List Ent)(st fi la:Int)(hn:l.length<=2000):(∀s∈jr l st fi la,s.size<=39)/\(jr l st fi la).length<=5+2*l.length:=by
 have hal:(bQ l).length=l.length:=by unfold bQ cH;rw[mW,aU]
 have hmid:∀x∈jS (bQ l) (loB st fi) (hiB st la),x.size<=39:=fun x hx=>by
  unfold jS at hx;exact Fa l x (List.mem_of_mem_drop (cu hx))
 have h1:=jE (bQ l) (loB st fi)
 have ha:eE (bQ l) (loB st fi)<=l.length:=by unfold eE;omega
 constructor
 .intro s hs;unfold jr at hs;rcases bI.1 hs with hs|hs
  .simp only[bM,eZ,or_false] at hs;rcases hs with rfl|rfl|rfl|rfl|rfl
   .show 8<=39;decide
   .show 8<=39;decide
   .have:=Lib.itoa_length_le ((eE (bQ l) (loB st fi):Nat):Int) mOm mOm;rw[bF];simp only;omega
   .exact Fd hmid _
   .exact E9 hmid _
  .unfold js at hs;rcases bI.1 hs with hs|hs
   .rw[rc _ _ _ s hs];decide
   .rw[rc _ _ _ s hs];decide
 .have d1:=yT (bQ l) 0 (eE (bQ l) (loB st fi));have d2:=yT (bQ l) (iB (bQ l) (loB st fi) (hiB st la)) (bQ l).length;unfold jr js;simp only[ap,bB,List.length_nil];omega
theorem MdX.len{r:bH}{l:List Ent}{R:List aC}{k:Nat}{st fi la:Int}{ids:List Int}{m:Nat}{rt:aC}(h:MdX r l R k st fi la ids m rt):(l.take m).length=m:=by have:=h.many;rw[aI];omega
theorem MdX.lines{r:bH}{l:List Ent}{R:List aC}{k:Nat}{st fi la:Int}{ids:List Int}{m:Nat}{rt:aC}(h:MdX r l R k st fi la ids m rt):(cE l R k st fi la ids).lines=(ju (l.take m) (bQ (l.take m)) st fi la).map (eM ids):=by rw[h.ext];rfl
theorem MdX.fields{r:bH}{l:List Ent}{R:List aC}{k:Nat}{st fi la:Int}{ids:List Int}{m:Nat}{rt:aC}(h:MdX r l R k st fi la ids m rt):(cE l R k st fi la ids).school=1/\(cE l R k st fi la ids).student=st/\(cE l R k st fi la ids).first=fi/\(cE l R k st fi la ids).last=la/\(cE l R k st fi la ids).root=(k:Int):=by rw[h.ext];exact⟨rfl,rfl,rfl,rfl,rfl⟩
theorem MdX.cells{r:bH}{l:List Ent}{R:List aC}{k:Nat}{st fi la:Int}{ids:List Int}{m:Nat}{rt:aC}(h:MdX r l R k st fi la ids m rt)(pl pp:Option Addr)(cl cp:Nat):(cE l R k st fi la ids).cells pl pp cl cp=#[N9 Oa 1,N9 Oa st,N9 Oa fi,N9 Oa la,N9 Oa (k:Int),Oc pl (cE l R k st fi la ids).lines.length cl,Oc pp (cE l R k st fi la ids).proof.length cp]:=by obtain⟨h1,h2,h3,h4,h5⟩:=h.fields;unfold fc.cells;rw[h1,h2,h3,h4,h5]
theorem MdX.few{r:bH}{l:List Ent}{R:List aC}{k:Nat}{st fi la:Int}{ids:List Int}{m:Nat}{rt:aC}(h:MdX r l R k st fi la ids m rt):(cE l R k st fi la ids).lines.length<=m:=by have:=xY h.keyed h.range;rw[h.lines,aU];have:=h.len;omega
theorem MdX.fit{r:bH}{l:List Ent}{R:List aC}{k:Nat}{st fi la:Int}{ids:List Int}{m:Nat}{rt:aC}(h:MdX r l R k st fi la ids m rt)(hl:l.length<=2000)(hR:R.length<=2000):(cE l R k st fi la ids).Fit:=by
 have hlen:=h.len;have hmany:=h.many;have hk:=(List.getElem?_eq_some_iff.1 h.root).1;have hp:=Ed (l.take m) st fi la mOm;have hpr:(cE l R k st fi la ids).proof=jr (l.take m) st fi la:=by rw[h.ext];rfl
 refine⟨?_,?_,?_,?_,?_⟩
 .rw[h.ext];exact⟨by show(-9223372036854775808:Int)<=(k:Int);omega,by show(k:Int)<=9223372036854775807;omega⟩
 .rw[h.lines];intro y hy;obtain⟨e,he,rfl⟩:=ff.1 hy;have hm:=oU he;have hea:=h.each e hm.1;unfold bT.Fit;rw[ou,oW];refine⟨?_,?_,?_⟩
  .have:=tQ e;rw[bF]
   show(fW e).length<=100000
   omega
  .have:=mT e.code;rw[bF]
   show(oE e.code).length<=100000
   omega
  .unfold eM
   split
   .rw[bF]
    show e.code.length<=100000
    omega
   .exact aP _
 .have:=h.few;omega
 .rw[hpr];intro s hs;have:=hp.1 s hs;omega
 .rw[hpr];omega
end
section
open Go Go.Proofs Go.RowKit Go.Sort Go.Lib
deriving instance DecidableEq for Ent
deriving instance DecidableEq for aC
theorem ex_size:exR.size=2/\exR.school=1/\exR.day=50:=by decide +kernel
theorem Mz:∀e∈exL,dQ e=0:=by decide +kernel
theorem ex_top:jV exL=exR.tree:=by decide +kernel
theorem Lz:kT (exL.map eH)=exL.map eH:=by decide +kernel
theorem Ly:cC (eH (exL.getD 0 entZ)) (eH (exL.getD 1 entZ))<0:=by decide +kernel
theorem ya:fD exL:=by
 refine⟨Mz,?_⟩;rw[Lz];intro i a b ha hb
 match i,ha,hb with
 | 0,ha,hb =>
  obtain rfl:eH (exL.getD 0 entZ)=a:=Option.some.inj ha;obtain rfl:eH (exL.getD 1 entZ)=b:=Option.some.inj hb;exact Ly
 | i+1,ha,hb=>cases hb
def exX(la:Int)(ids:List Int):fc:=cE exL [exR] 0 5 0 la ids
theorem nJ(la:Int)(ids:List Int):exX la ids=mD exL 1 (0:Nat) 5 0 la ids:=by
 have h:exL.take (([exR]:List aC).getD (0:Int).toNat rootZ).size.toNat=exL:=by
  show exL.take exR.size.toNat=exL
  rw[ex_size.1]
  rfl
 unfold exX cE
 rw[h]
 show mD exL exR.school 0 5 0 la ids=_
 rw[ex_size.2.1]
 rfl
theorem Hx:jH (fV exL (bQ exL) 5 0 100) [1]:=by unfold jH;decide +kernel
theorem Hy:jH (fV exL (bQ exL) 5 0 20) [1]:=by unfold jH;decide +kernel
theorem Hz:jH (fV exL (bQ exL) 5 0 100000) [1,2]:=by unfold jH;decide +kernel
theorem MA(la:Int)(ids:List Int)(hl:0<=la/\la<=100000)(hk:jH (fV exL (bQ exL) 5 0 la) ids):sV exL [exR] 0 5 0 la ids=0:=by
 have h:exL.take (([exR]:List aC).getD (0:Int).toNat rootZ).size.toNat=exL:=by
  show exL.take exR.size.toNat=exL
  rw[ex_size.1]
  rfl
 have hg:([exR]:List aC).getD (0:Int).toNat rootZ=exR:=rfl
 unfold sV;rw[h,hg,ex_size.1,ex_size.2.1,if_neg mDe,if_neg (by rw[Lv];decide),if_neg,if_neg,if_neg,if_neg]
 .exact fun h=>h hk
 .exact fun h=>h ⟨⟨mDe,mDe,mDe,hl.1,hl.2⟩,ya⟩
 .exact fun h=>h ex_top
 .exact fun h=>h (by decide +kernel)
theorem kO:cK (exG 0) [exR]=0:=by decide +kernel
theorem uM:cK (exG 51) [exR]=0:=by decide +kernel
theorem HU:cK (exG 50) [exR]=11:=by decide +kernel
theorem Le:dO [exR] 1=[exR]:=by decide +kernel
theorem tK:∀e∈exL,e.code.length<=262144/\e.school=1/\0<e.code.length:=by decide +kernel
theorem uL(s la:Int)(ids:List Int)(hl:0<=la/\la<=100000)(hs:cK (exG s) [exR]=0):dS (exX la ids) [exR] (exG s) 100000=0/\dW (exX la ids) [exR]=exR:=by
 rw[nJ];exact yg (r:=exG s) (own:=[exR]) (root:=0) Le rfl hs (by rw[ex_size.1];rfl) ex_top.symm ya ⟨mDe,mDe,mDe,hl.1,hl.2⟩ mDe ids (by show(1:Int)<=1/\(1:Int)<=8;decide) mDe (fun e he=>⟨yW e he,(tK e he).1,(tK e he).2.1⟩)
theorem CP{x:fc}{roots:List aC}{r:bH}{a:Int}(h:dS x roots r a=0)(b:Int):dS x roots r b=if b<(dW x roots).day then 23 else 0:=by
 unfold dS at h |-;by_cases c1:kA x≠0
 .rw[if_pos c1] at h;exact absurd h c1
 rw[if_neg c1] at h |-
 by_cases c2:r.school≠x.school
 .rw[if_pos c2] at h;cases h
 rw[if_neg c2] at h |-
 by_cases c3:((dO roots x.school).length:Int)<=x.root
 .rw[if_pos c3] at h;cases h
 rw[if_neg c3] at h |-
 by_cases c4:cK r ((dO roots x.school).take (x.root.toNat+1))≠0
 .rw[if_pos c4] at h;exact absurd h c4
 rw[if_neg c4] at h |-
 by_cases c5:a<(dW x roots).day
 .rw[if_pos c5] at h;cases h
 rw[if_neg c5] at h
 by_cases c6:¬jz (dW x roots).tree (dW x roots).size x.student x.first x.last x.lines x.proof
 .rw[if_pos c6] at h;cases h
 rw[if_neg c6]
theorem lO(s la:Int)(ids:List Int)(hl:0<=la/\la<=100000)(hs:cK (exG s) [exR]=0):dS (exX la ids) [exR] (exG s) 60=0:=by obtain⟨h1,h2⟩:=uL s la ids hl hs;rw[CP h1,h2,ex_size.2.2,if_neg mDe]
theorem Cz(la:Int)(ids:List Int)(hl:0<=la/\la<=100000):dS (exX la ids) [exR] (exG 0) 49=23:=by obtain⟨h1,h2⟩:=uL 0 la ids hl kO;rw[CP h1,h2,ex_size.2.2,if_pos mDe]
theorem CA(la:Int)(ids:List Int)(hl:0<=la/\la<=100000):dS (exX la ids) [exR] (exG 50) 60=11:=by
 have hx:(exX la ids).school=1/\(exX la ids).root=0:=by rw[nJ];exact⟨rfl,rfl⟩
 have hc:kA (exX la ids)=0:=by
  rw[nJ];exact CX ya ⟨mDe,mDe,mDe,hl.1,hl.2⟩ mDe ids mDe mDe (fun e he=>⟨yW e he,(tK e he).1,(tK e he).2.1⟩)
 unfold dS
 rw[if_neg (fun h=>h hc),hx.1,hx.2,Le,if_neg (fun h=>h rfl),if_neg mDe];have e:([exR]:List aC).take ((0:Int).toNat+1)=[exR]:=rfl;rw[e,HU,if_pos mDe]
theorem ex_ents1:fA (exG 0) exR (exX 100 [1]).lines=exL.take 1/\fE (exX 100 [1]).lines=1/\gN (exX 100 [1]).lines=false:=by decide +kernel
theorem ex_ents2:fA (exG 0) exR (exX 20 [1]).lines=exL.take 1/\fE (exX 20 [1]).lines=0/\gN (exX 20 [1]).lines=true:=by decide +kernel
theorem JS:fA (exG 51) exR (exX 100 [1]).lines=exL.take 1:=by decide +kernel
theorem JT:cT (exX 100000 [1,2]).lines=exL:=by decide +kernel
theorem Hw:∀y∈(exX 100000 [1,2]).lines,y.body.toList.isEmpty=false:=by decide +kernel
theorem ex_lens:(exX 100 [1]).lines.length=2/\(exX 20 [1]).lines.length=1/\(exX 100000 [1,2]).lines.length=2:=by decide +kernel
end
section
open Go Go.ChangeShapes Go.WideShapes Go.ChangeAt Go.WideElems Go.RowKit Go.Lib
open Go.Extern.Stop Go.Stop Go.Extern
def laidRow : List (String × DataW Unit) := [("math/bits.deBruijn32tab", Rows.laid_math_bits_deBruijn32tab), ("math/bits.deBruijn64tab", Rows.laid_math_bits_deBruijn64tab), ("internal/strconv.uint64pow10", Rows.laid_internal_strconv_uint64pow10), ("strconv.ErrRange", Rows.laid_strconv_ErrRange), ("strconv.ErrSyntax", Rows.laid_strconv_ErrSyntax)]
theorem Do{W:World}(h:laidMetH prog laidRow W):Tabs W:=by
 have h1 := h.filter (fun x => x.1 == "internal/strconv.uint64pow10");rw [MakeChecks.laidMetH_plain _ _ _ mKr] at h1;exact Lib.tabIs_of_head (rest:=[]) Ga (by kernel_rfl:(prog.globals[0]?).map (·.type)=some 299) underlying299 underlying272 mKr mKr h1
theorem Cu(os:Os)(args:Array Value):laidMetH prog laidRow ((World.doorLaid prog 4000 os).forCall (fun _ _=>0) ⟨#[],args,[]⟩).memory:=
 laidMetH_of_parts3 (fuel:=8) (laidMet_of_run' 8 mKr mKr) mKr mKr
theorem IA{W:World}(h:W.ShapedOpen prog):∃m,W.cell? ⟨1,0,none⟩=some (.int .i64 m):=
 Go.Proofs.cell_of_shapedOpen_int (zero:=#[.int .i64 0]) (t:=3) h (of_decide_eq_true mKr) mKr rfl mKr mKr underlying3
theorem EW (u : TypeId) (h : prog.typeName? 3 u = some "*errors.errorString") : u = 314 :=
 typeName_ptr_named (nm := "errors.errorString") (by rw [show "*" ++ "errors.errorString" = "*errors.errorString" by decide]; kernel_rfl) mKr mDe u (by rw [show "*" ++ "errors.errorString" = "*errors.errorString" by decide]; exact h)
theorem Cy{W:World}(h:laidMetH prog laidRow W):Wr.ErrVars W:=by
 have h1 := h.filter (fun x => x.1 == "strconv.ErrRange" || x.1 == "strconv.ErrSyntax");rw [MakeChecks.laidMetH_plain _ _ _ mKr] at h1;have e : laidRow.filter (fun x => x.1 == "strconv.ErrRange" || x.1 == "strconv.ErrSyntax") = [("strconv.ErrRange", Rows.laid_strconv_ErrRange), ("strconv.ErrSyntax", Rows.laid_strconv_ErrSyntax)] := mKr;rw [e] at h1;obtain ⟨a1,t1,hv1,-⟩:=laid_sentinel (g:=3) h1 mKr mKr underlying160 EW underlying314 underlying316 rfl rfl underlying9 mKr mKr;obtain ⟨a0,t0,hv0,-⟩:=laid_sentinel (g:=2) h1.tail mKr mKr underlying160 EW underlying314 underlying316 rfl rfl underlying9 mKr mKr;exact ⟨⟨_,_,hv0⟩,_,_,hv1⟩
theorem C8{W:World}(h:laidMetH prog laidRow W)(hs:W.ShapedOpen prog):Wr.Ready W:=⟨⟨Do h,IA hs⟩,Cy h⟩
theorem ld{H:Type}{enc:TypeId×Value->H}{a:Assume}{C:Checked}{os:Os}{f:FuncId}{fn:Func}{s:ChangeSpec}{conds:List PathCond}{apart fresh handsOn again:Bool}{X:World->Array Value->Prop}
  (hX:∀(w w':World)(args:Array Value),w.heap=w'.heap->X w args->X w' args)
  (own:ownKnob C.prog.godebug=none) (started:os.Started) (noInit:C.prog.inits.idxOf? f=none) (hfn:C.prog.funcs[f]? = some fn)
  (witness:∃(w:World) (tape:Tape) (i:Input),w.os=os/\(w.forCall tape i).Shaped C.prog/\i.vars=[]/\Input.okWide C.prog (w.forCall tape i) .any w.heap.size f i/\
   ((s.pre enc C.prog fn conds apart (w.forCall tape i).memory i.args/\X (w.forCall tape i).memory i.args)/\sizedMet enc C.prog fn (OpenSpec.ofChange s) apart (w.forCall tape i).memory i.args)/\a.holds C.prog (lone (Frame.enter C.prog f i.args .normal) [] (w.forCall tape i)))
  (contract:∀(W:World)(base:Nat)(args:Array Value)(ds gs:List (DataW H))(before:List MemPlace),
   (∀(j:Nat) t v,fn.params[j]? = some t->args[j]? = some v->Value.okWide C.prog W .any base t v)->
   DataW.Whole enc C.prog fn.params.toList s.vars apart W args.toList ds gs before->
   conds.all (PathCond.test C.prog ⟨fn.params.toList,ds,s.plain.varTypes C.prog,gs⟩)=true->
   (DataW.weightsEach C.prog (fn.params.toList++s.plain.varTypes C.prog) (ds++gs)).all (·<=reachBytes)=true->X W args->W.ShapedOpen C.prog->
   a.holds C.prog (lone (Frame.enter C.prog f args .normal) [] W)->
   Calls C.prog f args W fun e W'=>∃v,e=.returned v/\s.post enc C.prog fn apart fresh handsOn again W args v W') :
  ReturnsInHanded a C os f .any (fun w args=>(s.pre enc C.prog fn conds apart w args/\X w args)/\sizedMet enc C.prog fn (OpenSpec.ofChange s) apart w args) (s.post enc C.prog fn apart fresh handsOn again):=by
 refine returnsInHanded_of_calls own started noInit witness ?_;intro w tape i _ hsh _ hok hpre hholds;obtain⟨_,_,_,fn',hfn',_,_,_,_,hval⟩:=hok;have e:fn'=fn:=Option.some.inj (hfn'.symm.trans hfn);subst e;obtain⟨⟨⟨ds,gs,before,hw,hc⟩,hx⟩,hz⟩:=hpre;have hw':=DataW.Whole.of_heap (w':=w.forCall tape i) mRf hw;refine(contract (w.forCall tape i) w.heap.size i.args ds gs before hval hw' hc (hz.weights hw) (hX _ _ _ mRf hx) hsh hholds).mono fun e W' ⟨v,he,hp⟩=>?_
 subst he;exact ChangeSpec.post_blind hp
theorem E1{n:Int}(h:Lit.wf (.int .u8 n)):0<=n/\n<256:=by simp[Lit.wf,IntKind.min,IntKind.max,IntKind.signed,IntKind.bits] at h;omega
theorem Bf{w:World}{a:Addr}{v:Value}(h:w.cell? a=some v):∃b o,a=⟨b,o,none⟩:=by
 obtain⟨b,o,path⟩:=a
 cases path with
 | none=>exact⟨b,o,rfl⟩
 | some q=>simp[World.cell?] at h;split at h <;> cases h
theorem xV(b o k:Nat):(⟨b,o,none⟩:Addr).add k=⟨b,o+k,none⟩:=by unfold Addr.add;split <;> simp_all
theorem tv(a:Addr):a.add 0=a:=by unfold Addr.add;rw[if_pos rfl]
section
variable {H:Type} {enc:TypeId×Value->H} {w:World} {held:Bool} {fuel:Nat} {c:Value} {y:DataW H×List MemPlace}
end
section
variable {H:Type} {enc:TypeId×Value->H} {P:Program} {w:World} {base:Nat} {spare:Nat->Bool} {held:Bool}
end
structure CaseIn23 (w:World) (v:Value) (A B D:Option Addr) (n m q cA cB cD:Nat) (d0 d1 d2 d3 d4:Int):Prop where
 eq:v=.agg #[.slice A n cA,.slice B m cB,.slice D q cD,.int .i64 d0,.int .i64 d1,.int .i64 d2,.int .i64 d3,.int .i64 d4]
 hA:eU w.heap.size A n w
 hB:eU w.heap.size B m w
 hD:eU w.heap.size D q w
 cap:q<=cD
 nil:D=none->cD=0
