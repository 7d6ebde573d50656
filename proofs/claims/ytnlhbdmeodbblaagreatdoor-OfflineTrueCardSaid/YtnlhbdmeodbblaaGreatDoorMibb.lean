/- Lemmas. -/
import Derived.Test.YtnlhbdmeodbblaaGreatDoorMiav
import Derived.Test.YtnlhbdmeodbblaaGreatDoorMiaz
import Derived.Lib.Itoa
import Derived.Stop.LaidErr
import Derived.SizedLaws
set_option maxRecDepth 100000
set_option maxHeartbeats 16000000
set_option linter.all false
open Go.Proofs.Tryz
open Int renaming toNat_natCast→cm
open Go.Lib renaming cell_of_heap→ae,frozen_of_heap→aE,hid→aa
open List renaming getD_eq_getElem?_getD→bi,getElem?_eq_getElem→ai,length_append→ax,length_cons→bA,length_map→aX,length_singleton→aG,length_take→aM,map_cons→ev,mem_append→bN,mem_cons→cR,mem_map→eF,mem_of_getElem?→bP,mem_of_mem_take→cT,mem_singleton→bJ,not_mem_nil→et,take_add_one→aL,take_length→aT
open Nat renaming le_refl→aD,le_trans→bu,lt_of_lt_of_le→av,zero_le→aR
open Go.RowKit renaming Below→ac,intOf→aw
open Go.World renaming block_lt_of_cell?→am
open Go.Ending renaming returned→JT
open Go.IntKind renaming i64→JP
open Go.Obj renaming cells→JU
open Go.Value renaming int→JO,string→JQ,slice→JR,pointer→JS
open Option renaming some→JV,none→JW
namespace Go.Proofs.YtnlhbdmeodbblaaGreatDoor
section
open Go Go.Proofs Go.RowKit Go.Sort Go.Lib
attribute [local go_sem] LL.cells
open Classical in
noncomputable def pD (l:List Ent) (R:List LL) (root st fi la:Int) (ids:List Int):Int:=
 if root < 0∨(R.length:Int)≤root then 40
 else if (R.getD root.toNat rootZ).size < 0∨(l.length:Int) < (R.getD root.toNat rootZ).size then 40
 else if ¬ ∀ e∈l.take (R.getD root.toNat rootZ).size.toNat,e.school=(R.getD root.toNat rootZ).school then 22
 else if ¬ iQ (l.take (R.getD root.toNat rootZ).size.toNat)=(R.getD root.toNat rootZ).tree then 40
 else if ¬ (dP st fi la∧ef (l.take (R.getD root.toNat rootZ).size.toNat)) then 1
 else if ¬ iD (fj (l.take (R.getD root.toNat rootZ).size.toNat) (bG (l.take (R.getD root.toNat rootZ).size.toNat)) st fi la) ids then 5 else 0
def d5 (l:List Ent) (R:List LL) (root st fi la:Int) (ids:List Int):LY:=kE (l.take (R.getD root.toNat rootZ).size.toNat) (R.getD root.toNat rootZ).school root st fi la ids
def vY (l:List Ent) (R:List LL) (root st fi la:Int) (ids:List Int) (w:World) (e:Ending) (w':World):Prop:=
 (pD l R root st fi la ids=0∧∃ pl cl pp cp,e=JT (.tuple #[.agg ((d5 l R root st fi la ids).cells pl pp cl cp),JO JP 0])∧LQ fg 3 69 w w' (JR pl (d5 l R root st fi la ids).lines.length cl) (d5 l R root st fi la ids).lines∧LQ bL 1 9 w w' (JR pp (d5 l R root st fi la ids).proof.length cp) (d5 l R root st fi la ids).proof)∨
 (pD l R root st fi la ids ≠ 0∧e=JT (.tuple #[.agg #[JO JP 0,JO JP 0,JO JP 0,JO JP 0,JO JP 0,JR JW 0 0,JR JW 0 0],JO JP (pD l R root st fi la ids)])∧ac w.heap.size w w')
theorem jy {fn:Func} {p u:Tmp} (h:fn.results=#[.cell p 39,.tmp u]) (tmps:Array Value) (w:World) (g:Nat) (cs:Array Value) (hp:tmps.getD p undef=JS (JV ⟨g,0,JW⟩)) (hg:w.heap[g]? = JV (JU cs 39 (0,0))) (hs:cs.size=7:=by rfl) :
  (results fn tmps).run prog w=.ok (.tuple #[.agg cs,tmps.getD u undef]) w:=by
 rw [results_cell_tmp h,hp];have:=run_loadVar_row (P:=prog) w g 39 39 cs (0,0) _ hg underlying39 rfl (by rw [hs];kernel_rfl);simp only [asAddr,Sem.run_pure,Result.andThen_ok,this]
def j8 (ids:List Int) (y:LT):LT:=if idL y.key.data.toList∈ids then y else { y with body:=⟨#[]⟩ }
theorem GN {e:Ent} (h:dr e=0):idL (dE e).data.toList=e.id:=by rw [qZ h];obtain ⟨i1,i2⟩:=(mq h).1;have hl:(fJ e).length=22:=rfl;have hd:((fJ e).drop 14).take 6=cV e.id.toNat:=rfl;unfold idL;rw [if_pos hl,hd,rV mOm];omega
theorem wz {ids:List Int}:∀ (E:List Ent),(∀ e∈E,dr e=0)→(E.map eC).map (j8 ids)=E.map (cZ ids)
 | [],_=>rfl
 | e::E,h=>by
  rw [ev,ev,ev,wz E (fun x hx=>h x (List.mem_cons_of_mem _ hx))]
  congr 1
  unfold j8 cZ
  have e1:(eC e).key=dE e:=rfl;rw [e1,GN (h e List.mem_cons_self)]
  split <;> rfl
structure XmI (w:World) (B xb N:Nat) (hd:List Value) (pf:Value) (PV:List ByteArray) (M:List LT) (u:World):Prop where
 low:ac w.heap.size w u
 box:∃ p c,u.heap[xb]? = JV (JU (hd++[JR p M.length c,pf]).toArray 39 (0,0))∧u.ownsRow N 69 3 (JR p M.length c) M.length (br fg M)
 prf:u.ownsRow B 9 1 pf PV.length (br bL PV)
 few:∀ q,pf.ownBlock=JV q→q < xb
 size:N≤u.heap.size
 at_:w.heap.size≤xb∧xb < N
theorem XmI.grow {w u u':World} {B xb N:Nat} {hd:List Value} {pf:Value} {PV:List ByteArray} {M:List LT} (h:XmI w B xb N hd pf PV M u) (hb:ac u.heap.size u u'):XmI w B xb N hd pf PV M u':=by
 obtain ⟨p,c,h1,h2⟩:=h.box;exact ⟨ah h.low hb,⟨p,c,hb.heap_of h1,bE h2 (LM.of (S:=fun _=>False) hb) (fun _ _ e=>e)⟩,bE h.prf (LM.of (S:=fun _=>False) hb) (fun _ _ e=>e),h.few,bu h.size hb.size,h.at_⟩
theorem XmI.put {w u u':World} {B xb N:Nat} {hd:List Value} {pf:Value} {PV:List ByteArray} {M:List LT} (h:XmI w B xb N hd pf PV M u) (hb:ac u.heap.size u u') {b:Nat} (hbb:u.heap.size≤b) (j:Nat) (v:Value):XmI w B xb N hd pf PV M (u'.setCell ⟨b,j,JW⟩ v):=by
 obtain ⟨p,c,h1,h2⟩:=h.box;have hB:LM (fun q=>q=b) u (u'.setCell ⟨b,j,JW⟩ v):=(LM.of hb).trans (LM.set (S:=fun q=>q=b) u' rfl j v);have hx:=aU h1;have hsz:=h.size;refine ⟨(ah h.low hb).trans ((LM.set (S:=fun q=>q=b) u' rfl j v).below (fun q hq e=>by have:=h.low.size;omega) (ah h.low hb).size),⟨p,c,hB.heap h1 mOm,bE h2 hB (fun q hq e=>by have:=(h2.lt q hq).2;omega)⟩,bE h.prf hB (fun q hq e=>by have:=h.few q hq;omega),h.few,bu h.size hB.size,h.at_⟩
theorem XmI.app {w u u':World} {B xb N:Nat} {a0 a1 a2 a3 a4:Value} {pf:Value} {PV:List ByteArray} {M:List LT} {y:LT} {p:Option Addr} {c:Nat} {v9:Value} (h:XmI w B xb N [a0,a1,a2,a3,a4] pf PV M u) (hx:u.heap[xb]? = JV (JU #[a0,a1,a2,a3,a4,JR p M.length c,pf] 39 (0,0))) (ho:u.ownsRow N 69 3 (JR p M.length c) M.length (br fg M)) (hA:AppT fg 3 69 u N (JR p M.length c) M [y] v9 u'):XmI w B xb N [a0,a1,a2,a3,a4] pf PV (M++[y]) (u'.setCell ⟨xb,5,JW⟩ v9):=by
 have hlo:∀ q,(Value.slice p M.length c).ownBlock=JV q→N≤q:=fun q hq=>(ho.lt q hq).1
 have hbA:=LM.grown hA.grown;have hset:=LM.set (S:=fun q=>q=xb) u' rfl 5 v9;have hx':=hbA.heap hx (fun e=>by have:=hlo _ e;have:=h.at_;omega);obtain ⟨p9,c9,rfl⟩:=eI hA.own;refine ⟨?_,⟨p9,c9,?_,?_⟩,?_,h.few,?_,h.at_⟩
 ·have h1:=h.low.grown hA.grown h.low.size (fun q e=>by have:=hlo _ e;have:=h.at_;omega);exact h1.trans (hset.below (fun q hq e=>by have:=h.at_;omega) h1.size)
 ·have:=bp hx' 5 (JR p9 (M++[y]).length c9);rw [this];rfl
 ·exact bE hA.own hset (fun q hq e=>by have:=(hA.own.lt q hq).1;have:=h.at_;omega)
 ·exact bE (bE h.prf hbA (fun q hq e=>by have:=hlo _ e;have:=h.few q hq;have:=h.at_;omega)) hset (fun q hq e=>by have:=h.few q hq;omega)
 ·have:=hbA.size;have:=hset.size;have:=h.size;omega
theorem oC {p:Prop} (h:p:=by
 clear HV2;go_wp2_with ((with_reducible refine wpList_store_row (o:=⟨JW,.store 39 (.tmp 14) (.tmp 50),_,_,_,_⟩) ?_ 39 (.tmp 14) (.tmp 50) ?_ w.heap.size #[JO JP 0,JO JP 0,JO JP 0,JO JP 0,JO JP 0,JR JW 0 0,JR JW 0 0] ?_ ?_ 39 #[JO JP 0,JO JP 0,JO JP 0,JO JP 0,JO JP 0,JR JW 0 0,JR JW 0 0] ?_ ?_ ?_ ?_ ?_);rfl;rfl;rfl;rfl;exact e14;kernel_rfl;rfl;simp [Value.oneCell'])
 (try simp only [Exit.inBlock,Exit.then]);refine bodyPost_ret (jy results29 _ _ w.heap.size #[JO JP 0,JO JP 0,JO JP 0,JO JP 0,JO JP 0,JR JW 0 0,JR JW 0 0] rfl (setRow_heap _ _ _ _ _ _ e14)) rfl ?_
 exact .inr ⟨by rw [HN.out];decide,by rw [HN.out];rfl,aQ hb0 (aD _) _⟩):p:=h
theorem pa {p:Prop} (h:p:=by
 clear HV;go_wp2_with ((with_reducible refine wpList_store_row (o:=⟨JW,.store 39 (.tmp 14) (.tmp 50),_,_,_,_⟩) ?_ 39 (.tmp 14) (.tmp 50) ?_ w.heap.size #[JO JP 0,JO JP 0,JO JP 0,JO JP 0,JO JP 0,JR JW 0 0,JR JW 0 0] ?_ ?_ 39 #[JO JP 0,JO JP 0,JO JP 0,JO JP 0,JO JP 0,JR JW 0 0,JR JW 0 0] ?_ ?_ ?_ ?_ ?_);rfl;rfl;rfl;rfl;exact e14;kernel_rfl;rfl;simp [Value.oneCell'])
 (try simp only [Exit.inBlock,Exit.then]);refine bodyPost_ret (jy results29 _ _ w.heap.size #[JO JP 0,JO JP 0,JO JP 0,JO JP 0,JO JP 0,JR JW 0 0,JR JW 0 0] rfl (setRow_heap _ _ _ _ _ _ e14)) rfl ?_
 exact .inr ⟨by rw [HN.out];decide,by rw [HN.out];rfl,aQ hb0 (aD _) _⟩):p:=h
theorem oD {p:Prop} (h:p:=by
 (try simp only [Exit.inBlock,Exit.then]);refine bodyPost_ret (jy results29 _ _ w.heap.size #[JO JP 0,JO JP 0,JO JP 0,JO JP 0,JO JP 0,JR JW 0 0,JR JW 0 0] rfl (setRow_heap _ _ _ _ _ _ e14)) rfl ?_
 exact .inr ⟨by rw [HN.out];decide,by rw [HN.out];rfl,aQ hbF (aD _) _⟩):p:=h
theorem oQ {p:Prop} (h:p:=by
 go_roundw
 case rel=>exact ⟨j+1,mOm,by go_num,by rw [HTK.out,HHI.out];exact XA.out.app HBA.is HOA.out HA9.out⟩
 case measure=>simp [aw];omega):p:=h
open Classical in
theorem wV (l:List Ent) (hok:∀ e∈l,e.Ok) (p:Option Addr) (c:Nat) (R:List LL) (pr:Option Addr) (cr:Nat) (root st fi la:Int) (ids:List Int) (pi:Option Addr) (ci:Nat) (w:World) (h:LK bK w (JR p l.length c) l) (hl:l.length≤400) (hr:LK cH w (JR pr R.length cr) R) (hR:R.length≤100000) (hi:LK jD w (JR pi ids.length ci) ids) (hn:ids.length≤100000) :
  Calls prog 29 #[JR p l.length c,JR pr R.length cr,JO JP root,JO JP st,JO JP fi,JO JP la,JR pi ids.length ci] w (vY l R root st fi la ids w):=by
 have hcap:l.length≤c:=by obtain ⟨p',c',e',h1,_⟩:=h;injection e' with _ _ e3;omega
 have hpn:p=JW→c=0:=by obtain ⟨p',c',e',_,h1,_⟩:=h;injection e' with e1 _ e3;rw [e1,e3];exact h1
 have HL:=aa h;have HR:=aa hr;have HI:=aa hi;have HOK:=aa hok
 have HV:=aa (show pD l R root st fi la ids=if root < 0∨(R.length:Int)≤root then 40
 else if (R.getD root.toNat rootZ).size < 0∨(l.length:Int) < (R.getD root.toNat rootZ).size then 40
 else if ¬ ∀ e∈l.take (R.getD root.toNat rootZ).size.toNat,e.school=(R.getD root.toNat rootZ).school then 22
 else if ¬ iQ (l.take (R.getD root.toNat rootZ).size.toNat)=(R.getD root.toNat rootZ).tree then 40
 else if ¬ (dP st fi la∧ef (l.take (R.getD root.toNat rootZ).size.toNat)) then 1
 else if ¬ iD (fj (l.take (R.getD root.toNat rootZ).size.toNat) (bG (l.take (R.getD root.toNat rootZ).size.toNat)) st fi la) ids then 5 else 0 from rfl)
 have HXX:=aa (show d5 l R root st fi la ids=kE (l.take (R.getD root.toNat rootZ).size.toNat) (R.getD root.toNat rootZ).school root st fi la ids from rfl)
 unfold vY;generalize hV9:pD l R root st fi la ids=V at *;generalize hX9:d5 l R root st fi la ids=X at *;clear hV9 hX9;have hb0:=al w (JU #[JO JP 0,JO JP 0,JO JP 0,JO JP 0,JO JP 0,JR JW 0 0,JR JW 0 0] 39);have e14:=heap_alloc_new w (JU #[JO JP 0,JO JP 0,JO JP 0,JO JP 0,JO JP 0,JR JW 0 0,JR JW 0 0] 39);clear h hr hi hok;go_enter func29,ntmps29;by_cases h1:root < 0
 ·have HN:Hid (V=40):=aa (by rw [HV.out,if_pos (.inl h1)]);exact pa
 by_cases h2:(R.length:Int)≤root
 ·have HN:Hid (V=40):=aa (by rw [HV.out,if_pos (.inr h2)]);exact pa
 have HV2:=aa (HV.out.trans (if_neg (fun h=>by omega)))
 clear HV;obtain ⟨k,rfl⟩:∃ k:Nat,root=k:=⟨root.toNat,mOm⟩;have hkR:k < R.length:=mOm;have hge:=ai hkR;have hgd:R.getD ((k:Int).toNat) rootZ=R[k]:=by rw [cm,bi,hge];rfl
 rw [hgd] at HV2 HXX;obtain ⟨g1,o1,hpr,hbl1,hcv1⟩:=dc (kk:=7) HR.out df rfl mOm;have hra:=hcv1 k _ hge;generalize R[k]=y at *;have HRX:Hid (∀ u,ac w.heap.size w u→u.rangeAt g1 (o1+k*7) (cH y)):=aa (fun u hu j v hv=>(hu.cell (p:=⟨g1,o1+k*7+j,JW⟩) hbl1).trans (hra j v hv));have x1:(w.alloc (JU #[JO JP 0,JO JP 0,JO JP 0,JO JP 0,JO JP 0,JR JW 0 0,JR JW 0 0] 39)).cell? ⟨g1,o1+k*7+1,JW⟩=JV (JO JP y.size):=HRX.out _ hb0 1 _ rfl;have i1:¬ (k:Int) < 0:=mOm;have i2:(k:Int) < (R.length:Int):=mOm;have i3:(0:Int)≤(k:Int):=mOm;subst hpr;clear hcv1 hra hge hgd h1 h2;by_cases h3:y.size < 0
 ·have HN:Hid (V=40):=aa (by rw [HV2.out,if_pos (.inl h3)]);exact oC
 by_cases h4:(l.length:Int) < y.size
 ·have HN:Hid (V=40):=aa (by rw [HV2.out,if_pos (.inr h4)]);exact oC
 have HV3:=aa (HV2.out.trans (if_neg (fun h=>by omega)))
 clear HV2;obtain ⟨m,hm⟩:∃ m:Nat,y.size=m:=⟨y.size.toNat,mOm⟩;have hml:m≤l.length:=mOm;have hmt:y.size.toNat=m:=mOm;rw [hmt] at HV3 HXX;rw [hm] at x1;have i4:¬ (m:Int) < 0:=mOm;have i5:¬ (l.length:Int) < (m:Int):=mOm;have htl:(l.take m).length=m:=by rw [aM];omega
 have hok2:∀ e∈l.take m,e.Ok:=fun e he=>HOK.out e (cT he)
 have hrl:∀ u,ac w.heap.size w u→LK bK u (JR p m c) (l.take m):=fun u hu=>(HL.out.below hu).take rfl hml
 have kt:=fun u (hu:ac w.heap.size w u)=>rM (l.take m) hok2 p c u (by rw [htl];exact hrl u hu) mOm
 have ks:=fun u (hu:ac w.heap.size w u)=>CC (l.take m) hok2 p c st fi la u (by rw [htl];exact hrl u hu) mOm
 rw [htl] at kt ks;unfold sR at ks;have hsl:∀ u,(Instr.sliceAt 34 (JR p l.length c) JW (JV (JO JP (m:Int))) JW).run prog u=.ok (JR p m c) u:=fun u=>nu 34 67 underlying34 sizeOf67 p l.length c m hml hcap hpn u
 have HX2:=aa (show kE (l.take m) y.school (k:Int) st fi la ids=⟨y.school,st,fi,la,(k:Int),(eU (l.take m) (bG (l.take m)) st fi la).map (cZ ids),gY (l.take m) st fi la⟩ from rfl)
 have HHE:Hid (ef (l.take m)→(fj (l.take m) (bG (l.take m)) st fi la).map (j8 ids)=(eU (l.take m) (bG (l.take m)) st fi la).map (cZ ids)):=aa (fun hk=>by
  rw [qv,wz _ (fun e he=>hk.1 e (iA he).1)])
 have HSL:Hid ((fj (l.take m) (bG (l.take m)) st fi la).length≤5000∨¬ (dP st fi la∧ef (l.take m))):=aa (by
  by_cases hk:dP st fi la∧ef (l.take m)
  ·left;rw [qv,aX];have:=sU hk.2 hk.1;omega
  ·exact .inr hk)
 have HLT:=aa htl
 have HRL:=aa hrl;have KT:=aa kt;have KS:=aa ks;clear h3 h4 hm hmt hok2 hrl kt ks hpn htl;generalize l.take m=O at *;generalize fj O (bG O) st fi la=LS at *;generalize gY O st fi la=PV at *;generalize iQ O=TB at *;go_wp2_with fail;clear hsl x1 i4 i5;have E14:=LP.mk e14;obtain ⟨w0,hw0⟩:∃ u,u=w.alloc (JU #[JO JP 0,JO JP 0,JO JP 0,JO JP 0,JO JP 0,JR JW 0 0,JR JW 0 0] 39):=⟨_,rfl⟩;rw [← hw0] at hb0 E14 ⊢;clear hw0 e14
 go_loopw [17] (fun i wr=>∃ j:Nat,j≤m∧i=JO JP j∧Hid (∀ e∈O.take j,e.school=y.school)∧ac w0.heap.size w0 wr) (fun i _=>m - (aw i).toNat)
 case atStart=>exact ⟨0,aR _,rfl,aa (fun e he=>by cases he),Below.refl _ _⟩
 case round =>
  obtain ⟨j,hj,rfl,HJ,hb⟩:=hrel;have hbw:=ah hb0 hb;have e14:=hb.heap_of E14.is;by_cases hlt:j < m
  ·have hrO:=HRL.out w (Below.refl _ _);rw [← HLT.out] at hrO;obtain ⟨eg,eo,hpe,heg,hrow⟩:=dc (kk:=15) hrO dH rfl (by rw [HLT.out];omega);have hge:=ai (show j < O.length by rw [HLT.out];exact hlt);have hre:=hrow j _ hge;have HT:Hid (O.take (j+1)=O.take j++[O[j]'(by rw [HLT.out];exact hlt)]):=aa (by rw [aL,hge];rfl);have HM:=aa (bP hge);generalize O[j]'(by rw [HLT.out];exact hlt)=x at *;have j1:(j:Int) < (m:Int):=mOm;have j2:(0:Int)≤(j:Int):=mOm;have q1:wr.cell? ⟨eg,eo+j*15+1,JW⟩=JV (JO JP x.school):=(hbw.cell (p:=⟨eg,eo+j*15+1,JW⟩) heg).trans (hre 1 _ rfl);have q0:wr.cell? ⟨g1,o1+k*7,JW⟩=JV (JO JP y.school):=HRX.out _ hbw 0 _ rfl;have hS0:ac wr.heap.size wr wr.drew∧wr.drew.cell? ⟨eg,eo+j*15+1,JW⟩=JV (JO JP x.school)∧wr.drew.cell? ⟨g1,o1+k*7,JW⟩=JV (JO JP y.school)∧wr.drew.cell? ⟨g1,o1+k*7,JW⟩=JV (JO JP y.school):=⟨(Below.refl _ _).drew,q1,q0,q0⟩;have hnm:¬ (m:Int)≤(j:Int):=mOm;subst hpe;clear hre hrow hge hrO q1 q0;go_wp2_with fail;refine Jy (S:=fun u=>ac wr.heap.size wr u∧u.cell? ⟨eg,eo+j*15+1,JW⟩=JV (JO JP x.school)∧u.cell? ⟨g1,o1+k*7,JW⟩=JV (JO JP y.school)∧u.cell? ⟨g1,o1+k*7,JW⟩=JV (JO JP y.school)) [(0,true),(1,true),(2,true),(3,true),(4,true),(5,true),(6,true),(7,true),(8,true),(9,true),(10,true)] hS0 ?_;have hS:=hS0
   iterate 11 refine aj ?_
   simp only [aO,bj];have hbd:=ah hb hS.1;have hbb:=ah hbw hS.1;have e14:=hS.1.heap_of e14;clear hS hS0;by_cases hsc:x.school=y.school
   rotate_left 1
   ·have t1:(x.school != y.school)=true:=by rw [bne_iff_ne];exact hsc
    have HN:Hid (V=22):=aa (by rw [HV3.out,if_pos (fun h=>hsc (h x HM.out))]);clear hsc;go_wp2_with ((with_reducible refine wpList_store_row (o:=⟨JW,.store 39 (.tmp 14) (.tmp 75),_,_,_,_⟩) ?_ 39 (.tmp 14) (.tmp 75) ?_ w.heap.size #[JO JP 0,JO JP 0,JO JP 0,JO JP 0,JO JP 0,JR JW 0 0,JR JW 0 0] ?_ ?_ 39 #[JO JP 0,JO JP 0,JO JP 0,JO JP 0,JO JP 0,JR JW 0 0,JR JW 0 0] ?_ ?_ ?_ ?_ ?_);rfl;rfl;rfl;rfl;exact e14;kernel_rfl;rfl;simp [Value.oneCell'])
    (try simp only [Exit.inBlock,Exit.then]);refine bodyPost_ret (jy results29 _ _ w.heap.size #[JO JP 0,JO JP 0,JO JP 0,JO JP 0,JO JP 0,JR JW 0 0,JR JW 0 0] rfl (setRow_heap _ _ _ _ _ _ e14)) rfl ?_
    exact .inr ⟨by rw [HN.out];decide,by rw [HN.out];rfl,aQ hbb (aD _) _⟩
   have t1:(x.school != y.school)=false:=by rw [bne_eq_false_iff_eq];exact hsc
   have HN:Hid (∀ e∈O.take (j+1),e.school=y.school):=aa (fun e he=>by
    rw [HT.out] at he;rcases bN.1 he with he | he
    ·exact HJ.out e he
    ·obtain rfl:=bJ.1 he;exact hsc)
   clear hsc e14
   go_wp2_with fail
   go_roundw
   case rel=>exact ⟨j+1,mOm,by go_num,HN,hbd⟩
   case measure=>simp [aw];omega
  ·obtain rfl:j=m:=mOm;have k1:¬ (j:Int) < (j:Int):=mOm;have HV4:=aa (HV3.out.trans (if_neg (fun h=>h (by have:=HJ.out;rwa [← HLT.out,aT] at this))));clear HV3 HJ E14;have q3:wr.cell? ⟨g1,o1+k*7+3,JW⟩=JV (JQ y.tree):=HRX.out _ hbw 3 _ rfl;have keepS:∀ {u v:World},(ac wr.heap.size wr u∧u.cell? ⟨g1,o1+k*7+3,JW⟩=JV (JQ y.tree))→ac u.heap.size u v→(ac wr.heap.size wr v∧v.cell? ⟨g1,o1+k*7+3,JW⟩=JV (JQ y.tree)):=fun h hb=>⟨ah h.1 hb,(hb.cell (am _ _ h.2)).trans h.2⟩
   have hS0:ac wr.heap.size wr wr.drew∧wr.drew.cell? ⟨g1,o1+k*7+3,JW⟩=JV (JQ y.tree):=⟨(Below.refl _ _).drew,q3⟩;have HBW:=aa hbw;obtain ⟨bt,hbt⟩:∃ b,b=(TB.toList==y.tree.toList):=⟨_,rfl⟩;have hbe:(TB.toList==y.tree.toList)=bt:=hbt.symm;have hbe2:(TB.toList != y.tree.toList) = !bt:=by rw [bne,hbe]
   have HBT:Hid (bt=true↔TB=y.tree):=aa (by rw [hbt,beq_iff_eq,ba_toList]);have E14:=LP.mk e14;clear hbt q3 hbw e14;go_wp2_with fail;refine Jy (S:=fun u=>ac wr.heap.size wr u∧u.cell? ⟨g1,o1+k*7+3,JW⟩=JV (JQ y.tree)) [(0,true),(2,true),(3,true),(4,true),(5,true),(6,true),(1,false),(7,true)] hS0 ?_;have hS:=hS0
   iterate 6 refine aj ?_
   refine aH 74 call74 (KT.out _ (ah HBW.out hS.1)) ?_;rintro x wn ⟨rfl,hb⟩;replace hS:=keepS hS hb;refine ⟨_,rfl,hS,?_⟩;(try clear hb);refine ar ?_;refine aj ?_;simp only [aO,bj];have hb9:=ah HBW.out hS.1;have e14:=hS.1.heap_of E14.is;clear hS hS0 keepS E14 KT hb
   cases bt
   ·have HN:Hid (V=40):=aa (by rw [HV4.out,if_pos (fun h=>by have:=HBT.out.2 h;cases this)]);go_wp2_with ((with_reducible refine wpList_store_row (o:=⟨JW,.store 39 (.tmp 14) (.tmp 84),_,_,_,_⟩) ?_ 39 (.tmp 14) (.tmp 84) ?_ w.heap.size #[JO JP 0,JO JP 0,JO JP 0,JO JP 0,JO JP 0,JR JW 0 0,JR JW 0 0] ?_ ?_ 39 #[JO JP 0,JO JP 0,JO JP 0,JO JP 0,JO JP 0,JR JW 0 0,JR JW 0 0] ?_ ?_ ?_ ?_ ?_);rfl;rfl;rfl;rfl;exact e14;kernel_rfl;rfl;simp [Value.oneCell'])
    (try simp only [Exit.inBlock,Exit.then]);refine bodyPost_ret (jy results29 _ _ w.heap.size #[JO JP 0,JO JP 0,JO JP 0,JO JP 0,JO JP 0,JR JW 0 0,JR JW 0 0] rfl (setRow_heap _ _ _ _ _ _ e14)) rfl ?_
    exact .inr ⟨by rw [HN.out];decide,by rw [HN.out];rfl,aQ hb9 (aD _) _⟩
   have HV5:=aa (HV4.out.trans (if_neg (fun h=>h (HBT.out.1 rfl))))
   clear HV4 HBT hbe hbe2;have E14:=LP.mk e14;clear e14;go_wp2_with fail;refine (KS.out _ hb9).mono ?_;clear KS;rintro _ w11 (⟨hno,rfl,hb11⟩ | ⟨hyes,v1,v2,rfl,hO1,hO2⟩)
   ·have HN:Hid (V=1):=aa (by rw [HV5.out,if_pos hno]);have hbF:=ah hb9 hb11;have e14:=hb11.heap_of E14.is;clear E14 hno;go_wp2_with ((with_reducible refine wpList_store_row (o:=⟨JW,.store 39 (.tmp 14) (.tmp 96),_,_,_,_⟩) ?_ 39 (.tmp 14) (.tmp 96) ?_ w.heap.size #[JO JP 0,JO JP 0,JO JP 0,JO JP 0,JO JP 0,JR JW 0 0,JR JW 0 0] ?_ ?_ 39 #[JO JP 0,JO JP 0,JO JP 0,JO JP 0,JO JP 0,JR JW 0 0,JR JW 0 0] ?_ ?_ ?_ ?_ ?_);rfl;rfl;rfl;rfl;exact e14;kernel_rfl;rfl;simp [Value.oneCell']);exact oD
   have HV6:=aa (HV5.out.trans (if_neg (fun h=>h hyes)))
   have HHE2:=aa (HHE.out hyes.2);have hLS:LS.length≤5000:=by rcases HSL.out with h | h;exact h;exact absurd hyes h
   have E14z:=E14;have e14:=hO1.low.heap_of E14.is;have E14:=LP.mk e14;obtain ⟨p1,c1,hv1⟩:=hO1.form;obtain ⟨p2,c2,hv2⟩:=hO2.form;subst hv1;subst hv2;have hb11:=ah hb9 hO1.low;have HO1:=aa (hO1.from_ hb9);have hl14:=aU E14z.is;have HPF:Hid (w11.ownsRow (w.heap.size+1) 9 1 (JR p2 PV.length c2) PV.length (br bL PV)):=aa (iO hO2.own (Nat.succ_le_of_lt hl14));have hrl:=(hO1.row (fun _=>rfl) mDe);have kn:=zJ LS ids p1 pi c1 ci w11 hrl (HI.out.below hb11) hLS hn;clear HV5 hO1 hO2 hyes e14 hrl;go_wp2_with fail;refine kn.mono ?_;clear kn;rintro _ w12 ⟨t,rfl,ht,hb12⟩;have hbF:=ah hb11 hb12;have e14:=hb12.heap_of E14.is;clear E14
   cases t
   ·have HN:Hid (V=5):=aa (by rw [HV6.out,if_pos (fun h=>by have:=ht.2 h;cases this)]);clear ht;go_wp2_with ((with_reducible refine wpList_store_row (o:=⟨JW,.store 39 (.tmp 14) (.tmp 101),_,_,_,_⟩) ?_ 39 (.tmp 14) (.tmp 101) ?_ w.heap.size #[JO JP 0,JO JP 0,JO JP 0,JO JP 0,JO JP 0,JR JW 0 0,JR JW 0 0] ?_ ?_ 39 #[JO JP 0,JO JP 0,JO JP 0,JO JP 0,JO JP 0,JR JW 0 0,JR JW 0 0] ?_ ?_ ?_ ?_ ?_);rfl;rfl;rfl;rfl;exact e14;kernel_rfl;rfl;simp [Value.oneCell']);exact oD
   have HV7:Hid (V=0):=aa (HV6.out.trans (if_neg (fun h=>h (ht.1 rfl))))
   clear HV6 ht;have r0:w12.cell? ⟨g1,o1+k*7,JW⟩=JV (JO JP y.school):=HRX.out _ hbF 0 _ rfl;have HO1:=aa (HO1.out.next hb12);have hbx:=al w12 (JU #[JO JP y.school,JO JP st,JO JP fi,JO JP la,JO JP (k:Int),JR JW 0 0,JR p2 PV.length c2] 39);have hhx:=heap_alloc_new w12 (JU #[JO JP y.school,JO JP st,JO JP fi,JO JP la,JO JP (k:Int),JR JW 0 0,JR p2 PV.length c2] 39);obtain ⟨WX,hWX⟩:∃ u,u=w12.alloc (JU #[JO JP y.school,JO JP st,JO JP fi,JO JP la,JO JP (k:Int),JR JW 0 0,JR p2 PV.length c2] 39):=⟨_,rfl⟩;have hzs:WX.heap.size=w12.heap.size+1:=by rw [hWX,size_alloc]
   rw [← hWX] at hbx hhx;have hne:w.heap.size < w12.heap.size:=ay e14;have hX0:XmI w12 (w.heap.size+1) w12.heap.size (w12.heap.size+1) [JO JP y.school,JO JP st,JO JP fi,JO JP la,JO JP (k:Int)] (JR p2 PV.length c2) PV [] WX:=⟨hbx,⟨JW,0,hhx,World.ownsRow_nil _ _ _ _⟩,bE (bE HPF.out (LM.of (S:=fun _=>False) hb12) (fun _ _ e=>e)) (LM.of (S:=fun _=>False) hbx) (fun _ _ e=>e),fun q hq=>av (HPF.out.lt q hq).2 hb12.size,mOm,mOm,mOm⟩;have HR1:=aa (HO1.out.row (fun _=>rfl) mDe)
   go_upto_region 17 with fail
   rw [← hWX];clear hWX hbx hhx r0 hb12 hb11 hb9;have HX0:=aa hX0;have E14:=LP.mk e14;have HBF:=aa hbF;clear e14 hX0 hbF;go_wp2_with fail
   go_loopw [22] (fun i wr=>∃ j:Nat,j≤LS.length∧i=JO JP j∧XmI w12 (w.heap.size+1) w12.heap.size (w12.heap.size+1) [JO JP y.school,JO JP st,JO JP fi,JO JP la,JO JP (k:Int)] (JR p2 PV.length c2) PV ((LS.take j).map (j8 ids)) wr) (fun i _=>LS.length - (aw i).toNat)
   case atStart=>exact ⟨0,aR _,rfl,HX0.out⟩
   case round =>
    obtain ⟨j,hj,rfl,hX⟩:=hrel;by_cases hlt:j < LS.length
    ·obtain ⟨lg,lo,hp1,hlg,hrr⟩:=dc (kk:=3) HR1.out (fun _=>rfl) rfl mOm;have hge:=ai hlt;have hrx:=hrr j _ hge;have HTK:Hid ((LS.take (j+1)).map (j8 ids)=(LS.take j).map (j8 ids)++[j8 ids LS[j]]):=aa (by rw [aL,hge,Option.toList_some,List.map_append];rfl);have hML:((LS.take j).map (j8 ids)).length≤5000:=by rw [aX,aM];omega
     generalize LS[j]=z at *;generalize (LS.take j).map (j8 ids)=M at *;have hrx':=fun i v hv=>(hX.low.cell (p:=⟨lg,lo+j*3+i,JW⟩) hlg).trans (hrx i v hv)
     have j1:(j:Int) < (LS.length:Int):=mOm;have j2:(0:Int)≤(j:Int):=mOm;have kid:=fun u=>yq z u
     obtain ⟨zk,zh,zb⟩:=z;have y0:wr.cell? ⟨lg,lo+j*3,JW⟩=JV (JQ zk):=hrx' 0 _ rfl;have y1:wr.cell? ⟨lg,lo+j*3+1,JW⟩=JV (JQ zh):=hrx' 1 _ rfl;have y2:wr.cell? ⟨lg,lo+j*3+2,JW⟩=JV (JQ zb):=hrx' 2 _ rfl;have hba5:=al wr (JU #[JQ zk,JQ zh,JQ zb] 69);have hw5:=heap_alloc_new wr (JU #[JQ zk,JQ zh,JQ zb] 69);obtain ⟨w5,hE5⟩:∃ u,u=wr.alloc (JU #[JQ zk,JQ zh,JQ zb] 69):=⟨_,rfl⟩;rw [← hE5] at hba5 hw5;have z0:w5.cell? ⟨wr.heap.size,0,JW⟩=JV (JQ zk):=ae hw5 0;have z1:w5.cell? ⟨wr.heap.size,1,JW⟩=JV (JQ zh):=ae hw5 1;have z2:w5.cell? ⟨wr.heap.size,2,JW⟩=JV (JQ zb):=ae hw5 2;have HHI0:=aa (show j8 ids ⟨zk,zh,zb⟩=if idL zk.data.toList∈ids then ⟨zk,zh,zb⟩ else ⟨zk,zh,⟨#[]⟩⟩ from rfl);have HW5:=LP.mk hw5;have HXR:=aa hX;have HB5:=aa hba5;have khas:=fun u (hu:ac w.heap.size w u)=>wv ids (idL zk.data.toList) pi ci u (HI.out.below hu) mOm
     have hlw:=ah (ah HBF.out hX.low) hba5;generalize idL zk.data.toList=NN at *;subst hp1;clear hrr hge hrx hrx' hX hw5 hba5
     go_upto_region 21 with fail
     rw [← hE5];clear hE5 y0 y1 y2;go_wp2_with fail;refine (kid _).mono ?_;clear kid z0 z1 z2;rintro _ w6 ⟨rfl,hb6⟩;go_wp2_with fail;refine (khas _ (ah hlw hb6)).mono ?_;clear khas;rintro _ w7 ⟨rfl,hb7⟩;have hb57:=ah hb6 hb7;have hbr7:=ah HB5.out hb57;have hw7:=hb57.heap_of HW5.is;clear hb6 hb7 hb57 hlw HW5;by_cases hin:NN∈ids
     ·have t1:decide (NN∈ids)=true:=decide_eq_true hin;have HHI:Hid (j8 ids ⟨zk,zh,zb⟩=⟨zk,zh,zb⟩):=aa (by rw [HHI0.out,if_pos hin]);have hX8:=HXR.out.grow hbr7;have z0:w7.cell? ⟨wr.heap.size,0,JW⟩=JV (JQ zk):=ae hw7 0;have z1:w7.cell? ⟨wr.heap.size,1,JW⟩=JV (JQ zh):=ae hw7 1;have z2:w7.cell? ⟨wr.heap.size,2,JW⟩=JV (JQ zb):=ae hw7 2;clear hin HXR hw7 hbr7 HB5 HHI0;obtain ⟨p9,c9,hb9x,ho9⟩:=hX8.box;have c5:w7.cell? ⟨w12.heap.size,5,JW⟩=JV (JR p9 M.length c9):=ae hb9x 5;have hba:=al w7 (JU #[JQ zk,JQ zh,JQ zb] 69);have hlit:LK fg (w7.alloc (JU #[JQ zk,JQ zh,JQ zb] 69)) (JR (JV ⟨w7.heap.size,0,JW⟩) 1 1) [(⟨zk,zh,zb⟩:LT)]:=cF (heap_alloc_new w7 _) _ rfl rfl;have hown:=bE ho9 (LM.of (S:=fun _=>False) hba) (fun _ _ e=>e);have hbA:=hba.heap_of hb9x;have XA:=aa (hX8.grow hba);have HBA:=LP.mk hbA;have HOA:=aa hown;have hsz:=bu hX8.size hba.size;clear hX8 hb9x ho9 hba hbA;go_wp2_with (at_builtin;refine bB lnT rfl (.tmp 130) (.tmp 132) rfl (w12.heap.size+1) _ _ M [(⟨zk,zh,zb⟩:LT)] rfl rfl hown hlit (by simp only [aG];omega) hsz ?_;intro v9 w10 hA9;obtain ⟨g9,c10,hv9⟩:=iP hA9.own;subst hv9;rw [ax,aG] at hA9;have HA9:=aa hA9;have k9:=(LM.grown hA9.grown).heap HBA.is (fun e2=>by have:=(HOA.out.lt _ e2).1;omega);have c19:=ae k9 5;have f19:=aE k9 5;clear hA9 hown hlit hsz k9);exact oQ
     ·have t1:decide (NN∈ids)=false:=decide_eq_false hin;have HHI:Hid (j8 ids ⟨zk,zh,zb⟩=⟨zk,zh,⟨#[]⟩⟩):=aa (by rw [HHI0.out,if_neg hin]);have hX8:=HXR.out.put hbr7 (aD _) 2 (JQ ⟨#[]⟩);have z2:w7.cell? ⟨wr.heap.size,2,JW⟩=JV (JQ zb):=ae hw7 2;have f2:=aE hw7 2;have hw8:=bp hw7 2 (JQ ⟨#[]⟩);obtain ⟨w8,hE8⟩:∃ u,u=w7.setCell ⟨wr.heap.size,2,JW⟩ (JQ ⟨#[]⟩):=⟨_,rfl⟩;rw [← hE8] at hX8 hw8;have HX8:=aa hX8;have HW8:=LP.mk hw8;clear hin HXR hw7 hbr7 HB5 HHI0 hX8 hw8
      go_upto_region 23 with fail
      rw [← hE8];clear hE8 z2 f2;have hX8:=HX8.out;have hw8:=HW8.is;have z0:w8.cell? ⟨wr.heap.size,0,JW⟩=JV (JQ zk):=ae hw8 0;have z1:w8.cell? ⟨wr.heap.size,1,JW⟩=JV (JQ zh):=ae hw8 1;have z2:w8.cell? ⟨wr.heap.size,2,JW⟩=JV (JQ ⟨#[]⟩):=ae hw8 2;clear HX8 HW8 hw8;obtain ⟨p9,c9,hb9x,ho9⟩:=hX8.box;have c5:w8.cell? ⟨w12.heap.size,5,JW⟩=JV (JR p9 M.length c9):=ae hb9x 5;have hba:=al w8 (JU #[JQ zk,JQ zh,JQ ⟨#[]⟩] 69);have hlit:LK fg (w8.alloc (JU #[JQ zk,JQ zh,JQ ⟨#[]⟩] 69)) (JR (JV ⟨w8.heap.size,0,JW⟩) 1 1) [(⟨zk,zh,⟨#[]⟩⟩:LT)]:=cF (heap_alloc_new w8 _) _ rfl rfl;have hown:=bE ho9 (LM.of (S:=fun _=>False) hba) (fun _ _ e=>e);have hbA:=hba.heap_of hb9x;have XA:=aa (hX8.grow hba);have HBA:=LP.mk hbA;have HOA:=aa hown;have hsz:=bu hX8.size hba.size;clear hX8 hb9x ho9 hba hbA;go_wp2_with (at_builtin;refine bB lnT rfl (.tmp 130) (.tmp 132) rfl (w12.heap.size+1) _ _ M [(⟨zk,zh,⟨#[]⟩⟩:LT)] rfl rfl hown hlit (by simp only [aG];omega) hsz ?_;intro v9 w10 hA9;obtain ⟨g9,c10,hv9⟩:=iP hA9.own;subst hv9;rw [ax,aG] at hA9;have HA9:=aa hA9;have k9:=(LM.grown hA9.grown).heap HBA.is (fun e2=>by have:=(HOA.out.lt _ e2).1;omega);have c19:=ae k9 5;have f19:=aE k9 5;clear hA9 hown hlit hsz k9);exact oQ
    ·obtain rfl:j=LS.length:=mOm;have k1:¬ (LS.length:Int) < (LS.length:Int):=mOm;rw [aT] at hX;have hlen9:(LS.map (j8 ids)).length=X.lines.length:=by rw [HXX.out,HX2.out,HHE2.out]
     rw [HHE2.out] at hX hlen9;obtain ⟨p9,c9,hbx,ho9⟩:=hX.box;have e14:=hX.low.heap_of E14.is;have HX:=aa hX;have HO9:=aa ho9;have HXE:Hid (X=⟨y.school,st,fi,la,(k:Int),(eU O (bG O) st fi la).map (cZ ids),PV⟩):=aa (by rw [HXX.out,HX2.out]);generalize (eU O (bG O) st fi la).map (cZ ids)=EL at *;have hcs:=hbx;have c0:wr.cell? ⟨w12.heap.size,0,JW⟩=JV (JO JP y.school):=ae hcs 0;have c1:wr.cell? ⟨w12.heap.size,1,JW⟩=JV (JO JP st):=ae hcs 1;have c2':wr.cell? ⟨w12.heap.size,2,JW⟩=JV (JO JP fi):=ae hcs 2;have c3:wr.cell? ⟨w12.heap.size,3,JW⟩=JV (JO JP la):=ae hcs 3;have c4:wr.cell? ⟨w12.heap.size,4,JW⟩=JV (JO JP (k:Int)):=ae hcs 4;have c5:wr.cell? ⟨w12.heap.size,5,JW⟩=JV (JR p9 EL.length c9):=ae hcs 5;have c6:wr.cell? ⟨w12.heap.size,6,JW⟩=JV (JR p2 PV.length c2):=ae hcs 6;have hne14:w.heap.size < w12.heap.size:=aU E14.is;clear hbx hcs hX ho9 hlen9 E14;go_wp2_with ((with_reducible refine wpList_store_row (o:=⟨JW,.store 39 (.tmp 14) (.tmp 135),_,_,_,_⟩) ?_ 39 (.tmp 14) (.tmp 135) ?_ w.heap.size #[JO JP y.school,JO JP st,JO JP fi,JO JP la,JO JP (k:Int),JR p9 EL.length c9,JR p2 PV.length c2] ?_ ?_ 39 #[JO JP 0,JO JP 0,JO JP 0,JO JP 0,JO JP 0,JR JW 0 0,JR JW 0 0] ?_ ?_ ?_ ?_ ?_);rfl;rfl;rfl;rfl;exact e14;kernel_rfl;rfl;simp [Value.oneCell'])
     (try simp only [Exit.inBlock,Exit.then]);refine bodyPost_ret (jy results29 _ _ w.heap.size #[JO JP y.school,JO JP st,JO JP fi,JO JP la,JO JP (k:Int),JR p9 EL.length c9,JR p2 PV.length c2] rfl (setRow_heap _ _ _ _ _ _ e14)) rfl ?_
     refine .inl ⟨HV7.out,p9,c9,p2,c2,?_,?_,?_⟩
     ·rw [HXE.out];rfl
     ·rw [HXE.out];exact ⟨⟨_,_,rfl⟩,iO (bE HO9.out (LM.setRow wr w.heap.size _) (fun q hq e=>by have:=(HO9.out.lt q hq).1;omega)) mOm,aQ (ah HBF.out HX.out.low) (aD _) _⟩
     ·rw [HXE.out];exact ⟨⟨_,_,rfl⟩,iO (bE HX.out.prf (LM.setRow wr w.heap.size _) (fun q hq e=>by have:=(HX.out.prf.lt q hq).1;omega)) mOm,aQ (ah HBF.out HX.out.low) (aD _) _⟩
end
section
open Go Go.Proofs Go.RowKit Go.Sort Go.Lib
theorem qC:∀ es:List Ent,gV es=br bK es
 | []=>rfl
 | e::es=>by
  show e.cells.toList++gV es=_
  rw [qC es]
  rfl
theorem Bm {base:Nat} {w:World} {v:Value} {es:List Ent} (h:Ents base w v es):LK bK w v es:=by
 have h2:w.ownsRow base 67 15 v es.length (gV es):=h;rw [qC] at h2;exact eH (fun _=>rfl) mDe h2
theorem LW.up {B B':Nat} {A:Option Addr} {n:Nat} {w w':World} (h:LW B A n w) (hb:ac B w w') (hB:B≤B'):LW B' A n w':=
 ⟨h.1,fun j hj=>by
  obtain ⟨b,off,z,hA,hB2,hc,hz⟩:=h.2 j hj
  exact ⟨b,off,z,hA,mOm,(hb.cell (p:=⟨b,off+j,JW⟩) hB2).trans hc,hz⟩⟩
theorem LW.few {B:Nat} {A:Option Addr} {n m:Nat} {w:World} (h:LW B A n w) (hm:m≤n):LW B A m w:=
 ⟨bu hm h.1,fun j hj=>h.2 j mOm⟩
theorem uy {w0 w:World} {t:TypeId} {g c:Nat} {K:List LU} (h:LQ kD 4 t w0 w (JR (JV ⟨g,0,JW⟩) K.length c) K) (hK:0 < K.length):LV w g K∧g < w.heap.size:=by
 obtain ⟨b,o,h1,h2,h3⟩:=dc (kk:=4) (h.row (fun _=>rfl) mDe) (fun _=>rfl) rfl hK;injection h1 with h1;injection h1 with e1 e2 e3;subst e1;subst e2;exact ⟨fun k e he=>by have:=h3 k e he;rw [Nat.zero_add] at this;exact this,h2⟩
theorem xS:∀ s∈codesL,s.size≤100000:=mDe
theorem wt {sc:Int} {e:Ent} (g:Good sc e) (hsc:1≤sc∧sc≤100):e.Ok:=by
 obtain ⟨h1,h2,h3,h4,h5,h6,h7,h8,h9,h10,h11,h12,h13,h14⟩:=g;have hc:e.course.size≤100000∧I64 e.credits:=by
  split at h9
  ·exact ⟨xS _ h9.1,by unfold I64;omega⟩
  ·rw [h9.1,h9.2];exact ⟨mDe,by unfold I64;omega⟩
 have hm:e.mark.size≤100000:=by rw [h8];decide
 clear h8 h9;refine ⟨?_,?_,?_,?_,?_,?_,hc.2,?_,?_,?_,?_,?_,?_,hc.1,hm⟩ <;> unfold I64 <;> (try split at h10) <;> (try split at h11) <;> (try split at h12) <;> (try split at h13) <;> (try split at h14) <;> omega
def CmX (l:List Ent) (R:List LL) (w w':World) (X:Array Value):Prop:=
 ∃ (k:Nat) (st fi la:Int) (ids:List Int) (p1 p2:Option Addr) (c1 c2:Nat),k < R.length∧pD l R k st fi la ids=0∧X=(d5 l R k st fi la ids).cells p1 p2 c1 c2∧
  LQ fg 3 69 w w' (JR p1 (d5 l R k st fi la ids).lines.length c1) (d5 l R k st fi la ids).lines∧LQ bL 1 9 w w' (JR p2 (d5 l R k st fi la ids).proof.length c2) (d5 l R k st fi la ids).proof
theorem LQ.boxes {α:Type} {enc:α→List Value} {k:Nat} {e:TypeId} {w W u:World} {v:Value} {M:List α} (h:LQ enc k e W u v M) (hb:ac w.heap.size w W) {b1 b2:Nat} (h1:w.heap.size≤b1∧b1 < W.heap.size) (h2:w.heap.size≤b2∧b2 < W.heap.size) (c1 c2:Array Value):LQ enc k e w ((u.setRow b1 c1).setRow b2 c2) v M:=
 ⟨h.form,iO (bE (bE h.own (LM.setRow u b1 c1) (fun q hq e=>by have:=(h.own.lt q hq).1;omega)) (LM.setRow _ b2 c2) (fun q hq e=>by have:=(h.own.lt q hq).1;omega)) hb.size,aQ (aQ (ah hb h.low) h1.1 _) h2.1 _⟩
theorem fZ {W:World} {b b':Nat} {cs:Array Value} (h:b ≠ b'):(W.setRow b cs).heap[b']? = W.heap[b']?:=by simp [World.setRow,Array.getElem?_modify,h]
theorem CmX.boxes {l:List Ent} {R:List LL} {w W u:World} {X:Array Value} (h:CmX l R W u X) (hb:ac w.heap.size w W) {b1 b2:Nat} (h1:w.heap.size≤b1∧b1 < W.heap.size) (h2:w.heap.size≤b2∧b2 < W.heap.size) (c1 c2:Array Value):CmX l R w ((u.setRow b1 c1).setRow b2 c2) X:=by obtain ⟨k,st,fi,la,ids,p1,p2,d1,d2,h3,h4,h5,h6,h7⟩:=h;exact ⟨k,st,fi,la,ids,p1,p2,d1,d2,h3,h4,h5,h6.boxes hb h1 h2 c1 c2,h7.boxes hb h1 h2 c1 c2⟩
theorem CmX.next {l:List Ent} {R:List LL} {w0 w u v:World} {X:Array Value} (h:CmX l R w u X) (hb0:ac w0.heap.size w0 w) (hb:ac u.heap.size u v):CmX l R w0 v X:=by obtain ⟨k,st,fi,la,ids,p1,p2,d1,d2,h3,h4,h5,h6,h7⟩:=h;exact ⟨k,st,fi,la,ids,p1,p2,d1,d2,h3,h4,h5,(h6.from_ hb0).next hb,(h7.from_ hb0).next hb⟩
theorem vO (r:LR) (e:Ent):sgE r e=entZ∨∃ id mk,sgE r e={ e with key:=id,mark:=mk }∧id=sgK r.keys e.day∧mk.size≤8:=by
 unfold sgE mf
 split
 ·exact .inl rfl
 split
 ·exact .inl rfl
 split
 ·exact .inl rfl
 ·refine .inr ⟨_,_,rfl,rfl,?_⟩;unfold dU
  split
  ·exact aD 8
  ·exact aR 8
theorem Ec {r:LR} (hk:∀ k∈r.keys,I64 k.id) {e:Ent} (he:e.Ok):(sgE r e).Ok:=by
 rcases vO r e with h | ⟨id,mk,h,h1,h2⟩
 ·rw [h];exact vv
 ·rw [h];have:=AL (d:=e.day) hk;rw [← h1] at this;exact ⟨he.id,he.school,he.student,he.kind,he.day,he.on,he.credits,he.grade,he.ref,he.fro,he.programme,he.version,this,he.course,by show mk.size≤_;omega⟩
theorem Hh {r:LR} {e:Ent} (he:0≤e.day∧e.day≤1000000):0≤(sgE r e).day∧(sgE r e).day≤1000000:=by
 rcases vO r e with h | ⟨id,mk,h,h1,h2⟩
 ·rw [h];exact ⟨mDe,mDe⟩
 ·rw [h];exact he
structure CaseP (r:LR) (l:List Ent) (R:List LL):Prop where
 school:r.school=1
 keys:1≤r.keys.length∧r.keys.length≤3
 sec:∀ k∈r.keys,k.secret.size≤103∧I64 k.id
 ents:∃ es,L4 1 es∧l=es.map (sgE r)
 chain:L7 r l R
theorem qw {r:LR} {l es:List Ent} (h:L4 1 es) (hl:l=es.map (sgE r)):l.length≤24:=by rw [hl,aX];exact h.len
theorem rK {r:LR} {l es:List Ent} (h:L4 1 es) (hl:l=es.map (sgE r)) (hk:∀ k∈r.keys,I64 k.id):∀ e∈l,e.Ok:=by intro e he;rw [hl] at he;obtain ⟨x,hx,rfl⟩:=eF.1 he;exact Ec hk (wt (h.good x hx) mOm)
theorem Ah {r:LR} {l es:List Ent} (h:L4 1 es) (hl:l=es.map (sgE r)):∀ e∈l,0≤e.day∧e.day≤1000000:=by intro e he;rw [hl] at he;obtain ⟨x,hx,rfl⟩:=eF.1 he;have:=(h.good x hx).day;exact Hh mOm
theorem CaseP.len {r:LR} {l:List Ent} {R:List LL} (h:CaseP r l R):l.length≤24:=by obtain ⟨es,h1,h2⟩:=h.ents;exact qw h1 h2
theorem CaseP.ok {r:LR} {l:List Ent} {R:List LL} (h:CaseP r l R):∀ e∈l,e.Ok:=by
 obtain ⟨es,h1,h2⟩:=h.ents;exact rK h1 h2 (fun k hk=>(h.sec k hk).2)
def IZ (X:Array Value):Prop:=∃ (x0 x1 x2 x3 x4:Int) (p1:Option Addr) (n1 c1:Nat) (p2:Option Addr) (n2 c2:Nat),X=#[JO JP x0,JO JP x1,JO JP x2,JO JP x3,JO JP x4,JR p1 n1 c1,JR p2 n2 c2]
def CX (w:World) (e:Ending) (w':World):Prop:=
 ∃ (r:LR) (l:List Ent) (R:List LL) (g cg:Nat) (pl:Option Addr) (cl:Nat) (pr:Option Addr) (cr:Nat) (X:Array Value) (b:Bool),
  e=JT (.tuple #[.agg #[JO JP r.school,JR (JV ⟨g,0,JW⟩) r.keys.length cg],JR pl l.length cl,JR pr R.length cr,.agg X,.bool b])∧IZ X∧CaseP r l R∧
  LQ kD 4 78 w w' (JR (JV ⟨g,0,JW⟩) r.keys.length cg) r.keys∧LQ bK 15 67 w w' (JR pl l.length cl) l∧LQ cH 7 65 w w' (JR pr R.length cr) R∧(b=true→CmX l R w w' X)
theorem rD {fn:Func} {p2 u3 u4 p5 u6:Tmp} (h:fn.results=#[.cell p2 33,.tmp u3,.tmp u4,.cell p5 39,.tmp u6]) (tmps:Array Value) (w:World) (g1 g2:Nat) (c1 c2:Array Value)
  (hp1:tmps.getD p2 undef=JS (JV ⟨g1,0,JW⟩)) (hp2:tmps.getD p5 undef=JS (JV ⟨g2,0,JW⟩)) (hg1:w.heap[g1]? = JV (JU c1 33 (0,0))) (hg2:w.heap[g2]? = JV (JU c2 39 (0,0))) (hs1:c1.size=2) (hs2:c2.size=7) :
  (results fn tmps).run prog w=.ok (.tuple #[.agg c1,tmps.getD u3 undef,tmps.getD u4 undef,.agg c2,tmps.getD u6 undef]) w:=by
 have r1:=run_loadVar_row (P:=prog) w g1 33 33 c1 (0,0) _ hg1 underlying33 rfl (by rw [hs1];kernel_rfl);have r2:=run_loadVar_row (P:=prog) w g2 39 39 c2 (0,0) _ hg2 underlying39 rfl (by rw [hs2];kernel_rfl);simp only [results,h];simp [Sem.run_bind,Result.andThen,-Array.getD_eq_getD_getElem?,hp1,hp2,asAddr,r1,r2]
theorem Cl (B:Option Addr) (m cB:Nat) (u:World) (hi:LW u.heap.size B m u) :
  Calls prog 33 #[JR B m cB,JO JP 1] u fun e w'=>∃ (es:List Ent) (p:Option Addr) (c:Nat),e=JT (JR p es.length c)∧Hid (L4 1 es)∧LK bK w' (JR p es.length c) es∧ac u.heap.size u w':=by
 refine (Fy B m cB 1 u mDe hi).mono ?_;rintro e w' ⟨v,es,rfl,hok,hes,hb⟩;obtain ⟨p,c,rfl,-⟩:=hes.form;exact ⟨es,p,c,rfl,aa hok,Bm hes,hb⟩
theorem CG (K:List LU) (g cg:Nat) (es:List Ent) (p:Option Addr) (c:Nat) (u:World) (h:LK bK u (JR p es.length c) es) (hm:Hid (L4 1 es)) (hk:LV u g K) (hg:g < u.heap.size) (h1:1≤K.length) (h3:K.length≤3) (hs:∀ k∈K,k.secret.size≤103∧I64 k.id) (hT:Tabs u) :
  Calls prog 32 #[.agg #[JO JP 1,JR (JV ⟨g,0,JW⟩) K.length cg],JR p es.length c] u fun e w'=>∃ (l:List Ent) (p:Option Addr) (c:Nat),e=JT (JR p l.length c)∧Hid (∃ es,L4 1 es∧l=es.map (sgE ⟨1,K⟩))∧LQ bK 15 67 u w' (JR p l.length c) l∧ac u.heap.size u w':=by
 have h24:=hm.out.len;refine (uT ⟨1,K⟩ g cg es (fun e he=>wt (hm.out.good e he) mOm) p c u h mOm hk hg ⟨h1,bu h3 mDe⟩ (fun k hk=>⟨by have:=(hs k hk).1;omega,(hs k hk).2⟩) (show I64 1 from ⟨mDe,mDe⟩) hT).mono ?_;rintro e w' ⟨v,rfl,hO⟩;obtain ⟨p2,c2,rfl⟩:=hO.form;exact ⟨es.map (sgE ⟨1,K⟩),p2,c2,rfl,aa ⟨es,hm.out,rfl⟩,hO,hO.low⟩
theorem C5 (K:List LU) (g cg:Nat) (l:List Ent) (p:Option Addr) (c:Nat) (D:Option Addr) (q cD:Nat) (u:World) (h:LK bK u (JR p l.length c) l) (hm:Hid (∃ es,L4 1 es∧l=es.map (sgE ⟨1,K⟩))) (hi:LW u.heap.size D q u) (hk:LV u g K) (hg:g < u.heap.size) (h3:K.length≤3) (hs:∀ k∈K,k.secret.size≤103∧I64 k.id) :
  Calls prog 34 #[.agg #[JO JP 1,JR (JV ⟨g,0,JW⟩) K.length cg],JR p l.length c,JR D q cD] u fun e w'=>∃ (R:List LL) (p:Option Addr) (c:Nat),e=JT (JR p R.length c)∧Hid (L7 ⟨1,K⟩ l R)∧LQ cH 7 65 u w' (JR p R.length c) R∧ac u.heap.size u w':=by
 obtain ⟨es,he,hl⟩:=hm.out;have h24:=qw he hl;refine (zt g cg ⟨1,K⟩ p c l D q cD u h (rK he hl (fun k hk=>(hs k hk).2)) mOm (Ah he hl) hi hk hg (bu h3 mDe) (fun k hk=>⟨by have:=(hs k hk).1;omega,(hs k hk).2⟩) (show I64 1 from ⟨mDe,mDe⟩)).mono ?_;rintro e w' ⟨v,rfl,R,hC,hO⟩;obtain ⟨p2,c2,rfl⟩:=hO.form;exact ⟨R,p2,c2,rfl,aa hC,hO,hO.low⟩
theorem Ef (l:List Ent) (p:Option Addr) (c:Nat) (st fi la bits:Int) (u:World) (h:LK bK u (JR p l.length c) l) (hl:l.length≤24) :
  Calls prog 35 #[JR p l.length c,JO JP st,JO JP fi,JO JP la,JO JP bits] u fun e w'=>∃ (ids:List Int) (p:Option Addr) (c:Nat),e=JT (JR p ids.length c)∧ids.length≤24∧LQ jD 1 3 u w' (JR p ids.length c) ids∧ac u.heap.size u w':=by
 refine (Ag l p c st fi la bits u h mOm).mono ?_;rintro e w' ⟨v,rfl,ids,h1,hO⟩;obtain ⟨p2,c2,rfl⟩:=hO.form;exact ⟨ids,p2,c2,rfl,mOm,hO,hO.low⟩
theorem Et (l:List Ent) (hok:∀ e∈l,e.Ok) (p:Option Addr) (c:Nat) (R:List LL) (pr:Option Addr) (cr:Nat) (k:Nat) (st fi la:Int) (ids:List Int) (pi:Option Addr) (ci:Nat) (u:World) (h:LK bK u (JR p l.length c) l) (hl:l.length≤24) (hr:LK cH u (JR pr R.length cr) R) (hR:R.length≤6) (hk:k < R.length) (hi:LK jD u (JR pi ids.length ci) ids) (hn:ids.length≤24) :
  Calls prog 29 #[JR p l.length c,JR pr R.length cr,JO JP (k:Int),JO JP st,JO JP fi,JO JP la,JR pi ids.length ci] u fun e w'=>∃ (x0 x1 x2 x3 x4:Int) (p1 p2:Option Addr) (n1 c1 n2 c2:Nat) (er:Int),e=JT (.tuple #[.agg #[JO JP x0,JO JP x1,JO JP x2,JO JP x3,JO JP x4,JR p1 n1 c1,JR p2 n2 c2],JO JP er])∧Hid (er=0→CmX l R u w' #[JO JP x0,JO JP x1,JO JP x2,JO JP x3,JO JP x4,JR p1 n1 c1,JR p2 n2 c2])∧ac u.heap.size u w':=by
 refine (wV l hok p c R pr cr k st fi la ids pi ci u h mOm hr mOm hi mOm).mono ?_;rintro e w' (⟨h0,pl,cl,pp,cp,rfl,hO1,hO2⟩ | ⟨h0,rfl,hb⟩)
 ·exact ⟨_,_,_,_,_,pl,pp,_,cl,_,cp,0,rfl,aa fun _=>⟨k,st,fi,la,ids,pl,pp,cl,cp,hk,h0,rfl,hO1,hO2⟩,hO1.low⟩
 ·exact ⟨0,0,0,0,0,JW,JW,0,0,0,0,_,rfl,aa fun h=>absurd h h0,hb⟩
end
section
open Go Go.Proofs Go.RowKit Go.Sort Go.Lib
attribute [local go_sem] LL.cells
theorem BY {P:Program} {ops:Array Oper} {Q:Exit→Act→World→Prop} {S:World→Prop} {i:Nat} {σ:List (Nat×Bool)} {a:Act} {w:World} (oi:Oper) (v:Value) (w':World) (hi:ops[i]? = JV oi) (hw:Region.wanted oi (yielded ops a.tmps)=true) (hr:(execOp a.eval oi).run P w=.ok (.value v) w') (hS:S w')
  (h:aO P ops Q S σ (a.put oi.dst v) w'):aO P ops Q S ((i,false)::σ) a w:=
 iV oi hi hw (by unfold Oper.wp;rw [hr,Oper.upon_value];exact ⟨hS,h⟩)
def exE:List Ent:=[⟨1,1,5,3,20,10,⟨#[65,49]⟩,5,70,0,0,0,0,0,⟨#[]⟩⟩,⟨2,1,5,5,40,30,⟨#[]⟩,0,0,1,0,0,0,0,⟨#[]⟩⟩]
def exG (s:Int):LR:=⟨1,[⟨1,yE,0,s⟩]⟩
def exL:List Ent:=exE.map (sgE (exG 0))
def exR:LL:=(mkR (exG 0) 1 [] exL 50).1
theorem Dh:∀ e∈exE,e.Ok:=by
 intro e he;simp only [exE,cR,et,or_false] at he;rcases he with rfl | rfl <;> exact ⟨by unfold I64;decide,by unfold I64;decide,by unfold I64;decide,by unfold I64;decide,by unfold I64;decide,by unfold I64;decide,by unfold I64;decide,by unfold I64;decide,by unfold I64;decide,by unfold I64;decide,by unfold I64;decide,by unfold I64;decide,by unfold I64;decide,mDe,mDe⟩
theorem um (s:Int):∀ k∈(exG s).keys,k.secret.size≤100000∧I64 k.id:=by intro k hk;simp only [exG,bJ] at hk;subst hk;exact ⟨by show (3:Nat)≤100000;decide,by show I64 1;unfold I64;decide⟩
theorem un:∀ e∈exL,e.Ok:=by
 intro e he;obtain ⟨x,hx,rfl⟩:=eF.1 he;exact Ec (fun k hk=>(um 0 k hk).2) (Dh x hx)
theorem GC:exL.length=2:=rfl
theorem xj (w:World) (hT:Tabs w) :
  Calls prog 28 #[] w fun e w'=>∃ (p1 p2:Option Addr) (c1 c2:Nat),e=JT (.tuple #[JR p1 2 c1,JR p2 1 c2])∧LQ bK 15 67 w w' (JR p1 2 c1) exL∧LQ cH 7 65 w w' (JR p2 1 c2) [exR]:=by
 have HT:=aa hT;clear hT;go_enter func28,ntmps28;go_wp2_with fail;refine (gG 0 w).mono ?_;rintro _ w1 ⟨g,rfl,hK,hbg,hgl,hb1⟩;have hlit:=mQ (enc:=bK) (k:=15) 67 w1 #[JO JP 1,JO JP 1,JO JP 5,JO JP 3,JO JP 20,JO JP 10,JQ ⟨#[65,49]⟩,JO JP 5,JO JP 70,JO JP 0,JO JP 0,JO JP 0,JO JP 0,JO JP 0,JQ ⟨#[]⟩,JO JP 2,JO JP 1,JO JP 5,JO JP 5,JO JP 40,JO JP 30,JQ ⟨#[]⟩,JO JP 0,JO JP 0,JO JP 1,JO JP 0,JO JP 0,JO JP 0,JO JP 0,JQ ⟨#[]⟩] exE 2 rfl mDe rfl rfl;have hbl:=hlit.low;have ks:=uT (exG 0) g 1 exE Dh _ _ _ (hlit.row dH mDe) mDe (hK.below hbl hgl) (av hgl hbl.size) mDe (um 0) (by unfold I64;decide) (HT.out.below (ah hb1 hbl));have HB1:=aa (ah hb1 hbl);clear hlit hK hbg hgl hb1 hbl;go_wp2_with fail;refine ks.mono ?_;clear ks;rintro _ w2 ⟨v2,rfl,hO2⟩;obtain ⟨p2,c2,rfl⟩:=hO2.form;have HO2:=aa (hO2.from_ HB1.out);clear hO2;go_wp2_with fail;refine (gG 0 w2).mono ?_;rintro _ w3 ⟨g3,rfl,hK3,hbg3,hgl3,hb3⟩;have HO3:=aa (HO2.out.next hb3);have km:=uA g3 1 (exG 0) 1 JW 0 [] p2 c2 exL 50 w3 (LK.nil _ _) (fun x hx=>by cases hx) mDe (HO3.out.row dH mDe) un mDe hK3 hgl3 mDe (fun k hk=>(um 0 k hk).1) (by unfold I64;decide) (by unfold I64;decide) (by unfold I64;decide);have HXR:Hid ((mkR (exG 0) 1 [] exL 50).1=exR):=aa rfl;generalize (mkR (exG 0) 1 [] exL 50).2=er at *;obtain ⟨⟨r0,r1,r2,r3,r4,r5,r6⟩,HRR⟩:∃ y,Hid (exR=y):=⟨_,aa rfl⟩;rw [HXR.out,HRR.out] at km;have HO3:=aa (show LQ bK 15 67 w w3 (JR p2 2 c2) exL from HO3.out);clear HO2 hK3 hbg3 hgl3 hb3 HXR;go_wp2_with fail;refine km.mono ?_;clear km;rintro _ w4 ⟨rfl,hb4⟩;have HO4:=aa (HO3.out.next hb4);have hx:=heap_alloc_new w4 (JU #[JO JP r0,JO JP r1,JO JP r2,JQ r3,JQ r4,JO JP r5,JQ r6] 65);have hba:=al w4 (JU #[JO JP r0,JO JP r1,JO JP r2,JQ r3,JQ r4,JO JP r5,JQ r6] 65);obtain ⟨w5,hw5⟩:∃ u,u=w4.alloc (JU #[JO JP r0,JO JP r1,JO JP r2,JQ r3,JQ r4,JO JP r5,JQ r6] 65):=⟨_,rfl⟩;obtain ⟨xb,hxb⟩:∃ b,b=w4.heap.size:=⟨_,rfl⟩;rw [← hw5] at hx hba
 go_upto_region 3 with fail
 rw [← hw5,← hxb];rw [← hxb] at hx;have hd:=(Below.refl w5.heap.size w5).drew;have hxd:=hd.heap_of hx;have hS0:∀ j,w5.drew.cell? ⟨xb,j,JW⟩=(#[JO JP r0,JO JP r1,JO JP r2,JQ r3,JQ r4,JO JP r5,JQ r6]:Array Value)[j]?:=ae hxd;have hS1:∀ j,(w5.drew.alloc (JU #[JO JP r0,JO JP r1,JO JP r2,JQ r3,JQ r4,JO JP r5,JQ r6] 65)).cell? ⟨xb,j,JW⟩=(#[JO JP r0,JO JP r1,JO JP r2,JQ r3,JQ r4,JO JP r5,JQ r6]:Array Value)[j]?:=ae (eG hxd _);have hlit:=mQ (enc:=cH) (k:=7) 65 w5.drew #[JO JP r0,JO JP r1,JO JP r2,JQ r3,JQ r4,JO JP r5,JQ r6] [(⟨r0,r1,r2,r3,r4,r5,r6⟩:LL)] 1 rfl mDe rfl rfl;have HLIT:=aa (hlit.from_ (ah HO4.out.low (ah hba hd)));have HO5:=aa (HO4.out.next (ah (ah hba hd) hlit.low));clear hw5 hxb hx hba hb4 hd hxd hlit HO3 HO4;refine Jy (S:=fun u=>∀ j,u.cell? ⟨xb,j,JW⟩=(#[JO JP r0,JO JP r1,JO JP r2,JQ r3,JQ r4,JO JP r5,JQ r6]:Array Value)[j]?) [(0,true),(1,true),(3,true),(2,false),(4,true)] hS0 ?_;have hS:=hS0
 iterate 2 refine aj ?_
 refine fU ⟨_,_,_,_,_,_⟩ ?_ rfl mRf ?_ ?_
 rotate_left 1
 ·intro w hSw;(try dsimp only at hSw);go_simp;(try with_reducible rfl)
 simp only [Act.put,List.setIfInBounds_toArray,List.set_cons_zero]
 refine BY ⟨_,_,_,_,_,_⟩ (JR (JV ⟨w5.drew.heap.size,0,JW⟩) 1 1) (w5.drew.alloc (JU #[JO JP r0,JO JP r1,JO JP r2,JQ r3,JQ r4,JO JP r5,JQ r6] 65)) rfl mRf (by go_simp;try rfl) hS1 ?_;replace hS:=hS1;refine ar ?_;refine aj ?_;simp only [aO,bj];clear hS hS0 hS1;go_wp2_with fail
 go_ret2
 exact ⟨p2,JV ⟨w5.drew.heap.size,0,JW⟩,c2,1,rfl,HO5.out,by rw [HRR.out];exact HLIT.out⟩
end
section
open Go Go.Proofs Go.RowKit Go.Sort Go.Lib
theorem wZ:∀ s∈codesL,s.size≤100:=mDe
theorem Ed {r:LR} {e:Ent} (hg:Good 1 e):(sgE r e).course.size≤100∧(sgE r e).mark.size≤8:=by
 have hc:e.course.size≤100:=by
  have h9:=hg.course
  split at h9
  ·exact wZ _ h9.1
  ·rw [h9.1];decide
 rcases vO r e with h | ⟨id,mk,h,-,h2⟩
 ·rw [h];exact ⟨mDe,mDe⟩
 ·rw [h];exact ⟨hc,h2⟩
theorem Bh {e:Ent} (h:e.Ok) (hc:e.course.size≤100) (hm:e.mark.size≤8):e.code.length≤600∧0 < e.code.length:=by
 have h1:=lR e h;have h2:=fB e.mark mOm;have h3:0 < (d8 e.mark).length:=by simp [d8];omega
 unfold Ent.code;rw [ax];omega
theorem CaseP.small {r:LR} {l:List Ent} {R:List LL} (h:CaseP r l R):∀ e∈l,e.code.length≤600∧0 < e.code.length:=by intro e he;have hok:=h.ok e he;obtain ⟨es,h1,h2⟩:=h.ents;rw [h2] at he;obtain ⟨x,hx,rfl⟩:=eF.1 he;have:=Ed (r:=r) (h1.good x hx);exact Bh hok this.1 this.2
structure MdX (r:LR) (l:List Ent) (R:List LL) (k:Nat) (st fi la:Int) (ids:List Int) (m:Nat) (rt:LL):Prop where
 root:R[k]? = JV rt
 many:m≤l.length
 size:rt.size=m
 ext:d5 l R k st fi la ids=kE (l.take m) 1 k st fi la ids
 keyed:ef (l.take m)
 range:dP st fi la
 tree:rt.tree=iQ (l.take m)
 jud:ec (d5 l R k st fi la ids) R r 100000=0
 at_:dI (d5 l R k st fi la ids) R=rt
 each:∀ e∈l.take m,e.Ok∧e.code.length≤600∧0 < e.code.length∧e.school=1∧e.day≤rt.day
theorem Jm {r:LR} {l:List Ent} {R:List LL} {k:Nat} {st fi la:Int} {ids:List Int} (h:CaseP r l R) (hk:k < R.length) (h0:pD l R k st fi la ids=0):∃ m rt,MdX r l R k st fi la ids m rt:=by
 have hge:=ai hk;have hmem:=bP hge;generalize R[k]=rt at *;have hg:R.getD (k:Int).toNat rootZ=rt:=by rw [cm,bi,hge];rfl
 obtain ⟨hy,hsc,m,hm1,hm2,hsz,htr,hea⟩:=h.chain.each rt hmem;have hmn:rt.size.toNat=m:=mOm;have hs1:rt.school=1:=by rw [hsc,h.school]
 have hR:=h.chain.few;have hne:R ≠ []:=by intro e;rw [e] at hk;exact Nat.not_lt_zero _ hk
 unfold pD at h0;rw [hg,hmn] at h0
 split at h0;· cases h0
 split at h0;· cases h0
 split at h0;· cases h0
 split at h0;· cases h0
 split at h0;· cases h0
 rename_i h5
 have h5:=Classical.not_not.1 h5
 have hex:d5 l R k st fi la ids=kE (l.take m) 1 k st fi la ids:=by unfold d5;rw [hg,hmn,hs1]
 have heach:∀ e∈l.take m,e.Ok∧e.code.length≤600∧0 < e.code.length∧e.school=1∧e.day≤rt.day:=fun e he=>by
  have hel:=cT he;exact ⟨h.ok e hel,(h.small e hel).1,(h.small e hel).2,by rw [(hea e he).1,h.school],(hea e he).2⟩
 have hlen:(l.take m).length=m:=by rw [aM];omega
 have hj:=yB (r:=r) (own:=R) (root:=k) (l:=l.take m) (rt:=rt) (roots:=R) (st:=st) (fi:=fi) (la:=la)
  (Ab fun x hx=>(h.chain.each x hx).2.1) hge (xx (h.chain.chk hne) (k+1)) (by rw [hlen,hsz]) htr h5.2 h5.1 mOm ids (by rw [h.school];decide) mOm
  (fun e he=>⟨(heach e he).1,by have:=(heach e he).2.1;omega,by rw [(heach e he).2.2.2.1,h.school]⟩)
 rw [h.school] at hj
 exact ⟨m,rt,hge,hm1,hsz,hex,h5.2,h5.1,htr,by rw [hex];exact hj.1,by rw [hex];exact hj.2,heach⟩
theorem zK (e:Ent):(da e).size≤39:=by have h1:=qm e;have h2:=kW e.code;rw [bw];unfold da;simp only [ax,bA];omega
theorem AW (l:List Ent):∀ x∈bG l,x.size≤39:=fun x hx=>by
 obtain ⟨e,-,rfl⟩:=eF.1 ((fG _).mem_iff.1 hx);exact zK e
theorem AZ {m:List ByteArray} (h:∀ x∈m,x.size≤39) (lo:ByteArray):(lQ m lo).size≤39:=by
 unfold lQ
 split
 ·rename_i x hx
  split
  ·exact h x (bP hx)
  ·exact aR _
 ·exact aR _
theorem AU {m:List ByteArray} (h:∀ x∈m,x.size≤39) (hi:ByteArray):(lP m hi).size≤39:=by
 unfold lP
 split
 ·rename_i x hx
  split
  ·exact aR _
  ·exact h x (bP hx)
 ·exact aR _
theorem uk (l:List ByteArray) (i j:Nat):(eQ l i j).length≤j - i:=by unfold eQ fA;rw [aX,aX];exact gq j _ i (aD _)
theorem zT (l:List Ent) (st fi la:Int) (hn:l.length≤2000):(∀ s∈gY l st fi la,s.size≤39)∧(gY l st fi la).length≤5+2*l.length:=by
 have hal:(bG l).length=l.length:=by unfold bG bV;rw [k7,aX]
 have hmid:∀ x∈iN (bG l) (loB st fi) (hiB st la),x.size≤39:=fun x hx=>by
  unfold iN at hx;exact AW l x (List.mem_of_mem_drop (cT hx))
 have h1:=gL (bG l) (loB st fi)
 have ha:dV (bG l) (loB st fi)≤l.length:=by unfold dV;omega
 constructor
 ·intro s hs;unfold gY at hs;rcases bN.1 hs with hs | hs
  ·simp only [cR,et,or_false] at hs;rcases hs with rfl | rfl | rfl | rfl | rfl
   ·show 8≤39;decide
   ·show 8≤39;decide
   ·have:=Lib.itoa_length_le ((dV (bG l) (loB st fi):Nat):Int) mOm mOm;rw [bw];simp only;omega
   ·exact AZ hmid _
   ·exact AU hmid _
  ·unfold gZ at hs;rcases bN.1 hs with hs | hs
   ·rw [nC _ _ _ s hs];decide
   ·rw [nC _ _ _ s hs];decide
 ·have d1:=uk (bG l) 0 (dV (bG l) (loB st fi));have d2:=uk (bG l) (gl (bG l) (loB st fi) (hiB st la)) (bG l).length;unfold gY gZ;simp only [ax,bA,List.length_nil];omega
theorem MdX.len {r:LR} {l:List Ent} {R:List LL} {k:Nat} {st fi la:Int} {ids:List Int} {m:Nat} {rt:LL} (h:MdX r l R k st fi la ids m rt):(l.take m).length=m:=by have:=h.many;rw [aM];omega
theorem MdX.lines {r:LR} {l:List Ent} {R:List LL} {k:Nat} {st fi la:Int} {ids:List Int} {m:Nat} {rt:LL} (h:MdX r l R k st fi la ids m rt):(d5 l R k st fi la ids).lines=(eU (l.take m) (bG (l.take m)) st fi la).map (cZ ids):=by rw [h.ext];rfl
theorem MdX.fields {r:LR} {l:List Ent} {R:List LL} {k:Nat} {st fi la:Int} {ids:List Int} {m:Nat} {rt:LL} (h:MdX r l R k st fi la ids m rt):(d5 l R k st fi la ids).school=1∧(d5 l R k st fi la ids).student=st∧(d5 l R k st fi la ids).first=fi∧(d5 l R k st fi la ids).last=la∧(d5 l R k st fi la ids).root=(k:Int):=by rw [h.ext];exact ⟨rfl,rfl,rfl,rfl,rfl⟩
theorem MdX.cells {r:LR} {l:List Ent} {R:List LL} {k:Nat} {st fi la:Int} {ids:List Int} {m:Nat} {rt:LL} (h:MdX r l R k st fi la ids m rt) (pl pp:Option Addr) (cl cp:Nat):(d5 l R k st fi la ids).cells pl pp cl cp=#[JO JP 1,JO JP st,JO JP fi,JO JP la,JO JP (k:Int),JR pl (d5 l R k st fi la ids).lines.length cl,JR pp (d5 l R k st fi la ids).proof.length cp]:=by obtain ⟨h1,h2,h3,h4,h5⟩:=h.fields;unfold LY.cells;rw [h1,h2,h3,h4,h5]
theorem MdX.few {r:LR} {l:List Ent} {R:List LL} {k:Nat} {st fi la:Int} {ids:List Int} {m:Nat} {rt:LL} (h:MdX r l R k st fi la ids m rt):(d5 l R k st fi la ids).lines.length≤m:=by have:=sU h.keyed h.range;rw [h.lines,aX];have:=h.len;omega
theorem MdX.fit {r:LR} {l:List Ent} {R:List LL} {k:Nat} {st fi la:Int} {ids:List Int} {m:Nat} {rt:LL} (h:MdX r l R k st fi la ids m rt) (hl:l.length≤2000) (hR:R.length≤2000):(d5 l R k st fi la ids).Fit:=by
 have hlen:=h.len;have hmany:=h.many;have hk:=(List.getElem?_eq_some_iff.1 h.root).1;have hp:=zT (l.take m) st fi la mOm;have hpr:(d5 l R k st fi la ids).proof=gY (l.take m) st fi la:=by rw [h.ext];rfl
 refine ⟨?_,?_,?_,?_,?_⟩
 ·rw [h.ext];exact ⟨by show (-9223372036854775808:Int)≤(k:Int);omega,by show (k:Int)≤9223372036854775807;omega⟩
 ·rw [h.lines];intro y hy;obtain ⟨e,he,rfl⟩:=eF.1 hy;have hm:=iA he;have hea:=h.each e hm.1;unfold LT.Fit;rw [jf,mv];refine ⟨?_,?_,?_⟩
  ·have:=qm e;rw [bw]
   show (fk e).length≤100000
   omega
  ·have:=kW e.code;rw [bw]
   show (l9 e.code).length≤100000
   omega
  ·unfold cZ
   split
   ·rw [bw]
    show e.code.length≤100000
    omega
   ·exact aR _
 ·have:=h.few;omega
 ·rw [hpr];intro s hs;have:=hp.1 s hs;omega
 ·rw [hpr];omega
theorem CaseP.judOk {r:LR} {l:List Ent} {R:List LL} (h:CaseP r l R) {x:LY} (hx:x.Fit):JudOk x R r:=
 ⟨hx,by have:=h.chain.few;omega,fun y hy=>(h.chain.each y hy).1,by have:=h.keys.2;omega,fun k hk=>by have:=(h.sec k hk).1;omega,by rw [h.school];unfold I64;decide⟩
end
section
open Go Go.Proofs Go.RowKit Go.Maps Go.Sort Go.Lib
attribute [local go_sem] Ent.cells cH
def kG (kb:ByteArray) (L:List LT):Bool:=L.any fun x=>decide (x.key=kb) && !decide (x.body.size=0)
structure MadeIn (W wx:World) (r:LR) (l:List Ent) (R:List LL) (g cg:Nat) (pl:Option Addr) (cl:Nat) (pr:Option Addr) (cr rb xb:Nat) (X:Array Value) (bo:Bool):Prop where
 low:ac W.heap.size W wx
 case_:CaseP r l R
 rbox:rb < wx.heap.size∧∀ j,wx.cell? ⟨rb,j,JW⟩=(#[JO JP r.school,JR (JV ⟨g,0,JW⟩) r.keys.length cg]:Array Value)[j]?
 xbox:xb < wx.heap.size∧∀ j,wx.cell? ⟨xb,j,JW⟩=X[j]?
 keys:LQ kD 4 78 W wx (JR (JV ⟨g,0,JW⟩) r.keys.length cg) r.keys
 ents:LQ bK 15 67 W wx (JR pl l.length cl) l
 roots:LQ cH 7 65 W wx (JR pr R.length cr) R
 ext:bo=true→CmX l R W wx X
theorem Eo (w:World) (o1 o2:Obj):ac w.heap.size w ((w.alloc o1).alloc o2)∧((w.alloc o1).alloc o2).heap[w.heap.size]? = JV o1∧((w.alloc o1).alloc o2).heap[w.heap.size+1]? = JV o2:=by have h1:=heap_alloc_new w o1;have h2:=heap_alloc_new (w.alloc o1) o2;rw [size_alloc] at h2;exact ⟨ah (al w o1) (al _ o2),eG h1 o2,h2⟩
end
section
open Go Go.Proofs Go.RowKit Go.Sort Go.Lib
deriving instance DecidableEq for Ent
deriving instance DecidableEq for LL
theorem ex_size:exR.size=2∧exR.school=1∧exR.day=50:=by decide +kernel
theorem Ic:∀ e∈exL,dr e=0:=by decide +kernel
theorem ex_top:iQ exL=exR.tree:=by decide +kernel
theorem GG:jm (exL.map dE)=exL.map dE:=by decide +kernel
theorem GF:bU (dE (exL.getD 0 entZ)) (dE (exL.getD 1 entZ)) < 0:=by decide +kernel
theorem sW:ef exL:=by
 refine ⟨Ic,?_⟩;rw [GG];intro i a b ha hb
 match i,ha,hb with
 | 0,ha,hb =>
  obtain rfl:dE (exL.getD 0 entZ)=a:=Option.some.inj ha;obtain rfl:dE (exL.getD 1 entZ)=b:=Option.some.inj hb;exact GF
 | i+1,ha,hb=>cases hb
def exX (la:Int) (ids:List Int):LY:=d5 exL [exR] 0 5 0 la ids
theorem lq (la:Int) (ids:List Int):exX la ids=kE exL 1 (0:Nat) 5 0 la ids:=by
 have h:exL.take (([exR]:List LL).getD (0:Int).toNat rootZ).size.toNat=exL:=by
  show exL.take exR.size.toNat=exL
  rw [ex_size.1]
  rfl
 unfold exX d5
 rw [h]
 show kE exL exR.school 0 5 0 la ids=_
 rw [ex_size.2.1]
 rfl
theorem Dj:iD (fj exL (bG exL) 5 0 100) [1]:=by unfold iD;decide +kernel
theorem Dk:iD (fj exL (bG exL) 5 0 20) [1]:=by unfold iD;decide +kernel
theorem Dl:iD (fj exL (bG exL) 5 0 100000) [1,2]:=by unfold iD;decide +kernel
theorem Id (la:Int) (ids:List Int) (hl:0≤la∧la≤100000) (hk:iD (fj exL (bG exL) 5 0 la) ids):pD exL [exR] 0 5 0 la ids=0:=by
 have h:exL.take (([exR]:List LL).getD (0:Int).toNat rootZ).size.toNat=exL:=by
  show exL.take exR.size.toNat=exL
  rw [ex_size.1]
  rfl
 have hg:([exR]:List LL).getD (0:Int).toNat rootZ=exR:=rfl
 unfold pD;rw [h,hg,ex_size.1,ex_size.2.1,if_neg mDe,if_neg (by rw [GC];decide),if_neg,if_neg,if_neg,if_neg]
 ·exact fun h=>h hk
 ·exact fun h=>h ⟨⟨mDe,mDe,mDe,hl.1,hl.2⟩,sW⟩
 ·exact fun h=>h ex_top
 ·exact fun h=>h (by decide +kernel)
theorem je:cP (exG 0) [exR]=0:=by decide +kernel
theorem qU:cP (exG 51) [exR]=0:=by decide +kernel
theorem Dm:cP (exG 50) [exR]=11:=by decide +kernel
theorem Gk:dQ [exR] 1=[exR]:=by decide +kernel
theorem qg:∀ e∈exL,e.code.length≤262144∧e.school=1∧0 < e.code.length:=by decide +kernel
theorem qT (s la:Int) (ids:List Int) (hl:0≤la∧la≤100000) (hs:cP (exG s) [exR]=0):ec (exX la ids) [exR] (exG s) 100000=0∧dI (exX la ids) [exR]=exR:=by
 rw [lq];exact yB (r:=exG s) (own:=[exR]) (root:=0) Gk rfl hs (by rw [ex_size.1];rfl) ex_top.symm sW ⟨mDe,mDe,mDe,hl.1,hl.2⟩ mDe ids (by show (1:Int)≤1∧(1:Int)≤8;decide) mDe (fun e he=>⟨un e he,(qg e he).1,(qg e he).2.1⟩)
theorem yu {x:LY} {roots:List LL} {r:LR} {a:Int} (h:ec x roots r a=0) (b:Int):ec x roots r b=if b < (dI x roots).day then 23 else 0:=by
 unfold ec at h ⊢;by_cases c1:iU x ≠ 0
 ·rw [if_pos c1] at h;exact absurd h c1
 rw [if_neg c1] at h ⊢
 by_cases c2:r.school ≠ x.school
 ·rw [if_pos c2] at h;cases h
 rw [if_neg c2] at h ⊢
 by_cases c3:((dQ roots x.school).length:Int)≤x.root
 ·rw [if_pos c3] at h;cases h
 rw [if_neg c3] at h ⊢
 by_cases c4:cP r ((dQ roots x.school).take (x.root.toNat+1)) ≠ 0
 ·rw [if_pos c4] at h;exact absurd h c4
 rw [if_neg c4] at h ⊢
 by_cases c5:a < (dI x roots).day
 ·rw [if_pos c5] at h;cases h
 rw [if_neg c5] at h
 by_cases c6:¬ ik (dI x roots).tree (dI x roots).size x.student x.first x.last x.lines x.proof
 ·rw [if_pos c6] at h;cases h
 rw [if_neg c6]
theorem jO (s la:Int) (ids:List Int) (hl:0≤la∧la≤100000) (hs:cP (exG s) [exR]=0):ec (exX la ids) [exR] (exG s) 60=0:=by obtain ⟨h1,h2⟩:=qT s la ids hl hs;rw [yu h1,h2,ex_size.2.2,if_neg mDe]
theorem yf (la:Int) (ids:List Int) (hl:0≤la∧la≤100000):ec (exX la ids) [exR] (exG 0) 49=23:=by obtain ⟨h1,h2⟩:=qT 0 la ids hl je;rw [yu h1,h2,ex_size.2.2,if_pos mDe]
theorem yg (la:Int) (ids:List Int) (hl:0≤la∧la≤100000):ec (exX la ids) [exR] (exG 50) 60=11:=by
 have hx:(exX la ids).school=1∧(exX la ids).root=0:=by rw [lq];exact ⟨rfl,rfl⟩
 have hc:iU (exX la ids)=0:=by
  rw [lq];exact yA sW ⟨mDe,mDe,mDe,hl.1,hl.2⟩ mDe ids mDe mDe (fun e he=>⟨un e he,(qg e he).1,(qg e he).2.1⟩)
 unfold ec
 rw [if_neg (fun h=>h hc),hx.1,hx.2,Gk,if_neg (fun h=>h rfl),if_neg mDe];have e:([exR]:List LL).take ((0:Int).toNat+1)=[exR]:=rfl;rw [e,Dm,if_pos mDe]
theorem ex_ents1:mh (exG 0) exR (exX 100 [1]).lines=exL.take 1∧fq (exX 100 [1]).lines=1∧gh (exX 100 [1]).lines=false:=by decide +kernel
theorem ex_ents2:mh (exG 0) exR (exX 20 [1]).lines=exL.take 1∧fq (exX 20 [1]).lines=0∧gh (exX 20 [1]).lines=true:=by decide +kernel
theorem Fb:mh (exG 51) exR (exX 100 [1]).lines=exL.take 1:=by decide +kernel
theorem Fc:cI (exX 100000 [1,2]).lines=exL:=by decide +kernel
theorem Di:∀ y∈(exX 100000 [1,2]).lines,y.body.toList.isEmpty=false:=by decide +kernel
theorem ex_lens:(exX 100 [1]).lines.length=2∧(exX 20 [1]).lines.length=1∧(exX 100000 [1,2]).lines.length=2:=by decide +kernel
end
section
open Go Go.Proofs Go.RowKit Go.Maps Go.Sort Go.Lib
theorem gK {W u:World} {b:Nat} {cs:Array Value} (hb:ac W.heap.size W u) (hl:b < W.heap.size) (h:∀ j,W.cell? ⟨b,j,JW⟩=cs[j]?):∀ j,u.cell? ⟨b,j,JW⟩=cs[j]?:=fun j=>(hb.cell (p:=⟨b,j,JW⟩) hl).trans (h j)
structure TrIn (W:World) (rs:Int) (KL:List LU) (g:Nat) (l:List Ent) (lp:Option Addr) (lc:Nat) (L:List LT) (pl:Option Addr) (cl m:Nat) (rt:LL) (st fi la:Int) (ids:List Int) (EV:List Ent) (pv:Option Addr) (cv:Nat):Prop where
 many:m≤l.length∧l.length≤1000∧L.length≤4000∧EV.length≤100000
 ok:∀ y∈l.take m,y.Ok
 open_:∀ y∈l.take m,inQ st fi la y=true→kG (dE y) L=decide (y.id∈ids)
 has:∀ y∈l.take m,inQ st fi la y=true→y.id∈ids→(y∈EV↔ia ⟨rs,KL⟩ rt y=true)
 ents:LK bK W (JR lp l.length lc) l
 lines:LK fg W (JR pl L.length cl) L
 ver:LK bK W (JR pv EV.length cv) EV
 keys:LV W g KL∧g < W.heap.size∧KL.length≤1000∧(∀ k∈KL,k.secret.size≤100000)∧I64 rs
 ready:Wr.Ready W
end
section
open Go Go.ChangeShapes Go.WideShapes Go.ChangeAt Go.WideElems Go.RowKit Go.Lib
open Go.Extern.Stop Go.Stop Go.Extern
def laidRow : List (String × DataW Unit) := [("math/bits.deBruijn32tab", Rows.laid_math_bits_deBruijn32tab), ("math/bits.deBruijn64tab", Rows.laid_math_bits_deBruijn64tab), ("internal/strconv.uint64pow10", Rows.laid_internal_strconv_uint64pow10), ("strconv.ErrRange", Rows.laid_strconv_ErrRange), ("strconv.ErrSyntax", Rows.laid_strconv_ErrSyntax)]
theorem zi {W:World} (h:laidMetH prog laidRow W):Tabs W:=by
 have h1 := h.filter (fun x => x.1 == "internal/strconv.uint64pow10");rw [MakeChecks.laidMetH_plain _ _ _ mKr] at h1;exact Lib.tabIs_of_head (rest:=[]) BZ (by kernel_rfl:(prog.globals[0]?).map (·.type)=some 299) underlying299 underlying272 mKr mKr h1
theorem E1 (os:Os) (args:Array Value):laidMetH prog laidRow ((World.doorLaid prog 4000 os).forCall (fun _ _=>0) ⟨#[],args,[]⟩).memory:=
 laidMetH_of_parts3 (fuel:=8) (laidMet_of_run' 8 mKr mKr) mKr mKr
theorem DL {W:World} (h:W.ShapedOpen prog):∃ m,W.cell? ⟨1,0,none⟩=some (.int .i64 m):=
 Go.Proofs.cell_of_shapedOpen_int (zero:=#[.int .i64 0]) (t:=3) h (of_decide_eq_true mKr) mKr rfl mKr mKr underlying3
theorem AK (u : TypeId) (h : prog.typeName? 3 u = some "*errors.errorString") : u = 314 :=
 typeName_ptr_named (nm := "errors.errorString") (by rw [show "*" ++ "errors.errorString" = "*errors.errorString" by decide]; kernel_rfl) mKr mDe u (by rw [show "*" ++ "errors.errorString" = "*errors.errorString" by decide]; exact h)
theorem ye {W:World} (h:laidMetH prog laidRow W):Wr.ErrVars W:=by
 have h1 := h.filter (fun x => x.1 == "strconv.ErrRange" || x.1 == "strconv.ErrSyntax");rw [MakeChecks.laidMetH_plain _ _ _ mKr] at h1;have e : laidRow.filter (fun x => x.1 == "strconv.ErrRange" || x.1 == "strconv.ErrSyntax") = [("strconv.ErrRange", Rows.laid_strconv_ErrRange), ("strconv.ErrSyntax", Rows.laid_strconv_ErrSyntax)] := mKr;rw [e] at h1;obtain ⟨a1,t1,hv1,-⟩:=laid_sentinel (g:=3) h1 mKr mKr underlying160 AK underlying314 underlying316 rfl rfl underlying9 mKr mKr;obtain ⟨a0,t0,hv0,-⟩:=laid_sentinel (g:=2) h1.tail mKr mKr underlying160 AK underlying314 underlying316 rfl rfl underlying9 mKr mKr;exact ⟨⟨_,_,hv0⟩,_,_,hv1⟩
theorem FZ {W:World} (h:laidMetH prog laidRow W) (hs:W.ShapedOpen prog):Wr.Ready W:=⟨⟨zi h,DL hs⟩,ye h⟩
theorem mC {H:Type} {enc:TypeId×Value→H} {a:Assume} {C:Checked} {os:Os} {f:FuncId} {fn:Func} {s:ChangeSpec} {conds:List PathCond} {apart fresh handsOn again:Bool} {X:World→Array Value→Prop}
  (hX:∀ (w w':World) (args:Array Value),w.heap=w'.heap→X w args→X w' args)
  (own:ownKnob C.prog.godebug=none) (started:os.Started) (noInit:C.prog.inits.idxOf? f=none) (hfn:C.prog.funcs[f]? = some fn)
  (witness:∃ (w:World) (tape:Tape) (i:Input),w.os=os∧(w.forCall tape i).Shaped C.prog∧i.vars=[]∧Input.okWide C.prog (w.forCall tape i) .any w.heap.size f i∧
   ((s.pre enc C.prog fn conds apart (w.forCall tape i).memory i.args∧X (w.forCall tape i).memory i.args)∧sizedMet enc C.prog fn (OpenSpec.ofChange s) apart (w.forCall tape i).memory i.args)∧a.holds C.prog (lone (Frame.enter C.prog f i.args .normal) [] (w.forCall tape i)))
  (contract:∀ (W:World) (base:Nat) (args:Array Value) (ds gs:List (DataW H)) (before:List MemPlace),
   (∀ (j:Nat) t v,fn.params[j]? = some t→args[j]? = some v→Value.okWide C.prog W .any base t v)→
   DataW.Whole enc C.prog fn.params.toList s.vars apart W args.toList ds gs before→
   conds.all (PathCond.test C.prog ⟨fn.params.toList,ds,s.plain.varTypes C.prog,gs⟩)=true→
   (DataW.weightsEach C.prog (fn.params.toList++s.plain.varTypes C.prog) (ds++gs)).all (·≤reachBytes)=true→X W args→W.ShapedOpen C.prog→
   a.holds C.prog (lone (Frame.enter C.prog f args .normal) [] W)→
   Calls C.prog f args W fun e W'=>∃ v,e=.returned v∧s.post enc C.prog fn apart fresh handsOn again W args v W') :
  ReturnsInHanded a C os f .any (fun w args=>(s.pre enc C.prog fn conds apart w args∧X w args)∧sizedMet enc C.prog fn (OpenSpec.ofChange s) apart w args) (s.post enc C.prog fn apart fresh handsOn again):=by
 refine returnsInHanded_of_calls own started noInit witness ?_;intro w tape i _ hsh _ hok hpre hholds;obtain ⟨_,_,_,fn',hfn',_,_,_,_,hval⟩:=hok;have e:fn'=fn:=Option.some.inj (hfn'.symm.trans hfn);subst e;obtain ⟨⟨⟨ds,gs,before,hw,hc⟩,hx⟩,hz⟩:=hpre;have hw':=DataW.Whole.of_heap (w':=w.forCall tape i) mRf hw;refine (contract (w.forCall tape i) w.heap.size i.args ds gs before hval hw' hc (hz.weights hw) (hX _ _ _ mRf hx) hsh hholds).mono fun e W' ⟨v,he,hp⟩=>?_
 subst he;exact ChangeSpec.post_blind hp
theorem DU {w:World} {a:Addr} {v:Value} (h:w.cell? a=some v):∃ b o,a=⟨b,o,none⟩:=by
 obtain ⟨b,o,path⟩:=a
 cases path with
 | none=>exact ⟨b,o,rfl⟩
 | some q=>simp [World.cell?] at h;split at h <;> cases h
theorem Ey (b o k:Nat):(⟨b,o,none⟩:Addr).add k=⟨b,o+k,none⟩:=by unfold Addr.add;split <;> simp_all
theorem AT (a:Addr):a.add 0=a:=by unfold Addr.add;rw [if_pos rfl]
theorem Il {α:Type} {l:List α} {k:Nat} (h:k < l.length) (d:α):l.getD k d∈l:=by rw [bi,ai h];exact List.getElem_mem h
theorem Gi {n:Int} (h:Lit.wf (.int .i64 n)):I64 n:=by simp [Lit.wf,IntKind.min,IntKind.max,IntKind.signed,IntKind.bits] at h;unfold I64;omega
section
variable {H:Type} {enc:TypeId×Value→H} {w:World} {held:Bool} {fuel:Nat} {c:Value} {y:DataW H×List MemPlace}
theorem qX (h:DataW.trod enc prog w 0 (fun _=>true) held fuel 22 [c]=some y) (hs:∀ elems spare,y.1=.slice elems spare→(elems.length+spare.length)*8≤reachBytes):∃ A n cc,c=.slice A n cc∧LW w.heap.size A n w∧n≤cc∧(A=none→cc=0):=by
 rcases open_ints underlying22 underlying3 mKr h with ⟨hc,hx⟩ | ⟨a,len,cap,zs,hc,_,hl,hm,hz,hx,hcell,hwf⟩
 ·simp at hc;exact ⟨none,0,0,hc,⟨mOm,fun j hj=>by omega⟩,aD _,fun _=>rfl⟩
 ·simp at hc;subst hc;simp only [if_true] at hz;have hsz:=hs _ _ (by rw [hx]);simp only [lits,aX,aM,List.length_drop,reachBytes] at hsz;refine ⟨some a,len,cap,rfl,⟨mOm,fun j hj=>?_⟩,mOm,fun h=>nomatch h⟩;have h1:=hcell j mOm;have h0:=hcell 0 mOm;rw [AT] at h0;obtain ⟨b,o,rfl⟩:=DU h0;rw [Ey] at h1;exact ⟨b,o,zs.getD j 0,rfl,am w _ h1,h1,Gi (hwf _ (Il mOm 0))⟩
end
section
variable {H:Type} {enc:TypeId×Value→H} {P:Program} {w:World} {base:Nat} {spare:Nat→Bool} {held:Bool}
theorem vU {t:TypeId} {f0 f1 f2 f3:Field} {fuel:Nat} {cs:List Value} {x:DataW H×List MemPlace} (ht:P.underlying t=some (.struct #[f0,f1,f2,f3])) (h:DataW.trod enc P w base spare held fuel t cs=some x) :
  ∃ (y0 y1 y2 y3:DataW H×List MemPlace) (n:Nat),x.1=.agg [y0.1,y1.1,y2.1,y3.1]∧DataW.trod enc P w base spare held n f0.type ((cs.drop f0.offset).take (P.cellsOf f0.type))=some y0∧
   DataW.trod enc P w base spare held n f1.type ((cs.drop f1.offset).take (P.cellsOf f1.type))=some y1∧DataW.trod enc P w base spare held n f2.type ((cs.drop f2.offset).take (P.cellsOf f2.type))=some y2:=by
 obtain ⟨xs,n,_,rfl,hl,hlen,hf⟩:=DataW.trod_struct ht h
 match xs,hlen with
 | [y0,y1,y2,y3],_=>exact ⟨y0,y1,y2,y3,n,rfl,by simpa using hf 0 f0 rfl,by simpa using hf 1 f1 rfl,by simpa using hf 2 f2 rfl⟩
end
theorem zr:∃ f0 f1 f2 f3,prog.underlying 25=some (.struct #[f0,f1,f2,f3])∧(f0.type,f1.type,f2.type,f0.offset,f1.offset,f2.offset)=(22,22,22,0,1,2):=
 ⟨_,_,_,_,underlying25,mKr⟩
structure CaseIn23 (w:World) (v:Value) (A B D:Option Addr) (n m q cA cB cD:Nat) (d0 d1 d2 d3 d4:Int):Prop where
 eq:v=.agg #[.slice A n cA,.slice B m cB,.slice D q cD,.int .i64 d0,.int .i64 d1,.int .i64 d2,.int .i64 d3,.int .i64 d4]
 hA:LW w.heap.size A n w
 hB:LW w.heap.size B m w
 hD:LW w.heap.size D q w
 cap:q≤cD
 nil:D=none→cD=0
theorem zR {H:Type} {enc:TypeId×Value→H} {w:World} {held:Bool} {r:Reach} {b0:Nat} {v:Value} {d:DataW H} {p:List MemPlace} (h:DataW.Trod enc prog w 0 (fun _=>true) held 25 v d p) (hv:Value.okWide prog w r b0 25 v) (hs:∀ z∈d.weights prog 25,z≤reachBytes) :
  ∃ A B D n m q cA cB cD d0 d1 d2 d3 d4,CaseIn23 w v A B D n m q cA cB cD d0 d1 d2 d3 d4:=by
 unfold Value.okWide at hv;rw [underlying25] at hv;obtain ⟨cs,rfl,hsz,ts,hts,_,hat⟩:=hv;have hc:prog.cellTypes prog.depth 25=some [22,22,22,3,3,3,3,3]:=mKr;have hn:prog.cellsOf 25=8:=mKr;obtain rfl:=Option.some.inj (hts.symm.trans hc);rw [hn] at hsz;obtain ⟨l⟩:=cs
 match l,hsz with
 | [c0,c1,c2,c3,c4,c5,c6,c7],_ =>
  obtain ⟨t3,r3,o3⟩:=hat 3 c3 rfl;obtain rfl:3=t3:=Option.some.inj r3;obtain ⟨x3,rfl,y3⟩:=mV underlying3 o3;obtain ⟨t4,r4,o4⟩:=hat 4 c4 rfl;obtain rfl:3=t4:=Option.some.inj r4;obtain ⟨x4,rfl,y4⟩:=mV underlying3 o4;obtain ⟨t5,r5,o5⟩:=hat 5 c5 rfl;obtain rfl:3=t5:=Option.some.inj r5;obtain ⟨x5,rfl,y5⟩:=mV underlying3 o5;obtain ⟨t6,r6,o6⟩:=hat 6 c6 rfl;obtain rfl:3=t6:=Option.some.inj r6;obtain ⟨x6,rfl,y6⟩:=mV underlying3 o6;obtain ⟨t7,r7,o7⟩:=hat 7 c7 rfl;obtain rfl:3=t7:=Option.some.inj r7;obtain ⟨x7,rfl,y7⟩:=mV underlying3 o7;obtain ⟨fuel,hf⟩:=h;obtain ⟨f0,f1,f2,f3,hu,ht⟩:=zr;simp only [Prod.mk.injEq] at ht;obtain ⟨e0,e1,e2,o0,o1,o2⟩:=ht;obtain ⟨z0,z1,z2,z3,m,hd,g0,g1,g2⟩:=vU hu hf;have hw:d.weights prog 25=DataW.weightsEach prog [f0.type,f1.type,f2.type,f3.type] [z0.1,z1.1,z2.1,z3.1]:=by have hd':d=.agg [z0.1,z1.1,z2.1,z3.1]:=hd;rw [hd'];simp [DataW.weights,hu]
  have hby:prog.bytesOf 3=8:=mKr
  have hsl:∀ (j:Nat) (z:DataW H),([f0.type,f1.type,f2.type,f3.type])[j]? = some 22→([z0.1,z1.1,z2.1,z3.1])[j]? = some z→∀ elems spare,z=.slice elems spare→(elems.length+spare.length)*8≤reachBytes:=fun j z h1 h2 elems spare hz=>by
   refine hs _ ?_;rw [hw];refine DataW.weights_mem_each h1 h2 _ ?_;rw [hz];simp [DataW.weights,underlying22,hby]
  have hcc:prog.cellsOf 22=1:=mKr
  rw [e0,o0,hcc] at g0;rw [e1,o1,hcc] at g1;rw [e2,o2,hcc] at g2;obtain ⟨A,n,cA,rfl,i0,-,-⟩:=qX (c:=c0) g0 (hsl 0 _ (by show some f0.type=_;rw [e0]) rfl);obtain ⟨B,m,cB,rfl,i1,-,-⟩:=qX (c:=c1) g1 (hsl 1 _ (by show some f1.type=_;rw [e1]) rfl);obtain ⟨D,q,cD,rfl,i2,j1,j2⟩:=qX (c:=c2) g2 (hsl 2 _ (by show some f2.type=_;rw [e2]) rfl);exact ⟨A,B,D,n,m,q,cA,cB,cD,x3,x4,x5,x6,x7,rfl,i0,i1,i2,j1,j2⟩
