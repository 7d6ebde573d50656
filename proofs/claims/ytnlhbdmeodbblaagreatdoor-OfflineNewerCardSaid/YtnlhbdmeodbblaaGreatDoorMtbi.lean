/- Lemmas. -/
import Derived.Test.YtnlhbdmeodbblaaGreatDoorMtbe
import Derived.Test.YtnlhbdmeodbblaaGreatDoorMtbf
set_option maxRecDepth 100000
set_option maxHeartbeats 16000000
set_option linter.all false
open Go.Proofs.Tryz
open Go.IntWalk renaming i64_in->aH
open Go.Lib renaming cell_of_heap->ae,frozen_of_heap->aE,hid->aa
open List renaming append_nil->dq,drop_eq_getElem_cons->cL,filterMap_cons_some->gM,getD_eq_getElem?_getD->bi,getElem?_eq_getElem->ai,getElem?_eq_some_iff->aA,getElem_mem->bA,length_append->ap,length_map->aU,length_singleton->aB,length_take->aI,map_append->dH,mem_append->bI,mem_cons->bM,mem_singleton->bE,take_add_one->aR,take_append_drop->cP,take_length->aT
open Nat renaming add_zero->ew,le_refl->az,le_trans->aV,lt_of_lt_of_le->ax,zero_add->bP,zero_le->aP
open Option renaming toList_some->df
open Go.RowKit renaming Below->ac,intOf->aw
open Go.World renaming alloc_heap_new->gm,size_alloc->fJ
open Go.Ending renaming returned->Oe
open Go.IntKind renaming i64->Oa
open Go.Obj renaming cells->Of
open Go.Value renaming int->N9,string->Ob,slice->Oc,pointer->Od
open Option renaming some->Og,none->Oh
namespace Go.Proofs.YtnlhbdmeodbblaaGreatDoor
open Go Go.RowKit Go.Sort Go.Lib
section
attribute [local go_sem] aC.cells
theorem I3(w:World)(o0 o1 o2 o3 o4 o5:Obj):let W:=(((((w.alloc o0).alloc o1).alloc o2).alloc o3).alloc o4).alloc o5
  W.heap[w.heap.size]? = Og o0/\W.heap[w.heap.size+1]? = Og o1/\W.heap[w.heap.size+1+1]? = Og o2/\W.heap[w.heap.size+1+1+1]? = Og o3/\W.heap[w.heap.size+1+1+1+1]? = Og o4/\W.heap[w.heap.size+1+1+1+1+1]? = Og o5/\ac w.heap.size w W/\W.heap.size=w.heap.size+1+1+1+1+1+1:=by
 intro W;have n0:=gm w o0;have n1:=gm (w.alloc o0) o1;have n2:=gm ((w.alloc o0).alloc o1) o2;have n3:=gm (((w.alloc o0).alloc o1).alloc o2) o3;have n4:=gm ((((w.alloc o0).alloc o1).alloc o2).alloc o3) o4;have n5:=gm (((((w.alloc o0).alloc o1).alloc o2).alloc o3).alloc o4) o5;simp only[fJ] at n0 n1 n2 n3 n4 n5;have st:∀(v:World)(o:Obj)(k:Nat),k<v.heap.size->(v.alloc o).heap[k]? = v.heap[k]?:=fun v o k hk=>Below.heap_alloc v o k hk
 refine⟨?_,?_,?_,?_,?_,n5,?_,by simp[W]⟩
 .rw[st _ _ _ (by simp <;> omega),st _ _ _ (by simp <;> omega),st _ _ _ (by simp <;> omega),st _ _ _ (by simp <;> omega),st _ _ _ mSi];exact n0
 .rw[st _ _ _ (by simp <;> omega),st _ _ _ (by simp <;> omega),st _ _ _ (by simp <;> omega),st _ _ _ mSi];exact n1
 .rw[st _ _ _ (by simp <;> omega),st _ _ _ (by simp <;> omega),st _ _ _ mSi];exact n2
 .rw[st _ _ _ (by simp <;> omega),st _ _ _ mSi];exact n3
 .rw[st _ _ _ mSi];exact n4
 .exact(((((aq w o0).alloc mSi o1).alloc (by simp <;> omega) o2).alloc (by simp <;> omega) o3).alloc (by simp <;> omega) o4).alloc (by simp <;> omega) o5
theorem kF{fn:Func}{p u:Tmp}(h:fn.results=#[.cell p 65,.tmp u])(tmps:Array Value)(w:World)(g:Nat)(x:aC)(hp:tmps.getD p undef=Od (Og ⟨g,0,Oh⟩))(hg:w.heap[g]? = Og (Of x.cells 65 (0,0))) :
  (results fn tmps).run prog w=.ok (.tuple #[x.val,tmps.getD u undef]) w:=by
 rw[results_cell_tmp h,hp];have:=run_loadVar_row (P:=prog) w g 65 65 x.cells (0,0) _ hg underlying65 rfl mKr;simp only[asAddr,Sem.run_pure,Result.andThen_ok,this];rfl
open Classical in
theorem CO(x:fc)(roots:List aC)(r:bH)(asof:Int):dS x roots r asof=if kA x≠0 then kA x else if jud2 x roots r≠0 then jud2 x roots r else tO x (dW x roots) asof:=by
 unfold dS jud2 tO;by_cases h1:kA x=0 <;> by_cases h2:r.school=x.school <;> by_cases h3:((dO roots x.school).length:Int)<=x.root <;> by_cases h4:cK r ((dO roots x.school).take (x.root.toNat+1))=0 <;> simp only[h1,h2,h3,h4,ne_eq,not_true_eq_false,not_false_eq_true,if_true,if_false] <;> rfl
theorem Hj{x:fc}(h:kA x=0):0<=x.root/\x.root<=199:=by
 unfold kA at h
 split at h;· cases h
 split at h;· cases h
 split at h;· cases h
 rename_i h3
 exact between_iff.1 (by simpa using h3)
theorem uu(r:bH):∀(p:Option aC)(l:List aC),dE r p l=0->∀x∈l,0<=x.size/\x.size<=2000
 | _,[],_,_,hx=>by cases hx
 | p,y::l,h,x,hx=>by
  unfold dE at h;by_cases hy:eF r p y=0
  .rw[if_neg (fun hn=>hn hy)] at h;rcases bM.1 hx with rfl|hx
   .unfold eF at hy
    split at hy;· cases hy
    split at hy;· cases hy
    rename_i h2
    exact between_iff.1 (by simpa using h2)
   .exact uu r (Og y) l h x hx
  .rw[if_pos hy] at h;exact absurd h hy
theorem Gi{x:fc}{roots:List aC}{r:bH}(h0:0<=x.root)(h:jud2 x roots r=0):0<=(dW x roots).size/\(dW x roots).size<=2000:=by
 unfold jud2 at h
 split at h;· cases h
 split at h;· cases h
 rename_i h2
 have hre:=oI h
 refine uu r Oh _ hre _ ?_;unfold dW;have hlt:x.root.toNat<(dO roots x.school).length:=mOm;have e:(dO roots x.school).getD x.root.toNat rootZ=(dO roots x.school)[x.root.toNat]:=by rw[bi,ai hlt];rfl
 rw[e];exact List.mem_of_getElem? (i:=x.root.toNat) (by rw[List.getElem?_take_of_lt mOm,ai hlt])
open Classical in
noncomputable def pk(x:fc)(roots:List aC)(r:bH)(asof:Int):aC:=if dS x roots r asof=0 then dW x roots else rootZ
structure JudIn (x:fc) (pl pp:Option Addr) (cl cp:Nat) (roots:List aC) (pr:Option Addr) (cr:Nat) (r:bH) (g:Nat) (w:World):Prop where
 ext:ExtIn x pl pp cl cp w
 roots:ar cY w (Oc pr roots.length cr) roots
 keys:cR w g r.keys
 at_:g<w.heap.size
 ready:Wr.Ready w
theorem JudIn.below{x:fc}{pl pp:Option Addr}{cl cp:Nat}{roots:List aC}{pr:Option Addr}{cr:Nat}{r:bH}{g:Nat}{w w':World}(h:JudIn x pl pp cl cp roots pr cr r g w)(hb:ac w.heap.size w w'):JudIn x pl pp cl cp roots pr cr r g w':=
 ⟨h.ext.below hb,h.roots.below hb,h.keys.below hb h.at_,ax h.at_ hb.size,bC h.ready hb⟩
structure JudOk (x:fc) (roots:List aC) (r:bH):Prop where
 ext:x.Fit
 many:roots.length<=1000000
 roots:∀y∈roots,y.Ok
 keys:r.keys.length<=1000
 secrets:∀k∈r.keys,k.secret.size<=100000
 school:I64 r.school
theorem oe{p:Prop} (h:p:=by
 go_wp2_with fail;refine bodyPost_ret (kF results39 _ _ (w.heap.size+1+1+1+1) rootZ rfl HZZ.out) rfl ⟨?_,hbb⟩
 rw[HN.out,HN2.out];rfl):p:=h
theorem qx{p q:Prop}(h:q) (f:Wq q->p:=by
 intro hq;have a0:w3.cell? ⟨w.heap.size+1+1+1+1,0,Oh⟩=Og (N9 Oa rt.school):=ae ha3 0;have af0:w3.frozen? ⟨w.heap.size+1+1+1+1,0,Oh⟩=false:=aE ha3 0;have a1:w3.cell? ⟨w.heap.size+1+1+1+1,1,Oh⟩=Og (N9 Oa rt.size):=ae ha3 1;have af1:w3.frozen? ⟨w.heap.size+1+1+1+1,1,Oh⟩=false:=aE ha3 1;have a2:w3.cell? ⟨w.heap.size+1+1+1+1,2,Oh⟩=Og (N9 Oa rt.day):=ae ha3 2;have af2:w3.frozen? ⟨w.heap.size+1+1+1+1,2,Oh⟩=false:=aE ha3 2;have a3:w3.cell? ⟨w.heap.size+1+1+1+1,3,Oh⟩=Og (Ob rt.tree):=ae ha3 3;have af3:w3.frozen? ⟨w.heap.size+1+1+1+1,3,Oh⟩=false:=aE ha3 3;have a4:w3.cell? ⟨w.heap.size+1+1+1+1,4,Oh⟩=Og (Ob rt.before):=ae ha3 4;have af4:w3.frozen? ⟨w.heap.size+1+1+1+1,4,Oh⟩=false:=aE ha3 4;have a5:w3.cell? ⟨w.heap.size+1+1+1+1,5,Oh⟩=Og (N9 Oa rt.key):=ae ha3 5;have af5:w3.frozen? ⟨w.heap.size+1+1+1+1,5,Oh⟩=false:=aE ha3 5;have a6:w3.cell? ⟨w.heap.size+1+1+1+1,6,Oh⟩=Og (Ob rt.mark):=ae ha3 6;have af6:w3.frozen? ⟨w.heap.size+1+1+1+1,6,Oh⟩=false:=aE ha3 6
 revert a0 af0 a1 af1 a2 af2 a3 af3 a4 af4 a5 af5 a6 af6
 exact hq.1):p:=f ⟨h⟩
theorem A0(x:fc)(pl pp:Option Addr)(cl cp:Nat)(roots:List aC)(pr:Option Addr)(cr:Nat)(r:bH)(g c:Nat)(asof:Int)(w:World)(hk:JudOk x roots r)(hi:JudIn x pl pp cl cp roots pr cr r g w) :
  Calls prog 39 #[.agg (x.cells pl pp cl cp),Oc pr roots.length cr,.agg #[N9 Oa r.school,Oc (Og ⟨g,0,Oh⟩) r.keys.length c],N9 Oa asof] w fun e w'=>e=Oe (.tuple #[(pk x roots r asof).val,N9 Oa (dS x roots r asof)])/\ac w.heap.size w w':=by
 have six:=I3 w (Of (x.cells pl pp cl cp) 39) (Of #[Oc pr roots.length cr] 35) (Of #[N9 Oa r.school,Oc (Og ⟨g,0,Oh⟩) r.keys.length c] 33) (Of #[N9 Oa asof] 3) (Of rootZ.cells 65) (Of #[Oc Oh 0 0] 35);obtain⟨W6,hW6⟩:∃u,u=(((((w.alloc (Of (x.cells pl pp cl cp) 39)).alloc (Of #[Oc pr roots.length cr] 35)).alloc (Of #[N9 Oa r.school,Oc (Og ⟨g,0,Oh⟩) r.keys.length c] 33)).alloc (Of #[N9 Oa asof] 3)).alloc (Of rootZ.cells 65)).alloc (Of #[Oc Oh 0 0] 35):=⟨_,rfl⟩;rw[<-hW6] at six;obtain⟨h0,h1,h2,h3,h4,h5,hb6,hs6⟩:=six;obtain⟨SO,hSO⟩:∃o:Obj,o=Of #[.func (.func 86) #[] #[Od (Og ⟨w.heap.size,0,Oh⟩)],.func (.func 88) #[] #[Od (Og ⟨w.heap.size+1+1,0,Oh⟩),Od (Og ⟨w.heap.size,0,Oh⟩),Od (Og ⟨w.heap.size+1,0,Oh⟩),Od (Og ⟨w.heap.size+1+1+1+1+1,0,Oh⟩),Od (Og ⟨w.heap.size+1+1+1+1,0,Oh⟩)],.func (.func 91) #[] #[Od (Og ⟨w.heap.size+1+1+1+1,0,Oh⟩),Od (Og ⟨w.heap.size+1+1+1,0,Oh⟩),Od (Og ⟨w.heap.size,0,Oh⟩)]] 150 (0,0):=⟨_,rfl⟩;have hbU:=ah hb6 (aj W6 SO);have hst:=heap_alloc_new W6 SO;rw[hs6] at hst;have hUW:=aj W6 SO;obtain⟨U,hU⟩:∃u,u=W6.alloc SO:=⟨_,rfl⟩;rw[<-hU] at hbU hst hUW;have k0:=(hUW.block _ (aG h0)).trans h0;have k1:=(hUW.block _ (aG h1)).trans h1;have k2:=(hUW.block _ (aG h2)).trans h2;have k3:=(hUW.block _ (aG h3)).trans h3;have k4:=(hUW.block _ (aG h4)).trans h4;have k5:=(hUW.block _ (aG h5)).trans h5;have HUE:Hid ((((((((w.alloc (Of #[N9 Oa x.school,N9 Oa x.student,N9 Oa x.first,N9 Oa x.last,N9 Oa x.root,Oc pl x.lines.length cl,Oc pp x.proof.length cp] 39)).alloc (Of #[Oc pr roots.length cr] 35)).alloc (Of #[N9 Oa r.school,Oc (Og ⟨g,0,Oh⟩) r.keys.length c] 33)).alloc (Of #[N9 Oa asof] 3)).alloc (Of #[N9 Oa 0,N9 Oa 0,N9 Oa 0,Ob ⟨#[]⟩,Ob ⟨#[]⟩,N9 Oa 0,Ob ⟨#[]⟩] 65)).alloc (Of #[Oc Oh 0 0] 35)).alloc (Of #[.func (.func 86) #[] #[Od (Og ⟨w.heap.size,0,Oh⟩)],.func (.func 88) #[] #[Od (Og ⟨w.heap.size+1+1,0,Oh⟩),Od (Og ⟨w.heap.size,0,Oh⟩),Od (Og ⟨w.heap.size+1,0,Oh⟩),Od (Og ⟨w.heap.size+1+1+1+1+1,0,Oh⟩),Od (Og ⟨w.heap.size+1+1+1+1,0,Oh⟩)],.func (.func 91) #[] #[Od (Og ⟨w.heap.size+1+1+1+1,0,Oh⟩),Od (Og ⟨w.heap.size+1+1+1,0,Oh⟩),Od (Og ⟨w.heap.size,0,Oh⟩)]] 150))=U):=aa (by rw[hU,hW6,hSO];rfl);rw[hSO] at hst;clear hU hW6 hSO hUW hs6;have hiU:=hi.below hbU;have HI:=aa hi;have HV:=aa (CO x roots r asof)
 have HRT:Hid (∀n rt,dS x roots r asof=n->(n=0->rt=dW x roots)->(n≠0->rt=rootZ)->pk x roots r asof=rt):=aa (fun n rt hn h1 h2=>by
  unfold pk;rw[hn];by_cases h:n=0
  .rw[if_pos h,h1 h]
  .rw[if_neg h,h2 h])
 have HSZ:=aa (fun h0 h=>Gi (x:=x) (roots:=roots) (r:=r) h0 h)
 have HROOT:=aa (fun h=>Hj (x:=x) h);generalize dS x roots r asof=V at *;generalize pk x roots r asof=RT at *;have kc1:=Gj w.heap.size x hk.ext pl pp cl cp U k0 hiU.ext hiU.ready;clear h0 h1 h2 h3 h4 h5 hi;go_enter func39,ntmps39;unfold fc.cells;go_wp2_with fail;rw[HUE.out];clear HUE;have s0:=ae hst 0;have s1:=ae hst 1;have s2:=ae hst 2;replace s0:U.cell? ⟨w.heap.size+1+1+1+1+1+1,0,Oh⟩=Og (.func (.func 86) #[] #[Od (Og ⟨w.heap.size,0,Oh⟩)]):=s0;refine wp_loop_rounds 4 ?_;rw[rounds_succ];go_wp2_with fail;refine kc1.mono ?_;clear kc1;rintro _ w1⟨rfl,hb1⟩;have m0:=(hb1.block _ (aG k0)).trans k0;have m1:=(hb1.block _ (aG k1)).trans k1;have m2:=(hb1.block _ (aG k2)).trans k2;have m3:=(hb1.block _ (aG k3)).trans k3;have m4:=(hb1.block _ (aG k4)).trans k4;have m5:=(hb1.block _ (aG k5)).trans k5;have ms:=(hb1.block _ (aG hst)).trans hst;have hbw1:=ah hbU hb1;have hi1:=hiU.below hb1;clear k0 k1 k2 k3 k4 k5 hst s0 s1 s2 hb1 hiU;by_cases hx0:kA x=0
 rotate_left 1
 .have t1:(kA x != 0)=true:=by rw[bne_iff_ne];exact hx0
  have hN:=HV.out.trans (if_pos hx0);have HN:=aa (HRT.out _ rootZ hN (fun h=>absurd h hx0) (fun _=>rfl));have HN2:=aa hN;clear HV HRT HSZ HROOT hN;generalize kA x=n at *;clear m0 m1 m2 m3 m5 ms;have a0:w1.cell? ⟨w.heap.size+1+1+1+1,0,Oh⟩=Og (N9 Oa 0):=ae m4 0;have af0:w1.frozen? ⟨w.heap.size+1+1+1+1,0,Oh⟩=false:=aE m4 0;have a1:w1.cell? ⟨w.heap.size+1+1+1+1,1,Oh⟩=Og (N9 Oa 0):=ae m4 1;have af1:w1.frozen? ⟨w.heap.size+1+1+1+1,1,Oh⟩=false:=aE m4 1;have a2:w1.cell? ⟨w.heap.size+1+1+1+1,2,Oh⟩=Og (N9 Oa 0):=ae m4 2;have af2:w1.frozen? ⟨w.heap.size+1+1+1+1,2,Oh⟩=false:=aE m4 2;have a3:w1.cell? ⟨w.heap.size+1+1+1+1,3,Oh⟩=Og (Ob ⟨#[]⟩):=ae m4 3;have af3:w1.frozen? ⟨w.heap.size+1+1+1+1,3,Oh⟩=false:=aE m4 3;have a4:w1.cell? ⟨w.heap.size+1+1+1+1,4,Oh⟩=Og (Ob ⟨#[]⟩):=ae m4 4;have af4:w1.frozen? ⟨w.heap.size+1+1+1+1,4,Oh⟩=false:=aE m4 4;have a5:w1.cell? ⟨w.heap.size+1+1+1+1,5,Oh⟩=Og (N9 Oa 0):=ae m4 5;have af5:w1.frozen? ⟨w.heap.size+1+1+1+1,5,Oh⟩=false:=aE m4 5;have a6:w1.cell? ⟨w.heap.size+1+1+1+1,6,Oh⟩=Og (Ob ⟨#[]⟩):=ae m4 6;have af6:w1.frozen? ⟨w.heap.size+1+1+1+1,6,Oh⟩=false:=aE m4 6;have hzz:=(bj (bj (bj (bj (bj (bj (bj m4 0 (N9 Oa 0)) 1 (N9 Oa 0)) 2 (N9 Oa 0)) 3 (Ob ⟨#[]⟩)) 4 (Ob ⟨#[]⟩)) 5 (N9 Oa 0)) 6 (Ob ⟨#[]⟩));have hbb:=(((((((hbw1.setCell (p:=⟨w.heap.size+1+1+1+1,0,Oh⟩) (show w.heap.size<=w.heap.size+1+1+1+1 by omega) (N9 Oa 0)).setCell (p:=⟨w.heap.size+1+1+1+1,1,Oh⟩) (show w.heap.size<=w.heap.size+1+1+1+1 by omega) (N9 Oa 0)).setCell (p:=⟨w.heap.size+1+1+1+1,2,Oh⟩) (show w.heap.size<=w.heap.size+1+1+1+1 by omega) (N9 Oa 0)).setCell (p:=⟨w.heap.size+1+1+1+1,3,Oh⟩) (show w.heap.size<=w.heap.size+1+1+1+1 by omega) (Ob ⟨#[]⟩)).setCell (p:=⟨w.heap.size+1+1+1+1,4,Oh⟩) (show w.heap.size<=w.heap.size+1+1+1+1 by omega) (Ob ⟨#[]⟩)).setCell (p:=⟨w.heap.size+1+1+1+1,5,Oh⟩) (show w.heap.size<=w.heap.size+1+1+1+1 by omega) (N9 Oa 0)).setCell (p:=⟨w.heap.size+1+1+1+1,6,Oh⟩) (show w.heap.size<=w.heap.size+1+1+1+1 by omega) (Ob ⟨#[]⟩));have HZZ:=aa hzz;clear hzz m4;exact oe
 have t1:(kA x != 0)=false:=by rw[bne_eq_false_iff_eq];exact hx0
 have HV2:=aa (HV.out.trans (if_neg (fun h=>h hx0)));have hro:=HROOT.out hx0;clear HV HROOT;rw[hx0];clear hx0 t1;have s1:w1.cell? ⟨w.heap.size+1+1+1+1+1+1,1,Oh⟩=Og (.func (.func 88) #[] #[Od (Og ⟨w.heap.size+1+1,0,Oh⟩),Od (Og ⟨w.heap.size,0,Oh⟩),Od (Og ⟨w.heap.size+1,0,Oh⟩),Od (Og ⟨w.heap.size+1+1+1+1+1,0,Oh⟩),Od (Og ⟨w.heap.size+1+1+1+1,0,Oh⟩)]):=ae ms 1;have kc2:=Gk (w.heap.size+1+1) w.heap.size (w.heap.size+1) (w.heap.size+1+1+1+1+1) (w.heap.size+1+1+1+1) x hk.ext hro.1 roots hk.many hk.roots pr cr r g c pl pp cl cp w1 m0 m2 m1 m5 m4 hi1.roots hi1.keys hi1.at_ hk.keys hk.secrets hk.school hi1.ready.sane.1 mOm mOm mOm (by have:=HI.out.at_;omega) mOm (fun w' hb=>HI.out.ready.sane.1.below (hbw1.trans (hb.below (B:=w.heap.size) (fun k hkk e=>by omega) hbw1.size)));go_wp2_with fail;rw[rounds_succ];go_wp2_with fail;refine kc2.mono ?_;clear kc2;rintro _ w2⟨rfl,hbu,rt,ha2,hrt⟩;have hbw2:=hbw1.trans (hbu.below (B:=w.heap.size) (fun k hkk e=>by omega) hbw1.size);have q0:=hbu.heap m0 mOm;have q3:=hbu.heap m3 mOm;have qs:=hbu.heap ms mOm;clear m0 m1 m2 m3 m4 m5 ms s1 hbu hi1 hbw1;by_cases hj:jud2 x roots r=0
 rotate_left 1
 .have t1:(jud2 x roots r != 0)=true:=by rw[bne_iff_ne];exact hj
  have hN:=HV2.out.trans (if_pos hj);have HN:=aa (HRT.out _ rootZ hN (fun h=>absurd h hj) (fun _=>rfl));have HN2:=aa hN;clear HV2 HRT HSZ hN hrt;generalize jud2 x roots r=n at *;clear q0 q3 qs;have a0:w2.cell? ⟨w.heap.size+1+1+1+1,0,Oh⟩=Og (N9 Oa rt.school):=ae ha2 0;have af0:w2.frozen? ⟨w.heap.size+1+1+1+1,0,Oh⟩=false:=aE ha2 0;have a1:w2.cell? ⟨w.heap.size+1+1+1+1,1,Oh⟩=Og (N9 Oa rt.size):=ae ha2 1;have af1:w2.frozen? ⟨w.heap.size+1+1+1+1,1,Oh⟩=false:=aE ha2 1;have a2:w2.cell? ⟨w.heap.size+1+1+1+1,2,Oh⟩=Og (N9 Oa rt.day):=ae ha2 2;have af2:w2.frozen? ⟨w.heap.size+1+1+1+1,2,Oh⟩=false:=aE ha2 2;have a3:w2.cell? ⟨w.heap.size+1+1+1+1,3,Oh⟩=Og (Ob rt.tree):=ae ha2 3;have af3:w2.frozen? ⟨w.heap.size+1+1+1+1,3,Oh⟩=false:=aE ha2 3;have a4:w2.cell? ⟨w.heap.size+1+1+1+1,4,Oh⟩=Og (Ob rt.before):=ae ha2 4;have af4:w2.frozen? ⟨w.heap.size+1+1+1+1,4,Oh⟩=false:=aE ha2 4;have a5:w2.cell? ⟨w.heap.size+1+1+1+1,5,Oh⟩=Og (N9 Oa rt.key):=ae ha2 5;have af5:w2.frozen? ⟨w.heap.size+1+1+1+1,5,Oh⟩=false:=aE ha2 5;have a6:w2.cell? ⟨w.heap.size+1+1+1+1,6,Oh⟩=Og (Ob rt.mark):=ae ha2 6;have af6:w2.frozen? ⟨w.heap.size+1+1+1+1,6,Oh⟩=false:=aE ha2 6;have hzz:=(bj (bj (bj (bj (bj (bj (bj ha2 0 (N9 Oa 0)) 1 (N9 Oa 0)) 2 (N9 Oa 0)) 3 (Ob ⟨#[]⟩)) 4 (Ob ⟨#[]⟩)) 5 (N9 Oa 0)) 6 (Ob ⟨#[]⟩));have hbb:=(((((((hbw2.setCell (p:=⟨w.heap.size+1+1+1+1,0,Oh⟩) (show w.heap.size<=w.heap.size+1+1+1+1 by omega) (N9 Oa 0)).setCell (p:=⟨w.heap.size+1+1+1+1,1,Oh⟩) (show w.heap.size<=w.heap.size+1+1+1+1 by omega) (N9 Oa 0)).setCell (p:=⟨w.heap.size+1+1+1+1,2,Oh⟩) (show w.heap.size<=w.heap.size+1+1+1+1 by omega) (N9 Oa 0)).setCell (p:=⟨w.heap.size+1+1+1+1,3,Oh⟩) (show w.heap.size<=w.heap.size+1+1+1+1 by omega) (Ob ⟨#[]⟩)).setCell (p:=⟨w.heap.size+1+1+1+1,4,Oh⟩) (show w.heap.size<=w.heap.size+1+1+1+1 by omega) (Ob ⟨#[]⟩)).setCell (p:=⟨w.heap.size+1+1+1+1,5,Oh⟩) (show w.heap.size<=w.heap.size+1+1+1+1 by omega) (N9 Oa 0)).setCell (p:=⟨w.heap.size+1+1+1+1,6,Oh⟩) (show w.heap.size<=w.heap.size+1+1+1+1 by omega) (Ob ⟨#[]⟩));have HZZ:=aa hzz;clear hzz ha2;exact oe
 have t1:(jud2 x roots r != 0)=false:=by rw[bne_eq_false_iff_eq];exact hj
 have HV3:=aa (HV2.out.trans (if_neg (fun h=>h hj)));have hsz:=HSZ.out hro.1 hj;obtain⟨hra,hmem⟩:=hrt hj;rw[<-hra] at hsz HV3;have HRA:=aa hra;clear HV2 HSZ hra hrt;rw[hj];clear hj t1;have s2:w2.cell? ⟨w.heap.size+1+1+1+1+1+1,2,Oh⟩=Og (.func (.func 91) #[] #[Od (Og ⟨w.heap.size+1+1+1+1,0,Oh⟩),Od (Og ⟨w.heap.size+1+1+1,0,Oh⟩),Od (Og ⟨w.heap.size,0,Oh⟩)]):=ae qs 2;have kc3:=Gl (w.heap.size+1+1+1+1) (w.heap.size+1+1+1) w.heap.size x hk.ext rt (hk.roots rt hmem).size mOm asof pl pp cl cp w2 q0 ha2 q3 (HI.out.ext.below hbw2) (bC HI.out.ready hbw2);go_wp2_with fail;rw[rounds_succ];go_wp2_with fail;refine kc3.mono ?_;clear kc3;rintro _ w3⟨rfl,hb3⟩;have hbw3:=ah hbw2 hb3;have ha3:=(hb3.block _ (aG ha2)).trans ha2;clear q0 q3 qs s2 hb3 hbw2 ha2;by_cases hj:tO x rt asof=0
 rotate_left 1
 .have t1:(tO x rt asof != 0)=true:=by rw[bne_iff_ne];exact hj
  have HN:=aa (HRT.out _ rootZ HV3.out (fun h=>absurd h hj) (fun _=>rfl));have HN2:=HV3;clear HRT HV3;generalize tO x rt asof=n at *;refine qx ?_;intro a0 af0 a1 af1 a2 af2 a3 af3 a4 af4 a5 af5 a6 af6;have hzz:=(bj (bj (bj (bj (bj (bj (bj ha3 0 (N9 Oa 0)) 1 (N9 Oa 0)) 2 (N9 Oa 0)) 3 (Ob ⟨#[]⟩)) 4 (Ob ⟨#[]⟩)) 5 (N9 Oa 0)) 6 (Ob ⟨#[]⟩));have hbb:=(((((((hbw3.setCell (p:=⟨w.heap.size+1+1+1+1,0,Oh⟩) (show w.heap.size<=w.heap.size+1+1+1+1 by omega) (N9 Oa 0)).setCell (p:=⟨w.heap.size+1+1+1+1,1,Oh⟩) (show w.heap.size<=w.heap.size+1+1+1+1 by omega) (N9 Oa 0)).setCell (p:=⟨w.heap.size+1+1+1+1,2,Oh⟩) (show w.heap.size<=w.heap.size+1+1+1+1 by omega) (N9 Oa 0)).setCell (p:=⟨w.heap.size+1+1+1+1,3,Oh⟩) (show w.heap.size<=w.heap.size+1+1+1+1 by omega) (Ob ⟨#[]⟩)).setCell (p:=⟨w.heap.size+1+1+1+1,4,Oh⟩) (show w.heap.size<=w.heap.size+1+1+1+1 by omega) (Ob ⟨#[]⟩)).setCell (p:=⟨w.heap.size+1+1+1+1,5,Oh⟩) (show w.heap.size<=w.heap.size+1+1+1+1 by omega) (N9 Oa 0)).setCell (p:=⟨w.heap.size+1+1+1+1,6,Oh⟩) (show w.heap.size<=w.heap.size+1+1+1+1 by omega) (Ob ⟨#[]⟩));have HZZ:=aa hzz;clear hzz ha3;exact oe
 have t1:(tO x rt asof != 0)=false:=by rw[bne_eq_false_iff_eq];exact hj
 have HN2:=aa (HV3.out.trans hj);have HN:=aa (HRT.out 0 rt HN2.out (fun _=>HRA.out) (fun h=>absurd rfl h));clear HRT HV3;rw[hj];clear hj t1;go_wp2_with fail;rw[rounds_succ];refine qx ?_;intro a0 af0 a1 af1 a2 af2 a3 af3 a4 af4 a5 af5 a6 af6;have hzz:=(bj (bj (bj (bj (bj (bj (bj ha3 0 (N9 Oa rt.school)) 1 (N9 Oa rt.size)) 2 (N9 Oa rt.day)) 3 (Ob rt.tree)) 4 (Ob rt.before)) 5 (N9 Oa rt.key)) 6 (Ob rt.mark));have hbb:=(((((((hbw3.setCell (p:=⟨w.heap.size+1+1+1+1,0,Oh⟩) (show w.heap.size<=w.heap.size+1+1+1+1 by omega) (N9 Oa rt.school)).setCell (p:=⟨w.heap.size+1+1+1+1,1,Oh⟩) (show w.heap.size<=w.heap.size+1+1+1+1 by omega) (N9 Oa rt.size)).setCell (p:=⟨w.heap.size+1+1+1+1,2,Oh⟩) (show w.heap.size<=w.heap.size+1+1+1+1 by omega) (N9 Oa rt.day)).setCell (p:=⟨w.heap.size+1+1+1+1,3,Oh⟩) (show w.heap.size<=w.heap.size+1+1+1+1 by omega) (Ob rt.tree)).setCell (p:=⟨w.heap.size+1+1+1+1,4,Oh⟩) (show w.heap.size<=w.heap.size+1+1+1+1 by omega) (Ob rt.before)).setCell (p:=⟨w.heap.size+1+1+1+1,5,Oh⟩) (show w.heap.size<=w.heap.size+1+1+1+1 by omega) (N9 Oa rt.key)).setCell (p:=⟨w.heap.size+1+1+1+1,6,Oh⟩) (show w.heap.size<=w.heap.size+1+1+1+1 by omega) (Ob rt.mark));have HZZ:=aa hzz;clear hzz ha3;go_wp2_with fail;refine bodyPost_ret (kF results39 _ _ (w.heap.size+1+1+1+1) rt rfl HZZ.out) rfl ⟨?_,hbb⟩;rw[HN.out,HN2.out];rfl
end
section
structure VerE where
 ents:List Ent
 hidden:Int
 clean:Bool
@[reducible] def VerE.val(v:VerE)(p:Option Addr)(c:Nat):Value:=.agg #[Oc p v.ents.length c,N9 Oa v.hidden,.bool v.clean]
theorem uH(v:VerE)(p:Option Addr)(c:Nat)(w:World) :
  Calls prog 19 #[v.val p c] w fun e w'=>e=Oe (.bool (v.hidden==0))/\ac w.heap.size w w':=by
 obtain⟨l,h,b⟩:=v;go_enter func19,ntmps19;go_wp2_with fail;go_ret;exact⟨rfl,aj _ _⟩
theorem BJ(x0 x1 x2 x3 x4 x5 x7 x8 x9 x10 x11 x12 x13 y0 y1 y2 y3 y4 y5 y7 y8 y9 y10 y11 y12 y13:Int)(x6 x14 y6 y14:ByteArray)(w:World):(binOp .neq 67 (.agg #[N9 Oa x0,N9 Oa x1,N9 Oa x2,N9 Oa x3,N9 Oa x4,N9 Oa x5,Ob x6,N9 Oa x7,N9 Oa x8,N9 Oa x9,N9 Oa x10,N9 Oa x11,N9 Oa x12,N9 Oa x13,Ob x14]) (.agg #[N9 Oa y0,N9 Oa y1,N9 Oa y2,N9 Oa y3,N9 Oa y4,N9 Oa y5,Ob y6,N9 Oa y7,N9 Oa y8,N9 Oa y9,N9 Oa y10,N9 Oa y11,N9 Oa y12,N9 Oa y13,Ob y14])).run prog w=.ok (.bool (!eqE ⟨x0,x1,x2,x3,x4,x5,x6,x7,x8,x9,x10,x11,x12,x13,x14⟩ ⟨y0,y1,y2,y3,y4,y5,y6,y7,y8,y9,y10,y11,y12,y13,y14⟩)) w:=
 EM ⟨x0,x1,x2,x3,x4,x5,x6,x7,x8,x9,x10,x11,x12,x13,x14⟩ ⟨y0,y1,y2,y3,y4,y5,y6,y7,y8,y9,y10,y11,y12,y13,y14⟩ w
attribute [local go_sem ↓] BJ
attribute [local go_sem] Ent.cells
theorem xM(a b:List Ent)(p1 p2:Option Addr)(c1 c2:Nat)(w:World)(ha:ar bL w (Oc p1 a.length c1) a)(hb:ar bL w (Oc p2 b.length c2) b)(hn:a.length<=1000000) :
  Calls prog 52 #[Oc p1 a.length c1,Oc p2 b.length c2] w (mf (a=b) w):=by
 have HA:=aa ha;have HB:=aa hb;clear ha hb;go_enter func52,ntmps52;by_cases hl:a.length=b.length
 rotate_left 1
 .have t1:((a.length:Int) != (b.length:Int))=true:=by rw[bne_iff_ne];omega
  have HN:Hid (¬a=b):=aa (fun e=>hl (by rw[e]));clear hl;go_wp2_with fail;go_ret;exact⟨false,rfl,⟨fun e=>(by cases e),fun h=>absurd h HN.out⟩,Below.refl _ _⟩
 have t1:((a.length:Int) != (b.length:Int))=false:=by rw[bne_eq_false_iff_eq];omega
 have HLN:=aa hl;clear hl;go_wp2_with fail
 go_loopw [5] (fun i wr=>∃k:Nat,k<=a.length/\i=N9 Oa k/\Hid (a.take k=b.take k)/\ac w.heap.size w wr) (fun i _=>a.length-(aw i).toNat)
 case atStart=>exact⟨0,aP _,rfl,aa rfl,Below.refl _ _⟩
 case round =>
  obtain⟨k,hk,rfl,HI,hb⟩:=hrel;by_cases hlt:k<a.length
  .obtain⟨g1,o1,rfl,hbl1,hcv1⟩:=dh (kk:=15) HA.out eG rfl mOm;obtain⟨g2,o2,rfl,hbl2,hcv2⟩:=dh (kk:=15) HB.out eG rfl (by have:=HLN.out;omega);have hg1:=ai hlt;have hg2:=ai (show k<b.length by have:=HLN.out;omega);have c01:=hcv1 k _ hg1;have c02:=hcv2 k _ hg2;have HG:=aa (And.intro hg1 hg2);generalize a[k]=x at *;generalize b[k]=y at *;have i1:(k:Int)<(a.length:Int):=mOm;have i2:(k:Int)<(b.length:Int):=by have:=HLN.out;omega
   have i3:(0:Int)<=(k:Int):=mOm
   have keepS:∀{u v:World},(ac w.heap.size w u/\u.rangeAt g1 (o1+k*15) x.cells.toList/\u.rangeAt g2 (o2+k*15) y.cells.toList)->ac u.heap.size u v->(ac w.heap.size w v/\v.rangeAt g1 (o1+k*15) x.cells.toList/\v.rangeAt g2 (o2+k*15) y.cells.toList):=fun h hb =>
    ⟨ah h.1 hb,fun j v hv=>(hb.cell (p:=⟨g1,o1+k*15+j,Oh⟩) (ax hbl1 h.1.size)).trans (h.2.1 j v hv),fun j v hv=>(hb.cell (p:=⟨g2,o2+k*15+j,Oh⟩) (ax hbl2 h.1.size)).trans (h.2.2 j v hv)⟩
   have hS0:=keepS ⟨hb,fun j v hv=>(hb.cell (p:=⟨g1,o1+k*15+j,Oh⟩) hbl1).trans (c01 j v hv),fun j v hv=>(hb.cell (p:=⟨g2,o2+k*15+j,Oh⟩) hbl2).trans (c02 j v hv)⟩ (Below.refl _ wr).drew
   clear hcv1 hcv2 hg1 hg2 c01 c02;obtain⟨x0,x1,x2,x3,x4,x5,x6,x7,x8,x9,x10,x11,x12,x13,x14⟩:=x;obtain⟨y0,y1,y2,y3,y4,y5,y6,y7,y8,y9,y10,y11,y12,y13,y14⟩:=y;simp only[Ent.cells] at hS0 keepS;obtain⟨t,ht⟩:∃t,t=eqE ⟨x0,x1,x2,x3,x4,x5,x6,x7,x8,x9,x10,x11,x12,x13,x14⟩ ⟨y0,y1,y2,y3,y4,y5,y6,y7,y8,y9,y10,y11,y12,y13,y14⟩:=⟨_,rfl⟩;go_wp2_with fail;refine aD (S:=fun u=>ac w.heap.size w u/\u.rangeAt g1 (o1+k*15) (#[N9 Oa x0,N9 Oa x1,N9 Oa x2,N9 Oa x3,N9 Oa x4,N9 Oa x5,Ob x6,N9 Oa x7,N9 Oa x8,N9 Oa x9,N9 Oa x10,N9 Oa x11,N9 Oa x12,N9 Oa x13,Ob x14]:Array Value).toList/\u.rangeAt g2 (o2+k*15) (#[N9 Oa y0,N9 Oa y1,N9 Oa y2,N9 Oa y3,N9 Oa y4,N9 Oa y5,Ob y6,N9 Oa y7,N9 Oa y8,N9 Oa y9,N9 Oa y10,N9 Oa y11,N9 Oa y12,N9 Oa y13,Ob y14]:Array Value).toList) [(0,true),(1,true),(2,true),(3,true),(4,true),(5,true),(6,true),(7,true),(8,true)] hS0 ?_;have hS:=hS0
   iterate 3 refine ak ?_
   refine iO ⟨_,_,_,_,_,_⟩ rfl mRf 67 (.tmp 19) mRf g1 (o1+k*15) mRf (#[N9 Oa x0,N9 Oa x1,N9 Oa x2,N9 Oa x3,N9 Oa x4,N9 Oa x5,Ob x6,N9 Oa x7,N9 Oa x8,N9 Oa x9,N9 Oa x10,N9 Oa x11,N9 Oa x12,N9 Oa x13,Ob x14]:Array Value).toList _ (fun w hSw=>hSw.2.1) underlying67 rfl mKr ?_;refine ay ?_
   iterate 3 refine ak ?_
   refine iO ⟨_,_,_,_,_,_⟩ rfl mRf 67 (.tmp 23) mRf g2 (o2+k*15) mRf (#[N9 Oa y0,N9 Oa y1,N9 Oa y2,N9 Oa y3,N9 Oa y4,N9 Oa y5,Ob y6,N9 Oa y7,N9 Oa y8,N9 Oa y9,N9 Oa y10,N9 Oa y11,N9 Oa y12,N9 Oa y13,Ob y14]:Array Value).toList _ (fun w hSw=>hSw.2.2) underlying67 rfl mKr ?_;refine ay ?_;refine ak ?_;simp only[aQ,aZ];have hbF:=hS.1;clear hS hS0 keepS;rw[<-ht];have HT:=aa ht;clear ht
   cases t
   .have HN:Hid (¬a=b):=aa (fun e=>by
     have h1:=HG.out.1;rw[e,HG.out.2] at h1;have h2:=HT.out.symm;rw[Bool.eq_false_iff] at h2
     exact h2 ((Ah _ _).2 (Option.some.inj h1).symm))
    go_wp2_with fail
    go_ret;exact⟨false,rfl,⟨fun e=>(by cases e),fun h=>absurd h HN.out⟩,hbF⟩
   .have HE:Hid (a.take (k+1)=b.take (k+1)):=aa (by
     rw[aR,aR,HI.out,HG.out.1,HG.out.2,(Ah _ _).1 HT.out.symm])
    go_wp2_with fail
    go_roundw
    case rel=>exact⟨k+1,mOm,by go_num,HE,hbF⟩
    case measure=>simp[aw];omega
  .obtain rfl:k=a.length:=mOm;have i1:¬(a.length:Int)<(a.length:Int):=mOm;go_wp2_with fail;go_ret;refine⟨true,rfl,⟨fun _=>?_,fun _=>rfl⟩,hb⟩;have:=HI.out
   rwa [aT,HLN.out,aT] at this
theorem oK(a b:VerE)(p1 p2:Option Addr)(c1 c2:Nat)(w:World)(ha:ar bL w (Oc p1 a.ents.length c1) a.ents)(hb:ar bL w (Oc p2 b.ents.length c2) b.ents)(hn:a.ents.length<=1000000) :
  Calls prog 17 #[a.val p1 c1,b.val p2 c2] w (mf (a=b) w):=by
 obtain⟨l1,h1,b1⟩:=a;obtain⟨l2,h2,b2⟩:=b;simp only at ha hb hn;have ks:=fun u (hbu:ac w.heap.size w u)=>xM l1 l2 p1 p2 c1 c2 u (ha.below hbu) (hb.below hbu) hn
 have hb2:=(aj w (Of #[Oc p1 l1.length c1,N9 Oa h1,.bool b1] 51)).alloc (Nat.le_of_lt mSi) (Of #[Oc p2 l2.length c2,N9 Oa h2,.bool b2] 51);have KS:=aa ks;clear ks ha hb;go_enter func17,ntmps17;by_cases e1:h1=h2
 rotate_left 1
 .have t1:(h1==h2)=false:=by rw[beq_eq_false_iff_ne];exact e1
  have HN:Hid (¬(⟨l1,h1,b1⟩:VerE)=⟨l2,h2,b2⟩):=aa (fun e=>e1 (congrArg VerE.hidden e));clear e1;go_wp2_with fail;go_ret;exact⟨false,rfl,⟨fun e=>(by cases e),fun h=>absurd h HN.out⟩,hb2⟩
 subst e1
 by_cases e2:b1=b2
 rotate_left 1
 .have t2:(b1==b2)=false:=by rw[beq_eq_false_iff_ne];exact e2
  have HN:Hid (¬(⟨l1,h1,b1⟩:VerE)=⟨l2,h1,b2⟩):=aa (fun e=>e2 (congrArg VerE.clean e));clear e2;go_wp2_with fail;go_ret;exact⟨false,rfl,⟨fun e=>(by cases e),fun h=>absurd h HN.out⟩,hb2⟩
 subst e2
 have t1:(h1==h1)=true:=by rw[beq_iff_eq]
 have t2:(b1==b1)=true:=by rw[beq_iff_eq]
 go_wp2_with fail;refine(KS.out _ hb2).mono ?_;rintro _ w3⟨t,rfl,ht,hb3⟩;have HT:=aa ht;clear ht;have hbz:=ah hb2 hb3;go_wp2_with fail;go_ret;refine⟨t,rfl,⟨fun h=>?_,fun h=>HT.out.2 (congrArg VerE.ents h)⟩,hbz⟩;rw[HT.out.1 h]
end
section
def idL(k:List UInt8):Int:=if k.length=22 then max 0 (fG ((k.drop 14).take 6)) else 0
theorem CL(x:bT)(w:World) :
  Calls prog 78 #[x.val] w fun e w'=>e=Oe (N9 Oa (idL x.key.data.toList))/\ac w.heap.size w w':=by
 have hbb:=aj w (Of #[Ob x.key,Ob x.hash,Ob x.body] 69);obtain⟨k,h,b⟩:=x;simp only at hbb;have HSZ:=aa (bF k);go_enter func78,ntmps78;by_cases hk:k.size=22
 rotate_left 1
 .have t1:((k.size:Int) != 22)=true:=by rw[bne_iff_ne];omega
  have HV:Hid (idL k.data.toList=0):=aa (by unfold idL;rw[<-HSZ.out,if_neg hk]);clear hk;go_wp2_with fail;go_ret;exact⟨aL HV.out.symm,hbb⟩
 .have t1:((k.size:Int) != 22)=false:=by rw[bne_eq_false_iff_eq];omega
  have HV:Hid (idL k.data.toList=max 0 (fG (k.extract 14 20).data.toList)):=aa (by unfold idL;rw[<-HSZ.out,if_pos hk,CB]);have n3:=fun u=>Ee (k.extract 14 20) (by rw[CC];omega) u
  have sl:=fun u=>Dk (P:=prog) u 9 k underlying9 Oa Oa 14 20 mOm mOm mOm
  simp only[show(14:Int).toNat=14 from rfl,show(20:Int).toNat=20 from rfl] at sl;generalize fG (k.extract 14 20).data.toList=N at *;generalize k.extract 14 20=K at *;clear hk;go_wp2_with fail;refine(n3 _).mono ?_;rintro _ w2⟨rfl,rfl⟩;go_wp2_with fail;go_ret;exact⟨aL HV.out.symm,hbb⟩
def lv(n:Int):List Value:=[N9 Oa n]
theorem lR:∀x:Int,(lv x).length=1:=fun _=>rfl
theorem AW(l:List Int)(n:Int)(p:Option Addr)(c:Nat)(w:World)(h:ar lv w (Oc p l.length c) l)(hl:l.length<=1000000) :
  Calls prog 77 #[Oc p l.length c,N9 Oa n] w fun e w'=>e=Oe (.bool (decide (n∈l)))/\ac w.heap.size w w':=by
 have HL:=aa h;clear h;go_enter func77,ntmps77;go_wp2_with fail
 go_loopw [5] (fun i wr=>∃k:Nat,k<=l.length/\i=N9 Oa k/\Hid (n∉l.take k)/\ac w.heap.size w wr) (fun i _=>l.length-(aw i).toNat)
 case atStart=>exact⟨0,aP _,rfl,aa mSi,Below.refl _ _⟩
 case round =>
  obtain⟨k,hk,rfl,HI,hb⟩:=hrel;by_cases hlt:k<l.length
  .obtain⟨g1,o1,rfl,hbl1,hcv1⟩:=dh (kk:=1) HL.out lR rfl mOm;have hg1:=ai hlt;have c01:wr.cell? ⟨g1,o1+k,Oh⟩=Og (N9 Oa l[k]):=by
    have:=hcv1 k _ hg1 0 _ rfl;rw[Nat.mul_one,ew] at this;exact(hb.cell (p:=⟨g1,o1+k,Oh⟩) hbl1).trans this
   have HT:Hid (l.take (k+1)=l.take k++[l[k]]):=aa (by rw[aR,hg1];rfl)
   have HM:=aa (bA hlt);generalize l[k]=x at *;have i1:(k:Int)<(l.length:Int):=mOm;have i3:(0:Int)<=(k:Int):=mOm;clear hcv1 hg1;by_cases hx:x=n
   .have t1:(x==n)=true:=by rw[beq_iff_eq];exact hx
    have HV:Hid (decide (n∈l)=true):=aa (by rw[decide_eq_true_eq,<-hx];exact HM.out);clear hx;go_wp2_with fail;go_ret;exact⟨cF HV.out.symm,hb⟩
   .have t1:(x==n)=false:=by rw[beq_eq_false_iff_ne];exact hx
    have HN:Hid (n∉l.take (k+1)):=aa (by
     rw[HT.out,bI,bE]
     exact fun h=>h.elim HI.out (fun e=>hx e.symm))
    clear hx
    go_wp2_with fail
    go_roundw
    case rel=>exact⟨k+1,mOm,by go_num,HN,hb⟩
    case measure=>simp[aw];omega
  .obtain rfl:k=l.length:=mOm;have i1:¬(l.length:Int)<(l.length:Int):=mOm;have HV:Hid (decide (n∈l)=false):=aa (by have:=HI.out;rw[aT] at this;exact decide_eq_false this);go_wp2_with fail;go_ret;exact⟨cF HV.out.symm,hb⟩
theorem lV(n m:Int)(w:World)(hm:0<m)(hm2:m<=1000000) :
  Calls prog 12 #[N9 Oa n,N9 Oa m] w fun e w'=>e=Oe (N9 Oa (n%m))/\w=w':=by
 have hlo:=Int.lt_tmod_of_pos n hm;have hhi:=Int.tmod_lt_of_pos n hm;have hne:(m==0)=false:=by simp;omega
 have H:=aa (ES n m);go_enter func12,ntmps12;go_wp2
 go_ret;exact⟨aL H.out,rfl⟩
def C0:ByteArray:=⟨#[111,97,107]⟩
theorem iY(s:Int)(w:World) :
  Calls prog 30 #[N9 Oa s] w fun e w'=>∃g,e=Oe (.agg #[N9 Oa 1,Oc (Og ⟨g,0,Oh⟩) 1 1])/\cR w' g [⟨1,C0,0,s⟩]/\w.heap.size<=g/\g<w'.heap.size/\ac w.heap.size w w':=by
 go_enter func30,ntmps30;go_wp2_with fail;have h1:=heap_alloc_new w (Of #[N9 Oa 1,Oc (Og ⟨w.heap.size+1,0,Oh⟩) 1 1] 33);have h2:=heap_alloc_new (w.alloc (Of #[N9 Oa 1,Oc (Og ⟨w.heap.size+1,0,Oh⟩) 1 1] 33)) (Of #[N9 Oa 1,Ob C0,N9 Oa 0,N9 Oa s] 78);have b1:=aj w (Of #[N9 Oa 1,Oc (Og ⟨w.heap.size+1,0,Oh⟩) 1 1] 33);have b2:=aj (w.alloc (Of #[N9 Oa 1,Oc (Og ⟨w.heap.size+1,0,Oh⟩) 1 1] 33)) (Of #[N9 Oa 1,Ob C0,N9 Oa 0,N9 Oa s] 78);have hz:(w.alloc (Of #[N9 Oa 1,Oc (Og ⟨w.heap.size+1,0,Oh⟩) 1 1] 33)).heap.size=w.heap.size+1:=fJ ..;rw[hz] at h2;have h3:=(b2.block _ (av h1)).trans h1;refine bodyPost_ret (v:=.agg #[N9 Oa 1,Oc (Og ⟨w.heap.size+1,0,Oh⟩) 1 1]) (results_cell_row (P:=prog) results30 _ _ w.heap.size 33 #[N9 Oa 1,Oc (Og ⟨w.heap.size+1,0,Oh⟩) 1 1] (0,0) _ rfl h3 underlying33 rfl mKr) rfl ⟨w.heap.size+1,rfl,?_,mOm,av h2,ah b1 b2⟩;intro k e he j v hv;obtain⟨rfl,rfl⟩:k=0/\e=⟨1,C0,0,s⟩:=by
  rcases k with _|k
  .exact⟨rfl,(Option.some.inj he).symm⟩
  .cases he
 have:=ae h2 j
 rw[Nat.zero_mul,bP];refine this.trans ?_;rw[<-hv];simp
def kN(l:List bG)(d:Int):Option bG:=l.reverse.find? fun x=>decide (x.fro<=d)&&(x.stolen==0||decide (d<x.stolen))
theorem Cp{l:List bG}{d:Int}(h:∀x∈l,(decide (x.fro<=d)&&(x.stolen==0||decide (d<x.stolen)))=false):kN l d=Oh:=by unfold kN;rw[List.find?_eq_none];intro x hx;rw[h x (List.mem_reverse.1 hx)];decide
theorem JG{l:List bG}{d:Int}{k:Nat}{x:bG}(hx:l[k]? = Og x)(h:∀y∈l.drop (k+1),(decide (y.fro<=d)&&(y.stolen==0||decide (d<y.stolen)))=false)(hc:(decide (x.fro<=d)&&(x.stolen==0||decide (d<x.stolen)))=true):kN l d=Og x:=by
 have e:l=l.take k++x::l.drop (k+1):=by obtain⟨h1,h2⟩:=aA.1 hx;rw[<-h2,<-cL h1,cP]
 have hn:=Cp h
 unfold kN at hn |-;have h1:List.find? (fun x=>decide (x.fro<=d)&&(x.stolen==0||decide (d<x.stolen))) [x]=Og x:=by rw[List.find?_singleton,if_pos hc]
 rw[e,List.reverse_append,List.reverse_cons,List.find?_append,List.find?_append,hn,h1]
 rfl
def kM(l:List bG)(d:Int):Int:=match kN l d with|some x=>x.id|none=>0
theorem rq{p:Prop} (h:p:=by
 clear HSM HST;go_wp2_with ((with_reducible refine wpList_load_mid (op:=⟨_,_,_,_,_,_⟩) ?_ 78 (.tmp 19) ?_ g (j*4) ?_ (bG.cells ⟨xi,xs,xf,xt⟩).toList _ ?_ underlying78 ?_ ?_ ?_);rfl;rfl;rfl;exact hat;rfl;kernel_rfl)
 go_roundw
 case rel=>exact⟨j,mOm,rfl,HC,hbz⟩
 case measure=>simp[aw]):p:=h
theorem rQ{p:Prop} (h:p:=by
 go_wp2_with ((with_reducible refine wpList_load_mid (op:=⟨_,_,_,_,_,_⟩) ?_ 78 (.tmp 19) ?_ g (j*4) ?_ (bG.cells ⟨xi,xs,xf,xt⟩).toList _ ?_ underlying78 ?_ ?_ ?_);rfl;rfl;rfl;exact hat;rfl;kernel_rfl)
 go_ret2
 refine⟨?_,hbq⟩;unfold kM
 rw[HC.out];rfl):p:=h
theorem xw(g c:Nat)(sc:Int)(l:List bG)(d:Int)(w:World)(hl:l.length<=1000)(hk:cR w g l)(hg:g<w.heap.size) :
  Calls prog 80 #[.agg #[N9 Oa sc,Oc (Og ⟨g,0,Oh⟩) l.length c],N9 Oa d] w
   fun x w'=>x=Oe (.tuple #[N9 Oa (kM l d),.bool (kN l d).isSome])/\ac w.heap.size w w':=by
 have hb0:=tA w (Of #[N9 Oa sc,Oc (Og ⟨g,0,Oh⟩) l.length c] 33);have hh:=heap_alloc_new w (Of #[N9 Oa sc,Oc (Og ⟨g,0,Oh⟩) l.length c] 33);have HK:=aa hk;clear hk;have a0:IntKind.i64.wrap ((l.length:Int)-1)=(l.length:Int)-1:=aH _ mOm;go_enter func80,ntmps80;go_wp2_with fail;obtain⟨W,hW⟩:∃u,u=w.alloc (Of #[N9 Oa sc,Oc (Og ⟨g,0,Oh⟩) l.length c] 33):=⟨_,rfl⟩;rw[<-hW] at hb0 hh |-;clear hW
 go_loopw [6] (fun i wr=>∃k:Nat,k<=l.length/\i=N9 Oa ((k:Int)-1)/\Hid (∀y∈l.drop k,(decide (y.fro<=d)&&(y.stolen==0||decide (d<y.stolen)))=false)/\ac W.heap.size W wr) (fun i _=>(aw i+1).toNat)
 case atStart=>exact⟨l.length,az _,rfl,aa (fun y hy=>by rw[List.drop_length] at hy;cases hy),Below.refl _ _⟩
 case round =>
  obtain⟨k,hk,rfl,HI,hb⟩:=hrel;have hbw:=ah hb0 hb;have hhr:=hb.heap_of hh;have b1:wr.cell? ⟨w.heap.size,1,Oh⟩=Og (Oc (Og ⟨g,0,Oh⟩) l.length c):=ae hhr 1;by_cases hz:k=0
  .subst hz;have HN:Hid (kN l d=Oh):=aa (Cp (by have:=HI.out;rwa [List.drop_zero] at this));have i0:¬(0:Int)<=((0:Nat):Int)-1:=mOm;go_wp2_with fail
   go_ret2
   refine⟨?_,hbw⟩;unfold kM;rw[HN.out];rfl
  .obtain⟨j,rfl⟩:∃j,k=j+1:=⟨k-1,mOm⟩;have hlt:j<l.length:=mOm;have hge:=ai hlt;have hat:wr.rangeAt g (j*4) l[j].cells.toList:=(HK.out.below hbw hg) j _ hge;have HG:=aa hge;generalize l[j]=x at *;clear hge;have e1:((j+1:Nat):Int)-1=(j:Int):=mOm;rw[e1];have i0:(0:Int)<=(j:Int):=mOm;have i1:(j:Int)<(l.length:Int):=mOm;have a1:IntKind.i64.wrap ((j:Int)-1)=(j:Int)-1:=aH _ mOm;have hba:=aj wr (Of #[N9 Oa x.id,Ob x.secret,N9 Oa x.fro,N9 Oa x.stolen] 78);have hhx:=heap_alloc_new wr (Of #[N9 Oa x.id,Ob x.secret,N9 Oa x.fro,N9 Oa x.stolen] 78)
   have HST:Hid ((decide (x.fro<=d)&&(x.stolen==0||decide (d<x.stolen)))=false->∀y∈l.drop j,(decide (y.fro<=d)&&(y.stolen==0||decide (d<y.stolen)))=false):=aa (fun hx y hy=>by
    obtain⟨h1,h2⟩:=aA.1 HG.out;rw[cL h1,h2] at hy;rcases bM.1 hy with rfl|hy
    .exact hx
    .exact HI.out y hy)
   have HSM:Hid ((decide (x.fro<=d)&&(x.stolen==0||decide (d<x.stolen)))=true->kN l d=Og x):=aa (fun hc=>JG HG.out HI.out hc)
   have hbz:=ah hb hba;have hbq:=ah hbw hba;clear HI HG;obtain⟨xi,xs,xf,xt⟩:=x;simp only at hat hba hhx HST HSM;by_cases h1:xf<=d
   rotate_left 1
   .have t1:decide (xf<=d)=false:=decide_eq_false h1;have HC:=aa (HST.out (by rw[t1];rfl));exact rq
   have t1:decide (xf<=d)=true:=decide_eq_true h1
   by_cases h2:xt=0
   .have t2:(xt==0)=true:=by rw[beq_iff_eq];exact h2
    have HC:=aa (HSM.out (by rw[t1,t2];rfl));clear HSM HST h2;exact rQ
   have t2:(xt==0)=false:=by rw[beq_eq_false_iff_ne];exact h2
   by_cases h3:d<xt
   .have t3:decide (d<xt)=true:=decide_eq_true h3;have HC:=aa (HSM.out (by rw[t1,t2,t3];rfl));clear HSM HST;exact rQ
   have t3:decide (d<xt)=false:=decide_eq_false h3
   have HC:=aa (HST.out (by rw[t1,t2,t3];rfl));exact rq
end
section
attribute [local go_sem] Oper.semAt_some
attribute [local go_sem] Ent.cells
theorem oj{α:Type}{enc:α->List Value}{k:Nat}{F:Fence}{n:Nat}{P:Program}{e t:TypeId}(R:RowT P enc k e t){ops:Array Oper}{rest:List Oper}{o:Oper}{a:Act}{w:World}{Q:Exit->Act->World->Prop}(hgd:o.guard=Oh)(s x:Operand)(ho:o.op=.call { callee:=.builtin .append,args:=#[s,x],argTypes:=#[t,t] })
  (base:Nat) (v xv:Value) (X Y:List α) (hs:a.eval s=v) (hxv:a.eval x=xv) (hown:w.ownsRow base e k v X.length (aN enc X)) (hx:ar enc w xv Y) (hl:X.length+Y.length<=1000000) (hb:base<=w.heap.size)
  (h:∀v' w',AppT enc k e w base v X Y v' w'->wpListIn F n P ops Q rest (a.put o.dst v') w'):wpListIn F n P ops Q (o::rest) a w:=by
 refine wpListIn_plain hgd fun K hK'=>?_
 obtain⟨v',w',hrun,h2⟩:=oy R w base o.type v xv X Y hown hx hl hb;unfold Oper.wpIn;refine⟨?_,?_⟩
 .simp[Oper.about,ho,resolve,Target.leads,Sem.run_pure]
 .rw[Oper.semAt_plain F _ _ (by rw[ho];intro c hc';cases hc')];simp[execOp,ho,resolve,invoke,builtin,hs,hxv,hrun,Result.andThen];exact hK' _ _ (h v' w' h2)
theorem Bq(v:Value)(p:Option Addr)(n c:Nat)(hv:v=Oc p n c)(w:World) :
  Calls prog 41 #[v] w fun x w'=>x=Oe (.func (.func 94) #[] #[Od (Og ⟨w.heap.size,0,Oh⟩)])/\w'=w.alloc (Of #[v] 36):=by
 subst hv;go_enter func41,ntmps41;go_wp2_with fail;go_ret;exact⟨rfl,rfl⟩
def Af(y:bT):Option Ent:=if (ek y.body.data.toList).2=0 then Og (ek y.body.data.toList).1 else Oh
def cT(L:List bT):List Ent:=L.filterMap Af
theorem An:∀x:bT,(fX x).length=3:=fun _=>rfl
theorem JR{L:List bT}{j:Nat}{y:bT}(h:L[j]? = Og y)(h0:(ek y.body.data.toList).2=0):(cT (L.take j)).length<(cT L).length/\(cT L).getD (cT (L.take j)).length entZ=(ek y.body.data.toList).1/\(cT (L.take (j+1))).length=(cT (L.take j)).length+1:=by
 have e:L=L.take j++y::L.drop (j+1):=by obtain⟨h1,h2⟩:=aA.1 h;rw[<-h2,<-cL h1,cP]
 have hy:Af y=Og (ek y.body.data.toList).1:=if_pos h0
 have e2:cT L=cT (L.take j)++(ek y.body.data.toList).1::cT (L.drop (j+1)):=by
  conv=>lhs;rw[e]
  unfold cT
  rw[List.filterMap_append,gM hy]
 have e3:cT (L.take (j+1))=cT (L.take j)++[(ek y.body.data.toList).1]:=by unfold cT;rw[aR,h,df,List.filterMap_append,gM hy,List.filterMap_nil]
 refine⟨?_,?_,?_⟩
 .rw[e2,ap,List.length_cons];omega
 .rw[bi,e2,List.getElem?_append_right (az _),Nat.sub_self];rfl
 .rw[e3,ap];rfl
theorem Lu{L:List bT}{j:Nat}{y:bT}(h:L[j]? = Og y)(h0:¬(ek y.body.data.toList).2=0):(cT (L.take (j+1))).length=(cT (L.take j)).length:=by have hy:Af y=Oh:=if_neg h0;unfold cT;rw[aR,h,df,List.filterMap_append,List.filterMap_cons_none hy,List.filterMap_nil,dq]
def yA(sb:Nat)(v:Value)(w0:World)(_k:Nat)(W:World):Prop:=W.heap[sb]? = Og (Of #[v] 36 (0,0))/\ac w0.heap.size w0 W
theorem zE(sb:Nat)(p:Option Addr)(c:Nat)(L:List bT)(w0:World)(hL:L.length<=1000000)(hf:∀y∈L,y.Fit)(hrow:ar fX w0 (Oc p L.length c) L)(hr:Wr.Ready w0) :
  yE 94 #[Od (Og ⟨sb,0,Oh⟩)] (fun k=>#[((cT L).getD k entZ).val]) (cT L).length (fun _=>False) (yA sb (Oc p L.length c) w0):=by
 intro lp I X wL hIs hXs hK0 hI0 hY;have HYY:=aa hY;have HIS:=aa hIs;clear hIs hXs hY;have c0:=ae hK0.1 0;have HROW:=aa hrow;have HR:=aa hr;have HF:=aa hf;clear hrow hr hf;go_enter func94,ntmps94;go_wp2_with fail
 go_loopg [9] L.length (fun r i wr=>∃j,j+r=L.length/\i=N9 Oa (j:Int)/\yA sb (Oc p L.length c) w0 (cT (L.take j)).length wr/\Hid (I (cT (L.take j)).length wr))
 case atStart=>exact⟨0,bP _,rfl,hK0,aa hI0⟩
 case round =>
  obtain⟨j,hj,rfl,hKp,HI⟩:=hrel;by_cases hlt:j<L.length
  .obtain⟨g,o,rfl,hg,hrr⟩:=dh (kk:=3) HROW.out An rfl mOm;have hge:=ai hlt;have hra:=hrr j _ hge;have hfx:=HF.out _ (bA hlt);generalize L[j]=x at *;have HGE:=aa hge;have hrx:=fun i v hv=>(hKp.2.cell (p:=⟨g,o+j*3+i,Oh⟩) hg).trans (hra i v hv)
   have x0:wr.cell? ⟨g,o+j*3,Oh⟩=Og (Ob x.key):=hrx 0 _ rfl;have x1:wr.cell? ⟨g,o+j*3+1,Oh⟩=Og (Ob x.hash):=hrx 1 _ rfl;have x2:wr.cell? ⟨g,o+j*3+2,Oh⟩=Og (Ob x.body):=hrx 2 _ rfl;have i0:(0:Int)<=(j:Int):=mOm;have i1:(j:Int)<(L.length:Int):=mOm;have a1:IntKind.i64.wrap ((j:Int)+1)=(j:Int)+1:=aH _ mOm;have hba:=aj wr (Of #[Ob x.key,Ob x.hash,Ob x.body] 69);have hw1:=heap_alloc_new wr (Of #[Ob x.key,Ob x.hash,Ob x.body] 69);obtain⟨w1,hE1⟩:∃u,u=wr.alloc (Of #[Ob x.key,Ob x.hash,Ob x.body] 69):=⟨_,rfl⟩;rw[<-hE1] at hba hw1;have kd:=yS x.body (by have:=hfx.2.2;omega) w1 (bC HR.out (ah hKp.2 hba));rw[EH] at kd;have HKP:=aa hKp;have HHB:=aa hba;have hxn:=av hw1;have y2:w1.cell? ⟨wr.heap.size,2,Oh⟩=Og (Ob x.body):=ae hw1 2;have HYES:=aa (fun h0=>JR HGE.out h0);have HNO:=aa (fun h0=>Lu HGE.out h0);generalize (ek x.body.data.toList).1=e at *;generalize (ek x.body.data.toList).2=er at *;clear hge hra hrr hfx hrx hKp hba hw1
   go_upto_region 3 with fail
   rw[<-hE1];clear hE1 x0 x1 x2;go_wp2_with fail;refine kd.mono ?_;clear kd;rintro _ w2⟨rfl,hb2⟩;have hbb:=ah HHB.out hb2;have HB2:=aa hbb;obtain⟨e0,e1,e2,e3,e4,e5,e6,e7,e8,e9,e10,e11,e12,e13,e14⟩:=e;have hb4:=ah hbb (aj w2 (Of #[N9 Oa e0,N9 Oa e1,N9 Oa e2,N9 Oa e3,N9 Oa e4,N9 Oa e5,Ob e6,N9 Oa e7,N9 Oa e8,N9 Oa e9,N9 Oa e10,N9 Oa e11,N9 Oa e12,N9 Oa e13,Ob e14] 67));have HB4:=aa hb4;clear hb2 hbb hb4 y2;by_cases her:er=0
   rotate_left 1
   .have t1:(er==0)=false:=by rw[beq_eq_false_iff_ne];exact her
    have HC:=aa (HNO.out her);have HIN:=aa (HIS.out _ _ _ HI.out (aF.of HB4.out));clear HYES HNO her;go_wp2_with fail
    go_roundg (L.length-(j+1))
    case measure=>omega
    case rel=>exact⟨j+1,mOm,by go_num,⟨HB4.out.heap_of HKP.out.1,ah HKP.out.2 HB4.out⟩,by rw[HC.out];exact HIN⟩
   .have t1:(er==0)=true:=by rw[beq_iff_eq];exact her
    obtain⟨hy1,hy2,hy3⟩:=HYES.out her;have hKp4:yA sb (Oc (Og ⟨g,o,Oh⟩) L.length c) w0 (cT (L.take j)).length (w2.alloc (Of #[N9 Oa e0,N9 Oa e1,N9 Oa e2,N9 Oa e3,N9 Oa e4,N9 Oa e5,Ob e6,N9 Oa e7,N9 Oa e8,N9 Oa e9,N9 Oa e10,N9 Oa e11,N9 Oa e12,N9 Oa e13,Ob e14] 67)):=⟨HB4.out.heap_of HKP.out.1,ah HKP.out.2 HB4.out⟩;have HC:=aa hy3;obtain⟨fn,tmps,assign,body,hy,hR⟩:=HYY.out (cT (L.take j)).length wr _ hy1 HI.out (aF.of HB4.out) hKp4 2;rw[hy2] at hy;clear HYES HNO her hy1 hy2 hy3 hKp4
    go_upto_region 4 with fail
    refine(wpIn_wide (n:=3)).1 ?_
    gi_wp2
    refine hR.mono ?_
    clear hR hy;rintro _ w3 (⟨rfl,hI3,hK3,hf3⟩|⟨rfl,hX⟩)
    .have HI3:=aa hI3;have HK3:=aa hK3;clear hI3 hK3 hf3
     gi_wp2
     go_wp2_with fail
     go_roundg (L.length-(j+1))
     case measure=>omega
     case rel=>exact⟨j+1,mOm,by go_num,by rw[HC.out];exact HK3.out,by rw[HC.out];exact HI3⟩
    .have HX:=aa hX;clear hX
     gi_wp2
     go_wp2_with fail
     refine bodyPost_ret (results_none rfl _ _ _) rfl ?_;exact⟨⟨_,rfl⟩,.inr HX.out⟩
  .obtain rfl:j=L.length:=mOm;have i1:¬(L.length:Int)<(L.length:Int):=mOm;have HIE:Hid (I (cT L).length wr):=by have:=HI;rwa [aT] at this
   go_wp2_with fail
   go_end0
   exact⟨⟨_,rfl⟩,.inl HIE.out⟩
end
section
theorem Kc{e:Ent}:fW e=[]↔¬dQ e=0:=by
 unfold fW
 split
 .rename_i h
  exact⟨fun hh=>(by cases hh),fun hh=>absurd h hh⟩
 .rename_i h
  exact⟨fun _=>h,fun _=>rfl⟩
theorem DZ(l:List Ent)(hok:∀e∈l,e.Ok)(p:Option Addr)(c:Nat)(w:World)(h:ar bL w (Oc p l.length c) l)(hl:l.length<=5000) :
  Calls prog 134 #[Oc p l.length c] w (mf (fD l) w):=by
 have HL:=aa h;have HOK:=aa hok;clear h hok;go_enter func134,ntmps134;go_wp2_with fail
 go_loopw [3,4] (fun v i wr=>∃k:Nat,k<=l.length/\i=N9 Oa k/\bz bV 1 9 w wr v ((l.take k).map eH)/\Hid (∀e∈l.take k,dQ e=0)) (fun _ i _=>l.length-(aw i).toNat)
 case atStart=>exact⟨0,aP _,rfl,bz.nil _ _ _ _,aa (fun e he=>by cases he)⟩
 case round =>
  obtain⟨k,hk,rfl,hO,HC⟩:=hrel;obtain⟨pv,cv,hv⟩:=hO.form;subst hv;by_cases hlt:k<l.length
  .obtain⟨g,o,rfl,hg,hrow⟩:=dh (kk:=15) HL.out eG rfl mOm;have hge:=ai hlt;have hra:=hrow k _ hge;have hx:=HOK.out _ (bA hlt);have HMX:=aa (bA hlt);have j1:(k:Int)<(l.length:Int):=mOm;have j2:(0:Int)<=(k:Int):=mOm;have HT:Hid (l.take (k+1)=l.take k++[l[k]]):=aa (by rw[aR,hge];rfl);have hat:wr.rangeAt g (o+k*15) l[k].cells.toList:=fun j v hv=>(hO.low.cell (p:=⟨g,o+k*15+j,Oh⟩) hg).trans (hra j v hv)
   have kf:=fun u=>ua l[k] hx u
   have HLM:Hid (((l.take k).map eH).length<=5000):=aa (by rw[aU,aI];omega);generalize l[k]=x at *;have HNEW:Hid ((l.take (k+1)).map eH=(l.take k).map eH++[eH x]):=aa (by rw[HT.out,dH];rfl)
   have HCN:Hid (dQ x=0->∀e∈l.take (k+1),dQ e=0):=aa (fun hx e he=>by
    rw[HT.out] at he;rcases bI.1 he with he|he
    .exact HC.out e he
    .obtain rfl:=bE.1 he;exact hx)
   have hkb:(⟨(fW x).toArray⟩:ByteArray)=eH x:=rfl
   rw[hkb] at kf
   have HKE:Hid ((eH x).size=0↔¬dQ x=0):=aa (by
    rw[<-Kc,bF]
    show(fW x).length=0↔_
    exact List.length_eq_zero_iff)
   generalize (l.take k).map eH=M at *
   generalize eH x=KB at *;have HO:=aa hO;have HLOW:=aa hO.low;clear hra hrow hge hO hkb hx HC;go_wp2_with ((with_reducible refine wpList_load_mid (op:=⟨_,_,_,_,_,_⟩) ?_ 67 (.tmp 14) ?_ g (o+k*15) ?_ x.cells.toList _ ?_ underlying67 ?_ ?_ ?_);rfl;rfl;rfl;exact hat;rfl;kernel_rfl);refine(kf _).mono ?_;clear kf;rintro _ w2⟨rfl,hb2⟩;by_cases hz:KB.size=0
   .have hz1:KB.toList=[]:=by rw[ku hz,ByteArray.toList_eq]
    have hz2:KB.toList.isEmpty=true:=by rw[hz1];rfl
    have HN:Hid (¬fD l):=aa (fun hkp=>(HKE.out.1 hz) (hkp.1 _ HMX.out));have hbF:=ah HLOW.out hb2;clear hz hat hb2;go_wp2_with fail;go_ret;exact⟨false,rfl,⟨fun e=>(by cases e),fun h=>absurd h HN.out⟩,hbF⟩
   .obtain⟨hz1,hz2⟩:=lI hz;have HCX:=aa (HCN.out (Classical.byContradiction fun hc=>hz (HKE.out.2 hc)));have hP:=(HO.out.next hb2).next (aj w2 (Of #[Ob KB] 9));have hlit:ar bV (w2.alloc (Of #[Ob KB] 9)) (Oc (Og ⟨w2.heap.size,0,Oh⟩) 1 1) [KB]:=cN (heap_alloc_new w2 _) _ rfl rfl;have hown:=hP.own;have hsz:=hP.low.size;have HP:=aa hP;clear hP HO hb2 hat hz;go_wp2_with (at_builtin;refine bl lY rfl (.tmp 19) (.tmp 21) rfl w.heap.size _ _ M [KB] rfl rfl hown hlit (by have:=HLM.out;simp only[aB];omega) hsz ?_;intro v9 w10 hA9;have H9:=aa (HP.out.app hA9);clear hA9 hown hsz hlit)
    go_roundw
    case rel=>exact⟨k+1,mOm,by go_num,by rw[HNEW.out];exact H9.out,HCX⟩
    case measure=>simp[aw];omega
  .obtain rfl:k=l.length:=mOm;have i1:¬(l.length:Int)<(l.length:Int):=mOm;rw[aT] at hO;have HCL:Hid (∀e∈l,dQ e=0):=by rwa [aT] at HC
   have hrw:=hO.row fH mDe;have hlm:(l.map eH).length<=5000:=by rw[aU];exact hl
   have HLOW:=aa hO.low;rw[aT];have ks:=sR (l.map eH) pv cv wr hrw mOm;have HSL:Hid ((kT (l.map eH)).length<=5000):=aa (by rw[mW];exact hlm);have k2:∀p2 c2 u,ar bV u (Oc p2 (kT (l.map eH)).length c2) (kT (l.map eH))->Calls prog 190 #[Oc p2 (kT (l.map eH)).length c2] u (mf (fq (kT (l.map eH))) u):=fun p2 c2 u hu=>ur _ p2 c2 u hu (by have:=HSL.out;omega)
   have HKP:Hid (fD l↔fq (kT (l.map eH))):=aa ⟨fun h=>h.2,fun h=>⟨HCL.out,h⟩⟩;clear hO hrw hlm hlt HC;generalize kT (l.map eH)=SL at *;generalize l.map eH=KL at *;go_wp2_with fail;refine ks.mono ?_;clear ks;rintro _ w2⟨v,rfl,hS⟩;obtain⟨pS,cS,hvS⟩:=hS.form;subst hvS;have hrs:=hS.row fH mDe;have hb2:=ah HLOW.out hS.low;clear hS;go_wp2_with fail;refine(k2 _ _ _ hrs).mono ?_;clear k2 hrs;rintro _ w3⟨t,rfl,ht,hb3⟩;have HT:=aa ht;have hbF:=ah hb2 hb3;clear ht hb2 hb3;go_wp2_with fail;go_ret;exact⟨t,rfl,HT.out.trans HKP.out.symm,hbF⟩
def pY(L:List bT):List Int:=(L.map fun y=>idL y.key.data.toList).filter fun n=>decide (0<n)
def jH(L:List bT)(ids:List Int):Prop:=∀n∈ids,n∈pY L
theorem MG:RowT prog lv 1 3 22 where
 len _:=rfl
 one x u hu:=by simp[lv] at hu;subst hu;rfl
 pos:=mDe
 und:=underlying22
 info:=⟨_,_,rfl,rfl,rfl,mDe,mDe⟩
theorem D3(L:List bT)(ids:List Int)(pl pi:Option Addr)(cl ci:Nat)(w:World)(h:ar fX w (Oc pl L.length cl) L)(hi:ar lv w (Oc pi ids.length ci) ids)(hL:L.length<=5000)(hn:ids.length<=100000) :
  Calls prog 76 #[Oc pl L.length cl,Oc pi ids.length ci] w (mf (jH L ids) w):=by
 have HL:=aa h;have HI:=aa hi;clear h hi;go_enter func76,ntmps76;go_wp2_with fail
 go_loopw [5,6] (fun v i wr=>∃k:Nat,k<=L.length/\i=N9 Oa k/\bz lv 1 3 w wr v (pY (L.take k))) (fun _ i _=>L.length-(aw i).toNat)
 case atStart=>exact⟨0,aP _,rfl,bz.nil _ _ _ _⟩
 case round =>
  obtain⟨k,hk,rfl,hO⟩:=hrel;obtain⟨pv,cv,hv⟩:=hO.form;subst hv;have HLM:Hid ((pY (L.take k)).length<=5000):=aa (aV (List.length_filter_le _ _) (by rw[aU,aI];omega));by_cases hlt:k<L.length
  .obtain⟨g,o,rfl,hg,hrow⟩:=dh (kk:=3) HL.out An rfl mOm;have hge:=ai hlt;have hra:=hrow k _ hge;have j1:(k:Int)<(L.length:Int):=mOm;have j2:(0:Int)<=(k:Int):=mOm
   have HT:Hid (pY (L.take (k+1))=pY (L.take k)++(if 0<idL L[k].key.data.toList then [idL L[k].key.data.toList] else [])):=aa (by
    unfold pY;rw[aR,hge,df,dH,List.filter_append,List.map_singleton]
    congr 1
    by_cases h0:0<idL L[k].key.data.toList
    .rw[if_pos h0,List.filter_cons_of_pos (p:=fun n=>decide (0<n)) (decide_eq_true h0)];rfl
    .rw[if_neg h0,List.filter_cons_of_neg (p:=fun n=>decide (0<n)) (by rw[decide_eq_false h0];decide)];rfl)
   have HRX:Hid (∀u,ac w.heap.size w u->u.rangeAt g (o+k*3) (fX L[k])):=aa (fun u hu j v hv=>(hu.cell (p:=⟨g,o+k*3+j,Oh⟩) hg).trans (hra j v hv))
   have kf:=fun u=>CL L[k] u
   generalize L[k]=x at *;generalize idL x.key.data.toList=N at *;generalize pY (L.take k)=M at *;have HO:=aa hO;have hlow:=hO.low;obtain⟨xk,xh,xb⟩:=x;have y0:wr.cell? ⟨g,o+k*3,Oh⟩=Og (Ob xk):=HRX.out _ hlow 0 _ rfl;have y1:wr.cell? ⟨g,o+k*3+1,Oh⟩=Og (Ob xh):=HRX.out _ hlow 1 _ rfl;have y2:wr.cell? ⟨g,o+k*3+2,Oh⟩=Og (Ob xb):=HRX.out _ hlow 2 _ rfl;have HLOW:=aa hlow;clear hra hrow hge hO hlow;go_wp2_with fail;refine(kf _).mono ?_;rintro _ w2⟨rfl,hb2⟩;have hb2w:=ah HLOW.out hb2;have z0:w2.cell? ⟨g,o+k*3,Oh⟩=Og (Ob xk):=HRX.out _ hb2w 0 _ rfl;have z1:w2.cell? ⟨g,o+k*3+1,Oh⟩=Og (Ob xh):=HRX.out _ hb2w 1 _ rfl;have z2:w2.cell? ⟨g,o+k*3+2,Oh⟩=Og (Ob xb):=HRX.out _ hb2w 2 _ rfl;have HB2:=aa hb2;clear y0 y1 y2 hb2 hb2w;by_cases h0:0<N
   .rw[if_pos h0] at HT;go_wp2_with fail;refine(kf _).mono ?_;clear kf z0 z1 z2;rintro _ w3⟨rfl,hb3⟩;have hP:=((HO.out.next HB2.out).next hb3).next (aj w3 (Of #[N9 Oa N] 3));have hlit:ar lv (w3.alloc (Of #[N9 Oa N] 3)) (Oc (Og ⟨w3.heap.size,0,Oh⟩) 1 1) [N]:=cN (heap_alloc_new w3 _) _ rfl rfl;have hown:=hP.own;have hsz:=hP.low.size;have HP:=aa hP;clear hP HO hb3;go_wp2_with (at_builtin;refine bl MG rfl (.tmp 20) (.tmp 26) rfl w.heap.size _ _ M [N] rfl rfl hown hlit (by have:=HLM.out;simp only[aB];omega) hsz ?_;intro v9 w10 hA9;have H9:=aa (HP.out.app hA9);clear hA9 hown hsz hlit)
    go_roundw
    case rel=>exact⟨k+1,mOm,by go_num,by rw[HT.out];exact H9.out⟩
    case measure=>simp[aw];omega
   .rw[if_neg h0,dq] at HT;clear kf;go_wp2_with fail
    go_roundw
    case rel=>exact⟨k+1,mOm,by go_num,by rw[HT.out];exact HO.out.next HB2.out⟩
    case measure=>simp[aw];omega
  .obtain rfl:k=L.length:=mOm;have i1:¬(L.length:Int)<(L.length:Int):=mOm;rw[aT] at hO HLM |-;have hrw:=hO.row lR mDe;have HRW:=aa hrw;have HLOW:=aa hO.low;have HID:Hid (∀n,n∈pY L↔n∈pY L):=aa (fun _=>Iff.rfl);have HKP:Hid (jH L ids↔∀n∈ids,n∈pY L):=aa Iff.rfl;generalize pY L=M at *;clear hO hrw hlt;obtain⟨w2,hw2⟩:∃u,u=wr:=⟨_,rfl⟩;subst hw2;go_wp2_with fail
   go_loopw [7] (fun i wr=>∃j:Nat,j<=ids.length/\i=N9 Oa j/\Hid (∀n∈ids.take j,n∈M)/\ac w2.heap.size w2 wr) (fun i _=>ids.length-(aw i).toNat)
   case atStart=>exact⟨0,aP _,rfl,aa (fun n hn=>by cases hn),Below.refl _ _⟩
   case round =>
    obtain⟨j,hj,rfl,HJ,hb⟩:=hrel;by_cases hlt:j<ids.length
    .obtain⟨g1,o1,hpi,hbl1,hcv1⟩:=dh (kk:=1) HI.out lR rfl mOm;have hg1:=ai hlt;have hbw:=ah HLOW.out hb;have c01:wr.cell? ⟨g1,o1+j,Oh⟩=Og (N9 Oa ids[j]):=by
      have:=hcv1 j _ hg1 0 _ rfl;rw[Nat.mul_one,ew] at this;exact(hbw.cell (p:=⟨g1,o1+j,Oh⟩) hbl1).trans this
     have HT:Hid (ids.take (j+1)=ids.take j++[ids[j]]):=aa (by rw[aR,hg1];rfl)
     have HM:=aa (bA hlt);have kh:=AW M ids[j] pv cv wr (HRW.out.below hb) (by have:=HLM.out;omega);generalize ids[j]=x at *;have j1:(j:Int)<(ids.length:Int):=mOm;have j3:(0:Int)<=(j:Int):=mOm;subst hpi;clear hcv1 hg1;go_wp2_with fail;refine kh.mono ?_;clear kh;rintro _ w3⟨rfl,hb3⟩;have hb4:=ah hb hb3;have hb5:=ah hbw hb3;by_cases hx:x∈M
     .have t1:decide (x∈M)=true:=decide_eq_true hx
      have HN:Hid (∀n∈ids.take (j+1),n∈M):=aa (fun n hn=>by
       rw[HT.out] at hn;rcases bI.1 hn with hn|hn
       .exact HJ.out n hn
       .obtain rfl:=bE.1 hn;exact hx)
      clear hx
      go_wp2_with fail
      go_roundw
      case rel=>exact⟨j+1,mOm,by go_num,HN,hb4⟩
      case measure=>simp[aw];omega
     .have t1:decide (x∈M)=false:=decide_eq_false hx;have HN:Hid (¬jH L ids):=aa (fun hkp=>hx (HKP.out.1 hkp _ HM.out));clear hx;go_wp2_with fail;go_ret;exact⟨false,rfl,⟨fun e=>(by cases e),fun h=>absurd h HN.out⟩,hb5⟩
    .obtain rfl:j=ids.length:=mOm;have i1:¬(ids.length:Int)<(ids.length:Int):=mOm;have HY:Hid (jH L ids):=aa (HKP.out.2 (by have:=HJ.out;rwa [aT] at this));have hbw:=ah HLOW.out hb;go_wp2_with fail;go_ret;exact⟨true,rfl,⟨fun _=>HY.out,fun _=>rfl⟩,hbw⟩
end
section
structure BrtV where
 b:BrtE
 p:Option Addr
 c:Nat
def aS(x:BrtV):List Value:=[N9 Oa x.b.fro,N9 Oa x.b.student,N9 Oa x.b.root,Oc x.p x.b.ents.length x.c]
theorem dt:∀x:BrtV,(aS x).length=4:=fun _=>rfl
structure BrtIn (w:World) (v:Value) (L:List BrtV):Prop where
 row:ar aS w v L
 ents:∀x∈L,ar bL w (Oc x.p x.b.ents.length x.c) x.b.ents
 few:∀x∈L,x.b.ents.length<=100000
theorem BrtIn.below{w w':World}{v:Value}{L:List BrtV}(h:BrtIn w v L)(hb:ac w.heap.size w w'):BrtIn w' v L:=⟨h.row.below hb,fun x hx=>(h.ents x hx).below hb,h.few⟩
theorem nB{p q:Prop}(h:q) (f:Wq q->p:=by
 intro hq;refine aD (S:=fun u=>ac w.heap.size w u/\u.cell? ⟨g1,o1+k*4,Oh⟩=Og (N9 Oa f1)/\u.cell? ⟨g1,o1+k*4+1,Oh⟩=Og (N9 Oa s1)/\u.cell? ⟨g1,o1+k*4+2,Oh⟩=Og (N9 Oa r1)/\u.cell? ⟨g2,o2+k*4,Oh⟩=Og (N9 Oa f2)/\u.cell? ⟨g2,o2+k*4+1,Oh⟩=Og (N9 Oa s2)/\u.cell? ⟨g2,o2+k*4+2,Oh⟩=Og (N9 Oa r2)) [(0,true),(1,true),(2,true),(3,true),(4,true),(5,true),(6,true),(7,true),(8,true),(9,true),(10,true),(11,true),(12,true),(13,true),(14,true),(15,true),(16,true),(17,true),(18,true),(19,true),(20,true),(21,true),(22,true),(23,true),(24,true),(25,true),(26,true),(27,true),(28,true),(29,true),(30,true),(31,true),(32,true),(33,true),(34,true),(35,true),(36,true),(37,true),(38,true),(39,true),(40,true)] hS7 ?_;have hS:=hS7
 revert hS
 exact hq.1):p:=f ⟨h⟩
theorem nU{p:Prop} (h:p:=by
 go_wp2_with fail;refine nB ?_;intro hS
 iterate 41 (first|refine ak ?_|refine dw ?_)
 simp only[aQ,aZ];go_wp2_with fail;go_ret
 exact⟨false,rfl,⟨fun e=>(by cases e),fun h=>absurd h HN.out⟩,hbD⟩):p:=h
theorem oJ(a b:List BrtV)(p1 p2:Option Addr)(c1 c2:Nat)(w:World)(ha:BrtIn w (Oc p1 a.length c1) a)(hb:BrtIn w (Oc p2 b.length c2) b)(hn:a.length<=1000000) :
  Calls prog 18 #[Oc p1 a.length c1,Oc p2 b.length c2] w (mf (a.map BrtV.b=b.map BrtV.b) w):=by
 have HA:=aa ha;have HB:=aa hb;clear ha hb;go_enter func18,ntmps18;by_cases hl:a.length=b.length
 rotate_left 1
 .have t1:((a.length:Int) != (b.length:Int))=true:=by rw[bne_iff_ne];omega
  have HN:Hid (¬a.map BrtV.b=b.map BrtV.b):=aa (fun e=>hl (by have:=congrArg List.length e;rwa [aU,aU] at this));clear hl;go_wp2_with fail;go_ret;exact⟨false,rfl,⟨fun e=>(by cases e),fun h=>absurd h HN.out⟩,Below.refl _ _⟩
 have t1:((a.length:Int) != (b.length:Int))=false:=by rw[bne_eq_false_iff_eq];omega
 have HLN:=aa hl;clear hl;go_wp2_with fail
 go_loopw [5] (fun i wr=>∃k:Nat,k<=a.length/\i=N9 Oa k/\Hid ((a.take k).map BrtV.b=(b.take k).map BrtV.b)/\ac w.heap.size w wr) (fun i _=>a.length-(aw i).toNat)
 case atStart=>exact⟨0,aP _,rfl,aa rfl,Below.refl _ _⟩
 case round =>
  obtain⟨k,hk,rfl,HI,hb⟩:=hrel;by_cases hlt:k<a.length
  .obtain⟨g1,o1,rfl,hbl1,hcv1⟩:=dh (kk:=4) HA.out.row dt rfl mOm;obtain⟨g2,o2,rfl,hbl2,hcv2⟩:=dh (kk:=4) HB.out.row dt rfl (by have:=HLN.out;omega);have hg1:=ai hlt;have hg2:=ai (show k<b.length by have:=HLN.out;omega);have c01:=hcv1 k _ hg1;have c02:=hcv2 k _ hg2;have HG:=aa (And.intro hg1 hg2);have hx:=HA.out.ents _ (bA hlt);have hxf:=HA.out.few _ (bA hlt);have hy:=HB.out.ents _ (bA (show k<b.length by have:=HLN.out;omega));generalize a[k]=x at *;generalize b[k]=y at *;have i1:(k:Int)<(a.length:Int):=mOm;have i2:(k:Int)<(b.length:Int):=by have:=HLN.out;omega
   have i3:(0:Int)<=(k:Int):=mOm;have ks:=fun u (hbu:ac w.heap.size w u)=>xM x.b.ents y.b.ents x.p y.p x.c y.c u (hx.below hbu) (hy.below hbu) mOm
   have HRX:Hid (∀u,ac w.heap.size w u->u.rangeAt g1 (o1+k*4) (aS x)):=aa (fun u hu j v hv=>(hu.cell (p:=⟨g1,o1+k*4+j,Oh⟩) hbl1).trans (c01 j v hv));have HRY:Hid (∀u,ac w.heap.size w u->u.rangeAt g2 (o2+k*4) (aS y)):=aa (fun u hu j v hv=>(hu.cell (p:=⟨g2,o2+k*4+j,Oh⟩) hbl2).trans (c02 j v hv))
   have keepS:∀{u v:World},(ac w.heap.size w u/\u.cell? ⟨g1,o1+k*4+3,Oh⟩=Og (Oc x.p x.b.ents.length x.c)/\u.cell? ⟨g2,o2+k*4+3,Oh⟩=Og (Oc y.p y.b.ents.length y.c))->ac u.heap.size u v->(ac w.heap.size w v/\v.cell? ⟨g1,o1+k*4+3,Oh⟩=Og (Oc x.p x.b.ents.length x.c)/\v.cell? ⟨g2,o2+k*4+3,Oh⟩=Og (Oc y.p y.b.ents.length y.c)):=fun h hb =>
    ⟨ah h.1 hb,HRX.out _ (ah h.1 hb) 3 _ rfl,HRY.out _ (ah h.1 hb) 3 _ rfl⟩
   have hS0:=keepS ⟨hb,HRX.out _ hb 3 _ rfl,HRY.out _ hb 3 _ rfl⟩ (Below.refl _ wr).drew
   have KS:=aa ks;clear hcv1 hcv2 hg1 hg2 c01 c02 hx hy ks hxf;go_wp2_with fail;refine aD (S:=fun u=>ac w.heap.size w u/\u.cell? ⟨g1,o1+k*4+3,Oh⟩=Og (Oc x.p x.b.ents.length x.c)/\u.cell? ⟨g2,o2+k*4+3,Oh⟩=Og (Oc y.p y.b.ents.length y.c)) [(0,true),(1,true),(2,true),(3,true),(4,true),(5,true),(6,true),(7,true),(8,true),(9,true),(10,false),(11,true)] hS0 ?_;have hS:=hS0
   iterate 10 refine ak ?_
   refine aJ 52 call52 (KS.out _ hS.1) ?_;rintro x wn⟨t,rfl,ht,hb⟩;replace hS:=keepS hS hb;(have HT:=aa ht;clear ht);refine⟨_,rfl,hS,?_⟩;(try clear hb);refine ay ?_;refine ak ?_;simp only[aQ,aZ];have hbF:=hS.1;have hbD:=ah hbF (Below.refl _ wn).drew;have hS7:=And.intro hbD (And.intro (HRX.out _ hbD 0 _ rfl) (And.intro (HRX.out _ hbD 1 _ rfl) (And.intro (HRX.out _ hbD 2 _ rfl) (And.intro (HRY.out _ hbD 0 _ rfl) (And.intro (HRY.out _ hbD 1 _ rfl) (HRY.out _ hbD 2 _ rfl))))))
   have HNO:Hid (¬x.b=y.b->¬a.map BrtV.b=b.map BrtV.b):=aa (fun hne e=>hne (by
    have h1:=congrArg (fun l=>l[k]?) e;simp only[List.getElem?_map,HG.out.1,HG.out.2,Option.map_some,Option.some_inj] at h1
    exact h1))
   have HYES:Hid (x.b=y.b->(a.take (k+1)).map BrtV.b=(b.take (k+1)).map BrtV.b):=aa (fun he=>by
    rw[aR,aR,HG.out.1,HG.out.2,dH,dH,HI.out,df,df,List.map_singleton,List.map_singleton,he])
   clear hS hS0 keepS KS HRX HRY HG HI
   obtain⟨⟨f1,s1,r1,e1⟩,px,cx⟩:=x;obtain⟨⟨f2,s2,r2,e2⟩,py,cy⟩:=y;simp only at hS7 HT HNO HYES
   cases t
   .have HN:Hid (¬a.map BrtV.b=b.map BrtV.b):=aa (HNO.out (fun e=>by have:=HT.out.2 (congrArg BrtE.ents e);cases this));clear HNO HYES HT;exact nU
   have HE:=aa (HT.out.1 rfl)
   clear HT;by_cases q1:f1=f2
   rotate_left 1
   .have t1:(f1 != f2)=true:=by rw[bne_iff_ne];exact q1
    have HN:Hid (¬a.map BrtV.b=b.map BrtV.b):=aa (HNO.out (fun e=>q1 (congrArg BrtE.fro e)));clear HNO HYES q1;exact nU
   have t1:(f1 != f2)=false:=by rw[bne_eq_false_iff_eq];exact q1
   by_cases q2:s1=s2
   rotate_left 1
   .have t2:(s1 != s2)=true:=by rw[bne_iff_ne];exact q2
    have HN:Hid (¬a.map BrtV.b=b.map BrtV.b):=aa (HNO.out (fun e=>q2 (congrArg BrtE.student e)));clear HNO HYES q1 q2;exact nU
   have t2:(s1 != s2)=false:=by rw[bne_eq_false_iff_eq];exact q2
   by_cases q3:r1=r2
   rotate_left 1
   .have t3:(r1 != r2)=true:=by rw[bne_iff_ne];exact q3
    have HN:Hid (¬a.map BrtV.b=b.map BrtV.b):=aa (HNO.out (fun e=>q3 (congrArg BrtE.root e)));clear HNO HYES q1 q2 q3;go_wp2_with fail;refine nB ?_;intro hS
    iterate 41 refine ak ?_
    simp only[aQ,aZ];go_wp2_with fail;go_ret;exact⟨false,rfl,⟨fun e=>(by cases e),fun h=>absurd h HN.out⟩,hbD⟩
   have t3:(r1 != r2)=false:=by rw[bne_eq_false_iff_eq];exact q3
   have HY:=aa (HYES.out (by rw[q1,q2,q3,HE.out]));clear HNO HYES HE q1 q2 q3;go_wp2_with fail;refine nB ?_;intro hS
   iterate 41 refine ak ?_
   simp only[aQ,aZ];go_wp2_with fail
   go_roundw
   case rel=>exact⟨k+1,mOm,by go_num,HY,hbD⟩
   case measure=>simp[aw];omega
  .obtain rfl:k=a.length:=mOm;have i1:¬(a.length:Int)<(a.length:Int):=mOm
   have HE:Hid (a.map BrtV.b=b.map BrtV.b):=aa (by
    have:=HI.out
    rwa [aT,HLN.out,aT] at this)
   go_wp2_with fail
   go_ret;exact⟨true,rfl,⟨fun _=>HE.out,fun _=>rfl⟩,hb⟩
end
section
attribute [local go_sem ↓] mq mr
structure RmI (w:World) (xb N:Nat) (sc:Int) (K:List bG) (u:World):Prop where
 low:ac w.heap.size w u
 box:∃p c,u.heap[xb]? = Og (Of #[N9 Oa sc,Oc p K.length c] 33 (0,0))/\u.ownsRow N 78 4 (Oc p K.length c) K.length (aN fp K)
 size:N<=u.heap.size
 at_:w.heap.size<xb/\xb<N
 good:∀k∈K,k.secret.size<=103/\I64 k.id
theorem RmI.grow{w u u':World}{xb N:Nat}{sc:Int}{K:List bG}(h:RmI w xb N sc K u)(hb:ac u.heap.size u u'):RmI w xb N sc K u':=by
 obtain⟨p,c,h1,h2⟩:=h.box;exact⟨ah h.low hb,⟨p,c,hb.heap_of h1,bK h2 (aF.of (S:=fun _=>False) hb) (fun _ _ e=>e)⟩,aV h.size hb.size,h.at_,h.good⟩
theorem RmI.put{w u u':World}{xb N:Nat}{sc:Int}{K:List bG}(h:RmI w xb N sc K u)(hb:ac u.heap.size u u'){b:Nat}(hbb:u.heap.size<=b)(j:Nat)(v:Value):RmI w xb N sc K (u'.setCell ⟨b,j,Oh⟩ v):=by
 obtain⟨p,c,h1,h2⟩:=h.box;have hB:aF (fun q=>q=b) u (u'.setCell ⟨b,j,Oh⟩ v):=(aF.of hb).trans (aF.set (S:=fun q=>q=b) u' rfl j v);have hx:=aG h1;refine⟨(ah h.low hb).trans ((aF.set (S:=fun q=>q=b) u' rfl j v).below (fun q hq e=>by have:=h.low.size;omega) (ah h.low hb).size),⟨p,c,hB.heap h1 mOm,bK h2 hB (fun q hq e=>by have:=(h2.lt q hq).2;omega)⟩,aV h.size hB.size,h.at_,h.good⟩
theorem RmI.app{w u u':World}{xb N:Nat}{sc:Int}{K:List bG}{y:bG}{p:Option Addr}{c:Nat}{v9:Value}(h:RmI w xb N sc K u)(hy:y.secret.size<=103/\I64 y.id)(hx:u.heap[xb]? = Og (Of #[N9 Oa sc,Oc p K.length c] 33 (0,0)))(ho:u.ownsRow N 78 4 (Oc p K.length c) K.length (aN fp K))(hA:AppT fp 4 78 u N (Oc p K.length c) K [y] v9 u'):RmI w xb N sc (K++[y]) (u'.setCell ⟨xb,1,Oh⟩ v9):=by
 have hlo:∀q,(Value.slice p K.length c).ownBlock=Og q->N<=q:=fun q hq=>(ho.lt q hq).1
 have hbA:=aF.grown hA.grown;have hset:=aF.set (S:=fun q=>q=xb) u' rfl 1 v9;have hx':=hbA.heap hx (fun e=>by have:=hlo _ e;have:=h.at_;omega);obtain⟨p9,c9,rfl⟩:=fZ hA.own;refine⟨?_,⟨p9,c9,?_,?_⟩,?_,h.at_,?_⟩
 .have h1:=h.low.grown hA.grown h.low.size (fun q e=>by have:=hlo _ e;have:=h.at_;omega);exact h1.trans (hset.below (fun q hq e=>by have:=h.at_;omega) h1.size)
 .have:=bj hx' 1 (Oc p9 (K++[y]).length c9);rw[this];rfl
 .exact bK hA.own hset (fun q hq e=>by have:=(hA.own.lt q hq).1;have:=h.at_;omega)
 .have:=hbA.size;have:=hset.size;have:=h.size;omega
 .intro k hk;rcases bI.1 hk with hk|hk
  .exact h.good k hk
  .obtain rfl:=bE.1 hk;exact hy
