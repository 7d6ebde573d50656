/- Lemmas. -/
import Derived.Test.YtnlhbdmeodbblaaGreatDoorMtal
import Derived.BigRegion
import Derived.Test.YtnlhbdmeodbblaaGreatDoorMtam
import Derived.Test.YtnlhbdmeodbblaaGreatDoorMtah
set_option maxRecDepth 100000
set_option maxHeartbeats 16000000
set_option linter.all false
open Go.Proofs.Tryz
open Bool renaming eq_iff_iff->eQ,or_eq_true->fI
open Go.Lib renaming cell_of_heap->ae,hid->aa
open List renaming length->jQ,length_append->ap,map_cons->fP,map_nil->oN,toArray->aK
open Nat renaming le_refl->az
open Go.RowKit renaming Below->ac
open Go.World renaming block_lt_of_cell?->al
open Go.Ending renaming returned->Oe
open Go.IntKind renaming i64->Oa
open Go.Obj renaming cells->Of
open Go.Value renaming int->N9,string->Ob,pointer->Od
open Option renaming some->Og,none->Oh
namespace Go.Proofs.YtnlhbdmeodbblaaGreatDoor
section
open Go Go.RowKit Go.Sort Go.Lib
attribute [local go_sem] Ent.cells
def eN(e:Ent):Ent:=⟨e.id,e.school,e.student,e.kind,e.day,e.on,if e.kind=3 then e.course else ⟨#[]⟩,if e.kind=3 then e.credits else 0,if e.kind=3\/e.kind=4 then e.grade else 0,
 if e.kind=4\/e.kind=5\/e.kind=6\/e.kind=9 then e.ref else 0,if e.kind=7 then e.fro else 0,if e.kind=1\/e.kind=8\/e.kind=2 then e.programme else 0,if e.kind=2 then e.version else 0,e.key,e.mark⟩
theorem MF(w:World)(o o' o'':Obj):(((w.alloc o).alloc o').alloc o'').heap[w.heap.size+1]? = Og o':=by rw[(aq ((w.alloc o).alloc o') o'').block _ (by rw[size_alloc,size_alloc];omega)];have:=heap_alloc_new (w.alloc o) o';rw[size_alloc] at this;exact this
theorem iD{p q:Prop}(h:q) (f:Wq q->p:=by
 intro hq;have fz:∀j,W.frozen? ⟨w.heap.size+1+1,j,Oh⟩=false:=fun j=>Lib.frozen_of_heap hO j
 revert fz
 exact hq.1):p:=f ⟨h⟩
theorem qK{p q:Prop}(h:q) (f:Wq q->p:=by
 intro hq;have hO0:aM (W.setCell ⟨w.heap.size+1+1,11,Oh⟩ (N9 Oa e.programme)) (w.heap.size+1+1) (⟨e.id,e.school,e.student,e.kind,e.day,e.on,⟨#[]⟩,0,0,0,0,e.programme,0,e.key,e.mark⟩:Ent):=hO.setc 11 _ rfl
 revert hO0
 exact hq.1):p:=f ⟨h⟩
theorem sv{p:Prop} (h:p:=by
 have c11:W.cell? ⟨w.heap.size,11,Oh⟩=Og (N9 Oa e.programme):=hE.cell 11;have o11:W.cell? ⟨w.heap.size+1+1,11,Oh⟩=Og (N9 Oa 0):=hO.cell 11;refine iD ?_;intro fz;refine qK ?_;intro hO0;have hZ0:(W.setCell ⟨w.heap.size+1+1,11,Oh⟩ (N9 Oa e.programme)).heap[w.heap.size+1]? = Og (Of zeroCells 67 (0,0)):=by rw[Below.heap_setCell _ _ _ _ (by show w.heap.size+1≠w.heap.size+1+1;omega)];exact hZ
 have hb0:ac w.heap.size w (W.setCell ⟨w.heap.size+1+1,11,none⟩ (.int .i64 e.programme)):=hbe.setCell (by show _<=w.heap.size+1+1;omega) _;have hat:=hO0.at_;clear hE hO;go_wp2_with (first|((with_reducible refine wpList_load_mid (op:=⟨_,_,_,_,_,_⟩) ?_ 67 (.tmp 3) ?_ (w.heap.size+1+1) 0 ?_ (Ent.cells (⟨e.id,e.school,e.student,e.kind,e.day,e.on,⟨#[]⟩,0,0,0,0,e.programme,0,e.key,e.mark⟩:Ent)).toList _ ?_ underlying67 ?_ ?_ ?_);rfl;rfl;rfl;exact hat;rfl;kernel_rfl)|((with_reducible refine wpList_store_row (o:=⟨none,.store 67 (.tmp 2) (.tmp 68),_,_,_,_⟩) ?_ 67 (.tmp 2) (.tmp 68) ?_ (w.heap.size+1) (Ent.cells (⟨e.id,e.school,e.student,e.kind,e.day,e.on,⟨#[]⟩,0,0,0,0,e.programme,0,e.key,e.mark⟩:Ent)) ?_ ?_ 67 zeroCells ?_ ?_ ?_ ?_ ?_);rfl;rfl;rfl;rfl;exact hZ0;kernel_rfl;rfl;simp[Ent.cells,Value.oneCell']));refine bodyPost_ret (v:=Ent.val (⟨e.id,e.school,e.student,e.kind,e.day,e.on,⟨#[]⟩,0,0,0,0,e.programme,0,e.key,e.mark⟩:Ent)) (results_cell_row (P:=prog) results116 _ _ (w.heap.size+1) 67 (Ent.cells (⟨e.id,e.school,e.student,e.kind,e.day,e.on,⟨#[]⟩,0,0,0,0,e.programme,0,e.key,e.mark⟩:Ent)) (0,0) _ rfl ?_ underlying67 rfl mKr) rfl ⟨by rw[hp.out],?_⟩
 .exact gi hZ0 _
 .exact bu hb0 mOm _):p:=h
theorem fS{p q:Prop}(h:q) (f:Wq q->p:=by
 intro hq;have h3:=Nr w (Of e.cells 67) (Of zeroCells 67) (Of (Ent.cells (⟨e.id,e.school,e.student,e.kind,e.day,e.on,⟨#[]⟩,0,0,0,0,0,0,e.key,e.mark⟩:Ent)) 67);have h3b:=MF w (Of e.cells 67) (Of zeroCells 67) (Of (Ent.cells (⟨e.id,e.school,e.student,e.kind,e.day,e.on,⟨#[]⟩,0,0,0,0,0,0,e.key,e.mark⟩:Ent)) 67);have hbe:=Mp w (Of e.cells 67) (Of zeroCells 67) (Of (Ent.cells (⟨e.id,e.school,e.student,e.kind,e.day,e.on,⟨#[]⟩,0,0,0,0,0,0,e.key,e.mark⟩:Ent)) 67);unfold Ent.cells zeroCells at h3 h3b hbe
 revert h3 h3b hbe
 exact hq.1):p:=f ⟨h⟩
theorem fR{p q:Prop}(h:q) (f:Wq q->p:=by
 intro hq;have hE:aM W w.heap.size e:=h3;have hZ:W.heap[w.heap.size+1]? = Og (Of zeroCells 67 (0,0)):=h3b;have hO:aM W (w.heap.size+1+1) (⟨e.id,e.school,e.student,e.kind,e.day,e.on,⟨#[]⟩,0,0,0,0,0,0,e.key,e.mark⟩:Ent):=h4
 revert hE hZ hO
 exact hq.1):p:=f ⟨h⟩
theorem L0(e:Ent)(hk:e.kind=1)(w:World) :
  Calls prog 116 #[e.val] w fun x w'=>x=Oe (eN e).val/\ac w.heap.size w w':=by
 have hp:=aa (show eN e=(⟨e.id,e.school,e.student,e.kind,e.day,e.on,⟨#[]⟩,0,0,0,0,e.programme,0,e.key,e.mark⟩:Ent) by unfold eN;simp[hk]);have HK:=aa hk;clear hk;go_enter func116,ntmps116
 go_upto_region 2 with fail
 refine fS ?_;intro h3 h3b hbe;generalize ((w.alloc _).alloc _).alloc _=W at h3 h3b hbe |-;obtain⟨h3,h4⟩:=h3;refine fR ?_;intro hE hZ hO;clear h3 h3b h4;have ck:W.cell? ⟨w.heap.size,3,Oh⟩=Og (N9 Oa 1):=by rw[hE.cell 3];simp[Ent.cells,HK.out]
 exact sv
theorem L4(e:Ent)(hk:e.kind=2)(w:World) :
  Calls prog 116 #[e.val] w fun x w'=>x=Oe (eN e).val/\ac w.heap.size w w':=by
 have hp:=aa (show eN e=(⟨e.id,e.school,e.student,e.kind,e.day,e.on,⟨#[]⟩,0,0,0,0,e.programme,e.version,e.key,e.mark⟩:Ent) by unfold eN;simp[hk]);have HK:=aa hk;clear hk;go_enter func116,ntmps116
 go_upto_region 2 with fail
 refine fS ?_;intro h3 h3b hbe;generalize ((w.alloc _).alloc _).alloc _=W at h3 h3b hbe |-;obtain⟨h3,h4⟩:=h3;refine fR ?_;intro hE hZ hO;clear h3 h3b h4;have ck:W.cell? ⟨w.heap.size,3,Oh⟩=Og (N9 Oa 2):=by rw[hE.cell 3];simp[Ent.cells,HK.out]
 have c11:W.cell? ⟨w.heap.size,11,Oh⟩=Og (N9 Oa e.programme):=hE.cell 11;have o11:W.cell? ⟨w.heap.size+1+1,11,Oh⟩=Og (N9 Oa 0):=hO.cell 11;have c12:W.cell? ⟨w.heap.size,12,Oh⟩=Og (N9 Oa e.version):=hE.cell 12;have o12:W.cell? ⟨w.heap.size+1+1,12,Oh⟩=Og (N9 Oa 0):=hO.cell 12;refine iD ?_;intro fz;refine qK ?_;intro hO0;have hZ0:(W.setCell ⟨w.heap.size+1+1,11,Oh⟩ (N9 Oa e.programme)).heap[w.heap.size+1]? = Og (Of zeroCells 67 (0,0)):=by rw[Below.heap_setCell _ _ _ _ (by show w.heap.size+1≠w.heap.size+1+1;omega)];exact hZ
 have hb0:ac w.heap.size w (W.setCell ⟨w.heap.size+1+1,11,Oh⟩ (N9 Oa e.programme)):=hbe.setCell (by show _<=w.heap.size+1+1;omega) _;have hO1:aM ((W.setCell ⟨w.heap.size+1+1,11,Oh⟩ (N9 Oa e.programme)).setCell ⟨w.heap.size+1+1,12,Oh⟩ (N9 Oa e.version)) (w.heap.size+1+1) (⟨e.id,e.school,e.student,e.kind,e.day,e.on,⟨#[]⟩,0,0,0,0,e.programme,e.version,e.key,e.mark⟩:Ent):=hO0.setc 12 _ rfl;have hZ1:((W.setCell ⟨w.heap.size+1+1,11,Oh⟩ (N9 Oa e.programme)).setCell ⟨w.heap.size+1+1,12,Oh⟩ (N9 Oa e.version)).heap[w.heap.size+1]? = Og (Of zeroCells 67 (0,0)):=by rw[Below.heap_setCell _ _ _ _ (by show w.heap.size+1≠w.heap.size+1+1;omega)];exact hZ0
 have hb1:ac w.heap.size w ((W.setCell ⟨w.heap.size+1+1,11,none⟩ (.int .i64 e.programme)).setCell ⟨w.heap.size+1+1,12,none⟩ (.int .i64 e.version)):=hb0.setCell (by show _<=w.heap.size+1+1;omega) _;have hat:=hO1.at_;clear hE hO;go_wp2_with (first|((with_reducible refine wpList_load_mid (op:=⟨_,_,_,_,_,_⟩) ?_ 67 (.tmp 3) ?_ (w.heap.size+1+1) 0 ?_ (Ent.cells (⟨e.id,e.school,e.student,e.kind,e.day,e.on,⟨#[]⟩,0,0,0,0,e.programme,e.version,e.key,e.mark⟩:Ent)).toList _ ?_ underlying67 ?_ ?_ ?_);rfl;rfl;rfl;exact hat;rfl;kernel_rfl)|((with_reducible refine wpList_store_row (o:=⟨none,.store 67 (.tmp 2) (.tmp 68),_,_,_,_⟩) ?_ 67 (.tmp 2) (.tmp 68) ?_ (w.heap.size+1) (Ent.cells (⟨e.id,e.school,e.student,e.kind,e.day,e.on,⟨#[]⟩,0,0,0,0,e.programme,e.version,e.key,e.mark⟩:Ent)) ?_ ?_ 67 zeroCells ?_ ?_ ?_ ?_ ?_);rfl;rfl;rfl;rfl;exact hZ1;kernel_rfl;rfl;simp[Ent.cells,Value.oneCell']));refine bodyPost_ret (v:=Ent.val (⟨e.id,e.school,e.student,e.kind,e.day,e.on,⟨#[]⟩,0,0,0,0,e.programme,e.version,e.key,e.mark⟩:Ent)) (results_cell_row (P:=prog) results116 _ _ (w.heap.size+1) 67 (Ent.cells (⟨e.id,e.school,e.student,e.kind,e.day,e.on,⟨#[]⟩,0,0,0,0,e.programme,e.version,e.key,e.mark⟩:Ent)) (0,0) _ rfl ?_ underlying67 rfl mKr) rfl ⟨by rw[hp.out],?_⟩
 .exact gi hZ1 _
 .exact bu hb1 mOm _
theorem L5(e:Ent)(hk:e.kind=3)(w:World) :
  Calls prog 116 #[e.val] w fun x w'=>x=Oe (eN e).val/\ac w.heap.size w w':=by
 have hp:=aa (show eN e=(⟨e.id,e.school,e.student,e.kind,e.day,e.on,e.course,e.credits,e.grade,0,0,0,0,e.key,e.mark⟩:Ent) by unfold eN;simp[hk]);have HK:=aa hk;clear hk;go_enter func116,ntmps116
 go_upto_region 2 with fail
 refine fS ?_;intro h3 h3b hbe;generalize ((w.alloc _).alloc _).alloc _=W at h3 h3b hbe |-;obtain⟨h3,h4⟩:=h3;refine fR ?_;intro hE hZ hO;clear h3 h3b h4;have ck:W.cell? ⟨w.heap.size,3,Oh⟩=Og (N9 Oa 3):=by rw[hE.cell 3];simp[Ent.cells,HK.out]
 have c6:W.cell? ⟨w.heap.size,6,Oh⟩=Og (Ob e.course):=hE.cell 6;have o6:W.cell? ⟨w.heap.size+1+1,6,Oh⟩=Og (Ob ⟨#[]⟩):=hO.cell 6;have c7:W.cell? ⟨w.heap.size,7,Oh⟩=Og (N9 Oa e.credits):=hE.cell 7;have o7:W.cell? ⟨w.heap.size+1+1,7,Oh⟩=Og (N9 Oa 0):=hO.cell 7;have c8:W.cell? ⟨w.heap.size,8,Oh⟩=Og (N9 Oa e.grade):=hE.cell 8;have o8:W.cell? ⟨w.heap.size+1+1,8,Oh⟩=Og (N9 Oa 0):=hO.cell 8;refine iD ?_;intro fz;have hO0:aM (W.setCell ⟨w.heap.size+1+1,6,Oh⟩ (Ob e.course)) (w.heap.size+1+1) (⟨e.id,e.school,e.student,e.kind,e.day,e.on,e.course,0,0,0,0,0,0,e.key,e.mark⟩:Ent):=hO.setc 6 _ rfl;have hZ0:(W.setCell ⟨w.heap.size+1+1,6,Oh⟩ (Ob e.course)).heap[w.heap.size+1]? = Og (Of zeroCells 67 (0,0)):=by rw[Below.heap_setCell _ _ _ _ (by show w.heap.size+1≠w.heap.size+1+1;omega)];exact hZ
 have hb0:ac w.heap.size w (W.setCell ⟨w.heap.size+1+1,6,Oh⟩ (Ob e.course)):=hbe.setCell (by show _<=w.heap.size+1+1;omega) _;have hO1:aM ((W.setCell ⟨w.heap.size+1+1,6,Oh⟩ (Ob e.course)).setCell ⟨w.heap.size+1+1,7,Oh⟩ (N9 Oa e.credits)) (w.heap.size+1+1) (⟨e.id,e.school,e.student,e.kind,e.day,e.on,e.course,e.credits,0,0,0,0,0,e.key,e.mark⟩:Ent):=hO0.setc 7 _ rfl;have hZ1:((W.setCell ⟨w.heap.size+1+1,6,Oh⟩ (Ob e.course)).setCell ⟨w.heap.size+1+1,7,Oh⟩ (N9 Oa e.credits)).heap[w.heap.size+1]? = Og (Of zeroCells 67 (0,0)):=by rw[Below.heap_setCell _ _ _ _ (by show w.heap.size+1≠w.heap.size+1+1;omega)];exact hZ0
 have hb1:ac w.heap.size w ((W.setCell ⟨w.heap.size+1+1,6,Oh⟩ (Ob e.course)).setCell ⟨w.heap.size+1+1,7,Oh⟩ (N9 Oa e.credits)):=hb0.setCell (by show _<=w.heap.size+1+1;omega) _;have hO2:aM (((W.setCell ⟨w.heap.size+1+1,6,Oh⟩ (Ob e.course)).setCell ⟨w.heap.size+1+1,7,Oh⟩ (N9 Oa e.credits)).setCell ⟨w.heap.size+1+1,8,Oh⟩ (N9 Oa e.grade)) (w.heap.size+1+1) (⟨e.id,e.school,e.student,e.kind,e.day,e.on,e.course,e.credits,e.grade,0,0,0,0,e.key,e.mark⟩:Ent):=hO1.setc 8 _ rfl;have hZ2:(((W.setCell ⟨w.heap.size+1+1,6,Oh⟩ (Ob e.course)).setCell ⟨w.heap.size+1+1,7,Oh⟩ (N9 Oa e.credits)).setCell ⟨w.heap.size+1+1,8,Oh⟩ (N9 Oa e.grade)).heap[w.heap.size+1]? = Og (Of zeroCells 67 (0,0)):=by rw[Below.heap_setCell _ _ _ _ (by show w.heap.size+1≠w.heap.size+1+1;omega)];exact hZ1
 have hb2:ac w.heap.size w (((W.setCell ⟨w.heap.size+1+1,6,none⟩ (.string e.course)).setCell ⟨w.heap.size+1+1,7,none⟩ (.int .i64 e.credits)).setCell ⟨w.heap.size+1+1,8,none⟩ (.int .i64 e.grade)):=hb1.setCell (by show _<=w.heap.size+1+1;omega) _;have hat:=hO2.at_;clear hE hO;go_wp2_with (first|((with_reducible refine wpList_load_mid (op:=⟨_,_,_,_,_,_⟩) ?_ 67 (.tmp 3) ?_ (w.heap.size+1+1) 0 ?_ (Ent.cells (⟨e.id,e.school,e.student,e.kind,e.day,e.on,e.course,e.credits,e.grade,0,0,0,0,e.key,e.mark⟩:Ent)).toList _ ?_ underlying67 ?_ ?_ ?_);rfl;rfl;rfl;exact hat;rfl;kernel_rfl)|((with_reducible refine wpList_store_row (o:=⟨none,.store 67 (.tmp 2) (.tmp 68),_,_,_,_⟩) ?_ 67 (.tmp 2) (.tmp 68) ?_ (w.heap.size+1) (Ent.cells (⟨e.id,e.school,e.student,e.kind,e.day,e.on,e.course,e.credits,e.grade,0,0,0,0,e.key,e.mark⟩:Ent)) ?_ ?_ 67 zeroCells ?_ ?_ ?_ ?_ ?_);rfl;rfl;rfl;rfl;exact hZ2;kernel_rfl;rfl;simp[Ent.cells,Value.oneCell']));refine bodyPost_ret (v:=Ent.val (⟨e.id,e.school,e.student,e.kind,e.day,e.on,e.course,e.credits,e.grade,0,0,0,0,e.key,e.mark⟩:Ent)) (results_cell_row (P:=prog) results116 _ _ (w.heap.size+1) 67 (Ent.cells (⟨e.id,e.school,e.student,e.kind,e.day,e.on,e.course,e.credits,e.grade,0,0,0,0,e.key,e.mark⟩:Ent)) (0,0) _ rfl ?_ underlying67 rfl mKr) rfl ⟨by rw[hp.out],?_⟩
 .exact gi hZ2 _
 .exact bu hb2 mOm _
theorem qJ{p q:Prop}(h:q) (f:Wq q->p:=by
 intro hq;have hO0:aM (W.setCell ⟨w.heap.size+1+1,9,Oh⟩ (N9 Oa e.ref)) (w.heap.size+1+1) (⟨e.id,e.school,e.student,e.kind,e.day,e.on,⟨#[]⟩,0,0,e.ref,0,0,0,e.key,e.mark⟩:Ent):=hO.setc 9 _ rfl
 revert hO0
 exact hq.1):p:=f ⟨h⟩
theorem L6(e:Ent)(hk:e.kind=4)(w:World) :
  Calls prog 116 #[e.val] w fun x w'=>x=Oe (eN e).val/\ac w.heap.size w w':=by
 have hp:=aa (show eN e=(⟨e.id,e.school,e.student,e.kind,e.day,e.on,⟨#[]⟩,0,e.grade,e.ref,0,0,0,e.key,e.mark⟩:Ent) by unfold eN;simp[hk]);have HK:=aa hk;clear hk;go_enter func116,ntmps116
 go_upto_region 2 with fail
 refine fS ?_;intro h3 h3b hbe;generalize ((w.alloc _).alloc _).alloc _=W at h3 h3b hbe |-;obtain⟨h3,h4⟩:=h3;refine fR ?_;intro hE hZ hO;clear h3 h3b h4;have ck:W.cell? ⟨w.heap.size,3,Oh⟩=Og (N9 Oa 4):=by rw[hE.cell 3];simp[Ent.cells,HK.out]
 have c9:W.cell? ⟨w.heap.size,9,Oh⟩=Og (N9 Oa e.ref):=hE.cell 9;have o9:W.cell? ⟨w.heap.size+1+1,9,Oh⟩=Og (N9 Oa 0):=hO.cell 9;have c8:W.cell? ⟨w.heap.size,8,Oh⟩=Og (N9 Oa e.grade):=hE.cell 8;have o8:W.cell? ⟨w.heap.size+1+1,8,Oh⟩=Og (N9 Oa 0):=hO.cell 8;refine iD ?_;intro fz;refine qJ ?_;intro hO0;have hZ0:(W.setCell ⟨w.heap.size+1+1,9,Oh⟩ (N9 Oa e.ref)).heap[w.heap.size+1]? = Og (Of zeroCells 67 (0,0)):=by rw[Below.heap_setCell _ _ _ _ (by show w.heap.size+1≠w.heap.size+1+1;omega)];exact hZ
 have hb0:ac w.heap.size w (W.setCell ⟨w.heap.size+1+1,9,Oh⟩ (N9 Oa e.ref)):=hbe.setCell (by show _<=w.heap.size+1+1;omega) _;have hO1:aM ((W.setCell ⟨w.heap.size+1+1,9,Oh⟩ (N9 Oa e.ref)).setCell ⟨w.heap.size+1+1,8,Oh⟩ (N9 Oa e.grade)) (w.heap.size+1+1) (⟨e.id,e.school,e.student,e.kind,e.day,e.on,⟨#[]⟩,0,e.grade,e.ref,0,0,0,e.key,e.mark⟩:Ent):=hO0.setc 8 _ rfl;have hZ1:((W.setCell ⟨w.heap.size+1+1,9,Oh⟩ (N9 Oa e.ref)).setCell ⟨w.heap.size+1+1,8,Oh⟩ (N9 Oa e.grade)).heap[w.heap.size+1]? = Og (Of zeroCells 67 (0,0)):=by rw[Below.heap_setCell _ _ _ _ (by show w.heap.size+1≠w.heap.size+1+1;omega)];exact hZ0
 have hb1:ac w.heap.size w ((W.setCell ⟨w.heap.size+1+1,9,none⟩ (.int .i64 e.ref)).setCell ⟨w.heap.size+1+1,8,none⟩ (.int .i64 e.grade)):=hb0.setCell (by show _<=w.heap.size+1+1;omega) _;have hat:=hO1.at_;clear hE hO;go_wp2_with (first|((with_reducible refine wpList_load_mid (op:=⟨_,_,_,_,_,_⟩) ?_ 67 (.tmp 3) ?_ (w.heap.size+1+1) 0 ?_ (Ent.cells (⟨e.id,e.school,e.student,e.kind,e.day,e.on,⟨#[]⟩,0,e.grade,e.ref,0,0,0,e.key,e.mark⟩:Ent)).toList _ ?_ underlying67 ?_ ?_ ?_);rfl;rfl;rfl;exact hat;rfl;kernel_rfl)|((with_reducible refine wpList_store_row (o:=⟨none,.store 67 (.tmp 2) (.tmp 68),_,_,_,_⟩) ?_ 67 (.tmp 2) (.tmp 68) ?_ (w.heap.size+1) (Ent.cells (⟨e.id,e.school,e.student,e.kind,e.day,e.on,⟨#[]⟩,0,e.grade,e.ref,0,0,0,e.key,e.mark⟩:Ent)) ?_ ?_ 67 zeroCells ?_ ?_ ?_ ?_ ?_);rfl;rfl;rfl;rfl;exact hZ1;kernel_rfl;rfl;simp[Ent.cells,Value.oneCell']));refine bodyPost_ret (v:=Ent.val (⟨e.id,e.school,e.student,e.kind,e.day,e.on,⟨#[]⟩,0,e.grade,e.ref,0,0,0,e.key,e.mark⟩:Ent)) (results_cell_row (P:=prog) results116 _ _ (w.heap.size+1) 67 (Ent.cells (⟨e.id,e.school,e.student,e.kind,e.day,e.on,⟨#[]⟩,0,e.grade,e.ref,0,0,0,e.key,e.mark⟩:Ent)) (0,0) _ rfl ?_ underlying67 rfl mKr) rfl ⟨by rw[hp.out],?_⟩
 .exact gi hZ1 _
 .exact bu hb1 mOm _
theorem nY{p:Prop} (h:p:=by
 have c9:W.cell? ⟨w.heap.size,9,Oh⟩=Og (N9 Oa e.ref):=hE.cell 9;have o9:W.cell? ⟨w.heap.size+1+1,9,Oh⟩=Og (N9 Oa 0):=hO.cell 9;refine iD ?_;intro fz;refine qJ ?_;intro hO0;have hZ0:(W.setCell ⟨w.heap.size+1+1,9,Oh⟩ (N9 Oa e.ref)).heap[w.heap.size+1]? = Og (Of zeroCells 67 (0,0)):=by rw[Below.heap_setCell _ _ _ _ (by show w.heap.size+1≠w.heap.size+1+1;omega)];exact hZ
 have hb0:ac w.heap.size w (W.setCell ⟨w.heap.size+1+1,9,none⟩ (.int .i64 e.ref)):=hbe.setCell (by show _<=w.heap.size+1+1;omega) _;have hat:=hO0.at_;clear hE hO;go_wp2_with (first|((with_reducible refine wpList_load_mid (op:=⟨_,_,_,_,_,_⟩) ?_ 67 (.tmp 3) ?_ (w.heap.size+1+1) 0 ?_ (Ent.cells (⟨e.id,e.school,e.student,e.kind,e.day,e.on,⟨#[]⟩,0,0,e.ref,0,0,0,e.key,e.mark⟩:Ent)).toList _ ?_ underlying67 ?_ ?_ ?_);rfl;rfl;rfl;exact hat;rfl;kernel_rfl)|((with_reducible refine wpList_store_row (o:=⟨none,.store 67 (.tmp 2) (.tmp 68),_,_,_,_⟩) ?_ 67 (.tmp 2) (.tmp 68) ?_ (w.heap.size+1) (Ent.cells (⟨e.id,e.school,e.student,e.kind,e.day,e.on,⟨#[]⟩,0,0,e.ref,0,0,0,e.key,e.mark⟩:Ent)) ?_ ?_ 67 zeroCells ?_ ?_ ?_ ?_ ?_);rfl;rfl;rfl;rfl;exact hZ0;kernel_rfl;rfl;simp[Ent.cells,Value.oneCell']));refine bodyPost_ret (v:=Ent.val (⟨e.id,e.school,e.student,e.kind,e.day,e.on,⟨#[]⟩,0,0,e.ref,0,0,0,e.key,e.mark⟩:Ent)) (results_cell_row (P:=prog) results116 _ _ (w.heap.size+1) 67 (Ent.cells (⟨e.id,e.school,e.student,e.kind,e.day,e.on,⟨#[]⟩,0,0,e.ref,0,0,0,e.key,e.mark⟩:Ent)) (0,0) _ rfl ?_ underlying67 rfl mKr) rfl ⟨by rw[hp.out],?_⟩
 .exact gi hZ0 _
 .exact bu hb0 mOm _):p:=h
theorem ni{p q:Prop}(h:q) (f:Wq q->p:=by
 intro hq;have hp:=aa (show eN e=(⟨e.id,e.school,e.student,e.kind,e.day,e.on,⟨#[]⟩,0,0,e.ref,0,0,0,e.key,e.mark⟩:Ent) by unfold eN;simp[hk])
 revert hp
 exact hq.1):p:=f ⟨h⟩
theorem L7(e:Ent)(hk:e.kind=5)(w:World) :
  Calls prog 116 #[e.val] w fun x w'=>x=Oe (eN e).val/\ac w.heap.size w w':=by
 refine ni ?_;intro hp;have HK:=aa hk;clear hk;go_enter func116,ntmps116
 go_upto_region 2 with fail
 refine fS ?_;intro h3 h3b hbe;generalize ((w.alloc _).alloc _).alloc _=W at h3 h3b hbe |-;obtain⟨h3,h4⟩:=h3;refine fR ?_;intro hE hZ hO;clear h3 h3b h4;have ck:W.cell? ⟨w.heap.size,3,Oh⟩=Og (N9 Oa 5):=by rw[hE.cell 3];simp[Ent.cells,HK.out]
 exact nY
theorem L8(e:Ent)(hk:e.kind=6)(w:World) :
  Calls prog 116 #[e.val] w fun x w'=>x=Oe (eN e).val/\ac w.heap.size w w':=by
 refine ni ?_;intro hp;have HK:=aa hk;clear hk;go_enter func116,ntmps116
 go_upto_region 2 with fail
 refine fS ?_;intro h3 h3b hbe;generalize ((w.alloc _).alloc _).alloc _=W at h3 h3b hbe |-;obtain⟨h3,h4⟩:=h3;refine fR ?_;intro hE hZ hO;clear h3 h3b h4;have ck:W.cell? ⟨w.heap.size,3,Oh⟩=Og (N9 Oa 6):=by rw[hE.cell 3];simp[Ent.cells,HK.out]
 exact nY
theorem L9(e:Ent)(hk:e.kind=7)(w:World) :
  Calls prog 116 #[e.val] w fun x w'=>x=Oe (eN e).val/\ac w.heap.size w w':=by
 have hp:=aa (show eN e=(⟨e.id,e.school,e.student,e.kind,e.day,e.on,⟨#[]⟩,0,0,0,e.fro,0,0,e.key,e.mark⟩:Ent) by unfold eN;simp[hk]);have HK:=aa hk;clear hk;go_enter func116,ntmps116
 go_upto_region 2 with fail
 refine fS ?_;intro h3 h3b hbe;generalize ((w.alloc _).alloc _).alloc _=W at h3 h3b hbe |-;obtain⟨h3,h4⟩:=h3;refine fR ?_;intro hE hZ hO;clear h3 h3b h4;have ck:W.cell? ⟨w.heap.size,3,Oh⟩=Og (N9 Oa 7):=by rw[hE.cell 3];simp[Ent.cells,HK.out]
 have c10:W.cell? ⟨w.heap.size,10,Oh⟩=Og (N9 Oa e.fro):=hE.cell 10;have o10:W.cell? ⟨w.heap.size+1+1,10,Oh⟩=Og (N9 Oa 0):=hO.cell 10;refine iD ?_;intro fz;have hO0:aM (W.setCell ⟨w.heap.size+1+1,10,Oh⟩ (N9 Oa e.fro)) (w.heap.size+1+1) (⟨e.id,e.school,e.student,e.kind,e.day,e.on,⟨#[]⟩,0,0,0,e.fro,0,0,e.key,e.mark⟩:Ent):=hO.setc 10 _ rfl;have hZ0:(W.setCell ⟨w.heap.size+1+1,10,Oh⟩ (N9 Oa e.fro)).heap[w.heap.size+1]? = Og (Of zeroCells 67 (0,0)):=by rw[Below.heap_setCell _ _ _ _ (by show w.heap.size+1≠w.heap.size+1+1;omega)];exact hZ
 have hb0:ac w.heap.size w (W.setCell ⟨w.heap.size+1+1,10,none⟩ (.int .i64 e.fro)):=hbe.setCell (by show _<=w.heap.size+1+1;omega) _;have hat:=hO0.at_;clear hE hO;go_wp2_with (first|((with_reducible refine wpList_load_mid (op:=⟨_,_,_,_,_,_⟩) ?_ 67 (.tmp 3) ?_ (w.heap.size+1+1) 0 ?_ (Ent.cells (⟨e.id,e.school,e.student,e.kind,e.day,e.on,⟨#[]⟩,0,0,0,e.fro,0,0,e.key,e.mark⟩:Ent)).toList _ ?_ underlying67 ?_ ?_ ?_);rfl;rfl;rfl;exact hat;rfl;kernel_rfl)|((with_reducible refine wpList_store_row (o:=⟨none,.store 67 (.tmp 2) (.tmp 68),_,_,_,_⟩) ?_ 67 (.tmp 2) (.tmp 68) ?_ (w.heap.size+1) (Ent.cells (⟨e.id,e.school,e.student,e.kind,e.day,e.on,⟨#[]⟩,0,0,0,e.fro,0,0,e.key,e.mark⟩:Ent)) ?_ ?_ 67 zeroCells ?_ ?_ ?_ ?_ ?_);rfl;rfl;rfl;rfl;exact hZ0;kernel_rfl;rfl;simp[Ent.cells,Value.oneCell']));refine bodyPost_ret (v:=Ent.val (⟨e.id,e.school,e.student,e.kind,e.day,e.on,⟨#[]⟩,0,0,0,e.fro,0,0,e.key,e.mark⟩:Ent)) (results_cell_row (P:=prog) results116 _ _ (w.heap.size+1) 67 (Ent.cells (⟨e.id,e.school,e.student,e.kind,e.day,e.on,⟨#[]⟩,0,0,0,e.fro,0,0,e.key,e.mark⟩:Ent)) (0,0) _ rfl ?_ underlying67 rfl mKr) rfl ⟨by rw[hp.out],?_⟩
 .exact gi hZ0 _
 .exact bu hb0 mOm _
theorem Ma(e:Ent)(hk:e.kind=8)(w:World) :
  Calls prog 116 #[e.val] w fun x w'=>x=Oe (eN e).val/\ac w.heap.size w w':=by
 have hp:=aa (show eN e=(⟨e.id,e.school,e.student,e.kind,e.day,e.on,⟨#[]⟩,0,0,0,0,e.programme,0,e.key,e.mark⟩:Ent) by unfold eN;simp[hk]);have HK:=aa hk;clear hk;go_enter func116,ntmps116
 go_upto_region 2 with fail
 refine fS ?_;intro h3 h3b hbe;generalize ((w.alloc _).alloc _).alloc _=W at h3 h3b hbe |-;obtain⟨h3,h4⟩:=h3;refine fR ?_;intro hE hZ hO;clear h3 h3b h4;have ck:W.cell? ⟨w.heap.size,3,Oh⟩=Og (N9 Oa 8):=by rw[hE.cell 3];simp[Ent.cells,HK.out]
 exact sv
theorem Mb(e:Ent)(hk:e.kind=9)(w:World) :
  Calls prog 116 #[e.val] w fun x w'=>x=Oe (eN e).val/\ac w.heap.size w w':=by
 refine ni ?_;intro hp;have HK:=aa hk;clear hk;go_enter func116,ntmps116
 go_upto_region 2 with fail
 refine fS ?_;intro h3 h3b hbe;generalize ((w.alloc _).alloc _).alloc _=W at h3 h3b hbe |-;obtain⟨h3,h4⟩:=h3;refine fR ?_;intro hE hZ hO;clear h3 h3b h4;have ck:W.cell? ⟨w.heap.size,3,Oh⟩=Og (N9 Oa 9):=by rw[hE.cell 3];simp[Ent.cells,HK.out]
 exact nY
theorem IK(e:Ent)(hk:1<=e.kind/\e.kind<=9)(w:World) :
  Calls prog 116 #[e.val] w fun x w'=>x=Oe (eN e).val/\ac w.heap.size w w':=by
 have h:e.kind=1\/e.kind=2\/e.kind=3\/e.kind=4\/e.kind=5\/e.kind=6\/e.kind=7\/e.kind=8\/e.kind=9:=mOm;rcases h with h|h|h|h|h|h|h|h|h
 .exact L0 e h w
 .exact L4 e h w
 .exact L5 e h w
 .exact L6 e h w
 .exact L7 e h w
 .exact L8 e h w
 .exact L9 e h w
 .exact Ma e h w
 .exact Mb e h w
end
section
variable {s0 s1 s2 s3 s4 s5 s6 s7 s8 s9 a2 a3 a4 a5 a6 a7 a8 a9 ab ad bf bg bh bk bm bo bp bq br bs bt af ag ao b0 b1 b2 b3 b4 b5 b6 b7 b8 b9 ba bb bc bd be a0 a1:Value}
open Go Go.RowKit Go.Sort Go.Lib
attribute [local go_sem] Ent.cells
theorem EM(a b:Ent)(w:World):(binOp .neq 67 a.val b.val).run prog w=.ok (.bool (!eqE a b)) w:=by rw[run_neq_struct,Cw];rfl
attribute [local go_sem ↓] EK EM
theorem sH{p:Prop} (h:p:=by
 go_wp2_with fail;refine(iq _ _ _ _).mono ?_;rintro r w1⟨rfl,rfl⟩;go_wp2_with fail;refine(iq _ _ _ _).mono ?_;rintro r w1⟨rfl,rfl⟩;go_wp2_with fail
 exact HQ.out _ _ _ _ _ _ _ _ _ _ _ _ _ _ _ _ _ rfl):p:=h
theorem Me(eb:Nat)(e:Ent)(W:World)(Q:Exit->Act->World->Prop)(hx:aM W eb e)
  (hQ:∀(u4 u5 u6 u7 u8 u9 cd ce cf cg ch ci cj ck cl cn:Value)(wx:World),W=wx->Q .normal ⟨aK (s0::.pointer (some ⟨eb,0,none⟩)::s2::.bool (!au e.id 1 899999 || !au e.school 1 8 || !au e.student 1 999999)::u4::u5::u6::u7::u8::u9::cd::ce::cf::cg::ch::ci::cj::ck::cl::cn::bf::bg::bh::bk::bm::bo::bp::bq::br::bs::bt::af::ag::ao::b0::b1::b2::b3::b4::b5::b6::b7::b8::b9::ba::bb::bc::bd::be::a0::a1::[]),[]⟩ wx) :
  (db f53 1).wp prog Q ⟨aK (s0::Od (Og ⟨eb,0,Oh⟩)::[s2,s3,s4,s5,s6,s7,s8,s9,a2,a3,a4,a5,a6,a7,a8,a9,ab,ad,bf,bg,bh,bk,bm,bo,bp,bq,br,bs,bt,af,ag,ao,b0,b1,b2,b3,b4,b5,b6,b7,b8,b9,ba,bb,bc,bd,be,a0,a1]),[]⟩ W:=by
 refine mOn ?_;generalize Q .normal=K at hQ |-;have HQ:=aa hQ;clear hQ
 conv=>arg 2;whnf
 have c0:W.cell? ⟨eb,0,Oh⟩=Og (N9 Oa e.id):=hx.cell 0
 have c1:W.cell? ⟨eb,1,Oh⟩=Og (N9 Oa e.school):=hx.cell 1;have c2:W.cell? ⟨eb,2,Oh⟩=Og (N9 Oa e.student):=hx.cell 2
 cases h1:au e.id 1 899999
 .rw[h1] at HQ;go_wp2_with fail;refine(iq _ _ _ _).mono ?_;rintro r w1⟨rfl,rfl⟩;go_wp2_with fail;exact HQ.out _ _ _ _ _ _ _ _ _ _ _ _ _ _ _ _ _ rfl
 .rw[h1] at HQ
  cases h2:au e.school 1 8
  .rw[h2] at HQ;exact sH
  .rw[h2] at HQ
   cases h3:au e.student 1 999999
   all_goals
    rw[h3] at HQ
    go_wp2_with fail;refine(iq _ _ _ _).mono ?_;rintro r w1⟨rfl,rfl⟩;exact sH
theorem sB{p:Prop} (h:p:=by
 go_wp2_with fail;refine(iq _ _ _ _).mono ?_;rintro r w1⟨rfl,rfl⟩;go_wp2_with fail;refine(iq _ _ _ _).mono ?_;rintro r w1⟨rfl,rfl⟩;go_wp2_with fail
 exact HQ.out _ _ _ _ _ _ _ _ _ _ _ _ _ _ _ _ _ _ rfl):p:=h
theorem Mf(eb:Nat)(e:Ent)(W:World)(Q:Exit->Act->World->Prop)(hx:aM W eb e)
  (hQ:∀(co cp cr cs ct cv cx cy cz cA cB cD cG cO cS cW cX:Value)(wx:World),W=wx->Q .normal ⟨aK (s0::.pointer (some ⟨eb,0,none⟩)::s2::s3::s4::s5::s6::s7::s8::s9::a2::a3::a4::a5::a6::a7::a8::a9::ab::ad::bf::bg::bh::bk::bm::bo::bp::bq::br::bs::bt::.bool (!au e.day 0 100000 || !au e.on 0 100000||decide (e.day<e.on))::co::cp::cr::cs::ct::cv::cx::cy::cz::cA::cB::cD::cG::cO::cS::cW::cX::a0::a1::[]),[]⟩ wx) :
  (db f53 5).wp prog Q ⟨aK (s0::Od (Og ⟨eb,0,Oh⟩)::[s2,s3,s4,s5,s6,s7,s8,s9,a2,a3,a4,a5,a6,a7,a8,a9,ab,ad,bf,bg,bh,bk,bm,bo,bp,bq,br,bs,bt,af,ag,ao,b0,b1,b2,b3,b4,b5,b6,b7,b8,b9,ba,bb,bc,bd,be,a0,a1]),[]⟩ W:=by
 refine mOn ?_;generalize Q .normal=K at hQ |-;have HQ:=aa hQ;clear hQ
 conv=>arg 2;whnf
 have c4:W.cell? ⟨eb,4,Oh⟩=Og (N9 Oa e.day):=hx.cell 4
 have c5:W.cell? ⟨eb,5,Oh⟩=Og (N9 Oa e.on):=hx.cell 5
 cases h1:au e.day 0 100000
 .rw[h1] at HQ;go_wp2_with fail;refine(iq _ _ _ _).mono ?_;rintro r w1⟨rfl,rfl⟩;go_wp2_with fail;exact HQ.out _ _ _ _ _ _ _ _ _ _ _ _ _ _ _ _ _ _ rfl
 .rw[h1] at HQ
  cases h2:au e.on 0 100000
  .rw[h2] at HQ;exact sB
  .rw[h2] at HQ
   cases h3:decide (e.day<e.on)
   all_goals
    rw[h3] at HQ
    exact sB
theorem GI:lP .any (B5 (db f53 3)) (Array.replicate (B5 (db f53 3)).size false) [(0,true),(1,true),(2,false),(3,true),(4,true),(5,true),(7,true),(6,false),(8,true),(9,true),(10,true)]=true:=mKr
theorem qz{p q:Prop}(h:q) (f:Wq q->p:=by
 intro hq;have hbd:ac W.heap.size W W.drew:=(Below.refl W.heap.size W).drew;have hS:ac W.heap.size W W.drew/\(∀j,W.drew.cell? ⟨eb,j,Oh⟩=e.cells[j]?):=⟨hbd,(hx.below hbd).cell⟩;refine oA (S:=(fun w'=>ac W.heap.size W w'/\(∀j,w'.cell? ⟨eb,j,Oh⟩=e.cells[j]?))) [(0,true),(1,true),(2,false),(3,true),(4,true),(5,true),(7,true),(6,false),(8,true),(9,true),(10,true)] mKr mKr GI mDe hS ?_
 iterate 2 refine ak ?_
 refine uP ⟨_,_,_,_,_,_⟩ rfl mRf 115 _ _ mRf [N9 Oa e.kind,N9 Oa 1,N9 Oa 9] mRf call115 (iq _ _ _ _) ?_
 revert hbd hS
 exact hq.1):p:=f ⟨h⟩
theorem El(eb:Nat)(e:Ent)(W:World)(Q:Exit->Act->World->Prop)(hx:aM W eb e)(hk:au e.kind 1 9=false)
  (hQ:∀(bv bx c3 c6 c7 c8 c9 ca cb cc:Value)(wx:World),ac W.heap.size W wx->Q .normal ⟨aK (s0::Od (Og ⟨eb,0,Oh⟩)::s2::s3::s4::s5::s6::s7::s8::s9::a2::a3::a4::a5::a6::a7::a8::a9::ab::ad::.bool true::[bv,bx,c3,c6,c7,c8,c9,ca,cb,cc,af,ag,ao,b0,b1,b2,b3,b4,b5,b6,b7,b8,b9,ba,bb,bc,bd,be,a0,a1]),[]⟩ wx) :
  (db f53 3).wp prog Q ⟨aK (s0::Od (Og ⟨eb,0,Oh⟩)::[s2,s3,s4,s5,s6,s7,s8,s9,a2,a3,a4,a5,a6,a7,a8,a9,ab,ad,bf,bg,bh,bk,bm,bo,bp,bq,br,bs,bt,af,ag,ao,b0,b1,b2,b3,b4,b5,b6,b7,b8,b9,ba,bb,bc,bd,be,a0,a1]),[]⟩ W:=by
 refine mOn ?_;generalize Q .normal=K at hQ |-;have HQ:=aa hQ;clear hQ
 conv=>arg 2;whnf
 refine qz ?_;intro hbd hS
 rintro r w1⟨rfl,rfl⟩;refine⟨_,rfl,hS,?_⟩;refine ay ?_
 iterate 4 (first|refine ak ?_|refine dw ?_)
 refine jF ⟨_,_,_,_,_,_⟩ rfl mRf hS ?_;refine ay ?_
 iterate 3 (first|refine ak ?_|refine dw ?_)
 exact HQ.out _ _ _ _ _ _ _ _ _ _ _ hS.1
theorem GJ(eb:Nat)(e:Ent)(W:World)(Q:Exit->Act->World->Prop)(hx:aM W eb e)(hb:au e.kind 1 9=true)(hk:1<=e.kind/\e.kind<=9)
  (hQ:∀(bv bx c3 c6 c7 c8 c9 ca cb cc:Value)(wx:World),ac W.heap.size W wx->Q .normal ⟨aK (s0::Od (Og ⟨eb,0,Oh⟩)::s2::s3::s4::s5::s6::s7::s8::s9::a2::a3::a4::a5::a6::a7::a8::a9::ab::ad::.bool (!eqE (eN e) e)::bv::bx::c3::c6::c7::c8::c9::ca::cb::cc::af::ag::ao::b0::b1::b2::b3::b4::b5::b6::b7::b8::b9::ba::bb::bc::bd::be::a0::a1::[]),[]⟩ wx) :
  (db f53 3).wp prog Q ⟨aK (s0::Od (Og ⟨eb,0,Oh⟩)::[s2,s3,s4,s5,s6,s7,s8,s9,a2,a3,a4,a5,a6,a7,a8,a9,ab,ad,bf,bg,bh,bk,bm,bo,bp,bq,br,bs,bt,af,ag,ao,b0,b1,b2,b3,b4,b5,b6,b7,b8,b9,ba,bb,bc,bd,be,a0,a1]),[]⟩ W:=by
 refine mOn ?_;generalize Q .normal=K at hQ |-;have HQ:=aa hQ;clear hQ
 conv=>arg 2;whnf
 refine qz ?_;intro hbd hS
 rintro r w1⟨rfl,rfl⟩;refine⟨_,rfl,hS,?_⟩;refine ay ?_
 iterate 2 refine ak ?_
 refine uQ ⟨_,_,_,_,_,_⟩ e eb rfl mRf _ mRf mRf (fun w hS=>hS.2) ?_;refine ay ?_;refine uQ ⟨_,_,_,_,_,_⟩ e eb rfl mRf _ mRf mRf (fun w hS=>hS.2) ?_;refine ay ?_;refine uP ⟨_,_,_,_,_,_⟩ rfl mRf 116 _ _ mRf [e.val] mRf call116 (IK e hk _) ?_;rintro r w1⟨rfl,hb1⟩;replace hS:=aM.of_cells (e:=e) hS hb1;refine⟨_,rfl,hS,?_⟩;clear hb1;refine ay ?_
 iterate 3 refine ak ?_
 exact HQ.out _ _ _ _ _ _ _ _ _ _ _ hS.1
end
section
open Go Go.RowKit Go.Sort Go.Lib
def stI:Option (List UInt8)->Int×Option (List UInt8)
 | none=>(0,none)
 | some r=>match Wr.intP r with
  | some (n,r')=>(n,some r')
  | none=>(0,none)
def stT:Option (List UInt8)->ByteArray×Option (List UInt8)
 | none=>(⟨#[]⟩,none)
 | some r=>match Wr.txtP r with
  | some (t,r')=>(t,some r')
  | none=>(⟨#[]⟩,none)
def RdSt(w:World)(p:Nat):Option (List UInt8)->Prop
 | some r=>Wr.RdAt w p ⟨r.toArray⟩ false/\r.length<=1000000
 | none=>Wr.RdAt w p ⟨#[]⟩ true
def Hc(p:Nat)(R:World->Prop)(v:Value)(w:World)(x:Ending)(w':World):Prop:=x=Oe v/\R w'/\Wr.But p w w'
theorem gO(p:Nat)(hp:Wr.Past p)(st:Option (List UInt8))(w:World)(h:RdSt w p st)(ht:Wr.Sane w)(he:Wr.ErrVars w) :
  Calls prog 162 #[Od (Og ⟨p,0,Oh⟩)] w (Hc p (fun w'=>RdSt w' p (stI st).2) (N9 Oa (stI st).1) w):=by
 cases st with
 | none =>
  refine(Wr.rdInt_any p hp ⟨#[]⟩ mDe true w h ht he).mono fun x w' hR=>?_
  rw[if_pos rfl] at hR;exact hR
 | some r =>
  have hl:=h.2;refine(Wr.rdInt_any p hp ⟨r.toArray⟩ (by show r.length<=_;omega) false w h.1 ht he).mono fun x w' hR=>?_
  rw[if_neg mDe] at hR;simp only at hR;unfold stI;simp only
  change Wr.Reads p _ _ (Wr.intP r) w x w' at hR
  rcases hz:Wr.intP r with _|⟨n,r'⟩
  .rw[hz] at hR;exact hR
  .rw[hz] at hR;have hlen:=congrArg jQ (Wr.intP_some hz).1;rw[ap] at hlen;exact⟨hR.1,⟨hR.2.1,mOm⟩,hR.2.2⟩
theorem zJ(p:Nat)(hp:Wr.Past p)(st:Option (List UInt8))(w:World)(h:RdSt w p st)(ht:Wr.Sane w)(he:Wr.ErrVars w) :
  Calls prog 163 #[Od (Og ⟨p,0,Oh⟩)] w (Hc p (fun w'=>RdSt w' p (stT st).2) (Ob (stT st).1) w):=by
 cases st with
 | none =>
  refine(Wr.rdText_any p hp ⟨#[]⟩ mDe true w h ht he).mono fun x w' hR=>?_
  rw[if_pos rfl] at hR;exact hR
 | some r =>
  have hl:=h.2;refine(Wr.rdText_any p hp ⟨r.toArray⟩ (by show r.length<=_;omega) false w h.1 ht he).mono fun x w' hR=>?_
  rw[if_neg mDe] at hR;simp only at hR;unfold stT;simp only;rcases hz:Wr.textP r with _|⟨t,r'⟩
  .have h2:Wr.txtP r=Oh:=by unfold Wr.txtP;rw[hz];rfl
   rw[hz] at hR;rw[h2];exact hR
  .have h2:Wr.txtP r=Og (⟨t.toArray⟩,r'):=by unfold Wr.txtP;rw[hz];rfl
   rw[hz] at hR;rw[h2];have hlen:=congrArg jQ (Wr.txtP_some h2).1;rw[ap] at hlen;exact⟨hR.1,⟨hR.2.1,mOm⟩,hR.2.2⟩
def BZ:Option (List UInt8)->Int
 | some r=>r.length
 | none=>0
theorem I4(p:Nat)(st:Option (List UInt8))(w:World)(h:RdSt w p st):Calls prog 164 #[Od (Og ⟨p,0,Oh⟩)] w fun x w'=>x=Oe (.bool st.isNone)/\w=w':=by
 cases st with
 | none=>exact Wr.bad_any p ⟨#[]⟩ true w h
 | some r=>exact Wr.bad_any p _ false w h.1
theorem GU(p:Nat)(st:Option (List UInt8))(w:World)(h:RdSt w p st):Calls prog 165 #[Od (Og ⟨p,0,Oh⟩)] w fun x w'=>x=Oe (N9 Oa (BZ st))/\w=w':=by
 cases st with
 | none=>exact Wr.left_any p ⟨#[]⟩ true w h
 | some r=>exact Wr.left_any p _ false w h.1
def uI(s0:Option (List UInt8)):Ent×Option (List UInt8):=
 let a1:=stI s0;let a2:=stI a1.2;let a3:=stI a2.2;let a4:=stI a3.2;let a5:=stI a4.2;let a6:=stI a5.2
 let a7:=stT a6.2
 let a8:=stI a7.2;let a9:=stI a8.2;let a10:=stI a9.2;let a11:=stI a10.2;let a12:=stI a11.2;let a13:=stI a12.2;let a14:=stI a13.2
 let a15:=stT a14.2
 (⟨a1.1,a2.1,a3.1,a4.1,a5.1,a6.1,a7.1,a8.1,a9.1,a10.1,a11.1,a12.1,a13.1,a14.1,a15.1⟩,a15.2)
theorem yR{t0 t1 t2 t3 t4 t5 t6 t7 t8 t9 t10 t11 t12 t13 t14 t15:Option (List UInt8)}{n1 n2 n3 n4 n5 n6 n8 n9 n10 n11 n12 n13 n14:Int}{n7 n15:ByteArray}(h1:stI t0=(n1,t1))(h2:stI t1=(n2,t2))(h3:stI t2=(n3,t3))(h4:stI t3=(n4,t4))(h5:stI t4=(n5,t5))(h6:stI t5=(n6,t6))(h7:stT t6=(n7,t7))(h8:stI t7=(n8,t8))(h9:stI t8=(n9,t9))(h10:stI t9=(n10,t10))(h11:stI t10=(n11,t11))(h12:stI t11=(n12,t12))(h13:stI t12=(n13,t13))(h14:stI t13=(n14,t14))(h15:stT t14=(n15,t15)) :
  uI t0=(⟨n1,n2,n3,n4,n5,n6,n7,n8,n9,n10,n11,n12,n13,n14,n15⟩,t15):=by
 unfold uI;simp only[h1,h2,h3,h4,h5,h6,h7,h8,h9,h10,h11,h12,h13,h14,h15]
theorem ji{n:Int}(hn:I64 n)(r:List UInt8):stI (Og (dM n++r))=(n,Og r):=by unfold stI;simp only;rw[Wr.intP_int hn r]
theorem Dm{t:ByteArray}(ht:t.size<=100000)(r:List UInt8):stT (Og (eW t++r))=(t,Og r):=by unfold stT;simp only;rw[Wr.txtP_text mOm r]
theorem Ho(e:Ent)(h:e.Ok):uI (Og e.code)=(e,Og []):=by
 have hc:e.code=dM e.id++(dM e.school++(dM e.student++(dM e.kind++(dM e.day++(dM e.on++(eW e.course++(dM e.credits++(dM e.grade++(dM e.ref++(dM e.fro++(dM e.programme++(dM e.version++(dM e.key++(eW e.mark++[])))))))))))))):=by simp[Ent.code,Ent.body,gl,Ent.ints1,Ent.ints2]
 rw[hc]
 exact yR (ji h.id _) (ji h.school _) (ji h.student _) (ji h.kind _) (ji h.day _) (ji h.on _) (Dm h.course _) (ji h.credits _) (ji h.grade _) (ji h.ref _) (ji h.fro _) (ji h.programme _) (ji h.version _) (ji h.key _) (Dm h.mark _)
def ek(s:List UInt8):Ent×Int:=if 262144<s.length then (entZ,2) else if (uI (Og s)).2=Og [] then ((uI (Og s)).1,0) else (entZ,4)
def tG(s:List UInt8):Value:=.tuple #[(ek s).1.val,N9 Oa (ek s).2]
theorem Hp(e:Ent)(h:e.Ok)(hl:e.code.length<=262144):ek e.code=(e,0):=by unfold ek;rw[if_neg mOm,Ho e h,if_pos rfl]
end
section
namespace Wr
open Go Go.RowKit Go.Sort Go.Lib
structure Ready (w:World):Prop where
 sane:Sane w
 errs:ErrVars w
theorem Ready.below{w w':World}(h:Ready w)(hb:ac w.heap.size w w'):Ready w':=⟨h.sane.below hb,h.errs.below hb⟩
theorem Jd{w:World}{n:String}{cs:Array Value}{g:Nat}(hg:prog.globalNamed n=Og g)(h:w.var? prog n=Og cs):g<w.heap.size:=by
 unfold World.var? at h;rw[hg] at h;simp only[Option.bind_some] at h;rcases Nat.lt_or_ge g w.heap.size with hx|hx
 .exact hx
 .rw[Array.getElem?_eq_none hx] at h;cases h
theorem Ready.past{w:World}(h:Ready w){p:Nat}(hp:w.heap.size<=p):Past p:=by obtain⟨⟨h1,m,h2⟩,⟨t1,p1,e1⟩,t2,p2,e2⟩:=h;have a1:=h1.lt;have a2:=al w _ h2;have a3:=Jd (g:=2) mKr e1;have a4:=Jd (g:=3) mKr e2;unfold Past;simp only at a2;omega
end Wr
open Go Go.RowKit Go.Sort Go.Lib
attribute [local go_sem] Ent.cells
structure DIn (w W:World) (zb eb:Nat) (e:Ent):Prop where
 below:ac w.heap.size w W
 zero:aM W zb entZ
 box:aM W eb e
theorem aM.but{w w':World}{b p:Nat}{e:Ent}(h:aM w b e)(hB:Wr.But p w w')(hp:b≠p):aM w' b e:=(hB.block b (av h) hp).trans h
theorem DIn.call{w W W':World}{zb eb p:Nat}{e:Ent}(h:DIn w W zb eb e)(hB:Wr.But p W W')(hp:w.heap.size<=p)(hz:zb≠p)(he:eb≠p):DIn w W' zb eb e:=
 ⟨h.below.trans (hB.below hp h.below.size),h.zero.but hB hz,h.box.but hB he⟩
theorem DIn.set{w W:World}{zb eb:Nat}{e:Ent}(h:DIn w W zb eb e)(e':Ent)(j:Nat)(u:Value)(he:e.cells.setIfInBounds j u=e'.cells)(hz:zb≠eb)(hb:w.heap.size<=eb):DIn w (W.setCell ⟨eb,j,Oh⟩ u) zb eb e':=
 ⟨h.below.setCell (p:=⟨eb,j,Oh⟩) (by show w.heap.size<=eb;exact hb) u,h.zero.far2 hz j u,h.box.set j u he⟩
theorem Ci{W:World}{p eb:Nat}(hne:p≠eb)(j:Nat)(u:Value)(o:Nat):(W.setCell ⟨eb,j,Oh⟩ u).cell? ⟨p,o,Oh⟩=W.cell? ⟨p,o,Oh⟩:=
 World.cell?_of_block (Below.heap_setCell W ⟨eb,j,Oh⟩ u p (by show p≠eb;exact hne))
theorem yY{W:World}{p eb:Nat}(hne:p≠eb)(j:Nat)(u:Value)(o:Nat):(W.setCell ⟨eb,j,Oh⟩ u).frozen? ⟨p,o,Oh⟩=W.frozen? ⟨p,o,Oh⟩:=
 World.frozen?_of_block (Below.heap_setCell W ⟨eb,j,Oh⟩ u p (by show p≠eb;exact hne))
theorem IP{W:World}{p eb:Nat}{s:ByteArray}{b:Bool}(h:Wr.RdAt W p s b)(hne:p≠eb)(j:Nat)(u:Value):Wr.RdAt (W.setCell ⟨eb,j,Oh⟩ u) p s b:=
 ⟨(Ci hne j u 0).trans h.1,(Ci hne j u 1).trans h.2.1,(yY hne j u 0).trans h.2.2.1,(yY hne j u 1).trans h.2.2.2⟩
theorem RdSt.far{W:World}{p eb:Nat}{st:Option (List UInt8)}(h:RdSt W p st)(hne:p≠eb)(j:Nat)(u:Value):RdSt (W.setCell ⟨eb,j,Oh⟩ u) p st:=by
 cases st with
 | none=>exact IP h hne j u
 | some r=>exact⟨IP h.1 hne j u,h.2⟩
theorem bC{w W:World}(h:Wr.Ready w)(hb:ac w.heap.size w W):Wr.Ready W:=⟨h.sane.below hb,h.errs.below hb⟩
theorem DIn.go{w W W':World}{zb eb:Nat}{e:Ent}(h:DIn w W zb eb e)(hb:ac W.heap.size W W'):DIn w W' zb eb e:=
 ⟨h.below.trans (hb.mono h.below.size),h.zero.below hb,h.box.below hb⟩
theorem RdSt.below{w w':World}{p:Nat}{st:Option (List UInt8)}(h:RdSt w p st)(hb:ac w.heap.size w w'):RdSt w' p st:=by
 cases st with
 | none=>exact Wr.RdAt.below h hb
 | some r=>exact⟨h.1.below hb,h.2⟩
theorem Hr{s:List UInt8}(h:262144<s.length):tG s=.tuple #[entZ.val,N9 Oa 2]:=by unfold tG ek;rw[if_pos h]
theorem Hq{s:List UInt8}{e:Ent}(h:¬262144<s.length)(hd:uI (Og s)=(e,Og [])):tG s=.tuple #[e.val,N9 Oa 0]:=by unfold tG ek;rw[if_neg h,hd,if_pos rfl]
theorem Cq{s:List UInt8}{e:Ent}{t:Option (List UInt8)}(h:¬262144<s.length)(hd:uI (Og s)=(e,t))(ht:t≠Og []):tG s=.tuple #[entZ.val,N9 Oa 4]:=by unfold tG ek;rw[if_neg h,hd,if_neg ht]
end
section
open Go Go.RowKit Go.Sort Go.Lib
attribute [local go_sem] Ent.cells
theorem sy{p:Prop} (h:p:=by
 go_wp2_with ((with_reducible refine wpList_store_row (o:=⟨Oh,.store 67 (.tmp 2) (.tmp 64),_,_,_,_⟩) ?_ 67 (.tmp 2) (.tmp 64) ?_ (w.heap.size) (Ent.cells entZ) ?_ ?_ 67 (Ent.cells entZ) ?_ ?_ ?_ ?_ ?_);rfl;rfl;rfl;rfl;exact hzb;kernel_rfl;rfl;simp[Ent.cells,entZ,Value.oneCell'])
 (try simp only[Exit.inBlock,Exit.then]);refine bodyPost_ret (lm results95 _ _ (w.heap.size) entZ rfl (gi hzb _)) rfl ⟨?_,?_⟩
 .rw[HV.out];rfl
 .exact bu hbw (az _) _):p:=h
theorem dJ{p q:Prop}(h:q) (f:Wq q->p:=by
 intro hq;refine c.mono ?_;rintro x W1⟨rfl,R1,B⟩;replace D:=D.call B mOm mOm mOm
 revert W1 R1 B D
 exact hq.1):p:=f ⟨h⟩
theorem yS(s:ByteArray)(hsz:s.size<=1000000)(w:World)(ht:Wr.Ready w) :
  Calls prog 95 #[Ob s] w fun x w'=>x=Oe (tG s.data.toList)/\ac w.heap.size w w':=by
 have hs:=bF s;by_cases hbig:262144<s.size
 .have HV:=aa (Hr (s:=s.data.toList) mOm);have hgt:(262144:Int)<(s.size:Int):=mOm;have hzb:=aM.new w entZ;have hb0:=aq w (Of entZ.cells 67);clear hbig hs;go_enter func95,ntmps95;go_wp2_with ((with_reducible refine wpList_store_row (o:=⟨Oh,.store 67 (.tmp 2) (.tmp 13),_,_,_,_⟩) ?_ 67 (.tmp 2) (.tmp 13) ?_ (w.heap.size) (Ent.cells entZ) ?_ ?_ 67 (Ent.cells entZ) ?_ ?_ ?_ ?_ ?_);rfl;rfl;rfl;rfl;exact hzb;kernel_rfl;rfl;simp[Ent.cells,entZ,Value.oneCell'])
  (try simp only[Exit.inBlock,Exit.then]);refine bodyPost_ret (lm results95 _ _ (w.heap.size) entZ rfl (gi hzb _)) rfl ⟨?_,?_⟩
  .rw[HV.out];rfl
  .exact bu hb0 (az _) _
 have hbl:=aa (show ¬262144<s.data.toList.length by omega)
 clear hs;have hgt:¬(262144:Int)<(s.size:Int):=mOm;go_enter func95,ntmps95;go_wp2_with fail;have hb0:=aq w (Of entZ.cells 67);refine(Wr.new_any s _).mono ?_;rintro x w1⟨p,rfl,hp0,hR,hb1⟩;rw[size_alloc] at hp0;have hpl:=hR.lt;have hb2:=hb0.trans (hb1.mono hb0.size);have hb3:=He w1 (Of entZ.cells 67) (Of #[Od (Og ⟨w1.heap.size,0,Oh⟩),Od (Og ⟨w1.heap.size,1,Oh⟩),Od (Og ⟨w1.heap.size,2,Oh⟩),Od (Og ⟨w1.heap.size,3,Oh⟩),Od (Og ⟨w1.heap.size,4,Oh⟩),Od (Og ⟨w1.heap.size,5,Oh⟩)] 211);have hbx:=aq (w1.alloc (Of entZ.cells 67)) (Of #[Od (Og ⟨w1.heap.size,0,Oh⟩),Od (Og ⟨w1.heap.size,1,Oh⟩),Od (Og ⟨w1.heap.size,2,Oh⟩),Od (Og ⟨w1.heap.size,3,Oh⟩),Od (Og ⟨w1.heap.size,4,Oh⟩),Od (Og ⟨w1.heap.size,5,Oh⟩)] 211);have D:DIn w ((w1.alloc (Of entZ.cells 67)).alloc (Of #[Od (Og ⟨w1.heap.size,0,Oh⟩),Od (Og ⟨w1.heap.size,1,Oh⟩),Od (Og ⟨w1.heap.size,2,Oh⟩),Od (Og ⟨w1.heap.size,3,Oh⟩),Od (Og ⟨w1.heap.size,4,Oh⟩),Od (Og ⟨w1.heap.size,5,Oh⟩)] 211)) w.heap.size w1.heap.size entZ:=⟨hb2.trans (hb3.mono hb2.size),((aM.new w entZ).below hb1).below hb3,(aM.new w1 entZ).below hbx⟩;have R:RdSt ((w1.alloc (Of entZ.cells 67)).alloc (Of #[Od (Og ⟨w1.heap.size,0,Oh⟩),Od (Og ⟨w1.heap.size,1,Oh⟩),Od (Og ⟨w1.heap.size,2,Oh⟩),Od (Og ⟨w1.heap.size,3,Oh⟩),Od (Og ⟨w1.heap.size,4,Oh⟩),Od (Og ⟨w1.heap.size,5,Oh⟩)] 211)) p (Og s.data.toList):=⟨hR.below hb3,by have:=hbl.out;omega⟩;have hP:=heap_alloc_new (w1.alloc (Of entZ.cells 67)) (Of #[Od (Og ⟨w1.heap.size,0,Oh⟩),Od (Og ⟨w1.heap.size,1,Oh⟩),Od (Og ⟨w1.heap.size,2,Oh⟩),Od (Og ⟨w1.heap.size,3,Oh⟩),Od (Og ⟨w1.heap.size,4,Oh⟩),Od (Og ⟨w1.heap.size,5,Oh⟩)] 211);rw[size_alloc] at hP;have hlt:=hb2.size;have hEZ:entZ.cells=#[N9 Oa 0,N9 Oa 0,N9 Oa 0,N9 Oa 0,N9 Oa 0,N9 Oa 0,Ob ⟨#[]⟩,N9 Oa 0,N9 Oa 0,N9 Oa 0,N9 Oa 0,N9 Oa 0,N9 Oa 0,N9 Oa 0,Ob ⟨#[]⟩]:=rfl;have hpa:=ht.past (p:=p) mOm;rw[hEZ] at D R hP;clear hb0 hb1 hb2 hb3 hbx hR hEZ;go_wp2_with fail;generalize (w1.alloc (Of #[N9 Oa 0,N9 Oa 0,N9 Oa 0,N9 Oa 0,N9 Oa 0,N9 Oa 0,Ob ⟨#[]⟩,N9 Oa 0,N9 Oa 0,N9 Oa 0,N9 Oa 0,N9 Oa 0,N9 Oa 0,N9 Oa 0,Ob ⟨#[]⟩] 67)).alloc (Of #[Od (Og ⟨w1.heap.size,0,Oh⟩),Od (Og ⟨w1.heap.size,1,Oh⟩),Od (Og ⟨w1.heap.size,2,Oh⟩),Od (Og ⟨w1.heap.size,3,Oh⟩),Od (Og ⟨w1.heap.size,4,Oh⟩),Od (Og ⟨w1.heap.size,5,Oh⟩)] 211)=W at D R hP |-;generalize heb:w1.heap.size=eb at D hP hpl hlt |-;clear heb;refine wp_loop_rounds 7 ?_;obtain⟨n1,t1,h1⟩:∃n t,stI (Og s.data.toList)=(n,t):=⟨_,_,rfl⟩;have c:=gO p hpa (Og s.data.toList) W R ((bC ht D.below).sane) ((bC ht D.below).errs);rw[h1] at c;replace h1:=aa h1;have hr:W.cell? ⟨eb+1,0,Oh⟩=Og (Od (Og ⟨eb,0,Oh⟩)):=ae hP 0;rw[rounds_succ];go_wp2_with fail;refine dJ ?_;intro W1 R1 B D;have hc:W1.cell? ⟨eb,0,Oh⟩=Og (N9 Oa 0):=D.box.cell 0;have hf:=D.box.frozen 0;have hP1:=(B.block _ (av hP) mOm).trans hP;clear R B c hr;go_wp2_with fail;replace D:=D.set ⟨n1,0,0,0,0,0,⟨#[]⟩,0,0,0,0,0,0,0,⟨#[]⟩⟩ 0 (N9 Oa n1) rfl mOm mOm;have R:=R1.far (eb:=eb) mOm 0 (N9 Oa n1);replace hP:=(Below.heap_setCell W1 ⟨eb,0,Oh⟩ (N9 Oa n1) (eb+1) (by show eb+1≠eb;omega)).trans hP1;clear hc hf R1 hP1;generalize W1.setCell ⟨eb,0,Oh⟩ (N9 Oa n1)=W at D R hP |-;obtain⟨n2,t2,h2⟩:∃n t,stI t1=(n,t):=⟨_,_,rfl⟩;have c:=gO p hpa t1 W R ((bC ht D.below).sane) ((bC ht D.below).errs);rw[h2] at c;replace h2:=aa h2;have hr:W.cell? ⟨eb+1,1,Oh⟩=Og (Od (Og ⟨eb,1,Oh⟩)):=ae hP 1;rw[rounds_succ];go_wp2_with fail;refine dJ ?_;intro W1 R1 B D;have hc:W1.cell? ⟨eb,1,Oh⟩=Og (N9 Oa 0):=D.box.cell 1;have hf:=D.box.frozen 1;have hP1:=(B.block _ (av hP) mOm).trans hP;clear R B c hr;go_wp2_with fail;replace D:=D.set ⟨n1,n2,0,0,0,0,⟨#[]⟩,0,0,0,0,0,0,0,⟨#[]⟩⟩ 1 (N9 Oa n2) rfl mOm mOm;have R:=R1.far (eb:=eb) mOm 1 (N9 Oa n2);replace hP:=(Below.heap_setCell W1 ⟨eb,1,Oh⟩ (N9 Oa n2) (eb+1) (by show eb+1≠eb;omega)).trans hP1;clear hc hf R1 hP1;generalize W1.setCell ⟨eb,1,Oh⟩ (N9 Oa n2)=W at D R hP |-;obtain⟨n3,t3,h3⟩:∃n t,stI t2=(n,t):=⟨_,_,rfl⟩;have c:=gO p hpa t2 W R ((bC ht D.below).sane) ((bC ht D.below).errs);rw[h3] at c;replace h3:=aa h3;have hr:W.cell? ⟨eb+1,2,Oh⟩=Og (Od (Og ⟨eb,2,Oh⟩)):=ae hP 2;rw[rounds_succ];go_wp2_with fail;refine dJ ?_;intro W1 R1 B D;have hc:W1.cell? ⟨eb,2,Oh⟩=Og (N9 Oa 0):=D.box.cell 2;have hf:=D.box.frozen 2;have hP1:=(B.block _ (av hP) mOm).trans hP;clear R B c hr;go_wp2_with fail;replace D:=D.set ⟨n1,n2,n3,0,0,0,⟨#[]⟩,0,0,0,0,0,0,0,⟨#[]⟩⟩ 2 (N9 Oa n3) rfl mOm mOm;have R:=R1.far (eb:=eb) mOm 2 (N9 Oa n3);replace hP:=(Below.heap_setCell W1 ⟨eb,2,Oh⟩ (N9 Oa n3) (eb+1) (by show eb+1≠eb;omega)).trans hP1;clear hc hf R1 hP1;generalize W1.setCell ⟨eb,2,Oh⟩ (N9 Oa n3)=W at D R hP |-;obtain⟨n4,t4,h4⟩:∃n t,stI t3=(n,t):=⟨_,_,rfl⟩;have c:=gO p hpa t3 W R ((bC ht D.below).sane) ((bC ht D.below).errs);rw[h4] at c;replace h4:=aa h4;have hr:W.cell? ⟨eb+1,3,Oh⟩=Og (Od (Og ⟨eb,3,Oh⟩)):=ae hP 3;rw[rounds_succ];go_wp2_with fail;refine dJ ?_;intro W1 R1 B D;have hc:W1.cell? ⟨eb,3,Oh⟩=Og (N9 Oa 0):=D.box.cell 3;have hf:=D.box.frozen 3;have hP1:=(B.block _ (av hP) mOm).trans hP;clear R B c hr;go_wp2_with fail;replace D:=D.set ⟨n1,n2,n3,n4,0,0,⟨#[]⟩,0,0,0,0,0,0,0,⟨#[]⟩⟩ 3 (N9 Oa n4) rfl mOm mOm;have R:=R1.far (eb:=eb) mOm 3 (N9 Oa n4);replace hP:=(Below.heap_setCell W1 ⟨eb,3,Oh⟩ (N9 Oa n4) (eb+1) (by show eb+1≠eb;omega)).trans hP1;clear hc hf R1 hP1;generalize W1.setCell ⟨eb,3,Oh⟩ (N9 Oa n4)=W at D R hP |-;obtain⟨n5,t5,h5⟩:∃n t,stI t4=(n,t):=⟨_,_,rfl⟩;have c:=gO p hpa t4 W R ((bC ht D.below).sane) ((bC ht D.below).errs);rw[h5] at c;replace h5:=aa h5;have hr:W.cell? ⟨eb+1,4,Oh⟩=Og (Od (Og ⟨eb,4,Oh⟩)):=ae hP 4;rw[rounds_succ];go_wp2_with fail;refine dJ ?_;intro W1 R1 B D;have hc:W1.cell? ⟨eb,4,Oh⟩=Og (N9 Oa 0):=D.box.cell 4;have hf:=D.box.frozen 4;have hP1:=(B.block _ (av hP) mOm).trans hP;clear R B c hr;go_wp2_with fail;replace D:=D.set ⟨n1,n2,n3,n4,n5,0,⟨#[]⟩,0,0,0,0,0,0,0,⟨#[]⟩⟩ 4 (N9 Oa n5) rfl mOm mOm;have R:=R1.far (eb:=eb) mOm 4 (N9 Oa n5);replace hP:=(Below.heap_setCell W1 ⟨eb,4,Oh⟩ (N9 Oa n5) (eb+1) (by show eb+1≠eb;omega)).trans hP1;clear hc hf R1 hP1;generalize W1.setCell ⟨eb,4,Oh⟩ (N9 Oa n5)=W at D R hP |-;obtain⟨n6,t6,h6⟩:∃n t,stI t5=(n,t):=⟨_,_,rfl⟩;have c:=gO p hpa t5 W R ((bC ht D.below).sane) ((bC ht D.below).errs);rw[h6] at c;replace h6:=aa h6;have hr:W.cell? ⟨eb+1,5,Oh⟩=Og (Od (Og ⟨eb,5,Oh⟩)):=ae hP 5;rw[rounds_succ];go_wp2_with fail;refine dJ ?_;intro W1 R1 B D;have hc:W1.cell? ⟨eb,5,Oh⟩=Og (N9 Oa 0):=D.box.cell 5;have hf:=D.box.frozen 5;have hP1:=(B.block _ (av hP) mOm).trans hP;clear R B c hr;go_wp2_with fail;replace D:=D.set ⟨n1,n2,n3,n4,n5,n6,⟨#[]⟩,0,0,0,0,0,0,0,⟨#[]⟩⟩ 5 (N9 Oa n6) rfl mOm mOm;have R:=R1.far (eb:=eb) mOm 5 (N9 Oa n6);replace hP:=(Below.heap_setCell W1 ⟨eb,5,Oh⟩ (N9 Oa n6) (eb+1) (by show eb+1≠eb;omega)).trans hP1;clear hc hf R1 hP1;generalize W1.setCell ⟨eb,5,Oh⟩ (N9 Oa n6)=W at D R hP |-;obtain⟨n7,t7,h7⟩:∃n t,stT t6=(n,t):=⟨_,_,rfl⟩;have c:=zJ p hpa t6 W R ((bC ht D.below).sane) ((bC ht D.below).errs);rw[h7] at c;replace h7:=aa h7;rw[rounds_succ];go_wp2_with fail;refine dJ ?_;intro W1 R1 B D;have hc:W1.cell? ⟨eb,6,Oh⟩=Og (Ob ⟨#[]⟩):=D.box.cell 6;have hf:=D.box.frozen 6;clear R B c;have hset:=D.set ⟨n1,n2,n3,n4,n5,n6,n7,0,0,0,0,0,0,0,⟨#[]⟩⟩ 6 (Ob n7) rfl mOm mOm;have hRs:=R1.far (eb:=eb) mOm 6 (Ob n7);have hszx:(W1.setCell ⟨eb,6,Oh⟩ (Ob n7)).heap.size=W1.heap.size:=by simp[World.setCell]
 have hel:eb<W1.heap.size:=av D.box;have hplw:p<W1.heap.size:=mOm;have hbx:=aq (W1.setCell ⟨eb,6,Oh⟩ (Ob n7)) (Of #[Od (Og ⟨eb,7,Oh⟩),Od (Og ⟨eb,8,Oh⟩),Od (Og ⟨eb,9,Oh⟩),Od (Og ⟨eb,10,Oh⟩),Od (Og ⟨eb,11,Oh⟩),Od (Og ⟨eb,12,Oh⟩),Od (Og ⟨eb,13,Oh⟩)] 211);have D2:=hset.go hbx;have R2:=hRs.below hbx;have hP2:=heap_alloc_new (W1.setCell ⟨eb,6,Oh⟩ (Ob n7)) (Of #[Od (Og ⟨eb,7,Oh⟩),Od (Og ⟨eb,8,Oh⟩),Od (Og ⟨eb,9,Oh⟩),Od (Og ⟨eb,10,Oh⟩),Od (Og ⟨eb,11,Oh⟩),Od (Og ⟨eb,12,Oh⟩),Od (Og ⟨eb,13,Oh⟩)] 211);rw[hszx] at hP2;clear D R1 hset hRs hP hbx;go_wp2_with fail;clear hc hf;have D:=D2;have R:=R2;generalize (W1.setCell ⟨eb,6,Oh⟩ (Ob n7)).alloc (Of #[Od (Og ⟨eb,7,Oh⟩),Od (Og ⟨eb,8,Oh⟩),Od (Og ⟨eb,9,Oh⟩),Od (Og ⟨eb,10,Oh⟩),Od (Og ⟨eb,11,Oh⟩),Od (Og ⟨eb,12,Oh⟩),Od (Og ⟨eb,13,Oh⟩)] 211)=W at D R hP2 |-;generalize hrb:W1.heap.size=rb at hel hplw hP2 |-;clear D2 R2 hszx hrb;refine wp_loop_rounds 8 ?_;obtain⟨n8,t8,h8⟩:∃n t,stI t7=(n,t):=⟨_,_,rfl⟩;have c:=gO p hpa t7 W R ((bC ht D.below).sane) ((bC ht D.below).errs);rw[h8] at c;replace h8:=aa h8;have hr:W.cell? ⟨rb,0,Oh⟩=Og (Od (Og ⟨eb,7,Oh⟩)):=ae hP2 0;rw[rounds_succ];go_wp2_with fail;refine dJ ?_;intro W1 R1 B D;have hc:W1.cell? ⟨eb,7,Oh⟩=Og (N9 Oa 0):=D.box.cell 7;have hf:=D.box.frozen 7;have hP1:=(B.block _ (av hP2) mOm).trans hP2;clear R B c hr;go_wp2_with fail;replace D:=D.set ⟨n1,n2,n3,n4,n5,n6,n7,n8,0,0,0,0,0,0,⟨#[]⟩⟩ 7 (N9 Oa n8) rfl mOm mOm;have R:=R1.far (eb:=eb) mOm 7 (N9 Oa n8);replace hP2:=(Below.heap_setCell W1 ⟨eb,7,Oh⟩ (N9 Oa n8) (rb) (by show rb≠eb;omega)).trans hP1;clear hc hf R1 hP1;generalize W1.setCell ⟨eb,7,Oh⟩ (N9 Oa n8)=W at D R hP2 |-;obtain⟨n9,t9,h9⟩:∃n t,stI t8=(n,t):=⟨_,_,rfl⟩;have c:=gO p hpa t8 W R ((bC ht D.below).sane) ((bC ht D.below).errs);rw[h9] at c;replace h9:=aa h9;have hr:W.cell? ⟨rb,1,Oh⟩=Og (Od (Og ⟨eb,8,Oh⟩)):=ae hP2 1;rw[rounds_succ];go_wp2_with fail;refine dJ ?_;intro W1 R1 B D;have hc:W1.cell? ⟨eb,8,Oh⟩=Og (N9 Oa 0):=D.box.cell 8;have hf:=D.box.frozen 8;have hP1:=(B.block _ (av hP2) mOm).trans hP2;clear R B c hr;go_wp2_with fail;replace D:=D.set ⟨n1,n2,n3,n4,n5,n6,n7,n8,n9,0,0,0,0,0,⟨#[]⟩⟩ 8 (N9 Oa n9) rfl mOm mOm;have R:=R1.far (eb:=eb) mOm 8 (N9 Oa n9);replace hP2:=(Below.heap_setCell W1 ⟨eb,8,Oh⟩ (N9 Oa n9) (rb) (by show rb≠eb;omega)).trans hP1;clear hc hf R1 hP1;generalize W1.setCell ⟨eb,8,Oh⟩ (N9 Oa n9)=W at D R hP2 |-;obtain⟨n10,t10,h10⟩:∃n t,stI t9=(n,t):=⟨_,_,rfl⟩;have c:=gO p hpa t9 W R ((bC ht D.below).sane) ((bC ht D.below).errs);rw[h10] at c;replace h10:=aa h10;have hr:W.cell? ⟨rb,2,Oh⟩=Og (Od (Og ⟨eb,9,Oh⟩)):=ae hP2 2;rw[rounds_succ];go_wp2_with fail;refine dJ ?_;intro W1 R1 B D;have hc:W1.cell? ⟨eb,9,Oh⟩=Og (N9 Oa 0):=D.box.cell 9;have hf:=D.box.frozen 9;have hP1:=(B.block _ (av hP2) mOm).trans hP2;clear R B c hr;go_wp2_with fail;replace D:=D.set ⟨n1,n2,n3,n4,n5,n6,n7,n8,n9,n10,0,0,0,0,⟨#[]⟩⟩ 9 (N9 Oa n10) rfl mOm mOm;have R:=R1.far (eb:=eb) mOm 9 (N9 Oa n10);replace hP2:=(Below.heap_setCell W1 ⟨eb,9,Oh⟩ (N9 Oa n10) (rb) (by show rb≠eb;omega)).trans hP1;clear hc hf R1 hP1;generalize W1.setCell ⟨eb,9,Oh⟩ (N9 Oa n10)=W at D R hP2 |-;obtain⟨n11,t11,h11⟩:∃n t,stI t10=(n,t):=⟨_,_,rfl⟩;have c:=gO p hpa t10 W R ((bC ht D.below).sane) ((bC ht D.below).errs);rw[h11] at c;replace h11:=aa h11;have hr:W.cell? ⟨rb,3,Oh⟩=Og (Od (Og ⟨eb,10,Oh⟩)):=ae hP2 3;rw[rounds_succ];go_wp2_with fail;refine dJ ?_;intro W1 R1 B D;have hc:W1.cell? ⟨eb,10,Oh⟩=Og (N9 Oa 0):=D.box.cell 10;have hf:=D.box.frozen 10;have hP1:=(B.block _ (av hP2) mOm).trans hP2;clear R B c hr;go_wp2_with fail;replace D:=D.set ⟨n1,n2,n3,n4,n5,n6,n7,n8,n9,n10,n11,0,0,0,⟨#[]⟩⟩ 10 (N9 Oa n11) rfl mOm mOm;have R:=R1.far (eb:=eb) mOm 10 (N9 Oa n11);replace hP2:=(Below.heap_setCell W1 ⟨eb,10,Oh⟩ (N9 Oa n11) (rb) (by show rb≠eb;omega)).trans hP1;clear hc hf R1 hP1;generalize W1.setCell ⟨eb,10,Oh⟩ (N9 Oa n11)=W at D R hP2 |-;obtain⟨n12,t12,h12⟩:∃n t,stI t11=(n,t):=⟨_,_,rfl⟩;have c:=gO p hpa t11 W R ((bC ht D.below).sane) ((bC ht D.below).errs);rw[h12] at c;replace h12:=aa h12;have hr:W.cell? ⟨rb,4,Oh⟩=Og (Od (Og ⟨eb,11,Oh⟩)):=ae hP2 4;rw[rounds_succ];go_wp2_with fail;refine dJ ?_;intro W1 R1 B D;have hc:W1.cell? ⟨eb,11,Oh⟩=Og (N9 Oa 0):=D.box.cell 11;have hf:=D.box.frozen 11;have hP1:=(B.block _ (av hP2) mOm).trans hP2;clear R B c hr;go_wp2_with fail;replace D:=D.set ⟨n1,n2,n3,n4,n5,n6,n7,n8,n9,n10,n11,n12,0,0,⟨#[]⟩⟩ 11 (N9 Oa n12) rfl mOm mOm;have R:=R1.far (eb:=eb) mOm 11 (N9 Oa n12);replace hP2:=(Below.heap_setCell W1 ⟨eb,11,Oh⟩ (N9 Oa n12) (rb) (by show rb≠eb;omega)).trans hP1;clear hc hf R1 hP1;generalize W1.setCell ⟨eb,11,Oh⟩ (N9 Oa n12)=W at D R hP2 |-;obtain⟨n13,t13,h13⟩:∃n t,stI t12=(n,t):=⟨_,_,rfl⟩;have c:=gO p hpa t12 W R ((bC ht D.below).sane) ((bC ht D.below).errs);rw[h13] at c;replace h13:=aa h13;have hr:W.cell? ⟨rb,5,Oh⟩=Og (Od (Og ⟨eb,12,Oh⟩)):=ae hP2 5;rw[rounds_succ];go_wp2_with fail;refine dJ ?_;intro W1 R1 B D;have hc:W1.cell? ⟨eb,12,Oh⟩=Og (N9 Oa 0):=D.box.cell 12;have hf:=D.box.frozen 12;have hP1:=(B.block _ (av hP2) mOm).trans hP2;clear R B c hr;go_wp2_with fail;replace D:=D.set ⟨n1,n2,n3,n4,n5,n6,n7,n8,n9,n10,n11,n12,n13,0,⟨#[]⟩⟩ 12 (N9 Oa n13) rfl mOm mOm;have R:=R1.far (eb:=eb) mOm 12 (N9 Oa n13);replace hP2:=(Below.heap_setCell W1 ⟨eb,12,Oh⟩ (N9 Oa n13) (rb) (by show rb≠eb;omega)).trans hP1;clear hc hf R1 hP1;generalize W1.setCell ⟨eb,12,Oh⟩ (N9 Oa n13)=W at D R hP2 |-;obtain⟨n14,t14,h14⟩:∃n t,stI t13=(n,t):=⟨_,_,rfl⟩;have c:=gO p hpa t13 W R ((bC ht D.below).sane) ((bC ht D.below).errs);rw[h14] at c;replace h14:=aa h14;have hr:W.cell? ⟨rb,6,Oh⟩=Og (Od (Og ⟨eb,13,Oh⟩)):=ae hP2 6;rw[rounds_succ];go_wp2_with fail;refine dJ ?_;intro W1 R1 B D;have hc:W1.cell? ⟨eb,13,Oh⟩=Og (N9 Oa 0):=D.box.cell 13;have hf:=D.box.frozen 13;have hP1:=(B.block _ (av hP2) mOm).trans hP2;clear R B c hr;go_wp2_with fail;replace D:=D.set ⟨n1,n2,n3,n4,n5,n6,n7,n8,n9,n10,n11,n12,n13,n14,⟨#[]⟩⟩ 13 (N9 Oa n14) rfl mOm mOm;have R:=R1.far (eb:=eb) mOm 13 (N9 Oa n14);replace hP2:=(Below.heap_setCell W1 ⟨eb,13,Oh⟩ (N9 Oa n14) (rb) (by show rb≠eb;omega)).trans hP1;clear hc hf R1 hP1;generalize W1.setCell ⟨eb,13,Oh⟩ (N9 Oa n14)=W at D R hP2 |-;obtain⟨n15,t15,h15⟩:∃n t,stT t14=(n,t):=⟨_,_,rfl⟩;have c:=zJ p hpa t14 W R ((bC ht D.below).sane) ((bC ht D.below).errs);rw[h15] at c;replace h15:=aa h15;rw[rounds_succ];go_wp2_with fail;refine dJ ?_;intro W1 R1 B D;have hc:W1.cell? ⟨eb,14,Oh⟩=Og (Ob ⟨#[]⟩):=D.box.cell 14;have hf:=D.box.frozen 14;clear R B c;go_wp2_with fail;replace D:=D.set ⟨n1,n2,n3,n4,n5,n6,n7,n8,n9,n10,n11,n12,n13,n14,n15⟩ 14 (Ob n15) rfl mOm mOm;have R:=R1.far (eb:=eb) mOm 14 (Ob n15);clear hc hf R1;generalize W1.setCell ⟨eb,14,Oh⟩ (Ob n15)=W at D R |-;have HD:=aa (yR h1.out h2.out h3.out h4.out h5.out h6.out h7.out h8.out h9.out h10.out h11.out h12.out h13.out h14.out h15.out);clear h1 h2 h3 h4 h5 h6 h7 h8 h9 h10 h11 h12 h13 h14 h15;refine(I4 p _ _ R).mono ?_;rintro x W1⟨rfl,rfl⟩;have hzb:=D.zero;have hat:=D.box.at_;have hbw:=D.below
 cases t15 with
 | none =>
  have HV:=aa (Cq hbl.out HD.out mSi);have hn:(Oh:Option (List UInt8)).isNone=true:=rfl;exact sy
 | some r =>
  have hn:(Og r).isNone=false:=rfl;go_wp2_with fail;refine(GU p _ _ R).mono ?_
  cases r with
  | nil =>
   rintro x W2⟨rfl,rfl⟩;have HV:=aa (Hq hbl.out HD.out);have hl:BZ (Og [])=0:=rfl;generalize hfe:(⟨n1,n2,n3,n4,n5,n6,n7,n8,n9,n10,n11,n12,n13,n14,n15⟩:Ent)=fe at HV hat;clear hfe HD D
   go_wp2_with (first
    | ((with_reducible refine wpList_load_mid (op:=⟨_,_,_,_,_,_⟩) ?_ 67 (.tmp 5) ?_ eb 0 ?_ (Ent.cells fe).toList _ ?_ underlying67 ?_ ?_ ?_);rfl;rfl;rfl;exact hat;rfl;kernel_rfl)
    | ((with_reducible refine wpList_store_row (o:=⟨none,.store 67 (.tmp 2) (.tmp 65),_,_,_,_⟩) ?_ 67 (.tmp 2) (.tmp 65) ?_ (w.heap.size) (Ent.cells fe) ?_ ?_ 67 (Ent.cells entZ) ?_ ?_ ?_ ?_ ?_);rfl;rfl;rfl;rfl;exact hzb;kernel_rfl;rfl;simp[Ent.cells,Value.oneCell']))
   (try simp only[Exit.inBlock,Exit.then]);refine bodyPost_ret (lm results95 _ _ (w.heap.size) fe rfl (gi hzb _)) rfl ⟨?_,?_⟩
   .rw[HV.out];rfl
   .exact bu hbw (az _) _
  | cons c r =>
   rintro x W2⟨rfl,rfl⟩;have HV:=aa (Cq hbl.out HD.out mSi);have hl:(0:Int)<BZ (Og (c::r)):=by show(0:Int)<((c::r).length:Int);rw[List.length_cons];omega
   generalize BZ (Og (c::r))=ln at hl;exact sy
end
section
open Go Go.Lib
theorem KK{m n:Nat}(hm:m<=999999)(hn:n<=999999)(h:dl m=dl n):m=n:=by
 simp only[dl,fP,oN,List.cons.injEq,and_true] at h;obtain⟨h1,h2,h3,h4,h5,h6⟩:=h
 have f:∀x y:Nat,UInt8.ofNat (48+x%10)=UInt8.ofNat (48+y%10)->x%10=y%10:=fun x y h=>by
  have:=congrArg UInt8.toNat h;rw[UInt8.toNat_ofNat',UInt8.toNat_ofNat'] at this;omega
 have:=f _ _ h1;have:=f _ _ h2;have:=f _ _ h3;have:=f _ _ h4;have:=f _ _ h5;have:=f _ _ h6
 omega
theorem sY:∀{x y s t:List UInt8},x.length=y.length->Op.bytesLess (x++s) (y++t)=(Op.bytesLess x y||(x==y&&Op.bytesLess s t))
 | [],[],s,t,_=>by simp[Op.bytesLess]
 | [],_::_,_,_,h=>by simp at h
 | _::_,[],_,_,h=>by simp at h
 | a::x,b::y,s,t,h=>by
  have ih:=sY (x:=x) (y:=y) (s:=s) (t:=t) (by simpa using h);simp only[List.cons_append,Op.bytesLess,ih];by_cases hab:a=b
  .subst hab;simp
  .have e:(a==b)=false:=by simpa using hab
   simp[e]
theorem Mw{x y:Nat}:(UInt8.ofNat (48+x%10)<UInt8.ofNat (48+y%10))↔x%10<y%10:=by rw[UInt8.lt_iff_toNat_lt,UInt8.toNat_ofNat',UInt8.toNat_ofNat'];omega
theorem Mv{x y:Nat}:(UInt8.ofNat (48+x%10)=UInt8.ofNat (48+y%10))↔x%10=y%10:=by rw[<-UInt8.toNat_inj,UInt8.toNat_ofNat',UInt8.toNat_ofNat'];omega
theorem yH{m n:Nat}(hm:m<=999999)(hn:n<=999999):Op.bytesLess (dl m) (dl n)=decide (m<n):=by rw[eQ,decide_eq_true_eq];simp only[dl,fP,oN,Op.bytesLess,fI,Bool.and_eq_true,decide_eq_true_eq,beq_iff_eq,Mw,Mv,Bool.false_eq_true,and_false,or_false];omega
theorem Di{m n:Nat}(hm:m<=999999)(hn:n<=999999):(dl m==dl n)=decide (m=n):=by
 rw[eQ,decide_eq_true_eq,beq_iff_eq];exact⟨fun h=>KK hm hn h,fun h=>by rw[h]⟩
theorem Bj{e:Ent}(h:dQ e=0):∃s o i k:Nat,e.student=s/\e.on=o/\e.id=i/\e.kind=k/\s<=999999/\o<=999999/\i<=999999/\1<=k/\k<=9:=by obtain⟨r1,r2,r3,r4,r5,r6⟩:=qo h;exact⟨e.student.toNat,e.on.toNat,e.id.toNat,e.kind.toNat,mOm,mOm,mOm,mOm,mOm,mOm,mOm,mOm,mOm⟩
theorem zY(c:UInt8)(s t:List UInt8):Op.bytesLess (c::s) (c::t)=Op.bytesLess s t:=by simp[Op.bytesLess]
end
section
open Go Go.RowKit Go.Sort Go.Lib
attribute [local go_sem] Ent.cells
theorem iU(k:Fin 10)(b0 b1 b2 b3 b4 b5 b6:Bool):(bits .andNot Oa (zX [b0,b1,b2,b3,b4,b5,b6] 7) (da k.1) != 0) =
  ((b0 && !(k.1==3))||(b1 && !(k.1==3))||(b2 && !(k.1==3||k.1==4))||(b3 && !(k.1==4||k.1==5||k.1==6||k.1==9))||(b4 && !(k.1==7))||(b5 && !(k.1==1||k.1==8||k.1==2))||(b6 && !(k.1==2))):=by
 revert k b0 b1 b2 b3 b4 b5 b6;decide +kernel
theorem Ku(e:Ent):eN e=e↔(e.kind=3\/e.course=⟨#[]⟩)/\(e.kind=3\/e.credits=0)/\((e.kind=3\/e.kind=4)\/e.grade=0)/\((e.kind=4\/e.kind=5\/e.kind=6\/e.kind=9)\/e.ref=0)/\(e.kind=7\/e.fro=0)/\((e.kind=1\/e.kind=8\/e.kind=2)\/e.programme=0)/\(e.kind=2\/e.version=0):=by
 have f:∀{α:Type}(p:Prop)[Decidable p](x z:α),(if p then x else z)=x↔(p\/x=z):=fun p _ x z=>by by_cases h:p <;> simp[h,eq_comm]
 obtain⟨x0,x1,x2,x3,x4,x5,x6,x7,x8,x9,x10,x11,x12,x13,x14⟩:=e;simp only[eN,Ent.mk.injEq,true_and,and_true,f]
theorem Ht(s:ByteArray):s.toList.isEmpty=true↔s=⟨#[]⟩:=by rw[List.isEmpty_iff,<-ba_toList];simp[ByteArray.toList_eq]
theorem Kv(e:Ent)(hk:1<=e.kind/\e.kind<=9):(!eqE (eN e) e)=(bits .andNot Oa (mQ e) (da e.kind) != 0):=by
 have hp:=(Ah (eN e) e).trans (Ku e);have hA:=Ht e.course;unfold mQ Ent.some7;have h:e.kind=1\/e.kind=2\/e.kind=3\/e.kind=4\/e.kind=5\/e.kind=6\/e.kind=7\/e.kind=8\/e.kind=9:=mOm;generalize eqE (eN e) e=B at hp;rcases h with h|h|h|h|h|h|h|h|h
 .rw[h] at hp |-;refine Eq.trans ?_ (iU ⟨1,mDe⟩ _ _ _ _ _ _ _).symm;rw[eQ];simp at hp |-
  grind
 .rw[h] at hp |-;refine Eq.trans ?_ (iU ⟨2,mDe⟩ _ _ _ _ _ _ _).symm;rw[eQ];simp at hp |-
  grind
 .rw[h] at hp |-;refine Eq.trans ?_ (iU ⟨3,mDe⟩ _ _ _ _ _ _ _).symm;rw[eQ];simp at hp |-
  grind
 .rw[h] at hp |-;refine Eq.trans ?_ (iU ⟨4,mDe⟩ _ _ _ _ _ _ _).symm;rw[eQ];simp at hp |-
  grind
 .rw[h] at hp |-;refine Eq.trans ?_ (iU ⟨5,mDe⟩ _ _ _ _ _ _ _).symm;rw[eQ];simp at hp |-
  grind
 .rw[h] at hp |-;refine Eq.trans ?_ (iU ⟨6,mDe⟩ _ _ _ _ _ _ _).symm;rw[eQ];simp at hp |-
  grind
 .rw[h] at hp |-;refine Eq.trans ?_ (iU ⟨7,mDe⟩ _ _ _ _ _ _ _).symm;rw[eQ];simp at hp |-
  grind
 .rw[h] at hp |-;refine Eq.trans ?_ (iU ⟨8,mDe⟩ _ _ _ _ _ _ _).symm;rw[eQ];simp at hp |-
  grind
 .rw[h] at hp |-;refine Eq.trans ?_ (iU ⟨9,mDe⟩ _ _ _ _ _ _ _).symm;rw[eQ];simp at hp |-
  grind
theorem Mt(e:Ent):(!au e.day 0 100000 || !au e.on 0 100000||decide (e.day<e.on))=(cQ e.day 0 100000||cQ e.on 0 e.day):=by rw[jC,jC,eQ];simp only[au,fI,Bool.not_eq_true',Bool.and_eq_false_iff,decide_eq_true_eq,decide_eq_false_iff_not];omega
theorem vH(e:Ent)(h:e.Ok)(w:World) :
  Calls prog 53 #[e.val] w fun x w'=>x=Oe (N9 Oa (dQ e))/\ac w.heap.size w w':=by
 have hcs:=h.course;go_enter func53,ntmps53
 go_upto_region 1 with fail
 have hx:=aM.new w e;have hb:=aq w (.cells e.cells 67);unfold Ent.cells at hb;have hx':aM (w.alloc (.cells #[.int .i64 e.id,.int .i64 e.school,.int .i64 e.student,.int .i64 e.kind,.int .i64 e.day,.int .i64 e.on,.string e.course,.int .i64 e.credits,.int .i64 e.grade,.int .i64 e.ref,.int .i64 e.fro,.int .i64 e.programme,.int .i64 e.version,.int .i64 e.key,.string e.mark] 67)) w.heap.size e:=hx;generalize w.alloc _=W at hb hx' |-;clear hx;refine Me w.heap.size e _ _ hx' ?_;rintro u4 u5 u6 u7 u8 u9 u10 u11 u12 u13 u14 u15 u16 u17 u18 u19 wx rfl;obtain⟨B1,hB1⟩:∃B,(!au e.id 1 899999 || !au e.school 1 8 || !au e.student 1 999999)=B:=⟨_,rfl⟩;rw[hB1];have H1:Hid ((cQ e.id 1 899999||cQ e.school 1 8||cQ e.student 1 999999)=B1):=aa (by rw[jC,jC,jC];exact hB1);clear hB1
 cases B1
 rotate_left
 .have H:=aa (show dQ e=1 by unfold dQ;rw[if_pos H1.out]);clear H1;go_wp2_with fail;go_ret;exact⟨aL H.out.symm,hb⟩
 .have N1:Hid (¬(cQ e.id 1 899999||cQ e.school 1 8||cQ e.student 1 999999)=true):=aa (by rw[H1.out];simp);clear H1
  go_upto_region 3 with fail
  cases hk:au e.kind 1 9
  .have H:=aa (show dQ e=20 by unfold dQ;rw[if_neg N1.out,if_pos (by rw[jC,hk];rfl)]);refine El w.heap.size e _ _ hx' hk ?_;intro u21 u22 u23 u24 u25 u26 u27 u28 u29 u30 wx hb3;clear hk;go_wp2_with fail;go_ret;exact⟨aL H.out.symm,hb.trans (hb3.mono hb.size)⟩
  .have hk9:1<=e.kind/\e.kind<=9:=by simpa [au] using hk
   refine GJ w.heap.size e _ _ hx' hk hk9 ?_;intro u21 u22 u23 u24 u25 u26 u27 u28 u29 u30 wx hb3;have hbx:=hb.trans (hb3.mono hb.size);replace hx':=hx'.below hb3;have H2:Hid ((cQ e.kind 1 9||bits .andNot Oa (mQ e) (da e.kind) != 0) = !eqE (eN e) e):=aa (by rw[jC,hk,Kv e hk9];rfl);clear hk hb3;generalize (!eqE (eN e) e)=B2 at H2
   cases B2
   rotate_left
   .have H:=aa (show dQ e=20 by unfold dQ;rw[if_neg N1.out,if_pos H2.out]);clear H2;go_wp2_with fail;go_ret;exact⟨aL H.out.symm,hbx⟩
   .have N2:Hid (¬(cQ e.kind 1 9||bits .andNot Oa (mQ e) (da e.kind) != 0)=true):=aa (by rw[H2.out];simp);clear H2
    go_upto_region 5 with fail
    refine Mf w.heap.size e _ _ hx' ?_;rintro u32 u33 u34 u35 u36 u37 u38 u39 u40 u41 u42 u43 u44 u45 u46 u47 u48 wy rfl;have H3:Hid ((cQ e.day 0 100000||cQ e.on 0 e.day)=(!au e.day 0 100000 || !au e.on 0 100000||decide (e.day<e.on))):=aa (Mt e).symm;generalize (!au e.day 0 100000 || !au e.on 0 100000||decide (e.day<e.on))=B3 at H3
    cases B3
    rotate_left
    .have H:=aa (show dQ e=23 by unfold dQ;rw[if_neg N1.out,if_neg N2.out,if_pos H3.out]);clear H3;go_wp2_with fail;go_ret;exact⟨aL H.out.symm,hbx⟩
    .have H:=aa (show dQ e=aY (da e.kind) e 0 by unfold dQ;rw[if_neg N1.out,if_neg N2.out,if_neg (by rw[H3.out];simp)]);clear H3;have hcell:=hx'.cell;go_wp2_with fail;refine(F7 e _ mOm hk9).mono ?_;rintro r w5⟨rfl,hb5⟩;go_wp2_with fail;go_ret;exact⟨aL H.out.symm,hbx.trans (hb5.mono hbx.size)⟩
end
section
open Go Go.RowKit Go.Sort Go.Lib
attribute [local go_sem] Ent.cells
def oL(l:List bG)(sc id:Int)(e:Ent):Ent×Int:=
 if dQ e≠0 then (entZ,dQ e) else if e.school≠sc then (entZ,22) else
 if (eC l sc id ⟨({ e with key:=id }:Ent).body.toArray⟩).2≠0 then (entZ,(eC l sc id ⟨({ e with key:=id }:Ent).body.toArray⟩).2)
 else ({ e with key:=id,mark:=(eC l sc id ⟨({ e with key:=id }:Ent).body.toArray⟩).1 },0)
theorem KJ(l:List bG)(sc id:Int)(e:Ent):oL l sc id e=(if dQ e≠0 then (entZ,dQ e) else if e.school≠sc then (entZ,22) else
 if (eC l sc id ⟨({ e with key:=id }:Ent).body.toArray⟩).2≠0 then (entZ,(eC l sc id ⟨({ e with key:=id }:Ent).body.toArray⟩).2)
 else ({ e with key:=id,mark:=(eC l sc id ⟨({ e with key:=id }:Ent).body.toArray⟩).1 },0)):=rfl
def Lh(l:List bG)(sc id:Int)(e:Ent):Value:=.tuple #[(oL l sc id e).1.val,N9 Oa (oL l sc id e).2]
theorem Gp(l:List bG)(sc id:Int)(t:ByteArray):∃m n,eC l sc id t=(m,n)/\(n=0\/n=5):=by
 unfold eC
 split <;> exact⟨_,_,rfl,mSi⟩
theorem uc{W w w':World}{eb kb:Nat}{e:Ent}{u v:Value}(h:ac W.heap.size W w/\(∀j,w.cell? ⟨eb,j,Oh⟩=e.cells[j]?)/\w.cell? ⟨kb,0,Oh⟩=Og u/\w.cell? ⟨kb,1,Oh⟩=Og v)(hb:ac w.heap.size w w') :
  ac W.heap.size W w'/\(∀j,w'.cell? ⟨eb,j,Oh⟩=e.cells[j]?)/\w'.cell? ⟨kb,0,Oh⟩=Og u/\w'.cell? ⟨kb,1,Oh⟩=Og v:=by
 have h0:w.cell? ⟨eb,0,Oh⟩=Og (N9 Oa e.id):=h.2.1 0;have hlt:eb<w.heap.size:=al w _ h0;exact⟨h.1.trans (hb.mono h.1.size),fun j=>(hb.cell (p:=⟨eb,j,Oh⟩) hlt).trans (h.2.1 j),(hb.cell (al w _ h.2.2.1)).trans h.2.2.1,(hb.cell (al w _ h.2.2.2)).trans h.2.2.2⟩
