/- Lemmas. -/
import Derived.Test.YtnlhbdmeodbblaaGreatDoorMiae
import Derived.Test.YtnlhbdmeodbblaaGreatDoorMiad
import Derived.Test.YtnlhbdmeodbblaaGreatDoorMiaf
import Derived.ProofKit
import Derived.LaidMore
import Derived.LaidSub
import Derived.LaidHandle
import Derived.OpenShut
import Derived.Carry
import Derived.ChangeSame
import Derived.Stop.Joined
set_option maxRecDepth 100000
set_option maxHeartbeats 16000000
set_option linter.all false
open Go.Proofs.Tryz
open Array renaming replicate→fD
open Bool renaming and_eq_true→aW,eq_iff_iff→db
open Go.Lib renaming cell_of_heap→ae,hid→aa,itoa_length_le→bI
open List renaming toArray→aq
open Go.RowKit renaming Below→ac
open Go.World renaming block_lt_of_cell?→am
open Go.Ending renaming returned→JT
open Go.IntKind renaming i64→JP
open Go.Obj renaming cells→JU
open Go.Value renaming int→JO,string→JQ,slice→JR,pointer→JS
open Option renaming some→JV,none→JW
namespace Go.Proofs.YtnlhbdmeodbblaaGreatDoor
section
open Go Go.RowKit Go.Sort Go.Lib
attribute [local go_sem] Ent.cells
def dB (e:Ent):Ent:=⟨e.id,e.school,e.student,e.kind,e.day,e.on,if e.kind=3 then e.course else ⟨#[]⟩,if e.kind=3 then e.credits else 0,if e.kind=3∨e.kind=4 then e.grade else 0,
 if e.kind=4∨e.kind=5∨e.kind=6∨e.kind=9 then e.ref else 0,if e.kind=7 then e.fro else 0,if e.kind=1∨e.kind=8∨e.kind=2 then e.programme else 0,if e.kind=2 then e.version else 0,e.key,e.mark⟩
theorem ls (w:World) (o o' o'':Obj):(((w.alloc o).alloc o').alloc o'').heap[w.heap.size+1]? = JV o':=by rw [(au ((w.alloc o).alloc o') o'').block _ (by rw [size_alloc,size_alloc];omega)];have:=heap_alloc_new (w.alloc o) o';rw [size_alloc] at this;exact this
theorem J1 {p q:Prop} (h:q) (f:Wq q→p:=by
 intro hq;have fz:∀ j,W.frozen? ⟨w.heap.size+1+1,j,JW⟩=false:=fun j=>Lib.frozen_of_heap hO j
 revert fz
 exact hq.1):p:=f ⟨h⟩
theorem Ll {p q:Prop} (h:q) (f:Wq q→p:=by
 intro hq;have hO0:LN (W.setCell ⟨w.heap.size+1+1,11,JW⟩ (JO JP e.programme)) (w.heap.size+1+1) (⟨e.id,e.school,e.student,e.kind,e.day,e.on,⟨#[]⟩,0,0,0,0,e.programme,0,e.key,e.mark⟩:Ent):=hO.setc 11 _ rfl
 revert hO0
 exact hq.1):p:=f ⟨h⟩
theorem Jv {p:Prop} (h:p:=by
 have c11:W.cell? ⟨w.heap.size,11,JW⟩=JV (JO JP e.programme):=hE.cell 11;have o11:W.cell? ⟨w.heap.size+1+1,11,JW⟩=JV (JO JP 0):=hO.cell 11;refine J1 ?_;intro fz;refine Ll ?_;intro hO0;have hZ0:(W.setCell ⟨w.heap.size+1+1,11,JW⟩ (JO JP e.programme)).heap[w.heap.size+1]? = JV (JU zeroCells 67 (0,0)):=by rw [Below.heap_setCell _ _ _ _ (by show w.heap.size+1 ≠ w.heap.size+1+1;omega)];exact hZ
 have hb0:ac w.heap.size w (W.setCell ⟨w.heap.size+1+1,11,none⟩ (.int .i64 e.programme)):=hbe.setCell (by show _≤w.heap.size+1+1;omega) _;have hat:=hO0.at_;clear hE hO;go_wp2_with (first | ((with_reducible refine wpList_load_mid (op:=⟨_,_,_,_,_,_⟩) ?_ 67 (.tmp 3) ?_ (w.heap.size+1+1) 0 ?_ (Ent.cells (⟨e.id,e.school,e.student,e.kind,e.day,e.on,⟨#[]⟩,0,0,0,0,e.programme,0,e.key,e.mark⟩:Ent)).toList _ ?_ underlying67 ?_ ?_ ?_);rfl;rfl;rfl;exact hat;rfl;kernel_rfl) | ((with_reducible refine wpList_store_row (o:=⟨none,.store 67 (.tmp 2) (.tmp 68),_,_,_,_⟩) ?_ 67 (.tmp 2) (.tmp 68) ?_ (w.heap.size+1) (Ent.cells (⟨e.id,e.school,e.student,e.kind,e.day,e.on,⟨#[]⟩,0,0,0,0,e.programme,0,e.key,e.mark⟩:Ent)) ?_ ?_ 67 zeroCells ?_ ?_ ?_ ?_ ?_);rfl;rfl;rfl;rfl;exact hZ0;kernel_rfl;rfl;simp [Ent.cells,Value.oneCell']));refine bodyPost_ret (v:=Ent.val (⟨e.id,e.school,e.student,e.kind,e.day,e.on,⟨#[]⟩,0,0,0,0,e.programme,0,e.key,e.mark⟩:Ent)) (results_cell_row (P:=prog) results116 _ _ (w.heap.size+1) 67 (Ent.cells (⟨e.id,e.school,e.student,e.kind,e.day,e.on,⟨#[]⟩,0,0,0,0,e.programme,0,e.key,e.mark⟩:Ent)) (0,0) _ rfl ?_ underlying67 rfl mKr) rfl ⟨by rw [hp.out],?_⟩
 ·exact fl hZ0 _
 ·exact aQ hb0 mOm _):p:=h
theorem QD {p q:Prop} (h:q) (f:Wq q→p:=by
 intro hq;have h3:=mF w (JU e.cells 67) (JU zeroCells 67) (JU (Ent.cells (⟨e.id,e.school,e.student,e.kind,e.day,e.on,⟨#[]⟩,0,0,0,0,0,0,e.key,e.mark⟩:Ent)) 67);have h3b:=ls w (JU e.cells 67) (JU zeroCells 67) (JU (Ent.cells (⟨e.id,e.school,e.student,e.kind,e.day,e.on,⟨#[]⟩,0,0,0,0,0,0,e.key,e.mark⟩:Ent)) 67);have hbe:=li w (JU e.cells 67) (JU zeroCells 67) (JU (Ent.cells (⟨e.id,e.school,e.student,e.kind,e.day,e.on,⟨#[]⟩,0,0,0,0,0,0,e.key,e.mark⟩:Ent)) 67);unfold Ent.cells zeroCells at h3 h3b hbe
 revert h3 h3b hbe
 exact hq.1):p:=f ⟨h⟩
theorem Rf {p q:Prop} (h:q) (f:Wq q→p:=by
 intro hq;have hE:LN W w.heap.size e:=h3;have hZ:W.heap[w.heap.size+1]? = JV (JU zeroCells 67 (0,0)):=h3b;have hO:LN W (w.heap.size+1+1) (⟨e.id,e.school,e.student,e.kind,e.day,e.on,⟨#[]⟩,0,0,0,0,0,0,e.key,e.mark⟩:Ent):=h4
 revert hE hZ hO
 exact hq.1):p:=f ⟨h⟩
theorem G5 (e:Ent) (hk:e.kind=1) (w:World) :
  Calls prog 116 #[e.val] w fun x w'=>x=JT (dB e).val∧ac w.heap.size w w':=by
 have hp:=aa (show dB e=(⟨e.id,e.school,e.student,e.kind,e.day,e.on,⟨#[]⟩,0,0,0,0,e.programme,0,e.key,e.mark⟩:Ent) by unfold dB;simp [hk]);have HK:=aa hk;clear hk;go_enter func116,ntmps116
 go_upto_region 2 with fail
 refine QD ?_;intro h3 h3b hbe;generalize ((w.alloc _).alloc _).alloc _=W at h3 h3b hbe ⊢;obtain ⟨h3,h4⟩:=h3;refine Rf ?_;intro hE hZ hO;clear h3 h3b h4;have ck:W.cell? ⟨w.heap.size,3,JW⟩=JV (JO JP 1):=by rw [hE.cell 3];simp [Ent.cells,HK.out]
 exact Jv
theorem G6 (e:Ent) (hk:e.kind=2) (w:World) :
  Calls prog 116 #[e.val] w fun x w'=>x=JT (dB e).val∧ac w.heap.size w w':=by
 have hp:=aa (show dB e=(⟨e.id,e.school,e.student,e.kind,e.day,e.on,⟨#[]⟩,0,0,0,0,e.programme,e.version,e.key,e.mark⟩:Ent) by unfold dB;simp [hk]);have HK:=aa hk;clear hk;go_enter func116,ntmps116
 go_upto_region 2 with fail
 refine QD ?_;intro h3 h3b hbe;generalize ((w.alloc _).alloc _).alloc _=W at h3 h3b hbe ⊢;obtain ⟨h3,h4⟩:=h3;refine Rf ?_;intro hE hZ hO;clear h3 h3b h4;have ck:W.cell? ⟨w.heap.size,3,JW⟩=JV (JO JP 2):=by rw [hE.cell 3];simp [Ent.cells,HK.out]
 have c11:W.cell? ⟨w.heap.size,11,JW⟩=JV (JO JP e.programme):=hE.cell 11;have o11:W.cell? ⟨w.heap.size+1+1,11,JW⟩=JV (JO JP 0):=hO.cell 11;have c12:W.cell? ⟨w.heap.size,12,JW⟩=JV (JO JP e.version):=hE.cell 12;have o12:W.cell? ⟨w.heap.size+1+1,12,JW⟩=JV (JO JP 0):=hO.cell 12;refine J1 ?_;intro fz;refine Ll ?_;intro hO0;have hZ0:(W.setCell ⟨w.heap.size+1+1,11,JW⟩ (JO JP e.programme)).heap[w.heap.size+1]? = JV (JU zeroCells 67 (0,0)):=by rw [Below.heap_setCell _ _ _ _ (by show w.heap.size+1 ≠ w.heap.size+1+1;omega)];exact hZ
 have hb0:ac w.heap.size w (W.setCell ⟨w.heap.size+1+1,11,JW⟩ (JO JP e.programme)):=hbe.setCell (by show _≤w.heap.size+1+1;omega) _;have hO1:LN ((W.setCell ⟨w.heap.size+1+1,11,JW⟩ (JO JP e.programme)).setCell ⟨w.heap.size+1+1,12,JW⟩ (JO JP e.version)) (w.heap.size+1+1) (⟨e.id,e.school,e.student,e.kind,e.day,e.on,⟨#[]⟩,0,0,0,0,e.programme,e.version,e.key,e.mark⟩:Ent):=hO0.setc 12 _ rfl;have hZ1:((W.setCell ⟨w.heap.size+1+1,11,JW⟩ (JO JP e.programme)).setCell ⟨w.heap.size+1+1,12,JW⟩ (JO JP e.version)).heap[w.heap.size+1]? = JV (JU zeroCells 67 (0,0)):=by rw [Below.heap_setCell _ _ _ _ (by show w.heap.size+1 ≠ w.heap.size+1+1;omega)];exact hZ0
 have hb1:ac w.heap.size w ((W.setCell ⟨w.heap.size+1+1,11,none⟩ (.int .i64 e.programme)).setCell ⟨w.heap.size+1+1,12,none⟩ (.int .i64 e.version)):=hb0.setCell (by show _≤w.heap.size+1+1;omega) _;have hat:=hO1.at_;clear hE hO;go_wp2_with (first | ((with_reducible refine wpList_load_mid (op:=⟨_,_,_,_,_,_⟩) ?_ 67 (.tmp 3) ?_ (w.heap.size+1+1) 0 ?_ (Ent.cells (⟨e.id,e.school,e.student,e.kind,e.day,e.on,⟨#[]⟩,0,0,0,0,e.programme,e.version,e.key,e.mark⟩:Ent)).toList _ ?_ underlying67 ?_ ?_ ?_);rfl;rfl;rfl;exact hat;rfl;kernel_rfl) | ((with_reducible refine wpList_store_row (o:=⟨none,.store 67 (.tmp 2) (.tmp 68),_,_,_,_⟩) ?_ 67 (.tmp 2) (.tmp 68) ?_ (w.heap.size+1) (Ent.cells (⟨e.id,e.school,e.student,e.kind,e.day,e.on,⟨#[]⟩,0,0,0,0,e.programme,e.version,e.key,e.mark⟩:Ent)) ?_ ?_ 67 zeroCells ?_ ?_ ?_ ?_ ?_);rfl;rfl;rfl;rfl;exact hZ1;kernel_rfl;rfl;simp [Ent.cells,Value.oneCell']));refine bodyPost_ret (v:=Ent.val (⟨e.id,e.school,e.student,e.kind,e.day,e.on,⟨#[]⟩,0,0,0,0,e.programme,e.version,e.key,e.mark⟩:Ent)) (results_cell_row (P:=prog) results116 _ _ (w.heap.size+1) 67 (Ent.cells (⟨e.id,e.school,e.student,e.kind,e.day,e.on,⟨#[]⟩,0,0,0,0,e.programme,e.version,e.key,e.mark⟩:Ent)) (0,0) _ rfl ?_ underlying67 rfl mKr) rfl ⟨by rw [hp.out],?_⟩
 ·exact fl hZ1 _
 ·exact aQ hb1 mOm _
theorem G7 (e:Ent) (hk:e.kind=3) (w:World) :
  Calls prog 116 #[e.val] w fun x w'=>x=JT (dB e).val∧ac w.heap.size w w':=by
 have hp:=aa (show dB e=(⟨e.id,e.school,e.student,e.kind,e.day,e.on,e.course,e.credits,e.grade,0,0,0,0,e.key,e.mark⟩:Ent) by unfold dB;simp [hk]);have HK:=aa hk;clear hk;go_enter func116,ntmps116
 go_upto_region 2 with fail
 refine QD ?_;intro h3 h3b hbe;generalize ((w.alloc _).alloc _).alloc _=W at h3 h3b hbe ⊢;obtain ⟨h3,h4⟩:=h3;refine Rf ?_;intro hE hZ hO;clear h3 h3b h4;have ck:W.cell? ⟨w.heap.size,3,JW⟩=JV (JO JP 3):=by rw [hE.cell 3];simp [Ent.cells,HK.out]
 have c6:W.cell? ⟨w.heap.size,6,JW⟩=JV (JQ e.course):=hE.cell 6;have o6:W.cell? ⟨w.heap.size+1+1,6,JW⟩=JV (JQ ⟨#[]⟩):=hO.cell 6;have c7:W.cell? ⟨w.heap.size,7,JW⟩=JV (JO JP e.credits):=hE.cell 7;have o7:W.cell? ⟨w.heap.size+1+1,7,JW⟩=JV (JO JP 0):=hO.cell 7;have c8:W.cell? ⟨w.heap.size,8,JW⟩=JV (JO JP e.grade):=hE.cell 8;have o8:W.cell? ⟨w.heap.size+1+1,8,JW⟩=JV (JO JP 0):=hO.cell 8;refine J1 ?_;intro fz;have hO0:LN (W.setCell ⟨w.heap.size+1+1,6,JW⟩ (JQ e.course)) (w.heap.size+1+1) (⟨e.id,e.school,e.student,e.kind,e.day,e.on,e.course,0,0,0,0,0,0,e.key,e.mark⟩:Ent):=hO.setc 6 _ rfl;have hZ0:(W.setCell ⟨w.heap.size+1+1,6,JW⟩ (JQ e.course)).heap[w.heap.size+1]? = JV (JU zeroCells 67 (0,0)):=by rw [Below.heap_setCell _ _ _ _ (by show w.heap.size+1 ≠ w.heap.size+1+1;omega)];exact hZ
 have hb0:ac w.heap.size w (W.setCell ⟨w.heap.size+1+1,6,JW⟩ (JQ e.course)):=hbe.setCell (by show _≤w.heap.size+1+1;omega) _;have hO1:LN ((W.setCell ⟨w.heap.size+1+1,6,JW⟩ (JQ e.course)).setCell ⟨w.heap.size+1+1,7,JW⟩ (JO JP e.credits)) (w.heap.size+1+1) (⟨e.id,e.school,e.student,e.kind,e.day,e.on,e.course,e.credits,0,0,0,0,0,e.key,e.mark⟩:Ent):=hO0.setc 7 _ rfl;have hZ1:((W.setCell ⟨w.heap.size+1+1,6,JW⟩ (JQ e.course)).setCell ⟨w.heap.size+1+1,7,JW⟩ (JO JP e.credits)).heap[w.heap.size+1]? = JV (JU zeroCells 67 (0,0)):=by rw [Below.heap_setCell _ _ _ _ (by show w.heap.size+1 ≠ w.heap.size+1+1;omega)];exact hZ0
 have hb1:ac w.heap.size w ((W.setCell ⟨w.heap.size+1+1,6,JW⟩ (JQ e.course)).setCell ⟨w.heap.size+1+1,7,JW⟩ (JO JP e.credits)):=hb0.setCell (by show _≤w.heap.size+1+1;omega) _;have hO2:LN (((W.setCell ⟨w.heap.size+1+1,6,JW⟩ (JQ e.course)).setCell ⟨w.heap.size+1+1,7,JW⟩ (JO JP e.credits)).setCell ⟨w.heap.size+1+1,8,JW⟩ (JO JP e.grade)) (w.heap.size+1+1) (⟨e.id,e.school,e.student,e.kind,e.day,e.on,e.course,e.credits,e.grade,0,0,0,0,e.key,e.mark⟩:Ent):=hO1.setc 8 _ rfl;have hZ2:(((W.setCell ⟨w.heap.size+1+1,6,JW⟩ (JQ e.course)).setCell ⟨w.heap.size+1+1,7,JW⟩ (JO JP e.credits)).setCell ⟨w.heap.size+1+1,8,JW⟩ (JO JP e.grade)).heap[w.heap.size+1]? = JV (JU zeroCells 67 (0,0)):=by rw [Below.heap_setCell _ _ _ _ (by show w.heap.size+1 ≠ w.heap.size+1+1;omega)];exact hZ1
 have hb2:ac w.heap.size w (((W.setCell ⟨w.heap.size+1+1,6,none⟩ (.string e.course)).setCell ⟨w.heap.size+1+1,7,none⟩ (.int .i64 e.credits)).setCell ⟨w.heap.size+1+1,8,none⟩ (.int .i64 e.grade)):=hb1.setCell (by show _≤w.heap.size+1+1;omega) _;have hat:=hO2.at_;clear hE hO;go_wp2_with (first | ((with_reducible refine wpList_load_mid (op:=⟨_,_,_,_,_,_⟩) ?_ 67 (.tmp 3) ?_ (w.heap.size+1+1) 0 ?_ (Ent.cells (⟨e.id,e.school,e.student,e.kind,e.day,e.on,e.course,e.credits,e.grade,0,0,0,0,e.key,e.mark⟩:Ent)).toList _ ?_ underlying67 ?_ ?_ ?_);rfl;rfl;rfl;exact hat;rfl;kernel_rfl) | ((with_reducible refine wpList_store_row (o:=⟨none,.store 67 (.tmp 2) (.tmp 68),_,_,_,_⟩) ?_ 67 (.tmp 2) (.tmp 68) ?_ (w.heap.size+1) (Ent.cells (⟨e.id,e.school,e.student,e.kind,e.day,e.on,e.course,e.credits,e.grade,0,0,0,0,e.key,e.mark⟩:Ent)) ?_ ?_ 67 zeroCells ?_ ?_ ?_ ?_ ?_);rfl;rfl;rfl;rfl;exact hZ2;kernel_rfl;rfl;simp [Ent.cells,Value.oneCell']));refine bodyPost_ret (v:=Ent.val (⟨e.id,e.school,e.student,e.kind,e.day,e.on,e.course,e.credits,e.grade,0,0,0,0,e.key,e.mark⟩:Ent)) (results_cell_row (P:=prog) results116 _ _ (w.heap.size+1) 67 (Ent.cells (⟨e.id,e.school,e.student,e.kind,e.day,e.on,e.course,e.credits,e.grade,0,0,0,0,e.key,e.mark⟩:Ent)) (0,0) _ rfl ?_ underlying67 rfl mKr) rfl ⟨by rw [hp.out],?_⟩
 ·exact fl hZ2 _
 ·exact aQ hb2 mOm _
theorem Lj {p q:Prop} (h:q) (f:Wq q→p:=by
 intro hq;have hO0:LN (W.setCell ⟨w.heap.size+1+1,9,JW⟩ (JO JP e.ref)) (w.heap.size+1+1) (⟨e.id,e.school,e.student,e.kind,e.day,e.on,⟨#[]⟩,0,0,e.ref,0,0,0,e.key,e.mark⟩:Ent):=hO.setc 9 _ rfl
 revert hO0
 exact hq.1):p:=f ⟨h⟩
theorem G8 (e:Ent) (hk:e.kind=4) (w:World) :
  Calls prog 116 #[e.val] w fun x w'=>x=JT (dB e).val∧ac w.heap.size w w':=by
 have hp:=aa (show dB e=(⟨e.id,e.school,e.student,e.kind,e.day,e.on,⟨#[]⟩,0,e.grade,e.ref,0,0,0,e.key,e.mark⟩:Ent) by unfold dB;simp [hk]);have HK:=aa hk;clear hk;go_enter func116,ntmps116
 go_upto_region 2 with fail
 refine QD ?_;intro h3 h3b hbe;generalize ((w.alloc _).alloc _).alloc _=W at h3 h3b hbe ⊢;obtain ⟨h3,h4⟩:=h3;refine Rf ?_;intro hE hZ hO;clear h3 h3b h4;have ck:W.cell? ⟨w.heap.size,3,JW⟩=JV (JO JP 4):=by rw [hE.cell 3];simp [Ent.cells,HK.out]
 have c9:W.cell? ⟨w.heap.size,9,JW⟩=JV (JO JP e.ref):=hE.cell 9;have o9:W.cell? ⟨w.heap.size+1+1,9,JW⟩=JV (JO JP 0):=hO.cell 9;have c8:W.cell? ⟨w.heap.size,8,JW⟩=JV (JO JP e.grade):=hE.cell 8;have o8:W.cell? ⟨w.heap.size+1+1,8,JW⟩=JV (JO JP 0):=hO.cell 8;refine J1 ?_;intro fz;refine Lj ?_;intro hO0;have hZ0:(W.setCell ⟨w.heap.size+1+1,9,JW⟩ (JO JP e.ref)).heap[w.heap.size+1]? = JV (JU zeroCells 67 (0,0)):=by rw [Below.heap_setCell _ _ _ _ (by show w.heap.size+1 ≠ w.heap.size+1+1;omega)];exact hZ
 have hb0:ac w.heap.size w (W.setCell ⟨w.heap.size+1+1,9,JW⟩ (JO JP e.ref)):=hbe.setCell (by show _≤w.heap.size+1+1;omega) _;have hO1:LN ((W.setCell ⟨w.heap.size+1+1,9,JW⟩ (JO JP e.ref)).setCell ⟨w.heap.size+1+1,8,JW⟩ (JO JP e.grade)) (w.heap.size+1+1) (⟨e.id,e.school,e.student,e.kind,e.day,e.on,⟨#[]⟩,0,e.grade,e.ref,0,0,0,e.key,e.mark⟩:Ent):=hO0.setc 8 _ rfl;have hZ1:((W.setCell ⟨w.heap.size+1+1,9,JW⟩ (JO JP e.ref)).setCell ⟨w.heap.size+1+1,8,JW⟩ (JO JP e.grade)).heap[w.heap.size+1]? = JV (JU zeroCells 67 (0,0)):=by rw [Below.heap_setCell _ _ _ _ (by show w.heap.size+1 ≠ w.heap.size+1+1;omega)];exact hZ0
 have hb1:ac w.heap.size w ((W.setCell ⟨w.heap.size+1+1,9,none⟩ (.int .i64 e.ref)).setCell ⟨w.heap.size+1+1,8,none⟩ (.int .i64 e.grade)):=hb0.setCell (by show _≤w.heap.size+1+1;omega) _;have hat:=hO1.at_;clear hE hO;go_wp2_with (first | ((with_reducible refine wpList_load_mid (op:=⟨_,_,_,_,_,_⟩) ?_ 67 (.tmp 3) ?_ (w.heap.size+1+1) 0 ?_ (Ent.cells (⟨e.id,e.school,e.student,e.kind,e.day,e.on,⟨#[]⟩,0,e.grade,e.ref,0,0,0,e.key,e.mark⟩:Ent)).toList _ ?_ underlying67 ?_ ?_ ?_);rfl;rfl;rfl;exact hat;rfl;kernel_rfl) | ((with_reducible refine wpList_store_row (o:=⟨none,.store 67 (.tmp 2) (.tmp 68),_,_,_,_⟩) ?_ 67 (.tmp 2) (.tmp 68) ?_ (w.heap.size+1) (Ent.cells (⟨e.id,e.school,e.student,e.kind,e.day,e.on,⟨#[]⟩,0,e.grade,e.ref,0,0,0,e.key,e.mark⟩:Ent)) ?_ ?_ 67 zeroCells ?_ ?_ ?_ ?_ ?_);rfl;rfl;rfl;rfl;exact hZ1;kernel_rfl;rfl;simp [Ent.cells,Value.oneCell']));refine bodyPost_ret (v:=Ent.val (⟨e.id,e.school,e.student,e.kind,e.day,e.on,⟨#[]⟩,0,e.grade,e.ref,0,0,0,e.key,e.mark⟩:Ent)) (results_cell_row (P:=prog) results116 _ _ (w.heap.size+1) 67 (Ent.cells (⟨e.id,e.school,e.student,e.kind,e.day,e.on,⟨#[]⟩,0,e.grade,e.ref,0,0,0,e.key,e.mark⟩:Ent)) (0,0) _ rfl ?_ underlying67 rfl mKr) rfl ⟨by rw [hp.out],?_⟩
 ·exact fl hZ1 _
 ·exact aQ hb1 mOm _
theorem va {p:Prop} (h:p:=by
 have c9:W.cell? ⟨w.heap.size,9,JW⟩=JV (JO JP e.ref):=hE.cell 9;have o9:W.cell? ⟨w.heap.size+1+1,9,JW⟩=JV (JO JP 0):=hO.cell 9;refine J1 ?_;intro fz;refine Lj ?_;intro hO0;have hZ0:(W.setCell ⟨w.heap.size+1+1,9,JW⟩ (JO JP e.ref)).heap[w.heap.size+1]? = JV (JU zeroCells 67 (0,0)):=by rw [Below.heap_setCell _ _ _ _ (by show w.heap.size+1 ≠ w.heap.size+1+1;omega)];exact hZ
 have hb0:ac w.heap.size w (W.setCell ⟨w.heap.size+1+1,9,none⟩ (.int .i64 e.ref)):=hbe.setCell (by show _≤w.heap.size+1+1;omega) _;have hat:=hO0.at_;clear hE hO;go_wp2_with (first | ((with_reducible refine wpList_load_mid (op:=⟨_,_,_,_,_,_⟩) ?_ 67 (.tmp 3) ?_ (w.heap.size+1+1) 0 ?_ (Ent.cells (⟨e.id,e.school,e.student,e.kind,e.day,e.on,⟨#[]⟩,0,0,e.ref,0,0,0,e.key,e.mark⟩:Ent)).toList _ ?_ underlying67 ?_ ?_ ?_);rfl;rfl;rfl;exact hat;rfl;kernel_rfl) | ((with_reducible refine wpList_store_row (o:=⟨none,.store 67 (.tmp 2) (.tmp 68),_,_,_,_⟩) ?_ 67 (.tmp 2) (.tmp 68) ?_ (w.heap.size+1) (Ent.cells (⟨e.id,e.school,e.student,e.kind,e.day,e.on,⟨#[]⟩,0,0,e.ref,0,0,0,e.key,e.mark⟩:Ent)) ?_ ?_ 67 zeroCells ?_ ?_ ?_ ?_ ?_);rfl;rfl;rfl;rfl;exact hZ0;kernel_rfl;rfl;simp [Ent.cells,Value.oneCell']));refine bodyPost_ret (v:=Ent.val (⟨e.id,e.school,e.student,e.kind,e.day,e.on,⟨#[]⟩,0,0,e.ref,0,0,0,e.key,e.mark⟩:Ent)) (results_cell_row (P:=prog) results116 _ _ (w.heap.size+1) 67 (Ent.cells (⟨e.id,e.school,e.student,e.kind,e.day,e.on,⟨#[]⟩,0,0,e.ref,0,0,0,e.key,e.mark⟩:Ent)) (0,0) _ rfl ?_ underlying67 rfl mKr) rfl ⟨by rw [hp.out],?_⟩
 ·exact fl hZ0 _
 ·exact aQ hb0 mOm _):p:=h
theorem Pd {p q:Prop} (h:q) (f:Wq q→p:=by
 intro hq;have hp:=aa (show dB e=(⟨e.id,e.school,e.student,e.kind,e.day,e.on,⟨#[]⟩,0,0,e.ref,0,0,0,e.key,e.mark⟩:Ent) by unfold dB;simp [hk])
 revert hp
 exact hq.1):p:=f ⟨h⟩
theorem G9 (e:Ent) (hk:e.kind=5) (w:World) :
  Calls prog 116 #[e.val] w fun x w'=>x=JT (dB e).val∧ac w.heap.size w w':=by
 refine Pd ?_;intro hp;have HK:=aa hk;clear hk;go_enter func116,ntmps116
 go_upto_region 2 with fail
 refine QD ?_;intro h3 h3b hbe;generalize ((w.alloc _).alloc _).alloc _=W at h3 h3b hbe ⊢;obtain ⟨h3,h4⟩:=h3;refine Rf ?_;intro hE hZ hO;clear h3 h3b h4;have ck:W.cell? ⟨w.heap.size,3,JW⟩=JV (JO JP 5):=by rw [hE.cell 3];simp [Ent.cells,HK.out]
 exact va
theorem Ha (e:Ent) (hk:e.kind=6) (w:World) :
  Calls prog 116 #[e.val] w fun x w'=>x=JT (dB e).val∧ac w.heap.size w w':=by
 refine Pd ?_;intro hp;have HK:=aa hk;clear hk;go_enter func116,ntmps116
 go_upto_region 2 with fail
 refine QD ?_;intro h3 h3b hbe;generalize ((w.alloc _).alloc _).alloc _=W at h3 h3b hbe ⊢;obtain ⟨h3,h4⟩:=h3;refine Rf ?_;intro hE hZ hO;clear h3 h3b h4;have ck:W.cell? ⟨w.heap.size,3,JW⟩=JV (JO JP 6):=by rw [hE.cell 3];simp [Ent.cells,HK.out]
 exact va
theorem Hb (e:Ent) (hk:e.kind=7) (w:World) :
  Calls prog 116 #[e.val] w fun x w'=>x=JT (dB e).val∧ac w.heap.size w w':=by
 have hp:=aa (show dB e=(⟨e.id,e.school,e.student,e.kind,e.day,e.on,⟨#[]⟩,0,0,0,e.fro,0,0,e.key,e.mark⟩:Ent) by unfold dB;simp [hk]);have HK:=aa hk;clear hk;go_enter func116,ntmps116
 go_upto_region 2 with fail
 refine QD ?_;intro h3 h3b hbe;generalize ((w.alloc _).alloc _).alloc _=W at h3 h3b hbe ⊢;obtain ⟨h3,h4⟩:=h3;refine Rf ?_;intro hE hZ hO;clear h3 h3b h4;have ck:W.cell? ⟨w.heap.size,3,JW⟩=JV (JO JP 7):=by rw [hE.cell 3];simp [Ent.cells,HK.out]
 have c10:W.cell? ⟨w.heap.size,10,JW⟩=JV (JO JP e.fro):=hE.cell 10;have o10:W.cell? ⟨w.heap.size+1+1,10,JW⟩=JV (JO JP 0):=hO.cell 10;refine J1 ?_;intro fz;have hO0:LN (W.setCell ⟨w.heap.size+1+1,10,JW⟩ (JO JP e.fro)) (w.heap.size+1+1) (⟨e.id,e.school,e.student,e.kind,e.day,e.on,⟨#[]⟩,0,0,0,e.fro,0,0,e.key,e.mark⟩:Ent):=hO.setc 10 _ rfl;have hZ0:(W.setCell ⟨w.heap.size+1+1,10,JW⟩ (JO JP e.fro)).heap[w.heap.size+1]? = JV (JU zeroCells 67 (0,0)):=by rw [Below.heap_setCell _ _ _ _ (by show w.heap.size+1 ≠ w.heap.size+1+1;omega)];exact hZ
 have hb0:ac w.heap.size w (W.setCell ⟨w.heap.size+1+1,10,none⟩ (.int .i64 e.fro)):=hbe.setCell (by show _≤w.heap.size+1+1;omega) _;have hat:=hO0.at_;clear hE hO;go_wp2_with (first | ((with_reducible refine wpList_load_mid (op:=⟨_,_,_,_,_,_⟩) ?_ 67 (.tmp 3) ?_ (w.heap.size+1+1) 0 ?_ (Ent.cells (⟨e.id,e.school,e.student,e.kind,e.day,e.on,⟨#[]⟩,0,0,0,e.fro,0,0,e.key,e.mark⟩:Ent)).toList _ ?_ underlying67 ?_ ?_ ?_);rfl;rfl;rfl;exact hat;rfl;kernel_rfl) | ((with_reducible refine wpList_store_row (o:=⟨none,.store 67 (.tmp 2) (.tmp 68),_,_,_,_⟩) ?_ 67 (.tmp 2) (.tmp 68) ?_ (w.heap.size+1) (Ent.cells (⟨e.id,e.school,e.student,e.kind,e.day,e.on,⟨#[]⟩,0,0,0,e.fro,0,0,e.key,e.mark⟩:Ent)) ?_ ?_ 67 zeroCells ?_ ?_ ?_ ?_ ?_);rfl;rfl;rfl;rfl;exact hZ0;kernel_rfl;rfl;simp [Ent.cells,Value.oneCell']));refine bodyPost_ret (v:=Ent.val (⟨e.id,e.school,e.student,e.kind,e.day,e.on,⟨#[]⟩,0,0,0,e.fro,0,0,e.key,e.mark⟩:Ent)) (results_cell_row (P:=prog) results116 _ _ (w.heap.size+1) 67 (Ent.cells (⟨e.id,e.school,e.student,e.kind,e.day,e.on,⟨#[]⟩,0,0,0,e.fro,0,0,e.key,e.mark⟩:Ent)) (0,0) _ rfl ?_ underlying67 rfl mKr) rfl ⟨by rw [hp.out],?_⟩
 ·exact fl hZ0 _
 ·exact aQ hb0 mOm _
theorem Hc (e:Ent) (hk:e.kind=8) (w:World) :
  Calls prog 116 #[e.val] w fun x w'=>x=JT (dB e).val∧ac w.heap.size w w':=by
 have hp:=aa (show dB e=(⟨e.id,e.school,e.student,e.kind,e.day,e.on,⟨#[]⟩,0,0,0,0,e.programme,0,e.key,e.mark⟩:Ent) by unfold dB;simp [hk]);have HK:=aa hk;clear hk;go_enter func116,ntmps116
 go_upto_region 2 with fail
 refine QD ?_;intro h3 h3b hbe;generalize ((w.alloc _).alloc _).alloc _=W at h3 h3b hbe ⊢;obtain ⟨h3,h4⟩:=h3;refine Rf ?_;intro hE hZ hO;clear h3 h3b h4;have ck:W.cell? ⟨w.heap.size,3,JW⟩=JV (JO JP 8):=by rw [hE.cell 3];simp [Ent.cells,HK.out]
 exact Jv
theorem Hd (e:Ent) (hk:e.kind=9) (w:World) :
  Calls prog 116 #[e.val] w fun x w'=>x=JT (dB e).val∧ac w.heap.size w w':=by
 refine Pd ?_;intro hp;have HK:=aa hk;clear hk;go_enter func116,ntmps116
 go_upto_region 2 with fail
 refine QD ?_;intro h3 h3b hbe;generalize ((w.alloc _).alloc _).alloc _=W at h3 h3b hbe ⊢;obtain ⟨h3,h4⟩:=h3;refine Rf ?_;intro hE hZ hO;clear h3 h3b h4;have ck:W.cell? ⟨w.heap.size,3,JW⟩=JV (JO JP 9):=by rw [hE.cell 3];simp [Ent.cells,HK.out]
 exact va
theorem DZ (e:Ent) (hk:1≤e.kind∧e.kind≤9) (w:World) :
  Calls prog 116 #[e.val] w fun x w'=>x=JT (dB e).val∧ac w.heap.size w w':=by
 have h:e.kind=1∨e.kind=2∨e.kind=3∨e.kind=4∨e.kind=5∨e.kind=6∨e.kind=7∨e.kind=8∨e.kind=9:=mOm;rcases h with h | h | h | h | h | h | h | h | h
 ·exact G5 e h w
 ·exact G6 e h w
 ·exact G7 e h w
 ·exact G8 e h w
 ·exact G9 e h w
 ·exact Ha e h w
 ·exact Hb e h w
 ·exact Hc e h w
 ·exact Hd e h w
end
section
variable {s0 s1 s2 s3 s4 s5 s6 s7 s8 s9 a2 a3 a4 a5 a6 a7 a8 a9 ab ad bg bh bk bm bo bq bs bt bv bx c3 af ag ao b0 b1 b2 b3 b4 b5 b6 b7 b8 b9 ba bb bc bd bf a0 a1:Value}
open Go Go.RowKit Go.Sort Go.Lib
attribute [local go_sem] Ent.cells
theorem Ay (a b:Ent) (w:World):(binOp .neq 67 a.val b.val).run prog w=.ok (.bool (!eqE a b)) w:=by rw [run_neq_struct,yd];rfl
attribute [local go_sem ↓] Ax Ay
theorem pc {p:Prop} (h:p:=by
 go_wp2_with fail;refine (fN _ _ _ _).mono ?_;rintro r w1 ⟨rfl,rfl⟩;go_wp2_with fail;refine (fN _ _ _ _).mono ?_;rintro r w1 ⟨rfl,rfl⟩;go_wp2_with fail
 exact HQ.out _ _ _ _ _ _ _ _ _ _ _ _ _ _ _ _ _ rfl):p:=h
theorem Hf (eb:Nat) (e:Ent) (W:World) (Q:Exit→Act→World→Prop) (hx:LN W eb e)
  (hQ:∀ (u4 u5 u6 u7 u8 u9 cg ch ci cj ck cl cn co cp cr:Value)  (wx:World),W=wx→Q .normal ⟨aq (s0::.pointer (some ⟨eb,0,none⟩)::s2::.bool (!aB e.id 1 899999 || !aB e.school 1 8 || !aB e.student 1 999999)::u4::u5::u6::u7::u8::u9::cg::ch::ci::cj::ck::cl::cn::co::cp::cr::bg::bh::bk::bm::bo::bq::bs::bt::bv::bx::c3::af::ag::ao::b0::b1::b2::b3::b4::b5::b6::b7::b8::b9::ba::bb::bc::bd::bf::a0::a1::[]),[]⟩ wx) :
  (bW f53 1).wp prog Q ⟨aq (s0::JS (JV ⟨eb,0,JW⟩)::[s2,s3,s4,s5,s6,s7,s8,s9,a2,a3,a4,a5,a6,a7,a8,a9,ab,ad,bg,bh,bk,bm,bo,bq,bs,bt,bv,bx,c3,af,ag,ao,b0,b1,b2,b3,b4,b5,b6,b7,b8,b9,ba,bb,bc,bd,bf,a0,a1]),[]⟩ W:=by
 refine mOn ?_;generalize Q .normal=K at hQ ⊢;have HQ:=aa hQ;clear hQ
 conv=>arg 2;whnf
 have c0:W.cell? ⟨eb,0,JW⟩=JV (JO JP e.id):=hx.cell 0
 have c1:W.cell? ⟨eb,1,JW⟩=JV (JO JP e.school):=hx.cell 1;have c2:W.cell? ⟨eb,2,JW⟩=JV (JO JP e.student):=hx.cell 2
 cases h1:aB e.id 1 899999
 ·rw [h1] at HQ;go_wp2_with fail;refine (fN _ _ _ _).mono ?_;rintro r w1 ⟨rfl,rfl⟩;go_wp2_with fail;exact HQ.out _ _ _ _ _ _ _ _ _ _ _ _ _ _ _ _ _ rfl
 ·rw [h1] at HQ
  cases h2:aB e.school 1 8
  ·rw [h2] at HQ;exact pc
  ·rw [h2] at HQ
   cases h3:aB e.student 1 999999
   all_goals
    rw [h3] at HQ
    go_wp2_with fail;refine (fN _ _ _ _).mono ?_;rintro r w1 ⟨rfl,rfl⟩;exact pc
theorem oW {p:Prop} (h:p:=by
 go_wp2_with fail;refine (fN _ _ _ _).mono ?_;rintro r w1 ⟨rfl,rfl⟩;go_wp2_with fail;refine (fN _ _ _ _).mono ?_;rintro r w1 ⟨rfl,rfl⟩;go_wp2_with fail
 exact HQ.out _ _ _ _ _ _ _ _ _ _ _ _ _ _ _ _ _ _ rfl):p:=h
theorem Hg (eb:Nat) (e:Ent) (W:World) (Q:Exit→Act→World→Prop) (hx:LN W eb e)
  (hQ:∀ (cs ct cv cx cy cA cB cC cD cE cG cO cS cW cX d0 d1:Value)  (wx:World),W=wx→Q .normal ⟨aq (s0::.pointer (some ⟨eb,0,none⟩)::s2::s3::s4::s5::s6::s7::s8::s9::a2::a3::a4::a5::a6::a7::a8::a9::ab::ad::bg::bh::bk::bm::bo::bq::bs::bt::bv::bx::c3::.bool (!aB e.day 0 100000 || !aB e.on 0 100000||decide (e.day < e.on))::cs::ct::cv::cx::cy::cA::cB::cC::cD::cE::cG::cO::cS::cW::cX::d0::d1::a0::a1::[]),[]⟩ wx) :
  (bW f53 5).wp prog Q ⟨aq (s0::JS (JV ⟨eb,0,JW⟩)::[s2,s3,s4,s5,s6,s7,s8,s9,a2,a3,a4,a5,a6,a7,a8,a9,ab,ad,bg,bh,bk,bm,bo,bq,bs,bt,bv,bx,c3,af,ag,ao,b0,b1,b2,b3,b4,b5,b6,b7,b8,b9,ba,bb,bc,bd,bf,a0,a1]),[]⟩ W:=by
 refine mOn ?_;generalize Q .normal=K at hQ ⊢;have HQ:=aa hQ;clear hQ
 conv=>arg 2;whnf
 have c4:W.cell? ⟨eb,4,JW⟩=JV (JO JP e.day):=hx.cell 4
 have c5:W.cell? ⟨eb,5,JW⟩=JV (JO JP e.on):=hx.cell 5
 cases h1:aB e.day 0 100000
 ·rw [h1] at HQ;go_wp2_with fail;refine (fN _ _ _ _).mono ?_;rintro r w1 ⟨rfl,rfl⟩;go_wp2_with fail;exact HQ.out _ _ _ _ _ _ _ _ _ _ _ _ _ _ _ _ _ _ rfl
 ·rw [h1] at HQ
  cases h2:aB e.on 0 100000
  ·rw [h2] at HQ;exact oW
  ·rw [h2] at HQ
   cases h3:decide (e.day < e.on)
   all_goals
    rw [h3] at HQ
    exact oW
theorem uO:lr .any (xD (bW f53 3)) (fD (xD (bW f53 3)).size false) [(0,true),(1,true),(2,false),(3,true),(4,true),(5,true),(7,true),(6,false),(8,true),(9,true),(10,true)]=true:=mKr
theorem Q1 {p q:Prop} (h:q) (f:Wq q→p:=by
 intro hq;have hbd:ac W.heap.size W W.drew:=(Below.refl W.heap.size W).drew;have hS:ac W.heap.size W W.drew∧(∀ j,W.drew.cell? ⟨eb,j,JW⟩=e.cells[j]?):=⟨hbd,(hx.below hbd).cell⟩;refine az (S:=(fun w'=>ac W.heap.size W w'∧(∀ j,w'.cell? ⟨eb,j,JW⟩=e.cells[j]?))) [(0,true),(1,true),(2,false),(3,true),(4,true),(5,true),(7,true),(6,false),(8,true),(9,true),(10,true)] mKr mKr uO mDe hS ?_
 iterate 2 refine aj ?_
 refine nD ⟨_,_,_,_,_,_⟩ rfl mRf 115 _ _ mRf [JO JP e.kind,JO JP 1,JO JP 9] mRf call115 (fN _ _ _ _) ?_
 revert hbd hS
 exact hq.1):p:=f ⟨h⟩
theorem zZ (eb:Nat) (e:Ent) (W:World) (Q:Exit→Act→World→Prop) (hx:LN W eb e) (hk:aB e.kind 1 9=false)
  (hQ:∀ (c6 c7 c8 c9 ca cb cc cd ce cf:Value)  (wx:World),ac W.heap.size W wx→Q .normal ⟨aq (s0::JS (JV ⟨eb,0,JW⟩)::s2::s3::s4::s5::s6::s7::s8::s9::a2::a3::a4::a5::a6::a7::a8::a9::ab::ad::.bool true::[c6,c7,c8,c9,ca,cb,cc,cd,ce,cf,af,ag,ao,b0,b1,b2,b3,b4,b5,b6,b7,b8,b9,ba,bb,bc,bd,bf,a0,a1]),[]⟩ wx) :
  (bW f53 3).wp prog Q ⟨aq (s0::JS (JV ⟨eb,0,JW⟩)::[s2,s3,s4,s5,s6,s7,s8,s9,a2,a3,a4,a5,a6,a7,a8,a9,ab,ad,bg,bh,bk,bm,bo,bq,bs,bt,bv,bx,c3,af,ag,ao,b0,b1,b2,b3,b4,b5,b6,b7,b8,b9,ba,bb,bc,bd,bf,a0,a1]),[]⟩ W:=by
 refine mOn ?_;generalize Q .normal=K at hQ ⊢;have HQ:=aa hQ;clear hQ
 conv=>arg 2;whnf
 refine Q1 ?_;intro hbd hS
 rintro r w1 ⟨rfl,rfl⟩;refine ⟨_,rfl,hS,?_⟩;refine ar ?_
 iterate 4 (first | refine aj ?_ | refine cN ?_)
 refine gC ⟨_,_,_,_,_,_⟩ rfl mRf hS ?_;refine ar ?_
 iterate 3 (first | refine aj ?_ | refine cN ?_)
 exact HQ.out _ _ _ _ _ _ _ _ _ _ _ hS.1
theorem Cv (eb:Nat) (e:Ent) (W:World) (Q:Exit→Act→World→Prop) (hx:LN W eb e) (hb:aB e.kind 1 9=true) (hk:1≤e.kind∧e.kind≤9)
  (hQ:∀ (c6 c7 c8 c9 ca cb cc cd ce cf:Value)  (wx:World),ac W.heap.size W wx→Q .normal ⟨aq (s0::JS (JV ⟨eb,0,JW⟩)::s2::s3::s4::s5::s6::s7::s8::s9::a2::a3::a4::a5::a6::a7::a8::a9::ab::ad::.bool (!eqE (dB e) e)::c6::c7::c8::c9::ca::cb::cc::cd::ce::cf::af::ag::ao::b0::b1::b2::b3::b4::b5::b6::b7::b8::b9::ba::bb::bc::bd::bf::a0::a1::[]),[]⟩ wx) :
  (bW f53 3).wp prog Q ⟨aq (s0::JS (JV ⟨eb,0,JW⟩)::[s2,s3,s4,s5,s6,s7,s8,s9,a2,a3,a4,a5,a6,a7,a8,a9,ab,ad,bg,bh,bk,bm,bo,bq,bs,bt,bv,bx,c3,af,ag,ao,b0,b1,b2,b3,b4,b5,b6,b7,b8,b9,ba,bb,bc,bd,bf,a0,a1]),[]⟩ W:=by
 refine mOn ?_;generalize Q .normal=K at hQ ⊢;have HQ:=aa hQ;clear hQ
 conv=>arg 2;whnf
 refine Q1 ?_;intro hbd hS
 rintro r w1 ⟨rfl,rfl⟩;refine ⟨_,rfl,hS,?_⟩;refine ar ?_
 iterate 2 refine aj ?_
 refine nF ⟨_,_,_,_,_,_⟩ e eb rfl mRf _ mRf mRf (fun w hS=>hS.2) ?_;refine ar ?_;refine nF ⟨_,_,_,_,_,_⟩ e eb rfl mRf _ mRf mRf (fun w hS=>hS.2) ?_;refine ar ?_;refine nD ⟨_,_,_,_,_,_⟩ rfl mRf 116 _ _ mRf [e.val] mRf call116 (DZ e hk _) ?_;rintro r w1 ⟨rfl,hb1⟩;replace hS:=LN.of_cells (e:=e) hS hb1;refine ⟨_,rfl,hS,?_⟩;clear hb1;refine ar ?_
 iterate 3 refine aj ?_
 exact HQ.out _ _ _ _ _ _ _ _ _ _ _ hS.1
end
section
open Go Go.RowKit Go.Sort Go.Lib
attribute [local go_sem] Ent.cells
theorem gz (k:Fin 10) (b0 b1 b2 b3 b4 b5 b6:Bool):(bits .andNot JP (vk [b0,b1,b2,b3,b4,b5,b6] 7) (cL k.1) != 0) =
  ((b0 && !(k.1==3))||(b1 && !(k.1==3))||(b2 && !(k.1==3||k.1==4))||(b3 && !(k.1==4||k.1==5||k.1==6||k.1==9))||(b4 && !(k.1==7))||(b5 && !(k.1==1||k.1==8||k.1==2))||(b6 && !(k.1==2))):=by
 revert k b0 b1 b2 b3 b4 b5 b6;decide +kernel
theorem FV (e:Ent):dB e=e↔(e.kind=3∨e.course=⟨#[]⟩)∧(e.kind=3∨e.credits=0)∧((e.kind=3∨e.kind=4)∨e.grade=0)∧((e.kind=4∨e.kind=5∨e.kind=6∨e.kind=9)∨e.ref=0)∧(e.kind=7∨e.fro=0)∧((e.kind=1∨e.kind=8∨e.kind=2)∨e.programme=0)∧(e.kind=2∨e.version=0):=by
 have f:∀ {α:Type} (p:Prop) [Decidable p] (x z:α),(if p then x else z)=x↔(p∨x=z):=fun p _ x z=>by by_cases h:p <;> simp [h,eq_comm]
 obtain ⟨x0,x1,x2,x3,x4,x5,x6,x7,x8,x9,x10,x11,x12,x13,x14⟩:=e;simp only [dB,Ent.mk.injEq,true_and,and_true,f]
theorem De (s:ByteArray):s.toList.isEmpty=true↔s=⟨#[]⟩:=by rw [List.isEmpty_iff,← ba_toList];simp [ByteArray.toList_eq]
theorem FW (e:Ent) (hk:1≤e.kind∧e.kind≤9):(!eqE (dB e) e)=(bits .andNot JP (kU e) (cL e.kind) != 0):=by
 have hp:=(vw (dB e) e).trans (FV e);have hA:=De e.course;unfold kU Ent.some7;have h:e.kind=1∨e.kind=2∨e.kind=3∨e.kind=4∨e.kind=5∨e.kind=6∨e.kind=7∨e.kind=8∨e.kind=9:=mOm;generalize eqE (dB e) e=B at hp;rcases h with h | h | h | h | h | h | h | h | h
 ·rw [h] at hp ⊢;refine Eq.trans ?_ (gz ⟨1,mDe⟩ _ _ _ _ _ _ _).symm;rw [db];simp at hp ⊢
  grind
 ·rw [h] at hp ⊢;refine Eq.trans ?_ (gz ⟨2,mDe⟩ _ _ _ _ _ _ _).symm;rw [db];simp at hp ⊢
  grind
 ·rw [h] at hp ⊢;refine Eq.trans ?_ (gz ⟨3,mDe⟩ _ _ _ _ _ _ _).symm;rw [db];simp at hp ⊢
  grind
 ·rw [h] at hp ⊢;refine Eq.trans ?_ (gz ⟨4,mDe⟩ _ _ _ _ _ _ _).symm;rw [db];simp at hp ⊢
  grind
 ·rw [h] at hp ⊢;refine Eq.trans ?_ (gz ⟨5,mDe⟩ _ _ _ _ _ _ _).symm;rw [db];simp at hp ⊢
  grind
 ·rw [h] at hp ⊢;refine Eq.trans ?_ (gz ⟨6,mDe⟩ _ _ _ _ _ _ _).symm;rw [db];simp at hp ⊢
  grind
 ·rw [h] at hp ⊢;refine Eq.trans ?_ (gz ⟨7,mDe⟩ _ _ _ _ _ _ _).symm;rw [db];simp at hp ⊢
  grind
 ·rw [h] at hp ⊢;refine Eq.trans ?_ (gz ⟨8,mDe⟩ _ _ _ _ _ _ _).symm;rw [db];simp at hp ⊢
  grind
 ·rw [h] at hp ⊢;refine Eq.trans ?_ (gz ⟨9,mDe⟩ _ _ _ _ _ _ _).symm;rw [db];simp at hp ⊢
  grind
theorem Hy (e:Ent):(!aB e.day 0 100000 || !aB e.on 0 100000||decide (e.day < e.on))=(cz e.day 0 100000||cz e.on 0 e.day):=by rw [iy,iy,db];simp only [aB,Bool.or_eq_true,Bool.not_eq_true',Bool.and_eq_false_iff,decide_eq_true_eq,decide_eq_false_iff_not];omega
theorem rv (e:Ent) (h:e.Ok) (w:World) :
  Calls prog 53 #[e.val] w fun x w'=>x=JT (JO JP (dr e))∧ac w.heap.size w w':=by
 have hcs:=h.course;go_enter func53,ntmps53
 go_upto_region 1 with fail
 have hx:=LN.new w e;have hb:=au w (.cells e.cells 67);unfold Ent.cells at hb;have hx':LN (w.alloc (.cells #[.int .i64 e.id,.int .i64 e.school,.int .i64 e.student,.int .i64 e.kind,.int .i64 e.day,.int .i64 e.on,.string e.course,.int .i64 e.credits,.int .i64 e.grade,.int .i64 e.ref,.int .i64 e.fro,.int .i64 e.programme,.int .i64 e.version,.int .i64 e.key,.string e.mark] 67)) w.heap.size e:=hx;generalize w.alloc _=W at hb hx' ⊢;clear hx;refine Hf w.heap.size e _ _ hx' ?_;rintro u4 u5 u6 u7 u8 u9 u10 u11 u12 u13 u14 u15 u16 u17 u18 u19 wx rfl;obtain ⟨B1,hB1⟩:∃ B,(!aB e.id 1 899999 || !aB e.school 1 8 || !aB e.student 1 999999)=B:=⟨_,rfl⟩;rw [hB1];have H1:Hid ((cz e.id 1 899999||cz e.school 1 8||cz e.student 1 999999)=B1):=aa (by rw [iy,iy,iy];exact hB1);clear hB1
 cases B1
 rotate_left
 ·have H:=aa (show dr e=1 by unfold dr;rw [if_pos H1.out]);clear H1;go_wp2_with fail;go_ret;exact ⟨aI H.out.symm,hb⟩
 ·have N1:Hid (¬ (cz e.id 1 899999||cz e.school 1 8||cz e.student 1 999999)=true):=aa (by rw [H1.out];simp);clear H1
  go_upto_region 3 with fail
  cases hk:aB e.kind 1 9
  ·have H:=aa (show dr e=20 by unfold dr;rw [if_neg N1.out,if_pos (by rw [iy,hk];rfl)]);refine zZ w.heap.size e _ _ hx' hk ?_;intro u21 u22 u23 u24 u25 u26 u27 u28 u29 u30 wx hb3;clear hk;go_wp2_with fail;go_ret;exact ⟨aI H.out.symm,hb.trans (hb3.mono hb.size)⟩
  ·have hk9:1≤e.kind∧e.kind≤9:=by simpa [aB] using hk
   refine Cv w.heap.size e _ _ hx' hk hk9 ?_;intro u21 u22 u23 u24 u25 u26 u27 u28 u29 u30 wx hb3;have hbx:=hb.trans (hb3.mono hb.size);replace hx':=hx'.below hb3;have H2:Hid ((cz e.kind 1 9||bits .andNot JP (kU e) (cL e.kind) != 0) = !eqE (dB e) e):=aa (by rw [iy,hk,FW e hk9];rfl);clear hk hb3;generalize (!eqE (dB e) e)=B2 at H2
   cases B2
   rotate_left
   ·have H:=aa (show dr e=20 by unfold dr;rw [if_neg N1.out,if_pos H2.out]);clear H2;go_wp2_with fail;go_ret;exact ⟨aI H.out.symm,hbx⟩
   ·have N2:Hid (¬ (cz e.kind 1 9||bits .andNot JP (kU e) (cL e.kind) != 0)=true):=aa (by rw [H2.out];simp);clear H2
    go_upto_region 5 with fail
    refine Hg w.heap.size e _ _ hx' ?_;rintro u32 u33 u34 u35 u36 u37 u38 u39 u40 u41 u42 u43 u44 u45 u46 u47 u48 wy rfl;have H3:Hid ((cz e.day 0 100000||cz e.on 0 e.day)=(!aB e.day 0 100000 || !aB e.on 0 100000||decide (e.day < e.on))):=aa (Hy e).symm;generalize (!aB e.day 0 100000 || !aB e.on 0 100000||decide (e.day < e.on))=B3 at H3
    cases B3
    rotate_left
    ·have H:=aa (show dr e=23 by unfold dr;rw [if_neg N1.out,if_neg N2.out,if_pos H3.out]);clear H3;go_wp2_with fail;go_ret;exact ⟨aI H.out.symm,hbx⟩
    ·have H:=aa (show dr e=aY (cL e.kind) e 0 by unfold dr;rw [if_neg N1.out,if_neg N2.out,if_neg (by rw [H3.out];simp)]);clear H3;have hcell:=hx'.cell;go_wp2_with fail;refine (BV e _ mOm hk9).mono ?_;rintro r w5 ⟨rfl,hb5⟩;go_wp2_with fail;go_ret;exact ⟨aI H.out.symm,hbx.trans (hb5.mono hbx.size)⟩
end
section
open Go Go.RowKit Go.Sort Go.Lib
attribute [local go_sem] Ent.cells
def uS (k:LU) (sc id:Int) (t:ByteArray):ByteArray:=⟨(dg (js k.secret ⟨(iF sc id t).toArray⟩)).toArray⟩
def dU (l:List LU) (sc id:Int) (t:ByteArray):ByteArray×Int:=match l[dN l id]? with
 | some k=>(uS k sc id t,0)
 | none=>(⟨#[]⟩,5)
theorem zG {l:List LU} {sc id:Int} {t:ByteArray} {k:LU} (h:l[dN l id]? = JV k):dU l sc id t=(uS k sc id t,0):=by unfold dU;rw [h]
theorem zF {l:List LU} {sc id:Int} {t:ByteArray} (h:¬ dN l id < l.length):dU l sc id t=(⟨#[]⟩,5):=by unfold dU;rw [List.getElem?_eq_none mOm]
theorem sZ (sc id:Int) (t:ByteArray) (hs:I64 sc) (hi:I64 id):(⟨(iF sc id t).toArray⟩:ByteArray).size≤t.size+100:=by have l1:=bI sc hs.1 hs.2;have l2:=bI id hi.1 hi.2;have l3:=bw t;have h:(⟨(iF sc id t).toArray⟩:ByteArray).size=(iF sc id t).length:=rfl;rw [h];simp only [iF,List.length_append,List.length_cons];omega
theorem zm {W w w':World} {p q:Addr} {u v:Value} (h:ac W.heap.size W w∧w.cell? p=JV u∧w.cell? q=JV v) (hb:ac w.heap.size w w') :
  ac W.heap.size W w'∧w'.cell? p=JV u∧w'.cell? q=JV v:=
 ⟨h.1.trans (hb.mono h.1.size),(hb.cell (am w _ h.2.1)).trans h.2.1,(hb.cell (am w _ h.2.2)).trans h.2.2⟩
theorem mL {W w w':World} {p q r:Addr} {u v x:Value} (h:ac W.heap.size W w∧w.cell? p=JV u∧w.cell? q=JV v∧w.cell? r=JV x) (hb:ac w.heap.size w w') :
  ac W.heap.size W w'∧w'.cell? p=JV u∧w'.cell? q=JV v∧w'.cell? r=JV x:=
 ⟨h.1.trans (hb.mono h.1.size),(hb.cell (am w _ h.2.1)).trans h.2.1,(hb.cell (am w _ h.2.2.1)).trans h.2.2.1,(hb.cell (am w _ h.2.2.2)).trans h.2.2.2⟩
theorem pP (g c:Nat) (sc:Int) (l:List LU) (id:Int) (t:ByteArray) (w:World) (hl:l.length≤1000) (hk:LV w g l) (hsz:∀ k∈l,k.secret.size≤100000) (hg:g < w.heap.size) (hs:I64 sc) (hi:I64 id) (ht:t.size≤1000000) :
  Calls prog 129 #[.agg #[JO JP sc,JR (JV ⟨g,0,JW⟩) l.length c],JO JP id,JQ t] w
   fun x w'=>x=JT (.tuple #[JQ (dU l sc id t).1,JO JP (dU l sc id t).2])∧ac w.heap.size w w':=by
 have hb0:=au w (JU #[JO JP sc,JR (JV ⟨g,0,JW⟩) l.length c] 33);have hr:=heap_alloc_new w (JU #[JO JP sc,JR (JV ⟨g,0,JW⟩) l.length c] 33);have hF:=sw g c sc l id _ hl (hk.below hb0 hg) (by simp;omega);have hc0:=ae hr 0;have hc1:=ae hr 1;by_cases h:dN l id < l.length
 ·have hE:=List.getElem?_eq_getElem h;have hsk:=hsz _ (List.getElem_mem h);generalize l[dN l id]=e at hE hsk;have HV:=aa (zG (sc:=sc) (t:=t) hE);have hat:=(hk _ _ hE).below hb0 hg;have hcm:(World.alloc w (JU #[JO JP sc,JR (JV ⟨g,0,JW⟩) l.length c] 33)).cell? ⟨g,dN l id*4+1,JW⟩=JV (JQ e.secret):=hat.cell 1 rfl;rw [if_pos h] at hF;clear hE hat hr hk;generalize dN l id=I at *;go_enter func129,ntmps129;go_wp2_with fail;refine hF.mono ?_;rintro x w1 ⟨rfl,hb1⟩;have hbw:=hb0.trans (hb1.mono hb0.size);have hd0:=(hb1.cell (am _ _ hc0)).trans hc0;have hd1:=(hb1.cell (am _ _ hc1)).trans hc1;have hcm1:=(hb1.cell (am _ _ hcm)).trans hcm;clear hb1 hc0 hc1 hcm hF hb0;go_wp2_with fail;have hms:=sZ sc id t hs hi;have hS0:ac w1.heap.size w1 w1.drew∧w1.drew.cell? ⟨w.heap.size,0,JW⟩=JV (JO JP sc)∧w1.drew.cell? ⟨w.heap.size,1,JW⟩=JV (JR (JV ⟨g,0,JW⟩) l.length c)∧w1.drew.cell? ⟨g,I*4+1,JW⟩=JV (JQ e.secret):=⟨(Below.refl _ _).drew,hd0,hd1,hcm1⟩;refine Jy (S:=fun w'=>ac w1.heap.size w1 w'∧w'.cell? ⟨w.heap.size,0,JW⟩=JV (JO JP sc)∧w'.cell? ⟨w.heap.size,1,JW⟩=JV (JR (JV ⟨g,0,JW⟩) l.length c)∧w'.cell? ⟨g,I*4+1,JW⟩=JV (JQ e.secret)) [(0,true),(1,true),(2,true),(3,true),(4,true),(5,true),(6,true),(7,true),(8,true),(9,false),(10,false),(11,true),(12,true)] hS0 ?_;have hS:=hS0
  iterate 9 refine aj ?_
  refine aH 110 call110 (wU sc id _ t hs hi ht _) ?_;rintro x wn ⟨rfl,hb⟩;replace hS:=mL hS hb;refine ⟨_,rfl,hS,?_⟩;(try clear hb);refine ar ?_;refine aH 177 call177 (sF e.secret ⟨(iF sc id t).toArray⟩ mOm mOm _) ?_;rintro x wn ⟨rfl,hb⟩;replace hS:=mL hS hb;refine ⟨_,rfl,hS,?_⟩;(try clear hb);refine ar ?_
  iterate 2 refine aj ?_
  simp only [aO,bj];go_wp2_with fail;refine bodyPost_ret (results_tmp2 rfl _ _ _) rfl ?_;exact ⟨by rw [HV.out];rfl,hbw.trans (hS.1.mono hbw.size)⟩
 ·have HV:=aa (zF (sc:=sc) (t:=t) h);rw [if_neg h] at hF;clear hr hk;generalize dN l id=I at *;go_enter func129,ntmps129;go_wp2_with fail;refine hF.mono ?_;rintro x w1 ⟨rfl,hb1⟩;have hbw:=hb0.trans (hb1.mono hb0.size);clear hb1 hF hb0 hc0 hc1;go_wp2_with fail;refine bodyPost_ret (results_tmp2 rfl _ _ _) rfl ?_;exact ⟨by rw [HV.out];rfl,hbw⟩
end
section
open Go
inductive FlowT where
 | done
 | take (i:Nat) (t:FlowT)
 | one (i:Nat) (t:FlowT)
 | two (i j:Nat) (t u:FlowT)
def jZ (md:Region.Mode) (ops:Array Oper):Array Bool→FlowT→Bool
 | listed,.done=>(Region.ready md ops listed).isEmpty
 | listed,.take i t=>(Region.ready md ops listed).contains i&&Region.free md ops listed i&&jZ md ops (listed.setIfInBounds i true) t
 | listed,.one i t=>(Region.ready md ops listed==[i])&&jZ md ops (listed.setIfInBounds i true) t
 | listed,.two i j t u=>(Region.ready md ops listed==[i,j])&&jZ md ops (listed.setIfInBounds i true) t&&jZ md ops (listed.setIfInBounds j true) u
def FlowT.deep:FlowT→Nat
 | .done=>0
 | .take _ t=>t.deep+1
 | .one _ t=>t.deep+1
 | .two _ _ t u=>max t.deep u.deep+1
def dp (P:Program) (ops:Array Oper) (Q:Exit→Act→World→Prop) (S:World→Prop):FlowT→Act→World→Prop
 | .done,a,w=>Q .normal a w
 | .take i t,a,w=>∃ oi v,ops[i]? = some oi∧YieldsIf P ops S oi v a∧dp P ops Q S t (a.put oi.dst v) w
 | .one i t,a,w=>wpOp P ops Q i (fun a' w'=>S w'∧dp P ops Q S t a' w') a w
 | .two i j t u,a,w=>wpOp P ops Q i (fun a' w'=>S w'∧dp P ops Q S t a' w') a w∧wpOp P ops Q j (fun a' w'=>S w'∧dp P ops Q S u a' w') a w
section
variable {P:Program} {ops:Array Oper} {Q:Exit→Act→World→Prop} {md:Region.Mode} {S:World→Prop}
theorem lN (hs:Region.noSelect ops=true) (hQ:∀ d c v a w,Q (.panic c) (Act.put a d v) w→Q (.panic c) a w) :
  ∀ (t:FlowT) (listed:Array Bool) (fuel:Nat) (a:Act) (w:World),jZ md ops listed t=true→t.deep≤fuel→S w→dp P ops Q S t a w→wpAnyH P md ops Q S fuel listed a w
 | .done,listed,fuel,a,w,hf,_,_,h=>by
  refine wpAnyH_done ?_ h fuel
  simpa [jZ] using hf
 | .take i t,listed,fuel,a,w,hf,hl,hS,h=>by
  obtain ⟨oi,v,hi,hy,h⟩:=h;simp only [jZ,aW] at hf
  cases fuel with
  | zero=>simp [FlowT.deep] at hl
  | succ fuel=>exact wpAnyH_take hi hs hf.1.2 hf.1.1 (fun c a w=>hQ _ c v a w) hy hS (lN hs hQ t _ fuel _ w hf.2 (by simpa [FlowT.deep] using hl) hS h)
 | .one i t,listed,fuel,a,w,hf,hl,hS,h=>by
  simp only [jZ,aW,beq_iff_eq] at hf
  cases fuel with
  | zero=>simp [FlowT.deep] at hl
  | succ fuel =>
   refine wpAnyH_all hf.1 mSi fun j hj=>?_
   obtain rfl:j=i:=by simpa using hj
   exact wpOp_mono (fun a' w' h'=>⟨h'.1,lN hs hQ t _ fuel a' w' hf.2 (by simpa [FlowT.deep] using hl) h'.1 h'.2⟩) h
 | .two i j t u,listed,fuel,a,w,hf,hl,hS,h=>by
  simp only [jZ,aW,beq_iff_eq] at hf
  cases fuel with
  | zero=>simp [FlowT.deep] at hl
  | succ fuel =>
   have hl':max t.deep u.deep≤fuel:=by simpa [FlowT.deep] using hl
   refine wpAnyH_all hf.1.1 mSi fun k hk=>?_
   have hk':k=i∨k=j:=by simpa using hk
   by_cases hki:k=i
   ·subst hki;exact wpOp_mono (fun a' w' h'=>⟨h'.1,lN hs hQ t _ fuel a' w' hf.1.2 mOm h'.1 h'.2⟩) h.1
   ·obtain rfl:k=j:=hk'.resolve_left hki;exact wpOp_mono (fun a' w' h'=>⟨h'.1,lN hs hQ u _ fuel a' w' hf.2 mOm h'.1 h'.2⟩) h.2
theorem d6 {K:Act→World→Prop} {id:Nat} {a:Act} {w:World} (t:FlowT) (hm:P.follows .mixedOrders=true) (hs:Region.noSelect ops=true)
  (hf:jZ .any ops (fD ops.size false) t=true) (hl:t.deep≤ops.size) (hS:S w.drew) (h:dp P ops (bj K) S t a w.drew):(Code.region id ops true).wp P (bj K) a w:=
 wp_region_held hm (lN hs (fun _ _ _ _ _ h=>h) t _ _ a w.drew hf hl hS h)
theorem wS {i:Nat} {t:FlowT} {a:Act} {w:World} (oi:Oper) (v:Value) (hi:ops[i]? = JV oi) (hw:Region.wanted oi (yielded ops a.tmps)=true) (hy:∀ w,S w→(execOp a.eval oi).run P w=.ok (.value v) w)
  (h:dp P ops Q S t (a.put oi.dst v) w):dp P ops Q S (.take i t) a w:=⟨oi,v,hi,.inl ⟨hw,hy⟩,h⟩
theorem En {i:Nat} {t:FlowT} {a:Act} {w:World} (oi:Oper) (hi:ops[i]? = JV oi) (hw:Region.wanted oi (yielded ops a.tmps)=false)
  (h:dp P ops Q S t (a.put oi.dst undef) w):dp P ops Q S (.take i t) a w:=⟨oi,undef,hi,.inr ⟨hw,rfl⟩,h⟩
theorem aZ {i:Nat} {t:FlowT} {a:Act} {w:World} (h:wpOp P ops Q i (fun a' w'=>S w'∧dp P ops Q S t a' w') a w):dp P ops Q S (.one i t) a w:=h
theorem dn {i j:Nat} {t u:FlowT} {a:Act} {w:World} (h:wpOp P ops Q i (fun a' w'=>S w'∧dp P ops Q S t a' w') a w) (h':wpOp P ops Q j (fun a' w'=>S w'∧dp P ops Q S u a' w') a w):dp P ops Q S (.two i j t u) a w:=⟨h,h'⟩
theorem Aq {i:Nat} {K:Act→World→Prop} {a:Act} {w:World} (oi:Oper) (hi:ops[i]? = JV oi) (hw:Region.wanted oi (yielded ops a.tmps)=true) (h:oi.wp P a w K Q):wpOp P ops Q i K a w:=by unfold wpOp;simp only [hi,hw,if_true];exact .inl h
theorem bn {i:Nat} {K:Act→World→Prop} {a:Act} {w:World} (oi:Oper) (hi:ops[i]? = JV oi) (hw:Region.wanted oi (yielded ops a.tmps)=true) (f:FuncId) (args:Array Operand) (tys:Array TypeId)
  (ho:oi.op=.call { callee:=.value (.func f),args:=args,argTypes:=tys }) (vs:List Value) (hvs:args.toList.map a.eval=vs) (hc:∀ xs w,(callFunc f xs).run P w=.ok (.enter f xs) w) {R:Ending→World→Prop} (h:Calls P f vs.toArray w R)
  (hK:∀ e w',R e w'→∃ v,e=JT v∧K (a.put oi.dst v) w'):wpOp P ops Q i K a w:=
 Aq oi hi hw (rY f args tys ho vs hvs hc h hK)
theorem bR {i:Nat} {K:Act→World→Prop} {a:Act} {w:World} (oi:Oper) (v:Value) (w':World) (hi:ops[i]? = JV oi) (hw:Region.wanted oi (yielded ops a.tmps)=true) (hr:(execOp a.eval oi).run P w=.ok (.value v) w') (h:K (a.put oi.dst v) w'):wpOp P ops Q i K a w:=
 Aq oi hi hw (by unfold Oper.wp;rw [hr,Oper.upon_value];exact h)
end
theorem JN {P:Program} {ops:Array Oper} {S:World→Prop} {K:Act→World→Prop} {id:Nat} {a:Act} {w:World} (t:FlowT) (hS:S w.drew) (h:dp P ops (bj K) S t a w.drew) (hm:P.follows .mixedOrders=true:=by kernel_rfl) (hs:Region.noSelect ops=true:=by kernel_rfl) (hf:jZ .any ops (fD ops.size false) t=true:=by kernel_rfl) (hl:t.deep≤ops.size:=by decide):(Code.region id ops true).wp P (bj K) a w:=d6 t hm hs hf hl hS h
theorem JB {P:Program} {ops:Array Oper} {S:World→Prop} {K:Act→World→Prop} {id:Nat} {a:Act} {w:World} {Q:Exit→Act→World→Prop} (t:FlowT) (hS:S w.drew) (h:dp P ops (bj K) S t a w.drew) (hm:P.follows .mixedOrders=true:=by kernel_rfl) (hs:Region.noSelect ops=true:=by kernel_rfl) (hf:jZ .any ops (fD ops.size false) t=true:=by kernel_rfl) (hl:t.deep≤ops.size:=by decide) (hk:∀ a w,K a w→Q .normal a w:=by exact fun _ _ h=>h):(Code.region id ops true).wp P Q a w:=aC (d6 t hm hs hf hl hS h) hk
theorem aJ {P:Program} {ops:Array Oper} {Q:Exit→Act→World→Prop} {S:World→Prop} {i:Nat} {tr:FlowT} {a:Act} {w:World} {d} {o} {t} {p} {af} {g} {v:Value} {q:Prop} (h:q) (hi:ops[i]? = some (Oper.mk d o t p af g):=by rfl) (hw:Region.wanted (Oper.mk d o t p af g) (yielded ops a.tmps)=true:=by rfl) (hy:∀ w,S w→(execOp a.eval (Oper.mk d o t p af g)).run P w=.ok (.value v) w:=by intro w hSw;(try dsimp only at hSw);go_simp;(try with_reducible rfl)) (f:Wq q→dp P ops Q S tr (Act.put a d v) w:=by intro hq;(try simp only [Act.put,List.setIfInBounds_toArray,List.set_cons_zero,List.set_cons_succ]);exact hq.1):dp P ops Q S (.take i tr) a w:=wS (Oper.mk d o t p af g) v hi hw hy (f ⟨h⟩)
theorem IM {P:Program} {ops:Array Oper} {Q:Exit→Act→World→Prop} {S:World→Prop} {i:Nat} {tr:FlowT} {a:Act} {w:World} {d} {o} {t} {p} {af} {g} {q:Prop} (h:q) (hi:ops[i]? = some (Oper.mk d o t p af g):=by rfl) (hw:Region.wanted (Oper.mk d o t p af g) (yielded ops a.tmps)=false:=by rfl) (f:Wq q→dp P ops Q S tr (Act.put a d undef) w:=by intro hq;(try simp only [Act.put,List.setIfInBounds_toArray,List.set_cons_zero,List.set_cons_succ]);exact hq.1):dp P ops Q S (.take i tr) a w:=En (Oper.mk d o t p af g) hi hw (f ⟨h⟩)
end
section
variable {s0 s1 s2 s3 s4 s5 s6 s7 s8 s9 b7 b8 b9 bd bf bg bh bk bm bo bq bs bt bv bx c0 c1:Value}
open Go Go.RowKit Go.Sort Go.Lib
attribute [local go_sem] Ent.cells
theorem kT (w:World) (b:Nat) (x:Int) (h:w.cell? ⟨b,0,JW⟩=JV (JO .u8 x)):(convert 94 9 (JR (JV ⟨b,0,JW⟩) 1 1)).run prog w=.ok (JQ ⟨#[UInt8.ofNat x.toNat]⟩) w:=
 run_convert_bytes_arg _ 94 5 underlying94 underlying5 b 0 1 1 [x] rfl (fun i hi=>by
  match i,hi with
  | 0,_=>exact h) 9 underlying9
theorem F8 (n:Nat):(cV n).length=6:=rfl
theorem ra (e:Ent) (a b c:Nat) (ha:e.student=a) (hb:e.on=b) (hc:e.id=c) (hk:1≤e.kind∧e.kind≤9) :
  (⟨(cV a).toArray⟩:ByteArray)++⟨#[32]⟩++⟨(cV b).toArray⟩++⟨#[32]⟩++⟨(cV c).toArray⟩++⟨#[32]⟩++⟨#[UInt8.ofNat (48+e.kind).toNat]⟩=⟨(fJ e).toArray⟩:=by
 have h1:(48+e.kind).toNat=48+e.kind.toNat:=mOm;refine dl ?_;simp only [gb,fJ,ha,hb,hc,h1,Int.toNat_natCast];simp
attribute [local go_sem] F8
theorem Aa:jZ .any (xD (bW f21 3)) (fD (xD (bW f21 3)).size false) (.take 0 (.take 1 (.take 4 (.take 5 (.take 9 (.take 10 (.take 14 (.take 15 (.take 16 (.take 17 (.two 2 18 (.take 3 (.two 6 18 (.take 7 (.take 8 (.two 11 18 (.take 12 (.take 13 (.one 18 (.one 19 (.take 20 (.take 21 .done)))))) (.two 11 19 (.take 12 (.take 13 (.one 19 (.take 20 (.take 21 .done))))) (.one 11 (.take 12 (.take 13 (.take 20 (.take 21 .done))))))))) (.two 6 19 (.take 7 (.take 8 (.two 11 19 (.take 12 (.take 13 (.one 19 (.take 20 (.take 21 .done))))) (.one 11 (.take 12 (.take 13 (.take 20 (.take 21 .done)))))))) (.one 6 (.take 7 (.take 8 (.one 11 (.take 12 (.take 13 (.take 20 (.take 21 .done))))))))))) (.two 2 19 (.take 3 (.two 6 19 (.take 7 (.take 8 (.two 11 19 (.take 12 (.take 13 (.one 19 (.take 20 (.take 21 .done))))) (.one 11 (.take 12 (.take 13 (.take 20 (.take 21 .done)))))))) (.one 6 (.take 7 (.take 8 (.one 11 (.take 12 (.take 13 (.take 20 (.take 21 .done)))))))))) (.one 2 (.take 3 (.one 6 (.take 7 (.take 8 (.one 11 (.take 12 (.take 13 (.take 20 (.take 21 .done))))))))))))))))))))))=true:=mKr
theorem Ko {p q:Prop} (h:q) (f:Wq q→p:=by
 intro hq;refine aZ (bn ⟨_,_,_,_,_,_⟩ rfl mRf 54 _ _ mRf [JO JP ((c:Nat):Int)] mRf call54 (ft c _ mOm) ?_);rintro r w1 ⟨rfl,hb1⟩;replace hS:=LN.of_cells (e:=e) hS hb1
 revert w1 hb1 hS
 exact hq.1):p:=f ⟨h⟩
theorem K4 {p q:Prop} (h:q) (f:Wq q→p:=by
 intro hq;refine aZ (bn ⟨_,_,_,_,_,_⟩ rfl mRf 54 _ _ mRf [JO JP ((b:Nat):Int)] mRf call54 (ft b _ mOm) ?_);rintro r w1 ⟨rfl,hb1⟩;replace hS:=LN.of_cells (e:=e) hS hb1
 revert w1 hb1 hS
 exact hq.1):p:=f ⟨h⟩
theorem Js {p:Prop} (h:p:=by
 refine dn ?_ ?_
 ·refine bn ⟨_,_,_,_,_,_⟩ rfl mRf 54 _ _ mRf [JO JP ((b:Nat):Int)] mRf call54 (ft b _ mOm) ?_;rintro r w1 ⟨rfl,hb1⟩;replace hS:=LN.of_cells (e:=e) hS hb1
  (try replace hB:=(hb1.block _ (ay hB)).trans hB)
  refine ⟨_,rfl,hS,?_⟩;clear hb1;refine ar ?_
  iterate 2 refine aJ ?_
  refine dn ?_ ?_
  ·refine bn ⟨_,_,_,_,_,_⟩ rfl mRf 54 _ _ mRf [JO JP ((c:Nat):Int)] mRf call54 (ft c _ mOm) ?_;rintro r w1 ⟨rfl,hb1⟩;replace hS:=LN.of_cells (e:=e) hS hb1
   (try replace hB:=(hb1.block _ (ay hB)).trans hB)
   refine ⟨_,rfl,hS,?_⟩;clear hb1;refine ar ?_
   iterate 2 refine aJ ?_
   refine aZ (bR ⟨_,_,_,_,_,_⟩ (JQ ⟨#[UInt8.ofNat (48+e.kind).toNat]⟩) w1 rfl mRf ?_ ?_)
   ·have hcv:=kT w1 nb _ (ae hB 0)
    go_simp
   refine ⟨hS,?_⟩
   refine ar ?_
   iterate 2 refine aJ ?_
   exact HQ.out _ _ _ _ _ _ _ _ _ _ _ _ _ _ _ _ _ _ _ _ _ _ _ (ra e a b c ha hb hc hk) hS.1
  ·refine bR ⟨_,_,_,_,_,_⟩ (JQ ⟨#[UInt8.ofNat (48+e.kind).toNat]⟩) w1 rfl mRf ?_ ?_
   ·have hcv:=kT w1 nb _ (ae hB 0)
    go_simp
   refine ⟨hS,?_⟩
   refine ar ?_;refine Ko ?_;intro w1 hb1 hS
   (try replace hB:=(hb1.block _ (ay hB)).trans hB)
   refine ⟨_,rfl,hS,?_⟩;clear hb1;refine ar ?_
   iterate 4 refine aJ ?_
   exact HQ.out _ _ _ _ _ _ _ _ _ _ _ _ _ _ _ _ _ _ _ _ _ _ _ (ra e a b c ha hb hc hk) hS.1
 ·refine bR ⟨_,_,_,_,_,_⟩ (JQ ⟨#[UInt8.ofNat (48+e.kind).toNat]⟩) w1 rfl mRf ?_ ?_
  ·have hcv:=kT w1 nb _ (ae hB 0)
   go_simp
  refine ⟨hS,?_⟩
  refine ar ?_;refine K4 ?_;intro w1 hb1 hS
  (try replace hB:=(hb1.block _ (ay hB)).trans hB)
  refine ⟨_,rfl,hS,?_⟩;clear hb1;refine ar ?_
  iterate 2 refine aJ ?_
  refine Ko ?_;intro w1 hb1 hS
  (try replace hB:=(hb1.block _ (ay hB)).trans hB)
  refine ⟨_,rfl,hS,?_⟩;clear hb1;refine ar ?_
  iterate 4 refine aJ ?_
  exact HQ.out _ _ _ _ _ _ _ _ _ _ _ _ _ _ _ _ _ _ _ _ _ _ _ (ra e a b c ha hb hc hk) hS.1):p:=h
theorem Jo {p:Prop} (h:p:=by
 refine Ko ?_;intro w1 hb1 hS
 (try replace hB:=(hb1.block _ (ay hB)).trans hB)
 refine ⟨_,rfl,hS,?_⟩;clear hb1;refine ar ?_
 iterate 4 refine aJ ?_
 exact HQ.out _ _ _ _ _ _ _ _ _ _ _ _ _ _ _ _ _ _ _ _ _ _ _ (ra e a b c ha hb hc hk) hS.1):p:=h
theorem Ju {p:Prop} (h:p:=by
 refine aZ (bR ⟨_,_,_,_,_,_⟩ (JQ ⟨#[UInt8.ofNat (48+e.kind).toNat]⟩) w1 rfl mRf ?_ ?_)
 ·have hcv:=kT w1 nb _ (ae hB 0)
  go_simp
 refine ⟨hS,?_⟩
 refine ar ?_
 iterate 2 refine aJ ?_
 exact HQ.out _ _ _ _ _ _ _ _ _ _ _ _ _ _ _ _ _ _ _ _ _ _ _ (ra e a b c ha hb hc hk) hS.1):p:=h
theorem QE {p q:Prop} (h:q) (f:Wq q→p:=by
 intro hq;have hB:=heap_alloc_new w1 (JU #[JO .u8 (48+e.kind)] 5);replace hS:=LN.of_cells (e:=e) hS (au w1 (JU #[JO .u8 (48+e.kind)] 5));refine ⟨hS,?_⟩
 revert hB hS
 exact hq.1):p:=f ⟨h⟩
theorem D5 (eb a b c:Nat) (e:Ent) (W:World) (Q:Exit→Act→World→Prop) (hx:LN W eb e) (ha:e.student=a) (hb:e.on=b) (hc:e.id=c) (ba:a≤999999) (bb:b≤999999) (bc:c≤999999) (hk:1≤e.kind∧e.kind≤9)
  (hQ:∀ (u6 u7 u8 u9 a0 a1 a2 a3 a4 a5 a6 a7 a8 a9 ab ad af ag ao b0 b6:Value) (s:ByteArray) (wx:World),s=⟨(fJ e).toArray⟩→ac W.heap.size W wx→Q .normal ⟨aq (s0::JS (JV ⟨eb,0,JW⟩)::JQ s::[s3,s4,s5,u6,u7,u8,u9,a0,a1,a2,a3,a4,a5,a6,a7,a8,a9,ab,ad,af,ag,ao,b0,b6]),[]⟩ wx) :
  (bW f21 3).wp prog Q ⟨aq (s0::JS (JV ⟨eb,0,JW⟩)::[s2,s3,s4,s5,s6,s7,s8,s9,b7,b8,b9,bd,bf,bg,bh,bk,bm,bo,bq,bs,bt,bv,bx,c0,c1]),[]⟩ W:=by
 refine mOn ?_;generalize Q .normal=K at hQ ⊢;have HQ:=aa hQ;clear hQ
 conv=>arg 2;whnf
 have hbd:ac W.heap.size W W.drew:=(Below.refl W.heap.size W).drew
 have hS:ac W.heap.size W W.drew∧(∀ j,W.drew.cell? ⟨eb,j,JW⟩=e.cells[j]?):=⟨hbd,(hx.below hbd).cell⟩;have hw2:IntKind.u8.wrap (48+e.kind)=48+e.kind:=by simp [IntKind.wrap,IntKind.signed,IntKind.bits];omega
 have hw1:IntKind.i64.wrap (48+e.kind)=48+e.kind:=IntWalk.i64_in _ mOm;refine d6 (S:=(fun w'=>ac W.heap.size W w'∧(∀ j,w'.cell? ⟨eb,j,JW⟩=e.cells[j]?))) (.take 0 (.take 1 (.take 4 (.take 5 (.take 9 (.take 10 (.take 14 (.take 15 (.take 16 (.take 17 (.two 2 18 (.take 3 (.two 6 18 (.take 7 (.take 8 (.two 11 18 (.take 12 (.take 13 (.one 18 (.one 19 (.take 20 (.take 21 .done)))))) (.two 11 19 (.take 12 (.take 13 (.one 19 (.take 20 (.take 21 .done))))) (.one 11 (.take 12 (.take 13 (.take 20 (.take 21 .done))))))))) (.two 6 19 (.take 7 (.take 8 (.two 11 19 (.take 12 (.take 13 (.one 19 (.take 20 (.take 21 .done))))) (.one 11 (.take 12 (.take 13 (.take 20 (.take 21 .done)))))))) (.one 6 (.take 7 (.take 8 (.one 11 (.take 12 (.take 13 (.take 20 (.take 21 .done))))))))))) (.two 2 19 (.take 3 (.two 6 19 (.take 7 (.take 8 (.two 11 19 (.take 12 (.take 13 (.one 19 (.take 20 (.take 21 .done))))) (.one 11 (.take 12 (.take 13 (.take 20 (.take 21 .done)))))))) (.one 6 (.take 7 (.take 8 (.one 11 (.take 12 (.take 13 (.take 20 (.take 21 .done)))))))))) (.one 2 (.take 3 (.one 6 (.take 7 (.take 8 (.one 11 (.take 12 (.take 13 (.take 20 (.take 21 .done)))))))))))))))))))))) mKr mKr Aa mDe hS ?_;generalize W.drew=w1 at hS hbd ⊢
 iterate 10 refine aJ ?_
 refine dn ?_ ?_
 ·refine bn ⟨_,_,_,_,_,_⟩ rfl mRf 54 _ _ mRf [JO JP ((a:Nat):Int)] mRf call54 (ft a _ mOm) ?_;rintro r w1 ⟨rfl,hb1⟩;replace hS:=LN.of_cells (e:=e) hS hb1
  (try replace hB:=(hb1.block _ (ay hB)).trans hB)
  refine ⟨_,rfl,hS,?_⟩;clear hb1;refine ar ?_;refine aJ ?_;refine dn ?_ ?_
  ·refine bn ⟨_,_,_,_,_,_⟩ rfl mRf 54 _ _ mRf [JO JP ((b:Nat):Int)] mRf call54 (ft b _ mOm) ?_;rintro r w1 ⟨rfl,hb1⟩;replace hS:=LN.of_cells (e:=e) hS hb1
   (try replace hB:=(hb1.block _ (ay hB)).trans hB)
   refine ⟨_,rfl,hS,?_⟩;clear hb1;refine ar ?_
   iterate 2 refine aJ ?_
   refine dn ?_ ?_
   ·refine bn ⟨_,_,_,_,_,_⟩ rfl mRf 54 _ _ mRf [JO JP ((c:Nat):Int)] mRf call54 (ft c _ mOm) ?_;rintro r w1 ⟨rfl,hb1⟩;replace hS:=LN.of_cells (e:=e) hS hb1
    (try replace hB:=(hb1.block _ (ay hB)).trans hB)
    refine ⟨_,rfl,hS,?_⟩;clear hb1;refine ar ?_
    iterate 2 refine aJ ?_
    refine aZ (bR ⟨_,_,_,_,_,_⟩ (JR (JV ⟨w1.heap.size,0,JW⟩) 1 1) (w1.alloc (JU #[JO .u8 (48+e.kind)] 5)) rfl mRf ?_ ?_)
    ·go_simp
    refine QE ?_;intro hB hS
    generalize w1.heap.size=nb at hB ⊢;generalize w1.alloc (JU #[JO .u8 (48+e.kind)] 5)=w2 at hB hS ⊢;obtain ⟨w1,rfl⟩:∃ w,w=w2:=⟨_,rfl⟩;refine ar ?_;exact Ju
   ·refine bR ⟨_,_,_,_,_,_⟩ (JR (JV ⟨w1.heap.size,0,JW⟩) 1 1) (w1.alloc (JU #[JO .u8 (48+e.kind)] 5)) rfl mRf ?_ ?_
    ·go_simp
    refine QE ?_;intro hB hS
    generalize w1.heap.size=nb at hB ⊢;generalize w1.alloc (JU #[JO .u8 (48+e.kind)] 5)=w2 at hB hS ⊢;obtain ⟨w1,rfl⟩:∃ w,w=w2:=⟨_,rfl⟩;refine ar ?_;refine dn ?_ ?_
    ·refine bn ⟨_,_,_,_,_,_⟩ rfl mRf 54 _ _ mRf [JO JP ((c:Nat):Int)] mRf call54 (ft c _ mOm) ?_;rintro r w1 ⟨rfl,hb1⟩;replace hS:=LN.of_cells (e:=e) hS hb1
     (try replace hB:=(hb1.block _ (ay hB)).trans hB)
     refine ⟨_,rfl,hS,?_⟩;clear hb1;refine ar ?_
     iterate 2 refine aJ ?_
     exact Ju
    ·refine bR ⟨_,_,_,_,_,_⟩ (JQ ⟨#[UInt8.ofNat (48+e.kind).toNat]⟩) w1 rfl mRf ?_ ?_
     ·have hcv:=kT w1 nb _ (ae hB 0)
      go_simp
     refine ⟨hS,?_⟩
     refine ar ?_;exact Jo
  ·refine bR ⟨_,_,_,_,_,_⟩ (JR (JV ⟨w1.heap.size,0,JW⟩) 1 1) (w1.alloc (JU #[JO .u8 (48+e.kind)] 5)) rfl mRf ?_ ?_
   ·go_simp
   refine QE ?_;intro hB hS
   generalize w1.heap.size=nb at hB ⊢;generalize w1.alloc (JU #[JO .u8 (48+e.kind)] 5)=w2 at hB hS ⊢;obtain ⟨w1,rfl⟩:∃ w,w=w2:=⟨_,rfl⟩;refine ar ?_;exact Js
 ·refine bR ⟨_,_,_,_,_,_⟩ (JR (JV ⟨w1.heap.size,0,JW⟩) 1 1) (w1.alloc (JU #[JO .u8 (48+e.kind)] 5)) rfl mRf ?_ ?_
  ·go_simp
  refine QE ?_;intro hB hS
  generalize w1.heap.size=nb at hB ⊢;generalize w1.alloc (JU #[JO .u8 (48+e.kind)] 5)=w2 at hB hS ⊢;obtain ⟨w1,rfl⟩:∃ w,w=w2:=⟨_,rfl⟩;refine ar ?_;refine dn ?_ ?_
  ·refine bn ⟨_,_,_,_,_,_⟩ rfl mRf 54 _ _ mRf [JO JP ((a:Nat):Int)] mRf call54 (ft a _ mOm) ?_;rintro r w1 ⟨rfl,hb1⟩;replace hS:=LN.of_cells (e:=e) hS hb1
   (try replace hB:=(hb1.block _ (ay hB)).trans hB)
   refine ⟨_,rfl,hS,?_⟩;clear hb1;refine ar ?_;refine aJ ?_;exact Js
  ·refine bR ⟨_,_,_,_,_,_⟩ (JQ ⟨#[UInt8.ofNat (48+e.kind).toNat]⟩) w1 rfl mRf ?_ ?_
   ·have hcv:=kT w1 nb _ (ae hB 0)
    go_simp
   refine ⟨hS,?_⟩
   refine ar ?_;refine aZ (bn ⟨_,_,_,_,_,_⟩ rfl mRf 54 _ _ mRf [JO JP ((a:Nat):Int)] mRf call54 (ft a _ mOm) ?_);rintro r w1 ⟨rfl,hb1⟩;replace hS:=LN.of_cells (e:=e) hS hb1
   (try replace hB:=(hb1.block _ (ay hB)).trans hB)
   refine ⟨_,rfl,hS,?_⟩;clear hb1;refine ar ?_;refine aJ ?_;refine K4 ?_;intro w1 hb1 hS
   (try replace hB:=(hb1.block _ (ay hB)).trans hB)
   refine ⟨_,rfl,hS,?_⟩;clear hb1;refine ar ?_
   iterate 2 refine aJ ?_
   exact Jo
theorem mI (e:Ent) (h:e.Ok) (w:World) :
  Calls prog 21 #[e.val] w fun x w'=>x=JT (JQ ⟨(fk e).toArray⟩)∧ac w.heap.size w w':=by
 have hC:=fun w=>rv e h w
 have hcell:=fun w1 (hb:ac (w.alloc (JU e.cells 67)).heap.size (w.alloc (JU e.cells 67)) w1)=>(LN.new w e).below hb
 by_cases h0:dr e=0
 ·have hr:fk e=fJ e:=by unfold fk;rw [if_pos h0]
  obtain ⟨s,o,i,k,h1,h2,h3,h4,b1,b2,b3,b4,b5⟩:=wM h0;have hk9:1≤e.kind∧e.kind≤9:=mOm;have H:=aa hr;have H1:=aa h1;have H2:=aa h2;have H3:=aa h3;rw [h0] at hC;clear hr h0 h1 h2 h3 h4;go_enter func21,ntmps21;go_wp2_with fail;refine (hC _).mono ?_;rintro r w1 ⟨rfl,hb1⟩;have hx:=hcell w1 hb1;have hbe:ac w.heap.size w w1:=(au w _).trans (hb1.mono mSi);clear hb1;go_wp2_with fail;refine D5 w.heap.size s o i e _ _ hx H1.out H2.out H3.out b1 b2 b3 hk9 ?_;rintro u6 u7 u8 u9 a0 a1 a2 a3 a4 a5 a6 a7 a8 a9 ab ad af ag ao b0 b6 st wx rfl hb2;go_wp2_with fail;go_ret;exact ⟨cJ (by rw [H.out]),hbe.trans (hb2.mono hbe.size)⟩
 ·have hr:fk e=[]:=by unfold fk;rw [if_neg h0]
  have hne:(dr e != 0)=true:=by simpa using h0
  have H:=aa hr;clear hr h0;go_enter func21,ntmps21;go_wp2_with fail;refine (hC _).mono ?_;rintro r w1 ⟨rfl,hb1⟩;have hbe:ac w.heap.size w w1:=(au w _).trans (hb1.mono mSi);go_wp2_with fail;go_ret;exact ⟨cJ (by rw [H.out]),hbe⟩
end
section
open Go Go.RowKit Go.Sort Go.Lib
attribute [local go_sem] Ent.cells
def mf (l:List LU) (sc id:Int) (e:Ent):Ent×Int:=
 if dr e ≠ 0 then (entZ,dr e) else if e.school ≠ sc then (entZ,22) else
 if (dU l sc id ⟨({ e with key:=id }:Ent).body.toArray⟩).2 ≠ 0 then (entZ,(dU l sc id ⟨({ e with key:=id }:Ent).body.toArray⟩).2)
 else ({ e with key:=id,mark:=(dU l sc id ⟨({ e with key:=id }:Ent).body.toArray⟩).1 },0)
theorem F6 (l:List LU) (sc id:Int) (e:Ent):mf l sc id e=(if dr e ≠ 0 then (entZ,dr e) else if e.school ≠ sc then (entZ,22) else
 if (dU l sc id ⟨({ e with key:=id }:Ent).body.toArray⟩).2 ≠ 0 then (entZ,(dU l sc id ⟨({ e with key:=id }:Ent).body.toArray⟩).2)
 else ({ e with key:=id,mark:=(dU l sc id ⟨({ e with key:=id }:Ent).body.toArray⟩).1 },0)):=rfl
def Gq (l:List LU) (sc id:Int) (e:Ent):Value:=.tuple #[(mf l sc id e).1.val,JO JP (mf l sc id e).2]
theorem Cf (l:List LU) (sc id:Int) (t:ByteArray):∃ m n,dU l sc id t=(m,n)∧(n=0∨n=5):=by
 unfold dU
 split <;> exact ⟨_,_,rfl,mSi⟩
theorem qu {W w w':World} {eb kb:Nat} {e:Ent} {u v:Value} (h:ac W.heap.size W w∧(∀ j,w.cell? ⟨eb,j,JW⟩=e.cells[j]?)∧w.cell? ⟨kb,0,JW⟩=JV u∧w.cell? ⟨kb,1,JW⟩=JV v) (hb:ac w.heap.size w w') :
  ac W.heap.size W w'∧(∀ j,w'.cell? ⟨eb,j,JW⟩=e.cells[j]?)∧w'.cell? ⟨kb,0,JW⟩=JV u∧w'.cell? ⟨kb,1,JW⟩=JV v:=by
 have h0:w.cell? ⟨eb,0,JW⟩=JV (JO JP e.id):=h.2.1 0;have hlt:eb < w.heap.size:=am w _ h0;exact ⟨h.1.trans (hb.mono h.1.size),fun j=>(hb.cell (p:=⟨eb,j,JW⟩) hlt).trans (h.2.1 j),(hb.cell (am w _ h.2.2.1)).trans h.2.2.1,(hb.cell (am w _ h.2.2.2)).trans h.2.2.2⟩
end
section
open Go Go.RowKit Go.Sort Go.Lib
attribute [local go_sem] Ent.cells
theorem oJ {p:Prop} (h:p:=by
 (try simp only [Exit.inBlock,Exit.then]);refine bodyPost_ret (jz results81 _ _ (w.heap.size+1+1) entZ rfl (fl hzb _)) rfl ⟨?_,?_⟩
 ·rw [HV.out,HE1.out];rfl
 ·exact aQ hbw mOm _):p:=h
theorem La {p q:Prop} (h:q) (f:Wq q→p:=by
 intro hq;have hS0:ac W.heap.size W W.drew∧(∀ j,W.drew.cell? ⟨w.heap.size+1,j,JW⟩=e1.cells[j]?)∧W.drew.cell? ⟨w.heap.size,0,JW⟩=JV (JO JP sc)∧W.drew.cell? ⟨w.heap.size,1,JW⟩=JV (JR (JV ⟨g,0,JW⟩) l.length c):=⟨(Below.refl _ _).drew,heb2.cell,ae hrb2 0,ae hrb2 1⟩;refine Jy (S:=fun w'=>ac W.heap.size W w'∧(∀ j,w'.cell? ⟨w.heap.size+1,j,JW⟩=e1.cells[j]?)∧w'.cell? ⟨w.heap.size,0,JW⟩=JV (JO JP sc)∧w'.cell? ⟨w.heap.size,1,JW⟩=JV (JR (JV ⟨g,0,JW⟩) l.length c)) [(0,true),(1,true),(2,true),(3,false),(4,false),(5,true),(6,true),(7,true),(8,true),(9,true)] hS0 ?_;have hS:=hS0
 iterate 2 refine aj ?_
 refine nF ⟨_,_,_,_,_,_⟩ e1 (w.heap.size+1) rfl mRf _ mRf mRf (fun w hS=>hS.2.1) ?_;refine ar ?_
 revert hS0 hS
 exact hq.1):p:=f ⟨h⟩
theorem Q4 {p q:Prop} (h:q) (f:Wq q→p:=by
 intro hq;refine hC.mono ?_;rintro x w1 ⟨rfl,hb1⟩;have hbw:=hb0.trans (hb1.mono hb0.size);have hzb:LN w1 (w.heap.size+1+1) entZ:=(hb1.block _ (ay hz0)).trans hz0
 revert w1 hb1 hbw hzb
 exact hq.1):p:=f ⟨h⟩
theorem Rc {p q:Prop} (h:q) (f:Wq q→p:=by
 intro hq;have hzb2:=hzb.far2 (b':=w.heap.size+1) mOm 13 (JO JP id);have heb2:=heb.set 13 (JO JP id) hset.out;have hbw2:=hbw.setCell (p:=⟨w.heap.size+1,13,JW⟩) (by show w.heap.size≤w.heap.size+1;omega) (JO JP id);have hrb2:=(Below.heap_setCell w1 ⟨w.heap.size+1,13,JW⟩ (JO JP id) w.heap.size (by show w.heap.size ≠ w.heap.size+1;omega)).trans hrb
 revert hzb2 heb2 hbw2 hrb2
 exact hq.1):p:=f ⟨h⟩
theorem Lv {p q:Prop} (h:q) (f:Wq q→p:=by
 intro hq;have heb:LN w1 (w.heap.size+1) e:=(hb1.block _ (ay he0)).trans he0;have hrb:=(hb1.block _ (ay hr0)).trans hr0;have hc1:=heb.cell 1;have hc2:=ae hrb 0;have hc3:=ae hrb 1;have hT1:=hT.below hbw;have hk1:=hk.below hbw hg
 revert heb hrb hc1 hc2 hc3 hT1 hk1
 exact hq.1):p:=f ⟨h⟩
theorem zY (g c:Nat) (sc:Int) (l:List LU) (id:Int) (e:Ent) (w:World) (hl:l.length≤1000) (hk:LV w g l) (hsz:∀ k∈l,k.secret.size≤100000) (hg:g < w.heap.size) (hs:I64 sc) (hi:I64 id) (he:e.Ok) (hT:Tabs w) :
  Calls prog 81 #[.agg #[JO JP sc,JR (JV ⟨g,0,JW⟩) l.length c],JO JP id,e.val] w
   fun x w'=>x=JT (Gq l sc id e)∧ac w.heap.size w w':=by
 obtain ⟨hb0,hr0,he0,hz0⟩:=rL (w:=w) (JU #[JO JP sc,JR (JV ⟨g,0,JW⟩) l.length c] 33) (JU e.cells 67) (JU entZ.cells 67);have hC:=rv e he (((w.alloc (JU #[JO JP sc,JR (JV ⟨g,0,JW⟩) l.length c] 33)).alloc (JU e.cells 67)).alloc (JU entZ.cells 67));have HV:=aa (show Gq l sc id e=.tuple #[(mf l sc id e).1.val,JO JP (mf l sc id e).2] from rfl);have HE:=aa (F6 l sc id e);by_cases hc:dr e=0
 rotate_left 1
 ·have HE1:=aa (HE.out.trans (if_pos hc));have hcb:(dr e != 0)=true:=by simpa using hc
  clear HE hc;generalize dr e=cv at *;go_enter func81,ntmps81;go_wp2_with fail;refine Q4 ?_;intro w1 hb1 hbw hzb;clear hC hr0 he0 hz0 hb1;go_wp2_with ((with_reducible refine wpList_store_row (o:=⟨JW,.store 67 (.tmp 6) (.tmp 14),_,_,_,_⟩) ?_ 67 (.tmp 6) (.tmp 14) ?_ (w.heap.size+1+1) (Ent.cells entZ) ?_ ?_ 67 (Ent.cells entZ) ?_ ?_ ?_ ?_ ?_);rfl;rfl;rfl;rfl;exact hzb;kernel_rfl;rfl;simp [Ent.cells,entZ,Value.oneCell']);exact oJ
 rw [hc] at hC
 by_cases hq:e.school=sc
 rotate_left 1
 ·have HE1:=aa ((HE.out.trans (if_neg (by simp [hc]))).trans (if_pos hq));have hqb:(e.school != sc)=true:=by simpa using hq
  have hcb:(dr e != 0)=false:=by simpa using hc
  clear HE hc hq;go_enter func81,ntmps81;go_wp2_with fail;refine Q4 ?_;intro w1 hb1 hbw hzb;have hc1:=ae ((hb1.block _ (ay he0)).trans he0) 1;have hc2:=ae ((hb1.block _ (ay hr0)).trans hr0) 0;clear hC hr0 he0 hz0 hb1;go_wp2_with ((with_reducible refine wpList_store_row (o:=⟨JW,.store 67 (.tmp 6) (.tmp 21),_,_,_,_⟩) ?_ 67 (.tmp 6) (.tmp 21) ?_ (w.heap.size+1+1) (Ent.cells entZ) ?_ ?_ 67 (Ent.cells entZ) ?_ ?_ ?_ ?_ ?_);rfl;rfl;rfl;rfl;exact hzb;kernel_rfl;rfl;simp [Ent.cells,entZ,Value.oneCell']);exact oJ
 have HE1:=aa ((HE.out.trans (if_neg (by simp [hc]))).trans (if_neg (by simp [hq])))
 have hok:({ e with key:=id }:Ent).Ok:=⟨he.id,he.school,he.student,he.kind,he.day,he.on,he.credits,he.grade,he.ref,he.fro,he.programme,he.version,hi,he.course,he.mark⟩;have hB:=fun w (_:Tabs w)=>pq { e with key:=id } hok w
 have hbl:=lR { e with key:=id } hok;have hcs:=he.course;have hK:=fun w hk hg (_:Tabs w)=>pP g c sc l id ⟨({ e with key:=id }:Ent).body.toArray⟩ w hl hk hsz hg hs hi (by show ({ e with key:=id }:Ent).body.length≤_;have:=hbl;simp only at this;omega)
 generalize hbd:(⟨({ e with key:=id }:Ent).body.toArray⟩:ByteArray)=bd at HE1 hB hK;obtain ⟨m,n,hmn,hn⟩:=Cf l sc id bd;rw [hmn] at HE1 hK;have hqb:(e.school != sc)=false:=by simpa using hq
 clear HE hbl hcs hbd hmn;generalize hk1:({ e with key:=id }:Ent)=e1 at hB hok HE1;have hset:Hid (e.cells.setIfInBounds 13 (.int .i64 id)=e1.cells):=aa (by rw [← hk1];rfl);have hset2:Hid (e1.cells.setIfInBounds 14 (.string m)=({ e with key:=id,mark:=m }:Ent).cells):=aa (by rw [← hk1];rfl);have HE2:=aa (show mf l sc id e=(if (n:Int) ≠ 0 then (entZ,n) else ({ e with key:=id,mark:=m },0)) from HE1.out);generalize ({ e with key:=id,mark:=m }:Ent)=e2 at hset2 HE2;clear hc HE1 hk1 hq;rcases hn with rfl | rfl
 ·replace HE2:=aa (HE2.out.trans (if_neg mDe));go_enter func81,ntmps81;go_wp2_with fail;refine Q4 ?_;intro w1 hb1 hbw hzb;refine Lv ?_;intro heb hrb hc1 hc2 hc3 hT1 hk1;have hg1:g < w1.heap.size:=by have:=hbw.size;omega
  have hfr:=heb.frozen 13;have hc13:w1.cell? ⟨w.heap.size+1,13,JW⟩=JV (JO JP e.key):=heb.cell 13;clear hC hr0 he0 hz0 hb1 hb0;go_wp2_with fail;refine Rc ?_;intro hzb2 heb2 hbw2 hrb2;clear hzb heb hc1 hc2 hc3 hrb hfr hT1 hk1 hg1 hc13;generalize w1.setCell ⟨w.heap.size+1,13,JW⟩ (JO JP id)=W at *;have hTW:=hT.below hbw2;have hkW:=hk.below hbw2 hg;have hgW:g < W.heap.size:=by have:=hbw2.size;omega
  refine La ?_;intro hS0 hS;refine aH 23 call23 (hB _ (hTW.below hS.1)) ?_;rintro x wn ⟨rfl,hb⟩;replace hS:=qu hS hb;refine ⟨_,rfl,hS,?_⟩;(try clear hb);refine ar ?_;refine aH 129 call129 (hK _ (hkW.below hS.1 hgW) (by have:=hS.1.size;omega) (hTW.below hS.1)) ?_;rintro x wn ⟨rfl,hb⟩;replace hS:=qu hS hb;refine ⟨_,rfl,hS,?_⟩;(try clear hb);refine ar ?_
  iterate 5 refine aj ?_
  simp only [aO,bj];have hbw3:=hbw2.trans (hS.1.mono hbw2.size);have hzb:=hzb2.below hS.1;have heb3:=heb2.below hS.1;clear hS hS0 hkW hTW hrb2 hzb2 heb2 hB hK hk;have hfr:=heb3.frozen 14;have hc14:wn.cell? ⟨w.heap.size+1,14,JW⟩=JV (JQ e1.mark):=heb3.cell 14;have hat:=(heb3.set 14 (JQ m) hset2.out).at_;replace hzb:=hzb.far2 (b':=w.heap.size+1) mOm 14 (JQ m);have hbw4:=hbw3.setCell (p:=⟨w.heap.size+1,14,JW⟩) (by show w.heap.size≤w.heap.size+1;omega) (JQ m);clear hbw hbw2 hbw3 heb3 hset2 hset
  go_wp2_with (first
   | ((with_reducible refine wpList_load_mid (op:=⟨_,_,_,_,_,_⟩) ?_ 67 (.tmp 5) ?_ (w.heap.size+1) 0 ?_ (Ent.cells e2).toList _ ?_ underlying67 ?_ ?_ ?_);rfl;rfl;rfl;exact hat;rfl;kernel_rfl)
   | ((with_reducible refine wpList_store_row (o:=⟨none,.store 67 (.tmp 6) (.tmp 38),_,_,_,_⟩) ?_ 67 (.tmp 6) (.tmp 38) ?_ (w.heap.size+1+1) (Ent.cells e2) ?_ ?_ 67 (Ent.cells entZ) ?_ ?_ ?_ ?_ ?_);rfl;rfl;rfl;rfl;exact hzb;kernel_rfl;rfl;simp [Ent.cells,Value.oneCell']))
  (try simp only [Exit.inBlock,Exit.then]);refine bodyPost_ret (jz results81 _ _ (w.heap.size+1+1) e2 rfl (fl hzb _)) rfl ⟨?_,?_⟩
  ·rw [HV.out,HE2.out];rfl
  ·exact aQ hbw4 mOm _
 ·replace HE2:=aa (HE2.out.trans (if_pos mDe));go_enter func81,ntmps81;go_wp2_with fail;refine Q4 ?_;intro w1 hb1 hbw hzb;refine Lv ?_;intro heb hrb hc1 hc2 hc3 hT1 hk1;have hg1:g < w1.heap.size:=by have:=hbw.size;omega
  have hfr:=heb.frozen 13;have hc13:w1.cell? ⟨w.heap.size+1,13,JW⟩=JV (JO JP e.key):=heb.cell 13;clear hC hr0 he0 hz0 hb1 hb0;go_wp2_with fail;refine Rc ?_;intro hzb2 heb2 hbw2 hrb2;clear hzb heb hc1 hc2 hc3 hrb hfr hT1 hk1 hg1 hc13;generalize w1.setCell ⟨w.heap.size+1,13,JW⟩ (JO JP id)=W at *;have hTW:=hT.below hbw2;have hkW:=hk.below hbw2 hg;have hgW:g < W.heap.size:=by have:=hbw2.size;omega
  refine La ?_;intro hS0 hS;refine aH 23 call23 (hB _ (hTW.below hS.1)) ?_;rintro x wn ⟨rfl,hb⟩;replace hS:=qu hS hb;refine ⟨_,rfl,hS,?_⟩;(try clear hb);refine ar ?_;refine aH 129 call129 (hK _ (hkW.below hS.1 hgW) (by have:=hS.1.size;omega) (hTW.below hS.1)) ?_;rintro x wn ⟨rfl,hb⟩;replace hS:=qu hS hb;refine ⟨_,rfl,hS,?_⟩;(try clear hb);refine ar ?_
  iterate 5 refine aj ?_
  simp only [aO,bj];have hbw3:=hbw2.trans (hS.1.mono hbw2.size);have hzb:=hzb2.below hS.1;have heb3:=heb2.below hS.1;clear hS hS0 hkW hTW hrb2 hzb2 heb2 hB hK hk;go_wp2_with ((with_reducible refine wpList_store_row (o:=⟨JW,.store 67 (.tmp 6) (.tmp 34),_,_,_,_⟩) ?_ 67 (.tmp 6) (.tmp 34) ?_ (w.heap.size+1+1) (Ent.cells entZ) ?_ ?_ 67 (Ent.cells entZ) ?_ ?_ ?_ ?_ ?_);rfl;rfl;rfl;rfl;exact hzb;kernel_rfl;rfl;simp [Ent.cells,entZ,Value.oneCell'])
  (try simp only [Exit.inBlock,Exit.then]);refine bodyPost_ret (jz results81 _ _ (w.heap.size+1+1) entZ rfl (fl hzb _)) rfl ⟨?_,?_⟩
  ·rw [HV.out,HE2.out];rfl
  ·exact aQ hbw3 mOm _
end
section
open Go Go.ChangeShapes Go.WideShapes Go.ChangeAt Go.WideElems Go.RowKit Go.Lib
theorem CW:laidOutB prog=true:=mKr
theorem own:ownKnob prog.godebug=JW:=mKr
section
variable {H:Type} {enc:TypeId×Value→H} {P:Program}
theorem qJ (hl:laidOutB P=true) {W W':World} {sp':Nat→Bool}:∀ {ts:List TypeId} {vs:List Value} {ds:List (DataW H)} {ps:List MemPlace},
  (∀ t∈ts,P.readableRec t=true∧t < P.types.size)→DataW.TrodAll enc P W 0 (fun _=>true) true ts vs ds ps→(∀ p∈ps,W.sameAt W' p)→(∀ p∈ps,sp' p.block=true)→DataW.TrodAll enc P W' 0 sp' true ts vs ds ps
 | [],[],[],_,_,h,_,_=>h
 | [],[],_::_,_,_,h,_,_=>h.elim
 | [],_::_,_,_,_,h,_,_=>h.elim
 | _::_,[],_,_,_,h,_,_=>h.elim
 | _::_,_::_,[],_,_,h,_,_=>h.elim
 | t::ts,v::vs,d::ds,ps,ht,h,h1,h2=>by
  obtain ⟨p,q,hp,hq,rfl⟩:=h
  exact ⟨p,q,Trod_stays hl (ht t mSi).1 (ht t mSi).2 hp (fun x hx=>h1 x (by simp [hx])) (fun x hx=>h2 x (by simp [hx])),
   qJ hl (fun u hu=>ht u (by simp [hu])) hq (fun x hx=>h1 x (by simp [hx])) (fun x hx=>h2 x (by simp [hx])),rfl⟩
theorem Fv {f:Func} {s:ChangeSpec} {W W':World} {args:Array Value} {ds:List (DataW H)} {p:List MemPlace} {tb:TypeId} (hl:laidOutB P=true)
  (hts:∀ t∈f.params.toList,P.readableRec t=true∧t < P.types.size) (hv:s.vars=[]) (hr:f.resultTypes=#[tb]) (hb:P.underlying tb=JV .bool)
  (hf:s.fn H (ds++[])={ results:=[.lit (.bool true)],args:=ds })
  (hW:DataW.Whole enc P f.params.toList s.vars false W args.toList ds [] p) (hA:DataW.TrodAll enc P W 0 (fun _=>true) true f.params.toList args.toList ds p) (hbe:Below W.heap.size W W') :
  s.post enc P f false true false false W args (.bool true) W':=by
 have hlt:∀ x∈p,x.block < W.heap.size:=fun x hx=>hW.lt x hx
 have hsame:∀ x∈p,W.sameAt W' x:=fun x hx=>hbe.same (hlt x hx)
 have hargs:∀ sp:Nat→Bool,(∀ x∈p,sp x.block=true)→DataW.TrodAll enc P W' 0 sp true f.params.toList args.toList (s.fn H (ds++[])).args p:=fun sp h=>by
  rw [hf];exact qJ hl hts hA hsame h
 have hvars:∀ sp:Nat→Bool,DataW.TrodVars enc P W' sp s.vars (s.fn H (ds++[])).vars []:=fun sp=>by
  rw [hf,hv];rfl
 have hold:∀ x∈p,(fun b=>decide (b < W.heap.size)) x.block=true:=fun x hx=>by simpa using hlt x hx
 have hres:∀ (b:Nat) (sp:Nat→Bool) (hd:Bool),DataW.TrodAll enc P W' b sp hd f.resultTypes.toList ((Value.bool true).resultList f.resultTypes.size) (s.fn H (ds++[])).results []:=fun b sp hd=>by
  rw [hf,hr];exact trodAll_mk1 (shut_bool hb true)
 refine ⟨ds,[],p,[],p,[],hW,hres _ _ _,hargs _ hold,hvars _,World.keptBut_mono (fun x hx=>⟨hx,?_⟩) (hbe.frame (·∈p)),fun _=>?_⟩
 ·simpa using hx
 ·obtain ⟨_,_,_,_,_,hz,hn⟩:=hW;refine ⟨ok_one hr rfl (okWide_bool_mk hb _),_,_,([]++p)++[],⟨[]++p,[],trodAll_append (hargs _ (fun _ _=>rfl)) (hres _ _ _),hvars _,rfl,?_,?_⟩,?_⟩
  ·intro b off hp;have hin:MemPlace.cell b off∈p:=by simpa using hp
   rw [hbe.frozen (hlt _ hin)];exact hz b off hin
  ·intro ha;simpa using hn ha
  ·intro x hx _;simpa using hx
end
section
variable {P:Program} {w:World} {r:Reach} {b0:Nat} {t:TypeId}
theorem mV {k:IntKind} {v:Value} (ht:P.underlying t=JV (.int k)) (h:Cell.okWide P w r b0 t v):∃ n,v=.int k n∧k.has n:=by
 unfold Cell.okWide at h;rw [ht] at h;unfold Cell.ok at h;rw [ht] at h
 cases v <;> simp_all
end
