/- Lemmas. -/
import Derived.Test.YtnlhbdmeodbblaaGreatDoorMtag
set_option maxRecDepth 100000
set_option maxHeartbeats 16000000
set_option linter.all false
open Go.Proofs.Tryz
open Go.RowKit renaming Below->ac
open Go.Ending renaming returned->Oe
open Go.IntKind renaming i64->Oa
open Go.Value renaming int->N9
namespace Go.Proofs.YtnlhbdmeodbblaaGreatDoor
section
open Go Go.RowKit Go.Sort Go.Lib
attribute [local go_sem] Ent.cells
theorem jC(n lo hi:Int):cQ n lo hi = !au n lo hi:=by
 unfold cQ au;by_cases h1:lo<=n <;> by_cases h2:n<=hi <;> simp[h1,h2] <;> omega
theorem dY{p:Prop}(h:p:=by (refine Lib.hid ?_;rw[hk];(first|rw[show da 1=32 from rfl]|rw[show da 2=96 from rfl]|rw[show da 3=7 from rfl]|rw[show da 4=12 from rfl]|rw[show da 5=8 from rfl]|rw[show da 6=8 from rfl]|rw[show da 7=16 from rfl]|rw[show da 8=32 from rfl]|rw[show da 9=8 from rfl]);unfold aY;simp only[show(bits .and .i64 32 1 != 0)=false from by decide,show(bits .and .i64 32 2 != 0)=false from by decide,show(bits .and .i64 32 4 != 0)=false from by decide,show(bits .and .i64 32 8 != 0)=false from by decide,show(bits .and .i64 32 16 != 0)=false from by decide,show(bits .and .i64 32 32 != 0)=true from by decide,show(bits .and .i64 32 64 != 0)=false from by decide,show(bits .and .i64 96 1 != 0)=false from by decide,show(bits .and .i64 96 2 != 0)=false from by decide,show(bits .and .i64 96 4 != 0)=false from by decide,show(bits .and .i64 96 8 != 0)=false from by decide,show(bits .and .i64 96 16 != 0)=false from by decide,show(bits .and .i64 96 32 != 0)=true from by decide,show(bits .and .i64 96 64 != 0)=true from by decide,show(bits .and .i64 7 1 != 0)=true from by decide,show(bits .and .i64 7 2 != 0)=true from by decide,show(bits .and .i64 7 4 != 0)=true from by decide,show(bits .and .i64 7 8 != 0)=false from by decide,show(bits .and .i64 7 16 != 0)=false from by decide,show(bits .and .i64 7 32 != 0)=false from by decide,show(bits .and .i64 7 64 != 0)=false from by decide,show(bits .and .i64 12 1 != 0)=false from by decide,show(bits .and .i64 12 2 != 0)=false from by decide,show(bits .and .i64 12 4 != 0)=true from by decide,show(bits .and .i64 12 8 != 0)=true from by decide,show(bits .and .i64 12 16 != 0)=false from by decide,show(bits .and .i64 12 32 != 0)=false from by decide,show(bits .and .i64 12 64 != 0)=false from by decide,show(bits .and .i64 8 1 != 0)=false from by decide,show(bits .and .i64 8 2 != 0)=false from by decide,show(bits .and .i64 8 4 != 0)=false from by decide,show(bits .and .i64 8 8 != 0)=true from by decide,show(bits .and .i64 8 16 != 0)=false from by decide,show(bits .and .i64 8 32 != 0)=false from by decide,show(bits .and .i64 8 64 != 0)=false from by decide,show(bits .and .i64 16 1 != 0)=false from by decide,show(bits .and .i64 16 2 != 0)=false from by decide,show(bits .and .i64 16 4 != 0)=false from by decide,show(bits .and .i64 16 8 != 0)=false from by decide,show(bits .and .i64 16 16 != 0)=true from by decide,show(bits .and .i64 16 32 != 0)=false from by decide,show(bits .and .i64 16 64 != 0)=false from by decide,jC, *];(try simp))):p:=h
theorem dn{p:Prop} (h:p:=by
  have HK:=Lib.hid hk;clear hk;go_enter func117,ntmps117
  go_upto_region 0 with fail
  go_upto_region 1 with fail
  have hx:=aM.new w e;have ck:=hx.cell 3;rw[show e.cells[3]? = some (.int .i64 e.kind) from rfl,HK.out] at ck;have c0:(w.alloc (.cells e.cells 67)).cell? ⟨w.heap.size,0,none⟩=some (.int .i64 e.id):=hx.cell 0;have c1:(w.alloc (.cells e.cells 67)).cell? ⟨w.heap.size,1,none⟩=some (.int .i64 e.school):=hx.cell 1;have c6:(w.alloc (.cells e.cells 67)).cell? ⟨w.heap.size,6,none⟩=some (.string e.course):=hx.cell 6;have c7:(w.alloc (.cells e.cells 67)).cell? ⟨w.heap.size,7,none⟩=some (.int .i64 e.credits):=hx.cell 7;have c8:(w.alloc (.cells e.cells 67)).cell? ⟨w.heap.size,8,none⟩=some (.int .i64 e.grade):=hx.cell 8;have c9:(w.alloc (.cells e.cells 67)).cell? ⟨w.heap.size,9,none⟩=some (.int .i64 e.ref):=hx.cell 9;have c10:(w.alloc (.cells e.cells 67)).cell? ⟨w.heap.size,10,none⟩=some (.int .i64 e.fro):=hx.cell 10;have c11:(w.alloc (.cells e.cells 67)).cell? ⟨w.heap.size,11,none⟩=some (.int .i64 e.programme):=hx.cell 11;have c12:(w.alloc (.cells e.cells 67)).cell? ⟨w.heap.size,12,none⟩=some (.int .i64 e.version):=hx.cell 12;have hb:=aq w (.cells e.cells 67);unfold Ent.cells at ck c0 c1 c6 c7 c8 c9 c10 c11 c12 hb;generalize w.alloc _=W at ck c0 c1 c6 c7 c8 c9 c10 c11 c12 hb |-;clear hx;go_wp2_with (first|(go_at_call 180;refine(Ef e.course _ (Nat.le_trans hc mDe)).mono ?_;rintro r w1⟨rfl,rfl⟩)|(go_at_call 115;refine(iq _ _ _ _).mono ?_;rintro r w1⟨rfl,rfl⟩));go_ret
  exact⟨aL H.out.symm,hb⟩):p:=h
theorem Fz(e:Ent)(w:World)(hc:e.course.size<=1000000)(hk:e.kind=1)(h0:decide (e.programme<1)=true) :
  Calls prog 117 #[e.val] w fun x w'=>x=Oe (N9 Oa (aY (da e.kind) e 0))/\ac w.heap.size w w':=by
 have H:Hid (aY (da e.kind) e 0=3):=dY;exact dn
theorem FA(e:Ent)(w:World)(hc:e.course.size<=1000000)(hk:e.kind=1)(h0:decide (e.programme<1)=false) :
  Calls prog 117 #[e.val] w fun x w'=>x=Oe (N9 Oa (aY (da e.kind) e 0))/\ac w.heap.size w w':=by
 have H:Hid (aY (da e.kind) e 0=0):=dY;exact dn
theorem FB(e:Ent)(w:World)(hc:e.course.size<=1000000)(hk:e.kind=2)(h0:decide (e.programme<1)=true) :
  Calls prog 117 #[e.val] w fun x w'=>x=Oe (N9 Oa (aY (da e.kind) e 0))/\ac w.heap.size w w':=by
 have H:Hid (aY (da e.kind) e 0=3):=dY;exact dn
theorem FC(e:Ent)(w:World)(hc:e.course.size<=1000000)(hk:e.kind=2)(h0:decide (e.programme<1)=false)(h1:decide (e.version<1)=true) :
  Calls prog 117 #[e.val] w fun x w'=>x=Oe (N9 Oa (aY (da e.kind) e 0))/\ac w.heap.size w w':=by
 have H:Hid (aY (da e.kind) e 0=3):=dY;exact dn
theorem FD(e:Ent)(w:World)(hc:e.course.size<=1000000)(hk:e.kind=2)(h0:decide (e.programme<1)=false)(h1:decide (e.version<1)=false) :
  Calls prog 117 #[e.val] w fun x w'=>x=Oe (N9 Oa (aY (da e.kind) e 0))/\ac w.heap.size w w':=by
 have H:Hid (aY (da e.kind) e 0=0):=dY;exact dn
theorem FE(e:Ent)(w:World)(hc:e.course.size<=1000000)(hk:e.kind=3)(h0:jt e.course.data.toList=false) :
  Calls prog 117 #[e.val] w fun x w'=>x=Oe (N9 Oa (aY (da e.kind) e 0))/\ac w.heap.size w w':=by
 have H:Hid (aY (da e.kind) e 0=12):=dY;exact dn
theorem FF(e:Ent)(w:World)(hc:e.course.size<=1000000)(hk:e.kind=3)(h0:jt e.course.data.toList=true)(h1:au e.credits 1 60=false) :
  Calls prog 117 #[e.val] w fun x w'=>x=Oe (N9 Oa (aY (da e.kind) e 0))/\ac w.heap.size w w':=by
 have H:Hid (aY (da e.kind) e 0=3):=dY;exact dn
theorem FG(e:Ent)(w:World)(hc:e.course.size<=1000000)(hk:e.kind=3)(h0:jt e.course.data.toList=true)(h1:au e.credits 1 60=true)(h2:au e.grade (-1000) 1000=false) :
  Calls prog 117 #[e.val] w fun x w'=>x=Oe (N9 Oa (aY (da e.kind) e 0))/\ac w.heap.size w w':=by
 have H:Hid (aY (da e.kind) e 0=3):=dY;exact dn
theorem FH(e:Ent)(w:World)(hc:e.course.size<=1000000)(hk:e.kind=3)(h0:jt e.course.data.toList=true)(h1:au e.credits 1 60=true)(h2:au e.grade (-1000) 1000=true) :
  Calls prog 117 #[e.val] w fun x w'=>x=Oe (N9 Oa (aY (da e.kind) e 0))/\ac w.heap.size w w':=by
 have H:Hid (aY (da e.kind) e 0=0):=dY;exact dn
theorem FI(e:Ent)(w:World)(hc:e.course.size<=1000000)(hk:e.kind=4)(h0:au e.grade (-1000) 1000=false) :
  Calls prog 117 #[e.val] w fun x w'=>x=Oe (N9 Oa (aY (da e.kind) e 0))/\ac w.heap.size w w':=by
 have H:Hid (aY (da e.kind) e 0=3):=dY;exact dn
theorem FJ(e:Ent)(w:World)(hc:e.course.size<=1000000)(hk:e.kind=4)(h0:au e.grade (-1000) 1000=true)(h1:au e.ref 1 899999=false) :
  Calls prog 117 #[e.val] w fun x w'=>x=Oe (N9 Oa (aY (da e.kind) e 0))/\ac w.heap.size w w':=by
 have H:Hid (aY (da e.kind) e 0=21):=dY;exact dn
theorem FK(e:Ent)(w:World)(hc:e.course.size<=1000000)(hk:e.kind=4)(h0:au e.grade (-1000) 1000=true)(h1:au e.ref 1 899999=true)(h2:(e.ref==e.id)=true) :
  Calls prog 117 #[e.val] w fun x w'=>x=Oe (N9 Oa (aY (da e.kind) e 0))/\ac w.heap.size w w':=by
 have H:Hid (aY (da e.kind) e 0=21):=dY;exact dn
theorem FL(e:Ent)(w:World)(hc:e.course.size<=1000000)(hk:e.kind=4)(h0:au e.grade (-1000) 1000=true)(h1:au e.ref 1 899999=true)(h2:(e.ref==e.id)=false) :
  Calls prog 117 #[e.val] w fun x w'=>x=Oe (N9 Oa (aY (da e.kind) e 0))/\ac w.heap.size w w':=by
 have H:Hid (aY (da e.kind) e 0=0):=dY;exact dn
theorem FM(e:Ent)(w:World)(hc:e.course.size<=1000000)(hk:e.kind=5)(h0:au e.ref 1 899999=false) :
  Calls prog 117 #[e.val] w fun x w'=>x=Oe (N9 Oa (aY (da e.kind) e 0))/\ac w.heap.size w w':=by
 have H:Hid (aY (da e.kind) e 0=21):=dY;exact dn
theorem FN(e:Ent)(w:World)(hc:e.course.size<=1000000)(hk:e.kind=5)(h0:au e.ref 1 899999=true)(h1:(e.ref==e.id)=true) :
  Calls prog 117 #[e.val] w fun x w'=>x=Oe (N9 Oa (aY (da e.kind) e 0))/\ac w.heap.size w w':=by
 have H:Hid (aY (da e.kind) e 0=21):=dY;exact dn
theorem FO(e:Ent)(w:World)(hc:e.course.size<=1000000)(hk:e.kind=5)(h0:au e.ref 1 899999=true)(h1:(e.ref==e.id)=false) :
  Calls prog 117 #[e.val] w fun x w'=>x=Oe (N9 Oa (aY (da e.kind) e 0))/\ac w.heap.size w w':=by
 have H:Hid (aY (da e.kind) e 0=0):=dY;exact dn
theorem FP(e:Ent)(w:World)(hc:e.course.size<=1000000)(hk:e.kind=6)(h0:au e.ref 1 899999=false) :
  Calls prog 117 #[e.val] w fun x w'=>x=Oe (N9 Oa (aY (da e.kind) e 0))/\ac w.heap.size w w':=by
 have H:Hid (aY (da e.kind) e 0=21):=dY;exact dn
theorem FQ(e:Ent)(w:World)(hc:e.course.size<=1000000)(hk:e.kind=6)(h0:au e.ref 1 899999=true)(h1:(e.ref==e.id)=true) :
  Calls prog 117 #[e.val] w fun x w'=>x=Oe (N9 Oa (aY (da e.kind) e 0))/\ac w.heap.size w w':=by
 have H:Hid (aY (da e.kind) e 0=21):=dY;exact dn
theorem FT(e:Ent)(w:World)(hc:e.course.size<=1000000)(hk:e.kind=6)(h0:au e.ref 1 899999=true)(h1:(e.ref==e.id)=false) :
  Calls prog 117 #[e.val] w fun x w'=>x=Oe (N9 Oa (aY (da e.kind) e 0))/\ac w.heap.size w w':=by
 have H:Hid (aY (da e.kind) e 0=0):=dY;exact dn
theorem FU(e:Ent)(w:World)(hc:e.course.size<=1000000)(hk:e.kind=7)(h0:au e.fro 1 8=false) :
  Calls prog 117 #[e.val] w fun x w'=>x=Oe (N9 Oa (aY (da e.kind) e 0))/\ac w.heap.size w w':=by
 have H:Hid (aY (da e.kind) e 0=3):=dY;exact dn
theorem FV(e:Ent)(w:World)(hc:e.course.size<=1000000)(hk:e.kind=7)(h0:au e.fro 1 8=true)(h1:(e.fro==e.school)=true) :
  Calls prog 117 #[e.val] w fun x w'=>x=Oe (N9 Oa (aY (da e.kind) e 0))/\ac w.heap.size w w':=by
 have H:Hid (aY (da e.kind) e 0=3):=dY;exact dn
theorem FW(e:Ent)(w:World)(hc:e.course.size<=1000000)(hk:e.kind=7)(h0:au e.fro 1 8=true)(h1:(e.fro==e.school)=false) :
  Calls prog 117 #[e.val] w fun x w'=>x=Oe (N9 Oa (aY (da e.kind) e 0))/\ac w.heap.size w w':=by
 have H:Hid (aY (da e.kind) e 0=0):=dY;exact dn
theorem FY(e:Ent)(w:World)(hc:e.course.size<=1000000)(hk:e.kind=8)(h0:decide (e.programme<1)=true) :
  Calls prog 117 #[e.val] w fun x w'=>x=Oe (N9 Oa (aY (da e.kind) e 0))/\ac w.heap.size w w':=by
 have H:Hid (aY (da e.kind) e 0=3):=dY;exact dn
theorem FZ(e:Ent)(w:World)(hc:e.course.size<=1000000)(hk:e.kind=8)(h0:decide (e.programme<1)=false) :
  Calls prog 117 #[e.val] w fun x w'=>x=Oe (N9 Oa (aY (da e.kind) e 0))/\ac w.heap.size w w':=by
 have H:Hid (aY (da e.kind) e 0=0):=dY;exact dn
theorem F4(e:Ent)(w:World)(hc:e.course.size<=1000000)(hk:e.kind=9)(h0:au e.ref 1 899999=false) :
  Calls prog 117 #[e.val] w fun x w'=>x=Oe (N9 Oa (aY (da e.kind) e 0))/\ac w.heap.size w w':=by
 have H:Hid (aY (da e.kind) e 0=21):=dY;exact dn
theorem F5(e:Ent)(w:World)(hc:e.course.size<=1000000)(hk:e.kind=9)(h0:au e.ref 1 899999=true)(h1:(e.ref==e.id)=true) :
  Calls prog 117 #[e.val] w fun x w'=>x=Oe (N9 Oa (aY (da e.kind) e 0))/\ac w.heap.size w w':=by
 have H:Hid (aY (da e.kind) e 0=21):=dY;exact dn
theorem F6(e:Ent)(w:World)(hc:e.course.size<=1000000)(hk:e.kind=9)(h0:au e.ref 1 899999=true)(h1:(e.ref==e.id)=false) :
  Calls prog 117 #[e.val] w fun x w'=>x=Oe (N9 Oa (aY (da e.kind) e 0))/\ac w.heap.size w w':=by
 have H:Hid (aY (da e.kind) e 0=0):=dY;exact dn
theorem F7(e:Ent)(w:World)(hc:e.course.size<=1000000)(hk:1<=e.kind/\e.kind<=9) :
  Calls prog 117 #[e.val] w fun x w'=>x=Oe (N9 Oa (aY (da e.kind) e 0))/\ac w.heap.size w w':=by
 have h:e.kind=1\/e.kind=2\/e.kind=3\/e.kind=4\/e.kind=5\/e.kind=6\/e.kind=7\/e.kind=8\/e.kind=9:=mOm;rcases h with h|h|h|h|h|h|h|h|h
 .skip
  cases g0:decide (e.programme<1)
  .skip
   exact FA e w hc h g0
  .skip
   exact Fz e w hc h g0
 .skip
  cases g0:decide (e.programme<1)
  .skip
   cases g1:decide (e.version<1)
   .skip
    exact FD e w hc h g0 g1
   .skip
    exact FC e w hc h g0 g1
  .skip
   exact FB e w hc h g0
 .skip
  cases g0:jt e.course.data.toList
  .skip
   exact FE e w hc h g0
  .skip
   cases g1:au e.credits 1 60
   .skip
    exact FF e w hc h g0 g1
   .skip
    cases g2:au e.grade (-1000) 1000
    .skip
     exact FG e w hc h g0 g1 g2
    .skip
     exact FH e w hc h g0 g1 g2
 .skip
  cases g0:au e.grade (-1000) 1000
  .skip
   exact FI e w hc h g0
  .skip
   cases g1:au e.ref 1 899999
   .skip
    exact FJ e w hc h g0 g1
   .skip
    cases g2:(e.ref==e.id)
    .skip
     exact FL e w hc h g0 g1 g2
    .skip
     exact FK e w hc h g0 g1 g2
 .skip
  cases g0:au e.ref 1 899999
  .skip
   exact FM e w hc h g0
  .skip
   cases g1:(e.ref==e.id)
   .skip
    exact FO e w hc h g0 g1
   .skip
    exact FN e w hc h g0 g1
 .skip
  cases g0:au e.ref 1 899999
  .skip
   exact FP e w hc h g0
  .skip
   cases g1:(e.ref==e.id)
   .skip
    exact FT e w hc h g0 g1
   .skip
    exact FQ e w hc h g0 g1
 .skip
  cases g0:au e.fro 1 8
  .skip
   exact FU e w hc h g0
  .skip
   cases g1:(e.fro==e.school)
   .skip
    exact FW e w hc h g0 g1
   .skip
    exact FV e w hc h g0 g1
 .skip
  cases g0:decide (e.programme<1)
  .skip
   exact FZ e w hc h g0
  .skip
   exact FY e w hc h g0
 .skip
  cases g0:au e.ref 1 899999
  .skip
   exact F4 e w hc h g0
  .skip
   cases g1:(e.ref==e.id)
   .skip
    exact F6 e w hc h g0 g1
   .skip
    exact F5 e w hc h g0 g1
