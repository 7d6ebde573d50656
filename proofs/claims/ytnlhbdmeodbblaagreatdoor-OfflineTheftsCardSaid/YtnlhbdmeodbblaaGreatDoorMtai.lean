/- Lemmas. -/
import Derived.Test.YtnlhbdmeodbblaaGreatDoorMtab
set_option maxRecDepth 100000
set_option maxHeartbeats 16000000
set_option linter.all false
open Go.Proofs.Tryz
open Go.Lib renaming cell_of_heap->ae
open Go.World renaming setCell->dP
open Go.Ending renaming returned->Oe
open Go.IntKind renaming i64->Oa
open Go.Value renaming int->N9,string->Ob,slice->Oc,pointer->Od
open Option renaming some->Og,none->Oh
namespace Go.Proofs.YtnlhbdmeodbblaaGreatDoor
section
open Go Go.RowKit
theorem Ao(n m:Int)(w:World)(hm:0<m)(hm2:m<=1000000) :
  Calls prog 37 #[N9 Oa n,N9 Oa m] w fun e w'=>e=Oe (N9 Oa (n%m))/\w=w':=by
 have hlo:=Int.lt_tmod_of_pos n hm;have hhi:=Int.tmod_lt_of_pos n hm;have hne:(m==0)=false:=by simp;omega
 have H:=Lib.hid (ES n m);go_enter func37,ntmps37;go_wp2
 go_ret;exact⟨aL H.out,rfl⟩
end
section
open Go Go.RowKit Go.Sort Go.Lib
def Jk(d:Nat)(A:Option Addr)(n c _k:Nat)(m:Int)(w:World)(x:Ending)(w':World):Prop:=
 ∃v:Int,x=Oe (N9 Oa v)/\0<=v/\v<m/\(∃k',k'<=n/\pI w' d A n c k')/\Only d w w'
theorem Md{P:Program}{f:FuncId}{args:Array Value}{w:World}{n:Nat}{v:Value}(h:Calls P f args (w.drewN n) fun e w'=>e=Oe v/\w.drewN n=w') :
  Calls P f args (w.drewN n) fun e w''=>e=Oe v/\∃m,w''=w.drewN m:=h.mono fun _ _ ⟨he,hm⟩=>⟨he,n,hm.symm⟩
theorem Kn(B d:Nat)(A:Option Addr)(n c k:Nat)(m:Int)(w:World)(hm:0<m)(hm2:m<=1000000)(hd:pI w d A n c k)(hB:B<=d)(hk:k<=n)(hi:eU B A n w) :
  Calls prog 82 #[Od (Og ⟨d,0,Oh⟩),N9 Oa m] w (Jk d A n c k m w):=by
 have hc0:w.cell? ⟨d,0,Oh⟩=Og (Oc A n c):=ae hd 0;have hc1:w.cell? ⟨d,1,Oh⟩=Og (N9 Oa k):=ae hd 1;have hf1:w.frozen? ⟨d,1,Oh⟩=false:=Lib.frozen_of_heap hd 1;have hn:=hi.1;by_cases hlt:k<n
 .obtain⟨b,off,z,rfl,hbB,hz,hz2⟩:=hi.2 k hlt;have hbd:b≠d:=mOm;have hlt':¬(n:Int)<=(k:Int):=mOm;have hm':=fun W=>Ao z m W hm hm2
  go_enter func82,ntmps82;go_wp2_with fail
  go_quiet (fail)
  go_wp2_with fail
  go_quiet ((go_at_call 37;exact Md (hm' _)))
  go_wp2_with fail;go_ret;have h1:=Int.emod_nonneg z (show m≠0 by omega);have h2:=Int.emod_lt_of_pos z hm;refine⟨z%m,rfl,h1,h2,⟨k+1,mOm,?_⟩,?_⟩
  .unfold pI at hd |-
   show(((w.drewN _).setCell ⟨d,1,Oh⟩ (N9 Oa (k+1))).heap)[d]? = _
   simp[dP,Array.getElem?_modify]
   exact⟨_,hd,rfl⟩
  .exact⟨rfl,rfl,rfl,by simp[dP],fun k _ hk=>Below.heap_setCell _ _ _ _ (by simpa using hk)⟩
 .have hlt':(n:Int)<=(k:Int):=mOm;go_enter func82,ntmps82;go_wp2_with fail
  go_quiet (fail)
  go_wp2_with fail;go_ret;exact⟨0,rfl,mOm,hm,⟨k,mOm,hd⟩,⟨rfl,rfl,rfl,Nat.le_refl _,fun _ _ _=>rfl⟩⟩
end
section
open Go Go.RowKit Go.Sort
theorem BI(x0 x1 x2 x3 x4 x5 x7 x8 x9 x10 x11 x12 x13 y0 y1 y2 y3 y4 y5 y7 y8 y9 y10 y11 y12 y13:Int)(x6 x14 y6 y14:ByteArray)(w:World):(binOp .eql 67 (.agg #[N9 Oa x0,N9 Oa x1,N9 Oa x2,N9 Oa x3,N9 Oa x4,N9 Oa x5,Ob x6,N9 Oa x7,N9 Oa x8,N9 Oa x9,N9 Oa x10,N9 Oa x11,N9 Oa x12,N9 Oa x13,Ob x14]) (.agg #[N9 Oa y0,N9 Oa y1,N9 Oa y2,N9 Oa y3,N9 Oa y4,N9 Oa y5,Ob y6,N9 Oa y7,N9 Oa y8,N9 Oa y9,N9 Oa y10,N9 Oa y11,N9 Oa y12,N9 Oa y13,Ob y14])).run prog w=.ok (.bool (eqE ⟨x0,x1,x2,x3,x4,x5,x6,x7,x8,x9,x10,x11,x12,x13,x14⟩ ⟨y0,y1,y2,y3,y4,y5,y6,y7,y8,y9,y10,y11,y12,y13,y14⟩)) w:=
 EK ⟨x0,x1,x2,x3,x4,x5,x6,x7,x8,x9,x10,x11,x12,x13,x14⟩ ⟨y0,y1,y2,y3,y4,y5,y6,y7,y8,y9,y10,y11,y12,y13,y14⟩ w
