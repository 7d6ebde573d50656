/- Lemmas. -/
import Derived.Test.YtnlhbdmeodbblaaGreatDoorMiat
import Derived.Test.YtnlhbdmeodbblaaGreatDoorMian
import Derived.Shelf.SlSortCmp.KitK
import Derived.Test.YtnlhbdmeodbblaaGreatDoorMiac
import Derived.Laws.BitsLemmas
set_option maxRecDepth 100000
set_option maxHeartbeats 16000000
set_option linter.all false
open Go.Proofs.Tryz
open Go.IntWalk renaming i64_in→aF
open Go.Lib renaming cell_of_heap→ae,hid→aa
open List renaming append_nil→dF,drop_eq_getElem_cons→cw,filterMap_cons_some→Mk,getElem?_append_left→bl,getElem?_append_right→aK,getElem?_eq_getElem→ai,getElem?_eq_none→dG,getElem?_eq_some_iff→ap,getElem_mem→bD,length_append→ax,length_cons→bA,length_drop→bF,length_map→aX,length_singleton→aG,length_take→aM,map_append→eX,mem_append→bN,mem_singleton→bJ,size_toArray→dz,take_add_one→aL,take_append_drop→bS,take_length→aT,toArray→aq
open Nat renaming add_zero→ee,le_refl→aD,lt_of_lt_of_le→av,zero_add→bM,zero_le→aR
open Option renaming toList_some→cU
open Go.RowKit renaming Below→ac,intOf→aw
open Go.Ending renaming returned→JT
open Go.IntKind renaming i64→JP
open Go.Obj renaming cells→JU
open Go.Value renaming int→JO,string→JQ,slice→JR,pointer→JS
open Option renaming some→JV,none→JW
namespace Go.Proofs.YtnlhbdmeodbblaaGreatDoor
open Go Go.RowKit Go.Sort Go.Lib
section
structure VerE where
 ents:List Ent
 hidden:Int
 clean:Bool
@[reducible] def VerE.val (v:VerE) (p:Option Addr) (c:Nat):Value:=.agg #[JR p v.ents.length c,JO JP v.hidden,.bool v.clean]
theorem mX (v:VerE) (p:Option Addr) (c:Nat) (w:World) :
  Calls prog 19 #[v.val p c] w fun e w'=>e=JT (.bool (v.hidden==0))∧ac w.heap.size w w':=by
 obtain ⟨l,h,b⟩:=v;go_enter func19,ntmps19;go_wp2_with fail;go_ret;exact ⟨rfl,al _ _⟩
theorem xg (x0 x1 x2 x3 x4 x5 x7 x8 x9 x10 x11 x12 x13 y0 y1 y2 y3 y4 y5 y7 y8 y9 y10 y11 y12 y13:Int) (x6 x14 y6 y14:ByteArray) (w:World):(binOp .neq 67 (.agg #[JO JP x0,JO JP x1,JO JP x2,JO JP x3,JO JP x4,JO JP x5,JQ x6,JO JP x7,JO JP x8,JO JP x9,JO JP x10,JO JP x11,JO JP x12,JO JP x13,JQ x14]) (.agg #[JO JP y0,JO JP y1,JO JP y2,JO JP y3,JO JP y4,JO JP y5,JQ y6,JO JP y7,JO JP y8,JO JP y9,JO JP y10,JO JP y11,JO JP y12,JO JP y13,JQ y14])).run prog w=.ok (.bool (!eqE ⟨x0,x1,x2,x3,x4,x5,x6,x7,x8,x9,x10,x11,x12,x13,x14⟩ ⟨y0,y1,y2,y3,y4,y5,y6,y7,y8,y9,y10,y11,y12,y13,y14⟩)) w:=
 Ay ⟨x0,x1,x2,x3,x4,x5,x6,x7,x8,x9,x10,x11,x12,x13,x14⟩ ⟨y0,y1,y2,y3,y4,y5,y6,y7,y8,y9,y10,y11,y12,y13,y14⟩ w
attribute [local go_sem ↓] xg
attribute [local go_sem] Ent.cells
theorem sK (a b:List Ent) (p1 p2:Option Addr) (c1 c2:Nat) (w:World) (ha:LK bK w (JR p1 a.length c1) a) (hb:LK bK w (JR p2 b.length c2) b) (hn:a.length≤1000000) :
  Calls prog 52 #[JR p1 a.length c1,JR p2 b.length c2] w (ic (a=b) w):=by
 have HA:=aa ha;have HB:=aa hb;clear ha hb;go_enter func52,ntmps52;by_cases hl:a.length=b.length
 rotate_left 1
 ·have t1:((a.length:Int) != (b.length:Int))=true:=by rw [bne_iff_ne];omega
  have HN:Hid (¬ a=b):=aa (fun e=>hl (by rw [e]));clear hl;go_wp2_with fail;go_ret;exact ⟨false,rfl,⟨fun e=>(by cases e),fun h=>absurd h HN.out⟩,Below.refl _ _⟩
 have t1:((a.length:Int) != (b.length:Int))=false:=by rw [bne_eq_false_iff_eq];omega
 have HLN:=aa hl;clear hl;go_wp2_with fail
 go_loopw [5] (fun i wr=>∃ k:Nat,k≤a.length∧i=JO JP k∧Hid (a.take k=b.take k)∧ac w.heap.size w wr) (fun i _=>a.length - (aw i).toNat)
 case atStart=>exact ⟨0,aR _,rfl,aa rfl,Below.refl _ _⟩
 case round =>
  obtain ⟨k,hk,rfl,HI,hb⟩:=hrel;by_cases hlt:k < a.length
  ·obtain ⟨g1,o1,rfl,hbl1,hcv1⟩:=dc (kk:=15) HA.out dH rfl mOm;obtain ⟨g2,o2,rfl,hbl2,hcv2⟩:=dc (kk:=15) HB.out dH rfl (by have:=HLN.out;omega);have hg1:=ai hlt;have hg2:=ai (show k < b.length by have:=HLN.out;omega);have c01:=hcv1 k _ hg1;have c02:=hcv2 k _ hg2;have HG:=aa (And.intro hg1 hg2);generalize a[k]=x at *;generalize b[k]=y at *;have i1:(k:Int) < (a.length:Int):=mOm;have i2:(k:Int) < (b.length:Int):=by have:=HLN.out;omega
   have i3:(0:Int)≤(k:Int):=mOm
   have keepS:∀ {u v:World},(ac w.heap.size w u∧u.rangeAt g1 (o1+k*15) x.cells.toList∧u.rangeAt g2 (o2+k*15) y.cells.toList)→ac u.heap.size u v→(ac w.heap.size w v∧v.rangeAt g1 (o1+k*15) x.cells.toList∧v.rangeAt g2 (o2+k*15) y.cells.toList):=fun h hb =>
    ⟨ah h.1 hb,fun j v hv=>(hb.cell (p:=⟨g1,o1+k*15+j,JW⟩) (av hbl1 h.1.size)).trans (h.2.1 j v hv),fun j v hv=>(hb.cell (p:=⟨g2,o2+k*15+j,JW⟩) (av hbl2 h.1.size)).trans (h.2.2 j v hv)⟩
   have hS0:=keepS ⟨hb,fun j v hv=>(hb.cell (p:=⟨g1,o1+k*15+j,JW⟩) hbl1).trans (c01 j v hv),fun j v hv=>(hb.cell (p:=⟨g2,o2+k*15+j,JW⟩) hbl2).trans (c02 j v hv)⟩ (Below.refl _ wr).drew
   clear hcv1 hcv2 hg1 hg2 c01 c02;obtain ⟨x0,x1,x2,x3,x4,x5,x6,x7,x8,x9,x10,x11,x12,x13,x14⟩:=x;obtain ⟨y0,y1,y2,y3,y4,y5,y6,y7,y8,y9,y10,y11,y12,y13,y14⟩:=y;simp only [Ent.cells] at hS0 keepS;obtain ⟨t,ht⟩:∃ t,t=eqE ⟨x0,x1,x2,x3,x4,x5,x6,x7,x8,x9,x10,x11,x12,x13,x14⟩ ⟨y0,y1,y2,y3,y4,y5,y6,y7,y8,y9,y10,y11,y12,y13,y14⟩:=⟨_,rfl⟩;go_wp2_with fail;refine Jy (S:=fun u=>ac w.heap.size w u∧u.rangeAt g1 (o1+k*15) (#[JO JP x0,JO JP x1,JO JP x2,JO JP x3,JO JP x4,JO JP x5,JQ x6,JO JP x7,JO JP x8,JO JP x9,JO JP x10,JO JP x11,JO JP x12,JO JP x13,JQ x14]:Array Value).toList∧u.rangeAt g2 (o2+k*15) (#[JO JP y0,JO JP y1,JO JP y2,JO JP y3,JO JP y4,JO JP y5,JQ y6,JO JP y7,JO JP y8,JO JP y9,JO JP y10,JO JP y11,JO JP y12,JO JP y13,JQ y14]:Array Value).toList) [(0,true),(1,true),(2,true),(3,true),(4,true),(5,true),(6,true),(7,true),(8,true)] hS0 ?_;have hS:=hS0
   iterate 3 refine aj ?_
   refine dC ⟨_,_,_,_,_,_⟩ rfl mRf 67 (.tmp 19) mRf g1 (o1+k*15) mRf (#[JO JP x0,JO JP x1,JO JP x2,JO JP x3,JO JP x4,JO JP x5,JQ x6,JO JP x7,JO JP x8,JO JP x9,JO JP x10,JO JP x11,JO JP x12,JO JP x13,JQ x14]:Array Value).toList _ (fun w hSw=>hSw.2.1) underlying67 rfl mKr ?_;refine ar ?_
   iterate 3 refine aj ?_
   refine dC ⟨_,_,_,_,_,_⟩ rfl mRf 67 (.tmp 23) mRf g2 (o2+k*15) mRf (#[JO JP y0,JO JP y1,JO JP y2,JO JP y3,JO JP y4,JO JP y5,JQ y6,JO JP y7,JO JP y8,JO JP y9,JO JP y10,JO JP y11,JO JP y12,JO JP y13,JQ y14]:Array Value).toList _ (fun w hSw=>hSw.2.2) underlying67 rfl mKr ?_;refine ar ?_;refine aj ?_;simp only [aO,bj];have hbF:=hS.1;clear hS hS0 keepS;rw [← ht];have HT:=aa ht;clear ht
   cases t
   ·have HN:Hid (¬ a=b):=aa (fun e=>by
     have h1:=HG.out.1;rw [e,HG.out.2] at h1;have h2:=HT.out.symm;rw [Bool.eq_false_iff] at h2
     exact h2 ((vw _ _).2 (Option.some.inj h1).symm))
    go_wp2_with fail
    go_ret;exact ⟨false,rfl,⟨fun e=>(by cases e),fun h=>absurd h HN.out⟩,hbF⟩
   ·have HE:Hid (a.take (k+1)=b.take (k+1)):=aa (by
     rw [aL,aL,HI.out,HG.out.1,HG.out.2,(vw _ _).1 HT.out.symm])
    go_wp2_with fail
    go_roundw
    case rel=>exact ⟨k+1,mOm,by go_num,HE,hbF⟩
    case measure=>simp [aw];omega
  ·obtain rfl:k=a.length:=mOm;have i1:¬ (a.length:Int) < (a.length:Int):=mOm;go_wp2_with fail;go_ret;refine ⟨true,rfl,⟨fun _=>?_,fun _=>rfl⟩,hb⟩;have:=HI.out
   rwa [aT,HLN.out,aT] at this
theorem pu (a b:VerE) (p1 p2:Option Addr) (c1 c2:Nat) (w:World) (ha:LK bK w (JR p1 a.ents.length c1) a.ents) (hb:LK bK w (JR p2 b.ents.length c2) b.ents) (hn:a.ents.length≤1000000) :
  Calls prog 17 #[a.val p1 c1,b.val p2 c2] w (ic (a=b) w):=by
 obtain ⟨l1,h1,b1⟩:=a;obtain ⟨l2,h2,b2⟩:=b;simp only at ha hb hn;have ks:=fun u (hbu:ac w.heap.size w u)=>sK l1 l2 p1 p2 c1 c2 u (ha.below hbu) (hb.below hbu) hn
 have hb2:=(al w (JU #[JR p1 l1.length c1,JO JP h1,.bool b1] 51)).alloc (Nat.le_of_lt mSi) (JU #[JR p2 l2.length c2,JO JP h2,.bool b2] 51);have KS:=aa ks;clear ks ha hb;go_enter func17,ntmps17;by_cases e1:h1=h2
 rotate_left 1
 ·have t1:(h1==h2)=false:=by rw [beq_eq_false_iff_ne];exact e1
  have HN:Hid (¬ (⟨l1,h1,b1⟩:VerE)=⟨l2,h2,b2⟩):=aa (fun e=>e1 (congrArg VerE.hidden e));clear e1;go_wp2_with fail;go_ret;exact ⟨false,rfl,⟨fun e=>(by cases e),fun h=>absurd h HN.out⟩,hb2⟩
 subst e1
 by_cases e2:b1=b2
 rotate_left 1
 ·have t2:(b1==b2)=false:=by rw [beq_eq_false_iff_ne];exact e2
  have HN:Hid (¬ (⟨l1,h1,b1⟩:VerE)=⟨l2,h1,b2⟩):=aa (fun e=>e2 (congrArg VerE.clean e));clear e2;go_wp2_with fail;go_ret;exact ⟨false,rfl,⟨fun e=>(by cases e),fun h=>absurd h HN.out⟩,hb2⟩
 subst e2
 have t1:(h1==h1)=true:=by rw [beq_iff_eq]
 have t2:(b1==b1)=true:=by rw [beq_iff_eq]
 go_wp2_with fail;refine (KS.out _ hb2).mono ?_;rintro _ w3 ⟨t,rfl,ht,hb3⟩;have HT:=aa ht;clear ht;have hbz:=ah hb2 hb3;go_wp2_with fail;go_ret;refine ⟨t,rfl,⟨fun h=>?_,fun h=>HT.out.2 (congrArg VerE.ents h)⟩,hbz⟩;rw [HT.out.1 h]
end
section
def idL (k:List UInt8):Int:=if k.length=22 then max 0 (eV ((k.drop 14).take 6)) else 0
theorem yq (x:LT) (w:World) :
  Calls prog 78 #[x.val] w fun e w'=>e=JT (JO JP (idL x.key.data.toList))∧ac w.heap.size w w':=by
 have hbb:=al w (JU #[JQ x.key,JQ x.hash,JQ x.body] 69);obtain ⟨k,h,b⟩:=x;simp only at hbb;have HSZ:=aa (bw k);go_enter func78,ntmps78;by_cases hk:k.size=22
 rotate_left 1
 ·have t1:((k.size:Int) != 22)=true:=by rw [bne_iff_ne];omega
  have HV:Hid (idL k.data.toList=0):=aa (by unfold idL;rw [← HSZ.out,if_neg hk]);clear hk;go_wp2_with fail;go_ret;exact ⟨aI HV.out.symm,hbb⟩
 ·have t1:((k.size:Int) != 22)=false:=by rw [bne_eq_false_iff_eq];omega
  have HV:Hid (idL k.data.toList=max 0 (eV (k.extract 14 20).data.toList)):=aa (by unfold idL;rw [← HSZ.out,if_pos hk,yi]);have n3:=fun u=>zU (k.extract 14 20) (by rw [yj];omega) u
  have sl:=fun u=>yX (P:=prog) u 9 k underlying9 JP JP 14 20 mOm mOm mOm
  simp only [show (14:Int).toNat=14 from rfl,show (20:Int).toNat=20 from rfl] at sl;generalize eV (k.extract 14 20).data.toList=N at *;generalize k.extract 14 20=K at *;clear hk;go_wp2_with fail;refine (n3 _).mono ?_;rintro _ w2 ⟨rfl,rfl⟩;go_wp2_with fail;go_ret;exact ⟨aI HV.out.symm,hbb⟩
def jD (n:Int):List Value:=[JO JP n]
theorem jP:∀ x:Int,(jD x).length=1:=fun _=>rfl
theorem wv (l:List Int) (n:Int) (p:Option Addr) (c:Nat) (w:World) (h:LK jD w (JR p l.length c) l) (hl:l.length≤1000000) :
  Calls prog 77 #[JR p l.length c,JO JP n] w fun e w'=>e=JT (.bool (decide (n∈l)))∧ac w.heap.size w w':=by
 have HL:=aa h;clear h;go_enter func77,ntmps77;go_wp2_with fail
 go_loopw [5] (fun i wr=>∃ k:Nat,k≤l.length∧i=JO JP k∧Hid (n ∉ l.take k)∧ac w.heap.size w wr) (fun i _=>l.length - (aw i).toNat)
 case atStart=>exact ⟨0,aR _,rfl,aa mSi,Below.refl _ _⟩
 case round =>
  obtain ⟨k,hk,rfl,HI,hb⟩:=hrel;by_cases hlt:k < l.length
  ·obtain ⟨g1,o1,rfl,hbl1,hcv1⟩:=dc (kk:=1) HL.out jP rfl mOm;have hg1:=ai hlt;have c01:wr.cell? ⟨g1,o1+k,JW⟩=JV (JO JP l[k]):=by
    have:=hcv1 k _ hg1 0 _ rfl;rw [Nat.mul_one,ee] at this;exact (hb.cell (p:=⟨g1,o1+k,JW⟩) hbl1).trans this
   have HT:Hid (l.take (k+1)=l.take k++[l[k]]):=aa (by rw [aL,hg1];rfl)
   have HM:=aa (bD hlt);generalize l[k]=x at *;have i1:(k:Int) < (l.length:Int):=mOm;have i3:(0:Int)≤(k:Int):=mOm;clear hcv1 hg1;by_cases hx:x=n
   ·have t1:(x==n)=true:=by rw [beq_iff_eq];exact hx
    have HV:Hid (decide (n∈l)=true):=aa (by rw [decide_eq_true_eq,← hx];exact HM.out);clear hx;go_wp2_with fail;go_ret;exact ⟨bX HV.out.symm,hb⟩
   ·have t1:(x==n)=false:=by rw [beq_eq_false_iff_ne];exact hx
    have HN:Hid (n ∉ l.take (k+1)):=aa (by
     rw [HT.out,bN,bJ]
     exact fun h=>h.elim HI.out (fun e=>hx e.symm))
    clear hx
    go_wp2_with fail
    go_roundw
    case rel=>exact ⟨k+1,mOm,by go_num,HN,hb⟩
    case measure=>simp [aw];omega
  ·obtain rfl:k=l.length:=mOm;have i1:¬ (l.length:Int) < (l.length:Int):=mOm;have HV:Hid (decide (n∈l)=false):=aa (by have:=HI.out;rw [aT] at this;exact decide_eq_false this);go_wp2_with fail;go_ret;exact ⟨bX HV.out.symm,hb⟩
theorem nH (n m:Int) (w:World) (hm:0 < m) (hm2:m≤1000000) :
  Calls prog 12 #[JO JP n,JO JP m] w fun e w'=>e=JT (JO JP (n%m))∧w=w':=by
 have hlo:=Int.lt_tmod_of_pos n hm;have hhi:=Int.tmod_lt_of_pos n hm;have hne:(m==0)=false:=by simp;omega
 have H:=aa (AE n m);go_enter func12,ntmps12;go_wp2
 go_ret;exact ⟨aI H.out,rfl⟩
def yE:ByteArray:=⟨#[111,97,107]⟩
theorem gG (s:Int) (w:World) :
  Calls prog 30 #[JO JP s] w fun e w'=>∃ g,e=JT (.agg #[JO JP 1,JR (JV ⟨g,0,JW⟩) 1 1])∧LV w' g [⟨1,yE,0,s⟩]∧w.heap.size≤g∧g < w'.heap.size∧ac w.heap.size w w':=by
 go_enter func30,ntmps30;go_wp2_with fail;have h1:=heap_alloc_new w (JU #[JO JP 1,JR (JV ⟨w.heap.size+1,0,JW⟩) 1 1] 33);have h2:=heap_alloc_new (w.alloc (JU #[JO JP 1,JR (JV ⟨w.heap.size+1,0,JW⟩) 1 1] 33)) (JU #[JO JP 1,JQ yE,JO JP 0,JO JP s] 78);have b1:=al w (JU #[JO JP 1,JR (JV ⟨w.heap.size+1,0,JW⟩) 1 1] 33);have b2:=al (w.alloc (JU #[JO JP 1,JR (JV ⟨w.heap.size+1,0,JW⟩) 1 1] 33)) (JU #[JO JP 1,JQ yE,JO JP 0,JO JP s] 78);have hz:(w.alloc (JU #[JO JP 1,JR (JV ⟨w.heap.size+1,0,JW⟩) 1 1] 33)).heap.size=w.heap.size+1:=World.size_alloc ..;rw [hz] at h2;have h3:=(b2.block _ (ay h1)).trans h1;refine bodyPost_ret (v:=.agg #[JO JP 1,JR (JV ⟨w.heap.size+1,0,JW⟩) 1 1]) (results_cell_row (P:=prog) results30 _ _ w.heap.size 33 #[JO JP 1,JR (JV ⟨w.heap.size+1,0,JW⟩) 1 1] (0,0) _ rfl h3 underlying33 rfl mKr) rfl ⟨w.heap.size+1,rfl,?_,mOm,ay h2,ah b1 b2⟩;intro k e he j v hv;obtain ⟨rfl,rfl⟩:k=0∧e=⟨1,yE,0,s⟩:=by
  rcases k with _ | k
  ·exact ⟨rfl,(Option.some.inj he).symm⟩
  ·cases he
 have:=ae h2 j
 rw [Nat.zero_mul,bM];refine this.trans ?_;rw [← hv];simp
def jd (l:List LU) (d:Int):Option LU:=l.reverse.find? fun x=>decide (x.fro≤d)&&(x.stolen==0||decide (d < x.stolen))
theorem xW {l:List LU} {d:Int} (h:∀ x∈l,(decide (x.fro≤d)&&(x.stolen==0||decide (d < x.stolen)))=false):jd l d=JW:=by unfold jd;rw [List.find?_eq_none];intro x hx;rw [h x (List.mem_reverse.1 hx)];decide
theorem ER {l:List LU} {d:Int} {k:Nat} {x:LU} (hx:l[k]? = JV x) (h:∀ y∈l.drop (k+1),(decide (y.fro≤d)&&(y.stolen==0||decide (d < y.stolen)))=false) (hc:(decide (x.fro≤d)&&(x.stolen==0||decide (d < x.stolen)))=true):jd l d=JV x:=by
 have e:l=l.take k++x::l.drop (k+1):=by obtain ⟨h1,h2⟩:=ap.1 hx;rw [← h2,← cw h1,bS]
 have hn:=xW h
 unfold jd at hn ⊢;have h1:List.find? (fun x=>decide (x.fro≤d)&&(x.stolen==0||decide (d < x.stolen))) [x]=JV x:=by rw [List.find?_singleton,if_pos hc]
 rw [e,List.reverse_append,List.reverse_cons,List.find?_append,List.find?_append,hn,h1]
 rfl
def jc (l:List LU) (d:Int):Int:=match jd l d with | some x=>x.id | none=>0
theorem E7 {p:Prop} (h:p:=by
 clear HSM HST;go_wp2_with ((with_reducible refine wpList_load_mid (op:=⟨_,_,_,_,_,_⟩) ?_ 78 (.tmp 19) ?_ g (j*4) ?_ (LU.cells ⟨xi,xs,xf,xt⟩).toList _ ?_ underlying78 ?_ ?_ ?_);rfl;rfl;rfl;exact hat;rfl;kernel_rfl)
 go_roundw
 case rel=>exact ⟨j,mOm,rfl,HC,hbz⟩
 case measure=>simp [aw]):p:=h
theorem Jr {p:Prop} (h:p:=by
 go_wp2_with ((with_reducible refine wpList_load_mid (op:=⟨_,_,_,_,_,_⟩) ?_ 78 (.tmp 19) ?_ g (j*4) ?_ (LU.cells ⟨xi,xs,xf,xt⟩).toList _ ?_ underlying78 ?_ ?_ ?_);rfl;rfl;rfl;exact hat;rfl;kernel_rfl)
 go_ret2
 refine ⟨?_,hbq⟩;unfold jc
 rw [HC.out];rfl):p:=h
theorem sj (g c:Nat) (sc:Int) (l:List LU) (d:Int) (w:World) (hl:l.length≤1000) (hk:LV w g l) (hg:g < w.heap.size) :
  Calls prog 80 #[.agg #[JO JP sc,JR (JV ⟨g,0,JW⟩) l.length c],JO JP d] w
   fun x w'=>x=JT (.tuple #[JO JP (jc l d),.bool (jd l d).isSome])∧ac w.heap.size w w':=by
 have hb0:=pT w (JU #[JO JP sc,JR (JV ⟨g,0,JW⟩) l.length c] 33);have hh:=heap_alloc_new w (JU #[JO JP sc,JR (JV ⟨g,0,JW⟩) l.length c] 33);have HK:=aa hk;clear hk;have a0:IntKind.i64.wrap ((l.length:Int) - 1)=(l.length:Int) - 1:=aF _ mOm;go_enter func80,ntmps80;go_wp2_with fail;obtain ⟨W,hW⟩:∃ u,u=w.alloc (JU #[JO JP sc,JR (JV ⟨g,0,JW⟩) l.length c] 33):=⟨_,rfl⟩;rw [← hW] at hb0 hh ⊢;clear hW
 go_loopw [6] (fun i wr=>∃ k:Nat,k≤l.length∧i=JO JP ((k:Int) - 1)∧Hid (∀ y∈l.drop k,(decide (y.fro≤d)&&(y.stolen==0||decide (d < y.stolen)))=false)∧ac W.heap.size W wr) (fun i _=>(aw i+1).toNat)
 case atStart=>exact ⟨l.length,aD _,rfl,aa (fun y hy=>by rw [List.drop_length] at hy;cases hy),Below.refl _ _⟩
 case round =>
  obtain ⟨k,hk,rfl,HI,hb⟩:=hrel;have hbw:=ah hb0 hb;have hhr:=hb.heap_of hh;have b1:wr.cell? ⟨w.heap.size,1,JW⟩=JV (JR (JV ⟨g,0,JW⟩) l.length c):=ae hhr 1;by_cases hz:k=0
  ·subst hz;have HN:Hid (jd l d=JW):=aa (xW (by have:=HI.out;rwa [List.drop_zero] at this));have i0:¬ (0:Int)≤((0:Nat):Int) - 1:=mOm;go_wp2_with fail
   go_ret2
   refine ⟨?_,hbw⟩;unfold jc;rw [HN.out];rfl
  ·obtain ⟨j,rfl⟩:∃ j,k=j+1:=⟨k - 1,mOm⟩;have hlt:j < l.length:=mOm;have hge:=ai hlt;have hat:wr.rangeAt g (j*4) l[j].cells.toList:=(HK.out.below hbw hg) j _ hge;have HG:=aa hge;generalize l[j]=x at *;clear hge;have e1:((j+1:Nat):Int) - 1=(j:Int):=mOm;rw [e1];have i0:(0:Int)≤(j:Int):=mOm;have i1:(j:Int) < (l.length:Int):=mOm;have a1:IntKind.i64.wrap ((j:Int) - 1)=(j:Int) - 1:=aF _ mOm;have hba:=al wr (JU #[JO JP x.id,JQ x.secret,JO JP x.fro,JO JP x.stolen] 78);have hhx:=heap_alloc_new wr (JU #[JO JP x.id,JQ x.secret,JO JP x.fro,JO JP x.stolen] 78)
   have HST:Hid ((decide (x.fro≤d)&&(x.stolen==0||decide (d < x.stolen)))=false→∀ y∈l.drop j,(decide (y.fro≤d)&&(y.stolen==0||decide (d < y.stolen)))=false):=aa (fun hx y hy=>by
    obtain ⟨h1,h2⟩:=ap.1 HG.out;rw [cw h1,h2] at hy;rcases List.mem_cons.1 hy with rfl | hy
    ·exact hx
    ·exact HI.out y hy)
   have HSM:Hid ((decide (x.fro≤d)&&(x.stolen==0||decide (d < x.stolen)))=true→jd l d=JV x):=aa (fun hc=>ER HG.out HI.out hc)
   have hbz:=ah hb hba;have hbq:=ah hbw hba;clear HI HG;obtain ⟨xi,xs,xf,xt⟩:=x;simp only at hat hba hhx HST HSM;by_cases h1:xf≤d
   rotate_left 1
   ·have t1:decide (xf≤d)=false:=decide_eq_false h1;have HC:=aa (HST.out (by rw [t1];rfl));exact E7
   have t1:decide (xf≤d)=true:=decide_eq_true h1
   by_cases h2:xt=0
   ·have t2:(xt==0)=true:=by rw [beq_iff_eq];exact h2
    have HC:=aa (HSM.out (by rw [t1,t2];rfl));clear HSM HST h2;exact Jr
   have t2:(xt==0)=false:=by rw [beq_eq_false_iff_ne];exact h2
   by_cases h3:d < xt
   ·have t3:decide (d < xt)=true:=decide_eq_true h3;have HC:=aa (HSM.out (by rw [t1,t2,t3];rfl));clear HSM HST;exact Jr
   have t3:decide (d < xt)=false:=decide_eq_false h3
   have HC:=aa (HST.out (by rw [t1,t2,t3];rfl));exact E7
end
section
attribute [local go_sem] Oper.semAt_some
attribute [local go_sem] Ent.cells
theorem lO {α:Type} {enc:α→List Value} {k:Nat} {F:Fence} {n:Nat} {P:Program} {e t:TypeId} (R:RowT P enc k e t) {ops:Array Oper} {rest:List Oper} {o:Oper} {a:Act} {w:World} {Q:Exit→Act→World→Prop} (hgd:o.guard=JW) (s x:Operand) (ho:o.op=.call { callee:=.builtin .append,args:=#[s,x],argTypes:=#[t,t] })
  (base:Nat) (v xv:Value) (X Y:List α) (hs:a.eval s=v) (hxv:a.eval x=xv) (hown:w.ownsRow base e k v X.length (br enc X)) (hx:LK enc w xv Y) (hl:X.length+Y.length≤1000000) (hb:base≤w.heap.size)
  (h:∀ v' w',AppT enc k e w base v X Y v' w'→wpListIn F n P ops Q rest (a.put o.dst v') w'):wpListIn F n P ops Q (o::rest) a w:=by
 refine wpListIn_plain hgd fun K hK'=>?_
 obtain ⟨v',w',hrun,h2⟩:=lZ R w base o.type v xv X Y hown hx hl hb;unfold Oper.wpIn;refine ⟨?_,?_⟩
 ·simp [Oper.about,ho,resolve,Target.leads,Sem.run_pure]
 ·rw [Oper.semAt_plain F _ _ (by rw [ho];intro c hc';cases hc')];simp [execOp,ho,resolve,invoke,builtin,hs,hxv,hrun,Result.andThen];exact hK' _ _ (h v' w' h2)
theorem wQ (v:Value) (p:Option Addr) (n c:Nat) (hv:v=JR p n c) (w:World) :
  Calls prog 41 #[v] w fun x w'=>x=JT (.func (.func 94) #[] #[JS (JV ⟨w.heap.size,0,JW⟩)])∧w'=w.alloc (JU #[v] 36):=by
 subst hv;go_enter func41,ntmps41;go_wp2_with fail;go_ret;exact ⟨rfl,rfl⟩
def vu (y:LT):Option Ent:=if (el y.body.data.toList).2=0 then JV (el y.body.data.toList).1 else JW
def cI (L:List LT):List Ent:=L.filterMap vu
theorem vD:∀ x:LT,(fg x).length=3:=fun _=>rfl
theorem Fa {L:List LT} {j:Nat} {y:LT} (h:L[j]? = JV y) (h0:(el y.body.data.toList).2=0):(cI (L.take j)).length < (cI L).length∧(cI L).getD (cI (L.take j)).length entZ=(el y.body.data.toList).1∧(cI (L.take (j+1))).length=(cI (L.take j)).length+1:=by
 have e:L=L.take j++y::L.drop (j+1):=by obtain ⟨h1,h2⟩:=ap.1 h;rw [← h2,← cw h1,bS]
 have hy:vu y=JV (el y.body.data.toList).1:=if_pos h0
 have e2:cI L=cI (L.take j)++(el y.body.data.toList).1::cI (L.drop (j+1)):=by
  conv=>lhs;rw [e]
  unfold cI
  rw [List.filterMap_append,Mk hy]
 have e3:cI (L.take (j+1))=cI (L.take j)++[(el y.body.data.toList).1]:=by unfold cI;rw [aL,h,cU,List.filterMap_append,Mk hy,List.filterMap_nil]
 refine ⟨?_,?_,?_⟩
 ·rw [e2,ax,bA];omega
 ·rw [List.getD_eq_getElem?_getD,e2,aK (aD _),Nat.sub_self];rfl
 ·rw [e3,ax];rfl
theorem GB {L:List LT} {j:Nat} {y:LT} (h:L[j]? = JV y) (h0:¬ (el y.body.data.toList).2=0):(cI (L.take (j+1))).length=(cI (L.take j)).length:=by have hy:vu y=JW:=if_neg h0;unfold cI;rw [aL,h,cU,List.filterMap_append,List.filterMap_cons_none hy,List.filterMap_nil,dF]
def tR (sb:Nat) (v:Value) (w0:World) (_k:Nat) (W:World):Prop:=W.heap[sb]? = JV (JU #[v] 36 (0,0))∧ac w0.heap.size w0 W
theorem uQ (sb:Nat) (p:Option Addr) (c:Nat) (L:List LT) (w0:World) (hL:L.length≤1000000) (hf:∀ y∈L,y.Fit) (hrow:LK fg w0 (JR p L.length c) L) (hr:Wr.Ready w0) :
  tU 94 #[JS (JV ⟨sb,0,JW⟩)] (fun k=>#[((cI L).getD k entZ).val]) (cI L).length (fun _=>False) (tR sb (JR p L.length c) w0):=by
 intro lp I X wL hIs hXs hK0 hI0 hY;have HYY:=aa hY;have HIS:=aa hIs;clear hIs hXs hY;have c0:=ae hK0.1 0;have HROW:=aa hrow;have HR:=aa hr;have HF:=aa hf;clear hrow hr hf;go_enter func94,ntmps94;go_wp2_with fail
 go_loopg [9] L.length (fun r i wr=>∃ j,j+r=L.length∧i=JO JP (j:Int)∧tR sb (JR p L.length c) w0 (cI (L.take j)).length wr∧Hid (I (cI (L.take j)).length wr))
 case atStart=>exact ⟨0,bM _,rfl,hK0,aa hI0⟩
 case round =>
  obtain ⟨j,hj,rfl,hKp,HI⟩:=hrel;by_cases hlt:j < L.length
  ·obtain ⟨g,o,rfl,hg,hrr⟩:=dc (kk:=3) HROW.out vD rfl mOm;have hge:=ai hlt;have hra:=hrr j _ hge;have hfx:=HF.out _ (bD hlt);generalize L[j]=x at *;have HGE:=aa hge;have hrx:=fun i v hv=>(hKp.2.cell (p:=⟨g,o+j*3+i,JW⟩) hg).trans (hra i v hv)
   have x0:wr.cell? ⟨g,o+j*3,JW⟩=JV (JQ x.key):=hrx 0 _ rfl;have x1:wr.cell? ⟨g,o+j*3+1,JW⟩=JV (JQ x.hash):=hrx 1 _ rfl;have x2:wr.cell? ⟨g,o+j*3+2,JW⟩=JV (JQ x.body):=hrx 2 _ rfl;have i0:(0:Int)≤(j:Int):=mOm;have i1:(j:Int) < (L.length:Int):=mOm;have a1:IntKind.i64.wrap ((j:Int)+1)=(j:Int)+1:=aF _ mOm;have hba:=al wr (JU #[JQ x.key,JQ x.hash,JQ x.body] 69);have hw1:=heap_alloc_new wr (JU #[JQ x.key,JQ x.hash,JQ x.body] 69);obtain ⟨w1,hE1⟩:∃ u,u=wr.alloc (JU #[JQ x.key,JQ x.hash,JQ x.body] 69):=⟨_,rfl⟩;rw [← hE1] at hba hw1;have kd:=uj x.body (by have:=hfx.2.2;omega) w1 (bz HR.out (ah hKp.2 hba));rw [At] at kd;have HKP:=aa hKp;have HHB:=aa hba;have hxn:=ay hw1;have y2:w1.cell? ⟨wr.heap.size,2,JW⟩=JV (JQ x.body):=ae hw1 2;have HYES:=aa (fun h0=>Fa HGE.out h0);have HNO:=aa (fun h0=>GB HGE.out h0);generalize (el x.body.data.toList).1=e at *;generalize (el x.body.data.toList).2=er at *;clear hge hra hrr hfx hrx hKp hba hw1
   go_upto_region 3 with fail
   rw [← hE1];clear hE1 x0 x1 x2;go_wp2_with fail;refine kd.mono ?_;clear kd;rintro _ w2 ⟨rfl,hb2⟩;have hbb:=ah HHB.out hb2;have HB2:=aa hbb;obtain ⟨e0,e1,e2,e3,e4,e5,e6,e7,e8,e9,e10,e11,e12,e13,e14⟩:=e;have hb4:=ah hbb (al w2 (JU #[JO JP e0,JO JP e1,JO JP e2,JO JP e3,JO JP e4,JO JP e5,JQ e6,JO JP e7,JO JP e8,JO JP e9,JO JP e10,JO JP e11,JO JP e12,JO JP e13,JQ e14] 67));have HB4:=aa hb4;clear hb2 hbb hb4 y2;by_cases her:er=0
   rotate_left 1
   ·have t1:(er==0)=false:=by rw [beq_eq_false_iff_ne];exact her
    have HC:=aa (HNO.out her);have HIN:=aa (HIS.out _ _ _ HI.out (LM.of HB4.out));clear HYES HNO her;go_wp2_with fail
    go_roundg (L.length - (j+1))
    case measure=>omega
    case rel=>exact ⟨j+1,mOm,by go_num,⟨HB4.out.heap_of HKP.out.1,ah HKP.out.2 HB4.out⟩,by rw [HC.out];exact HIN⟩
   ·have t1:(er==0)=true:=by rw [beq_iff_eq];exact her
    obtain ⟨hy1,hy2,hy3⟩:=HYES.out her;have hKp4:tR sb (JR (JV ⟨g,o,JW⟩) L.length c) w0 (cI (L.take j)).length (w2.alloc (JU #[JO JP e0,JO JP e1,JO JP e2,JO JP e3,JO JP e4,JO JP e5,JQ e6,JO JP e7,JO JP e8,JO JP e9,JO JP e10,JO JP e11,JO JP e12,JO JP e13,JQ e14] 67)):=⟨HB4.out.heap_of HKP.out.1,ah HKP.out.2 HB4.out⟩;have HC:=aa hy3;obtain ⟨fn,tmps,assign,body,hy,hR⟩:=HYY.out (cI (L.take j)).length wr _ hy1 HI.out (LM.of HB4.out) hKp4 2;rw [hy2] at hy;clear HYES HNO her hy1 hy2 hy3 hKp4
    go_upto_region 4 with fail
    refine (wpIn_wide (n:=3)).1 ?_
    gi_wp2
    refine hR.mono ?_
    clear hR hy;rintro _ w3 (⟨rfl,hI3,hK3,hf3⟩ | ⟨rfl,hX⟩)
    ·have HI3:=aa hI3;have HK3:=aa hK3;clear hI3 hK3 hf3
     gi_wp2
     go_wp2_with fail
     go_roundg (L.length - (j+1))
     case measure=>omega
     case rel=>exact ⟨j+1,mOm,by go_num,by rw [HC.out];exact HK3.out,by rw [HC.out];exact HI3⟩
    ·have HX:=aa hX;clear hX
     gi_wp2
     go_wp2_with fail
     refine bodyPost_ret (results_none rfl _ _ _) rfl ?_;exact ⟨⟨_,rfl⟩,.inr HX.out⟩
  ·obtain rfl:j=L.length:=mOm;have i1:¬ (L.length:Int) < (L.length:Int):=mOm;have HIE:Hid (I (cI L).length wr):=by have:=HI;rwa [aT] at this
   go_wp2_with fail
   go_end0
   exact ⟨⟨_,rfl⟩,.inl HIE.out⟩
end
section
theorem uz (e:Ent):(da e).size≤40:=by
 rw [bw]
 show (fk e++32::l9 e.code).length≤40
 have:=qm e
 rw [ax,bA,kW];omega
theorem rh (l:List Ent):∀ s∈bV l,s.size≤100000000:=fun s hs=>by
 unfold bV at hs;obtain ⟨e,-,rfl⟩:=List.mem_map.1 hs;have:=uz e;omega
theorem CZ (l:List Ent):∀ s∈bG l,s.size≤100000000:=fun s hs=>rh l s ((fG _).mem_iff.1 hs)
theorem sH (l:List Ent) (hok:∀ e∈l,e.Ok) (p:Option Addr) (c:Nat) (w:World) (h:LK bK w (JR p l.length c) l) (hl:l.length≤5000) :
  Calls prog 131 #[JR p l.length c] w fun e w'=>e=JT (.tuple #[JQ (fM (bV l)),JQ (fM (bG l))])∧ac w.heap.size w w':=by
 have k1:=sr l hok p c w h mOm;have hln:(bV l).length=l.length:=by unfold bV;rw [aX]
 have han:(bG l).length=l.length:=by unfold bG;rw [k7,hln]
 have k2:∀ p2 c2 u,LK bL u (JR p2 (bV l).length c2) (bV l)→Calls prog 187 #[JR p2 (bV l).length c2] u fun e w'=>e=JT (JQ (fM (bV l)))∧ac u.heap.size u w':=fun p2 c2 u hu=>rA (bV l) p2 c2 u (rh l) mOm hu
 have k3:∀ p2 c2 u,LK bL u (JR p2 (bV l).length c2) (bV l)→Calls prog 135 #[JR p2 (bV l).length c2] u fun e w'=>∃ v,e=JT v∧LQ bL 1 9 u w' v (bG l):=fun p2 c2 u hu=>pw (bV l) p2 c2 u hu mOm
 have k4:∀ p2 c2 u,LK bL u (JR p2 (bG l).length c2) (bG l)→Calls prog 187 #[JR p2 (bG l).length c2] u fun e w'=>e=JT (JQ (fM (bG l)))∧ac u.heap.size u w':=fun p2 c2 u hu=>rA (bG l) p2 c2 u (CZ l) mOm hu
 clear hok h hln han;generalize fM (bV l)=R1 at *;generalize fM (bG l)=R2 at *;generalize bG l=A at *;generalize bV l=B at *;go_enter func131,ntmps131;go_wp2_with fail;refine k1.mono ?_;rintro _ w1 ⟨v,rfl,hO⟩;obtain ⟨pB,cB,hvB⟩:=hO.form;subst hvB;have hrow:=hO.row eW mDe;have hb1:=hO.low;clear k1 hO;go_wp2_with fail;refine (k2 _ _ _ hrow).mono ?_;rintro _ w2 ⟨rfl,hb2⟩;have hrow2:=hrow.below hb2;have hbz:=ah hb1 hb2;clear hrow hb1 hb2;go_wp2_with fail;refine (k3 _ _ _ hrow2).mono ?_;rintro _ w3 ⟨v,rfl,hO⟩;obtain ⟨pA,cA,hvA⟩:=hO.form;subst hvA;have hrow3:=hO.row eW mDe;have hb3:=ah hbz hO.low;clear hO hrow2;go_wp2_with fail;refine (k4 _ _ _ hrow3).mono ?_;rintro _ w4 ⟨rfl,hb4⟩;have hbF:=ah hb3 hb4;clear hrow3 hb3 hb4 hbz;go_wp2_with fail
 go_ret2
 exact ⟨rfl,hbF⟩
theorem uP (l:List ByteArray):(fM l).size=8:=rfl
theorem rM (l:List Ent) (hok:∀ e∈l,e.Ok) (p:Option Addr) (c:Nat) (w:World) (h:LK bK w (JR p l.length c) l) (hl:l.length≤5000) :
  Calls prog 74 #[JR p l.length c] w fun e w'=>e=JT (JQ (iQ l))∧ac w.heap.size w w':=by
 have k1:=sH l hok p c w h hl;have k2:=fun u=>yL (fM (bV l)) (fM (bG l)) (by rw [uP];omega) (by rw [uP];omega) u
 have HT:Hid (jL (fM (bV l)) (fM (bG l))=iQ l):=aa rfl;generalize iQ l=T at *;generalize fM (bV l)=R1 at *;generalize fM (bG l)=R2 at *;go_enter func74,ntmps74;go_wp2_with fail;refine k1.mono ?_;rintro _ w1 ⟨rfl,hb1⟩;go_wp2_with fail;refine (k2 _).mono ?_;rintro _ w2 ⟨rfl,hb2⟩;have hbF:=ah hb1 hb2;go_wp2_with fail;go_ret;exact ⟨cJ HT.out,hbF⟩
end
section
theorem Ft {e:Ent}:fk e=[]↔¬ dr e=0:=by
 unfold fk
 split
 ·rename_i h
  exact ⟨fun hh=>(by cases hh),fun hh=>absurd h hh⟩
 ·rename_i h
  exact ⟨fun _=>h,fun _=>rfl⟩
theorem zH (l:List Ent) (hok:∀ e∈l,e.Ok) (p:Option Addr) (c:Nat) (w:World) (h:LK bK w (JR p l.length c) l) (hl:l.length≤5000) :
  Calls prog 134 #[JR p l.length c] w (ic (ef l) w):=by
 have HL:=aa h;have HOK:=aa hok;clear h hok;go_enter func134,ntmps134;go_wp2_with fail
 go_loopw [3,4] (fun v i wr=>∃ k:Nat,k≤l.length∧i=JO JP k∧LQ bL 1 9 w wr v ((l.take k).map dE)∧Hid (∀ e∈l.take k,dr e=0)) (fun _ i _=>l.length - (aw i).toNat)
 case atStart=>exact ⟨0,aR _,rfl,LQ.nil _ _ _ _,aa (fun e he=>by cases he)⟩
 case round =>
  obtain ⟨k,hk,rfl,hO,HC⟩:=hrel;obtain ⟨pv,cv,hv⟩:=hO.form;subst hv;by_cases hlt:k < l.length
  ·obtain ⟨g,o,rfl,hg,hrow⟩:=dc (kk:=15) HL.out dH rfl mOm;have hge:=ai hlt;have hra:=hrow k _ hge;have hx:=HOK.out _ (bD hlt);have HMX:=aa (bD hlt);have j1:(k:Int) < (l.length:Int):=mOm;have j2:(0:Int)≤(k:Int):=mOm;have HT:Hid (l.take (k+1)=l.take k++[l[k]]):=aa (by rw [aL,hge];rfl);have hat:wr.rangeAt g (o+k*15) l[k].cells.toList:=fun j v hv=>(hO.low.cell (p:=⟨g,o+k*15+j,JW⟩) hg).trans (hra j v hv)
   have kf:=fun u=>mI l[k] hx u
   have HLM:Hid (((l.take k).map dE).length≤5000):=aa (by rw [aX,aM];omega);generalize l[k]=x at *;have HNEW:Hid ((l.take (k+1)).map dE=(l.take k).map dE++[dE x]):=aa (by rw [HT.out,eX];rfl)
   have HCN:Hid (dr x=0→∀ e∈l.take (k+1),dr e=0):=aa (fun hx e he=>by
    rw [HT.out] at he;rcases bN.1 he with he | he
    ·exact HC.out e he
    ·obtain rfl:=bJ.1 he;exact hx)
   have hkb:(⟨(fk x).toArray⟩:ByteArray)=dE x:=rfl
   rw [hkb] at kf
   have HKE:Hid ((dE x).size=0↔¬ dr x=0):=aa (by
    rw [← Ft,bw]
    show (fk x).length=0↔_
    exact List.length_eq_zero_iff)
   generalize (l.take k).map dE=M at *
   generalize dE x=KB at *;have HO:=aa hO;have HLOW:=aa hO.low;clear hra hrow hge hO hkb hx HC;go_wp2_with ((with_reducible refine wpList_load_mid (op:=⟨_,_,_,_,_,_⟩) ?_ 67 (.tmp 14) ?_ g (o+k*15) ?_ x.cells.toList _ ?_ underlying67 ?_ ?_ ?_);rfl;rfl;rfl;exact hat;rfl;kernel_rfl);refine (kf _).mono ?_;clear kf;rintro _ w2 ⟨rfl,hb2⟩;by_cases hz:KB.size=0
   ·have hz1:KB.toList=[]:=by rw [iw hz,ByteArray.toList_eq]
    have hz2:KB.toList.isEmpty=true:=by rw [hz1];rfl
    have HN:Hid (¬ ef l):=aa (fun hkp=>(HKE.out.1 hz) (hkp.1 _ HMX.out));have hbF:=ah HLOW.out hb2;clear hz hat hb2;go_wp2_with fail;go_ret;exact ⟨false,rfl,⟨fun e=>(by cases e),fun h=>absurd h HN.out⟩,hbF⟩
   ·obtain ⟨hz1,hz2⟩:=jp hz;have HCX:=aa (HCN.out (Classical.byContradiction fun hc=>hz (HKE.out.2 hc)));have hP:=(HO.out.next hb2).next (al w2 (JU #[JQ KB] 9));have hlit:LK bL (w2.alloc (JU #[JQ KB] 9)) (JR (JV ⟨w2.heap.size,0,JW⟩) 1 1) [KB]:=cF (heap_alloc_new w2 _) _ rfl rfl;have hown:=hP.own;have hsz:=hP.low.size;have HP:=aa hP;clear hP HO hb2 hat hz;go_wp2_with (at_builtin;refine bB jY rfl (.tmp 19) (.tmp 21) rfl w.heap.size _ _ M [KB] rfl rfl hown hlit (by have:=HLM.out;simp only [aG];omega) hsz ?_;intro v9 w10 hA9;have H9:=aa (HP.out.app hA9);clear hA9 hown hsz hlit)
    go_roundw
    case rel=>exact ⟨k+1,mOm,by go_num,by rw [HNEW.out];exact H9.out,HCX⟩
    case measure=>simp [aw];omega
  ·obtain rfl:k=l.length:=mOm;have i1:¬ (l.length:Int) < (l.length:Int):=mOm;rw [aT] at hO;have HCL:Hid (∀ e∈l,dr e=0):=by rwa [aT] at HC
   have hrw:=hO.row eW mDe;have hlm:(l.map dE).length≤5000:=by rw [aX];exact hl
   have HLOW:=aa hO.low;rw [aT];have ks:=pw (l.map dE) pv cv wr hrw mOm;have HSL:Hid ((jm (l.map dE)).length≤5000):=aa (by rw [k7];exact hlm);have k2:∀ p2 c2 u,LK bL u (JR p2 (jm (l.map dE)).length c2) (jm (l.map dE))→Calls prog 190 #[JR p2 (jm (l.map dE)).length c2] u (ic (eL (jm (l.map dE))) u):=fun p2 c2 u hu=>qG _ p2 c2 u hu (by have:=HSL.out;omega)
   have HKP:Hid (ef l↔eL (jm (l.map dE))):=aa ⟨fun h=>h.2,fun h=>⟨HCL.out,h⟩⟩;clear hO hrw hlm hlt HC;generalize jm (l.map dE)=SL at *;generalize l.map dE=KL at *;go_wp2_with fail;refine ks.mono ?_;clear ks;rintro _ w2 ⟨v,rfl,hS⟩;obtain ⟨pS,cS,hvS⟩:=hS.form;subst hvS;have hrs:=hS.row eW mDe;have hb2:=ah HLOW.out hS.low;clear hS;go_wp2_with fail;refine (k2 _ _ _ hrs).mono ?_;clear k2 hrs;rintro _ w3 ⟨t,rfl,ht,hb3⟩;have HT:=aa ht;have hbF:=ah hb2 hb3;clear ht hb2 hb3;go_wp2_with fail;go_ret;exact ⟨t,rfl,HT.out.trans HKP.out.symm,hbF⟩
def ni (L:List LT):List Int:=(L.map fun y=>idL y.key.data.toList).filter fun n=>decide (0 < n)
def iD (L:List LT) (ids:List Int):Prop:=∀ n∈ids,n∈ni L
theorem Ih:RowT prog jD 1 3 22 where
 len _:=rfl
 one x u hu:=by simp [jD] at hu;subst hu;rfl
 pos:=mDe
 und:=underlying22
 info:=⟨_,_,rfl,rfl,rfl,mDe,mDe⟩
theorem zJ (L:List LT) (ids:List Int) (pl pi:Option Addr) (cl ci:Nat) (w:World) (h:LK fg w (JR pl L.length cl) L) (hi:LK jD w (JR pi ids.length ci) ids) (hL:L.length≤5000) (hn:ids.length≤100000) :
  Calls prog 76 #[JR pl L.length cl,JR pi ids.length ci] w (ic (iD L ids) w):=by
 have HL:=aa h;have HI:=aa hi;clear h hi;go_enter func76,ntmps76;go_wp2_with fail
 go_loopw [5,6] (fun v i wr=>∃ k:Nat,k≤L.length∧i=JO JP k∧LQ jD 1 3 w wr v (ni (L.take k))) (fun _ i _=>L.length - (aw i).toNat)
 case atStart=>exact ⟨0,aR _,rfl,LQ.nil _ _ _ _⟩
 case round =>
  obtain ⟨k,hk,rfl,hO⟩:=hrel;obtain ⟨pv,cv,hv⟩:=hO.form;subst hv;have HLM:Hid ((ni (L.take k)).length≤5000):=aa (Nat.le_trans (List.length_filter_le _ _) (by rw [aX,aM];omega));by_cases hlt:k < L.length
  ·obtain ⟨g,o,rfl,hg,hrow⟩:=dc (kk:=3) HL.out vD rfl mOm;have hge:=ai hlt;have hra:=hrow k _ hge;have j1:(k:Int) < (L.length:Int):=mOm;have j2:(0:Int)≤(k:Int):=mOm
   have HT:Hid (ni (L.take (k+1))=ni (L.take k)++(if 0 < idL L[k].key.data.toList then [idL L[k].key.data.toList] else [])):=aa (by
    unfold ni;rw [aL,hge,cU,eX,List.filter_append,List.map_singleton]
    congr 1
    by_cases h0:0 < idL L[k].key.data.toList
    ·rw [if_pos h0,List.filter_cons_of_pos (p:=fun n=>decide (0 < n)) (decide_eq_true h0)];rfl
    ·rw [if_neg h0,List.filter_cons_of_neg (p:=fun n=>decide (0 < n)) (by rw [decide_eq_false h0];decide)];rfl)
   have HRX:Hid (∀ u,ac w.heap.size w u→u.rangeAt g (o+k*3) (fg L[k])):=aa (fun u hu j v hv=>(hu.cell (p:=⟨g,o+k*3+j,JW⟩) hg).trans (hra j v hv))
   have kf:=fun u=>yq L[k] u
   generalize L[k]=x at *;generalize idL x.key.data.toList=N at *;generalize ni (L.take k)=M at *;have HO:=aa hO;have hlow:=hO.low;obtain ⟨xk,xh,xb⟩:=x;have y0:wr.cell? ⟨g,o+k*3,JW⟩=JV (JQ xk):=HRX.out _ hlow 0 _ rfl;have y1:wr.cell? ⟨g,o+k*3+1,JW⟩=JV (JQ xh):=HRX.out _ hlow 1 _ rfl;have y2:wr.cell? ⟨g,o+k*3+2,JW⟩=JV (JQ xb):=HRX.out _ hlow 2 _ rfl;have HLOW:=aa hlow;clear hra hrow hge hO hlow;go_wp2_with fail;refine (kf _).mono ?_;rintro _ w2 ⟨rfl,hb2⟩;have hb2w:=ah HLOW.out hb2;have z0:w2.cell? ⟨g,o+k*3,JW⟩=JV (JQ xk):=HRX.out _ hb2w 0 _ rfl;have z1:w2.cell? ⟨g,o+k*3+1,JW⟩=JV (JQ xh):=HRX.out _ hb2w 1 _ rfl;have z2:w2.cell? ⟨g,o+k*3+2,JW⟩=JV (JQ xb):=HRX.out _ hb2w 2 _ rfl;have HB2:=aa hb2;clear y0 y1 y2 hb2 hb2w;by_cases h0:0 < N
   ·rw [if_pos h0] at HT;go_wp2_with fail;refine (kf _).mono ?_;clear kf z0 z1 z2;rintro _ w3 ⟨rfl,hb3⟩;have hP:=((HO.out.next HB2.out).next hb3).next (al w3 (JU #[JO JP N] 3));have hlit:LK jD (w3.alloc (JU #[JO JP N] 3)) (JR (JV ⟨w3.heap.size,0,JW⟩) 1 1) [N]:=cF (heap_alloc_new w3 _) _ rfl rfl;have hown:=hP.own;have hsz:=hP.low.size;have HP:=aa hP;clear hP HO hb3;go_wp2_with (at_builtin;refine bB Ih rfl (.tmp 20) (.tmp 26) rfl w.heap.size _ _ M [N] rfl rfl hown hlit (by have:=HLM.out;simp only [aG];omega) hsz ?_;intro v9 w10 hA9;have H9:=aa (HP.out.app hA9);clear hA9 hown hsz hlit)
    go_roundw
    case rel=>exact ⟨k+1,mOm,by go_num,by rw [HT.out];exact H9.out⟩
    case measure=>simp [aw];omega
   ·rw [if_neg h0,dF] at HT;clear kf;go_wp2_with fail
    go_roundw
    case rel=>exact ⟨k+1,mOm,by go_num,by rw [HT.out];exact HO.out.next HB2.out⟩
    case measure=>simp [aw];omega
  ·obtain rfl:k=L.length:=mOm;have i1:¬ (L.length:Int) < (L.length:Int):=mOm;rw [aT] at hO HLM ⊢;have hrw:=hO.row jP mDe;have HRW:=aa hrw;have HLOW:=aa hO.low;have HID:Hid (∀ n,n∈ni L↔n∈ni L):=aa (fun _=>Iff.rfl);have HKP:Hid (iD L ids↔∀ n∈ids,n∈ni L):=aa Iff.rfl;generalize ni L=M at *;clear hO hrw hlt;obtain ⟨w2,hw2⟩:∃ u,u=wr:=⟨_,rfl⟩;subst hw2;go_wp2_with fail
   go_loopw [7] (fun i wr=>∃ j:Nat,j≤ids.length∧i=JO JP j∧Hid (∀ n∈ids.take j,n∈M)∧ac w2.heap.size w2 wr) (fun i _=>ids.length - (aw i).toNat)
   case atStart=>exact ⟨0,aR _,rfl,aa (fun n hn=>by cases hn),Below.refl _ _⟩
   case round =>
    obtain ⟨j,hj,rfl,HJ,hb⟩:=hrel;by_cases hlt:j < ids.length
    ·obtain ⟨g1,o1,hpi,hbl1,hcv1⟩:=dc (kk:=1) HI.out jP rfl mOm;have hg1:=ai hlt;have hbw:=ah HLOW.out hb;have c01:wr.cell? ⟨g1,o1+j,JW⟩=JV (JO JP ids[j]):=by
      have:=hcv1 j _ hg1 0 _ rfl;rw [Nat.mul_one,ee] at this;exact (hbw.cell (p:=⟨g1,o1+j,JW⟩) hbl1).trans this
     have HT:Hid (ids.take (j+1)=ids.take j++[ids[j]]):=aa (by rw [aL,hg1];rfl)
     have HM:=aa (bD hlt);have kh:=wv M ids[j] pv cv wr (HRW.out.below hb) (by have:=HLM.out;omega);generalize ids[j]=x at *;have j1:(j:Int) < (ids.length:Int):=mOm;have j3:(0:Int)≤(j:Int):=mOm;subst hpi;clear hcv1 hg1;go_wp2_with fail;refine kh.mono ?_;clear kh;rintro _ w3 ⟨rfl,hb3⟩;have hb4:=ah hb hb3;have hb5:=ah hbw hb3;by_cases hx:x∈M
     ·have t1:decide (x∈M)=true:=decide_eq_true hx
      have HN:Hid (∀ n∈ids.take (j+1),n∈M):=aa (fun n hn=>by
       rw [HT.out] at hn;rcases bN.1 hn with hn | hn
       ·exact HJ.out n hn
       ·obtain rfl:=bJ.1 hn;exact hx)
      clear hx
      go_wp2_with fail
      go_roundw
      case rel=>exact ⟨j+1,mOm,by go_num,HN,hb4⟩
      case measure=>simp [aw];omega
     ·have t1:decide (x∈M)=false:=decide_eq_false hx;have HN:Hid (¬ iD L ids):=aa (fun hkp=>hx (HKP.out.1 hkp _ HM.out));clear hx;go_wp2_with fail;go_ret;exact ⟨false,rfl,⟨fun e=>(by cases e),fun h=>absurd h HN.out⟩,hb5⟩
    ·obtain rfl:j=ids.length:=mOm;have i1:¬ (ids.length:Int) < (ids.length:Int):=mOm;have HY:Hid (iD L ids):=aa (HKP.out.2 (by have:=HJ.out;rwa [aT] at this));have hbw:=ah HLOW.out hb;go_wp2_with fail;go_ret;exact ⟨true,rfl,⟨fun _=>HY.out,fun _=>rfl⟩,hbw⟩
end
section
def jt (l:List Ent) (y:LL):Prop:=0≤y.size∧y.size≤l.length∧iQ (l.take y.size.toNat)=y.tree
def kN (R:List LL) (l:List Ent):Prop:=∀ y∈R,jt l y
theorem JI {p:Prop} (h:p:=by
 go_wp2_with fail;refine Jy (S:=fun u=>ac w.heap.size w u) [(0,true),(1,true),(2,true),(3,true),(4,true),(5,true),(6,true),(7,true),(8,true),(9,true),(10,true),(11,true),(13,true),(14,true),(15,true),(16,true),(17,true),(12,false),(18,true),(19,true)] hbD ?_;have hS:=hbD
 iterate 17 (first | refine aj ?_ | refine cN ?_)
 refine gC ⟨_,_,_,_,_,_⟩ rfl mRf hS ?_;refine ar ?_
 iterate 2 (first | refine aj ?_ | refine cN ?_)
 simp only [aO,bj];go_wp2_with fail;go_ret
 exact ⟨false,rfl,⟨fun e=>(by cases e),fun h=>absurd h HN.out⟩,hbD⟩):p:=h
theorem zO (R:List LL) (l:List Ent) (hok:∀ e∈l,e.Ok) (pr p:Option Addr) (cr c:Nat) (w:World) (hr:LK cH w (JR pr R.length cr) R) (h:LK bK w (JR p l.length c) l) (hR:R.length≤1000) (hl:l.length≤5000) :
  Calls prog 185 #[JR pr R.length cr,JR p l.length c] w (ic (kN R l) w):=by
 have HR:=aa hr;have HL:=aa h;have hcap:l.length≤c:=by obtain ⟨p',c',e',h1,_⟩:=h;injection e' with _ _ e3;omega
 have hpn:p=JW→c=0:=by obtain ⟨p',c',e',_,h1,_⟩:=h;injection e' with e1 _ e3;rw [e1,e3];exact h1
 have HPN:=aa hpn;clear hr h hpn;go_enter func185,ntmps185;go_wp2_with fail
 go_loopw [5] (fun i wr=>∃ k:Nat,k≤R.length∧i=JO JP k∧Hid (∀ y∈R.take k,jt l y)∧ac w.heap.size w wr) (fun i _=>R.length - (aw i).toNat)
 case atStart=>exact ⟨0,aR _,rfl,aa (fun y hy=>by cases hy),Below.refl _ _⟩
 case round =>
  obtain ⟨k,hk,rfl,HI,hb⟩:=hrel;by_cases hlt:k < R.length
  ·obtain ⟨g1,o1,hpr,hbl1,hcv1⟩:=dc (kk:=7) HR.out df rfl mOm;have hge:=ai hlt;have hra:=hcv1 k _ hge;have HT:Hid (R.take (k+1)=R.take k++[R[k]]):=aa (by rw [aL,hge];rfl);have HM:=aa (bD hlt);generalize R[k]=y at *;have HRX:Hid (∀ u,ac w.heap.size w u→u.rangeAt g1 (o1+k*7) (cH y)):=aa (fun u hu j v hv=>(hu.cell (p:=⟨g1,o1+k*7+j,JW⟩) hbl1).trans (hra j v hv))
   have HST:Hid (jt l y→∀ z∈R.take (k+1),jt l z):=aa (fun hy z hz=>by
    rw [HT.out] at hz;rcases bN.1 hz with hz | hz
    ·exact HI.out z hz
    ·obtain rfl:=bJ.1 hz;exact hy)
   have HNO:Hid (¬ jt l y→¬ kN R l):=aa (fun hn hm=>hn (hm y HM.out))
   have x1:wr.cell? ⟨g1,o1+k*7+1,JW⟩=JV (JO JP y.size):=HRX.out _ hb 1 _ rfl;have j1:(k:Int) < (R.length:Int):=mOm;have j2:(0:Int)≤(k:Int):=mOm;subst hpr;clear hra hcv1 hge;have hbD:=ah hb (Below.refl _ wr).drew;by_cases hs1:y.size < 0
   ·have HN:Hid (¬ kN R l):=aa (HNO.out (fun h=>by have:=h.1;omega));have t1:decide (y.size < 0)=true:=decide_eq_true hs1;exact JI
   have t1:decide (y.size < 0)=false:=decide_eq_false hs1
   by_cases hs2:(l.length:Int) < y.size
   ·have HN:Hid (¬ kN R l):=aa (HNO.out (fun h=>by have:=h.2.1;omega));have t2:decide ((l.length:Int) < y.size)=true:=decide_eq_true hs2;exact JI
   have t2:decide ((l.length:Int) < y.size)=false:=decide_eq_false hs2
   obtain ⟨n,hn⟩:∃ n:Nat,y.size=n:=⟨y.size.toNat,mOm⟩;have hnl:n≤l.length:=mOm;have hmr:jt l y↔iQ (l.take n)=y.tree:=by
    unfold jt;rw [hn,Int.toNat_natCast];exact ⟨fun h=>h.2.2,fun h=>⟨mOm,mOm,h⟩⟩
   have HMR:=aa hmr
   have htl:(l.take n).length=n:=by rw [aM];omega
   have kt:=fun u (hu:ac w.heap.size w u)=>rM (l.take n) (fun e he=>hok e (List.mem_of_mem_take he)) p c u (by rw [htl];exact ((HL.out.below hu).take rfl hnl)) mOm
   rw [htl] at kt;have KT:=aa kt;generalize iQ (l.take n)=TB at *;have HN9:=aa hn;rw [hn] at x1 hs1 hs2 t1 t2;have n2:(0:Int)≤(n:Int):=mOm;have n3:(n:Int)≤(c:Int):=mOm;have n4:n≤c:=mOm;have keepS:∀ {u v:World},(ac w.heap.size w u∧u.cell? ⟨g1,o1+k*7+3,JW⟩=JV (JQ y.tree))→ac u.heap.size u v→(ac w.heap.size w v∧v.cell? ⟨g1,o1+k*7+3,JW⟩=JV (JQ y.tree)):=fun h hb=>⟨ah h.1 hb,HRX.out _ (ah h.1 hb) 3 _ rfl⟩
   have hS0:ac w.heap.size w wr.drew∧wr.drew.cell? ⟨g1,o1+k*7+3,JW⟩=JV (JQ y.tree):=⟨hbD,HRX.out _ hbD 3 _ rfl⟩;clear hn hmr htl kt hs1 hs2;obtain ⟨bt,hbt⟩:∃ b,b=(TB.toList==y.tree.toList):=⟨_,rfl⟩;have hbe:(TB.toList==y.tree.toList)=bt:=hbt.symm;have hbe2:(TB.toList != y.tree.toList) = !bt:=by rw [bne,hbe]
   have HBT:Hid (bt=true↔TB=y.tree):=aa (by rw [hbt,beq_iff_eq,ba_toList]);have n5:¬ (n:Int) < 0:=mOm;have n6:¬ (l.length:Int) < (n:Int):=mOm;have n7:(n:Int).toNat=n:=mOm;have t2n:decide (l.length < n)=false:=decide_eq_false mOm;clear hbt;go_wp2_with fail;refine Jy (S:=fun u=>ac w.heap.size w u∧u.cell? ⟨g1,o1+k*7+3,JW⟩=JV (JQ y.tree)) [(0,true),(1,true),(2,true),(3,true),(4,true),(5,true),(6,true),(7,true),(8,true),(9,true),(10,true),(11,true),(13,true),(14,true),(15,true),(16,true),(17,true),(12,false),(18,true),(19,true)] hS0 ?_;have hS:=hS0
   iterate 11 refine aj ?_
   refine nE ⟨_,_,_,_,_,_⟩ rfl mRf 34 67 (.tmp 27) (.tmp 28) mRf underlying34 sizeOf67 p l.length c n mRf mRf hnl hcap HPN.out ?_;refine ar ?_
   iterate 5 refine aj ?_
   refine aH 74 call74 (KT.out _ hS.1) ?_;rintro x wn ⟨rfl,hb⟩;replace hS:=keepS hS hb;refine ⟨_,rfl,hS,?_⟩;(try clear hb);refine ar ?_
   iterate 2 refine aj ?_
   simp only [aO,bj];have hbF:=hS.1;clear hS hS0 keepS
   cases bt
   rotate_left 1
   ·have HY:=aa (HST.out (HMR.out.2 (HBT.out.1 rfl)));go_wp2_with fail
    go_roundw
    case rel=>exact ⟨k+1,mOm,by go_num,HY,hbF⟩
    case measure=>simp [aw];omega
   ·have HN:Hid (¬ kN R l):=aa (HNO.out (fun h=>by have:=HBT.out.2 (HMR.out.1 h);cases this));go_wp2_with fail;go_ret;exact ⟨false,rfl,⟨fun e=>(by cases e),fun h=>absurd h HN.out⟩,hbF⟩
  ·obtain rfl:k=R.length:=mOm;have i1:¬ (R.length:Int) < (R.length:Int):=mOm;have HY:Hid (kN R l):=aa (by have:=HI.out;rwa [aT] at this);go_wp2_with fail;go_ret;exact ⟨true,rfl,⟨fun _=>HY.out,fun _=>rfl⟩,hb⟩
end
section
instance (l:List Ent) (y:LL):Decidable (jt l y):=by unfold jt;exact inferInstance
def ju (r:LR) (B:List LL) (l:List Ent) (day:Int):Int:=
 if cP r B ≠ 0 then cP r B
 else if 200≤B.length∨2000 < l.length then 2
 else if l.any (fun e=>!(e.school==r.school))=true then 22
 else if aB day 0 100000=false then 23
 else if l.any (fun e=>decide (day < e.day))=true then 23
 else match B.getLast? with
  | none=>0
  | some y=>if (l.length:Int) < y.size∨day≤y.day then 7 else if ¬ jt l y then 40 else 0
theorem xI {l:List Ent} {p:Ent→Bool} {k:Nat} {x:Ent} (h:l[k]? = JV x) (hk:(l.take k).any p=false):(p x=true→l.any p=true)∧(p x=false→(l.take (k+1)).any p=false):=by
 refine ⟨fun hp=>List.any_eq_true.2 ⟨x,List.mem_of_getElem? h,hp⟩,fun hp=>?_⟩;rw [aL,h,cU,List.any_append,hk,List.any_cons,hp];rfl
theorem yC {R:List LL} {l:List Ent} {y:LL} {k:Nat} (h:R[k]? = JV y) (hk:k+1=R.length):kN (R.drop k) l↔jt l y:=by
 obtain ⟨h1,h2⟩:=ap.1 h;have e:R.drop k=[y]:=by rw [cw h1,h2,List.drop_eq_nil_of_le mOm]
 rw [e]
 exact ⟨fun hm=>hm y (bJ.2 rfl),fun hm z hz=>by obtain rfl:=bJ.1 hz;exact hm⟩
theorem GX (g cg:Nat) (r:LR) (pb:Option Addr) (cb:Nat) (B:List LL) (p:Option Addr) (c:Nat) (l:List Ent) (day:Int) (w:World) (hr:LK cH w (JR pb B.length cb) B) (hok:∀ x∈B,x.Ok) (hB:B.length≤1000000)
  (hE:LK bK w (JR p l.length c) l) (hEok:∀ e∈l,e.Ok) (hll:l.length≤5000) (hk:LV w g r.keys) (hg:g < w.heap.size) (hl:r.keys.length≤1000) (hsz:∀ k∈r.keys,k.secret.size≤100000) (hs:I64 r.school) :
  Calls prog 127 #[.agg #[JO JP r.school,JR (JV ⟨g,0,JW⟩) r.keys.length cg],JR pb B.length cb,JR p l.length c,JO JP day] w fun e w'=>e=JT (JO JP (ju r B l day))∧ac w.heap.size w w':=by
 have kc:=fun u (hb:ac w.heap.size w u)=>tP g cg r pb cb B u (hr.below hb) hok hB (hk.below hb hg) (av hg hb.size) hl hsz hs
 have kmt:=fun (k:Nat) (hk1:k+1=B.length) (a:Addr) (ha:pb=JV a) u (hb:ac w.heap.size w u) (hrow:LK cH u (JR (JV ⟨a.block,a.off+k*7,JW⟩) (B.drop k).length (cb - k)) (B.drop k))=>zO (B.drop k) l hEok (JV ⟨a.block,a.off+k*7,JW⟩) p (cb - k) c u hrow (hE.below hb) (by rw [bF];omega) hll
 have HV:=aa (show ju r B l day=if cP r B ≠ 0 then cP r B
  else if 200≤B.length∨2000 < l.length then 2
  else if l.any (fun e=>!(e.school==r.school))=true then 22
  else if aB day 0 100000=false then 23
  else if l.any (fun e=>decide (day < e.day))=true then 23
  else match B.getLast? with
   | none=>0
   | some y=>if (l.length:Int) < y.size∨day≤y.day then 7 else if ¬ jt l y then 40 else 0 from rfl)
 have hcl:B.length≤cb:=by obtain ⟨_,_,e,h,_⟩:=hr;injection e with _ _ e;omega
 generalize ju r B l day=V at *
 generalize hCK:cP r B=CK at *;clear hCK;have HEL:=aa hE;obtain ⟨rs,kl⟩:=r;simp only at *;have hb0:=al w (JU #[JO JP rs,JR (JV ⟨g,0,JW⟩) kl.length cg] 33);have hh:=heap_alloc_new w (JU #[JO JP rs,JR (JV ⟨g,0,JW⟩) kl.length cg] 33);have kc0:=kc _ hb0;have KM:=aa kmt;have HR:=aa hr;clear kc kmt hk hsz hr hok hE hEok;go_enter func127,ntmps127;go_wp2_with fail;refine kc0.mono ?_;rintro _ w1 ⟨rfl,hb1⟩;have hbw:=ah hb0 hb1;have e1:=(hb1.block _ (ay hh)).trans hh;have r0:w1.cell? ⟨w.heap.size,0,JW⟩=JV (JO JP rs):=ae e1 0;have hrl:=ay e1;clear kc0 hb1 hh e1;by_cases h0:CK=0
 rotate_left 1
 ·have t1:(CK != 0)=true:=by rw [bne_iff_ne];exact h0
  have HV2:Hid (V=CK):=aa (by rw [HV.out,if_pos h0]);clear HV h0;go_wp2_with fail;go_ret;exact ⟨aI HV2.out.symm,hbw⟩
 subst h0
 have HV2:=aa (HV.out.trans (if_neg (fun h=>h rfl)));clear HV;by_cases h2:200≤B.length
 ·have i1:(200:Int)≤(B.length:Int):=mOm;have HV3:Hid (V=2):=aa (HV2.out.trans (if_pos (.inl h2)));clear HV2 h2;go_wp2_with fail;go_ret;exact ⟨aI HV3.out.symm,hbw⟩
 have i1:¬ (200:Int)≤(B.length:Int):=mOm
 by_cases h3:2000 < l.length
 ·have i2:(2000:Int) < (l.length:Int):=mOm;have HV3:Hid (V=2):=aa (HV2.out.trans (if_pos (.inr h3)));clear HV2 h2 h3;go_wp2_with fail;go_ret;exact ⟨aI HV3.out.symm,hbw⟩
 have i2:¬ (2000:Int) < (l.length:Int):=mOm
 have HV3:=aa (HV2.out.trans (if_neg mOm));clear HV2 h2 h3;go_wp2_with fail;clear i1 i2
 go_loopw [10] (fun i wr=>∃ k:Nat,k≤l.length∧i=JO JP k∧Hid ((l.take k).any (fun e=>!(e.school==rs))=false)∧ac w1.heap.size w1 wr) (fun i _=>l.length - (aw i).toNat)
 case atStart=>exact ⟨0,aR _,rfl,aa rfl,Below.refl _ _⟩
 case round =>
  obtain ⟨k,hk,rfl,HI,hb⟩:=hrel;have hbk:=ah hbw hb;by_cases hlt:k < l.length
  ·obtain ⟨lg,lo,hpl,hlg,hrow⟩:=dc (kk:=15) HEL.out dH rfl mOm;have hge:=ai hlt;have hat:=hrow k _ hge;have HA:=aa (xI hge HI.out);have j1:(k:Int) < (l.length:Int):=mOm;have j2:(0:Int)≤(k:Int):=mOm;generalize l[k]=x at *;have q:=fun j=>hbk.cell (p:=⟨lg,j,JW⟩) hlg
   have s0:=(hb.cell (p:=⟨w.heap.size,0,JW⟩) hrl).trans r0;have q1:wr.cell? ⟨lg,lo+k*15+1,JW⟩=JV (JO JP x.school):=(q _).trans (hat 1 _ rfl);have hS0:ac wr.heap.size wr wr.drew∧wr.drew.cell? ⟨lg,lo+k*15+1,JW⟩=JV (JO JP x.school)∧wr.drew.cell? ⟨w.heap.size,0,JW⟩=JV (JO JP rs)∧wr.drew.cell? ⟨w.heap.size,0,JW⟩=JV (JO JP rs):=⟨(Below.refl _ _).drew,q1,s0,s0⟩;subst hpl;clear hat hge q hrow s0 q1;go_wp2_with fail;refine Jy (S:=fun u=>ac wr.heap.size wr u∧u.cell? ⟨lg,lo+k*15+1,JW⟩=JV (JO JP x.school)∧u.cell? ⟨w.heap.size,0,JW⟩=JV (JO JP rs)∧u.cell? ⟨w.heap.size,0,JW⟩=JV (JO JP rs)) [(0,true),(1,true),(2,true),(3,true),(4,true),(5,true),(6,true),(7,true)] hS0 ?_;have hS:=hS0
   iterate 8 refine aj ?_
   simp only [aO,bj];have hbd:=ah hb hS.1;have hbb:=ah hbw hbd;clear hS hS0;by_cases hsc:x.school=rs
   rotate_left 1
   ·have t1:(x.school != rs)=true:=by rw [bne_iff_ne];exact hsc
    have HN:Hid (V=22):=aa (HV3.out.trans (if_pos (HA.out.1 (by rw [beq_eq_false_iff_ne.2 hsc];rfl))));clear hsc;go_wp2_with fail;go_ret;exact ⟨aI HN.out.symm,hbb⟩
   have t1:(x.school != rs)=false:=by rw [bne_eq_false_iff_eq];exact hsc
   have HN:=aa (HA.out.2 (by rw [beq_iff_eq.2 hsc];rfl));clear hsc HA HI;go_wp2_with fail
   go_roundw
   case rel=>exact ⟨k+1,mOm,by go_num,HN,hbd⟩
   case measure=>simp [aw];omega
  ·obtain rfl:k=l.length:=mOm;have k1:¬ (l.length:Int) < (l.length:Int):=mOm;have HV4:=aa (HV3.out.trans (if_neg (by have:=HI.out;rw [aT] at this;rw [this];decide)));clear HV3 HI;obtain ⟨bd,hbd⟩:∃ x,aB day 0 100000=x:=⟨_,rfl⟩;obtain ⟨w2,hw2⟩:∃ u,u=wr:=⟨_,rfl⟩;rw [← hw2] at hb hbk ⊢;clear hw2 r0;go_wp2_with fail;refine (iq _ _).mono ?_;rintro _ _ ⟨rfl,rfl⟩;rw [hbd] at HV4 ⊢;clear hbd
   cases bd
   ·have HV5:Hid (V=23):=aa (HV4.out.trans (if_pos rfl));clear HV4;go_wp2_with fail;go_ret;exact ⟨aI HV5.out.symm,hbk⟩
   have HV5:=aa (HV4.out.trans (if_neg mSi))
   clear HV4 k1;go_wp2_with fail
   go_loopw [12] (fun i wr=>∃ k:Nat,k≤l.length∧i=JO JP k∧Hid ((l.take k).any (fun e=>decide (day < e.day))=false)∧ac w2.heap.size w2 wr) (fun i _=>l.length - (aw i).toNat)
   case atStart=>exact ⟨0,aR _,rfl,aa rfl,Below.refl _ _⟩
   case round =>
    obtain ⟨k,hk,rfl,HI,hb3⟩:=hrel;have hbk3:=ah hbk hb3;by_cases hlt:k < l.length
    ·obtain ⟨lg,lo,hpl,hlg,hrow⟩:=dc (kk:=15) HEL.out dH rfl mOm;have hge:=ai hlt;have hat:=hrow k _ hge;have HA:=aa (xI hge HI.out);have j1:(k:Int) < (l.length:Int):=mOm;have j2:(0:Int)≤(k:Int):=mOm;generalize l[k]=x at *;have q4:wr.cell? ⟨lg,lo+k*15+4,JW⟩=JV (JO JP x.day):=(hbk3.cell (p:=⟨lg,lo+k*15+4,JW⟩) hlg).trans (hat 4 _ rfl);subst hpl;clear hat hge hrow;by_cases hsc:day < x.day
     ·have t1:decide (day < x.day)=true:=decide_eq_true hsc;have HN:Hid (V=23):=aa (HV5.out.trans (if_pos (HA.out.1 t1)));go_wp2_with fail;go_ret;exact ⟨aI HN.out.symm,hbk3⟩
     have t1:decide (day < x.day)=false:=decide_eq_false hsc
     have HN:=aa (HA.out.2 t1);clear HA HI;go_wp2_with fail
     go_roundw
     case rel=>exact ⟨k+1,mOm,by go_num,HN,hb3⟩
     case measure=>simp [aw];omega
    ·obtain rfl:k=l.length:=mOm;have k1:¬ (l.length:Int) < (l.length:Int):=mOm;have HV6:=aa (HV5.out.trans (if_neg (by have:=HI.out;rw [aT] at this;rw [this];decide)));clear HV5 HI;by_cases hz:B.length=0
     ·have t0:((B.length:Int)==0)=true:=by rw [beq_iff_eq];omega
      have HN:Hid (V=0):=aa (by rw [HV6.out,List.eq_nil_of_length_eq_zero hz];rfl);clear hz;go_wp2_with fail;go_ret;exact ⟨aI HN.out.symm,hbk3⟩
     have t0:((B.length:Int)==0)=false:=by rw [beq_eq_false_iff_ne];omega
     obtain ⟨m,hm⟩:∃ m,m+1=B.length:=⟨B.length - 1,mOm⟩;have hlt2:m < B.length:=mOm;obtain ⟨bg,bo,hpb,hbg,hrowb⟩:=dc (kk:=7) HR.out df rfl mOm;have hgb:=ai hlt2;have hatb:=hrowb m _ hgb;have HLS:=aa (show B.getLast? = JV B[m] by rw [List.getLast?_eq_getElem?,← hm,Nat.add_sub_cancel];exact hgb);have HML:=aa (yC (l:=l) hgb hm);have j1:(m:Int) < (B.length:Int):=mOm;have j2:(0:Int)≤(m:Int):=mOm;have j3:(m:Int)≤(B.length:Int):=mOm;have j4:(m:Int)≤(cb:Int):=mOm;have j5:¬ cb=m:=mOm;have j6:m < cb:=mOm;have a1:IntKind.i64.wrap ((B.length:Int) - 1)=(m:Int):=by rw [show (B.length:Int) - 1=(m:Int) by omega];exact eR _ _ rfl mOm
     have hdl:(B.drop m).length=1:=by rw [bF];omega
     have hd9:B.length - m=1:=mOm;rw [hpb] at HR;have hrd:=LK.drop HR.out df (Nat.le_of_lt hlt2);rw [← bF] at hrd;have HRD:=aa hrd;have hkm:=fun u (hu:ac w.heap.size w u)=>KM.out m hm ⟨bg,bo,JW⟩ hpb u hu (HRD.out.below hu)
     rw [hdl] at hkm;have HKM:=aa hkm;rw [HLS.out] at HV6;generalize B[m]=y at *;obtain ⟨ysc,ysz,ydy,ytr,ybf,yky,ymk⟩:=y;have q:=fun j=>hbk3.cell (p:=⟨bg,j,JW⟩) hbg
     have q0:=(q _).trans (hatb 0 _ rfl);have q1:=(q _).trans (hatb 1 _ rfl);have q2:=(q _).trans (hatb 2 _ rfl);have q3:=(q _).trans (hatb 3 _ rfl);have q4:=(q _).trans (hatb 4 _ rfl);have q5:=(q _).trans (hatb 5 _ rfl);have q6:=(q _).trans (hatb 6 _ rfl);rw [ee] at q0;have hba:=al wr (JU #[JO JP ysc,JO JP ysz,JO JP ydy,JQ ytr,JQ ybf,JO JP yky,JQ ymk] 65);have hbz:=ah hbk3 hba;have HMZ:=aa (HKM.out _ hbz);subst hpb;clear hatb hrowb hgb q hrd hkm KM HKM HR HLS hba hdl;by_cases h5:(l.length:Int) < ysz
     ·have HN:Hid (V=7):=aa (HV6.out.trans (if_pos (.inl h5)));clear HV6 HMZ HML;go_wp2_with fail;go_ret;exact ⟨aI HN.out.symm,hbz⟩
     by_cases h6:day≤ydy
     ·have HN:Hid (V=7):=aa (HV6.out.trans (if_pos (.inr h6)));clear HV6 HMZ HML;go_wp2_with fail;go_ret;exact ⟨aI HN.out.symm,hbz⟩
     have HV7:=aa (HV6.out.trans (if_neg (fun h=>by rcases h with h | h;exact h5 h;exact h6 h)))
     clear HV6;go_wp2_with fail;refine HMZ.out.mono ?_;clear HMZ;rintro _ w9 ⟨t,rfl,ht,hb9⟩;have HT:=aa ht;have hbF:=ah hbz hb9;clear ht
     cases t
     ·have HN:Hid (V=40):=aa (HV7.out.trans (if_pos (fun hm=>by have:=HT.out.2 (HML.out.2 hm);cases this)));go_wp2_with fail;go_ret;exact ⟨aI HN.out.symm,hbF⟩
     ·have HN:Hid (V=0):=aa (HV7.out.trans (if_neg (fun hm=>hm (HML.out.1 (HT.out.1 rfl)))));go_wp2_with fail;go_ret;exact ⟨aI HN.out.symm,hbF⟩
end
section
abbrev TE:=Ent×Nat
instance:Inhabited Ent:=⟨entZ⟩
def ek (x:TE):List Value:=x.1.cells.toList
def xF (w w':World):Prop:=∃ q os,w'=Go.Sort.grow (w.drewN q) os
def mW (x y:TE):Int:=Lib.compareInt x.1.id y.1.id
def ltT:TE→TE→Bool:=ltL Ent.id
theorem jl:SWO ltT:=IF
theorem rR (x y:TE):decide (mW x y < 0)=ltI Ent.id x y:=by
 unfold mW ltI Lib.compareInt
 split
 ·rename_i h;simp [h]
 ·rename_i h
  split <;> simp [h]
theorem lU (r:Ent):r.cells.all (·.oneCell')=true:=by simp [Ent.cells,Value.oneCell']
theorem eK {oi:Oper} (a:Act) (x:Operand) (ho:oi.op=.load 67 x) (w:World) (g o:Nat) (r:Ent) (hr:w.rangeAt g o r.cells.toList) (hx:a.eval x=JS (JV ⟨g,o,JW⟩)):(execOp a.eval oi).run prog w=.ok (.value r.val) w:=by have hl:(Instr.loadAt 67 (JS (JV ⟨g,o,JW⟩))).run prog w=.ok r.val w:=run_loadAt_mid w g o 67 r.cells.toList _ hr underlying67 rfl mKr;unfold execOp;simp only [ho,hx,Sem.run_bind,Sem.run_pure,hl,Result.andThen_ok]
attribute [local go_sem] Ent.cells
theorem pY (a b:TE) (w:World):Calls prog 50 #[a.1.val,b.1.val] w fun x w'=>x=JT (JO JP (mW a b))∧xF w w':=by
 have g2:xF w ((w.alloc (JU #[JO JP a.1.id,JO JP a.1.school,JO JP a.1.student,JO JP a.1.kind,JO JP a.1.day,JO JP a.1.on,JQ a.1.course,JO JP a.1.credits,JO JP a.1.grade,JO JP a.1.ref,JO JP a.1.fro,JO JP a.1.programme,JO JP a.1.version,JO JP a.1.key,JQ a.1.mark] 67)).alloc (JU #[JO JP b.1.id,JO JP b.1.school,JO JP b.1.student,JO JP b.1.kind,JO JP b.1.day,JO JP b.1.on,JQ b.1.course,JO JP b.1.credits,JO JP b.1.grade,JO JP b.1.ref,JO JP b.1.fro,JO JP b.1.programme,JO JP b.1.version,JO JP b.1.key,JQ b.1.mark] 67)):=⟨0,#[JU #[JO JP a.1.id,JO JP a.1.school,JO JP a.1.student,JO JP a.1.kind,JO JP a.1.day,JO JP a.1.on,JQ a.1.course,JO JP a.1.credits,JO JP a.1.grade,JO JP a.1.ref,JO JP a.1.fro,JO JP a.1.programme,JO JP a.1.version,JO JP a.1.key,JQ a.1.mark] 67,JU #[JO JP b.1.id,JO JP b.1.school,JO JP b.1.student,JO JP b.1.kind,JO JP b.1.day,JO JP b.1.on,JQ b.1.course,JO JP b.1.credits,JO JP b.1.grade,JO JP b.1.ref,JO JP b.1.fro,JO JP b.1.programme,JO JP b.1.version,JO JP b.1.key,JQ b.1.mark] 67],by rw [Go.Sort.alloc_eq_grow,Go.Sort.alloc_eq_grow,Go.Sort.grow_grow];rfl⟩;have h1:=eG (heap_alloc_new w (JU #[JO JP a.1.id,JO JP a.1.school,JO JP a.1.student,JO JP a.1.kind,JO JP a.1.day,JO JP a.1.on,JQ a.1.course,JO JP a.1.credits,JO JP a.1.grade,JO JP a.1.ref,JO JP a.1.fro,JO JP a.1.programme,JO JP a.1.version,JO JP a.1.key,JQ a.1.mark] 67)) (JU #[JO JP b.1.id,JO JP b.1.school,JO JP b.1.student,JO JP b.1.kind,JO JP b.1.day,JO JP b.1.on,JQ b.1.course,JO JP b.1.credits,JO JP b.1.grade,JO JP b.1.ref,JO JP b.1.fro,JO JP b.1.programme,JO JP b.1.version,JO JP b.1.key,JQ b.1.mark] 67);have h2:=heap_alloc_new (w.alloc (JU #[JO JP a.1.id,JO JP a.1.school,JO JP a.1.student,JO JP a.1.kind,JO JP a.1.day,JO JP a.1.on,JQ a.1.course,JO JP a.1.credits,JO JP a.1.grade,JO JP a.1.ref,JO JP a.1.fro,JO JP a.1.programme,JO JP a.1.version,JO JP a.1.key,JQ a.1.mark] 67)) (JU #[JO JP b.1.id,JO JP b.1.school,JO JP b.1.student,JO JP b.1.kind,JO JP b.1.day,JO JP b.1.on,JQ b.1.course,JO JP b.1.credits,JO JP b.1.grade,JO JP b.1.ref,JO JP b.1.fro,JO JP b.1.programme,JO JP b.1.version,JO JP b.1.key,JQ b.1.mark] 67);rw [size_alloc] at h2;obtain ⟨W,hW⟩:∃ u,u=(w.alloc (JU #[JO JP a.1.id,JO JP a.1.school,JO JP a.1.student,JO JP a.1.kind,JO JP a.1.day,JO JP a.1.on,JQ a.1.course,JO JP a.1.credits,JO JP a.1.grade,JO JP a.1.ref,JO JP a.1.fro,JO JP a.1.programme,JO JP a.1.version,JO JP a.1.key,JQ a.1.mark] 67)).alloc (JU #[JO JP b.1.id,JO JP b.1.school,JO JP b.1.student,JO JP b.1.kind,JO JP b.1.day,JO JP b.1.on,JQ b.1.course,JO JP b.1.credits,JO JP b.1.grade,JO JP b.1.ref,JO JP b.1.fro,JO JP b.1.programme,JO JP b.1.version,JO JP b.1.key,JQ b.1.mark] 67):=⟨_,rfl⟩;rw [← hW] at g2 h1 h2;have z0:W.cell? ⟨w.heap.size,0,JW⟩=JV (JO JP a.1.id):=ae h1 0;have z1:W.cell? ⟨w.heap.size+1,0,JW⟩=JV (JO JP b.1.id):=ae h2 0;clear h1 h2;go_enter func50,ntmps50
 go_upto_region 1 with fail
 rw [← hW];clear hW;go_wp2_with fail;refine (Tryz.cmp_Compare_int _ _ _).mono ?_;rintro x w1 ⟨rfl,rfl⟩;go_wp2_with fail;go_ret;exact ⟨rfl,g2⟩
end
section
theorem vA (P A S:List TE) (a b:Nat) (ha:P.length=a) (hb:a+A.length=b):∃ C,Go.Sort.insertionSort ltT (aq (P++(A++S))) a b=aq (P++(C++S))∧C.Perm A∧Srt ltT C:=by
 obtain ⟨⟨h1,h2,h3⟩,h4⟩:=insertionSort_holds (lt:=ltT) jl (aq (P++(A++S))) a b mOm (by simp;omega);generalize Go.Sort.insertionSort ltT (aq (P++(A++S))) a b=d at h1 h2 h3 h4;obtain ⟨L⟩:=d;have hl:L.length=a+A.length+S.length:=by
  have:L.length=(P++(A++S)).length:=by simpa using h1
  rw [this];simp;omega
 have hget:∀ i,i < a∨b≤i→L[i]? = (P++(A++S))[i]?:=by
  intro i hi;have hll:(P++(A++S)).length=L.length:=by rw [hl];simp;omega
  by_cases hlt:i < L.length
  ·have:=h2 i hi;rw [getElem!_pos _ _ (by simpa using hlt),getElem!_pos _ _ (by rw [dz];omega)] at this;rw [ai hlt,ai mOm];exact congrArg JV (by simpa using this)
  ·rw [dG mOm,dG mOm]
 have e:L=P++((L.drop a).take A.length++S):=by
  apply List.ext_getElem?;intro i;by_cases c1:i < a
  ·rw [hget i (.inl c1),bl mOm,bl mOm]
  ·by_cases c2:i < b
   ·rw [aK mOm,bl (by simp;omega),List.getElem?_take,if_pos mOm,List.getElem?_drop,show a+(i - P.length)=i by omega]
   ·rw [hget i (.inr mOm),aK mOm,aK mOm,aK mOm,aK (by simp;omega)]
    congr 1
    simp
    omega
 refine ⟨(L.drop a).take A.length,congrArg aq e,?_,?_⟩
 ·have e2:b - a=A.length:=mOm;have e3:((P++(A++S)).drop a).take A.length=A:=by rw [← ha];simp
  simpa [List.extract_eq_take_drop,e2,e3] using h3
 ·refine List.pairwise_iff_getElem.2 fun i j hi hj hij=>?_
  have hj':j < A.length:=by simp at hj;omega
  have:=h4 (a+i) (a+j) mOm mOm mOm;rw [getElem!_pos _ _ (by rw [dz];omega),getElem!_pos _ _ (by rw [dz];omega)] at this
  simpa using this
theorem DH:ltOf mW=ltI Ent.id:=funext fun x=>funext fun y=>rR x y
theorem sX (blk cap a b:Nat) (d:Array TE) (w:World) (hH:HoldsK ek 15 w blk 0 d) (hblk:blk < w.heap.size) (hab:a≤b) (hb:b≤d.size) (hsz:d.size < 4611686018427387904) (ht:xH d a b) :
  Calls prog 178 #[JR (JV ⟨blk,0,JW⟩) d.size cap,JO JP a,JO JP b,.func (.func 50) #[] #[]] w fun e w' =>
   e=JT (.tuple #[])∧∃ n os,w'=sortWorldK ek 15 w blk 0 n (Go.Sort.insertionSort ltT d a b) os:=by
 have h:=AnyQ.insertionSortCmpFunc (P:=prog) (ρ:=Tryz.insEnt_ren) { Tryz.insEnt with } 15 isAgg67 sizeOf67 ek (fun _=>rfl) (fun x v hv=>by
   simp [ek,Ent.cells] at hv
   rcases hv with rfl | rfl | rfl | rfl | rfl | rfl | rfl | rfl | rfl | rfl | rfl | rfl | rfl | rfl | rfl <;> rfl) mW 50 #[] blk 0 cap a b d w (enters_of func50 mKr rfl)
  (fun m os dk _ x y=>pY x y _) hH hblk hab hb hsz
 rw [DH,vB hb ht] at h
 exact h
theorem uW (p:Option Addr) (n cap:Nat) (W:World) (Q:World→Prop) (hn:n≤19)
  (ci:Calls prog 178 #[JR p n cap,JO JP 0,JO JP n,.func (.func 50) #[] #[]] W fun e w'=>e=JT (.tuple #[])∧Q w') :
  Calls prog 49 #[JR p n cap,.func (.func 50) #[] #[]] W fun e w'=>e=JT (.tuple #[])∧Q w':=by
 have hs:Calls prog 113 #[JR p n cap,JO JP n,.func (.func 50) #[] #[]] W fun e w'=>e=JT (.tuple #[])∧Q w':=by
  have h20:decide ((20:Int)≤(n:Int))=false:=by rw [decide_eq_false_iff_not];omega
  have h20':decide ((20:Int) < (n:Int))=false:=by rw [decide_eq_false_iff_not];omega
  go_enter func113,ntmps113;go_wp2_with fail;refine wp_loop_rounds 1 ?_;rw [rounds_succ];go_wp2_with fail;refine ci.mono ?_;rintro _ w1 ⟨rfl,hQ⟩;go_wp2_with fail;refine wp_loop_rounds 1 ?_;rw [rounds_succ];go_wp2_with fail;exact ⟨rfl,_,results_none rfl _ _ _,rfl,hQ⟩
 go_enter func49,ntmps49
 go_wp2_with fail;refine hs.mono ?_;rintro _ w1 ⟨rfl,hQ⟩;go_wp2_with fail;exact ⟨rfl,_,results_none rfl _ _ _,rfl,hQ⟩
theorem AO {L:List Ent} {p:Nat} {x:TE} (h:L.zipIdx[p]? = JV x):x.2=p:=by rw [List.getElem?_zipIdx] at h;obtain ⟨a,_,rfl⟩:=Option.map_eq_some_iff.1 h;exact bM p
def IY (N:Nat):Prop:=∀ (blk cap:Nat) (L:List Ent) (W:World),HoldsK ek 15 W blk 0 (aq L.zipIdx)→blk < W.heap.size→L.length≤N→
  Calls prog 49 #[JR (JV ⟨blk,0,JW⟩) L.length cap,.func (.func 50) #[] #[]] W fun e w'=>e=JT (.tuple #[])∧∃ k os ts,w'=sortWorldK ek 15 W blk 0 k (aq ts) os∧ts.Perm L.zipIdx∧Srt ltT ts
theorem vQ {X:List TE} {a b:Nat} (hb:b≤X.length) (h:∀ (p q:Nat) (x y:TE),a≤p→p < q→X[p]? = JV x→X[q]? = JV y→x.2 < y.2):xH (aq X) a b:=by
 intro p q hap hpq hqb;rw [getElem!_pos _ _ (by rw [dz];omega),getElem!_pos _ _ (by rw [dz];omega)];have h1:p < X.length:=mOm;have h2:q < X.length:=mOm;have:=h p q _ _ hap hpq (ai h1) (ai h2)
 simpa using this
theorem il:IY 19:=fun blk cap L W hH hblk hl=>by
 have hzl:L.zipIdx.length=L.length:=List.length_zipIdx;have hT0:∀ (p q:Nat) (x y:TE),p < q→L.zipIdx[p]? = JV x→L.zipIdx[q]? = JV y→x.2 < y.2:=fun p q x y hpq hx hy=>by rw [AO hx,AO hy];exact hpq
 rw [← hzl] at hl ⊢;generalize L.zipIdx=ks at *;have ci:=sX blk cap 0 ks.length ks.toArray W hH hblk (aR _) mSi (by simp;omega) (vQ mOm fun p q x y _ hpq hx hy=>hT0 p q x y hpq hx hy);obtain ⟨C,i1,pC,sC⟩:=vA [] ks [] 0 ks.length rfl mSi;simp only [List.nil_append,dF] at i1;rw [i1] at ci;simp only [dz] at ci
 exact uW (JV ⟨blk,0,JW⟩) ks.length cap W (fun w'=>∃ k os ts,w'=sortWorldK ek 15 W blk 0 k (aq ts) os∧ts.Perm ks∧Srt ltT ts) mOm
  (ci.mono fun e w' ⟨he,n,os,hw⟩=>⟨he,n,os,C,hw,pC,sC⟩)
end
section
theorem Ag (l:List Ent) (p:Option Addr) (c:Nat) (st fi la bits:Int) (w:World) (h:LK bK w (JR p l.length c) l) (hl:l.length≤100000) :
  Calls prog 35 #[JR p l.length c,JO JP st,JO JP fi,JO JP la,JO JP bits] w fun e w'=>∃ v,e=JT v∧∃ ids:List Int,ids.length≤l.length∧LQ jD 1 3 w w' v ids:=by
 have HL:=aa h;clear h;go_enter func35,ntmps35;go_wp2_with fail
 go_loopw [11,12] (fun v i wr=>∃ (k:Nat) (ids:List Int),k≤l.length∧ids.length≤k∧i=JO JP k∧LQ jD 1 3 w wr v ids) (fun _ i _=>l.length - (aw i).toNat)
 case atStart=>exact ⟨0,[],aR _,aR _,rfl,LQ.nil _ _ _ _⟩
 case round =>
  obtain ⟨k,ids,hk,hik,rfl,hO⟩:=hrel;obtain ⟨pv,cv,hv⟩:=hO.form;subst hv;by_cases hlt:k < l.length
  ·obtain ⟨g,o,rfl,hg,hrow⟩:=dc (kk:=15) HL.out dH rfl mOm;have hge:=ai hlt;have hra:=hrow k _ hge;have j1:(k:Int) < (l.length:Int):=mOm;have j2:(0:Int)≤(k:Int):=mOm;generalize l[k]=x at *;have hlow:=hO.low;have x0:wr.cell? ⟨g,o+k*15,JW⟩=JV (JO JP x.id):=(hlow.cell (p:=⟨g,o+k*15,JW⟩) hg).trans (hra 0 _ rfl);have x2:wr.cell? ⟨g,o+k*15+2,JW⟩=JV (JO JP x.student):=(hlow.cell (p:=⟨g,o+k*15+2,JW⟩) hg).trans (hra 2 _ rfl);have x5:wr.cell? ⟨g,o+k*15+5,JW⟩=JV (JO JP x.on):=(hlow.cell (p:=⟨g,o+k*15+5,JW⟩) hg).trans (hra 5 _ rfl);have HO:=aa hO;clear hra hrow hge hO hlow
   go_upto_region 5 with fail
   go_cut [51] (fun v wx=>∃ b:Bool,v=.bool b∧wx=wr)
   case first =>
    obtain ⟨m,hm⟩:∃ m:Nat,(k:Int).tmod 30=(m:Int)∧m≤30:=⟨k%30,by rw [Int.tmod_eq_emod_of_nonneg mOm];omega,mOm⟩;have hm1:=hm.1;have m0:(0:Int)≤(m:Int):=mOm;have m1:(m:Int)≤64:=mOm;obtain ⟨s,hs⟩:∃ s,binOp .shr 3 (JO JP bits) (JO JP (m:Int))=pure (JO JP s):=⟨_,by rw [binOp_shr];exact shift_shr_i64 _ _ _ m0 m1⟩;obtain ⟨z,hz⟩:∃ z,binOp .and 3 (JO JP s) (JO JP 1)=pure (JO JP z):=⟨_,rfl⟩;clear hm;by_cases h2:x.student=st
    rotate_left 1
    ·have t2:(x.student==st)=false:=by rw [beq_eq_false_iff_ne];exact h2
     go_wp2_with fail
     go_meet
     case rel=>exact ⟨_,rfl,rfl⟩
    have t2:(x.student==st)=true:=by rw [beq_iff_eq];exact h2
    by_cases h5:fi≤x.on
    rotate_left 1
    ·have t5:decide (fi≤x.on)=false:=decide_eq_false h5;clear h2;go_wp2_with fail
     go_meet
     case rel=>exact ⟨_,rfl,rfl⟩
    have t5:decide (fi≤x.on)=true:=decide_eq_true h5
    by_cases h6:x.on≤la
    rotate_left 1
    ·have t6:decide (x.on≤la)=false:=decide_eq_false h6;clear h2;go_wp2_with fail
     go_meet
     case rel=>exact ⟨_,rfl,rfl⟩
    have t6:decide (x.on≤la)=true:=decide_eq_true h6
    clear h2;go_wp2_with fail
    go_meet
    case rel=>exact ⟨_,rfl,rfl⟩
   case rest =>
    obtain ⟨b,rfl,rfl⟩:=hcut
    cases b
    ·go_wp2_with fail
     go_roundw
     case rel=>exact ⟨k+1,ids,mOm,mOm,by go_num,HO.out⟩
     case measure=>simp [aw];omega
    ·have hP:=HO.out.next (al wc (JU #[JO JP x.id] 3));have hlit:LK jD (wc.alloc (JU #[JO JP x.id] 3)) (JR (JV ⟨wc.heap.size,0,JW⟩) 1 1) [x.id]:=cF (heap_alloc_new wc _) _ rfl rfl;have hown:=hP.own;have hsz:=hP.low.size;have HP:=aa hP;clear hP;go_wp2_with (at_builtin;refine bB Ih rfl (.tmp 52) (.tmp 58) rfl w.heap.size _ _ ids [x.id] rfl rfl hown hlit (by simp only [aG];omega) hsz ?_;intro v9 w10 hA9;have H9:=aa (HP.out.app hA9);clear hA9 hown hsz hlit)
     go_roundw
     case rel=>exact ⟨k+1,ids++[x.id],mOm,by rw [ax,aG];omega,by go_num,H9.out⟩
     case measure=>simp [aw];omega
  ·obtain rfl:k=l.length:=mOm;have i1:¬ (l.length:Int) < (l.length:Int):=mOm;have HO:=aa hO;clear hO;go_wp2_with fail;go_ret;exact ⟨_,rfl,ids,hik,HO.out⟩
