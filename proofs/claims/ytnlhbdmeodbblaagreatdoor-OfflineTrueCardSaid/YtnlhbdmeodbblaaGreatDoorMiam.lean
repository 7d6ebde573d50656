/- Lemmas. -/
import Derived.Test.YtnlhbdmeodbblaaGreatDoorMial
import Derived.Test.YtnlhbdmeodbblaaGreatDoorMiah
set_option maxRecDepth 100000
set_option maxHeartbeats 16000000
set_option linter.all false
open Go.Proofs.Tryz
open Bool renaming and_eq_true→aW
open Int renaming toNat_natCast→cm
open Go.IntWalk renaming i64_in→aF
open Go.Lib renaming cell_of_heap→ae,frozen_of_heap→aE,hid→aa,itoa→di
open List renaming drop_eq_getElem_cons→cw,drop_length→jn,flatMap_cons→iS,getD_eq_getElem?_getD→bi,getElem?_eq_getElem→ai,getElem?_eq_some_iff→ap,getElem?_map→fo,length_cons→bA,length_nil→cu,length_take→aM,take_add_one→aL,take_length→aT
open Nat renaming le_refl→aD,lt_of_lt_of_le→av,zero_le→aR
open Go.RowKit renaming Below→ac,intOf→aw
open Go.World renaming block_lt_of_cell?→am
open Go.Ending renaming returned→JT
open Go.IntKind renaming i64→JP
open Go.Obj renaming cells→JU
open Go.Value renaming int→JO,string→JQ,slice→JR,pointer→JS
open Option renaming some→JV,none→JW
namespace Go.Proofs.YtnlhbdmeodbblaaGreatDoor
open Go Go.RowKit Go.Sort Go.Lib
section
theorem iw {s:ByteArray} (h:s.size=0):s=⟨#[]⟩:=dl (by have:=bw s;rw [h] at this;rw [List.eq_nil_of_length_eq_zero this.symm])
theorem jp {s:ByteArray} (h:¬ s.size=0):s.toList ≠ []∧s.toList.isEmpty=false:=by
 have h2:s.toList ≠ []:=fun e=>h (by rw [bw,← ByteArray.toList_eq,e];rfl)
 exact ⟨h2,by rw [Bool.eq_false_iff];simpa using h2⟩
theorem iZ {a b:ByteArray} (h:a ≠ b):(a.toList==b.toList)=false:=by rw [beq_eq_false_iff_ne];exact fun e=>h (ba_toList.1 e)
def ij (n:Nat):UInt8:=if n < 10 then UInt8.ofNat (48+n) else UInt8.ofNat (87+n)
def eY (l:List UInt8):List UInt8:=l.flatMap fun c=>[ij (c.toNat / 16),ij (c.toNat%16)]
def l9 (b:List UInt8):List UInt8:=eY (dg b)
def iC (b:ByteArray):ByteArray:=⟨(l9 b.data.toList).toArray⟩
def da (e:Ent):ByteArray:=⟨(fk e++32::l9 e.code).toArray⟩
theorem qc (l:List UInt8):(eY l).length=2*l.length:=by
 unfold eY
 induction l with
 | nil=>rfl
 | cons c l ih=>rw [iS,List.length_append,ih];simp only [bA,cu];omega
theorem kW (b:List UInt8):(l9 b).length=16:=by unfold l9;rw [qc];rfl
def dP (st fi la:Int):Prop:=1≤st∧st≤999999∧0≤fi∧fi≤la∧la≤100000
def loB (st fi:Int):ByteArray:=⟨(cV st.toNat++32::(cV fi.toNat++[32])).toArray⟩
def hiB (st la:Int):ByteArray:=loB st (la+1)
def L9 (s:ByteArray) (n:Nat):Prop:=n≤999999∧s.data.toList=di (n:Int)
theorem L9.inj {s:ByteArray} {m n:Nat} (h:L9 s m) (h2:L9 s n):m=n:=by have:=Fr (h.2.symm.trans h2.2);omega
structure LT where
 key:ByteArray
 hash:ByteArray
 body:ByteArray
@[reducible] def LT.val (x:LT):Value:=.agg #[JQ x.key,JQ x.hash,JQ x.body]
def fg (x:LT):List Value:=[JQ x.key,JQ x.hash,JQ x.body]
structure LL where
 school:Int
 size:Int
 day:Int
 tree:ByteArray
 before:ByteArray
 key:Int
 mark:ByteArray
@[reducible] def LL.val (x:LL):Value:=.agg #[JO JP x.school,JO JP x.size,JO JP x.day,JQ x.tree,JQ x.before,JO JP x.key,JQ x.mark]
def cH (x:LL):List Value:=[JO JP x.school,JO JP x.size,JO JP x.day,JQ x.tree,JQ x.before,JO JP x.key,JQ x.mark]
def kD (x:LU):List Value:=[JO JP x.id,JQ x.secret,JO JP x.fro,JO JP x.stolen]
def bK (x:Ent):List Value:=x.cells.toList
structure LR where
 school:Int
 keys:List LU
structure LY where
 school:Int
 student:Int
 first:Int
 last:Int
 root:Int
 lines:List LT
 proof:List ByteArray
def dq (l:List LT):List ByteArray:=l.map fun x=>x.key++⟨#[32]⟩++x.hash
def eS (l:List LT) (a b:ByteArray):List ByteArray:=(if a.size=0 then [] else [a])++dq l++(if b.size=0 then [] else [b])
def jT (x:LT):Prop:=x.hash.size=16∧(x.body.size=0∨iC x.body=x.hash)
def ik (now:ByteArray) (n st fi la:Int) (lines:List LT) (proof:List ByteArray):Prop:=
 dP st fi la∧∃ a b c d e rest,proof=a::b::c::d::e::rest∧jL a b=now∧(∀ x∈lines,jT x)∧
  ∃ i,L9 c i∧gU b n (loB st fi) (hiB st la) i (eS lines d e) rest∧(eS lines d e).filter (inB (loB st fi) (hiB st la))=dq lines
def iR (c:UInt8):Bool:=decide (48≤c.toNat)&&decide (c.toNat≤57)
def uv (c:UInt8):Bool:=iR c||(decide (97≤c.toNat)&&decide (c.toNat≤102))
def eV (l:List UInt8):Int:=if l.all iR then (jN l:Int) else -1
def iG (st fi la:Int) (k:List UInt8):Bool:=
 decide (k.length=22)&&(k.getD 6 0==32&&k.getD 13 0==32&&k.getD 20 0==32)&&decide (eV (k.take 6)=st)&&aB (eV ((k.drop 7).take 6)) fi la&&aB (eV ((k.drop 14).take 6)) 1 899999&&aB (eV (k.drop 21)) 1 9
def kB (s:List UInt8):Bool:=decide (s.length=16)&&s.all uv
def mP (school:Int) (y:LT):Int:=
 if y.body.size=0 then 0 else if (el y.body.data.toList).2 ≠ 0 then 4
 else if (el y.body.data.toList).1.school ≠ school∨fk (el y.body.data.toList).1 ≠ y.key.data.toList∨iC y.body ≠ y.hash then 41 else 0
def pN (p:Option LT) (y:LT):Bool:=match p with | none=>false | some z=>!decide (bU z.key y.key < 0)
def kX (x:LY) (p:Option LT) (y:LT):Int:=
 if iG x.student x.first x.last y.key.data.toList=false∨kB y.hash.data.toList=false then 4
 else if pN p y=true then 7 else mP x.school y
def gX (x:LY):Option LT→List LT→Int
 | _,[]=>0
 | p,y::l=>if kX x p y ≠ 0 then kX x p y else gX x (some y) l
def iU (x:LY):Int:=
 if aB x.school 1 8=false∨aB x.student 1 999999=false then 1
 else if aB x.first 0 100000=false∨aB x.last x.first 100000=false then 23
 else if aB x.root 0 199=false then 40
 else if 2000 < x.lines.length then 2
 else if gX x JW x.lines ≠ 0 then gX x JW x.lines
 else if x.proof.length < 5 then 41 else 0
def eZ (lid lfro:Int) (k:LU):Int:=
 if k.id < 1∨k.secret.size=0∨40 < k.secret.size then 3
 else if k.id≤lid then 7
 else if aB k.fro 0 100000=false∨aB k.stolen 0 100000=false∨(k.stolen ≠ 0∧k.stolen < k.fro) then 23
 else if k.fro < lfro then 7 else 0
def eM:Int→Int→List LU→Int
 | _,_,[]=>0
 | a,b,k::l=>if eZ a b k ≠ 0 then eZ a b k else eM k.id k.fro l
def fd (r:LR):Int:=if aB r.school 1 8=false then 1 else if 20 < r.keys.length then 2 else eM 0 0 r.keys
def eh (r:LR) (id:Int) (t mark:ByteArray) (day seen:Int):Int:=
 match r.keys[dN r.keys id]? with
 | none=>5
 | some k=>if day < k.fro then 23 else if k.secret.size=0∨mark ≠ uS k r.school id t then 11 else if k.stolen ≠ 0∧k.stolen≤seen then 11 else 0
def jj (x:LL):List UInt8:=dj x.school++dj x.size++dj x.day++d8 x.tree++d8 x.before++dj x.key
def bC (x:LL):ByteArray:=⟨(jj x).toArray⟩
def fL:Option LL→ByteArray
 | none=>⟨#[]⟩
 | some p=>⟨(dg (jj p++p.mark.data.toList)).toArray⟩
def iE (p:Option LL) (size day:Int):Prop:=match p with | none=>False | some y=>size < y.size∨day≤y.day
instance (p:Option LL) (size day:Int):Decidable (iE p size day):=by unfold iE;cases p <;> exact inferInstance
def eN (r:LR) (p:Option LL) (x:LL):Int:=
 if x.school ≠ r.school then 22
 else if aB x.size 0 2000=false then 3
 else if aB x.day 0 100000=false then 23
 else if iE p x.size x.day then 7
 else if x.before ≠ fL p∨x.tree.size ≠ 8 then 40
 else eh r x.key (bC x) x.mark x.day x.day
def dW (r:LR):Option LL→List LL→Int
 | _,[]=>0
 | p,x::l=>if eN r p x ≠ 0 then eN r p x else dW r (some x) l
def cP (r:LR) (l:List LL):Int:=if fd r ≠ 0 then fd r else if 200 < l.length then 2 else dW r JW l
def dQ (l:List LL) (school:Int):List LL:=l.filter fun x=>x.school==school
def rootZ:LL:=⟨0,0,0,⟨#[]⟩,⟨#[]⟩,0,⟨#[]⟩⟩
def dI (x:LY) (roots:List LL):LL:=(dQ roots x.school).getD x.root.toNat rootZ
open Classical in
noncomputable def ec (x:LY) (roots:List LL) (r:LR) (asof:Int):Int:=
 if iU x ≠ 0 then iU x
 else if r.school ≠ x.school then 22
 else if ((dQ roots x.school).length:Int)≤x.root then 40
 else if cP r ((dQ roots x.school).take (x.root.toNat+1)) ≠ 0 then cP r ((dQ roots x.school).take (x.root.toNat+1))
 else if asof < (dI x roots).day then 23
 else if ¬ ik (dI x roots).tree (dI x roots).size x.student x.first x.last x.lines x.proof then 41
 else 0
def lB (r:LR) (at_:LL) (y:LT):Option Ent:=
 if (el y.body.data.toList).2=0∧(el y.body.data.toList).1.day≤at_.day∧eh r (el y.body.data.toList).1.key ⟨(el y.body.data.toList).1.body.toArray⟩ (el y.body.data.toList).1.mark (el y.body.data.toList).1.day at_.day=0
 then JV (el y.body.data.toList).1 else JW
def fq (l:List LT):Nat:=(l.filter fun y=>y.body.size==0).length
def gh (l:List LT):Bool:=l.all fun y=>!(y.key.data.toList.getLast? == JV 53)
end
section
def gi (key msg mark:ByteArray):Bool:=!decide (key.size=0)&&decide (mark=⟨(dg (js key msg)).toArray⟩)
theorem oN {p:Prop} (h:p:=by
 go_enter func56,ntmps56;go_wp2_with fail;refine hM.mono ?_;rintro x w1 ⟨rfl,hb⟩;go_wp2_with fail;go_ret
 exact ⟨bX (by rw [HE2.out]),hb⟩):p:=h
theorem Bl (key msg mark:ByteArray) (hk:key.size≤100000000) (hm:msg.size≤100000000) (w:World) :
  Calls prog 56 #[JQ key,JQ msg,JQ mark] w fun x w'=>x=JT (.bool (gi key msg mark))∧ac w.heap.size w w':=by
 by_cases h0:key.size=0
 ·obtain rfl:=iw h0;have HE:Hid (gi ⟨#[]⟩ msg mark=false):=aa rfl;clear h0;go_enter func56,ntmps56;go_wp2_with fail;go_ret;exact ⟨bX (by rw [HE.out]),Below.refl _ _⟩
 obtain ⟨hn3,hn⟩:=jp h0
 have hn2:(!key.toList.isEmpty)=true:=by rw [hn];rfl
 have hM:=FM key msg hk hm w;have HE:Hid (gi key msg mark=decide (mark=⟨(dg (js key msg)).toArray⟩)):=aa (by unfold gi;rw [decide_eq_false h0];rfl);generalize (⟨(dg (js key msg)).toArray⟩:ByteArray)=d at hM HE;clear h0;by_cases he:mark=d
 ·subst he;have HE2:Hid (gi key msg mark=true):=aa (by rw [HE.out];exact decide_eq_true rfl);exact oN
 ·have HE2:Hid (gi key msg mark=false):=aa (by rw [HE.out];exact decide_eq_false he);have te:=iZ he;clear he;exact oN
theorem og {p:Prop} (h:p:=by
 go_enter func109,ntmps109;go_wp2_with fail;refine hM.mono ?_;rintro x w1 ⟨rfl,hb⟩;go_wp2_with fail;go_ret
 exact ⟨bX (by rw [HE2.out]),hb⟩):p:=h
theorem xq (key msg mark:ByteArray) (hk:key.size≤100000000) (hm:msg.size≤100000000) (w:World) :
  Calls prog 109 #[JQ key,JQ msg,JQ mark] w fun x w'=>x=JT (.bool (gi key msg mark))∧ac w.heap.size w w':=by
 by_cases h0:key.size=0
 ·obtain rfl:=iw h0;have HE:Hid (gi ⟨#[]⟩ msg mark=false):=aa rfl;clear h0;go_enter func109,ntmps109;go_wp2_with fail;go_ret;exact ⟨bX (by rw [HE.out]),Below.refl _ _⟩
 obtain ⟨hn3,hn⟩:=jp h0
 have hn2:(!key.toList.isEmpty)=true:=by rw [hn];rfl
 have hM:=sF key msg hk hm w;have HE:Hid (gi key msg mark=decide (mark=⟨(dg (js key msg)).toArray⟩)):=aa (by unfold gi;rw [decide_eq_false h0];rfl);generalize (⟨(dg (js key msg)).toArray⟩:ByteArray)=d at hM HE;clear h0;by_cases he:mark=d
 ·subst he;have HE2:Hid (gi key msg mark=true):=aa (by rw [HE.out];exact decide_eq_true rfl);exact og
 ·have HE2:Hid (gi key msg mark=false):=aa (by rw [HE.out];exact decide_eq_false he);have te:=iZ he;clear he;exact og
def CP (e:LU) (sc id:Int) (t mark:ByteArray) (day seen:Int):Int:=
 if day < e.fro then 23 else if gi e.secret ⟨(iF sc id t).toArray⟩ mark=false then 11 else if e.stolen ≠ 0∧e.stolen≤seen then 11 else 0
theorem sN {r:LR} {id:Int} {t mark:ByteArray} {day seen:Int} {e:LU} (h:r.keys[dN r.keys id]? = JV e):eh r id t mark day seen=CP e r.school id t mark day seen:=by
 unfold eh CP;rw [h];have:(gi e.secret ⟨(iF r.school id t).toArray⟩ mark=false)↔(e.secret.size=0∨mark ≠ uS e r.school id t):=by unfold gi uS;rw [Bool.and_eq_false_iff,Bool.not_eq_false',decide_eq_true_eq,decide_eq_false_iff_not]
 simp only [this]
theorem rN (g c:Nat) (r:LR) (id:Int) (t mark:ByteArray) (day seen:Int) (w:World) (hl:r.keys.length≤1000) (hk:LV w g r.keys) (hsz:∀ k∈r.keys,k.secret.size≤100000) (hg:g < w.heap.size) (hs:I64 r.school) (hi:I64 id) (ht:t.size≤1000000) (hT:Tabs w) :
  Calls prog 22 #[.agg #[JO JP r.school,JR (JV ⟨g,0,JW⟩) r.keys.length c],JO JP id,JQ t,JQ mark,JO JP day,JO JP seen] w
   fun x w'=>x=JT (JO JP (eh r id t mark day seen))∧ac w.heap.size w w':=by
 have hVn:r.keys[dN r.keys id]? = JW→eh r id t mark day seen=5:=fun h=>by unfold eh;rw [h]
 have hVs:=fun e=>sN (r:=r) (id:=id) (t:=t) (mark:=mark) (day:=day) (seen:=seen) (e:=e)
 generalize eh r id t mark day seen=V at *;obtain ⟨sc,l⟩:=r;simp only at *;have hb0:=au w (JU #[JO JP sc,JR (JV ⟨g,0,JW⟩) l.length c] 33);have hbA:=hb0.trans ((au _ (JU #[JO JP sc,JR (JV ⟨g,0,JW⟩) l.length c] 116)).mono hb0.size);have hr:=heap_alloc_new (w.alloc (JU #[JO JP sc,JR (JV ⟨g,0,JW⟩) l.length c] 33)) (JU #[JO JP sc,JR (JV ⟨g,0,JW⟩) l.length c] 116);rw [size_alloc] at hr;have hF:=Fe (w.heap.size+1) g c sc l id _ hl (hk.below hbA hg) (by simp;omega) hr;have hT1:=(hT.alloc (JU #[JO JP sc,JR (JV ⟨g,0,JW⟩) l.length c] 33)).alloc (JU #[JO JP sc,JR (JV ⟨g,0,JW⟩) l.length c] 116);have hcs:=ae hr 0;unfold yx at hF
 cases hE:l[dN l id]? with
 | none =>
  have hno:¬ dN l id < l.length:=fun h=>by rw [ai h] at hE;cases hE
  have HV:=aa (hVn hE);rw [if_neg hno] at hF;clear hVn hVs hE hk hr hcs hT1 hno hsz;go_enter func22,ntmps22;go_wp2_with fail;refine hF.mono ?_;rintro x w1 ⟨rfl,hb1⟩;have hbw:=hbA.trans (hb1.mono hbA.size);clear hb1 hbA hF hb0;go_wp2_with fail;go_ret;exact ⟨aI (by rw [HV.out]),hbw⟩
 | some e =>
  have h:dN l id < l.length:=by
   rcases Nat.lt_or_ge (dN l id) l.length with h | h
   ·exact h
   ·rw [List.getElem?_eq_none h] at hE;cases hE
  have HV:=aa (hVs e hE)
  have hsk:=hsz e (List.mem_of_getElem? hE);have hat:=(hk _ _ hE).below hbA hg;have hcm:=hat.cell 1 rfl;have hcf:=hat.cell 2 rfl;have hct:=hat.cell 3 rfl;rw [if_pos h] at hF;have hms:=sZ sc id t hs hi;have hDC:=Bl e.secret ⟨(iF sc id t).toArray⟩ mark mOm mOm;unfold CP at HV;generalize gi e.secret ⟨(iF sc id t).toArray⟩ mark=bm at hDC HV;clear hE hat hr hk hms hVn hVs hsz;generalize dN l id=I at *;obtain ⟨kid,ksec,kfro,kst⟩:=e;simp only at *;go_enter func22,ntmps22;go_wp2_with fail;refine hF.mono ?_;rintro x w1 ⟨rfl,hb1⟩;have hbw:=hbA.trans (hb1.mono hbA.size);have hcs1:=(hb1.cell (am _ _ hcs)).trans hcs;have hcm1:=(hb1.cell (am _ _ hcm)).trans hcm;have hcf1:=(hb1.cell (am _ _ hcf)).trans hcf;have hct1:=(hb1.cell (am _ _ hct)).trans hct;have hT2:=hT1.below hb1;clear hb1 hbA hcs hcm hcf hct hF hb0;by_cases hday:day < kfro
  ·have HV2:Hid (V=23):=aa (by rw [HV.out,if_pos hday]);clear HV;go_wp2_with fail;go_ret;exact ⟨aI (by rw [HV2.out]),hbw⟩
  have HV2:Hid (V=if bm=false then 11 else if kst ≠ 0∧kst≤seen then 11 else 0):=aa (by rw [HV.out,if_neg hday])
  clear HV;go_wp2_with fail;have hS0:ac w1.heap.size w1 w1.drew∧w1.drew.cell? ⟨w.heap.size+1,0,JW⟩=JV (JO JP sc)∧w1.drew.cell? ⟨g,I*4+1,JW⟩=JV (JQ ksec)∧w1.drew.cell? ⟨g,I*4+3,JW⟩=JV (JO JP kst):=⟨(Below.refl _ _).drew,hcs1,hcm1,hct1⟩;refine Jy (S:=fun w'=>ac w1.heap.size w1 w'∧w'.cell? ⟨w.heap.size+1,0,JW⟩=JV (JO JP sc)∧w'.cell? ⟨g,I*4+1,JW⟩=JV (JQ ksec)∧w'.cell? ⟨g,I*4+3,JW⟩=JV (JO JP kst)) [(0,true),(1,true),(2,true),(3,true),(4,true),(5,true),(6,true),(8,true),(7,false),(9,false),(10,true),(11,true)] hS0 ?_;have hS:=hS0
  iterate 8 refine aj ?_
  refine aH 57 call57 (zP (w.heap.size+1) sc id t hs hi ht _ hS.2.1 (hT2.below hS.1)) ?_;rintro x wn ⟨rfl,hb⟩;replace hS:=mL hS hb;refine ⟨_,rfl,hS,?_⟩;(try clear hb);refine ar ?_;refine aH 56 call56 (hDC _) ?_;rintro x wn ⟨rfl,hb⟩;replace hS:=mL hS hb;refine ⟨_,rfl,hS,?_⟩;(try clear hb);refine ar ?_
  iterate 2 refine aj ?_
  simp only [aO,bj];have hct2:=hS.2.2.2;have hbF:=hbw.trans (hS.1.mono hbw.size);clear hS hS0 hcs1 hcm1 hcf1 hct1 hT2 hT1
  cases bm
  ·have HV3:Hid (V=11):=aa (by rw [HV2.out,if_pos rfl]);clear HV2;go_wp2_with fail;go_ret;exact ⟨aI (by rw [HV3.out]),hbF⟩
  have HV3:Hid (V=if kst ≠ 0∧kst≤seen then 11 else 0):=aa (by rw [HV2.out,if_neg mSi])
  clear HV2;by_cases h0:kst=0
  ·subst h0;have HV4:Hid (V=0):=aa (by rw [HV3.out,if_neg (fun h=>h.1 rfl)]);clear HV3;go_wp2_with fail;go_ret;exact ⟨aI (by rw [HV4.out]),hbF⟩
  have tne:(kst != 0)=true:=by rw [bne_iff_ne];exact h0
  by_cases h1:kst≤seen
  ·have HV4:Hid (V=11):=aa (by rw [HV3.out,if_pos ⟨h0,h1⟩]);clear HV3;go_wp2_with fail;go_ret;exact ⟨aI (by rw [HV4.out]),hbF⟩
  ·have HV4:Hid (V=0):=aa (by rw [HV3.out,if_neg (fun h=>h1 h.2)]);clear HV3;go_wp2_with fail;go_ret;exact ⟨aI (by rw [HV4.out]),hbF⟩
end
section
theorem gO {a b n:Int} {k:LU} {l:List LU} (h:eZ a b k=n) (hn:n ≠ 0):eM a b (k::l)=n:=by unfold eM;rw [h,if_pos hn]
theorem Ch {a b:Int} {k:LU} {l:List LU} (h:eZ a b k=0):eM a b (k::l)=eM k.id k.fro l:=by
 show (if eZ a b k ≠ 0 then eZ a b k else eM k.id k.fro l)=_
 rw [h,if_neg mSi]
theorem f6 (n:Int) (w:World):Calls prog 204 #[JO JP n] w fun e w'=>e=JT (.bool (aB n 0 100000))∧w=w':=by
 by_cases h1:0≤n
 ·by_cases h2:n≤100000
  ·go_enter func204,ntmps204;go_wp2_with fail;go_ret;exact ⟨bX (by unfold aB;rw [decide_eq_true mOm,decide_eq_true mOm];rfl),by first | rfl | trivial⟩
  ·go_enter func204,ntmps204;go_wp2_with fail;go_ret;exact ⟨bX (by unfold aB;rw [decide_eq_true mOm,decide_eq_false mOm];rfl),by first | rfl | trivial⟩
 ·go_enter func204,ntmps204;go_wp2_with fail;go_ret;exact ⟨bX (by unfold aB;rw [decide_eq_false mOm];rfl),by first | rfl | trivial⟩
theorem iq (n:Int) (w:World):Calls prog 62 #[JO JP n] w fun e w'=>e=JT (.bool (aB n 0 100000))∧w=w':=by
 by_cases h1:0≤n
 ·by_cases h2:n≤100000
  ·go_enter func62,ntmps62;go_wp2_with fail;go_ret;exact ⟨bX (by unfold aB;rw [decide_eq_true mOm,decide_eq_true mOm];rfl),by first | rfl | trivial⟩
  ·go_enter func62,ntmps62;go_wp2_with fail;go_ret;exact ⟨bX (by unfold aB;rw [decide_eq_true mOm,decide_eq_false mOm];rfl),by first | rfl | trivial⟩
 ·go_enter func62,ntmps62;go_wp2_with fail;go_ret;exact ⟨bX (by unfold aB;rw [decide_eq_false mOm];rfl),by first | rfl | trivial⟩
theorem oa {p:Prop} (h:p:=by
 have HV4:Hid (V=7):=aa (by rw [HV3.out,← HI.out,HD.out];exact gO (by unfold eZ;rw [if_neg N3.out,if_neg N4.out,if_neg N7.out,if_pos t8]) mDe);go_wp2_with fail;refine (f6 _ _).mono ?_;rintro _ _ ⟨rfl,rfl⟩;rw [hbf];go_wp2_with fail;refine (f6 _ _).mono ?_;rintro _ _ ⟨rfl,rfl⟩;rw [hbs];go_wp2_with fail;go_ret
 exact ⟨aI (by rw [HV4.out]),hbF⟩):p:=h
theorem ol {p:Prop} (h:p:=by
 go_wp2_with fail;refine (f6 _ _).mono ?_;rintro _ _ ⟨rfl,rfl⟩;rw [hbf];go_wp2_with fail;refine (f6 _ _).mono ?_;rintro _ _ ⟨rfl,rfl⟩;rw [hbs];go_wp2_with fail;go_ret
 exact ⟨aI (by rw [HV4.out]),hbF⟩):p:=h
theorem QZ {p q:Prop} (h:q) (f:Wq q→p:=by
 intro hq;obtain ⟨bf,hbf⟩:∃ b,aB efro 0 100000=b:=⟨_,rfl⟩;obtain ⟨bs,hbs⟩:∃ b,aB est 0 100000=b:=⟨_,rfl⟩
 revert bf hbf bs hbs
 exact hq.1):p:=f ⟨h⟩
theorem Kg {p q:Prop} (h:q) (f:Wq q→p:=by
 intro hq;have N3:Hid (¬ (eid < 1∨esec.size=0∨40 < esec.size)):=aa (fun h=>by rcases h with h | h | h <;> omega)
 revert N3
 exact hq.1):p:=f ⟨h⟩
theorem xu (b g c:Nat) (r:LR) (w:World) (hk:LV w g r.keys) (hg:g < w.heap.size) (hl:r.keys.length≤1000) (hr:w.heap[b]? = JV (JU #[JO JP r.school,JR (JV ⟨g,0,JW⟩) r.keys.length c] 116 (0,0))) :
  Calls prog 203 #[JS (JV ⟨b,0,JW⟩)] w fun x w'=>x=JT (JO JP (fd r))∧ac w.heap.size w w':=by
 have HV:=aa (show fd r=if aB r.school 1 8=false then 1 else if 20 < r.keys.length then 2 else eM 0 0 r.keys from rfl);generalize fd r=V at *;obtain ⟨sc,l⟩:=r;simp only at *;have c0:=ae hr 0;have c1:=ae hr 1;have hbl:=ay hr;have HK:=aa hk;clear hr hk;go_enter func203,ntmps203;by_cases h1:sc < 1
 ·have HV2:Hid (V=1):=aa (by rw [HV.out,if_pos (by unfold aB;rw [decide_eq_false mOm];rfl)]);clear HV;go_wp2_with fail;go_ret;exact ⟨aI (by rw [HV2.out]),Below.refl _ _⟩
 by_cases h2:8 < sc
 ·have HV2:Hid (V=1):=aa (by rw [HV.out,if_pos (by unfold aB;rw [decide_eq_true (show 1≤sc by omega),decide_eq_false mOm];rfl)]);clear HV;go_wp2_with fail;go_ret;exact ⟨aI (by rw [HV2.out]),Below.refl _ _⟩
 have HV2:Hid (V=if 20 < l.length then 2 else eM 0 0 l):=aa (by rw [HV.out,if_neg (by unfold aB;rw [decide_eq_true (show 1≤sc by omega),decide_eq_true mOm];simp)])
 clear HV;by_cases h3:20 < l.length
 ·have i1:(20:Int) < (l.length:Int):=mOm;have HV3:Hid (V=2):=aa (by rw [HV2.out,if_pos h3]);clear HV2 h3;go_wp2_with fail;go_ret;exact ⟨aI (by rw [HV3.out]),Below.refl _ _⟩
 have i1:¬ (20:Int) < (l.length:Int):=mOm
 have HV3:Hid (V=eM 0 0 l):=aa (by rw [HV2.out,if_neg h3]);clear HV2 h3;go_wp2_with fail;have hb0:=al w (JU (LU.cells ⟨0,⟨#[]⟩,0,0⟩) 78);have hh0:=heap_alloc_new w (JU (LU.cells ⟨0,⟨#[]⟩,0,0⟩) 78)
 go_loopw [36] (fun i wr=>∃ k:Nat,k≤l.length∧i=JO JP k∧∃ z:LU,Hid (wr.heap[w.heap.size]? = JV (JU z.cells 78 (0,0)))∧Hid (eM z.id z.fro (l.drop k)=eM 0 0 l)∧ac w.heap.size w wr) (fun i _=>l.length - (aw i).toNat)
 case atStart=>exact ⟨0,aR _,rfl,⟨0,⟨#[]⟩,0,0⟩,aa hh0,aa rfl,hb0⟩
 case round =>
  obtain ⟨k,hk,rfl,⟨zid,zsec,zfro,zst⟩,HZ,HI,hb⟩:=hrel;have hzl:w.heap.size < wr.heap.size:=ay HZ.out;by_cases hlt:k < l.length
  ·have hge:=ai hlt;have hat:=(HK.out k _ hge).below hb hg;have HD:Hid (l.drop k=l[k]::l.drop (k+1)):=aa (cw hlt);generalize l[k]=e at *;obtain ⟨eid,esec,efro,est⟩:=e;have j1:(k:Int) < (l.length:Int):=mOm;have j2:(0:Int)≤(k:Int):=mOm;have q0:wr.cell? ⟨g,k*4,JW⟩=JV (JO JP eid):=hat.cell 0 rfl;have q1:wr.cell? ⟨g,k*4+1,JW⟩=JV (JQ esec):=hat.cell 1 rfl;have q2:wr.cell? ⟨g,k*4+2,JW⟩=JV (JO JP efro):=hat.cell 2 rfl;have q3:wr.cell? ⟨g,k*4+3,JW⟩=JV (JO JP est):=hat.cell 3 rfl;have z0:wr.cell? ⟨w.heap.size,0,JW⟩=JV (JO JP zid):=ae HZ.out 0;have z2:wr.cell? ⟨w.heap.size,2,JW⟩=JV (JO JP zfro):=ae HZ.out 2;have z1:wr.cell? ⟨w.heap.size,1,JW⟩=JV (JQ zsec):=ae HZ.out 1;have z3:wr.cell? ⟨w.heap.size,3,JW⟩=JV (JO JP zst):=ae HZ.out 3;have f0:=aE HZ.out 0;have f1:=aE HZ.out 1;have f2:=aE HZ.out 2;have f3:=aE HZ.out 3;have hbF:=ah hb (al wr (JU #[JO JP eid,JQ esec,JO JP efro,JO JP est] 78));clear hge hat;by_cases t1:eid < 1
   ·have HV4:Hid (V=3):=aa (by rw [HV3.out,← HI.out,HD.out];exact gO (by unfold eZ;rw [if_pos (.inl t1)]) mDe);go_wp2_with fail;go_ret;exact ⟨aI (by rw [HV4.out]),hbF⟩
   by_cases t2:esec.size=0
   ·obtain rfl:=iw t2;have HV4:Hid (V=3):=aa (by rw [HV3.out,← HI.out,HD.out];exact gO (by unfold eZ;rw [if_pos (.inr (.inl rfl))]) mDe);go_wp2_with fail;go_ret;exact ⟨aI (by rw [HV4.out]),hbF⟩
   obtain ⟨n1,n2⟩:=jp t2
   by_cases t3:40 < esec.size
   ·have j3:(40:Int) < (esec.size:Int):=mOm;have HV4:Hid (V=3):=aa (by rw [HV3.out,← HI.out,HD.out];exact gO (by unfold eZ;rw [if_pos (.inr (.inr t3))]) mDe);go_wp2_with fail;go_ret;exact ⟨aI (by rw [HV4.out]),hbF⟩
   have j3:¬ (40:Int) < (esec.size:Int):=mOm
   refine Kg ?_;intro N3;by_cases t4:eid≤zid
   ·have HV4:Hid (V=7):=aa (by rw [HV3.out,← HI.out,HD.out];exact gO (by unfold eZ;rw [if_neg N3.out,if_pos t4]) mDe);go_wp2_with fail;go_ret;exact ⟨aI (by rw [HV4.out]),hbF⟩
   have N4:Hid (¬ eid≤zid):=aa t4
   refine QZ ?_;intro bf hbf bs hbs;clear t1 t2 t3 t4;have t4:¬ eid≤zid:=N4.out;have t1:¬ eid < 1:=fun h=>N3.out (.inl h)
   cases bf
   ·have HV4:Hid (V=23):=aa (by rw [HV3.out,← HI.out,HD.out];exact gO (by unfold eZ;rw [if_neg N3.out,if_neg N4.out,if_pos (.inl hbf)]) mDe);go_wp2_with fail;refine (f6 _ _).mono ?_;rintro _ _ ⟨rfl,rfl⟩;rw [hbf];go_wp2_with fail;go_ret;exact ⟨aI (by rw [HV4.out]),hbF⟩
   cases bs
   ·have HV4:Hid (V=23):=aa (by rw [HV3.out,← HI.out,HD.out];exact gO (by unfold eZ;rw [if_neg N3.out,if_neg N4.out,if_pos (.inr (.inl hbs))]) mDe);exact ol
   by_cases t7:est ≠ 0∧est < efro
   ·obtain ⟨t7,t8⟩:=t7;have tne:(est != 0)=true:=by rw [bne_iff_ne];exact t7
    have HV4:Hid (V=23):=aa (by rw [HV3.out,← HI.out,HD.out];exact gO (by unfold eZ;rw [if_neg N3.out,if_neg N4.out,if_pos (.inr (.inr ⟨t7,t8⟩))]) mDe);exact ol
   have N7:Hid (¬ (aB efro 0 100000=false∨aB est 0 100000=false∨(est ≠ 0∧est < efro))):=aa (fun h=>by
    rcases h with h | h | h
    ·rw [hbf] at h;cases h
    ·rw [hbs] at h;cases h
    ·exact t7 h)
   by_cases t8:efro < zfro
   ·by_cases t9:est=0
    ·subst t9;exact oa
    ·have tne:(est != 0)=true:=by rw [bne_iff_ne];exact t9
     have t10:¬ est < efro:=fun h=>t7 ⟨t9,h⟩
     clear t7;exact oa
   have HN:Hid (eM eid efro (l.drop (k+1))=eM 0 0 l):=aa (by rw [← HI.out,HD.out,Ch (by unfold eZ;rw [if_neg N3.out,if_neg N4.out,if_neg N7.out,if_neg t8])])
   by_cases t9:est=0
   ·subst t9;go_wp2_with fail;refine (f6 _ _).mono ?_;rintro _ _ ⟨rfl,rfl⟩;rw [hbf];go_wp2_with fail;refine (f6 _ _).mono ?_;rintro _ _ ⟨rfl,rfl⟩;rw [hbs];go_wp2_with fail;exact ⟨⟨k+1,mOm,by first | rfl | go_num,⟨eid,esec,efro,0⟩,aa (eG (bp (bp (bp (bp HZ.out 0 _) 1 _) 2 _) 3 _) _),HN,ah ((((hb.setCell (p:=⟨w.heap.size,0,none⟩) (aD _) _).setCell (p:=⟨w.heap.size,1,none⟩) (aD _) _).setCell (p:=⟨w.heap.size,2,none⟩) (aD _) _).setCell (p:=⟨w.heap.size,3,none⟩) (aD _) _) (al _ _)⟩,by simp [aw];omega⟩
   ·have tne:(est != 0)=true:=by rw [bne_iff_ne];exact t9
    have t10:¬ est < efro:=fun h=>t7 ⟨t9,h⟩
    clear t7;go_wp2_with fail;refine (f6 _ _).mono ?_;rintro _ _ ⟨rfl,rfl⟩;rw [hbf];go_wp2_with fail;refine (f6 _ _).mono ?_;rintro _ _ ⟨rfl,rfl⟩;rw [hbs];go_wp2_with fail;exact ⟨⟨k+1,mOm,by first | rfl | go_num,⟨eid,esec,efro,est⟩,aa (eG (bp (bp (bp (bp HZ.out 0 _) 1 _) 2 _) 3 _) _),HN,ah ((((hb.setCell (p:=⟨w.heap.size,0,none⟩) (aD _) _).setCell (p:=⟨w.heap.size,1,none⟩) (aD _) _).setCell (p:=⟨w.heap.size,2,none⟩) (aD _) _).setCell (p:=⟨w.heap.size,3,none⟩) (aD _) _) (al _ _)⟩,by simp [aw];omega⟩
  ·obtain rfl:k=l.length:=mOm;have HV4:Hid (V=0):=aa (by rw [HV3.out,← HI.out,jn];rfl);go_wp2_with fail;go_ret;exact ⟨aI (by rw [HV4.out]),hb⟩
theorem yw (g c:Nat) (r:LR) (w:World) (hk:LV w g r.keys) (hg:g < w.heap.size) (hl:r.keys.length≤1000) :
  Calls prog 152 #[.agg #[JO JP r.school,JR (JV ⟨g,0,JW⟩) r.keys.length c]] w fun x w'=>x=JT (JO JP (fd r))∧ac w.heap.size w w':=by
 have hb0:=au w (JU #[JO JP r.school,JR (JV ⟨g,0,JW⟩) r.keys.length c] 33);have hbA:=hb0.trans ((au _ (JU #[JO JP r.school,JR (JV ⟨g,0,JW⟩) r.keys.length c] 116)).mono hb0.size);have hr:=heap_alloc_new (w.alloc (JU #[JO JP r.school,JR (JV ⟨g,0,JW⟩) r.keys.length c] 33)) (JU #[JO JP r.school,JR (JV ⟨g,0,JW⟩) r.keys.length c] 116);rw [size_alloc] at hr;have hF:=xu (w.heap.size+1) g c r _ (hk.below hbA hg) (by simp;omega) hl hr;generalize fd r=V at *;obtain ⟨sc,l⟩:=r;simp only at *;clear hr hb0 hk;go_enter func152,ntmps152;go_wp2_with fail;refine hF.mono ?_;rintro x w1 ⟨rfl,hb1⟩;go_wp2_with fail;go_ret;exact ⟨rfl,ah hbA hb1⟩
def pId (l:List LU):Nat→Int
 | 0=>0
 | k+1=>(l.getD k ⟨0,⟨#[]⟩,0,0⟩).id
def tM (l:List LU):Nat→Int
 | 0=>0
 | k+1=>(l.getD k ⟨0,⟨#[]⟩,0,0⟩).fro
theorem JG {p:Prop} (h:p:=by
 refine Jy (S:=fun u=>ac w.heap.size w u∧u.cell? ⟨w.heap.size,0,JW⟩=JV (JO JP eid)∧u.cell? ⟨w.heap.size,2,JW⟩=JV (JO JP efro)) [(0,true),(1,true),(2,true),(3,true),(4,true),(5,true),(6,true),(7,true),(8,true),(9,true),(10,true),(11,true),(12,true)] hS1 ?_;have hS:=hS1
 iterate 13 (first | refine aj ?_ | refine cN ?_)
 simp only [aO,bj];clear hS
 have HV2:Hid (V=0):=aa (by
  rw [HV.out,if_neg N3.out,if_neg (by have:=N4.out;omega),if_neg N7.out,if_neg];unfold aB at hbf;rw [aW,decide_eq_true_eq] at hbf
  omega)
 go_wp2_with fail
 go_ret
 exact ⟨aI (by rw [HV2.out]),hbF.drew.drew⟩):p:=h
theorem ox {p:Prop} (h:p:=by
 have i1:((⟨#[]⟩:ByteArray).size:Int) < 1:=mDe;have HV2:Hid (V=3):=aa (by rw [HV.out,if_pos (.inr (.inl rfl))]);clear HV;go_wp2_with fail;go_ret
 exact ⟨aI (by rw [HV2.out]),hbF⟩):p:=h
theorem oV {p:Prop} (h:p:=by
 obtain ⟨t7,t8⟩:=t7;have tne:(est != 0)=true:=by rw [bne_iff_ne];exact t7
 clear HV;go_wp2_with fail;go_ret
 exact ⟨aI (by rw [HV2.out]),hbF.drew⟩):p:=h
theorem zW (g c:Nat) (l:List LU) (e:LU) (he:l[0]? = JV e) (w:World) (hk:LV w g l) (_hg:g < w.heap.size) (hl:l.length≤1000) :
  Calls prog 123 #[JR (JV ⟨g,0,JW⟩) l.length c,JO JP 0] w fun x w'=>x=JT (JO JP (eZ 0 0 e))∧ac w.heap.size w w':=by
 have hlt:=(ap.1 he).1;have hat:=hk _ _ he
 have HV:=aa (show eZ 0 0 e=if e.id < 1∨e.secret.size=0∨40 < e.secret.size then 3
  else if e.id≤0 then 7
  else if aB e.fro 0 100000=false∨aB e.stolen 0 100000=false∨(e.stolen ≠ 0∧e.stolen < e.fro) then 23
  else if e.fro < 0 then 7 else 0 from rfl)
 generalize eZ 0 0 e=V at *
 obtain ⟨eid,esec,efro,est⟩:=e;simp only at *;have q0:w.cell? ⟨g,0,JW⟩=JV (JO JP eid):=hat.cell 0 rfl;have q1:w.cell? ⟨g,1,JW⟩=JV (JQ esec):=hat.cell 1 rfl;have q2:w.cell? ⟨g,2,JW⟩=JV (JO JP efro):=hat.cell 2 rfl;have q3:w.cell? ⟨g,3,JW⟩=JV (JO JP est):=hat.cell 3 rfl;have j0:(0:Int) < (l.length:Int):=mOm;have hbF:=al w (JU #[JO JP eid,JQ esec,JO JP efro,JO JP est] 78);clear hat he hk;go_enter func123,ntmps123;by_cases t1:eid < 1
 ·have HV2:Hid (V=3):=aa (by rw [HV.out,if_pos (.inl t1)]);clear HV;go_wp2_with fail;go_ret;exact ⟨aI (by rw [HV2.out]),hbF⟩
 by_cases t2:esec.size=0
 ·obtain rfl:=iw t2;exact ox
 have i1:¬ (esec.size:Int) < 1:=mOm
 by_cases t3:40 < esec.size
 ·have i2:(40:Int) < (esec.size:Int):=mOm;have HV2:Hid (V=3):=aa (by rw [HV.out,if_pos (.inr (.inr t3))]);clear HV;go_wp2_with fail;go_ret;exact ⟨aI (by rw [HV2.out]),hbF⟩
 have i2:¬ (40:Int) < (esec.size:Int):=mOm
 refine Kg ?_;intro N3;clear t2 t3;go_wp2_with fail;have hS0:(fun u:World=>ac w.heap.size w u∧u.cell? ⟨w.heap.size,0,JW⟩=JV (JO JP eid)∧u.cell? ⟨w.heap.size,2,JW⟩=JV (JO JP efro)) (w.alloc (JU #[JO JP eid,JQ esec,JO JP efro,JO JP est] 78)).drew:=⟨hbF.drew,ae (heap_alloc_new w _) 0,ae (heap_alloc_new w _) 2⟩;refine Jy (S:=fun u=>ac w.heap.size w u∧u.cell? ⟨w.heap.size,0,JW⟩=JV (JO JP eid)∧u.cell? ⟨w.heap.size,2,JW⟩=JV (JO JP efro)) [(0,true),(1,true),(2,true),(3,true),(4,true),(5,true),(6,true),(7,true),(8,true),(9,true),(10,true),(11,true),(12,true)] hS0 ?_;have hS:=hS0
 iterate 13 (first | refine aj ?_ | refine cN ?_)
 simp only [aO,bj];clear hS;have N4:Hid (¬ eid≤0):=aa mOm;refine QZ ?_;intro bf hbf bs hbs;go_wp2_with fail;refine (iq _ _).mono ?_;rintro _ _ ⟨rfl,rfl⟩;rw [hbf];go_wp2_with fail;refine (iq _ _).mono ?_;rintro _ _ ⟨rfl,rfl⟩;rw [hbs]
 cases bf
 ·have HV2:Hid (V=23):=aa (by rw [HV.out,if_neg N3.out,if_neg (by have:=N4.out;omega),if_pos (.inl hbf)]);clear HV;go_wp2_with fail;go_ret;exact ⟨aI (by rw [HV2.out]),hbF.drew⟩
 cases bs
 ·have HV2:Hid (V=23):=aa (by rw [HV.out,if_neg N3.out,if_neg (by have:=N4.out;omega),if_pos (.inr (.inl hbs))]);clear HV;go_wp2_with fail;go_ret;exact ⟨aI (by rw [HV2.out]),hbF.drew⟩
 by_cases t7:est ≠ 0∧est < efro
 ·have HV2:Hid (V=23):=aa (by rw [HV.out,if_neg N3.out,if_neg (by have:=N4.out;omega),if_pos (.inr (.inr t7))]);exact oV
 have N7:Hid (¬ (aB efro 0 100000=false∨aB est 0 100000=false∨(est ≠ 0∧est < efro))):=aa (fun h=>by
  rcases h with h | h | h
  ·rw [hbf] at h;cases h
  ·rw [hbs] at h;cases h
  ·exact t7 h)
 by_cases t9:est=0
 ·subst t9;clear t7;go_wp2_with fail;have hS1:(fun u:World=>ac w.heap.size w u∧u.cell? ⟨w.heap.size,0,JW⟩=JV (JO JP eid)∧u.cell? ⟨w.heap.size,2,JW⟩=JV (JO JP efro)) (w.alloc (JU #[JO JP eid,JQ esec,JO JP efro,JO JP 0] 78)).drew.drew:=⟨hS0.1.drew,hS0.2⟩;exact JG
 have tne:(est != 0)=true:=by rw [bne_iff_ne];exact t9
 have t10:¬ est < efro:=fun h=>t7 ⟨t9,h⟩
 clear t7;go_wp2_with fail;have hS1:(fun u:World=>ac w.heap.size w u∧u.cell? ⟨w.heap.size,0,JW⟩=JV (JO JP eid)∧u.cell? ⟨w.heap.size,2,JW⟩=JV (JO JP efro)) (w.alloc (JU #[JO JP eid,JQ esec,JO JP efro,JO JP est] 78)).drew.drew:=⟨hS0.1.drew,hS0.2⟩;exact JG
theorem JL {p:Prop} (h:p:=by
 refine Jy (S:=fun u=>ac w.heap.size w u∧u.cell? ⟨w.heap.size,0,JW⟩=JV (JO JP eid)∧u.cell? ⟨w.heap.size,2,JW⟩=JV (JO JP efro)∧u.cell? ⟨g,k*4,JW⟩=JV (JO JP zid)∧u.cell? ⟨g,k*4+2,JW⟩=JV (JO JP zfro)) [(0,true),(1,true),(2,true),(3,true),(4,true),(5,true),(6,true),(7,true),(8,true),(9,true),(10,true),(11,true),(12,true)] hS1 ?_;have hS:=hS1
 iterate 13 refine aj ?_
 simp only [aO,bj];clear hS;by_cases t8:efro < zfro
 ·have HV2:Hid (V=7):=aa (by rw [HV.out,if_neg N3.out,if_neg (by have:=N4.out;omega),if_neg N7.out,if_pos t8]);clear HV;go_wp2_with fail;go_ret;exact ⟨aI (by rw [HV2.out]),hbF.drew.drew⟩
 ·have HV2:Hid (V=0):=aa (by rw [HV.out,if_neg N3.out,if_neg (by have:=N4.out;omega),if_neg N7.out,if_neg t8]);clear HV;go_wp2_with fail;go_ret
  exact ⟨aI (by rw [HV2.out]),hbF.drew.drew⟩):p:=h
theorem zX (g c:Nat) (l:List LU) (k:Nat) (e:LU) (z:LU) (hz:l[k]? = JV z) (he:l[(k+1)]? = JV e) (w:World) (hk:LV w g l) (hg:g < w.heap.size) (hl:l.length≤1000) :
  Calls prog 123 #[JR (JV ⟨g,0,JW⟩) l.length c,JO JP ((k+1:Nat):Int)] w fun x w'=>x=JT (JO JP (eZ z.id z.fro e))∧ac w.heap.size w w':=by
 have hlt:=(ap.1 he).1;have hat:=hk _ _ he;have haz:=hk _ _ hz
 have HV:=aa (show eZ z.id z.fro e=if e.id < 1∨e.secret.size=0∨40 < e.secret.size then 3
  else if e.id≤z.id then 7
  else if aB e.fro 0 100000=false∨aB e.stolen 0 100000=false∨(e.stolen ≠ 0∧e.stolen < e.fro) then 23
  else if e.fro < z.fro then 7 else 0 from rfl)
 generalize eZ z.id z.fro e=V at *
 obtain ⟨eid,esec,efro,est⟩:=e;obtain ⟨zid,zsec,zfro,zst⟩:=z;simp only at *;have q0:w.cell? ⟨g,(k+1)*4,JW⟩=JV (JO JP eid):=hat.cell 0 rfl;have q1:w.cell? ⟨g,(k+1)*4+1,JW⟩=JV (JQ esec):=hat.cell 1 rfl;have q2:w.cell? ⟨g,(k+1)*4+2,JW⟩=JV (JO JP efro):=hat.cell 2 rfl;have q3:w.cell? ⟨g,(k+1)*4+3,JW⟩=JV (JO JP est):=hat.cell 3 rfl;have z0:w.cell? ⟨g,k*4,JW⟩=JV (JO JP zid):=haz.cell 0 rfl;have z2:w.cell? ⟨g,k*4+2,JW⟩=JV (JO JP zfro):=haz.cell 2 rfl;have j0:((k+1:Nat):Int) < (l.length:Int):=mOm;have j1:(k:Int) < (l.length:Int):=mOm;have j2:(0:Int)≤(k:Int):=mOm;have j3:(0:Int) < ((k+1:Nat):Int):=mOm;have a1:IntKind.i64.wrap (((k+1:Nat):Int) - 1)=(k:Int):=by rw [show ((k+1:Nat):Int) - 1=(k:Int) by omega];exact eR _ _ rfl mOm
 have a2:IntKind.i64.wrap (k:Int)=(k:Int):=eR _ _ rfl mOm;clear haz hz;have hbF:=al w (JU #[JO JP eid,JQ esec,JO JP efro,JO JP est] 78);clear hat he hk;go_enter func123,ntmps123;by_cases t1:eid < 1
 ·have HV2:Hid (V=3):=aa (by rw [HV.out,if_pos (.inl t1)]);clear HV;go_wp2_with fail;go_ret;exact ⟨aI (by rw [HV2.out]),hbF⟩
 by_cases t2:esec.size=0
 ·obtain rfl:=iw t2;exact ox
 have i1:¬ (esec.size:Int) < 1:=mOm
 by_cases t3:40 < esec.size
 ·have i2:(40:Int) < (esec.size:Int):=mOm;have HV2:Hid (V=3):=aa (by rw [HV.out,if_pos (.inr (.inr t3))]);clear HV;go_wp2_with fail;go_ret;exact ⟨aI (by rw [HV2.out]),hbF⟩
 have i2:¬ (40:Int) < (esec.size:Int):=mOm
 refine Kg ?_;intro N3;clear t2 t3;go_wp2_with fail;have hS0:(fun u:World=>ac w.heap.size w u∧u.cell? ⟨w.heap.size,0,JW⟩=JV (JO JP eid)∧u.cell? ⟨w.heap.size,2,JW⟩=JV (JO JP efro)∧u.cell? ⟨g,k*4,JW⟩=JV (JO JP zid)∧u.cell? ⟨g,k*4+2,JW⟩=JV (JO JP zfro)) (w.alloc (JU #[JO JP eid,JQ esec,JO JP efro,JO JP est] 78)).drew:=⟨hbF.drew,ae (heap_alloc_new w _) 0,ae (heap_alloc_new w _) 2,(hbF.cell (p:=⟨g,k*4,JW⟩) hg).trans z0,(hbF.cell (p:=⟨g,k*4+2,JW⟩) hg).trans z2⟩;refine Jy (S:=fun u=>ac w.heap.size w u∧u.cell? ⟨w.heap.size,0,JW⟩=JV (JO JP eid)∧u.cell? ⟨w.heap.size,2,JW⟩=JV (JO JP efro)∧u.cell? ⟨g,k*4,JW⟩=JV (JO JP zid)∧u.cell? ⟨g,k*4+2,JW⟩=JV (JO JP zfro)) [(0,true),(1,true),(2,true),(3,true),(4,true),(5,true),(6,true),(7,true),(8,true),(9,true),(10,true),(11,true),(12,true)] hS0 ?_;have hS:=hS0
 iterate 13 refine aj ?_
 simp only [aO,bj];clear hS;by_cases t4:eid≤zid
 ·have HV2:Hid (V=7):=aa (by rw [HV.out,if_neg N3.out,if_pos t4]);clear HV;go_wp2_with fail;go_ret;exact ⟨aI (by rw [HV2.out]),hbF.drew⟩
 have N4:Hid (¬ eid≤zid):=aa t4
 refine QZ ?_;intro bf hbf bs hbs;go_wp2_with fail;refine (iq _ _).mono ?_;rintro _ _ ⟨rfl,rfl⟩;rw [hbf];go_wp2_with fail;refine (iq _ _).mono ?_;rintro _ _ ⟨rfl,rfl⟩;rw [hbs]
 cases bf
 ·have HV2:Hid (V=23):=aa (by rw [HV.out,if_neg N3.out,if_neg (by have:=N4.out;omega),if_pos (.inl hbf)]);clear HV;go_wp2_with fail;go_ret;exact ⟨aI (by rw [HV2.out]),hbF.drew⟩
 cases bs
 ·have HV2:Hid (V=23):=aa (by rw [HV.out,if_neg N3.out,if_neg (by have:=N4.out;omega),if_pos (.inr (.inl hbs))]);clear HV;go_wp2_with fail;go_ret;exact ⟨aI (by rw [HV2.out]),hbF.drew⟩
 by_cases t7:est ≠ 0∧est < efro
 ·have HV2:Hid (V=23):=aa (by rw [HV.out,if_neg N3.out,if_neg (by have:=N4.out;omega),if_pos (.inr (.inr t7))]);exact oV
 have N7:Hid (¬ (aB efro 0 100000=false∨aB est 0 100000=false∨(est ≠ 0∧est < efro))):=aa (fun h=>by
  rcases h with h | h | h
  ·rw [hbf] at h;cases h
  ·rw [hbs] at h;cases h
  ·exact t7 h)
 by_cases t9:est=0
 ·subst t9;clear t7;go_wp2_with fail;have hS1:(fun u:World=>ac w.heap.size w u∧u.cell? ⟨w.heap.size,0,JW⟩=JV (JO JP eid)∧u.cell? ⟨w.heap.size,2,JW⟩=JV (JO JP efro)∧u.cell? ⟨g,k*4,JW⟩=JV (JO JP zid)∧u.cell? ⟨g,k*4+2,JW⟩=JV (JO JP zfro)) (w.alloc (JU #[JO JP eid,JQ esec,JO JP efro,JO JP 0] 78)).drew.drew:=⟨hS0.1.drew,hS0.2⟩;exact JL
 have tne:(est != 0)=true:=by rw [bne_iff_ne];exact t9
 have t10:¬ est < efro:=fun h=>t7 ⟨t9,h⟩
 clear t7;go_wp2_with fail;have hS1:(fun u:World=>ac w.heap.size w u∧u.cell? ⟨w.heap.size,0,JW⟩=JV (JO JP eid)∧u.cell? ⟨w.heap.size,2,JW⟩=JV (JO JP efro)∧u.cell? ⟨g,k*4,JW⟩=JV (JO JP zid)∧u.cell? ⟨g,k*4+2,JW⟩=JV (JO JP zfro)) (w.alloc (JU #[JO JP eid,JQ esec,JO JP efro,JO JP est] 78)).drew.drew:=⟨hS0.1.drew,hS0.2⟩;exact JL
end
section
theorem Cg {l:List LU} {k:Nat} {e:LU} (he:l[k]? = JV e) (a b:Int):eM a b (l.drop k)=if eZ a b e ≠ 0 then eZ a b e else eM e.id e.fro (l.drop (k+1)):=by obtain ⟨hlt,rfl⟩:=ap.1 he;rw [cw hlt];rfl
theorem tO (g c:Nat) (r:LR) (w:World) (hk:LV w g r.keys) (hg:g < w.heap.size) (hl:r.keys.length≤1000) :
  Calls prog 60 #[.agg #[JO JP r.school,JR (JV ⟨g,0,JW⟩) r.keys.length c]] w fun x w'=>x=JT (JO JP (fd r))∧ac w.heap.size w w':=by
 have HV:=aa (show fd r=if aB r.school 1 8=false then 1 else if 20 < r.keys.length then 2 else eM 0 0 r.keys from rfl);generalize fd r=V at *;obtain ⟨sc,l⟩:=r;simp only at *;have hb0:=al w (JU #[JO JP sc,JR (JV ⟨g,0,JW⟩) l.length c] 33);have hh:=heap_alloc_new w (JU #[JO JP sc,JR (JV ⟨g,0,JW⟩) l.length c] 33);have HK:=aa (hk.below hb0 hg);have hg1:g < (w.alloc (JU #[JO JP sc,JR (JV ⟨g,0,JW⟩) l.length c] 33)).heap.size:=av hg hb0.size;clear hk;go_enter func60,ntmps60;by_cases h1:sc < 1
 ·have HV2:Hid (V=1):=aa (by rw [HV.out,if_pos (by unfold aB;rw [decide_eq_false mOm];rfl)]);clear HV;go_wp2_with fail;go_ret;exact ⟨aI (by rw [HV2.out]),hb0⟩
 by_cases h2:8 < sc
 ·have HV2:Hid (V=1):=aa (by rw [HV.out,if_pos (by unfold aB;rw [decide_eq_true (show 1≤sc by omega),decide_eq_false mOm];rfl)]);clear HV;go_wp2_with fail;go_ret;exact ⟨aI (by rw [HV2.out]),hb0⟩
 have HV2:Hid (V=if 20 < l.length then 2 else eM 0 0 l):=aa (by rw [HV.out,if_neg (by unfold aB;rw [decide_eq_true (show 1≤sc by omega),decide_eq_true mOm];simp)])
 clear HV;by_cases h3:20 < l.length
 ·have i1:(20:Int) < (l.length:Int):=mOm;have HV3:Hid (V=2):=aa (by rw [HV2.out,if_pos h3]);clear HV2 h3;go_wp2_with fail;go_ret;exact ⟨aI (by rw [HV3.out]),hb0⟩
 have i1:¬ (20:Int) < (l.length:Int):=mOm
 have HV3:Hid (V=eM 0 0 l):=aa (by rw [HV2.out,if_neg h3]);clear HV2 h3;go_wp2_with fail;have hbl:=ay hh;generalize w.alloc (JU #[JO JP sc,JR (JV ⟨g,0,JW⟩) l.length c] 33)=W at *;have c1:=ae hh 1;clear hh
 go_loopw [3] (fun i wr=>∃ k:Nat,k≤l.length∧i=JO JP k∧Hid (eM (pId l k) (tM l k) (l.drop k)=eM 0 0 l)∧ac W.heap.size W wr) (fun i _=>l.length - (aw i).toNat)
 case atStart=>exact ⟨0,aR _,rfl,aa rfl,Below.refl _ _⟩
 case round =>
  obtain ⟨k,hk,rfl,HI,hb⟩:=hrel;have c2:=(hb.cell (p:=⟨w.heap.size,1,JW⟩) hbl).trans c1;by_cases hlt:k < l.length
  ·have hge:=ai hlt;have HE:=aa (Cg hge (pId l k) (tM l k));have j1:(k:Int) < (l.length:Int):=mOm
   have HP:Hid (pId l (k+1)=l[k].id∧tM l (k+1)=l[k].fro):=aa (by
    show (l.getD k _).id=_∧(l.getD k _).fro=_
    rw [bi,hge];exact ⟨rfl,rfl⟩)
   have hC:Calls prog 123 #[JR (JV ⟨g,0,JW⟩) l.length c,JO JP (k:Int)] wr fun x w'=>x=JT (JO JP (eZ (pId l k) (tM l k) l[k]))∧ac wr.heap.size wr w':=by
    have hkr:=HK.out.below hb hg1;have hgr:=av hg1 hb.size
    cases k with
    | zero=>exact zW g c l l[0] hge wr hkr hgr hl
    | succ k =>
     have hz:=ai (show k < l.length by omega);have:=zX g c l k l[k+1] l[k] hz hge wr hkr hgr hl;rw [show pId l (k+1)=l[k].id by show (l.getD k _).id=_;rw [bi,hz];rfl,show tM l (k+1)=l[k].fro by show (l.getD k _).fro=_;rw [bi,hz];rfl];exact this
   rw [← HP.out.1,← HP.out.2] at HE
   generalize eZ (pId l k) (tM l k) l[k]=E at *;clear hge HP;go_wp2_with fail;refine hC.mono ?_;rintro _ w1 ⟨rfl,hb1⟩;have hb2:=ah hb hb1;clear hb1 hC;by_cases h0:E=0
   ·subst h0;have HN:Hid (eM (pId l (k+1)) (tM l (k+1)) (l.drop (k+1))=eM 0 0 l):=aa (by rw [← HI.out,HE.out,if_neg mSi]);clear HE HI;go_wp2_with fail
    first
     | exact ⟨⟨k+1,mOm,by first | rfl | go_num,HN,hb2⟩,by simp [aw];omega⟩
     |go_roundw
      case rel=>exact ⟨k+1,mOm,by go_num,HN,hb2⟩
      case measure=>simp [aw];omega
   ·have HN:Hid (V=E):=aa (by rw [HV3.out,← HI.out,HE.out,if_pos h0]);have tne:(E != 0)=true:=by rw [bne_iff_ne];exact h0
    clear HE HI h0;go_wp2_with fail;go_ret;exact ⟨aI (by rw [HN.out]),ah hb0 hb2⟩
  ·obtain rfl:k=l.length:=mOm;have HV4:Hid (V=0):=aa (by rw [HV3.out,← HI.out,jn];rfl);go_wp2_with fail;go_ret;exact ⟨aI (by rw [HV4.out]),ah hb0 hb⟩
end
section
structure LL.Ok (x:LL):Prop where
 school:I64 x.school
 size:I64 x.size
 day:I64 x.day
 key:I64 x.key
 tree:x.tree.size≤100000
 before:x.before.size≤100000
 mark:x.mark.size≤100000
abbrev sP (w:World) (b:Nat) (cs:Array Value) (u:World):Prop:=ac w.heap.size w u∧b < u.heap.size∧∀ j,u.cell? ⟨b,j,JW⟩=cs[j]?
theorem bO {w u v:World} {b:Nat} {cs:Array Value} (h:sP w b cs u) (hb:ac u.heap.size u v):sP w b cs v:=
 ⟨ah h.1 hb,av h.2.1 hb.size,fun j=>(hb.cell (p:=⟨b,j,JW⟩) h.2.1).trans (h.2.2 j)⟩
theorem QP {p q:Prop} (h:q) (f:Wq q→p:=by
 intro hq;have c2:¬ 9223372036854775807 < A1.size+A2.size:=mOm;have c3:¬ 9223372036854775807 < A1.size+A2.size+A3.size:=mOm;have c4:¬ 9223372036854775807 < A1.size+A2.size+A3.size+A4.size:=mOm;have c5:¬ 9223372036854775807 < A1.size+A2.size+A3.size+A4.size+A5.size:=mOm;have c6:¬ 9223372036854775807 < A1.size+A2.size+A3.size+A4.size+A5.size+A6.size:=mOm;have hb0:=al w (JU #[JO JP sc,JO JP sz,JO JP dy,JQ tr,JQ bf,JO JP ky,JQ mk] 65);have hS0:sP w w.heap.size #[JO JP sc,JO JP sz,JO JP dy,JQ tr,JQ bf,JO JP ky,JQ mk] (w.alloc (JU #[JO JP sc,JO JP sz,JO JP dy,JQ tr,JQ bf,JO JP ky,JQ mk] 65)).drew:=⟨hb0.drew,by show w.heap.size < (w.alloc _).heap.size;rw [size_alloc];omega,fun j=>ae (heap_alloc_new w _) j⟩
 revert c2 c3 c4 c5 c6 hb0 hS0
 exact hq.1):p:=f ⟨h⟩
theorem Rd {p q:Prop} (h:q) (f:Wq q→p:=by
 intro hq;refine Jy (S:=fun u=>ac w.heap.size w u∧w.heap.size < u.heap.size∧∀ j,u.cell? ⟨w.heap.size,j,JW⟩=(#[JO JP sc,JO JP sz,JO JP dy,JQ tr,JQ bf,JO JP ky,JQ mk]:Array Value)[j]?) [(0,true),(1,true),(3,true),(4,true),(7,true),(8,true),(11,true),(12,true),(15,true),(16,true),(19,true),(20,true),(2,false),(5,false),(6,true),(9,false),(10,true),(13,false),(14,true),(17,false),(18,true),(21,false),(22,true),(23,true)] hS0 ?_;have hS:=hS0
 iterate 12 refine aj ?_
 revert hS
 exact hq.1):p:=f ⟨h⟩
theorem LA {p q:Prop} (h:q) (f:Wq q→p:=by
 intro hq;have z1:=ez x.school hx.school.1 hx.school.2;have z2:=ez x.size hx.size.1 hx.size.2;have z3:=ez x.day hx.day.1 hx.day.2;have z4:=fB x.tree (by have:=hx.tree;omega);have z5:=fB x.before (by have:=hx.before;omega);have z6:=ez x.key hx.key.1 hx.key.2;have y4:=hx.tree;have y5:=hx.before
 revert z1 z2 z3 z4 z5 z6 y4 y5
 exact hq.1):p:=f ⟨h⟩
theorem Mb {p q:Prop} (h:q) (f:Wq q→p:=by
 intro hq;have HR:Hid ((⟨(dj x.school).toArray⟩:ByteArray)++⟨(dj x.size).toArray⟩++⟨(dj x.day).toArray⟩++⟨(d8 x.tree).toArray⟩++⟨(d8 x.before).toArray⟩++⟨(dj x.key).toArray⟩=bC x):=aa (dl (by simp [bC,jj]))
 revert HR
 exact hq.1):p:=f ⟨h⟩
theorem rE (x:LL) (hx:x.Ok) (w:World) (ht:Tabs w) :
  Calls prog 207 #[x.val] w fun e w'=>e=JT (JQ (bC x))∧ac w.heap.size w w':=by
 refine LA ?_;intro z1 z2 z3 z4 z5 z6 y4 y5;have k1:=fun w ht=>jA x.school w hx.school.1 hx.school.2 ht
 have k2:=fun w ht=>jA x.size w hx.size.1 hx.size.2 ht
 have k3:=fun w ht=>jA x.day w hx.day.1 hx.day.2 ht
 have k4:=fun w ht=>nx x.tree w (by have:=hx.tree;omega) ht
 have k5:=fun w ht=>nx x.before w (by have:=hx.before;omega) ht
 have k6:=fun w ht=>jA x.key w hx.key.1 hx.key.2 ht
 refine Mb ?_;intro HR;generalize bC x=R at *;obtain ⟨sc,sz,dy,tr,bf,ky,mk⟩:=x;simp only at *;replace z1:(⟨(dj sc).toArray⟩:ByteArray).size≤22:=by rw [bw];exact z1
 generalize (⟨(dj sc).toArray⟩:ByteArray)=A1 at *;replace z2:(⟨(dj sz).toArray⟩:ByteArray).size≤22:=by rw [bw];exact z2
 generalize (⟨(dj sz).toArray⟩:ByteArray)=A2 at *;replace z3:(⟨(dj dy).toArray⟩:ByteArray).size≤22:=by rw [bw];exact z3
 generalize (⟨(dj dy).toArray⟩:ByteArray)=A3 at *;replace z4:(⟨(d8 tr).toArray⟩:ByteArray).size≤tr.size+22:=by rw [bw];exact z4
 generalize (⟨(d8 tr).toArray⟩:ByteArray)=A4 at *;replace z5:(⟨(d8 bf).toArray⟩:ByteArray).size≤bf.size+22:=by rw [bw];exact z5
 generalize (⟨(d8 bf).toArray⟩:ByteArray)=A5 at *;replace z6:(⟨(dj ky).toArray⟩:ByteArray).size≤22:=by rw [bw];exact z6
 generalize (⟨(dj ky).toArray⟩:ByteArray)=A6 at *;refine QP ?_;intro c2 c3 c4 c5 c6 hb0 hS0;clear z1 z2 z3 z4 z5 z6 y4 y5 hx;go_enter func207,ntmps207;go_wp2_with fail;refine Rd ?_;intro hS
 (first | (refine aH 97 call97 (k1 _ (ht.below hS.1)) ?_;rintro x wn ⟨rfl,hb⟩;replace hS:=bO hS hb;refine ⟨_,rfl,hS,?_⟩;(try clear hb)) | (refine aH 97 call97 (k2 _ (ht.below hS.1)) ?_;rintro x wn ⟨rfl,hb⟩;replace hS:=bO hS hb;refine ⟨_,rfl,hS,?_⟩;(try clear hb)) | (refine aH 97 call97 (k3 _ (ht.below hS.1)) ?_;rintro x wn ⟨rfl,hb⟩;replace hS:=bO hS hb;refine ⟨_,rfl,hS,?_⟩;(try clear hb)) | (refine aH 97 call97 (k6 _ (ht.below hS.1)) ?_;rintro x wn ⟨rfl,hb⟩;replace hS:=bO hS hb;refine ⟨_,rfl,hS,?_⟩;(try clear hb)))
 refine ar ?_
 (first | (refine aH 97 call97 (k1 _ (ht.below hS.1)) ?_;rintro x wn ⟨rfl,hb⟩;replace hS:=bO hS hb;refine ⟨_,rfl,hS,?_⟩;(try clear hb)) | (refine aH 97 call97 (k2 _ (ht.below hS.1)) ?_;rintro x wn ⟨rfl,hb⟩;replace hS:=bO hS hb;refine ⟨_,rfl,hS,?_⟩;(try clear hb)) | (refine aH 97 call97 (k3 _ (ht.below hS.1)) ?_;rintro x wn ⟨rfl,hb⟩;replace hS:=bO hS hb;refine ⟨_,rfl,hS,?_⟩;(try clear hb)) | (refine aH 97 call97 (k6 _ (ht.below hS.1)) ?_;rintro x wn ⟨rfl,hb⟩;replace hS:=bO hS hb;refine ⟨_,rfl,hS,?_⟩;(try clear hb)))
 refine ar ?_
 refine aj ?_
 (first | (refine aH 97 call97 (k1 _ (ht.below hS.1)) ?_;rintro x wn ⟨rfl,hb⟩;replace hS:=bO hS hb;refine ⟨_,rfl,hS,?_⟩;(try clear hb)) | (refine aH 97 call97 (k2 _ (ht.below hS.1)) ?_;rintro x wn ⟨rfl,hb⟩;replace hS:=bO hS hb;refine ⟨_,rfl,hS,?_⟩;(try clear hb)) | (refine aH 97 call97 (k3 _ (ht.below hS.1)) ?_;rintro x wn ⟨rfl,hb⟩;replace hS:=bO hS hb;refine ⟨_,rfl,hS,?_⟩;(try clear hb)) | (refine aH 97 call97 (k6 _ (ht.below hS.1)) ?_;rintro x wn ⟨rfl,hb⟩;replace hS:=bO hS hb;refine ⟨_,rfl,hS,?_⟩;(try clear hb)))
 refine ar ?_
 refine aj ?_
 (first | (refine aH 98 call98 (k4 _ (ht.below hS.1)) ?_;rintro x wn ⟨rfl,hb⟩;replace hS:=bO hS hb;refine ⟨_,rfl,hS,?_⟩;(try clear hb)) | (refine aH 98 call98 (k5 _ (ht.below hS.1)) ?_;rintro x wn ⟨rfl,hb⟩;replace hS:=bO hS hb;refine ⟨_,rfl,hS,?_⟩;(try clear hb)))
 refine ar ?_
 refine aj ?_
 (first | (refine aH 98 call98 (k4 _ (ht.below hS.1)) ?_;rintro x wn ⟨rfl,hb⟩;replace hS:=bO hS hb;refine ⟨_,rfl,hS,?_⟩;(try clear hb)) | (refine aH 98 call98 (k5 _ (ht.below hS.1)) ?_;rintro x wn ⟨rfl,hb⟩;replace hS:=bO hS hb;refine ⟨_,rfl,hS,?_⟩;(try clear hb)))
 refine ar ?_
 refine aj ?_
 (first | (refine aH 97 call97 (k1 _ (ht.below hS.1)) ?_;rintro x wn ⟨rfl,hb⟩;replace hS:=bO hS hb;refine ⟨_,rfl,hS,?_⟩;(try clear hb)) | (refine aH 97 call97 (k2 _ (ht.below hS.1)) ?_;rintro x wn ⟨rfl,hb⟩;replace hS:=bO hS hb;refine ⟨_,rfl,hS,?_⟩;(try clear hb)) | (refine aH 97 call97 (k3 _ (ht.below hS.1)) ?_;rintro x wn ⟨rfl,hb⟩;replace hS:=bO hS hb;refine ⟨_,rfl,hS,?_⟩;(try clear hb)) | (refine aH 97 call97 (k6 _ (ht.below hS.1)) ?_;rintro x wn ⟨rfl,hb⟩;replace hS:=bO hS hb;refine ⟨_,rfl,hS,?_⟩;(try clear hb)))
 refine ar ?_
 iterate 2 refine aj ?_
 simp only [aO,bj];go_wp2_with fail;go_ret;exact ⟨cJ HR.out,hS.1⟩
theorem ly (x:LL) (hx:x.Ok) (w:World) :
  Calls prog 130 #[x.val] w fun e w'=>e=JT (JQ (bC x))∧ac w.heap.size w w':=by
 refine LA ?_;intro z1 z2 z3 z4 z5 z6 y4 y5;have k1:=fun w=>ji x.school w hx.school
 have k2:=fun w=>ji x.size w hx.size
 have k3:=fun w=>ji x.day w hx.day
 have k4:=fun w=>kC x.tree w (by have:=hx.tree;omega)
 have k5:=fun w=>kC x.before w (by have:=hx.before;omega)
 have k6:=fun w=>ji x.key w hx.key
 refine Mb ?_;intro HR;generalize bC x=R at *;obtain ⟨sc,sz,dy,tr,bf,ky,mk⟩:=x;simp only at *;replace z1:(⟨(dj sc).toArray⟩:ByteArray).size≤22:=by rw [bw];exact z1
 generalize (⟨(dj sc).toArray⟩:ByteArray)=A1 at *;replace z2:(⟨(dj sz).toArray⟩:ByteArray).size≤22:=by rw [bw];exact z2
 generalize (⟨(dj sz).toArray⟩:ByteArray)=A2 at *;replace z3:(⟨(dj dy).toArray⟩:ByteArray).size≤22:=by rw [bw];exact z3
 generalize (⟨(dj dy).toArray⟩:ByteArray)=A3 at *;replace z4:(⟨(d8 tr).toArray⟩:ByteArray).size≤tr.size+22:=by rw [bw];exact z4
 generalize (⟨(d8 tr).toArray⟩:ByteArray)=A4 at *;replace z5:(⟨(d8 bf).toArray⟩:ByteArray).size≤bf.size+22:=by rw [bw];exact z5
 generalize (⟨(d8 bf).toArray⟩:ByteArray)=A5 at *;replace z6:(⟨(dj ky).toArray⟩:ByteArray).size≤22:=by rw [bw];exact z6
 generalize (⟨(dj ky).toArray⟩:ByteArray)=A6 at *;refine QP ?_;intro c2 c3 c4 c5 c6 hb0 hS0;clear z1 z2 z3 z4 z5 z6 y4 y5 hx;go_enter func130,ntmps130;go_wp2_with fail;refine Rd ?_;intro hS
 (first | (refine aH 58 call58 (k1 _) ?_;rintro x wn ⟨rfl,hb⟩;replace hS:=bO hS hb;refine ⟨_,rfl,hS,?_⟩;(try clear hb)) | (refine aH 58 call58 (k2 _) ?_;rintro x wn ⟨rfl,hb⟩;replace hS:=bO hS hb;refine ⟨_,rfl,hS,?_⟩;(try clear hb)) | (refine aH 58 call58 (k3 _) ?_;rintro x wn ⟨rfl,hb⟩;replace hS:=bO hS hb;refine ⟨_,rfl,hS,?_⟩;(try clear hb)) | (refine aH 58 call58 (k6 _) ?_;rintro x wn ⟨rfl,hb⟩;replace hS:=bO hS hb;refine ⟨_,rfl,hS,?_⟩;(try clear hb)))
 refine ar ?_
 (first | (refine aH 58 call58 (k1 _) ?_;rintro x wn ⟨rfl,hb⟩;replace hS:=bO hS hb;refine ⟨_,rfl,hS,?_⟩;(try clear hb)) | (refine aH 58 call58 (k2 _) ?_;rintro x wn ⟨rfl,hb⟩;replace hS:=bO hS hb;refine ⟨_,rfl,hS,?_⟩;(try clear hb)) | (refine aH 58 call58 (k3 _) ?_;rintro x wn ⟨rfl,hb⟩;replace hS:=bO hS hb;refine ⟨_,rfl,hS,?_⟩;(try clear hb)) | (refine aH 58 call58 (k6 _) ?_;rintro x wn ⟨rfl,hb⟩;replace hS:=bO hS hb;refine ⟨_,rfl,hS,?_⟩;(try clear hb)))
 refine ar ?_
 refine aj ?_
 (first | (refine aH 58 call58 (k1 _) ?_;rintro x wn ⟨rfl,hb⟩;replace hS:=bO hS hb;refine ⟨_,rfl,hS,?_⟩;(try clear hb)) | (refine aH 58 call58 (k2 _) ?_;rintro x wn ⟨rfl,hb⟩;replace hS:=bO hS hb;refine ⟨_,rfl,hS,?_⟩;(try clear hb)) | (refine aH 58 call58 (k3 _) ?_;rintro x wn ⟨rfl,hb⟩;replace hS:=bO hS hb;refine ⟨_,rfl,hS,?_⟩;(try clear hb)) | (refine aH 58 call58 (k6 _) ?_;rintro x wn ⟨rfl,hb⟩;replace hS:=bO hS hb;refine ⟨_,rfl,hS,?_⟩;(try clear hb)))
 refine ar ?_
 refine aj ?_
 (first | (refine aH 59 call59 (k4 _) ?_;rintro x wn ⟨rfl,hb⟩;replace hS:=bO hS hb;refine ⟨_,rfl,hS,?_⟩;(try clear hb)) | (refine aH 59 call59 (k5 _) ?_;rintro x wn ⟨rfl,hb⟩;replace hS:=bO hS hb;refine ⟨_,rfl,hS,?_⟩;(try clear hb)))
 refine ar ?_
 refine aj ?_
 (first | (refine aH 59 call59 (k4 _) ?_;rintro x wn ⟨rfl,hb⟩;replace hS:=bO hS hb;refine ⟨_,rfl,hS,?_⟩;(try clear hb)) | (refine aH 59 call59 (k5 _) ?_;rintro x wn ⟨rfl,hb⟩;replace hS:=bO hS hb;refine ⟨_,rfl,hS,?_⟩;(try clear hb)))
 refine ar ?_
 refine aj ?_
 (first | (refine aH 58 call58 (k1 _) ?_;rintro x wn ⟨rfl,hb⟩;replace hS:=bO hS hb;refine ⟨_,rfl,hS,?_⟩;(try clear hb)) | (refine aH 58 call58 (k2 _) ?_;rintro x wn ⟨rfl,hb⟩;replace hS:=bO hS hb;refine ⟨_,rfl,hS,?_⟩;(try clear hb)) | (refine aH 58 call58 (k3 _) ?_;rintro x wn ⟨rfl,hb⟩;replace hS:=bO hS hb;refine ⟨_,rfl,hS,?_⟩;(try clear hb)) | (refine aH 58 call58 (k6 _) ?_;rintro x wn ⟨rfl,hb⟩;replace hS:=bO hS hb;refine ⟨_,rfl,hS,?_⟩;(try clear hb)))
 refine ar ?_
 iterate 2 refine aj ?_
 simp only [aO,bj];go_wp2_with fail;go_ret;exact ⟨cJ HR.out,hS.1⟩
end
section
attribute [local go_sem] kz sg
theorem jQ {n:Nat} (h:n < 10):di (n:Int)=[UInt8.ofNat (48+n%10)]:=by
 rw [iz (n:=(n:Int)) mOm mOm,Nat.mod_eq_of_lt h]
 congr 1
theorem nj {n:Nat} (h:¬ n < 10):di (n:Int)=di ((n / 10:Nat):Int)++[UInt8.ofNat (48+n%10)]:=by
 rw [jM (n:=(n:Int)) mOm]
 congr 1
 rw [show (n:Int)%10=((n%10:Nat):Int) by omega,jQ mOm,Nat.mod_mod]
theorem yW {n:Nat} (hn:n≤999999):(di (n:Int)).length≤6∧cV n=[48,48,48,48,48,48].take (6 - (di (n:Int)).length)++di (n:Int):=by
 by_cases h1:n < 10
 ·rw [jQ h1];refine ⟨mSi,?_⟩;unfold cV;rw [show n / 10=0 by omega];rfl
 rw [nj h1]
 by_cases h2:n / 10 < 10
 ·rw [jQ h2];refine ⟨mSi,?_⟩;unfold cV;rw [show n / 10 / 10=0 by omega];rfl
 rw [nj h2]
 by_cases h3:n / 10 / 10 < 10
 ·rw [jQ h3];refine ⟨mSi,?_⟩;unfold cV;rw [show n / 10 / 10 / 10=0 by omega];rfl
 rw [nj h3]
 by_cases h4:n / 10 / 10 / 10 < 10
 ·rw [jQ h4];refine ⟨mSi,?_⟩;unfold cV;rw [show n / 10 / 10 / 10 / 10=0 by omega];rfl
 rw [nj h4]
 by_cases h5:n / 10 / 10 / 10 / 10 < 10
 ·rw [jQ h5];refine ⟨mSi,?_⟩;unfold cV;rw [show n / 10 / 10 / 10 / 10 / 10=0 by omega];rfl
 rw [nj h5,jQ (n:=n / 10 / 10 / 10 / 10 / 10) mOm]
 exact ⟨mSi,rfl⟩
theorem pz (n:Nat) (w:World) (hn:n≤999999) (ht:Tabs w) :
  Calls prog 208 #[JO JP n] w fun e w'=>e=JT (JQ ⟨(cV n).toArray⟩)∧ac w.heap.size w w':=by
 have ci:=jR (n:Int) w mOm mOm ht;have hl:(di (n:Int)).length≤6:=(yW hn).1;have hsx:=aa (yW hn).2;generalize di (n:Int)=s at *;have hsz:(⟨s.toArray⟩:ByteArray).size=s.length:=by simp [ByteArray.size]
 have hSd:(⟨s.toArray⟩:ByteArray).data.toList=s:=mSi;generalize (⟨s.toArray⟩:ByteArray)=S at *;have HSD:=aa hSd;clear hSd;obtain ⟨q,hq⟩:∃ q,q=6 - s.length:=⟨_,rfl⟩;have a1:IntKind.i64.wrap (6 - (S.size:Int))=(q:Int):=by rw [show 6 - (S.size:Int)=(q:Int) by omega];exact eR _ _ rfl mOm
 have hq6:(q:Int)≤6:=mOm;have HQ:=aa hq;clear hq ht;go_enter func208,ntmps208;go_wp2_with fail;refine ci.mono ?_;rintro _ w1 ⟨rfl,hb1⟩;go_wp2_with fail;go_ret;exact ⟨cJ (dl (by simp [hsx.out,HSD.out])),hb1⟩
theorem pt (n:Nat) (w:World) (hn:n≤999999) :
  Calls prog 189 #[JO JP n] w fun e w'=>e=JT (JQ ⟨(cV n).toArray⟩)∧ac w.heap.size w w':=by
 go_enter func189,ntmps189;go_wp2_with fail;refine wp_loop_rounds 7 ?_;rw [rounds_succ];go_wp2_with fail;rw [rounds_succ];go_wp2_with fail;rw [rounds_succ];go_wp2_with fail;rw [rounds_succ];go_wp2_with fail;rw [rounds_succ];go_wp2_with fail;rw [rounds_succ];go_wp2_with fail;rw [rounds_succ];go_wp2_with fail;go_ret;exact ⟨cJ rfl,(Below.refl _ _).alloc (aD _) _⟩
theorem Jq {p:Prop} (h:p:=by
 refine ar ?_;refine aZ (bR ⟨_,_,_,_,_,_⟩ (JQ ⟨#[UInt8.ofNat (IntKind.u8.wrap (IntKind.i64.wrap (48+n.tmod 10))).toNat]⟩) w1 rfl mRf ?_ ?_)
 ·have hcv:=kT w1 nb _ (ae hB 0)
  go_simp
 refine ⟨hS,?_⟩
 refine ar ?_
 iterate 2 refine aJ ?_
 simp only [dp,bj];clear hw1;go_wp2_with fail;go_ret
 exact ⟨cJ (dl (by simp [H.out,HF.out.1,HF.out.2])),hS⟩):p:=h
theorem QG {p q:Prop} (h:q) (f:Wq q→p:=by
 intro hq;have hB:=heap_alloc_new w1 (JU #[JO .u8 (IntKind.u8.wrap (IntKind.i64.wrap (48+n.tmod 10)))] 5);replace hS:=ah hS (au w1 (JU #[JO .u8 (IntKind.u8.wrap (IntKind.i64.wrap (48+n.tmod 10)))] 5));refine ⟨hS,?_⟩
 revert hB hS
 exact hq.1):p:=f ⟨h⟩
theorem Ai (k:Nat):∀ (n:Int) (w:World),0≤n→n < k→n≤9223372036854775807→
  Calls prog 141 #[JO JP n] w fun e w'=>e=JT (JQ ⟨(di n).toArray⟩)∧ac w.heap.size w w':=by
 induction k with
 | zero=>intro n w h0 h1 _;omega
 | succ k ih =>
  intro n w h0 h1 h2;by_cases hs:n < 10
  ·have hw:IntKind.i64.wrap (48+n)=48+n:=aF _ mOm;have H:=aa (iz h0 hs);go_enter func141,ntmps141;go_wp2_with fail;go_ret;exact ⟨cJ (by rw [H.out]),au _ _⟩
  ·have hl1:=Lib.itoa_length_le (n / 10) mOm mOm;have H:=aa (jM (n:=n) mOm);have c1:=fun w=>ih (n / 10) w mOm mOm mOm
   clear ih;go_enter func141,ntmps141;go_wp2_with fail;have hw1:IntKind.i64.wrap (48+n%10)=48+n%10:=aF _ mOm;have hl2:¬ 9223372036854775807 < (itoa (n / 10)).length+1:=mOm;have hd1:IntKind.i64.wrap (n.tdiv 10)=n / 10:=by rw [Int.tdiv_eq_ediv_of_nonneg h0];exact aF _ mOm
   have HF:Hid (UInt8.ofNat (IntKind.u8.wrap (IntKind.i64.wrap (48+n.tmod 10))).toNat=UInt8.ofNat (48+n%10).toNat∧itoa (n%10)=[UInt8.ofNat (48+n%10).toNat]):=aa (by
    rw [Int.tmod_eq_emod_of_nonneg h0,hw1]
    exact ⟨by congr 2;simp [IntKind.wrap,IntKind.signed,IntKind.bits];omega,by rw [iz mOm mOm]⟩)
   have hs1:(⟨(itoa (n / 10)).toArray⟩:ByteArray).size=(itoa (n / 10)).length:=by simp [ByteArray.size]
   have hS:ac w.heap.size w w.drew:=(Below.refl _ w).drew;refine JB (S:=fun w'=>ac w.heap.size w w') (.take 0 (.take 1 (.take 3 (.take 4 (.take 5 (.take 6 (.two 2 7 (.one 7 (.one 8 (.take 9 (.take 10 .done)))) (.two 2 8 (.one 8 (.take 9 (.take 10 .done))) (.one 2 (.take 9 (.take 10 .done))))))))))) hS ?_;generalize w.drew=w1 at hS ⊢
   iterate 6 refine aJ ?_
   refine dn ?_ ?_
   ·refine bn ⟨_,_,_,_,_,_⟩ rfl mRf 141 _ _ mRf [JO JP (n / 10)] mRf call141 (c1 _) ?_;rintro r w1 ⟨rfl,hb1⟩;replace hS:=ah hS hb1
    (try replace hB:=(hb1.block _ (ay hB)).trans hB)
    refine ⟨_,rfl,hS,?_⟩;clear hb1;refine ar ?_;refine aZ (bR ⟨_,_,_,_,_,_⟩ (JR (JV ⟨w1.heap.size,0,JW⟩) 1 1) (w1.alloc (JU #[JO .u8 (IntKind.u8.wrap (IntKind.i64.wrap (48+n.tmod 10)))] 5)) rfl mRf ?_ ?_)
    ·go_simp
    refine QG ?_;intro hB hS
    generalize w1.heap.size=nb at hB ⊢;generalize w1.alloc (JU #[JO .u8 (IntKind.u8.wrap (IntKind.i64.wrap (48+n.tmod 10)))] 5)=w2 at hB hS ⊢;obtain ⟨w1,rfl⟩:∃ w,w=w2:=⟨_,rfl⟩;exact Jq
   ·refine bR ⟨_,_,_,_,_,_⟩ (JR (JV ⟨w1.heap.size,0,JW⟩) 1 1) (w1.alloc (JU #[JO .u8 (IntKind.u8.wrap (IntKind.i64.wrap (48+n.tmod 10)))] 5)) rfl mRf ?_ ?_
    ·go_simp
    refine QG ?_;intro hB hS
    generalize w1.heap.size=nb at hB ⊢;generalize w1.alloc (JU #[JO .u8 (IntKind.u8.wrap (IntKind.i64.wrap (48+n.tmod 10)))] 5)=w2 at hB hS ⊢;obtain ⟨w1,rfl⟩:∃ w,w=w2:=⟨_,rfl⟩;refine ar ?_;refine dn ?_ ?_
    ·refine bn ⟨_,_,_,_,_,_⟩ rfl mRf 141 _ _ mRf [JO JP (n / 10)] mRf call141 (c1 _) ?_;rintro r w1 ⟨rfl,hb1⟩;replace hS:=ah hS hb1
     (try replace hB:=(hb1.block _ (ay hB)).trans hB)
     refine ⟨_,rfl,hS,?_⟩;clear hb1;exact Jq
    ·refine bR ⟨_,_,_,_,_,_⟩ (JQ ⟨#[UInt8.ofNat (IntKind.u8.wrap (IntKind.i64.wrap (48+n.tmod 10))).toNat]⟩) w1 rfl mRf ?_ ?_
     ·have hcv:=kT w1 nb _ (ae hB 0)
      go_simp
     refine ⟨hS,?_⟩
     refine ar ?_;refine aZ (bn ⟨_,_,_,_,_,_⟩ rfl mRf 141 _ _ mRf [JO JP (n / 10)] mRf call141 (c1 _) ?_);rintro r w1 ⟨rfl,hb1⟩;replace hS:=ah hS hb1
     (try replace hB:=(hb1.block _ (ay hB)).trans hB)
     refine ⟨_,rfl,hS,?_⟩;clear hb1;refine ar ?_
     iterate 2 refine aJ ?_
     simp only [dp,bj];clear hw1;go_wp2_with fail;go_ret;exact ⟨cJ (dl (by simp [H.out,HF.out.1,HF.out.2])),hS⟩
end
section
def vt (c:UInt8):List Value:=[JO .u8 c.toNat]
theorem qP:∀ x:UInt8,(vt x).length=1:=fun _=>rfl
theorem u8T:RowT prog vt 1 5 94 where
 len _:=rfl
 one x u hu:=by simp [vt] at hu;subst hu;rfl
 pos:=mDe
 und:=underlying94
 info:=by
  obtain ⟨i0,hi,h1,h2,h3⟩:=info_parts (show (prog.info? 5).map (fun i=>(i.zero,i.size,i.bytes))=JV (JV (JO .u8 0),1,1) by kernel_rfl);exact ⟨i0,_,hi,h1,h2,rfl,mOm⟩
theorem pK (t:TypeId) (d:UInt8):binOp .shr t (JO .u8 (d.toNat:Int)) (JO .u64 4)=pure (JO .u8 ((d.toNat / 16:Nat):Int)):=by
 show Op.shift .shr .u8 _ .u64 4=_
 unfold Op.shift
 rw [if_neg mDe]
 show pure (Value.int .u8 ((d.toNat:Int).fdiv (2 ^ (min (4:Int).toNat 8))))=_
 rw [show ((2:Int) ^ (min (4:Int).toNat 8))=16 by decide,Int.fdiv_eq_ediv_of_nonneg _ mDe]
 rfl
theorem pJ (t:TypeId) (d:UInt8):binOp .and t (JO .u8 (d.toNat:Int)) (JO .u8 15)=pure (JO .u8 ((d.toNat%16:Nat):Int)):=by
 have:∀ n:Fin 256,IntKind.u8.wrap ((BitVec.ofInt 8 (n.val:Int) &&& BitVec.ofInt 8 15).toNat:Nat)=((n.val%16:Nat):Int):=mDe;have h:=this ⟨d.toNat,d.toNat_lt⟩
 show pure (Value.int .u8 (IntKind.u8.wrap ((BitVec.ofInt 8 (d.toNat:Int) &&& BitVec.ofInt 8 15).toNat:Nat)))=_
 rw [h]
attribute [local go_sem 2000] pK pJ
theorem Fg:∀ n,n < 16→([48,49,50,51,52,53,54,55,56,57,97,98,99,100,101,102]:List UInt8)[n]? = JV (ij n):=mDe
theorem qR (l:List UInt8) (d:UInt8):eY (l++[d])=eY l++[ij (d.toNat / 16),ij (d.toNat%16)]:=by unfold eY;rw [List.flatMap_append];simp
theorem xV {w:World} {v:Value} {L:List UInt8} {p:Option Addr} {n c:Nat} (h:LK vt w v L) (hv:v=JR p n c) (hl:0 < L.length):(convert 94 9 v).run prog w=.ok (JQ ⟨L.toArray⟩) w:=by
 obtain ⟨g,o,rfl,hg,hr⟩:=dc (kk:=1) h qP hv hl;have hn:n=L.length:=by obtain ⟨p',c',e,_⟩:=h;rw [hv] at e;injection e
 subst hv hn
 have hcv:=run_convert_bytes_arg w 94 5 underlying94 underlying5 g o L.length c (L.map fun x=>(x.toNat:Int)) mSi (fun i hi=>by
  have h1:=hr i _ (ai hi) 0 _ rfl;rw [Nat.mul_one,Nat.add_zero] at h1;rw [bi,fo,ai hi]
  exact h1) 9 underlying9
 have e:strOfNums (L.map fun x=>(x.toNat:Int))=⟨L.toArray⟩:=by
  unfold strOfNums;rw [List.map_map]
  congr 2
  refine (List.map_congr_left (fun x _=>?_)).trans (List.map_id L)
  show UInt8.ofNat (x.toNat:Int).toNat=x
  rw [cm]
  exact UInt8.toNat_inj.1 (by rw [UInt8.toNat_ofNat'];have:=x.toNat_lt;omega)
 rw [hcv,e]
theorem vR (s:ByteArray) (hs0:0 < s.size) (hs:s.size≤1000) (w:World) :
  Calls prog 213 #[JQ s] w fun e w'=>e=JT (JQ ⟨(eY s.data.toList).toArray⟩)∧ac w.heap.size w w':=by
 obtain ⟨LB,hLB⟩:∃ x,x=Obj.cells #[JO .u8 48,JO .u8 49,JO .u8 50,JO .u8 51,JO .u8 52,JO .u8 53,JO .u8 54,JO .u8 55,JO .u8 56,JO .u8 57,JO .u8 97,JO .u8 98,JO .u8 99,JO .u8 100,JO .u8 101,JO .u8 102] 261:=⟨_,rfl⟩;have hcv:(convert 9 94 (JQ s)).run prog (w.alloc LB)=.ok (JR (JV ⟨(w.alloc LB).heap.size,0,JW⟩) s.size (grownCap (w.alloc LB) s.size 0 5)) (bytesWorld (w.alloc LB) 5 s):=Lib.run_convert_string_bytes (w.alloc LB) _ _ _ s underlying9 underlying94 underlying5;have hcl:∀ j,j < s.size→(bytesWorld (w.alloc LB) 5 s).cell? ⟨(w.alloc LB).heap.size,j,JW⟩=JV (JO .u8 (s.data.toList.getD j 0).toNat):=fun j hj=>bytesWorld_cell (w.alloc LB) _ s j hj
 have hbw:=bytesWorld_below (w.alloc LB) 5 s;have hb0:=al w LB;have hl0:(w.alloc LB).heap[w.heap.size]? = JV LB:=heap_alloc_new w LB;have hsz1:(w.alloc LB).heap.size=w.heap.size+1:=size_alloc w LB
 have HLET:Hid (∀ n,n < 16→(bytesWorld (w.alloc LB) 5 s).cell? ⟨w.heap.size,n,JW⟩=JV (JO .u8 ((ij n).toNat:Int))):=aa (fun n hn=>by
  rw [hbw.cell (p:=⟨w.heap.size,n,JW⟩) (by show w.heap.size < _;omega),ae (hl0.trans (by rw [hLB])) n]
  rw [show (#[JO .u8 48,JO .u8 49,JO .u8 50,JO .u8 51,JO .u8 52,JO .u8 53,JO .u8 54,JO .u8 55,JO .u8 56,JO .u8 57,JO .u8 97,JO .u8 98,JO .u8 99,JO .u8 100,JO .u8 101,JO .u8 102]:Array Value)=(([48,49,50,51,52,53,54,55,56,57,97,98,99,100,101,102]:List UInt8).map fun c=>Value.int .u8 (c.toNat:Int)).toArray from rfl,List.getElem?_toArray,fo,Fg n hn];rfl)
 have HPS:=aa (bw s)
 go_enter func213,ntmps213;rw [hLB] at hcv;go_wp2_with fail;rw [← hLB];rw [hsz1] at hcl;generalize grownCap (w.alloc LB) s.size 0 5=cap at *;generalize bytesWorld (w.alloc LB) 5 s=W1 at *;have hbW:ac w.heap.size w W1:=hb0.trans (hbw.mono hb0.size);have hlt1:w.heap.size < W1.heap.size:=by have:=hbw.size;omega
 have hlt2:0 < s.size→w.heap.size+1 < W1.heap.size:=fun h=>am W1 _ (hcl 0 h)
 replace hlt2:=hlt2 hs0;have HCL:=aa hcl;clear hcl hcv hbw hb0 hl0 hLB
 go_loopw [4,11] (fun v i wr=>∃ k:Nat,k≤s.size∧i=JO JP k∧LQ vt 1 5 W1 wr v (eY (s.data.toList.take k))) (fun _ i _=>s.size - (aw i).toNat)
 case atStart=>exact ⟨0,aR _,rfl,LQ.nil _ _ _ _⟩
 case round =>
  obtain ⟨k,hk,rfl,hO⟩:=hrel;obtain ⟨pv,cv,hv⟩:=hO.form;subst hv;have hdl:(eY (s.data.toList.take k)).length=2*k:=by rw [qc,aM,← HPS.out];omega
  by_cases hlt:k < s.size
  ·have i1:(k:Int) < (s.size:Int):=mOm;have htl:k < s.data.toList.length:=by rw [← HPS.out];exact hlt
   have q0:=(hO.low.cell (p:=⟨w.heap.size+1,k,JW⟩) hlt2).trans (HCL.out k hlt);obtain ⟨d,hd⟩:∃ d,s.data.toList.getD k 0=d:=⟨_,rfl⟩;rw [hd] at q0
   have HT:Hid (eY (s.data.toList.take (k+1))=eY (s.data.toList.take k)++[ij (d.toNat / 16),ij (d.toNat%16)]):=aa (by
    rw [← qR,aL,ai htl,← hd,bi,ai htl];rfl)
   have hd8:=UInt8.toNat_lt d
   obtain ⟨q,hq⟩:∃ q,q=d.toNat / 16:=⟨_,rfl⟩;obtain ⟨r,hr⟩:∃ r,r=d.toNat%16:=⟨_,rfl⟩;have l1:=(hO.low.cell (p:=⟨w.heap.size,q,JW⟩) hlt1).trans (HLET.out q mOm);have l2:=(hO.low.cell (p:=⟨w.heap.size,r,JW⟩) hlt1).trans (HLET.out r mOm);have e1:binOp .shr 5 (JO .u8 (d.toNat:Int)) (JO .u64 4)=pure (JO .u8 (q:Int)):=by rw [pK,hq]
   have e2:binOp .and 5 (JO .u8 (d.toNat:Int)) (JO .u8 15)=pure (JO .u8 (r:Int)):=by rw [pJ,hr]
   rw [← hq,← hr] at HT;have q1:(q:Int) < 16:=mOm;have r1:(r:Int) < 16:=mOm;generalize ij q=x at *;generalize ij r=y at *;generalize eY (s.data.toList.take k)=F at *;have HDL:=aa hdl;clear htl hd hq hr hdl;have hS0:ac W1.heap.size W1 wr.drew∧wr.drew.cell? ⟨w.heap.size,q,JW⟩=JV (JO .u8 (x.toNat:Int))∧wr.drew.cell? ⟨w.heap.size,r,JW⟩=JV (JO .u8 (y.toNat:Int)):=⟨hO.low.drew,l1,l2⟩;have HO:=aa hO;clear l1 l2 hO;go_wp2_with fail;refine Jy (S:=fun u=>ac W1.heap.size W1 u∧u.cell? ⟨w.heap.size,q,JW⟩=JV (JO .u8 (x.toNat:Int))∧u.cell? ⟨w.heap.size,r,JW⟩=JV (JO .u8 (y.toNat:Int))) [(0,true),(1,true),(2,true),(3,true),(4,true),(5,true),(6,true),(7,true),(8,true),(9,false),(10,false),(11,true)] hS0 ?_;have hS:=hS0
   iterate 9 refine aj ?_
   refine lV ⟨_,_,_,_,_,_⟩ (JR (JV ⟨wr.drew.heap.size,0,JW⟩) 2 2) (wr.drew.alloc (JU #[JO .u8 (x.toNat:Int),JO .u8 (y.toNat:Int)] 5)) rfl mRf (by go_simp) (zm hS (al _ _)) ?_;have hOm:=HO.out.next (ah (Below.refl _ wr).drew (al wr.drew (JU #[JO .u8 (x.toNat:Int),JO .u8 (y.toNat:Int)] 5)));refine ar ?_;refine iB u8T ⟨_,_,_,_,_,_⟩ rfl mRf (.tmp 15) (.tmp 24) mRf W1.heap.size _ _ F [x,y] mRf mRf hOm.own (cF (heap_alloc_new wr.drew _) _ rfl rfl) (by rw [HDL.out];simp only [bA,cu];omega) hOm.low.size ?_;intro v9 w9 hA9;have hO9:=hOm.app hA9;rw [← HT.out] at hO9;have HO9:=aa hO9;replace hS:ac W1.heap.size W1 w9∧w9.cell? ⟨w.heap.size,q,JW⟩=JV (JO .u8 (x.toNat:Int))∧w9.cell? ⟨w.heap.size,r,JW⟩=JV (JO .u8 (y.toNat:Int)):=⟨hO9.low,(hO9.low.cell (p:=⟨w.heap.size,q,JW⟩) hlt1).trans ((HO.out.low.cell (p:=⟨w.heap.size,q,JW⟩) hlt1).symm.trans hS0.2.1),(hO9.low.cell (p:=⟨w.heap.size,r,JW⟩) hlt1).trans ((HO.out.low.cell (p:=⟨w.heap.size,r,JW⟩) hlt1).symm.trans hS0.2.2)⟩;refine ⟨hS,?_⟩;refine ar ?_;refine aj ?_;simp only [aO,bj];clear hS hS0 hO9 hA9 hOm;go_wp2_with fail
   go_roundw
   case rel=>exact ⟨k+1,mOm,by go_num,HO9.out⟩
   case measure=>simp [aw];omega
  ·obtain rfl:k=s.size:=mOm;have eD:eY (s.data.toList.take s.size)=eY s.data.toList:=by rw [HPS.out,aT]
   rw [eD] at hO hdl ⊢;have hcr:=xV (hO.row qP mDe) rfl (by rw [hdl];omega);have hbF:=hbW.trans (hO.low.mono hbW.size);obtain ⟨F,hF⟩:∃ F,F=eY s.data.toList:=⟨_,rfl⟩;rw [← hF] at hcr ⊢;have HF:=aa hF;clear hO hdl hF eD;go_wp2_with fail;go_ret;exact ⟨cJ (by rw [← HF.out]),hbF⟩
end
section
theorem mZ (s:ByteArray) (hs:s.size≤100000000) (w:World) :
  Calls prog 148 #[JQ s] w fun e w'=>e=JT (JQ ⟨(dg s.data.toList).toArray⟩)∧ac w.heap.size w w':=by
 have hb1:ac w.heap.size w (w.alloc (JU #[JQ s] 9)):=(Below.refl _ w).alloc (aD _) _
 have hP:pE (w.alloc (JU #[JQ s] 9)) w.heap.size 0 [s]:=fun k hk=>by
  obtain rfl:k=0:=by simpa using hk
  exact ⟨ae (heap_alloc_new w _) 0,hs⟩
 have co:=yF w.heap.size 0 1 [s] mSi _ hP
 simp only [du,iS,List.flatMap_nil,List.append_nil,bA,cu,Nat.zero_add] at co;have hdg:be8 (dgX s.data.toList 11*4294967296+dgY s.data.toList 17).toNat=dg s.data.toList:=rfl;rw [hdg] at co;clear hdg;generalize dg s.data.toList=R at co ⊢;go_enter func148,ntmps148;go_wp2_with fail;refine co.mono ?_;rintro _ w1 ⟨rfl,hb2⟩;go_wp2_with fail;go_ret;exact ⟨rfl,hb1.trans (hb2.mono hb1.size)⟩
theorem ya (s:ByteArray):0 < (⟨(dg s.data.toList).toArray⟩:ByteArray).size∧(⟨(dg s.data.toList).toArray⟩:ByteArray).size≤1000:=by have:(⟨(dg s.data.toList).toArray⟩:ByteArray).size=8:=rfl;omega
theorem oZ {p:Prop} (h:p:=by
 go_wp2_with fail;refine co.mono ?_;rintro _ w1 ⟨rfl,hb⟩;go_wp2_with fail;refine (cd _).mono ?_;rintro _ w2 ⟨rfl,hb2⟩;go_wp2_with fail;go_ret
 exact ⟨cJ HH.out,ah hb hb2⟩):p:=h
theorem zl (s:ByteArray) (hs:s.size≤100000000) (w:World) :
  Calls prog 158 #[JQ s] w fun e w'=>e=JT (JQ (iC s))∧ac w.heap.size w w':=by
 have co:=mZ s hs w;have hz:=ya s;have HH:Hid ((⟨(eY (⟨(dg s.data.toList).toArray⟩:ByteArray).data.toList).toArray⟩:ByteArray)=iC s):=aa rfl;generalize (⟨(dg s.data.toList).toArray⟩:ByteArray)=D at *;have cd:=fun w=>vR D hz.1 hz.2 w
 generalize (⟨(eY D.data.toList).toArray⟩:ByteArray)=R at *;go_enter func158,ntmps158;exact oZ
theorem rT (n:Nat) (h:n < 16) (w:World):(Instr.index 9 (JQ ⟨#[48,49,50,51,52,53,54,55,56,57,97,98,99,100,101,102]⟩) (JO .u8 (n:Int))).run prog w=.ok (JO .u8 ((ij n).toNat:Int)) w:=by
 rw [run_index_string w 9 _ _ _ underlying9];have hs:((⟨#[48,49,50,51,52,53,54,55,56,57,97,98,99,100,101,102]⟩:ByteArray).size:Int)=16:=rfl;rw [dif_pos ⟨mOm,by rw [hs];omega⟩];have:∀ n,n < 16→∀ h,(((⟨#[48,49,50,51,52,53,54,55,56,57,97,98,99,100,101,102]⟩:ByteArray)[((n:Nat):Int).toNat]'h).toNat)=(ij n).toNat:=by
  intro n hn;have h16:n=0∨n=1∨n=2∨n=3∨n=4∨n=5∨n=6∨n=7∨n=8∨n=9∨n=10∨n=11∨n=12∨n=13∨n=14∨n=15:=mOm;rcases h16 with rfl | rfl | rfl | rfl | rfl | rfl | rfl | rfl | rfl | rfl | rfl | rfl | rfl | rfl | rfl | rfl <;> intro _ <;> rfl
 rw [this n h]
theorem vL (s:ByteArray) (hs0:0 < s.size) (hs:s.size≤1000) (w:World) :
  Calls prog 193 #[JQ s] w fun e w'=>e=JT (JQ ⟨(eY s.data.toList).toArray⟩)∧ac w.heap.size w w':=by
 have HPS:=aa (bw s);go_enter func193,ntmps193;go_wp2_with fail
 go_loopw [3,4] (fun v i wr=>∃ k:Nat,k≤s.size∧i=JO JP k∧LQ vt 1 5 w wr v (eY (s.data.toList.take k))) (fun _ i _=>s.size - (aw i).toNat)
 case atStart=>exact ⟨0,aR _,rfl,LQ.nil _ _ _ _⟩
 case round =>
  obtain ⟨k,hk,rfl,hO⟩:=hrel;obtain ⟨pv,cv,hv⟩:=hO.form;subst hv;have hdl:(eY (s.data.toList.take k)).length=2*k:=by rw [qc,aM,← HPS.out];omega
  by_cases hlt:k < s.size
  ·have i1:(k:Int) < (s.size:Int):=mOm;have i2:(0:Int)≤(k:Int):=mOm;have htl:k < s.data.toList.length:=by rw [← HPS.out];exact hlt
   obtain ⟨d,hd⟩:∃ d,s.data.toList[k]=d:=⟨_,rfl⟩;have hg:∀ h:k < s.size,s[k]'h=d:=fun h=>(Wr.get_ba s k h).trans hd
   have HT:Hid (eY (s.data.toList.take (k+1))=eY (s.data.toList.take k)++[ij (d.toNat / 16),ij (d.toNat%16)]):=aa (by
    rw [← qR,aL,ai htl,hd];rfl)
   have hd8:=UInt8.toNat_lt d
   obtain ⟨q,hq⟩:∃ q,q=d.toNat / 16:=⟨_,rfl⟩;obtain ⟨r,hr⟩:∃ r,r=d.toNat%16:=⟨_,rfl⟩;have e1:binOp .shr 5 (JO .u8 (d.toNat:Int)) (JO .u64 4)=pure (JO .u8 (q:Int)):=by rw [pK,hq]
   have e2:binOp .and 5 (JO .u8 (d.toNat:Int)) (JO .u8 15)=pure (JO .u8 (r:Int)):=by rw [pJ,hr]
   have e3:=fun w=>rT q mOm w
   have e4:=fun w=>rT r mOm w
   rw [← hq,← hr] at HT;generalize ij q=x at *;generalize ij r=y at *;generalize eY (s.data.toList.take k)=F at *;have HDL:=aa hdl;have hS0:ac w.heap.size w wr.drew:=hO.low.drew;have HO:=aa hO;clear htl hd hq hr hdl hO;go_wp2_with fail;refine Jy (S:=fun u=>ac w.heap.size w u) [(0,true),(1,true),(2,true),(3,true),(4,true),(5,true),(6,true),(7,true),(8,true),(9,true),(10,true),(11,false),(12,false),(13,true)] hS0 ?_;have hS:=hS0
   iterate 11 refine aj ?_
   refine lV ⟨_,_,_,_,_,_⟩ (JR (JV ⟨wr.drew.heap.size,0,JW⟩) 2 2) (wr.drew.alloc (JU #[JO .u8 (x.toNat:Int),JO .u8 (y.toNat:Int)] 5)) rfl mRf (by go_simp) (ah hS (al _ _)) ?_;have hOm:=HO.out.next (ah (Below.refl _ wr).drew (al wr.drew (JU #[JO .u8 (x.toNat:Int),JO .u8 (y.toNat:Int)] 5)));refine ar ?_;refine iB u8T ⟨_,_,_,_,_,_⟩ rfl mRf (.tmp 11) (.tmp 22) mRf w.heap.size _ _ F [x,y] mRf mRf hOm.own (cF (heap_alloc_new wr.drew _) _ rfl rfl) (by rw [HDL.out];simp only [bA,cu];omega) hOm.low.size ?_;intro v9 w9 hA9;have hO9:=hOm.app hA9;rw [← HT.out] at hO9;have HO9:=aa hO9;replace hS:ac w.heap.size w w9:=hO9.low;refine ⟨hS,?_⟩;refine ar ?_;refine aj ?_;simp only [aO,bj];clear hS hS0 hO9 hA9 hOm;go_wp2_with fail
   go_roundw
   case rel=>exact ⟨k+1,mOm,by go_num,HO9.out⟩
   case measure=>simp [aw];omega
  ·obtain rfl:k=s.size:=mOm;have eD:eY (s.data.toList.take s.size)=eY s.data.toList:=by rw [HPS.out,aT]
   rw [eD] at hO hdl ⊢;have hcr:=xV (hO.row qP mDe) rfl (by rw [hdl];omega);have hbF:=hO.low;obtain ⟨F,hF⟩:∃ F,F=eY s.data.toList:=⟨_,rfl⟩;rw [← hF] at hcr ⊢;have HF:=aa hF;clear hO hdl hF eD;go_wp2_with fail;go_ret;exact ⟨cJ (by rw [← HF.out]),hbF⟩
theorem sy (s:ByteArray) (hs:s.size≤100000000) (w:World) :
  Calls prog 140 #[JQ s] w fun e w'=>e=JT (JQ (iC s))∧ac w.heap.size w w':=by
 have co:=nK s mOm w;have hz:=ya s;have HH:Hid ((⟨(eY (⟨(dg s.data.toList).toArray⟩:ByteArray).data.toList).toArray⟩:ByteArray)=iC s):=aa rfl;generalize (⟨(dg s.data.toList).toArray⟩:ByteArray)=D at *;have cd:=fun w=>vL D hz.1 hz.2 w
 generalize (⟨(eY D.data.toList).toArray⟩:ByteArray)=R at *;go_enter func140,ntmps140;exact oZ
end
section
theorem AD {e:Ent} (h:dr e=0) {st d:Int} (hs0:0≤st) (hst:st≤999999) (hd0:0≤d) (hd:d≤999999):bU (da e) (loB st d) < 0↔e.student < st∨(e.student=st∧e.on < d):=by
 obtain ⟨s,o,i,k,h1,h2,h3,h4,b1,b2,b3,b4,b5⟩:=wM h;obtain ⟨m,rfl⟩:∃ m:Nat,st=m:=⟨st.toNat,mOm⟩;obtain ⟨n,rfl⟩:∃ n:Nat,d=n:=⟨d.toNat,mOm⟩;rw [lt_bl,ByteArray.toList_eq,ByteArray.toList_eq];have e1:(da e).data.toList=cV s++32::(cV o++32::(cV i++32::([UInt8.ofNat (48+e.kind.toNat)]++32::l9 e.code))):=by unfold da fk fJ;rw [if_pos h,h1,h2,h3];simp only [cm];simp
 have e2:(loB (m:Int) (n:Int)).data.toList=cV m++32::(cV n++32::[]):=by unfold loB;rw [cm,cm]
 have h6:∀ a b:Nat,(cV a).length=(cV b).length:=fun _ _=>rfl
 have hn:∀ l:List UInt8,Op.bytesLess l []=false:=fun l=>by cases l <;> rfl
 rw [e1,e2,pF (h6 _ _),ua b1 mOm,yV b1 mOm,vl,pF (h6 _ _),ua b2 mOm,yV b2 mOm,vl,hn,Bool.and_false,Bool.or_false,h1,h2];simp only [Bool.or_eq_true,aW,decide_eq_true_eq];omega
theorem GS {e:Ent} (h:dr e=0) {st fi la:Int} (hr:dP st fi la):inB (loB st fi) (hiB st la) (da e)=true↔e.student=st∧fi≤e.on∧e.on≤la:=by obtain ⟨r1,r2,r3,r4,r5⟩:=hr;unfold inB hiB;rw [aW,Bool.not_eq_true',decide_eq_false_iff_not,decide_eq_true_eq,AD h mOm mOm mOm mOm,AD h mOm mOm mOm mOm];omega
theorem Fw {a b:Ent} (ha:dr a=0) (hb:dr b=0) (h:da a=da b):fJ a=fJ b:=by
 have h1:=congrArg (fun x:ByteArray=>x.data.toList) h;simp only [da,fk,if_pos ha,if_pos hb] at h1;exact (List.append_inj h1 rfl).1
