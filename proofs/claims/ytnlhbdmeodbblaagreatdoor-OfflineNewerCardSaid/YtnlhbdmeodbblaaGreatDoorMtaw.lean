/- Lemmas. -/
import Derived.Test.YtnlhbdmeodbblaaGreatDoorMtar
import Derived.Test.YtnlhbdmeodbblaaGreatDoorMtat
set_option maxRecDepth 100000
set_option maxHeartbeats 16000000
set_option linter.all false
open Go.Proofs.Tryz
open Bool renaming and_eq_true->aX
open Int renaming toNat_natCast->cI
open Go.Lib renaming cell_of_heap->ae,frozen_of_heap->aE,hid->aa
open List renaming drop_eq_getElem_cons->cL,drop_length->gZ,getD_eq_getElem?_getD->bi,getElem?_eq_getElem->ai,getElem?_eq_some_iff->aA,length->jQ,length_append->ap
open Nat renaming le_refl->az,lt_of_lt_of_le->ax,zero_le->aP
open Go.RowKit renaming Below->ac,intOf->aw
open Go.World renaming block_lt_of_cell?->al
open Go.Ending renaming returned->Oe
open Go.IntKind renaming i64->Oa
open Go.Obj renaming cells->Of
open Go.Value renaming int->N9,string->Ob,slice->Oc,pointer->Od
open Option renaming some->Og,none->Oh
namespace Go.Proofs.YtnlhbdmeodbblaaGreatDoor
open Go Go.RowKit Go.Sort Go.Lib
section
theorem ku{s:ByteArray}(h:s.size=0):s=⟨#[]⟩:=dL (by have:=bF s;rw[h] at this;rw[List.eq_nil_of_length_eq_zero this.symm])
theorem lI{s:ByteArray}(h:¬s.size=0):s.toList ≠ []/\s.toList.isEmpty=false:=by
 have h2:s.toList ≠ []:=fun e=>h (by rw[bF,<-ByteArray.toList_eq,e];rfl)
 exact⟨h2,by rw[Bool.eq_false_iff];simpa using h2⟩
theorem lq{a b:ByteArray}(h:a≠b):(a.toList==b.toList)=false:=by rw[beq_eq_false_iff_ne];exact fun e=>h (ba_toList.1 e)
def jy(n:Nat):UInt8:=if n<10 then UInt8.ofNat (48+n) else UInt8.ofNat (87+n)
def fK(l:List UInt8):List UInt8:=l.flatMap fun c=>[jy (c.toNat / 16),jy (c.toNat%16)]
def oE(b:List UInt8):List UInt8:=fK (dg b)
def jG(b:ByteArray):ByteArray:=⟨(oE b.data.toList).toArray⟩
def dD(e:Ent):ByteArray:=⟨(fW e++32::oE e.code).toArray⟩
theorem tH(l:List UInt8):(fK l).length=2*l.length:=by
 unfold fK
 induction l with
 | nil=>rfl
 | cons c l ih=>rw[List.flatMap_cons,ap,ih];simp only[List.length_cons,List.length_nil];omega
theorem mT(b:List UInt8):(oE b).length=16:=by unfold oE;rw[tH];rfl
def ep(st fi la:Int):Prop:=1<=st/\st<=999999/\0<=fi/\fi<=la/\la<=100000
def loB(st fi:Int):ByteArray:=⟨(dl st.toNat++32::(dl fi.toNat++[32])).toArray⟩
def hiB(st la:Int):ByteArray:=loB st (la+1)
def lw(s:ByteArray)(n:Nat):Prop:=n<=999999/\s.data.toList=Lib.itoa (n:Int)
theorem lw.inj{s:ByteArray}{m n:Nat}(h:lw s m)(h2:lw s n):m=n:=by have:=Ka (h.2.symm.trans h2.2);omega
structure bT where
 key:ByteArray
 hash:ByteArray
 body:ByteArray
@[reducible] def bT.val(x:bT):Value:=.agg #[Ob x.key,Ob x.hash,Ob x.body]
def fX(x:bT):List Value:=[Ob x.key,Ob x.hash,Ob x.body]
structure aC where
 school:Int
 size:Int
 day:Int
 tree:ByteArray
 before:ByteArray
 key:Int
 mark:ByteArray
@[reducible] def aC.val(x:aC):Value:=.agg #[N9 Oa x.school,N9 Oa x.size,N9 Oa x.day,Ob x.tree,Ob x.before,N9 Oa x.key,Ob x.mark]
def cY(x:aC):List Value:=[N9 Oa x.school,N9 Oa x.size,N9 Oa x.day,Ob x.tree,Ob x.before,N9 Oa x.key,Ob x.mark]
def fp(x:bG):List Value:=[N9 Oa x.id,Ob x.secret,N9 Oa x.fro,N9 Oa x.stolen]
def bL(x:Ent):List Value:=x.cells.toList
structure bH where
 school:Int
 keys:List bG
structure fc where
 school:Int
 student:Int
 first:Int
 last:Int
 root:Int
 lines:List bT
 proof:List ByteArray
def dU(l:List bT):List ByteArray:=l.map fun x=>x.key++⟨#[32]⟩++x.hash
def fC(l:List bT)(a b:ByteArray):List ByteArray:=(if a.size=0 then [] else [a])++dU l++(if b.size=0 then [] else [b])
def lU(x:bT):Prop:=x.hash.size=16/\(x.body.size=0\/jG x.body=x.hash)
def jz(now:ByteArray)(n st fi la:Int)(lines:List bT)(proof:List ByteArray):Prop:=
 ep st fi la/\∃a b c d e rest,proof=a::b::c::d::e::rest/\lM a b=now/\(∀x∈lines,lU x)/\
  ∃i,lw c i/\jo b n (loB st fi) (hiB st la) i (fC lines d e) rest/\(fC lines d e).filter (inB (loB st fi) (hiB st la))=dU lines
def kP(c:UInt8):Bool:=decide (48<=c.toNat)&&decide (c.toNat<=57)
def zj(c:UInt8):Bool:=kP c||(decide (97<=c.toNat)&&decide (c.toNat<=102))
def fG(l:List UInt8):Int:=if l.all kP then (mu l:Int) else -1
def jL(st fi la:Int)(k:List UInt8):Bool:=
 decide (k.length=22)&&(k.getD 6 0==32&&k.getD 13 0==32&&k.getD 20 0==32)&&decide (fG (k.take 6)=st)&&au (fG ((k.drop 7).take 6)) fi la&&au (fG ((k.drop 14).take 6)) 1 899999&&au (fG (k.drop 21)) 1 9
def mB(s:List UInt8):Bool:=decide (s.length=16)&&s.all zj
def pD(school:Int)(y:bT):Int:=
 if y.body.size=0 then 0 else if (ek y.body.data.toList).2≠0 then 4
 else if (ek y.body.data.toList).1.school≠school\/fW (ek y.body.data.toList).1≠y.key.data.toList\/jG y.body≠y.hash then 41 else 0
def ti(p:Option bT)(y:bT):Bool:=match p with|none=>false|some z=>!decide (cC z.key y.key<0)
def mU(x:fc)(p:Option bT)(y:bT):Int:=
 if jL x.student x.first x.last y.key.data.toList=false\/mB y.hash.data.toList=false then 4
 else if ti p y=true then 7 else pD x.school y
def jq(x:fc):Option bT->List bT->Int
 | _,[]=>0
 | p,y::l=>if mU x p y≠0 then mU x p y else jq x (some y) l
def kA(x:fc):Int:=
 if au x.school 1 8=false\/au x.student 1 999999=false then 1
 else if au x.first 0 100000=false\/au x.last x.first 100000=false then 23
 else if au x.root 0 199=false then 40
 else if 2000<x.lines.length then 2
 else if jq x Oh x.lines≠0 then jq x Oh x.lines
 else if x.proof.length<5 then 41 else 0
def eV(lid lfro:Int)(k:bG):Int:=
 if k.id<1\/k.secret.size=0\/40<k.secret.size then 3
 else if k.id<=lid then 7
 else if au k.fro 0 100000=false\/au k.stolen 0 100000=false\/(k.stolen≠0/\k.stolen<k.fro) then 23
 else if k.fro<lfro then 7 else 0
def dZ:Int->Int->List bG->Int
 | _,_,[]=>0
 | a,b,k::l=>if eV a b k≠0 then eV a b k else dZ k.id k.fro l
def et(r:bH):Int:=if au r.school 1 8=false then 1 else if 20<r.keys.length then 2 else dZ 0 0 r.keys
def eu(r:bH)(id:Int)(t mark:ByteArray)(day seen:Int):Int:=
 match r.keys[cw r.keys id]? with
 | none=>5
 | some k=>if day<k.fro then 23 else if k.secret.size=0\/mark≠nS k r.school id t then 11 else if k.stolen≠0/\k.stolen<=seen then 11 else 0
def lX(x:aC):List UInt8:=dM x.school++dM x.size++dM x.day++eW x.tree++eW x.before++dM x.key
def bJ(x:aC):ByteArray:=⟨(lX x).toArray⟩
def gP:Option aC->ByteArray
 | none=>⟨#[]⟩
 | some p=>⟨(dg (lX p++p.mark.data.toList)).toArray⟩
def jI(p:Option aC)(size day:Int):Prop:=match p with|none=>False|some y=>size<y.size\/day<=y.day
instance (p:Option aC) (size day:Int):Decidable (jI p size day):=by unfold jI;cases p <;> exact inferInstance
def eF(r:bH)(p:Option aC)(x:aC):Int:=
 if x.school≠r.school then 22
 else if au x.size 0 2000=false then 3
 else if au x.day 0 100000=false then 23
 else if jI p x.size x.day then 7
 else if x.before≠gP p\/x.tree.size≠8 then 40
 else eu r x.key (bJ x) x.mark x.day x.day
def dE(r:bH):Option aC->List aC->Int
 | _,[]=>0
 | p,x::l=>if eF r p x≠0 then eF r p x else dE r (some x) l
def cK(r:bH)(l:List aC):Int:=if et r≠0 then et r else if 200<l.length then 2 else dE r Oh l
def dO(l:List aC)(school:Int):List aC:=l.filter fun x=>x.school==school
def rootZ:aC:=⟨0,0,0,⟨#[]⟩,⟨#[]⟩,0,⟨#[]⟩⟩
def dW(x:fc)(roots:List aC):aC:=(dO roots x.school).getD x.root.toNat rootZ
open Classical in
noncomputable def dS(x:fc)(roots:List aC)(r:bH)(asof:Int):Int:=
 if kA x≠0 then kA x
 else if r.school≠x.school then 22
 else if ((dO roots x.school).length:Int)<=x.root then 40
 else if cK r ((dO roots x.school).take (x.root.toNat+1))≠0 then cK r ((dO roots x.school).take (x.root.toNat+1))
 else if asof<(dW x roots).day then 23
 else if ¬jz (dW x roots).tree (dW x roots).size x.student x.first x.last x.lines x.proof then 41
 else 0
def jM(r:bH)(at_:aC)(y:bT):Option Ent:=
 if (ek y.body.data.toList).2=0/\(ek y.body.data.toList).1.day<=at_.day/\eu r (ek y.body.data.toList).1.key ⟨(ek y.body.data.toList).1.body.toArray⟩ (ek y.body.data.toList).1.mark (ek y.body.data.toList).1.day at_.day=0
 then Og (ek y.body.data.toList).1 else Oh
def fE(l:List bT):Nat:=(l.filter fun y=>y.body.size==0).length
def gN(l:List bT):Bool:=l.all fun y=>!(y.key.data.toList.getLast? == Og 53)
end
section
def iy(key msg mark:ByteArray):Bool:=!decide (key.size=0)&&decide (mark=⟨(dg (kW key msg)).toArray⟩)
theorem sn{p:Prop} (h:p:=by
 go_enter func56,ntmps56;go_wp2_with fail;refine hM.mono ?_;rintro x w1⟨rfl,hb⟩;go_wp2_with fail;go_ret
 exact⟨cF (by rw[HE2.out]),hb⟩):p:=h
theorem Fu(key msg mark:ByteArray)(hk:key.size<=100000000)(hm:msg.size<=100000000)(w:World) :
  Calls prog 56 #[Ob key,Ob msg,Ob mark] w fun x w'=>x=Oe (.bool (iy key msg mark))/\ac w.heap.size w w':=by
 by_cases h0:key.size=0
 .obtain rfl:=ku h0;have HE:Hid (iy ⟨#[]⟩ msg mark=false):=aa rfl;clear h0;go_enter func56,ntmps56;go_wp2_with fail;go_ret;exact⟨cF (by rw[HE.out]),Below.refl _ _⟩
 obtain⟨hn3,hn⟩:=lI h0
 have hn2:(!key.toList.isEmpty)=true:=by rw[hn];rfl
 have hM:=Km key msg hk hm w;have HE:Hid (iy key msg mark=decide (mark=⟨(dg (kW key msg)).toArray⟩)):=aa (by unfold iy;rw[decide_eq_false h0];rfl);generalize (⟨(dg (kW key msg)).toArray⟩:ByteArray)=d at hM HE;clear h0;by_cases he:mark=d
 .subst he;have HE2:Hid (iy key msg mark=true):=aa (by rw[HE.out];exact decide_eq_true rfl);exact sn
 .have HE2:Hid (iy key msg mark=false):=aa (by rw[HE.out];exact decide_eq_false he);have te:=lq he;clear he;exact sn
theorem rL{p:Prop} (h:p:=by
 go_enter func109,ntmps109;go_wp2_with fail;refine hM.mono ?_;rintro x w1⟨rfl,hb⟩;go_wp2_with fail;go_ret
 exact⟨cF (by rw[HE2.out]),hb⟩):p:=h
theorem BQ(key msg mark:ByteArray)(hk:key.size<=100000000)(hm:msg.size<=100000000)(w:World) :
  Calls prog 109 #[Ob key,Ob msg,Ob mark] w fun x w'=>x=Oe (.bool (iy key msg mark))/\ac w.heap.size w w':=by
 by_cases h0:key.size=0
 .obtain rfl:=ku h0;have HE:Hid (iy ⟨#[]⟩ msg mark=false):=aa rfl;clear h0;go_enter func109,ntmps109;go_wp2_with fail;go_ret;exact⟨cF (by rw[HE.out]),Below.refl _ _⟩
 obtain⟨hn3,hn⟩:=lI h0
 have hn2:(!key.toList.isEmpty)=true:=by rw[hn];rfl
 have hM:=xJ key msg hk hm w;have HE:Hid (iy key msg mark=decide (mark=⟨(dg (kW key msg)).toArray⟩)):=aa (by unfold iy;rw[decide_eq_false h0];rfl);generalize (⟨(dg (kW key msg)).toArray⟩:ByteArray)=d at hM HE;clear h0;by_cases he:mark=d
 .subst he;have HE2:Hid (iy key msg mark=true):=aa (by rw[HE.out];exact decide_eq_true rfl);exact rL
 .have HE2:Hid (iy key msg mark=false):=aa (by rw[HE.out];exact decide_eq_false he);have te:=lq he;clear he;exact rL
def G4(e:bG)(sc id:Int)(t mark:ByteArray)(day seen:Int):Int:=
 if day<e.fro then 23 else if iy e.secret ⟨(jJ sc id t).toArray⟩ mark=false then 11 else if e.stolen≠0/\e.stolen<=seen then 11 else 0
theorem xQ{r:bH}{id:Int}{t mark:ByteArray}{day seen:Int}{e:bG}(h:r.keys[cw r.keys id]? = Og e):eu r id t mark day seen=G4 e r.school id t mark day seen:=by
 unfold eu G4;rw[h];have:(iy e.secret ⟨(jJ r.school id t).toArray⟩ mark=false)↔(e.secret.size=0\/mark≠nS e r.school id t):=by unfold iy nS;rw[Bool.and_eq_false_iff,Bool.not_eq_false',decide_eq_true_eq,decide_eq_false_iff_not]
 simp only[this]
theorem Bu(g c:Nat)(r:bH)(id:Int)(t mark:ByteArray)(day seen:Int)(w:World)(hl:r.keys.length<=1000)(hk:cR w g r.keys)(hsz:∀k∈r.keys,k.secret.size<=100000)(hg:g<w.heap.size)(hs:I64 r.school)(hi:I64 id)(ht:t.size<=1000000)(hT:Tabs w) :
  Calls prog 22 #[.agg #[N9 Oa r.school,Oc (Og ⟨g,0,Oh⟩) r.keys.length c],N9 Oa id,Ob t,Ob mark,N9 Oa day,N9 Oa seen] w
   fun x w'=>x=Oe (N9 Oa (eu r id t mark day seen))/\ac w.heap.size w w':=by
 have hVn:r.keys[cw r.keys id]? = Oh->eu r id t mark day seen=5:=fun h=>by unfold eu;rw[h]
 have hVs:=fun e=>xQ (r:=r) (id:=id) (t:=t) (mark:=mark) (day:=day) (seen:=seen) (e:=e)
 generalize eu r id t mark day seen=V at *;obtain⟨sc,l⟩:=r;simp only at *;have hb0:=aq w (Of #[N9 Oa sc,Oc (Og ⟨g,0,Oh⟩) l.length c] 33);have hbA:=hb0.trans ((aq _ (Of #[N9 Oa sc,Oc (Og ⟨g,0,Oh⟩) l.length c] 116)).mono hb0.size);have hr:=heap_alloc_new (w.alloc (Of #[N9 Oa sc,Oc (Og ⟨g,0,Oh⟩) l.length c] 33)) (Of #[N9 Oa sc,Oc (Og ⟨g,0,Oh⟩) l.length c] 116);rw[size_alloc] at hr;have hF:=JV (w.heap.size+1) g c sc l id _ hl (hk.below hbA hg) (by simp;omega) hr;have hT1:=(hT.alloc (Of #[N9 Oa sc,Oc (Og ⟨g,0,Oh⟩) l.length c] 33)).alloc (Of #[N9 Oa sc,Oc (Og ⟨g,0,Oh⟩) l.length c] 116);have hcs:=ae hr 0;unfold CT at hF
 cases hE:l[cw l id]? with
 | none =>
  have hno:¬cw l id<l.length:=fun h=>by rw[ai h] at hE;cases hE
  have HV:=aa (hVn hE);rw[if_neg hno] at hF;clear hVn hVs hE hk hr hcs hT1 hno hsz;go_enter func22,ntmps22;go_wp2_with fail;refine hF.mono ?_;rintro x w1⟨rfl,hb1⟩;have hbw:=hbA.trans (hb1.mono hbA.size);clear hb1 hbA hF hb0;go_wp2_with fail;go_ret;exact⟨aL (by rw[HV.out]),hbw⟩
 | some e =>
  have h:cw l id<l.length:=by
   rcases Nat.lt_or_ge (cw l id) l.length with h|h
   .exact h
   .rw[List.getElem?_eq_none h] at hE;cases hE
  have HV:=aa (hVs e hE)
  have hsk:=hsz e (List.mem_of_getElem? hE);have hat:=(hk _ _ hE).below hbA hg;have hcm:=hat.cell 1 rfl;have hcf:=hat.cell 2 rfl;have hct:=hat.cell 3 rfl;rw[if_pos h] at hF;have hms:=yi sc id t hs hi;have hDC:=Fu e.secret ⟨(jJ sc id t).toArray⟩ mark mOm mOm;unfold G4 at HV;generalize iy e.secret ⟨(jJ sc id t).toArray⟩ mark=bm at hDC HV;clear hE hat hr hk hms hVn hVs hsz;generalize cw l id=I at *;obtain⟨kid,ksec,kfro,kst⟩:=e;simp only at *;go_enter func22,ntmps22;go_wp2_with fail;refine hF.mono ?_;rintro x w1⟨rfl,hb1⟩;have hbw:=hbA.trans (hb1.mono hbA.size);have hcs1:=(hb1.cell (al _ _ hcs)).trans hcs;have hcm1:=(hb1.cell (al _ _ hcm)).trans hcm;have hcf1:=(hb1.cell (al _ _ hcf)).trans hcf;have hct1:=(hb1.cell (al _ _ hct)).trans hct;have hT2:=hT1.below hb1;clear hb1 hbA hcs hcm hcf hct hF hb0;by_cases hday:day<kfro
  .have HV2:Hid (V=23):=aa (by rw[HV.out,if_pos hday]);clear HV;go_wp2_with fail;go_ret;exact⟨aL (by rw[HV2.out]),hbw⟩
  have HV2:Hid (V=if bm=false then 11 else if kst≠0/\kst<=seen then 11 else 0):=aa (by rw[HV.out,if_neg hday])
  clear HV;go_wp2_with fail;have hS0:ac w1.heap.size w1 w1.drew/\w1.drew.cell? ⟨w.heap.size+1,0,Oh⟩=Og (N9 Oa sc)/\w1.drew.cell? ⟨g,I*4+1,Oh⟩=Og (Ob ksec)/\w1.drew.cell? ⟨g,I*4+3,Oh⟩=Og (N9 Oa kst):=⟨(Below.refl _ _).drew,hcs1,hcm1,hct1⟩;refine aD (S:=fun w'=>ac w1.heap.size w1 w'/\w'.cell? ⟨w.heap.size+1,0,Oh⟩=Og (N9 Oa sc)/\w'.cell? ⟨g,I*4+1,Oh⟩=Og (Ob ksec)/\w'.cell? ⟨g,I*4+3,Oh⟩=Og (N9 Oa kst)) [(0,true),(1,true),(2,true),(3,true),(4,true),(5,true),(6,true),(8,true),(7,false),(9,false),(10,true),(11,true)] hS0 ?_;have hS:=hS0
  iterate 8 refine ak ?_
  refine aJ 57 call57 (D9 (w.heap.size+1) sc id t hs hi ht _ hS.2.1 (hT2.below hS.1)) ?_;rintro x wn⟨rfl,hb⟩;replace hS:=pt hS hb;refine⟨_,rfl,hS,?_⟩;(try clear hb);refine ay ?_;refine aJ 56 call56 (hDC _) ?_;rintro x wn⟨rfl,hb⟩;replace hS:=pt hS hb;refine⟨_,rfl,hS,?_⟩;(try clear hb);refine ay ?_
  iterate 2 refine ak ?_
  simp only[aQ,aZ];have hct2:=hS.2.2.2;have hbF:=hbw.trans (hS.1.mono hbw.size);clear hS hS0 hcs1 hcm1 hcf1 hct1 hT2 hT1
  cases bm
  .have HV3:Hid (V=11):=aa (by rw[HV2.out,if_pos rfl]);clear HV2;go_wp2_with fail;go_ret;exact⟨aL (by rw[HV3.out]),hbF⟩
  have HV3:Hid (V=if kst≠0/\kst<=seen then 11 else 0):=aa (by rw[HV2.out,if_neg mSi])
  clear HV2;by_cases h0:kst=0
  .subst h0;have HV4:Hid (V=0):=aa (by rw[HV3.out,if_neg (fun h=>h.1 rfl)]);clear HV3;go_wp2_with fail;go_ret;exact⟨aL (by rw[HV4.out]),hbF⟩
  have tne:(kst != 0)=true:=by rw[bne_iff_ne];exact h0
  by_cases h1:kst<=seen
  .have HV4:Hid (V=11):=aa (by rw[HV3.out,if_pos ⟨h0,h1⟩]);clear HV3;go_wp2_with fail;go_ret;exact⟨aL (by rw[HV4.out]),hbF⟩
  .have HV4:Hid (V=0):=aa (by rw[HV3.out,if_neg (fun h=>h1 h.2)]);clear HV3;go_wp2_with fail;go_ret;exact⟨aL (by rw[HV4.out]),hbF⟩
end
section
theorem jf{a b n:Int}{k:bG}{l:List bG}(h:eV a b k=n)(hn:n≠0):dZ a b (k::l)=n:=by unfold dZ;rw[h,if_pos hn]
theorem Gr{a b:Int}{k:bG}{l:List bG}(h:eV a b k=0):dZ a b (k::l)=dZ k.id k.fro l:=by
 show(if eV a b k≠0 then eV a b k else dZ k.id k.fro l)=_
 rw[h,if_neg mSi]
theorem iu(n:Int)(w:World):Calls prog 204 #[N9 Oa n] w fun e w'=>e=Oe (.bool (au n 0 100000))/\w=w':=by
 by_cases h1:0<=n
 .by_cases h2:n<=100000
  .go_enter func204,ntmps204;go_wp2_with fail;go_ret;exact⟨cF (by unfold au;rw[decide_eq_true mOm,decide_eq_true mOm];rfl),by first|rfl|trivial⟩
  .go_enter func204,ntmps204;go_wp2_with fail;go_ret;exact⟨cF (by unfold au;rw[decide_eq_true mOm,decide_eq_false mOm];rfl),by first|rfl|trivial⟩
 .go_enter func204,ntmps204;go_wp2_with fail;go_ret;exact⟨cF (by unfold au;rw[decide_eq_false mOm];rfl),by first|rfl|trivial⟩
theorem iP(n:Int)(w:World):Calls prog 62 #[N9 Oa n] w fun e w'=>e=Oe (.bool (au n 0 100000))/\w=w':=by
 by_cases h1:0<=n
 .by_cases h2:n<=100000
  .go_enter func62,ntmps62;go_wp2_with fail;go_ret;exact⟨cF (by unfold au;rw[decide_eq_true mOm,decide_eq_true mOm];rfl),by first|rfl|trivial⟩
  .go_enter func62,ntmps62;go_wp2_with fail;go_ret;exact⟨cF (by unfold au;rw[decide_eq_true mOm,decide_eq_false mOm];rfl),by first|rfl|trivial⟩
 .go_enter func62,ntmps62;go_wp2_with fail;go_ret;exact⟨cF (by unfold au;rw[decide_eq_false mOm];rfl),by first|rfl|trivial⟩
theorem rJ{p:Prop} (h:p:=by
 have HV4:Hid (V=7):=aa (by rw[HV3.out,<-HI.out,HD.out];exact jf (by unfold eV;rw[if_neg N3.out,if_neg N4.out,if_neg N7.out,if_pos t8]) mDe);go_wp2_with fail;refine(iu _ _).mono ?_;rintro _ _⟨rfl,rfl⟩;rw[hbf];go_wp2_with fail;refine(iu _ _).mono ?_;rintro _ _⟨rfl,rfl⟩;rw[hbs];go_wp2_with fail;go_ret
 exact⟨aL (by rw[HV4.out]),hbF⟩):p:=h
theorem rN{p:Prop} (h:p:=by
 go_wp2_with fail;refine(iu _ _).mono ?_;rintro _ _⟨rfl,rfl⟩;rw[hbf];go_wp2_with fail;refine(iu _ _).mono ?_;rintro _ _⟨rfl,rfl⟩;rw[hbs];go_wp2_with fail;go_ret
 exact⟨aL (by rw[HV4.out]),hbF⟩):p:=h
theorem nq{p q:Prop}(h:q) (f:Wq q->p:=by
 intro hq;obtain⟨bf,hbf⟩:∃b,au efro 0 100000=b:=⟨_,rfl⟩;obtain⟨bs,hbs⟩:∃b,au est 0 100000=b:=⟨_,rfl⟩
 revert bf hbf bs hbs
 exact hq.1):p:=f ⟨h⟩
theorem nj{p q:Prop}(h:q) (f:Wq q->p:=by
 intro hq;have N3:Hid (¬(eid<1\/esec.size=0\/40<esec.size)):=aa (fun h=>by rcases h with h|h|h <;> omega)
 revert N3
 exact hq.1):p:=f ⟨h⟩
theorem BS(b g c:Nat)(r:bH)(w:World)(hk:cR w g r.keys)(hg:g<w.heap.size)(hl:r.keys.length<=1000)(hr:w.heap[b]? = Og (Of #[N9 Oa r.school,Oc (Og ⟨g,0,Oh⟩) r.keys.length c] 116 (0,0))) :
  Calls prog 203 #[Od (Og ⟨b,0,Oh⟩)] w fun x w'=>x=Oe (N9 Oa (et r))/\ac w.heap.size w w':=by
 have HV:=aa (show et r=if au r.school 1 8=false then 1 else if 20<r.keys.length then 2 else dZ 0 0 r.keys from rfl);generalize et r=V at *;obtain⟨sc,l⟩:=r;simp only at *;have c0:=ae hr 0;have c1:=ae hr 1;have hbl:=av hr;have HK:=aa hk;clear hr hk;go_enter func203,ntmps203;by_cases h1:sc<1
 .have HV2:Hid (V=1):=aa (by rw[HV.out,if_pos (by unfold au;rw[decide_eq_false mOm];rfl)]);clear HV;go_wp2_with fail;go_ret;exact⟨aL (by rw[HV2.out]),Below.refl _ _⟩
 by_cases h2:8<sc
 .have HV2:Hid (V=1):=aa (by rw[HV.out,if_pos (by unfold au;rw[decide_eq_true (show 1<=sc by omega),decide_eq_false mOm];rfl)]);clear HV;go_wp2_with fail;go_ret;exact⟨aL (by rw[HV2.out]),Below.refl _ _⟩
 have HV2:Hid (V=if 20<l.length then 2 else dZ 0 0 l):=aa (by rw[HV.out,if_neg (by unfold au;rw[decide_eq_true (show 1<=sc by omega),decide_eq_true mOm];simp)])
 clear HV;by_cases h3:20<l.length
 .have i1:(20:Int)<(l.length:Int):=mOm;have HV3:Hid (V=2):=aa (by rw[HV2.out,if_pos h3]);clear HV2 h3;go_wp2_with fail;go_ret;exact⟨aL (by rw[HV3.out]),Below.refl _ _⟩
 have i1:¬(20:Int)<(l.length:Int):=mOm
 have HV3:Hid (V=dZ 0 0 l):=aa (by rw[HV2.out,if_neg h3]);clear HV2 h3;go_wp2_with fail;have hb0:=aj w (Of (bG.cells ⟨0,⟨#[]⟩,0,0⟩) 78);have hh0:=heap_alloc_new w (Of (bG.cells ⟨0,⟨#[]⟩,0,0⟩) 78)
 go_loopw [36] (fun i wr=>∃k:Nat,k<=l.length/\i=N9 Oa k/\∃z:bG,Hid (wr.heap[w.heap.size]? = Og (Of z.cells 78 (0,0)))/\Hid (dZ z.id z.fro (l.drop k)=dZ 0 0 l)/\ac w.heap.size w wr) (fun i _=>l.length-(aw i).toNat)
 case atStart=>exact⟨0,aP _,rfl,⟨0,⟨#[]⟩,0,0⟩,aa hh0,aa rfl,hb0⟩
 case round =>
  obtain⟨k,hk,rfl,⟨zid,zsec,zfro,zst⟩,HZ,HI,hb⟩:=hrel;have hzl:w.heap.size<wr.heap.size:=av HZ.out;by_cases hlt:k<l.length
  .have hge:=ai hlt;have hat:=(HK.out k _ hge).below hb hg;have HD:Hid (l.drop k=l[k]::l.drop (k+1)):=aa (cL hlt);generalize l[k]=e at *;obtain⟨eid,esec,efro,est⟩:=e;have j1:(k:Int)<(l.length:Int):=mOm;have j2:(0:Int)<=(k:Int):=mOm;have q0:wr.cell? ⟨g,k*4,Oh⟩=Og (N9 Oa eid):=hat.cell 0 rfl;have q1:wr.cell? ⟨g,k*4+1,Oh⟩=Og (Ob esec):=hat.cell 1 rfl;have q2:wr.cell? ⟨g,k*4+2,Oh⟩=Og (N9 Oa efro):=hat.cell 2 rfl;have q3:wr.cell? ⟨g,k*4+3,Oh⟩=Og (N9 Oa est):=hat.cell 3 rfl;have z0:wr.cell? ⟨w.heap.size,0,Oh⟩=Og (N9 Oa zid):=ae HZ.out 0;have z2:wr.cell? ⟨w.heap.size,2,Oh⟩=Og (N9 Oa zfro):=ae HZ.out 2;have z1:wr.cell? ⟨w.heap.size,1,Oh⟩=Og (Ob zsec):=ae HZ.out 1;have z3:wr.cell? ⟨w.heap.size,3,Oh⟩=Og (N9 Oa zst):=ae HZ.out 3;have f0:=aE HZ.out 0;have f1:=aE HZ.out 1;have f2:=aE HZ.out 2;have f3:=aE HZ.out 3;have hbF:=ah hb (aj wr (Of #[N9 Oa eid,Ob esec,N9 Oa efro,N9 Oa est] 78));clear hge hat;by_cases t1:eid<1
   .have HV4:Hid (V=3):=aa (by rw[HV3.out,<-HI.out,HD.out];exact jf (by unfold eV;rw[if_pos (.inl t1)]) mDe);go_wp2_with fail;go_ret;exact⟨aL (by rw[HV4.out]),hbF⟩
   by_cases t2:esec.size=0
   .obtain rfl:=ku t2;have HV4:Hid (V=3):=aa (by rw[HV3.out,<-HI.out,HD.out];exact jf (by unfold eV;rw[if_pos (.inr (.inl rfl))]) mDe);go_wp2_with fail;go_ret;exact⟨aL (by rw[HV4.out]),hbF⟩
   obtain⟨n1,n2⟩:=lI t2
   by_cases t3:40<esec.size
   .have j3:(40:Int)<(esec.size:Int):=mOm;have HV4:Hid (V=3):=aa (by rw[HV3.out,<-HI.out,HD.out];exact jf (by unfold eV;rw[if_pos (.inr (.inr t3))]) mDe);go_wp2_with fail;go_ret;exact⟨aL (by rw[HV4.out]),hbF⟩
   have j3:¬(40:Int)<(esec.size:Int):=mOm
   refine nj ?_;intro N3;by_cases t4:eid<=zid
   .have HV4:Hid (V=7):=aa (by rw[HV3.out,<-HI.out,HD.out];exact jf (by unfold eV;rw[if_neg N3.out,if_pos t4]) mDe);go_wp2_with fail;go_ret;exact⟨aL (by rw[HV4.out]),hbF⟩
   have N4:Hid (¬eid<=zid):=aa t4
   refine nq ?_;intro bf hbf bs hbs;clear t1 t2 t3 t4;have t4:¬eid<=zid:=N4.out;have t1:¬eid<1:=fun h=>N3.out (.inl h)
   cases bf
   .have HV4:Hid (V=23):=aa (by rw[HV3.out,<-HI.out,HD.out];exact jf (by unfold eV;rw[if_neg N3.out,if_neg N4.out,if_pos (.inl hbf)]) mDe);go_wp2_with fail;refine(iu _ _).mono ?_;rintro _ _⟨rfl,rfl⟩;rw[hbf];go_wp2_with fail;go_ret;exact⟨aL (by rw[HV4.out]),hbF⟩
   cases bs
   .have HV4:Hid (V=23):=aa (by rw[HV3.out,<-HI.out,HD.out];exact jf (by unfold eV;rw[if_neg N3.out,if_neg N4.out,if_pos (.inr (.inl hbs))]) mDe);exact rN
   by_cases t7:est≠0/\est<efro
   .obtain⟨t7,t8⟩:=t7;have tne:(est != 0)=true:=by rw[bne_iff_ne];exact t7
    have HV4:Hid (V=23):=aa (by rw[HV3.out,<-HI.out,HD.out];exact jf (by unfold eV;rw[if_neg N3.out,if_neg N4.out,if_pos (.inr (.inr ⟨t7,t8⟩))]) mDe);exact rN
   have N7:Hid (¬(au efro 0 100000=false\/au est 0 100000=false\/(est≠0/\est<efro))):=aa (fun h=>by
    rcases h with h|h|h
    .rw[hbf] at h;cases h
    .rw[hbs] at h;cases h
    .exact t7 h)
   by_cases t8:efro<zfro
   .by_cases t9:est=0
    .subst t9;exact rJ
    .have tne:(est != 0)=true:=by rw[bne_iff_ne];exact t9
     have t10:¬est<efro:=fun h=>t7 ⟨t9,h⟩
     clear t7;exact rJ
   have HN:Hid (dZ eid efro (l.drop (k+1))=dZ 0 0 l):=aa (by rw[<-HI.out,HD.out,Gr (by unfold eV;rw[if_neg N3.out,if_neg N4.out,if_neg N7.out,if_neg t8])])
   by_cases t9:est=0
   .subst t9;go_wp2_with fail;refine(iu _ _).mono ?_;rintro _ _⟨rfl,rfl⟩;rw[hbf];go_wp2_with fail;refine(iu _ _).mono ?_;rintro _ _⟨rfl,rfl⟩;rw[hbs];go_wp2_with fail;exact⟨⟨k+1,mOm,by first|rfl|go_num,⟨eid,esec,efro,0⟩,aa (eR (bj (bj (bj (bj HZ.out 0 _) 1 _) 2 _) 3 _) _),HN,ah ((((hb.setCell (p:=⟨w.heap.size,0,none⟩) (az _) _).setCell (p:=⟨w.heap.size,1,none⟩) (az _) _).setCell (p:=⟨w.heap.size,2,none⟩) (az _) _).setCell (p:=⟨w.heap.size,3,none⟩) (az _) _) (aj _ _)⟩,by simp[aw];omega⟩
   .have tne:(est != 0)=true:=by rw[bne_iff_ne];exact t9
    have t10:¬est<efro:=fun h=>t7 ⟨t9,h⟩
    clear t7;go_wp2_with fail;refine(iu _ _).mono ?_;rintro _ _⟨rfl,rfl⟩;rw[hbf];go_wp2_with fail;refine(iu _ _).mono ?_;rintro _ _⟨rfl,rfl⟩;rw[hbs];go_wp2_with fail;exact⟨⟨k+1,mOm,by first|rfl|go_num,⟨eid,esec,efro,est⟩,aa (eR (bj (bj (bj (bj HZ.out 0 _) 1 _) 2 _) 3 _) _),HN,ah ((((hb.setCell (p:=⟨w.heap.size,0,none⟩) (az _) _).setCell (p:=⟨w.heap.size,1,none⟩) (az _) _).setCell (p:=⟨w.heap.size,2,none⟩) (az _) _).setCell (p:=⟨w.heap.size,3,none⟩) (az _) _) (aj _ _)⟩,by simp[aw];omega⟩
  .obtain rfl:k=l.length:=mOm;have HV4:Hid (V=0):=aa (by rw[HV3.out,<-HI.out,gZ];rfl);go_wp2_with fail;go_ret;exact⟨aL (by rw[HV4.out]),hb⟩
theorem CR(g c:Nat)(r:bH)(w:World)(hk:cR w g r.keys)(hg:g<w.heap.size)(hl:r.keys.length<=1000) :
  Calls prog 152 #[.agg #[N9 Oa r.school,Oc (Og ⟨g,0,Oh⟩) r.keys.length c]] w fun x w'=>x=Oe (N9 Oa (et r))/\ac w.heap.size w w':=by
 have hb0:=aq w (Of #[N9 Oa r.school,Oc (Og ⟨g,0,Oh⟩) r.keys.length c] 33);have hbA:=hb0.trans ((aq _ (Of #[N9 Oa r.school,Oc (Og ⟨g,0,Oh⟩) r.keys.length c] 116)).mono hb0.size);have hr:=heap_alloc_new (w.alloc (Of #[N9 Oa r.school,Oc (Og ⟨g,0,Oh⟩) r.keys.length c] 33)) (Of #[N9 Oa r.school,Oc (Og ⟨g,0,Oh⟩) r.keys.length c] 116);rw[size_alloc] at hr;have hF:=BS (w.heap.size+1) g c r _ (hk.below hbA hg) (by simp;omega) hl hr;generalize et r=V at *;obtain⟨sc,l⟩:=r;simp only at *;clear hr hb0 hk;go_enter func152,ntmps152;go_wp2_with fail;refine hF.mono ?_;rintro x w1⟨rfl,hb1⟩;go_wp2_with fail;go_ret;exact⟨rfl,ah hbA hb1⟩
def pId(l:List bG):Nat->Int
 | 0=>0
 | k+1=>(l.getD k ⟨0,⟨#[]⟩,0,0⟩).id
def yx(l:List bG):Nat->Int
 | 0=>0
 | k+1=>(l.getD k ⟨0,⟨#[]⟩,0,0⟩).fro
theorem rC{p:Prop} (h:p:=by
 refine aD (S:=fun u=>ac w.heap.size w u/\u.cell? ⟨w.heap.size,0,Oh⟩=Og (N9 Oa eid)/\u.cell? ⟨w.heap.size,2,Oh⟩=Og (N9 Oa efro)) [(0,true),(1,true),(2,true),(3,true),(4,true),(5,true),(6,true),(7,true),(8,true),(9,true),(10,true),(11,true),(12,true)] hS1 ?_;have hS:=hS1
 iterate 13 (first|refine ak ?_|refine dw ?_)
 simp only[aQ,aZ];clear hS
 have HV2:Hid (V=0):=aa (by
  rw[HV.out,if_neg N3.out,if_neg (by have:=N4.out;omega),if_neg N7.out,if_neg];unfold au at hbf;rw[aX,decide_eq_true_eq] at hbf
  omega)
 go_wp2_with fail
 go_ret
 exact⟨aL (by rw[HV2.out]),hbF.drew.drew⟩):p:=h
theorem rZ{p:Prop} (h:p:=by
 have i1:((⟨#[]⟩:ByteArray).size:Int)<1:=mDe;have HV2:Hid (V=3):=aa (by rw[HV.out,if_pos (.inr (.inl rfl))]);clear HV;go_wp2_with fail;go_ret
 exact⟨aL (by rw[HV2.out]),hbF⟩):p:=h
theorem sA{p:Prop} (h:p:=by
 obtain⟨t7,t8⟩:=t7;have tne:(est != 0)=true:=by rw[bne_iff_ne];exact t7
 clear HV;go_wp2_with fail;go_ret
 exact⟨aL (by rw[HV2.out]),hbF.drew⟩):p:=h
theorem Eh(g c:Nat)(l:List bG)(e:bG)(he:l[0]? = Og e)(w:World)(hk:cR w g l)(_hg:g<w.heap.size)(hl:l.length<=1000) :
  Calls prog 123 #[Oc (Og ⟨g,0,Oh⟩) l.length c,N9 Oa 0] w fun x w'=>x=Oe (N9 Oa (eV 0 0 e))/\ac w.heap.size w w':=by
 have hlt:=(aA.1 he).1;have hat:=hk _ _ he
 have HV:=aa (show eV 0 0 e=if e.id<1\/e.secret.size=0\/40<e.secret.size then 3
  else if e.id<=0 then 7
  else if au e.fro 0 100000=false\/au e.stolen 0 100000=false\/(e.stolen≠0/\e.stolen<e.fro) then 23
  else if e.fro<0 then 7 else 0 from rfl)
 generalize eV 0 0 e=V at *
 obtain⟨eid,esec,efro,est⟩:=e;simp only at *;have q0:w.cell? ⟨g,0,Oh⟩=Og (N9 Oa eid):=hat.cell 0 rfl;have q1:w.cell? ⟨g,1,Oh⟩=Og (Ob esec):=hat.cell 1 rfl;have q2:w.cell? ⟨g,2,Oh⟩=Og (N9 Oa efro):=hat.cell 2 rfl;have q3:w.cell? ⟨g,3,Oh⟩=Og (N9 Oa est):=hat.cell 3 rfl;have j0:(0:Int)<(l.length:Int):=mOm;have hbF:=aj w (Of #[N9 Oa eid,Ob esec,N9 Oa efro,N9 Oa est] 78);clear hat he hk;go_enter func123,ntmps123;by_cases t1:eid<1
 .have HV2:Hid (V=3):=aa (by rw[HV.out,if_pos (.inl t1)]);clear HV;go_wp2_with fail;go_ret;exact⟨aL (by rw[HV2.out]),hbF⟩
 by_cases t2:esec.size=0
 .obtain rfl:=ku t2;exact rZ
 have i1:¬(esec.size:Int)<1:=mOm
 by_cases t3:40<esec.size
 .have i2:(40:Int)<(esec.size:Int):=mOm;have HV2:Hid (V=3):=aa (by rw[HV.out,if_pos (.inr (.inr t3))]);clear HV;go_wp2_with fail;go_ret;exact⟨aL (by rw[HV2.out]),hbF⟩
 have i2:¬(40:Int)<(esec.size:Int):=mOm
 refine nj ?_;intro N3;clear t2 t3;go_wp2_with fail;have hS0:(fun u:World=>ac w.heap.size w u/\u.cell? ⟨w.heap.size,0,Oh⟩=Og (N9 Oa eid)/\u.cell? ⟨w.heap.size,2,Oh⟩=Og (N9 Oa efro)) (w.alloc (Of #[N9 Oa eid,Ob esec,N9 Oa efro,N9 Oa est] 78)).drew:=⟨hbF.drew,ae (heap_alloc_new w _) 0,ae (heap_alloc_new w _) 2⟩;refine aD (S:=fun u=>ac w.heap.size w u/\u.cell? ⟨w.heap.size,0,Oh⟩=Og (N9 Oa eid)/\u.cell? ⟨w.heap.size,2,Oh⟩=Og (N9 Oa efro)) [(0,true),(1,true),(2,true),(3,true),(4,true),(5,true),(6,true),(7,true),(8,true),(9,true),(10,true),(11,true),(12,true)] hS0 ?_;have hS:=hS0
 iterate 13 (first|refine ak ?_|refine dw ?_)
 simp only[aQ,aZ];clear hS;have N4:Hid (¬eid<=0):=aa mOm;refine nq ?_;intro bf hbf bs hbs;go_wp2_with fail;refine(iP _ _).mono ?_;rintro _ _⟨rfl,rfl⟩;rw[hbf];go_wp2_with fail;refine(iP _ _).mono ?_;rintro _ _⟨rfl,rfl⟩;rw[hbs]
 cases bf
 .have HV2:Hid (V=23):=aa (by rw[HV.out,if_neg N3.out,if_neg (by have:=N4.out;omega),if_pos (.inl hbf)]);clear HV;go_wp2_with fail;go_ret;exact⟨aL (by rw[HV2.out]),hbF.drew⟩
 cases bs
 .have HV2:Hid (V=23):=aa (by rw[HV.out,if_neg N3.out,if_neg (by have:=N4.out;omega),if_pos (.inr (.inl hbs))]);clear HV;go_wp2_with fail;go_ret;exact⟨aL (by rw[HV2.out]),hbF.drew⟩
 by_cases t7:est≠0/\est<efro
 .have HV2:Hid (V=23):=aa (by rw[HV.out,if_neg N3.out,if_neg (by have:=N4.out;omega),if_pos (.inr (.inr t7))]);exact sA
 have N7:Hid (¬(au efro 0 100000=false\/au est 0 100000=false\/(est≠0/\est<efro))):=aa (fun h=>by
  rcases h with h|h|h
  .rw[hbf] at h;cases h
  .rw[hbs] at h;cases h
  .exact t7 h)
 by_cases t9:est=0
 .subst t9;clear t7;go_wp2_with fail;have hS1:(fun u:World=>ac w.heap.size w u/\u.cell? ⟨w.heap.size,0,Oh⟩=Og (N9 Oa eid)/\u.cell? ⟨w.heap.size,2,Oh⟩=Og (N9 Oa efro)) (w.alloc (Of #[N9 Oa eid,Ob esec,N9 Oa efro,N9 Oa 0] 78)).drew.drew:=⟨hS0.1.drew,hS0.2⟩;exact rC
 have tne:(est != 0)=true:=by rw[bne_iff_ne];exact t9
 have t10:¬est<efro:=fun h=>t7 ⟨t9,h⟩
 clear t7;go_wp2_with fail;have hS1:(fun u:World=>ac w.heap.size w u/\u.cell? ⟨w.heap.size,0,Oh⟩=Og (N9 Oa eid)/\u.cell? ⟨w.heap.size,2,Oh⟩=Og (N9 Oa efro)) (w.alloc (Of #[N9 Oa eid,Ob esec,N9 Oa efro,N9 Oa est] 78)).drew.drew:=⟨hS0.1.drew,hS0.2⟩;exact rC
theorem sF{p:Prop} (h:p:=by
 refine aD (S:=fun u=>ac w.heap.size w u/\u.cell? ⟨w.heap.size,0,Oh⟩=Og (N9 Oa eid)/\u.cell? ⟨w.heap.size,2,Oh⟩=Og (N9 Oa efro)/\u.cell? ⟨g,k*4,Oh⟩=Og (N9 Oa zid)/\u.cell? ⟨g,k*4+2,Oh⟩=Og (N9 Oa zfro)) [(0,true),(1,true),(2,true),(3,true),(4,true),(5,true),(6,true),(7,true),(8,true),(9,true),(10,true),(11,true),(12,true)] hS1 ?_;have hS:=hS1
 iterate 13 refine ak ?_
 simp only[aQ,aZ];clear hS;by_cases t8:efro<zfro
 .have HV2:Hid (V=7):=aa (by rw[HV.out,if_neg N3.out,if_neg (by have:=N4.out;omega),if_neg N7.out,if_pos t8]);clear HV;go_wp2_with fail;go_ret;exact⟨aL (by rw[HV2.out]),hbF.drew.drew⟩
 .have HV2:Hid (V=0):=aa (by rw[HV.out,if_neg N3.out,if_neg (by have:=N4.out;omega),if_neg N7.out,if_neg t8]);clear HV;go_wp2_with fail;go_ret
  exact⟨aL (by rw[HV2.out]),hbF.drew.drew⟩):p:=h
theorem Ei(g c:Nat)(l:List bG)(k:Nat)(e:bG)(z:bG)(hz:l[k]? = Og z)(he:l[(k+1)]? = Og e)(w:World)(hk:cR w g l)(hg:g<w.heap.size)(hl:l.length<=1000) :
  Calls prog 123 #[Oc (Og ⟨g,0,Oh⟩) l.length c,N9 Oa ((k+1:Nat):Int)] w fun x w'=>x=Oe (N9 Oa (eV z.id z.fro e))/\ac w.heap.size w w':=by
 have hlt:=(aA.1 he).1;have hat:=hk _ _ he;have haz:=hk _ _ hz
 have HV:=aa (show eV z.id z.fro e=if e.id<1\/e.secret.size=0\/40<e.secret.size then 3
  else if e.id<=z.id then 7
  else if au e.fro 0 100000=false\/au e.stolen 0 100000=false\/(e.stolen≠0/\e.stolen<e.fro) then 23
  else if e.fro<z.fro then 7 else 0 from rfl)
 generalize eV z.id z.fro e=V at *
 obtain⟨eid,esec,efro,est⟩:=e;obtain⟨zid,zsec,zfro,zst⟩:=z;simp only at *;have q0:w.cell? ⟨g,(k+1)*4,Oh⟩=Og (N9 Oa eid):=hat.cell 0 rfl;have q1:w.cell? ⟨g,(k+1)*4+1,Oh⟩=Og (Ob esec):=hat.cell 1 rfl;have q2:w.cell? ⟨g,(k+1)*4+2,Oh⟩=Og (N9 Oa efro):=hat.cell 2 rfl;have q3:w.cell? ⟨g,(k+1)*4+3,Oh⟩=Og (N9 Oa est):=hat.cell 3 rfl;have z0:w.cell? ⟨g,k*4,Oh⟩=Og (N9 Oa zid):=haz.cell 0 rfl;have z2:w.cell? ⟨g,k*4+2,Oh⟩=Og (N9 Oa zfro):=haz.cell 2 rfl;have j0:((k+1:Nat):Int)<(l.length:Int):=mOm;have j1:(k:Int)<(l.length:Int):=mOm;have j2:(0:Int)<=(k:Int):=mOm;have j3:(0:Int)<((k+1:Nat):Int):=mOm;have a1:IntKind.i64.wrap (((k+1:Nat):Int)-1)=(k:Int):=by rw[show((k+1:Nat):Int)-1=(k:Int) by omega];exact fY _ _ rfl mOm
 have a2:IntKind.i64.wrap (k:Int)=(k:Int):=fY _ _ rfl mOm;clear haz hz;have hbF:=aj w (Of #[N9 Oa eid,Ob esec,N9 Oa efro,N9 Oa est] 78);clear hat he hk;go_enter func123,ntmps123;by_cases t1:eid<1
 .have HV2:Hid (V=3):=aa (by rw[HV.out,if_pos (.inl t1)]);clear HV;go_wp2_with fail;go_ret;exact⟨aL (by rw[HV2.out]),hbF⟩
 by_cases t2:esec.size=0
 .obtain rfl:=ku t2;exact rZ
 have i1:¬(esec.size:Int)<1:=mOm
 by_cases t3:40<esec.size
 .have i2:(40:Int)<(esec.size:Int):=mOm;have HV2:Hid (V=3):=aa (by rw[HV.out,if_pos (.inr (.inr t3))]);clear HV;go_wp2_with fail;go_ret;exact⟨aL (by rw[HV2.out]),hbF⟩
 have i2:¬(40:Int)<(esec.size:Int):=mOm
 refine nj ?_;intro N3;clear t2 t3;go_wp2_with fail;have hS0:(fun u:World=>ac w.heap.size w u/\u.cell? ⟨w.heap.size,0,Oh⟩=Og (N9 Oa eid)/\u.cell? ⟨w.heap.size,2,Oh⟩=Og (N9 Oa efro)/\u.cell? ⟨g,k*4,Oh⟩=Og (N9 Oa zid)/\u.cell? ⟨g,k*4+2,Oh⟩=Og (N9 Oa zfro)) (w.alloc (Of #[N9 Oa eid,Ob esec,N9 Oa efro,N9 Oa est] 78)).drew:=⟨hbF.drew,ae (heap_alloc_new w _) 0,ae (heap_alloc_new w _) 2,(hbF.cell (p:=⟨g,k*4,Oh⟩) hg).trans z0,(hbF.cell (p:=⟨g,k*4+2,Oh⟩) hg).trans z2⟩;refine aD (S:=fun u=>ac w.heap.size w u/\u.cell? ⟨w.heap.size,0,Oh⟩=Og (N9 Oa eid)/\u.cell? ⟨w.heap.size,2,Oh⟩=Og (N9 Oa efro)/\u.cell? ⟨g,k*4,Oh⟩=Og (N9 Oa zid)/\u.cell? ⟨g,k*4+2,Oh⟩=Og (N9 Oa zfro)) [(0,true),(1,true),(2,true),(3,true),(4,true),(5,true),(6,true),(7,true),(8,true),(9,true),(10,true),(11,true),(12,true)] hS0 ?_;have hS:=hS0
 iterate 13 refine ak ?_
 simp only[aQ,aZ];clear hS;by_cases t4:eid<=zid
 .have HV2:Hid (V=7):=aa (by rw[HV.out,if_neg N3.out,if_pos t4]);clear HV;go_wp2_with fail;go_ret;exact⟨aL (by rw[HV2.out]),hbF.drew⟩
 have N4:Hid (¬eid<=zid):=aa t4
 refine nq ?_;intro bf hbf bs hbs;go_wp2_with fail;refine(iP _ _).mono ?_;rintro _ _⟨rfl,rfl⟩;rw[hbf];go_wp2_with fail;refine(iP _ _).mono ?_;rintro _ _⟨rfl,rfl⟩;rw[hbs]
 cases bf
 .have HV2:Hid (V=23):=aa (by rw[HV.out,if_neg N3.out,if_neg (by have:=N4.out;omega),if_pos (.inl hbf)]);clear HV;go_wp2_with fail;go_ret;exact⟨aL (by rw[HV2.out]),hbF.drew⟩
 cases bs
 .have HV2:Hid (V=23):=aa (by rw[HV.out,if_neg N3.out,if_neg (by have:=N4.out;omega),if_pos (.inr (.inl hbs))]);clear HV;go_wp2_with fail;go_ret;exact⟨aL (by rw[HV2.out]),hbF.drew⟩
 by_cases t7:est≠0/\est<efro
 .have HV2:Hid (V=23):=aa (by rw[HV.out,if_neg N3.out,if_neg (by have:=N4.out;omega),if_pos (.inr (.inr t7))]);exact sA
 have N7:Hid (¬(au efro 0 100000=false\/au est 0 100000=false\/(est≠0/\est<efro))):=aa (fun h=>by
  rcases h with h|h|h
  .rw[hbf] at h;cases h
  .rw[hbs] at h;cases h
  .exact t7 h)
 by_cases t9:est=0
 .subst t9;clear t7;go_wp2_with fail;have hS1:(fun u:World=>ac w.heap.size w u/\u.cell? ⟨w.heap.size,0,Oh⟩=Og (N9 Oa eid)/\u.cell? ⟨w.heap.size,2,Oh⟩=Og (N9 Oa efro)/\u.cell? ⟨g,k*4,Oh⟩=Og (N9 Oa zid)/\u.cell? ⟨g,k*4+2,Oh⟩=Og (N9 Oa zfro)) (w.alloc (Of #[N9 Oa eid,Ob esec,N9 Oa efro,N9 Oa 0] 78)).drew.drew:=⟨hS0.1.drew,hS0.2⟩;exact sF
 have tne:(est != 0)=true:=by rw[bne_iff_ne];exact t9
 have t10:¬est<efro:=fun h=>t7 ⟨t9,h⟩
 clear t7;go_wp2_with fail;have hS1:(fun u:World=>ac w.heap.size w u/\u.cell? ⟨w.heap.size,0,Oh⟩=Og (N9 Oa eid)/\u.cell? ⟨w.heap.size,2,Oh⟩=Og (N9 Oa efro)/\u.cell? ⟨g,k*4,Oh⟩=Og (N9 Oa zid)/\u.cell? ⟨g,k*4+2,Oh⟩=Og (N9 Oa zfro)) (w.alloc (Of #[N9 Oa eid,Ob esec,N9 Oa efro,N9 Oa est] 78)).drew.drew:=⟨hS0.1.drew,hS0.2⟩;exact sF
end
section
theorem Gq{l:List bG}{k:Nat}{e:bG}(he:l[k]? = Og e)(a b:Int):dZ a b (l.drop k)=if eV a b e≠0 then eV a b e else dZ e.id e.fro (l.drop (k+1)):=by obtain⟨hlt,rfl⟩:=aA.1 he;rw[cL hlt];rfl
theorem qg(g c:Nat)(r:bH)(w:World)(hk:cR w g r.keys)(hg:g<w.heap.size)(hl:r.keys.length<=1000) :
  Calls prog 60 #[.agg #[N9 Oa r.school,Oc (Og ⟨g,0,Oh⟩) r.keys.length c]] w fun x w'=>x=Oe (N9 Oa (et r))/\ac w.heap.size w w':=by
 have HV:=aa (show et r=if au r.school 1 8=false then 1 else if 20<r.keys.length then 2 else dZ 0 0 r.keys from rfl);generalize et r=V at *;obtain⟨sc,l⟩:=r;simp only at *;have hb0:=aj w (Of #[N9 Oa sc,Oc (Og ⟨g,0,Oh⟩) l.length c] 33);have hh:=heap_alloc_new w (Of #[N9 Oa sc,Oc (Og ⟨g,0,Oh⟩) l.length c] 33);have HK:=aa (hk.below hb0 hg);have hg1:g<(w.alloc (Of #[N9 Oa sc,Oc (Og ⟨g,0,Oh⟩) l.length c] 33)).heap.size:=ax hg hb0.size;clear hk;go_enter func60,ntmps60;by_cases h1:sc<1
 .have HV2:Hid (V=1):=aa (by rw[HV.out,if_pos (by unfold au;rw[decide_eq_false mOm];rfl)]);clear HV;go_wp2_with fail;go_ret;exact⟨aL (by rw[HV2.out]),hb0⟩
 by_cases h2:8<sc
 .have HV2:Hid (V=1):=aa (by rw[HV.out,if_pos (by unfold au;rw[decide_eq_true (show 1<=sc by omega),decide_eq_false mOm];rfl)]);clear HV;go_wp2_with fail;go_ret;exact⟨aL (by rw[HV2.out]),hb0⟩
 have HV2:Hid (V=if 20<l.length then 2 else dZ 0 0 l):=aa (by rw[HV.out,if_neg (by unfold au;rw[decide_eq_true (show 1<=sc by omega),decide_eq_true mOm];simp)])
 clear HV;by_cases h3:20<l.length
 .have i1:(20:Int)<(l.length:Int):=mOm;have HV3:Hid (V=2):=aa (by rw[HV2.out,if_pos h3]);clear HV2 h3;go_wp2_with fail;go_ret;exact⟨aL (by rw[HV3.out]),hb0⟩
 have i1:¬(20:Int)<(l.length:Int):=mOm
 have HV3:Hid (V=dZ 0 0 l):=aa (by rw[HV2.out,if_neg h3]);clear HV2 h3;go_wp2_with fail;have hbl:=av hh;generalize w.alloc (Of #[N9 Oa sc,Oc (Og ⟨g,0,Oh⟩) l.length c] 33)=W at *;have c1:=ae hh 1;clear hh
 go_loopw [3] (fun i wr=>∃k:Nat,k<=l.length/\i=N9 Oa k/\Hid (dZ (pId l k) (yx l k) (l.drop k)=dZ 0 0 l)/\ac W.heap.size W wr) (fun i _=>l.length-(aw i).toNat)
 case atStart=>exact⟨0,aP _,rfl,aa rfl,Below.refl _ _⟩
 case round =>
  obtain⟨k,hk,rfl,HI,hb⟩:=hrel;have c2:=(hb.cell (p:=⟨w.heap.size,1,Oh⟩) hbl).trans c1;by_cases hlt:k<l.length
  .have hge:=ai hlt;have HE:=aa (Gq hge (pId l k) (yx l k));have j1:(k:Int)<(l.length:Int):=mOm
   have HP:Hid (pId l (k+1)=l[k].id/\yx l (k+1)=l[k].fro):=aa (by
    show(l.getD k _).id=_/\(l.getD k _).fro=_
    rw[bi,hge];exact⟨rfl,rfl⟩)
   have hC:Calls prog 123 #[Oc (Og ⟨g,0,Oh⟩) l.length c,N9 Oa (k:Int)] wr fun x w'=>x=Oe (N9 Oa (eV (pId l k) (yx l k) l[k]))/\ac wr.heap.size wr w':=by
    have hkr:=HK.out.below hb hg1;have hgr:=ax hg1 hb.size
    cases k with
    | zero=>exact Eh g c l l[0] hge wr hkr hgr hl
    | succ k =>
     have hz:=ai (show k<l.length by omega);have:=Ei g c l k l[k+1] l[k] hz hge wr hkr hgr hl;rw[show pId l (k+1)=l[k].id by show(l.getD k _).id=_;rw[bi,hz];rfl,show yx l (k+1)=l[k].fro by show(l.getD k _).fro=_;rw[bi,hz];rfl];exact this
   rw[<-HP.out.1,<-HP.out.2] at HE
   generalize eV (pId l k) (yx l k) l[k]=E at *;clear hge HP;go_wp2_with fail;refine hC.mono ?_;rintro _ w1⟨rfl,hb1⟩;have hb2:=ah hb hb1;clear hb1 hC;by_cases h0:E=0
   .subst h0;have HN:Hid (dZ (pId l (k+1)) (yx l (k+1)) (l.drop (k+1))=dZ 0 0 l):=aa (by rw[<-HI.out,HE.out,if_neg mSi]);clear HE HI;go_wp2_with fail
    first
     | exact⟨⟨k+1,mOm,by first|rfl|go_num,HN,hb2⟩,by simp[aw];omega⟩
     |go_roundw
      case rel=>exact⟨k+1,mOm,by go_num,HN,hb2⟩
      case measure=>simp[aw];omega
   .have HN:Hid (V=E):=aa (by rw[HV3.out,<-HI.out,HE.out,if_pos h0]);have tne:(E != 0)=true:=by rw[bne_iff_ne];exact h0
    clear HE HI h0;go_wp2_with fail;go_ret;exact⟨aL (by rw[HN.out]),ah hb0 hb2⟩
  .obtain rfl:k=l.length:=mOm;have HV4:Hid (V=0):=aa (by rw[HV3.out,<-HI.out,gZ];rfl);go_wp2_with fail;go_ret;exact⟨aL (by rw[HV4.out]),ah hb0 hb⟩
end
section
structure aC.Ok (x:aC):Prop where
 school:I64 x.school
 size:I64 x.size
 day:I64 x.day
 key:I64 x.key
 tree:x.tree.size<=100000
 before:x.before.size<=100000
 mark:x.mark.size<=100000
abbrev zV(w:World)(b:Nat)(cs:Array Value)(u:World):Prop:=ac w.heap.size w u/\b<u.heap.size/\∀j,u.cell? ⟨b,j,Oh⟩=cs[j]?
theorem bX{w u v:World}{b:Nat}{cs:Array Value}(h:zV w b cs u)(hb:ac u.heap.size u v):zV w b cs v:=
 ⟨ah h.1 hb,ax h.2.1 hb.size,fun j=>(hb.cell (p:=⟨b,j,Oh⟩) h.2.1).trans (h.2.2 j)⟩
theorem qw{p q:Prop}(h:q) (f:Wq q->p:=by
 intro hq;have c2:¬9223372036854775807<A1.size+A2.size:=mOm;have c3:¬9223372036854775807<A1.size+A2.size+A3.size:=mOm;have c4:¬9223372036854775807<A1.size+A2.size+A3.size+A4.size:=mOm;have c5:¬9223372036854775807<A1.size+A2.size+A3.size+A4.size+A5.size:=mOm;have c6:¬9223372036854775807<A1.size+A2.size+A3.size+A4.size+A5.size+A6.size:=mOm;have hb0:=aj w (Of #[N9 Oa sc,N9 Oa sz,N9 Oa dy,Ob tr,Ob bf,N9 Oa ky,Ob mk] 65);have hS0:zV w w.heap.size #[N9 Oa sc,N9 Oa sz,N9 Oa dy,Ob tr,Ob bf,N9 Oa ky,Ob mk] (w.alloc (Of #[N9 Oa sc,N9 Oa sz,N9 Oa dy,Ob tr,Ob bf,N9 Oa ky,Ob mk] 65)).drew:=⟨hb0.drew,by show w.heap.size<(w.alloc _).heap.size;rw[size_alloc];omega,fun j=>ae (heap_alloc_new w _) j⟩
 revert c2 c3 c4 c5 c6 hb0 hS0
 exact hq.1):p:=f ⟨h⟩
theorem qV{p q:Prop}(h:q) (f:Wq q->p:=by
 intro hq;refine aD (S:=fun u=>ac w.heap.size w u/\w.heap.size<u.heap.size/\∀j,u.cell? ⟨w.heap.size,j,Oh⟩=(#[N9 Oa sc,N9 Oa sz,N9 Oa dy,Ob tr,Ob bf,N9 Oa ky,Ob mk]:Array Value)[j]?) [(0,true),(1,true),(3,true),(4,true),(7,true),(8,true),(11,true),(12,true),(15,true),(16,true),(19,true),(20,true),(2,false),(5,false),(6,true),(9,false),(10,true),(13,false),(14,true),(17,false),(18,true),(21,false),(22,true),(23,true)] hS0 ?_;have hS:=hS0
 iterate 12 refine ak ?_
 revert hS
 exact hq.1):p:=f ⟨h⟩
theorem qW{p q:Prop}(h:q) (f:Wq q->p:=by
 intro hq;have z1:=gg x.school hx.school.1 hx.school.2;have z2:=gg x.size hx.size.1 hx.size.2;have z3:=gg x.day hx.day.1 hx.day.2;have z4:=ia x.tree (by have:=hx.tree;omega);have z5:=ia x.before (by have:=hx.before;omega);have z6:=gg x.key hx.key.1 hx.key.2;have y4:=hx.tree;have y5:=hx.before
 revert z1 z2 z3 z4 z5 z6 y4 y5
 exact hq.1):p:=f ⟨h⟩
theorem qD{p q:Prop}(h:q) (f:Wq q->p:=by
 intro hq;have HR:Hid ((⟨(dM x.school).toArray⟩:ByteArray)++⟨(dM x.size).toArray⟩++⟨(dM x.day).toArray⟩++⟨(eW x.tree).toArray⟩++⟨(eW x.before).toArray⟩++⟨(dM x.key).toArray⟩=bJ x):=aa (dL (by simp[bJ,lX]))
 revert HR
 exact hq.1):p:=f ⟨h⟩
theorem vQ(x:aC)(hx:x.Ok)(w:World)(ht:Tabs w) :
  Calls prog 207 #[x.val] w fun e w'=>e=Oe (Ob (bJ x))/\ac w.heap.size w w':=by
 refine qW ?_;intro z1 z2 z3 z4 z5 z6 y4 y5;have k1:=fun w ht=>lr x.school w hx.school.1 hx.school.2 ht
 have k2:=fun w ht=>lr x.size w hx.size.1 hx.size.2 ht
 have k3:=fun w ht=>lr x.day w hx.day.1 hx.day.2 ht
 have k4:=fun w ht=>qj x.tree w (by have:=hx.tree;omega) ht
 have k5:=fun w ht=>qj x.before w (by have:=hx.before;omega) ht
 have k6:=fun w ht=>lr x.key w hx.key.1 hx.key.2 ht
 refine qD ?_;intro HR;generalize bJ x=R at *;obtain⟨sc,sz,dy,tr,bf,ky,mk⟩:=x;simp only at *;replace z1:(⟨(dM sc).toArray⟩:ByteArray).size<=22:=by rw[bF];exact z1
 generalize (⟨(dM sc).toArray⟩:ByteArray)=A1 at *;replace z2:(⟨(dM sz).toArray⟩:ByteArray).size<=22:=by rw[bF];exact z2
 generalize (⟨(dM sz).toArray⟩:ByteArray)=A2 at *;replace z3:(⟨(dM dy).toArray⟩:ByteArray).size<=22:=by rw[bF];exact z3
 generalize (⟨(dM dy).toArray⟩:ByteArray)=A3 at *;replace z4:(⟨(eW tr).toArray⟩:ByteArray).size<=tr.size+22:=by rw[bF];exact z4
 generalize (⟨(eW tr).toArray⟩:ByteArray)=A4 at *;replace z5:(⟨(eW bf).toArray⟩:ByteArray).size<=bf.size+22:=by rw[bF];exact z5
 generalize (⟨(eW bf).toArray⟩:ByteArray)=A5 at *;replace z6:(⟨(dM ky).toArray⟩:ByteArray).size<=22:=by rw[bF];exact z6
 generalize (⟨(dM ky).toArray⟩:ByteArray)=A6 at *;refine qw ?_;intro c2 c3 c4 c5 c6 hb0 hS0;clear z1 z2 z3 z4 z5 z6 y4 y5 hx;go_enter func207,ntmps207;go_wp2_with fail;refine qV ?_;intro hS
 (first|(refine aJ 97 call97 (k1 _ (ht.below hS.1)) ?_;rintro x wn⟨rfl,hb⟩;replace hS:=bX hS hb;refine⟨_,rfl,hS,?_⟩;(try clear hb))|(refine aJ 97 call97 (k2 _ (ht.below hS.1)) ?_;rintro x wn⟨rfl,hb⟩;replace hS:=bX hS hb;refine⟨_,rfl,hS,?_⟩;(try clear hb))|(refine aJ 97 call97 (k3 _ (ht.below hS.1)) ?_;rintro x wn⟨rfl,hb⟩;replace hS:=bX hS hb;refine⟨_,rfl,hS,?_⟩;(try clear hb))|(refine aJ 97 call97 (k6 _ (ht.below hS.1)) ?_;rintro x wn⟨rfl,hb⟩;replace hS:=bX hS hb;refine⟨_,rfl,hS,?_⟩;(try clear hb)))
 refine ay ?_
 (first|(refine aJ 97 call97 (k1 _ (ht.below hS.1)) ?_;rintro x wn⟨rfl,hb⟩;replace hS:=bX hS hb;refine⟨_,rfl,hS,?_⟩;(try clear hb))|(refine aJ 97 call97 (k2 _ (ht.below hS.1)) ?_;rintro x wn⟨rfl,hb⟩;replace hS:=bX hS hb;refine⟨_,rfl,hS,?_⟩;(try clear hb))|(refine aJ 97 call97 (k3 _ (ht.below hS.1)) ?_;rintro x wn⟨rfl,hb⟩;replace hS:=bX hS hb;refine⟨_,rfl,hS,?_⟩;(try clear hb))|(refine aJ 97 call97 (k6 _ (ht.below hS.1)) ?_;rintro x wn⟨rfl,hb⟩;replace hS:=bX hS hb;refine⟨_,rfl,hS,?_⟩;(try clear hb)))
 refine ay ?_
 refine ak ?_
 (first|(refine aJ 97 call97 (k1 _ (ht.below hS.1)) ?_;rintro x wn⟨rfl,hb⟩;replace hS:=bX hS hb;refine⟨_,rfl,hS,?_⟩;(try clear hb))|(refine aJ 97 call97 (k2 _ (ht.below hS.1)) ?_;rintro x wn⟨rfl,hb⟩;replace hS:=bX hS hb;refine⟨_,rfl,hS,?_⟩;(try clear hb))|(refine aJ 97 call97 (k3 _ (ht.below hS.1)) ?_;rintro x wn⟨rfl,hb⟩;replace hS:=bX hS hb;refine⟨_,rfl,hS,?_⟩;(try clear hb))|(refine aJ 97 call97 (k6 _ (ht.below hS.1)) ?_;rintro x wn⟨rfl,hb⟩;replace hS:=bX hS hb;refine⟨_,rfl,hS,?_⟩;(try clear hb)))
 refine ay ?_
 refine ak ?_
 (first|(refine aJ 98 call98 (k4 _ (ht.below hS.1)) ?_;rintro x wn⟨rfl,hb⟩;replace hS:=bX hS hb;refine⟨_,rfl,hS,?_⟩;(try clear hb))|(refine aJ 98 call98 (k5 _ (ht.below hS.1)) ?_;rintro x wn⟨rfl,hb⟩;replace hS:=bX hS hb;refine⟨_,rfl,hS,?_⟩;(try clear hb)))
 refine ay ?_
 refine ak ?_
 (first|(refine aJ 98 call98 (k4 _ (ht.below hS.1)) ?_;rintro x wn⟨rfl,hb⟩;replace hS:=bX hS hb;refine⟨_,rfl,hS,?_⟩;(try clear hb))|(refine aJ 98 call98 (k5 _ (ht.below hS.1)) ?_;rintro x wn⟨rfl,hb⟩;replace hS:=bX hS hb;refine⟨_,rfl,hS,?_⟩;(try clear hb)))
 refine ay ?_
 refine ak ?_
 (first|(refine aJ 97 call97 (k1 _ (ht.below hS.1)) ?_;rintro x wn⟨rfl,hb⟩;replace hS:=bX hS hb;refine⟨_,rfl,hS,?_⟩;(try clear hb))|(refine aJ 97 call97 (k2 _ (ht.below hS.1)) ?_;rintro x wn⟨rfl,hb⟩;replace hS:=bX hS hb;refine⟨_,rfl,hS,?_⟩;(try clear hb))|(refine aJ 97 call97 (k3 _ (ht.below hS.1)) ?_;rintro x wn⟨rfl,hb⟩;replace hS:=bX hS hb;refine⟨_,rfl,hS,?_⟩;(try clear hb))|(refine aJ 97 call97 (k6 _ (ht.below hS.1)) ?_;rintro x wn⟨rfl,hb⟩;replace hS:=bX hS hb;refine⟨_,rfl,hS,?_⟩;(try clear hb)))
 refine ay ?_
 iterate 2 refine ak ?_
 simp only[aQ,aZ];go_wp2_with fail;go_ret;exact⟨cU HR.out,hS.1⟩
theorem nO(x:aC)(hx:x.Ok)(w:World) :
  Calls prog 130 #[x.val] w fun e w'=>e=Oe (Ob (bJ x))/\ac w.heap.size w w':=by
 refine qW ?_;intro z1 z2 z3 z4 z5 z6 y4 y5;have k1:=fun w=>kS x.school w hx.school
 have k2:=fun w=>kS x.size w hx.size
 have k3:=fun w=>kS x.day w hx.day
 have k4:=fun w=>mC x.tree w (by have:=hx.tree;omega)
 have k5:=fun w=>mC x.before w (by have:=hx.before;omega)
 have k6:=fun w=>kS x.key w hx.key
 refine qD ?_;intro HR;generalize bJ x=R at *;obtain⟨sc,sz,dy,tr,bf,ky,mk⟩:=x;simp only at *;replace z1:(⟨(dM sc).toArray⟩:ByteArray).size<=22:=by rw[bF];exact z1
 generalize (⟨(dM sc).toArray⟩:ByteArray)=A1 at *;replace z2:(⟨(dM sz).toArray⟩:ByteArray).size<=22:=by rw[bF];exact z2
 generalize (⟨(dM sz).toArray⟩:ByteArray)=A2 at *;replace z3:(⟨(dM dy).toArray⟩:ByteArray).size<=22:=by rw[bF];exact z3
 generalize (⟨(dM dy).toArray⟩:ByteArray)=A3 at *;replace z4:(⟨(eW tr).toArray⟩:ByteArray).size<=tr.size+22:=by rw[bF];exact z4
 generalize (⟨(eW tr).toArray⟩:ByteArray)=A4 at *;replace z5:(⟨(eW bf).toArray⟩:ByteArray).size<=bf.size+22:=by rw[bF];exact z5
 generalize (⟨(eW bf).toArray⟩:ByteArray)=A5 at *;replace z6:(⟨(dM ky).toArray⟩:ByteArray).size<=22:=by rw[bF];exact z6
 generalize (⟨(dM ky).toArray⟩:ByteArray)=A6 at *;refine qw ?_;intro c2 c3 c4 c5 c6 hb0 hS0;clear z1 z2 z3 z4 z5 z6 y4 y5 hx;go_enter func130,ntmps130;go_wp2_with fail;refine qV ?_;intro hS
 (first|(refine aJ 58 call58 (k1 _) ?_;rintro x wn⟨rfl,hb⟩;replace hS:=bX hS hb;refine⟨_,rfl,hS,?_⟩;(try clear hb))|(refine aJ 58 call58 (k2 _) ?_;rintro x wn⟨rfl,hb⟩;replace hS:=bX hS hb;refine⟨_,rfl,hS,?_⟩;(try clear hb))|(refine aJ 58 call58 (k3 _) ?_;rintro x wn⟨rfl,hb⟩;replace hS:=bX hS hb;refine⟨_,rfl,hS,?_⟩;(try clear hb))|(refine aJ 58 call58 (k6 _) ?_;rintro x wn⟨rfl,hb⟩;replace hS:=bX hS hb;refine⟨_,rfl,hS,?_⟩;(try clear hb)))
 refine ay ?_
 (first|(refine aJ 58 call58 (k1 _) ?_;rintro x wn⟨rfl,hb⟩;replace hS:=bX hS hb;refine⟨_,rfl,hS,?_⟩;(try clear hb))|(refine aJ 58 call58 (k2 _) ?_;rintro x wn⟨rfl,hb⟩;replace hS:=bX hS hb;refine⟨_,rfl,hS,?_⟩;(try clear hb))|(refine aJ 58 call58 (k3 _) ?_;rintro x wn⟨rfl,hb⟩;replace hS:=bX hS hb;refine⟨_,rfl,hS,?_⟩;(try clear hb))|(refine aJ 58 call58 (k6 _) ?_;rintro x wn⟨rfl,hb⟩;replace hS:=bX hS hb;refine⟨_,rfl,hS,?_⟩;(try clear hb)))
 refine ay ?_
 refine ak ?_
 (first|(refine aJ 58 call58 (k1 _) ?_;rintro x wn⟨rfl,hb⟩;replace hS:=bX hS hb;refine⟨_,rfl,hS,?_⟩;(try clear hb))|(refine aJ 58 call58 (k2 _) ?_;rintro x wn⟨rfl,hb⟩;replace hS:=bX hS hb;refine⟨_,rfl,hS,?_⟩;(try clear hb))|(refine aJ 58 call58 (k3 _) ?_;rintro x wn⟨rfl,hb⟩;replace hS:=bX hS hb;refine⟨_,rfl,hS,?_⟩;(try clear hb))|(refine aJ 58 call58 (k6 _) ?_;rintro x wn⟨rfl,hb⟩;replace hS:=bX hS hb;refine⟨_,rfl,hS,?_⟩;(try clear hb)))
 refine ay ?_
 refine ak ?_
 (first|(refine aJ 59 call59 (k4 _) ?_;rintro x wn⟨rfl,hb⟩;replace hS:=bX hS hb;refine⟨_,rfl,hS,?_⟩;(try clear hb))|(refine aJ 59 call59 (k5 _) ?_;rintro x wn⟨rfl,hb⟩;replace hS:=bX hS hb;refine⟨_,rfl,hS,?_⟩;(try clear hb)))
 refine ay ?_
 refine ak ?_
 (first|(refine aJ 59 call59 (k4 _) ?_;rintro x wn⟨rfl,hb⟩;replace hS:=bX hS hb;refine⟨_,rfl,hS,?_⟩;(try clear hb))|(refine aJ 59 call59 (k5 _) ?_;rintro x wn⟨rfl,hb⟩;replace hS:=bX hS hb;refine⟨_,rfl,hS,?_⟩;(try clear hb)))
 refine ay ?_
 refine ak ?_
 (first|(refine aJ 58 call58 (k1 _) ?_;rintro x wn⟨rfl,hb⟩;replace hS:=bX hS hb;refine⟨_,rfl,hS,?_⟩;(try clear hb))|(refine aJ 58 call58 (k2 _) ?_;rintro x wn⟨rfl,hb⟩;replace hS:=bX hS hb;refine⟨_,rfl,hS,?_⟩;(try clear hb))|(refine aJ 58 call58 (k3 _) ?_;rintro x wn⟨rfl,hb⟩;replace hS:=bX hS hb;refine⟨_,rfl,hS,?_⟩;(try clear hb))|(refine aJ 58 call58 (k6 _) ?_;rintro x wn⟨rfl,hb⟩;replace hS:=bX hS hb;refine⟨_,rfl,hS,?_⟩;(try clear hb)))
 refine ay ?_
 iterate 2 refine ak ?_
 simp only[aQ,aZ];go_wp2_with fail;go_ret;exact⟨cU HR.out,hS.1⟩
end
section
theorem ER{e:Ent}(h:dQ e=0){st d:Int}(hs0:0<=st)(hst:st<=999999)(hd0:0<=d)(hd:d<=999999):cC (dD e) (loB st d)<0↔e.student<st\/(e.student=st/\e.on<d):=by
 obtain⟨s,o,i,k,h1,h2,h3,h4,b1,b2,b3,b4,b5⟩:=Bj h;obtain⟨m,rfl⟩:∃m:Nat,st=m:=⟨st.toNat,mOm⟩;obtain⟨n,rfl⟩:∃n:Nat,d=n:=⟨d.toNat,mOm⟩;rw[lt_bl,ByteArray.toList_eq,ByteArray.toList_eq];have e1:(dD e).data.toList=dl s++32::(dl o++32::(dl i++32::([UInt8.ofNat (48+e.kind.toNat)]++32::oE e.code))):=by unfold dD fW gR;rw[if_pos h,h1,h2,h3];simp only[cI];simp
 have e2:(loB (m:Int) (n:Int)).data.toList=dl m++32::(dl n++32::[]):=by unfold loB;rw[cI,cI]
 have h6:∀a b:Nat,(dl a).length=(dl b).length:=fun _ _=>rfl
 have hn:∀l:List UInt8,Op.bytesLess l []=false:=fun l=>by cases l <;> rfl
 rw[e1,e2,sY (h6 _ _),yH b1 mOm,Di b1 mOm,zY,sY (h6 _ _),yH b2 mOm,Di b2 mOm,zY,hn,Bool.and_false,Bool.or_false,h1,h2];simp only[Bool.or_eq_true,aX,decide_eq_true_eq];omega
theorem LQ{e:Ent}(h:dQ e=0){st fi la:Int}(hr:ep st fi la):inB (loB st fi) (hiB st la) (dD e)=true↔e.student=st/\fi<=e.on/\e.on<=la:=by obtain⟨r1,r2,r3,r4,r5⟩:=hr;unfold inB hiB;rw[aX,Bool.not_eq_true',decide_eq_false_iff_not,decide_eq_true_eq,ER h mOm mOm mOm mOm,ER h mOm mOm mOm mOm];omega
theorem Ke{a b:Ent}(ha:dQ a=0)(hb:dQ b=0)(h:dD a=dD b):gR a=gR b:=by
 have h1:=congrArg (fun x:ByteArray=>x.data.toList) h;simp only[dD,fW,if_pos ha,if_pos hb] at h1;exact(List.append_inj h1 rfl).1
end
section
def yF(L:Nat):Option (List UInt8)->Prop
 | none=>True
 | some r=>r.length<=L
theorem jj{L:Nat}{s:Option (List UInt8)}(h:yF L s):I64 (stI s).1/\yF L (stI s).2:=by
 cases s with
 | none=>exact⟨⟨mDe,mDe⟩,trivial⟩
 | some r =>
  have h:r.length<=L:=h;unfold stI;simp only;rcases hz:Wr.intP r with _|⟨n,r'⟩
  .exact⟨⟨mDe,mDe⟩,trivial⟩
  .have h1:=Wr.intP_some hz;have hlen:=congrArg jQ h1.1;rw[ap] at hlen;exact⟨⟨h1.2.1,h1.2.2⟩,show r'.length<=L by omega⟩
theorem E0{L:Nat}{s:Option (List UInt8)}(h:yF L s):(stT s).1.size<=L/\yF L (stT s).2:=by
 cases s with
 | none=>exact⟨aP _,trivial⟩
 | some r =>
  have h:r.length<=L:=h;unfold stT;simp only;rcases hz:Wr.txtP r with _|⟨n,r'⟩
  .exact⟨aP _,trivial⟩
  .have h1:=Wr.txtP_some hz;have hlen:=congrArg jQ h1.1;rw[ap] at hlen;exact⟨show n.size<=L by have:=h1.2;omega,show r'.length<=L by omega⟩
theorem Ag:entZ.Ok:=⟨⟨mDe,mDe⟩,⟨mDe,mDe⟩,⟨mDe,mDe⟩,⟨mDe,mDe⟩,⟨mDe,mDe⟩,⟨mDe,mDe⟩,⟨mDe,mDe⟩,⟨mDe,mDe⟩,⟨mDe,mDe⟩,⟨mDe,mDe⟩,⟨mDe,mDe⟩,⟨mDe,mDe⟩,⟨mDe,mDe⟩,mDe,mDe⟩
theorem Lp{s:Option (List UInt8)}(h:yF 100000 s):(uI s).1.Ok:=by have a1:=jj h;have a2:=jj a1.2;have a3:=jj a2.2;have a4:=jj a3.2;have a5:=jj a4.2;have a6:=jj a5.2;have a7:=E0 a6.2;have a8:=jj a7.2;have a9:=jj a8.2;have a10:=jj a9.2;have a11:=jj a10.2;have a12:=jj a11.2;have a13:=jj a12.2;have a14:=jj a13.2;have a15:=E0 a14.2;exact⟨a1.1,a2.1,a3.1,a4.1,a5.1,a6.1,a8.1,a9.1,a10.1,a11.1,a12.1,a13.1,a14.1,a7.1,a15.1⟩
theorem EG{s:List UInt8}(h:s.length<=100000):(ek s).1.Ok:=by
 unfold ek
 split
 .exact Ag
 .split
  .exact Lp (s:=Og s) h
  .exact Ag
theorem EH(s:List UInt8):tG s=.tuple #[(ek s).1.val,N9 Oa (ek s).2]:=rfl
