/- Lemmas. -/
import Derived.Test.YtnlhbdmeodbblaaGreatDoorMtab
import Derived.Laws.ResultCell
import Derived.ProofKit
import Derived.LaidMore
import Derived.LaidSub
import Derived.LaidHandle
import Derived.OpenShut
import Derived.Carry
import Derived.ChangeSame
import Derived.Stop.Joined
set_option maxRecDepth 100000
set_option maxHeartbeats 16000000
set_option linter.all false
open Go.Proofs.Tryz
open Array renaming replicate->ef
open Bool renaming and_eq_true->aX
open Int renaming neg_neg->mH,tdiv_eq_ediv_of_nonneg->ev,tmod_eq_emod_of_nonneg->bN
open Go.IntWalk renaming i64_in->aH
open Go.Lib renaming cell_of_heap->ae,hid->aa,itoa->dC,itoa_length_le->bO
open List renaming getElem?_eq_getElem->ai,length_append->ap,mem_append->bI,mem_of_mem_take->cu,mem_singleton->bE
open Nat renaming le_refl->az,zero_le->aP
open Go.RowKit renaming Below->ac
open Go.World renaming block_lt_of_cell?->al
open Go.Ending renaming returned->Oe
open Go.IntKind renaming i64->Oa
open Go.Obj renaming cells->Of
open Go.Value renaming int->N9,string->Ob,slice->Oc,pointer->Od
open Option renaming some->Og,none->Oh
namespace Go.Proofs.YtnlhbdmeodbblaaGreatDoor
section
open Go Go.RowKit Go.Sort
attribute [local go_sem] mz
theorem ov{n:Int}(h:0<=n):dC n=Lib.decDigits n.toNat:=by unfold dC;rw[if_neg mOm]
theorem yd{n:Int}(h:n<0):dC n=45::Lib.decDigits (-n).toNat:=by unfold dC;rw[if_pos h];congr 2;omega
theorem jD{n:Int}(h:0<=n)(h2:n<10):dC n=[UInt8.ofNat (48+n).toNat]:=by rw[ov h,Lib.decDigits,dif_pos mOm];have:(48+n).toNat=48+n.toNat:=mOm;rw[this]
theorem lN{n:Int}(h:10<=n):dC n=dC (n / 10)++dC (n%10):=by rw[ov mOm,ov mOm,jD mOm mOm,Lib.decDigits,dif_neg mOm];have h1:n.toNat / 10=(n / 10).toNat:=mOm;have h2:48+n.toNat%10=(48+n%10).toNat:=mOm;rw[h1,h2]
theorem Cr{m:Int}(h:0<m)(h2:m<10):dC (-m)=45::dC m:=by rw[yd mOm,ov mOm,mH]
theorem Cs{m:Int}(h:10<=m):dC (-m)=dC (-(m / 10))++dC (m%10):=by rw[yd mOm,yd mOm,mH,mH,<-ov mOm,lN h,ov mOm];rfl
theorem rG{p:Prop} (h:p:=by
 clear ih;go_enter func122,ntmps122;go_wp2_with fail;refine(c1 _).mono ?_;rintro x w1⟨rfl,hb1⟩;go_wp2_with fail;refine(c2 _).mono ?_;rintro x w2⟨rfl,hb2⟩;go_wp2_with fail;go_ret
 exact⟨cU (dL (by simp[H.out])),hb1.trans (hb2.mono hb1.size)⟩):p:=h
theorem xy(k:Nat):∀(n:Int)(w:World),0<=n->n<k->n<=9223372036854775807->
  Calls prog 122 #[N9 Oa n] w fun e w'=>e=Oe (Ob ⟨(dC n).toArray⟩)/\Below w.heap.size w w':=by
 induction k with
 | zero=>intro n w h0 h1 _;omega
 | succ k ih =>
  intro n w h0 h1 h2;by_cases hs:n<10
  .have hw:IntKind.i64.wrap (48+n)=48+n:=aH _ mOm;have H:=aa (jD h0 hs);go_enter func122,ntmps122;go_wp2_with fail;go_ret;exact⟨cU (by rw[H.out]),aq _ _⟩
  .have hl1:=bO (n / 10) mOm mOm;have hl2:=bO (n%10) mOm mOm;have H:=aa (lN (n:=n) mOm);have c1:=fun w=>ih (n / 10) w mOm mOm mOm
   have c2:=fun w=>ih (n%10) w mOm mOm mOm
   exact rG
theorem DI(k:Nat):∀(m:Int)(w:World),0<m->m<k->m<=9223372036854775808->
  Calls prog 122 #[N9 Oa (-m)] w fun e w'=>e=Oe (Ob ⟨(dC (-m)).toArray⟩)/\Below w.heap.size w w':=by
 induction k with
 | zero=>intro m w h0 h1 _;omega
 | succ k ih =>
  intro m w h0 h1 h2;have e1:(-m).tmod 10 = -(m%10):=by rw[Int.neg_tmod,bN mOm]
  have e2:(-m).tdiv 10 = -(m / 10):=by rw[Int.neg_tdiv,ev mOm]
  have c2:=fun w=>xy 10 (m%10) w mOm mOm mOm
  have hl2:=bO (m%10) mOm mOm;by_cases hs:m<10
  .have H:=aa (Cr h0 hs);have e3:m%10=m:=mOm;have e4:m / 10=0:=mOm;rw[e3] at e1 c2 hl2;rw[e4] at e2;clear e3 e4 ih;go_enter func122,ntmps122;go_wp2_with fail;refine(c2 _).mono ?_;rintro x w1⟨rfl,hb1⟩;go_wp2_with fail;go_ret;exact⟨cU (dL (by simp[H.out])),hb1⟩
  .have hl1:=bO (-(m / 10)) mOm mOm;have H:=aa (Cs (m:=m) mOm);have c1:=fun w=>ih (m / 10) w mOm mOm mOm
   exact rG
theorem xx(n:Int)(w:World)(h:I64 n) :
  Calls prog 122 #[N9 Oa n] w fun e w'=>e=Oe (Ob ⟨(dC n).toArray⟩)/\Below w.heap.size w w':=by
 unfold I64 at h;by_cases hn:0<=n
 .exact xy (n.toNat+1) n w hn mOm mOm
 .have:=DI ((-n).toNat+1) (-n) w mOm mOm mOm
  rwa [mH] at this
theorem kS(n:Int)(w:World)(h:I64 n) :
  Calls prog 58 #[N9 Oa n] w fun e w'=>e=Oe (Ob ⟨(dM n).toArray⟩)/\Below w.heap.size w w':=by
 have hl:=bO n h.1 h.2;go_enter func58,ntmps58;go_wp2_with fail;refine(xx n _ h).mono ?_;rintro x w1⟨rfl,hb⟩;go_wp2_with fail;go_ret;exact⟨cU (dL (by simp[dM])),hb⟩
theorem mC(s:ByteArray)(w:World)(hs:s.size<=1000000) :
  Calls prog 59 #[Ob s] w fun e w'=>e=Oe (Ob ⟨(eW s).toArray⟩)/\Below w.heap.size w w':=by
 have hl:=bO s.size mOm mOm;have hi:I64 (s.size:Int):=by unfold I64;omega
 go_enter func59,ntmps59;go_wp2_with fail;refine(xx _ _ hi).mono ?_;rintro x w1⟨rfl,hb⟩;go_wp2_with fail;go_ret;exact⟨cU (dL (by simp[eW])),hb⟩
end
section
open Go Go.RowKit Go.Sort
attribute [local go_sem] mz
theorem si{p:Prop} (h:p:=by
 clear ih;go_enter func79,ntmps79;go_wp2_with fail;refine(c1 _).mono ?_;rintro x w1⟨rfl,hb1⟩;go_wp2_with fail;refine(c2 _).mono ?_;rintro x w2⟨rfl,hb2⟩;go_wp2_with fail;go_ret
 exact⟨cU (dL (by simp[H.out])),hb1.trans (hb2.mono hb1.size)⟩):p:=h
theorem tP(k:Nat):∀(n:Int)(w:World),0<=n->n<k->n<=9223372036854775807->
  Calls prog 79 #[N9 Oa n] w fun e w'=>e=Oe (Ob ⟨(dC n).toArray⟩)/\Below w.heap.size w w':=by
 induction k with
 | zero=>intro n w h0 h1 _;omega
 | succ k ih =>
  intro n w h0 h1 h2;by_cases hs:n<10
  .have hw:IntKind.i64.wrap (48+n)=48+n:=aH _ mOm;have H:=aa (jD h0 hs);go_enter func79,ntmps79;go_wp2_with fail;go_ret;exact⟨cU (by rw[H.out]),aq _ _⟩
  .have hl1:=bO (n / 10) mOm mOm;have hl2:=bO (n%10) mOm mOm;have H:=aa (lN (n:=n) mOm);have c1:=fun w=>ih (n / 10) w mOm mOm mOm
   have c2:=fun w=>ih (n%10) w mOm mOm mOm
   exact si
theorem Gm(k:Nat):∀(m:Int)(w:World),0<m->m<k->m<=9223372036854775808->
  Calls prog 79 #[N9 Oa (-m)] w fun e w'=>e=Oe (Ob ⟨(dC (-m)).toArray⟩)/\Below w.heap.size w w':=by
 induction k with
 | zero=>intro m w h0 h1 _;omega
 | succ k ih =>
  intro m w h0 h1 h2;have e1:(-m).tmod 10 = -(m%10):=by rw[Int.neg_tmod,bN mOm]
  have e2:(-m).tdiv 10 = -(m / 10):=by rw[Int.neg_tdiv,ev mOm]
  have c2:=fun w=>tP 10 (m%10) w mOm mOm mOm
  have hl2:=bO (m%10) mOm mOm;by_cases hs:m<10
  .have H:=aa (Cr h0 hs);have e3:m%10=m:=mOm;have e4:m / 10=0:=mOm;rw[e3] at e1 c2 hl2;rw[e4] at e2;clear e3 e4 ih;go_enter func79,ntmps79;go_wp2_with fail;refine(c2 _).mono ?_;rintro x w1⟨rfl,hb1⟩;go_wp2_with fail;go_ret;exact⟨cU (dL (by simp[H.out])),hb1⟩
  .have hl1:=bO (-(m / 10)) mOm mOm;have H:=aa (Cs (m:=m) mOm);have c1:=fun w=>ih (m / 10) w mOm mOm mOm
   exact si
theorem zl(n:Int)(w:World)(h:I64 n) :
  Calls prog 79 #[N9 Oa n] w fun e w'=>e=Oe (Ob ⟨(dC n).toArray⟩)/\Below w.heap.size w w':=by
 unfold I64 at h;by_cases hn:0<=n
 .exact tP (n.toNat+1) n w hn mOm mOm
 .have:=Gm ((-n).toNat+1) (-n) w mOm mOm mOm
  rwa [mH] at this
end
section
open Go Go.RowKit Go.Sort
attribute [local go_sem] Ent.cells
theorem Cb(a b:List UInt8):(⟨a.toArray⟩:ByteArray)++⟨b.toArray⟩=⟨(a++b).toArray⟩:=dL mSi
theorem xG(e:Ent)(h:e.Ok)(w:World) :
  Calls prog 23 #[e.val] w fun x w'=>x=Oe (Ob ⟨e.body.toArray⟩)/\Below w.heap.size w w':=by
 have hl1:=kK e.ints1 h.ints1;have hl2:=ia e.course (by have:=h.course;omega);have hl3:e.ints1.length=6:=rfl;have hcs:=h.course;go_enter func23,ntmps23;go_wp2_with fail
 go_loopw [3,5] (fun s i wr=>∃k:Nat,k<=6/\i=N9 Oa k/\s=Ob ⟨(gl (e.ints1.take k)).toArray⟩/\Below w.heap.size w wr/\aM wr w.heap.size e/\eT wr (w.heap.size+1) e.ints1) (fun _ i _=>6-(intOf i).toNat)
 case atStart =>
  refine⟨0,mOm,rfl,rfl,?_,?_,?_⟩
  .exact((Below.refl _ _).alloc (az _) _).alloc mSi _
  .exact(aM.new w e).below (aq _ _)
  .have:=eT.new (w.alloc (Of e.cells 67)) e.ints1;rw[size_alloc] at this;exact this
 case round =>
  obtain⟨k,hk,rfl,rfl,hbe,hbox,hrow⟩:=hrel;by_cases hlt:k<6
  .have hc:=hrow.cell (k:=k) (by simpa [Ent.ints1] using hlt);have hi:=h.ints1 _ (pV (l:=e.ints1) (k:=k) (by simpa [Ent.ints1] using hlt));have hlen:=kK (e.ints1.take k) (fun n hn=>h.ints1 n (cu hn));have hlen2:(e.ints1.take k).length<=6:=by simp[Ent.ints1];omega
   have H:=aa (pu e.ints1 k (by simpa [Ent.ints1] using hlt));generalize e.ints1.getD k 0=n at hc hi H;have hwl:=gg n hi.1 hi.2;generalize gl (e.ints1.take k)=acc at hlen H;go_wp2_with fail;refine(kS n _ hi).mono ?_;rintro x w1⟨rfl,hb1⟩;go_wp2_with fail
   go_roundw
   case rel=>exact⟨k+1,mOm,by go_num,by rw[H.out,Cb],hbe.trans (hb1.mono hbe.size),hbox.below hb1,hrow.below hb1⟩
   case measure=>simp[intOf];omega
  .obtain rfl:k=6:=mOm;have e6:e.ints1.take 6=e.ints1:=rfl;rw[e6];clear hlt hk e6;generalize hI1:gl e.ints1=i1 at hl1;have HI:=aa hI1;clear hI1;have hc6:wr.cell? ⟨w.heap.size,6,Oh⟩=Og (Ob e.course):=hbox.cell 6;go_wp2_with fail;refine(mC e.course _ mOm).mono ?_;rintro x w1⟨rfl,hb1⟩;have hbe2:=hbe.trans (hb1.mono hbe.size);have hbox2:=hbox.below hb1;clear hb1 hbe hbox hrow hc6;have hcc:=hbox2.cell;generalize hT:eW e.course=tx at hl2;have HT:=aa hT;clear hT;go_wp2_with fail;clear hcc
   go_loopw [3,7] (fun s i wr=>∃k:Nat,k<=7/\i=N9 Oa k/\s=Ob ⟨(i1++tx++gl (e.ints2.take k)).toArray⟩/\Below w.heap.size w wr/\eT wr w1.heap.size e.ints2) (fun _ i _=>7-(intOf i).toNat)
   case atStart =>
    exact⟨0,mOm,rfl,by rw[Cb];simp[gl],hbe2.trans ((aq _ _).mono hbe2.size),eT.new w1 e.ints2⟩
   case round =>
    clear hbe2 hbox2;obtain⟨k,hk,rfl,rfl,hbe,hrow⟩:=hrel;have hl4:e.ints2.length=7:=rfl;by_cases hlt:k<7
    .have hc:=hrow.cell (k:=k) (by simpa [Ent.ints2] using hlt);have hi:=h.ints2 _ (pV (l:=e.ints2) (k:=k) (by simpa [Ent.ints2] using hlt));have hlen:=kK (e.ints2.take k) (fun n hn=>h.ints2 n (cu hn));have hlen2:(e.ints2.take k).length<=7:=by simp[Ent.ints2];omega
     have H:=aa (pu e.ints2 k (by simpa [Ent.ints2] using hlt));generalize e.ints2.getD k 0=n at hc hi H;have hwl:=gg n hi.1 hi.2;have hal:(i1++tx++gl (e.ints2.take k)).length<=1000000:=by simp only[ap];omega
     have HA:=aa (show i1++tx++gl (e.ints2.take (k+1))=i1++tx++gl (e.ints2.take k)++dM n by rw[H.out];simp only[List.append_assoc]);generalize i1++tx++gl (e.ints2.take k)=acc at hal HA;go_wp2_with fail;refine(kS n _ hi).mono ?_;rintro x w2⟨rfl,hb2⟩;go_wp2_with fail
     go_roundw
     case rel=>exact⟨k+1,mOm,by go_num,by rw[HA.out,Cb],hbe.trans (hb2.mono hbe.size),hrow.below hb2⟩
     case measure=>simp[intOf];omega
    .obtain rfl:k=7:=mOm;have e7:e.ints2.take 7=e.ints2:=rfl;rw[e7];clear hlt hk e7 hrow;have HA:=aa (show i1++tx++gl e.ints2=e.body by rw[<-HI.out,<-HT.out];rfl);generalize i1++tx++gl e.ints2=acc at HA;go_wp2_with fail;go_ret;exact⟨cU (by rw[HA.out]),hbe⟩
theorem uq(e:Ent)(h:e.Ok)(w:World) :
  Calls prog 139 #[e.val] w fun x w'=>x=Oe (Ob ⟨e.code.toArray⟩)/\Below w.heap.size w w':=by
 have hl:=pL e h;have hc:=h.course;have hm:=h.mark;have hl2:=ia e.mark (by have:=h.mark;omega);have hnc:¬9223372036854775807<e.body.length+(eW e.mark).length:=mOm;go_enter func139,ntmps139;go_wp2_with fail;have hb0:=aq w (Of e.cells 67);have hbx:=fun j=>(aM.new w e).cell j
 go_region_held3 (fun w'=>Below w.heap.size w w'/\∀j,w'.cell? ⟨w.heap.size,j,none⟩=e.cells[j]?) (first|exact⟨hb0.drew,hbx⟩|assumption)
  (first
   | (go_at_call 23;refine(xG e h _).mono ?_;rintro x w1⟨rfl,hb1⟩;have hS1:=aM.of_cells (e:=e) (by assumption) hb1)
   | (go_at_call 59;refine(mC e.mark _ mOm).mono ?_;rintro x w2⟨rfl,hb2⟩;have hS2:=aM.of_cells (e:=e) (by assumption) hb2))
 go_wp2_with fail
 go_ret;exact⟨cU (dL (by simp[Ent.code])),hS2.1⟩
end
section
open Go Go.RowKit Go.Sort Go.Lib
def jJ(sc id:Int)(t:ByteArray):List UInt8:=dC sc++32::(dC id++32::t.data.toList)
theorem sd{p:Prop} (h:p:=by
 rintro _ w2⟨rfl,hb2⟩;generalize dC sc=A at l1 HM |-;generalize dC id=B at l2 HM |-;have k1:¬9223372036854775807<A.length+1:=mOm;have k2:¬9223372036854775807<A.length+1+B.length:=mOm;have k3:¬9223372036854775807<A.length+1+B.length+1:=mOm;have k4:¬9223372036854775807<A.length+1+B.length+1+t.size:=mOm;go_wp2_with fail;go_ret
 exact⟨cU (by rw[HM.out];exact dL mSi),hb.trans (hb2.mono hb.size)⟩):p:=h
theorem D9(b:Nat)(sc id:Int)(t:ByteArray)(hs:I64 sc)(hi:I64 id)(ht:t.size<=1000000)(w:World)(hc:w.cell? ⟨b,0,Oh⟩=Og (N9 Oa sc))(hT:Tabs w) :
  Calls prog 57 #[Od (Og ⟨b,0,Oh⟩),N9 Oa id,Ob t] w fun e w'=>e=Oe (Ob ⟨(jJ sc id t).toArray⟩)/\Below w.heap.size w w':=by
 have l1:=bO sc hs.1 hs.2;have l2:=bO id hi.1 hi.2;have HM:Hid (jJ sc id t=dC sc++32::(dC id++32::t.data.toList)):=aa rfl;go_enter func57,ntmps57;go_wp2_with fail;refine(lT sc w hs.1 hs.2 hT).mono ?_;rintro _ w1⟨rfl,hb⟩;go_wp2_with fail;refine(lT id w1 hi.1 hi.2 (hT.below hb)).mono ?_;exact sd
theorem Bw(sc id:Int)(ks:Value)(t:ByteArray)(hs:I64 sc)(hi:I64 id)(ht:t.size<=1000000)(w:World) :
  Calls prog 110 #[.agg #[N9 Oa sc,ks],N9 Oa id,Ob t] w fun e w'=>e=Oe (Ob ⟨(jJ sc id t).toArray⟩)/\Below w.heap.size w w':=by
 have l1:=bO sc hs.1 hs.2;have l2:=bO id hi.1 hi.2;have HM:Hid (jJ sc id t=dC sc++32::(dC id++32::t.data.toList)):=aa rfl;go_enter func110,ntmps110;go_wp2_with fail;have hba:=aq w (Of #[N9 Oa sc,ks] 33);refine(zl sc _ hs).mono ?_;rintro _ w1⟨rfl,hb1⟩;have hb:=hba.trans (hb1.mono hba.size);go_wp2_with fail;refine(zl id w1 hi).mono ?_;exact sd
end
section
open Go Go.RowKit Go.Sort Go.Lib
structure bG where
 id:Int
 secret:ByteArray
 fro:Int
 stolen:Int
@[reducible] def bG.cells(k:bG):Array Value:=#[N9 Oa k.id,Ob k.secret,N9 Oa k.fro,N9 Oa k.stolen]
@[reducible] def bG.val(k:bG):Value:=.agg #[N9 Oa k.id,Ob k.secret,N9 Oa k.fro,N9 Oa k.stolen]
def KeyAt(w:World)(g o:Nat)(e:bG):Prop:=w.rangeAt g o e.cells.toList
def cR(w:World)(g:Nat)(l:List bG):Prop:=∀k e,l[k]? = Og e->KeyAt w g (k*4) e
theorem KeyAt.below{w w':World}{B g o:Nat}{e:bG}(h:KeyAt w g o e)(hb:ac B w w')(hB:g<B):KeyAt w' g o e:=fun j v hv=>by
 rw[hb.cell (p:=⟨g,o+j,Oh⟩) hB];exact h j v hv
theorem cR.below{w w':World}{B g:Nat}{l:List bG}(h:cR w g l)(hb:ac B w w')(hB:g<B):cR w' g l:=fun k e he=>(h k e he).below hb hB
theorem KeyAt.cell{w:World}{g o:Nat}{e:bG}(h:KeyAt w g o e)(j:Nat){v:Value}(hv:e.cells.toList[j]? = Og v):w.cell? ⟨g,o+j,Oh⟩=Og v:=h j v hv
theorem tA(w:World)(o:Obj):ac w.heap.size w (w.alloc o):=(Below.refl _ _).alloc (az _) _
def cw(l:List bG)(id:Int):Nat:=l.findIdx (fun k=>k.id==id)
theorem zm{l:List bG}{id:Int}{k:Nat}(hk:k<l.length)(h:∀e∈l.take k,(e.id==id)=false)(he:(l[k].id==id)=true):cw l id=k:=
 (List.findIdx_eq hk).2 ⟨he,fun j hj=>h _ (List.mem_take_iff_getElem.2 ⟨j,mOm,rfl⟩)⟩
theorem xA{l:List bG}{id:Int}(h:∀e∈l.take l.length,(e.id==id)=false):cw l id=l.length:=by rw[List.take_length] at h;exact List.findIdx_eq_length.2 h
theorem take_one{l:List bG}{p:bG->Prop}{k:Nat}(hk:k<l.length)(h:∀e∈l.take k,p e)(he:p l[k]):∀e∈l.take (k+1),p e:=by
 rw[List.take_succ_eq_append_getElem hk];intro e hm;rcases bI.1 hm with hm|hm
 .exact h e hm
 .rw[bE] at hm;rw[hm];exact he
theorem H8(e:bG)(ib:Nat)(id:Int)(w:World)(hi:w.cell? ⟨ib,0,Oh⟩=Og (N9 Oa id)) :
  Calls prog 119 #[e.val,Od (Og ⟨ib,0,Oh⟩)] w fun x w'=>x=Oe (.bool (e.id==id))/\ac w.heap.size w w':=by
 have hlt:=al w _ hi;go_enter func119,ntmps119;go_wp2_with fail;go_ret;exact⟨rfl,tA _ _⟩
theorem qR{p q:Prop}(h:q) (f:Wq q->p:=by
 intro hq;have h1:Hid ((e.id==id)=true->I=k):=aa (HH.out k hltk hkI.out e he);have h2:Hid ((e.id==id)=false->∀e∈l.take (k+1),(e.id==id)=false):=aa (HO.out k hltk hkI.out e he)
 revert h1 h2
 exact hq.1):p:=f ⟨h⟩
theorem Gf(g c ib:Nat)(l:List bG)(id:Int)(w:World)(hl:l.length<=1000)(hk:cR w g l)(hg:g<w.heap.size)(hi:w.cell? ⟨ib,0,Oh⟩=Og (N9 Oa id)) :
  Calls prog 118 #[Oc (Og ⟨g,0,Oh⟩) l.length c,.func (.func 119) #[] #[Od (Og ⟨ib,0,Oh⟩)]] w
   fun x w'=>x=Oe (N9 Oa (if cw l id<l.length then (cw l id:Int) else -1))/\ac w.heap.size w w':=by
 have hlt:=al w _ hi;have hK:=aa hk
 have hH:∀k,k<l.length->(∀e∈l.take k,(e.id==id)=false)->∀e,l[k]? = Og e->(e.id==id)=true->cw l id=k:=fun k hk h e he h2=>by
  rw[ai hk] at he;cases he;exact zm hk h h2
 have hO:∀k,k<l.length->(∀e∈l.take k,(e.id==id)=false)->∀e,l[k]? = Og e->(e.id==id)=false->∀e∈l.take (k+1),(e.id==id)=false:=fun k hk h e he h2=>by
  rw[ai hk] at he;cases he;exact take_one hk h h2
 have hN2:=xA (l:=l) (id:=id)
 have hE:∀k,k<l.length->∃e,l[k]? = Og e:=fun k hk=>⟨_,ai hk⟩
 generalize cw l id=I at *;generalize l.length=N at *;have HH:=aa hH;have HO:=aa hO;have HN:=aa hN2;have HE:=aa hE;clear hk hH hO hN2 hE;go_enter func118,ntmps118;go_wp2_with fail
 go_loopw [8] (fun i wr=>∃k:Nat,k<=N/\Hid (∀e∈l.take k,(e.id==id)=false)/\i=N9 Oa k/\ac w.heap.size w wr) (fun i _=>N-(intOf i).toNat)
 case atStart=>exact⟨0,aP _,aa mSi,rfl,Below.refl _ _⟩
 case round =>
  obtain⟨k,hkN,hkI,rfl,hb⟩:=hrel;by_cases hltk:k<N
  .obtain⟨e,he⟩:=HE.out k hltk;have hat:=(hK.out k _ he).below hb hg;have hi2:wr.cell? ⟨ib,0,Oh⟩=Og (N9 Oa id):=(hb.cell (p:=⟨ib,0,Oh⟩) hlt).trans hi;have hC:=H8 e ib id wr hi2;refine qR ?_;intro h1 h2;clear he hi2;generalize (e.id==id)=b at hC h1 h2;go_wp2_with ((with_reducible refine wpList_load_mid (op:=⟨_,_,_,_,_,_⟩) ?_ 78 (.tmp 14) ?_ g (k*4) ?_ (bG.cells e).toList _ ?_ underlying78 ?_ ?_ ?_);rfl;rfl;rfl;exact hat;rfl;kernel_rfl);refine hC.mono ?_;rintro x w1⟨rfl,hb1⟩;have hbw:=hb.trans (hb1.mono hb.size)
   cases b
   .replace h2:=aa (h2.out rfl);go_wp2_with fail
    go_roundw
    case rel=>exact⟨k+1,mOm,h2,by go_num,hbw⟩
    case measure=>simp[intOf];omega
   .obtain rfl:=h1.out rfl;go_wp2_with fail;go_ret;exact⟨rfl,hbw⟩
  .obtain rfl:k=N:=mOm;have h3:=HN.out hkI.out;go_wp2_with fail;go_ret;exact⟨rfl,hb⟩
def CT(g:Nat)(l:List bG)(id:Int):Value:=if cw l id<l.length then Od (Og ⟨g,cw l id*4,Oh⟩) else .pointer Oh
theorem JV(b g c:Nat)(sc:Int)(l:List bG)(id:Int)(w:World)(hl:l.length<=1000)(hk:cR w g l)(hg:g<w.heap.size)(hr:w.heap[b]? = Og (Of #[N9 Oa sc,Oc (Og ⟨g,0,Oh⟩) l.length c] 116 (0,0))) :
  Calls prog 55 #[Od (Og ⟨b,0,Oh⟩),N9 Oa id] w
   fun x w'=>x=Oe (CT g l id)/\ac w.heap.size w w':=by
 have c1:w.cell? ⟨b,1,Oh⟩=Og (Oc (Og ⟨g,0,Oh⟩) l.length c):=ae hr 1;have hlt:=al w _ c1;have hb0:=tA w (Of #[N9 Oa id] 3);have hC:=Gf g c w.heap.size l id (w.alloc (Of #[N9 Oa id] 3)) hl (hk.below hb0 hg) (by simp;omega) (ae (heap_alloc_new w _) 0);unfold CT;generalize cw l id=I at *;generalize l.length=N at *;go_enter func55,ntmps55;go_wp2_with fail;refine hC.mono ?_;rintro x w1⟨rfl,hb1⟩;have hbw:=hb0.trans (hb1.mono hb0.size);have c2:w1.cell? ⟨b,1,Oh⟩=Og (Oc (Og ⟨g,0,Oh⟩) N c):=(hbw.cell (p:=⟨b,1,Oh⟩) hlt).trans c1;by_cases h:I<N
 .rw[if_pos h];go_wp2_with fail;go_ret;exact⟨rfl,hbw⟩
 .rw[if_neg h];go_wp2_with fail;go_ret;exact⟨rfl,hbw⟩
theorem sN(g c:Nat)(sc:Int)(l:List bG)(id:Int)(w:World)(hl:l.length<=1000)(hk:cR w g l)(hg:g<w.heap.size) :
  Calls prog 61 #[.agg #[N9 Oa sc,Oc (Og ⟨g,0,Oh⟩) l.length c],N9 Oa id] w
   fun x w'=>x=Oe (N9 Oa (if cw l id<l.length then (cw l id:Int) else -1))/\ac w.heap.size w w':=by
 have hb0:=tA w (Of #[N9 Oa sc,Oc (Og ⟨g,0,Oh⟩) l.length c] 33);have hK:=aa (hk.below hb0 hg)
 have hH:∀k,k<l.length->(∀e∈l.take k,(e.id==id)=false)->∀e,l[k]? = Og e->(e.id==id)=true->cw l id=k:=fun k hk h e he h2=>by
  rw[ai hk] at he;cases he;exact zm hk h h2
 have hO:∀k,k<l.length->(∀e∈l.take k,(e.id==id)=false)->∀e,l[k]? = Og e->(e.id==id)=false->∀e∈l.take (k+1),(e.id==id)=false:=fun k hk h e he h2=>by
  rw[ai hk] at he;cases he;exact take_one hk h h2
 have hN2:=xA (l:=l) (id:=id)
 have hE:∀k,k<l.length->∃e,l[k]? = Og e:=fun k hk=>⟨_,ai hk⟩
 generalize cw l id=I at *;generalize l.length=N at *;have HH:=aa hH;have HO:=aa hO;have HN:=aa hN2;have HE:=aa hE;clear hk hH hO hN2 hE;go_enter func61,ntmps61;go_wp2_with fail
 go_loopw [5] (fun i wr=>∃k:Nat,k<=N/\Hid (∀e∈l.take k,(e.id==id)=false)/\i=N9 Oa k/\wr=w.alloc (Of #[N9 Oa sc,Oc (Og ⟨g,0,Oh⟩) N c] 33)) (fun i _=>N-(intOf i).toNat)
 case atStart=>exact⟨0,aP _,aa mSi,rfl,rfl⟩
 case round =>
  obtain⟨k,hkN,hkI,rfl,rfl⟩:=hrel;by_cases hltk:k<N
  .obtain⟨e,he⟩:=HE.out k hltk;have hat:=hK.out k _ he;have c0:(w.alloc (Of #[N9 Oa sc,Oc (Og ⟨g,0,Oh⟩) N c] 33)).cell? ⟨g,k*4,Oh⟩=Og (N9 Oa e.id):=hat.cell 0 rfl;refine qR ?_;intro h1 h2;clear he hat;obtain⟨b,hbq⟩:∃b,(e.id==id)=b:=⟨_,rfl⟩;rw[hbq] at h1 h2
   cases b
   .replace h2:=aa (h2.out rfl);go_wp2_with fail
    go_roundw
    case rel=>exact⟨k+1,mOm,h2,by go_num,by first|rfl|trivial⟩
    case measure=>simp[intOf];omega
   .obtain rfl:=h1.out rfl;go_wp2_with fail;go_ret;exact⟨rfl,hb0⟩
  .obtain rfl:k=N:=mOm;have h3:=HN.out hkI.out;go_wp2_with fail;go_ret;exact⟨rfl,hb0⟩
end
section
open Go Go.RowKit Go.Sort Go.Lib
attribute [local go_sem] Ent.cells
def nS(k:bG)(sc id:Int)(t:ByteArray):ByteArray:=⟨(dg (kW k.secret ⟨(jJ sc id t).toArray⟩)).toArray⟩
def eC(l:List bG)(sc id:Int)(t:ByteArray):ByteArray×Int:=match l[cw l id]? with
 | some k=>(nS k sc id t,0)
 | none=>(⟨#[]⟩,5)
theorem DY{l:List bG}{sc id:Int}{t:ByteArray}{k:bG}(h:l[cw l id]? = Og k):eC l sc id t=(nS k sc id t,0):=by unfold eC;rw[h]
theorem DX{l:List bG}{sc id:Int}{t:ByteArray}(h:¬cw l id<l.length):eC l sc id t=(⟨#[]⟩,5):=by unfold eC;rw[List.getElem?_eq_none mOm]
theorem yi(sc id:Int)(t:ByteArray)(hs:I64 sc)(hi:I64 id):(⟨(jJ sc id t).toArray⟩:ByteArray).size<=t.size+100:=by have l1:=bO sc hs.1 hs.2;have l2:=bO id hi.1 hi.2;have l3:=bF t;have h:(⟨(jJ sc id t).toArray⟩:ByteArray).size=(jJ sc id t).length:=rfl;rw[h];simp only[jJ,ap,List.length_cons];omega
theorem Dy{W w w':World}{p q:Addr}{u v:Value}(h:ac W.heap.size W w/\w.cell? p=Og u/\w.cell? q=Og v)(hb:ac w.heap.size w w') :
  ac W.heap.size W w'/\w'.cell? p=Og u/\w'.cell? q=Og v:=
 ⟨h.1.trans (hb.mono h.1.size),(hb.cell (al w _ h.2.1)).trans h.2.1,(hb.cell (al w _ h.2.2)).trans h.2.2⟩
theorem pt{W w w':World}{p q r:Addr}{u v x:Value}(h:ac W.heap.size W w/\w.cell? p=Og u/\w.cell? q=Og v/\w.cell? r=Og x)(hb:ac w.heap.size w w') :
  ac W.heap.size W w'/\w'.cell? p=Og u/\w'.cell? q=Og v/\w'.cell? r=Og x:=
 ⟨h.1.trans (hb.mono h.1.size),(hb.cell (al w _ h.2.1)).trans h.2.1,(hb.cell (al w _ h.2.2.1)).trans h.2.2.1,(hb.cell (al w _ h.2.2.2)).trans h.2.2.2⟩
theorem tj(g c:Nat)(sc:Int)(l:List bG)(id:Int)(t:ByteArray)(w:World)(hl:l.length<=1000)(hk:cR w g l)(hsz:∀k∈l,k.secret.size<=100000)(hg:g<w.heap.size)(hs:I64 sc)(hi:I64 id)(ht:t.size<=1000000) :
  Calls prog 129 #[.agg #[N9 Oa sc,Oc (Og ⟨g,0,Oh⟩) l.length c],N9 Oa id,Ob t] w
   fun x w'=>x=Oe (.tuple #[Ob (eC l sc id t).1,N9 Oa (eC l sc id t).2])/\ac w.heap.size w w':=by
 have hb0:=aq w (Of #[N9 Oa sc,Oc (Og ⟨g,0,Oh⟩) l.length c] 33);have hr:=heap_alloc_new w (Of #[N9 Oa sc,Oc (Og ⟨g,0,Oh⟩) l.length c] 33);have hF:=sN g c sc l id _ hl (hk.below hb0 hg) (by simp;omega);have hc0:=ae hr 0;have hc1:=ae hr 1;by_cases h:cw l id<l.length
 .have hE:=ai h;have hsk:=hsz _ (List.getElem_mem h);generalize l[cw l id]=e at hE hsk;have HV:=aa (DY (sc:=sc) (t:=t) hE);have hat:=(hk _ _ hE).below hb0 hg;have hcm:(World.alloc w (Of #[N9 Oa sc,Oc (Og ⟨g,0,Oh⟩) l.length c] 33)).cell? ⟨g,cw l id*4+1,Oh⟩=Og (Ob e.secret):=hat.cell 1 rfl;rw[if_pos h] at hF;clear hE hat hr hk;generalize cw l id=I at *;go_enter func129,ntmps129;go_wp2_with fail;refine hF.mono ?_;rintro x w1⟨rfl,hb1⟩;have hbw:=hb0.trans (hb1.mono hb0.size);have hd0:=(hb1.cell (al _ _ hc0)).trans hc0;have hd1:=(hb1.cell (al _ _ hc1)).trans hc1;have hcm1:=(hb1.cell (al _ _ hcm)).trans hcm;clear hb1 hc0 hc1 hcm hF hb0;go_wp2_with fail;have hms:=yi sc id t hs hi;have hS0:ac w1.heap.size w1 w1.drew/\w1.drew.cell? ⟨w.heap.size,0,Oh⟩=Og (N9 Oa sc)/\w1.drew.cell? ⟨w.heap.size,1,Oh⟩=Og (Oc (Og ⟨g,0,Oh⟩) l.length c)/\w1.drew.cell? ⟨g,I*4+1,Oh⟩=Og (Ob e.secret):=⟨(Below.refl _ _).drew,hd0,hd1,hcm1⟩;refine aD (S:=fun w'=>ac w1.heap.size w1 w'/\w'.cell? ⟨w.heap.size,0,Oh⟩=Og (N9 Oa sc)/\w'.cell? ⟨w.heap.size,1,Oh⟩=Og (Oc (Og ⟨g,0,Oh⟩) l.length c)/\w'.cell? ⟨g,I*4+1,Oh⟩=Og (Ob e.secret)) [(0,true),(1,true),(2,true),(3,true),(4,true),(5,true),(6,true),(7,true),(8,true),(9,false),(10,false),(11,true),(12,true)] hS0 ?_;have hS:=hS0
  iterate 9 refine ak ?_
  refine aJ 110 call110 (Bw sc id _ t hs hi ht _) ?_;rintro x wn⟨rfl,hb⟩;replace hS:=pt hS hb;refine⟨_,rfl,hS,?_⟩;(try clear hb);refine ay ?_;refine aJ 177 call177 (xJ e.secret ⟨(jJ sc id t).toArray⟩ mOm mOm _) ?_;rintro x wn⟨rfl,hb⟩;replace hS:=pt hS hb;refine⟨_,rfl,hS,?_⟩;(try clear hb);refine ay ?_
  iterate 2 refine ak ?_
  simp only[aQ,aZ];go_wp2_with fail;refine bodyPost_ret (results_tmp2 rfl _ _ _) rfl ?_;exact⟨by rw[HV.out];rfl,hbw.trans (hS.1.mono hbw.size)⟩
 .have HV:=aa (DX (sc:=sc) (t:=t) h);rw[if_neg h] at hF;clear hr hk;generalize cw l id=I at *;go_enter func129,ntmps129;go_wp2_with fail;refine hF.mono ?_;rintro x w1⟨rfl,hb1⟩;have hbw:=hb0.trans (hb1.mono hb0.size);clear hb1 hF hb0 hc0 hc1;go_wp2_with fail;refine bodyPost_ret (results_tmp2 rfl _ _ _) rfl ?_;exact⟨by rw[HV.out];rfl,hbw⟩
end
section
open Go Go.Lib
def mu(l:List UInt8):Nat:=l.foldl (fun a c=>10*a+(c.toNat-48)) 0
theorem uK(l:List UInt8)(c:UInt8):mu (l++[c])=10*mu l+(c.toNat-48):=by simp[mu,List.foldl_append]
theorem ui{d:Nat}(h:d<10):(UInt8.ofNat (48+d)).toNat=48+d:=by rw[UInt8.toNat_ofNat'];omega
theorem tI(u:Nat):mu (decDigits u)=u:=by
 induction u using Nat.strongRecOn with
 | _ u ih =>
  by_cases h:u<10
  .rw[decDigits,dif_pos h];simp only[mu,List.foldl_cons,List.foldl_nil,ui h];omega
  .rw[decDigits,dif_neg h,uK,ih (u / 10) mOm,ui mOm];omega
theorem EI(u:Nat):∀c∈decDigits u,48<=c.toNat/\c.toNat<=57:=by
 induction u using Nat.strongRecOn with
 | _ u ih =>
  intro c hc;by_cases h:u<10
  .rw[decDigits,dif_pos h] at hc;simp only[bE] at hc;subst hc;rw[ui h];omega
  .rw[decDigits,dif_neg h] at hc;rcases bI.1 hc with hc|hc
   .exact ih (u / 10) mOm c hc
   .simp only[bE] at hc;subst hc;rw[ui mOm];omega
theorem Ka{m n:Int}(h:itoa m=itoa n):m=n:=by
 unfold itoa at h
 split at h <;> split at h
 .have:=congrArg mu (List.cons.inj h).2;rw[tI,tI] at this;omega
 .have hm:(45:UInt8)∈decDigits n.toNat:=by rw[<-h];simp
  exact absurd (EI _ _ hm).1 mDe
 .have hm:(45:UInt8)∈decDigits m.toNat:=by rw[h];simp
  exact absurd (EI _ _ hm).1 mDe
 .have:=congrArg mu h;rw[tI,tI] at this;omega
end
section
open Go
inductive FlowT where
 | done
 | take (i:Nat) (t:FlowT)
 | one (i:Nat) (t:FlowT)
 | two (i j:Nat) (t u:FlowT)
def kH(md:Region.Mode)(ops:Array Oper):Array Bool->FlowT->Bool
 | listed,.done=>(Region.ready md ops listed).isEmpty
 | listed,.take i t=>(Region.ready md ops listed).contains i&&Region.free md ops listed i&&kH md ops (listed.setIfInBounds i true) t
 | listed,.one i t=>(Region.ready md ops listed==[i])&&kH md ops (listed.setIfInBounds i true) t
 | listed,.two i j t u=>(Region.ready md ops listed==[i,j])&&kH md ops (listed.setIfInBounds i true) t&&kH md ops (listed.setIfInBounds j true) u
def FlowT.deep:FlowT->Nat
 | .done=>0
 | .take _ t=>t.deep+1
 | .one _ t=>t.deep+1
 | .two _ _ t u=>max t.deep u.deep+1
def dB(P:Program)(ops:Array Oper)(Q:Exit->Act->World->Prop)(S:World->Prop):FlowT->Act->World->Prop
 | .done,a,w=>Q .normal a w
 | .take i t,a,w=>∃oi v,ops[i]? = some oi/\YieldsIf P ops S oi v a/\dB P ops Q S t (a.put oi.dst v) w
 | .one i t,a,w=>wpOp P ops Q i (fun a' w'=>S w'/\dB P ops Q S t a' w') a w
 | .two i j t u,a,w=>wpOp P ops Q i (fun a' w'=>S w'/\dB P ops Q S t a' w') a w/\wpOp P ops Q j (fun a' w'=>S w'/\dB P ops Q S u a' w') a w
section
variable {P:Program} {ops:Array Oper} {Q:Exit->Act->World->Prop} {md:Region.Mode} {S:World->Prop}
theorem oh(hs:Region.noSelect ops=true)(hQ:∀d c v a w,Q (.panic c) (Act.put a d v) w->Q (.panic c) a w) :
  ∀(t:FlowT)(listed:Array Bool)(fuel:Nat)(a:Act)(w:World),kH md ops listed t=true->t.deep<=fuel->S w->dB P ops Q S t a w->wpAnyH P md ops Q S fuel listed a w
 | .done,listed,fuel,a,w,hf,_,_,h=>by
  refine wpAnyH_done ?_ h fuel
  simpa [kH] using hf
 | .take i t,listed,fuel,a,w,hf,hl,hS,h=>by
  obtain⟨oi,v,hi,hy,h⟩:=h;simp only[kH,aX] at hf
  cases fuel with
  | zero=>simp[FlowT.deep] at hl
  | succ fuel=>exact wpAnyH_take hi hs hf.1.2 hf.1.1 (fun c a w=>hQ _ c v a w) hy hS (oh hs hQ t _ fuel _ w hf.2 (by simpa [FlowT.deep] using hl) hS h)
 | .one i t,listed,fuel,a,w,hf,hl,hS,h=>by
  simp only[kH,aX,beq_iff_eq] at hf
  cases fuel with
  | zero=>simp[FlowT.deep] at hl
  | succ fuel =>
   refine wpAnyH_all hf.1 mSi fun j hj=>?_
   obtain rfl:j=i:=by simpa using hj
   exact wpOp_mono (fun a' w' h'=>⟨h'.1,oh hs hQ t _ fuel a' w' hf.2 (by simpa [FlowT.deep] using hl) h'.1 h'.2⟩) h
 | .two i j t u,listed,fuel,a,w,hf,hl,hS,h=>by
  simp only[kH,aX,beq_iff_eq] at hf
  cases fuel with
  | zero=>simp[FlowT.deep] at hl
  | succ fuel =>
   have hl':max t.deep u.deep<=fuel:=by simpa [FlowT.deep] using hl
   refine wpAnyH_all hf.1.1 mSi fun k hk=>?_
   have hk':k=i\/k=j:=by simpa using hk
   by_cases hki:k=i
   .subst hki;exact wpOp_mono (fun a' w' h'=>⟨h'.1,oh hs hQ t _ fuel a' w' hf.1.2 mOm h'.1 h'.2⟩) h.1
   .obtain rfl:k=j:=hk'.resolve_left hki;exact wpOp_mono (fun a' w' h'=>⟨h'.1,oh hs hQ u _ fuel a' w' hf.2 mOm h'.1 h'.2⟩) h.2
theorem oB{K:Act->World->Prop}{id:Nat}{a:Act}{w:World}(t:FlowT)(hm:P.follows .mixedOrders=true)(hs:Region.noSelect ops=true)
  (hf:kH .any ops (ef ops.size false) t=true) (hl:t.deep<=ops.size) (hS:S w.drew) (h:dB P ops (aZ K) S t a w.drew):(Code.region id ops true).wp P (aZ K) a w:=
 wp_region_held hm (oh hs (fun _ _ _ _ _ h=>h) t _ _ a w.drew hf hl hS h)
theorem Bs{i:Nat}{t:FlowT}{a:Act}{w:World}(oi:Oper)(v:Value)(hi:ops[i]? = Og oi)(hw:Region.wanted oi (yielded ops a.tmps)=true)(hy:∀w,S w->(execOp a.eval oi).run P w=.ok (.value v) w)
  (h:dB P ops Q S t (a.put oi.dst v) w):dB P ops Q S (.take i t) a w:=⟨oi,v,hi,.inl ⟨hw,hy⟩,h⟩
theorem I9{i:Nat}{t:FlowT}{a:Act}{w:World}(oi:Oper)(hi:ops[i]? = Og oi)(hw:Region.wanted oi (yielded ops a.tmps)=false)
  (h:dB P ops Q S t (a.put oi.dst undef) w):dB P ops Q S (.take i t) a w:=⟨oi,undef,hi,.inr ⟨hw,rfl⟩,h⟩
theorem bW{i:Nat}{t:FlowT}{a:Act}{w:World}(h:wpOp P ops Q i (fun a' w'=>S w'/\dB P ops Q S t a' w') a w):dB P ops Q S (.one i t) a w:=h
theorem ft{i j:Nat}{t u:FlowT}{a:Act}{w:World}(h:wpOp P ops Q i (fun a' w'=>S w'/\dB P ops Q S t a' w') a w)(h':wpOp P ops Q j (fun a' w'=>S w'/\dB P ops Q S u a' w') a w):dB P ops Q S (.two i j t u) a w:=⟨h,h'⟩
theorem ED{i:Nat}{K:Act->World->Prop}{a:Act}{w:World}(oi:Oper)(hi:ops[i]? = Og oi)(hw:Region.wanted oi (yielded ops a.tmps)=true)(h:oi.wp P a w K Q):wpOp P ops Q i K a w:=by unfold wpOp;simp only[hi,hw,if_true];exact .inl h
theorem bY{i:Nat}{K:Act->World->Prop}{a:Act}{w:World}(oi:Oper)(hi:ops[i]? = Og oi)(hw:Region.wanted oi (yielded ops a.tmps)=true)(f:FuncId)(args:Array Operand)(tys:Array TypeId)
  (ho:oi.op=.call { callee:=.value (.func f),args:=args,argTypes:=tys }) (vs:List Value) (hvs:args.toList.map a.eval=vs) (hc:∀xs w,(callFunc f xs).run P w=.ok (.enter f xs) w) {R:Ending->World->Prop} (h:Calls P f vs.toArray w R)
  (hK:∀e w',R e w'->∃v,e=Oe v/\K (a.put oi.dst v) w'):wpOp P ops Q i K a w:=
 ED oi hi hw (AH f args tys ho vs hvs hc h hK)
theorem bU{i:Nat}{K:Act->World->Prop}{a:Act}{w:World}(oi:Oper)(v:Value)(w':World)(hi:ops[i]? = Og oi)(hw:Region.wanted oi (yielded ops a.tmps)=true)(hr:(execOp a.eval oi).run P w=.ok (.value v) w')(h:K (a.put oi.dst v) w'):wpOp P ops Q i K a w:=
 ED oi hi hw (by unfold Oper.wp;rw[hr,Oper.upon_value];exact h)
end
theorem K9{P:Program}{ops:Array Oper}{S:World->Prop}{K:Act->World->Prop}{id:Nat}{a:Act}{w:World}(t:FlowT)(hS:S w.drew)(h:dB P ops (aZ K) S t a w.drew)(hm:P.follows .mixedOrders=true:=by kernel_rfl)(hs:Region.noSelect ops=true:=by kernel_rfl)(hf:kH .any ops (ef ops.size false) t=true:=by kernel_rfl)(hl:t.deep<=ops.size:=by decide):(Code.region id ops true).wp P (aZ K) a w:=oB t hm hs hf hl hS h
theorem gJ{P:Program}{ops:Array Oper}{S:World->Prop}{K:Act->World->Prop}{id:Nat}{a:Act}{w:World}{Q:Exit->Act->World->Prop}(t:FlowT)(hS:S w.drew)(h:dB P ops (aZ K) S t a w.drew)(hm:P.follows .mixedOrders=true:=by kernel_rfl)(hs:Region.noSelect ops=true:=by kernel_rfl)(hf:kH .any ops (ef ops.size false) t=true:=by kernel_rfl)(hl:t.deep<=ops.size:=by decide)(hk:∀a w,K a w->Q .normal a w:=by exact fun _ _ h=>h):(Code.region id ops true).wp P Q a w:=qb (oB t hm hs hf hl hS h) hk
theorem aW{P:Program}{ops:Array Oper}{Q:Exit->Act->World->Prop}{S:World->Prop}{i:Nat}{tr:FlowT}{a:Act}{w:World}{d}{o}{t}{p}{af}{g}{v:Value}{q:Prop}(h:q)(hi:ops[i]? = some (Oper.mk d o t p af g):=by rfl)(hw:Region.wanted (Oper.mk d o t p af g) (yielded ops a.tmps)=true:=by rfl)(hy:∀w,S w->(execOp a.eval (Oper.mk d o t p af g)).run P w=.ok (.value v) w:=by intro w hSw;(try dsimp only at hSw);go_simp;(try with_reducible rfl))(f:Wq q->dB P ops Q S tr (Act.put a d v) w:=by intro hq;(try simp only[Act.put,List.setIfInBounds_toArray,List.set_cons_zero,List.set_cons_succ]);exact hq.1):dB P ops Q S (.take i tr) a w:=Bs (Oper.mk d o t p af g) v hi hw hy (f ⟨h⟩)
theorem Nf{P:Program}{ops:Array Oper}{Q:Exit->Act->World->Prop}{S:World->Prop}{i:Nat}{tr:FlowT}{a:Act}{w:World}{d}{o}{t}{p}{af}{g}{q:Prop}(h:q)(hi:ops[i]? = some (Oper.mk d o t p af g):=by rfl)(hw:Region.wanted (Oper.mk d o t p af g) (yielded ops a.tmps)=false:=by rfl)(f:Wq q->dB P ops Q S tr (Act.put a d undef) w:=by intro hq;(try simp only[Act.put,List.setIfInBounds_toArray,List.set_cons_zero,List.set_cons_succ]);exact hq.1):dB P ops Q S (.take i tr) a w:=I9 (Oper.mk d o t p af g) hi hw (f ⟨h⟩)
end
section
open Go Go.ChangeShapes Go.WideShapes Go.ChangeAt Go.WideElems Go.RowKit Go.Lib
theorem AJ:laidOutB prog=true:=mKr
theorem own:ownKnob prog.godebug=Oh:=mKr
section
variable {H:Type} {enc:TypeId×Value->H} {P:Program}
theorem uw(hl:laidOutB P=true){W W':World}{sp':Nat->Bool}:∀{ts:List TypeId}{vs:List Value}{ds:List (DataW H)}{ps:List MemPlace},
  (∀t∈ts,P.readableRec t=true/\t<P.types.size)->DataW.TrodAll enc P W 0 (fun _=>true) true ts vs ds ps->(∀p∈ps,W.sameAt W' p)->(∀p∈ps,sp' p.block=true)->DataW.TrodAll enc P W' 0 sp' true ts vs ds ps
 | [],[],[],_,_,h,_,_=>h
 | [],[],_::_,_,_,h,_,_=>h.elim
 | [],_::_,_,_,_,h,_,_=>h.elim
 | _::_,[],_,_,_,h,_,_=>h.elim
 | _::_,_::_,[],_,_,h,_,_=>h.elim
 | t::ts,v::vs,d::ds,ps,ht,h,h1,h2=>by
  obtain⟨p,q,hp,hq,rfl⟩:=h
  exact⟨p,q,Trod_stays hl (ht t mSi).1 (ht t mSi).2 hp (fun x hx=>h1 x (by simp[hx])) (fun x hx=>h2 x (by simp[hx])),
   uw hl (fun u hu=>ht u (by simp[hu])) hq (fun x hx=>h1 x (by simp[hx])) (fun x hx=>h2 x (by simp[hx])),rfl⟩
theorem CU{f:Func}{s:ChangeSpec}{W W':World}{args:Array Value}{ds:List (DataW H)}{p:List MemPlace}{tb:TypeId}(hl:laidOutB P=true)
  (hts:∀t∈f.params.toList,P.readableRec t=true/\t<P.types.size) (hv:s.vars=[]) (hr:f.resultTypes=#[tb]) (hb:P.underlying tb=Og .bool)
  (hf:s.fn H (ds++[])={ results:=[.lit (.bool true)],args:=ds })
  (hW:DataW.Whole enc P f.params.toList s.vars false W args.toList ds [] p) (hA:DataW.TrodAll enc P W 0 (fun _=>true) true f.params.toList args.toList ds p) (hbe:Below W.heap.size W W') :
  s.post enc P f false true false false W args (.bool true) W':=by
 have hlt:∀x∈p,x.block<W.heap.size:=fun x hx=>hW.lt x hx
 have hsame:∀x∈p,W.sameAt W' x:=fun x hx=>hbe.same (hlt x hx)
 have hargs:∀sp:Nat->Bool,(∀x∈p,sp x.block=true)->DataW.TrodAll enc P W' 0 sp true f.params.toList args.toList (s.fn H (ds++[])).args p:=fun sp h=>by
  rw[hf];exact uw hl hts hA hsame h
 have hvars:∀sp:Nat->Bool,DataW.TrodVars enc P W' sp s.vars (s.fn H (ds++[])).vars []:=fun sp=>by
  rw[hf,hv];rfl
 have hold:∀x∈p,(fun b=>decide (b<W.heap.size)) x.block=true:=fun x hx=>by simpa using hlt x hx
 have hres:∀(b:Nat)(sp:Nat->Bool)(hd:Bool),DataW.TrodAll enc P W' b sp hd f.resultTypes.toList ((Value.bool true).resultList f.resultTypes.size) (s.fn H (ds++[])).results []:=fun b sp hd=>by
  rw[hf,hr];exact trodAll_mk1 (shut_bool hb true)
 refine⟨ds,[],p,[],p,[],hW,hres _ _ _,hargs _ hold,hvars _,World.keptBut_mono (fun x hx=>⟨hx,?_⟩) (hbe.frame (·∈p)),fun _=>?_⟩
 .simpa using hx
 .obtain⟨_,_,_,_,_,hz,hn⟩:=hW;refine⟨ok_one hr rfl (okWide_bool_mk hb _),_,_,([]++p)++[],⟨[]++p,[],trodAll_append (hargs _ (fun _ _=>rfl)) (hres _ _ _),hvars _,rfl,?_,?_⟩,?_⟩
  .intro b off hp;have hin:MemPlace.cell b off∈p:=by simpa using hp
   rw[hbe.frozen (hlt _ hin)];exact hz b off hin
  .intro ha;simpa using hn ha
  .intro x hx _;simpa using hx
end
section
variable {P:Program} {w:World} {r:Reach} {b0:Nat} {t:TypeId}
end
