/- Lemmas. -/
import Derived.Deep.LoopGhost
import Derived.Test.YtnlhbdmeodbblaaGreatDoorMtaa
import Derived.Deep.CutBlock
import Derived.Laws.StructEq
import Derived.Laws.RangeString
import Derived.Laws.RangeAny
import Derived.LoopTactic
import Derived.Lib.AtoiAll
import Derived.Lib.IndexMore
import Derived.Lib.ItoaNum
set_option maxRecDepth 100000
set_option maxHeartbeats 16000000
set_option linter.all false
open Go.Proofs.Tryz
open Array renaming getElem?_eq_none->gC,getElem?_modify->eJ,replicate->ef
open Bool renaming and_eq_true->aX
open Int renaming emod_lt_of_pos->fd,emod_nonneg->gE,tmod_eq_emod_of_nonneg->bN
open Go.IntWalk renaming i64_in->aH
open Go.Lib renaming byteCells->jA,cell_of_heap->ae,hid->aa,idxFuncFrom->jm
open List renaming all_eq_true->gh,cons_append->eY,drop_eq_nil_of_le->fm,drop_zero->mv,getD_eq_getElem?_getD->bi,getElem?_eq_getElem->ai,length_append->ap,length_cons->bB,mem_cons->bM,mem_of_mem_take->cu,mem_singleton->bE,not_mem_nil->eZ,take_length->aT
open Nat renaming add_mul->pJ,le_refl->az,le_trans->aV,lt_or_ge->jc,mul_le_mul_right->iR,zero_add->bP,zero_le->aP
open Go.RowKit renaming Below->ac,intOf->aw
open Go.World renaming block_lt_of_cell?->al,setCell->dP
open Go.Ending renaming returned->Oe
open Go.IntKind renaming i64->Oa
open Go.Obj renaming cells->Of
open Go.Value renaming int->N9,string->Ob,slice->Oc,pointer->Od
open Option renaming some->Og,none->Oh
namespace Go.Proofs.YtnlhbdmeodbblaaGreatDoor
section
open Go Go.Proofs Go.RowKit Go.Sort Go.Lib
theorem ah{W w w':World}(h:ac W.heap.size W w)(hb:ac w.heap.size w w'):ac W.heap.size W w':=h.trans (hb.mono h.size)
theorem bj{w:World}{g:Nat}{cs:Array Value}{t:TypeId}(h:w.heap[g]? = Og (Of cs t (0,0)))(j:Nat)(u:Value):(w.setCell ⟨g,j,Oh⟩ u).heap[g]? = Og (Of (cs.setIfInBounds j u) t (0,0)):=by simp[dP,eJ,h]
theorem dA{w:World}{g g':Nat}(hne:g'≠g)(j:Nat)(u:Value):(w.setCell ⟨g',j,Oh⟩ u).heap[g]? = w.heap[g]?:=by simp[dP,eJ,hne]
theorem Dg(w:World)(g j:Nat)(u:Value):(w.setCell ⟨g,j,Oh⟩ u).heap.size=w.heap.size:=by simp[dP]
theorem aF.set{S:Nat->Prop}(w:World){g:Nat}(hg:S g)(j:Nat)(u:Value):aF S w (w.setCell ⟨g,j,Oh⟩ u):=
 ⟨rfl,rfl,rfl,by rw[Dg];exact az _,fun k _ hs=>dA (fun e=>by subst e;exact hs hg) j u⟩
theorem aF.heap{S:Nat->Prop}{w w':World}(h:aF S w w'){b:Nat}{o:Obj}(hb:w.heap[b]? = Og o)(hs:¬S b):w'.heap[b]? = Og o:=(h.block b (aG hb) hs).trans hb
theorem aF.alloc(S:Nat->Prop)(w:World)(o:Obj):aF S w (w.alloc o):=aF.of ((Below.refl _ _).alloc (az _) _)
theorem tU{w:World}{base k n m cap:Nat}{e:TypeId}{a:Option Addr}{xs:List Value}(h:w.ownsRow base e k (Oc a n cap) n xs)(hm:m<=n):w.ownsRow base e k (Oc a m cap) m (xs.take (m*k)):=by
 obtain⟨hl,h⟩:=h;refine⟨by rw[List.length_take,hl];exact Nat.min_eq_left (iR _ hm),?_⟩;rcases h with⟨hv,hn⟩|⟨g,cap',cur,hv,h1,h2,h3,h4,h5,h6⟩
 .injection hv with e1 e2 e3;subst e1;subst hn;subst e3;obtain rfl:m=0:=mOm;exact .inl ⟨rfl,rfl⟩
 .injection hv with e1 _ e3;subst e1;subst e3;refine .inr ⟨g,cap,cur,rfl,h1,h2,mOm,h4,h5,?_⟩;rw[<-h6,List.take_take,Nat.min_eq_left (iR _ hm)]
theorem iV{α:Type}{enc:α->List Value}{k:Nat}(hk:∀x,(enc x).length=k):∀(L:List α)(m:Nat),(aN enc L).take (m*k)=aN enc (L.take m)
 | [],m=>by simp[aN]
 | x::L,0=>by simp[aN]
 | x::L,m+1=>by
  show(enc x++aN enc L).take ((m+1)*k)=enc x++aN enc (L.take m)
  rw[List.take_append,hk,List.take_of_length_le (by rw[hk,pJ];omega),show(m+1)*k-k=m*k by rw[pJ];omega,iV hk L m]
end
section
open Go Go.Proofs Go.RowKit Go.Sort Go.Lib
attribute [local go_sem] Oper.semAt_some
theorem aj(w:World)(o:Obj):ac w.heap.size w (w.alloc o):=(Below.refl _ _).alloc (az _) _
theorem _root_.Go.RowKit.Below.heap_of{w w':World}(h:ac w.heap.size w w'){b:Nat}{o:Obj}(hb:w.heap[b]? = Og o):w'.heap[b]? = Og o:=(h.block _ (aG hb)).trans hb
theorem fY(x:Int)(n:Nat)(h:x=n)(hb:n<=9223372036854775807):IntKind.i64.wrap x=(n:Int):=by rw[h];exact aH _ mOm
def kz(i j:Nat):Nat->Nat
 | 0=>i
 | k+1=>kz i j k+iM (kz i j k) j
theorem tC(i j:Nat):∀k,kz (i+iM i j) j k=kz i j (k+1)
 | 0=>rfl
 | k+1=>by show kz (i+iM i j) j k+_=kz i j (k+1)+_;rw[tC i j k]
theorem wj(j:Nat):∀(k i:Nat),k<(cV i j).length->kz i j k<j/\(cV i j)[k]? = Og (kz i j k,iM (kz i j k) j)
 | k,i,h=>by
  by_cases hij:i<j
  .rw[oQ hij] at h |-
   cases k with
   | zero=>exact⟨hij,rfl⟩
   | succ k =>
    have:=wj j k (i+iM i j) (by simpa using h);rw[tC] at this;exact this
  .rw[lK hij] at h;simp at h
theorem xW(j:Nat):∀f i,j-i<=f->i<=j->kz i j (cV i j).length=j
 | f,i,hf,hle=>by
  by_cases hij:i<j
  .have hb:=mh hij;rw[oQ hij,bB,<-tC]
   cases f with
   | zero=>omega
   | succ f=>exact xW j f _ mOm mOm
  .rw[lK hij]
   show i=j
   omega
def yK(ib i j:Nat)(k:Nat)(W:World):Prop:=W.heap[ib]? = Og (Of #[N9 Oa (kz i j k)] 3 (0,0))/\W.heap[ib+1]? = Og (Of #[N9 Oa j] 3 (0,0))
def Fg(x:Nat×Nat):Value:=.agg #[N9 Oa x.1,N9 Oa x.2]
theorem Fh(i j:Int)(w:World) :
  Calls prog 270 #[N9 Oa i,N9 Oa j] w fun x w'=>x=Oe (.func (.func 287) #[] #[Od (Og ⟨w.heap.size,0,Oh⟩),Od (Og ⟨w.heap.size+1,0,Oh⟩)])/\
   w'=(w.alloc (Of #[N9 Oa i] 3)).alloc (Of #[N9 Oa j] 3):=by
 go_enter func270,ntmps270;go_wp2_with fail;go_ret;exact⟨rfl,rfl⟩
theorem DC(ib i j:Nat)(hij:i<=j)(hj:j<=1099511627776) :
  yE 287 #[Od (Og ⟨ib,0,Oh⟩),Od (Og ⟨ib+1,0,Oh⟩)] (fun k=>#[Fg ((cV i j).getD k (0,0))]) (cV i j).length (fun b=>b=ib) (yK ib i j):=by
 intro lp I X wL hIs hXs hK0 hI0 hY;have HIS:=aa hIs;have HXS:=aa hXs;have HYY:=aa hY;have HEND:=aa (xW j j i mOm hij);have HAT:=aa (fun k=>wj j k i);clear hIs hXs hY;generalize hL:cV i j=L at *;clear hL;go_enter func287,ntmps287;go_wp2_with fail
 go_loopg [] L.length (fun r wr=>∃k,k+r=L.length/\yK ib i j k wr/\Hid (I k wr))
 case atStart=>exact⟨0,bP _,hK0,aa hI0⟩
 case round =>
  obtain⟨k,hk,⟨hbi,hbj⟩,HI⟩:=hrel;have ci:=ae hbi 0;have cj:=ae hbj 0;by_cases hlt:k<L.length
  .obtain⟨hp,hget⟩:=HAT.out k hlt;generalize hpe:kz i j k=p at *;have hpn:kz i j (k+1)=p+iM p j:=by show kz i j k+iM (kz i j k) j=_;rw[hpe]
   have HPE:=aa (And.intro hpe hpn);clear hpe hpn;have hp':(p:Int)<(j:Int):=mOm;have hgd:L.getD k (0,0)=(p,iM p j):=by rw[bi,hget];rfl
   have hb0:=mh hp;have HG:=aa (show jw p j 64 (2^0)=iM p j from rfl);generalize iM p j=z at *;go_wp2_with fail
   go_loopg [] 64 (fun f w2=>∃s t:Nat,t+f=64/\Hid (s=2^t/\jw p j f s=z)/\(p+s<=j/\1<=s)/\w2=wr.alloc (Of #[N9 Oa p,N9 Oa s] 293))
   case atStart=>exact⟨1,0,rfl,aa ⟨rfl,HG.out⟩,mOm,rfl⟩
   case round =>
    obtain⟨s,t,htf,HS,⟨hs1,hs2⟩,rfl⟩:=hrel;have a1:IntKind.i64.wrap (2*(s:Int))=2*(s:Int):=aH _ mOm;have a1':IntKind.i64.wrap ((s:Int)*2)=(s:Int)*2:=aH _ mOm;have a3:IntKind.i64.wrap ((p:Int)+2*(s:Int))=(p:Int)+2*(s:Int):=aH _ mOm;have ci2:(wr.alloc (Of #[N9 Oa p,N9 Oa s] 293)).cell? ⟨ib,0,Oh⟩=Og (N9 Oa p):=by exact((aj wr _).cell (p:=⟨ib,0,Oh⟩) (aG hbi)).trans ci
    have cj2:(wr.alloc (Of #[N9 Oa p,N9 Oa s] 293)).cell? ⟨ib+1,0,Oh⟩=Og (N9 Oa j):=by exact((aj wr _).cell (p:=⟨ib+1,0,Oh⟩) (aG hbj)).trans cj
    have HN:Hid (∀f,gk=f+1->p%(2*s)=0->p+2*s<=j->2*s=2^(t+1)/\jw p j f (2*s)=z):=aa (fun f hf e1 e2=>⟨by rw[HS.out.1,Nat.pow_succ];omega,by
     have h:=HS.out.2;rw[hf,jw,if_pos ⟨e1,e2⟩] at h;exact h⟩)
    have em:(p:Int)%(2*(s:Int))=((p%(2*s):Nat):Int):=by push_cast;rfl
    have HEM:=aa em;clear em;by_cases e1:p%(2*s)=0/\p+2*s<=j
    .obtain⟨e1,e2⟩:=e1;have t1:((p:Int)%(2*(s:Int))==0)=true:=by rw[beq_iff_eq,HEM.out,e1];rfl
     have t2:(p:Int)+2*(s:Int)<=(j:Int):=mOm;clear hs1 hb0;obtain⟨f',rfl⟩:∃f',gk=f'+1:=by
      cases gk with
      | zero =>
       exfalso;obtain rfl:t=64:=mOm;have:=HS.out.1;omega
      | succ f'=>exact⟨f',rfl⟩
     have HN2:=HN.out f' rfl e1 e2
     replace HN2:=aa HN2;clear e1;go_wp2_with fail
     go_roundg f'
     case measure=>omega
     case rel=>exact⟨2*s,t+1,mOm,HN2,mOm,by simp[Int.mul_comm]⟩
    .have HZ:s=z:=by
      have h:=HS.out.2
      cases gk with
      | zero=>exact h
      | succ f'=>rw[jw,if_neg e1] at h;exact h
     have hor:((p:Int)%(2*(s:Int))==0)=false\/((p:Int)%(2*(s:Int))==0)=true/\¬(p:Int)+2*(s:Int)<=(j:Int):=by
      by_cases e0:p%(2*s)=0
      .exact .inr ⟨by rw[beq_iff_eq,HEM.out,e0];rfl,mOm⟩
      .exact .inl (by rw[beq_eq_false_iff_ne,HEM.out];omega)
     have hbu:aF (fun b=>b=ib) wr (wr.alloc (Of #[N9 Oa p,N9 Oa s] 293)):=aF.alloc _ _ _
     obtain⟨fn,tmps,assign,body,hy,hR⟩:=HYY.out k wr (wr.alloc (.cells #[.int .i64 p,.int .i64 s] 293)) hlt HI.out hbu (by unfold yK;rw[HPE.out.1];exact⟨(aj wr _).heap_of hbi,(aj wr _).heap_of hbj⟩) 2;rw[hgd] at hy;subst HZ;unfold Fg at hy;have HNX:=aa hgd;clear e1 HS HN HEM hgd hbu htf;rcases hor with t1|⟨t1,t2⟩
     all_goals
      go_upto_region 4 with fail
      refine(wpIn_wide (n:=3)).1 ?_
      gi_wp2
      refine hR.mono ?_
      clear hR hy ci2 cj2;rintro _ w3 (⟨rfl,hI3,hK3,hf3⟩|⟨rfl,hX⟩)
      .unfold yK at hK3;rw[HPE.out.1] at hK3;have hb3:=hf3 wr.heap.size (az _) mSi;rw[heap_alloc_new] at hb3;have HI3:=aa hI3;obtain⟨ki,kj⟩:=hK3;have d1:=ae ki 0;have d2:=Lib.frozen_of_heap ki 0;have d3:=ae hb3 1;have a5:IntKind.i64.wrap ((p:Int)+(s:Int))=((p+s:Nat):Int):=fY _ _ rfl mOm
       gi_wp2
       go_wp2_with fail
       go_roundg (L.length-(k+1))
       case measure=>omega
       case rel =>
        refine⟨k+1,mOm,⟨?_,?_⟩,aa (HIS.out (k+1) _ _ HI3.out (aF.set (S:=fun b=>b=ib) w3 rfl 0 _))⟩
        .rw[HPE.out.2];exact bj ki 0 _
        .rw[dA mOm];exact kj
      .have HX:=aa hX;clear hX
       gi_wp2
       go_wp2_with fail
       refine bodyPost_ret (results_none rfl _ _ _) rfl ?_;exact⟨⟨_,rfl⟩,.inr HX.out⟩
  .obtain rfl:k=L.length:=mOm;rw[HEND.out] at ci hbi;clear hlt hbi;go_wp2_with fail
   go_end0
   exact⟨⟨_,rfl⟩,.inl HI.out⟩
end
section
open Go Go.RowKit Go.Sort Go.Lib
def dg(l:List UInt8):List UInt8:=be8 (dgX l 11*4294967296+dgY l 17).toNat
theorem Jo(X Y:Nat)(_hX:X<4294967296)(hY:Y<4294967296):(be8 X).drop 4++(be8 Y).drop 4=be8 (X*4294967296+Y):=by
 have h:∀a b:Nat,a%256=b%256->UInt8.ofNat a=UInt8.ofNat b:=fun a b e=>by rw[<-rj a,<-rj b,e]
 unfold be8;simp only[List.drop_succ_cons,mv,eY,List.nil_append,List.cons.injEq,and_true];refine⟨h _ _ ?_,h _ _ ?_,h _ _ ?_,h _ _ ?_,h _ _ ?_,h _ _ ?_,h _ _ ?_,h _ _ ?_⟩ <;> omega
theorem rm(p:ByteArray)(hp:p.size<=1000000000)(w:World) :
  Calls prog 186 #[Ob p] w fun e w'=>e=Oe (Ob ⟨(dg p.data.toList).toArray⟩)/\Below w.heap.size w w':=by
 have HPS:=aa (bF p);go_enter func186,ntmps186;go_wp2_with fail
 go_loopw [3,4,5] (fun x y i w2=>∃(j:Nat) (X2 Y2:Int),j<=p.size/\i=N9 Oa j/\x=N9 Oa X2/\y=N9 Oa Y2/\(0<=X2/\X2<=2147483647)/\(0<=Y2/\Y2<=2147483647)/\Hid (X2=dgX (p.data.toList.take j) 11/\Y2=dgY (p.data.toList.take j) 17)/\w2=w) (fun _ _ i _=>p.size-(aw i).toNat)
 case atStart=>exact⟨0,11,17,aP _,rfl,rfl,rfl,mOm,mOm,aa (by simp[dgX,dgY]),rfl⟩
 case round =>
  obtain⟨j,X2,Y2,hj,rfl,rfl,rfl,hX2,hY2,HD2,rfl⟩:=hrel;by_cases hjl:j<p.size
  .have hjl2:j<p.data.toList.length:=by rw[<-HPS.out];exact hjl
   have hji:(j:Int)<p.size:=mOm;obtain⟨d,hd⟩:∃d,p.data.toList[j]=d:=⟨_,rfl⟩;have hg:∀h:j<p.size,p[j]'h=d:=fun h=>hd
   have hd8:=UInt8.toNat_lt d;have HT:Hid (p.data.toList.take (j+1)=p.data.toList.take j++[d]):=aa (by rw[List.take_add_one,ai hjl2,hd];rfl);have a1:IntKind.i64.wrap (69621*X2)=69621*X2:=aH _ mOm;have a2:IntKind.i64.wrap (69621*X2+d.toNat)=69621*X2+d.toNat:=aH _ mOm;have a3:IntKind.i64.wrap (69621*X2+d.toNat+1)=69621*X2+d.toNat+1:=aH _ mOm;have a4:(69621*X2+d.toNat+1).tmod 2147483647=(69621*X2+d.toNat+1)%2147483647:=bN mOm;have b1:IntKind.i64.wrap (45991*Y2)=45991*Y2:=aH _ mOm;have b2:IntKind.i64.wrap (45991*Y2+d.toNat)=45991*Y2+d.toNat:=aH _ mOm;have b3:IntKind.i64.wrap (45991*Y2+d.toNat+1)=45991*Y2+d.toNat+1:=aH _ mOm;have b4:(45991*Y2+d.toNat+1).tmod 2147483629=(45991*Y2+d.toNat+1)%2147483629:=bN mOm
   have HN:Hid ((69621*X2+d.toNat+1)%2147483647=dgX (p.data.toList.take (j+1)) 11/\(45991*Y2+d.toNat+1)%2147483629=dgY (p.data.toList.take (j+1)) 17):=aa (by
    rw[HT.out,Ac,Ad,<-HD2.out.1,<-HD2.out.2];exact⟨rfl,rfl⟩)
   have c1:=gE (69621*X2+d.toNat+1) (show(2147483647:Int)≠0 by decide)
   have c2:=fd (69621*X2+d.toNat+1) (show(0:Int)<2147483647 by decide);have c3:=gE (45991*Y2+d.toNat+1) (show(2147483629:Int)≠0 by decide);have c4:=fd (45991*Y2+d.toNat+1) (show(0:Int)<2147483629 by decide);clear hd hjl2;go_wp2_with fail
   go_roundw
   case rel=>exact⟨j+1,_,_,mOm,by go_num,rfl,rfl,mOm,mOm,HN,by first|rfl|trivial⟩
   case measure=>simp[aw];omega
  .obtain rfl:j=p.size:=mOm;obtain⟨X',rfl⟩:∃n:Nat,X2=n:=⟨X2.toNat,mOm⟩;obtain⟨Y',rfl⟩:∃n:Nat,Y2=n:=⟨Y2.toNat,mOm⟩
   have HE:Hid ((be8 X').drop 4++(be8 Y').drop 4=dg p.data.toList):=aa (by
    have h:=HD2.out;rw[HPS.out,aT] at h;unfold dg;rw[<-h.1,<-h.2,Jo X' Y' mOm mOm]
    congr 1)
   have e1:=fun w=>oT X' mOm w
   have e2:=fun w=>oT Y' mOm w
   have hz1:(⟨(be8 X').toArray⟩:ByteArray).size=8:=rfl;have hz2:(⟨(be8 Y').toArray⟩:ByteArray).size=8:=rfl;have hx1:(⟨(be8 X').toArray⟩:ByteArray).extract 4 8=⟨((be8 X').drop 4).toArray⟩:=dL rfl;have hx2:(⟨(be8 Y').toArray⟩:ByteArray).extract 4 8=⟨((be8 Y').drop 4).toArray⟩:=dL rfl;have hl1:((be8 X').drop 4).length=4:=rfl;have hl2:((be8 Y').drop 4).length=4:=rfl;generalize be8 X'=P at HE e1 hz1 hx1 hl1;generalize be8 Y'=R at HE e2 hz2 hx2 hl2;generalize P.drop 4=P4 at HE hx1 hl1;generalize R.drop 4=R4 at HE hx2 hl2;have hcat:¬9223372036854775807<P4.length+R4.length:=mOm;have hd0:Below wr.heap.size wr wr.drew:=(Below.refl _ _).drew;clear HD2 hX2 hY2;go_wp2_with fail;refine qb ?_ (fun _ _ h=>h)
   conv=>arg 2;whnf
   go_region_held3 (fun w'=>Below wr.heap.size wr w') (first|exact hd0|assumption)
    (first
     | ((with_reducible refine(e1 _).mono ?_);rintro _ w3⟨rfl,hb3⟩;have hS1:Below wr.heap.size wr w3:=hd0.trans (hb3.mono hd0.size))
     | ((with_reducible refine(e2 _).mono ?_);rintro _ w4⟨rfl,hb4⟩;have hS2:Below wr.heap.size wr w4:=hS1.trans (hb4.mono hS1.size)))
   simp only[aZ]
   go_wp2_with fail;go_ret;exact⟨cU (by rw[<-HE.out];exact dL mSi),hS2⟩
def kW(key msg:ByteArray):List UInt8:=2::(be8 key.size++key.data.toList++msg.data.toList++key.data.toList)
theorem Km(key msg:ByteArray)(hk:key.size<=100000000)(hm:msg.size<=100000000)(w:World) :
  Calls prog 120 #[Ob key,Ob msg] w fun e w'=>e=Oe (Ob ⟨(dg (kW key msg)).toArray⟩)/\Below w.heap.size w w':=by
 have cn:=kR key.size mOm w;have HJ:Hid (dR [⟨#[2]⟩,⟨(be8 key.size).toArray⟩,key,msg,key]=kW key msg):=aa (by simp[dR,kW]);go_enter func120,ntmps120;go_wp2_with fail;refine cn.mono ?_;rintro _ w2⟨rfl,hb⟩;clear cn;have hP:sW (w2.alloc (Of #[Ob ⟨#[2]⟩,Ob ⟨(be8 key.size).toArray⟩,Ob key,Ob msg,Ob key] 9)) w2.heap.size 0 [⟨#[2]⟩,⟨(be8 key.size).toArray⟩,key,msg,key]:=by
  intro k hk'
  match k,hk' with
  | 0,_=>exact⟨ae (heap_alloc_new w2 _) 0,by show 1<=100000000;omega⟩
  | 1,_=>exact⟨ae (heap_alloc_new w2 _) 1,by show 8<=100000000;omega⟩
  | 2,_=>exact⟨ae (heap_alloc_new w2 _) 2,hk⟩
  | 3,_=>exact⟨ae (heap_alloc_new w2 _) 3,hm⟩
  | 4,_=>exact⟨ae (heap_alloc_new w2 _) 4,hk⟩
 have co:=C3 w2.heap.size 0 5 [⟨#[2]⟩,⟨(be8 key.size).toArray⟩,key,msg,key] mSi _ hP
 rw[HJ.out] at co;have hba:=aq w2 (Of #[Ob ⟨#[2]⟩,Ob ⟨(be8 key.size).toArray⟩,Ob key,Ob msg,Ob key] 9);clear hP;go_wp2_with fail;refine co.mono ?_;rintro _ w3⟨rfl,hb3⟩;go_wp2_with fail;go_ret;exact⟨rfl,hb.trans ((hba.trans (hb3.mono hba.size)).mono hb.size)⟩
theorem xJ(key msg:ByteArray)(hk:key.size<=100000000)(hm:msg.size<=100000000)(w:World) :
  Calls prog 177 #[Ob key,Ob msg] w fun e w'=>e=Oe (Ob ⟨(dg (kW key msg)).toArray⟩)/\Below w.heap.size w w':=by
 have cn:=oT key.size mOm w;have HM:Hid (2::(be8 key.size++key.data.toList++msg.data.toList++key.data.toList)=kW key msg):=aa rfl;have hl8:(be8 key.size).length=8:=rfl;generalize be8 key.size=B at cn HM hl8;have l1:¬9223372036854775807<1+B.length:=mOm;have l2:¬9223372036854775807<1+B.length+key.size:=mOm;have l3:¬9223372036854775807<1+B.length+key.size+msg.size:=mOm;have l4:¬9223372036854775807<1+B.length+key.size+msg.size+key.size:=mOm;go_enter func177,ntmps177;go_wp2_with fail;refine cn.mono ?_;rintro _ w2⟨rfl,hb⟩;go_wp2_with fail;have hD:((⟨#[2]⟩:ByteArray)++⟨B.toArray⟩++key++msg++key).data.toList=kW key msg:=by rw[<-HM.out];simp
 have hS:((⟨#[2]⟩:ByteArray)++⟨B.toArray⟩++key++msg++key).size<=1000000000:=by have h1:=bF key;have h2:=bF msg;have h3:=bF ((⟨#[2]⟩:ByteArray)++⟨B.toArray⟩++key++msg++key);rw[hD,<-HM.out] at h3;simp only[bB,ap] at h3;omega
 have co:=rm _ hS w2
 rw[hD] at co;clear hD hS;refine co.mono ?_;rintro _ w3⟨rfl,hb3⟩;go_wp2_with fail;go_ret;exact⟨rfl,hb.trans (hb3.mono hb.size)⟩
end
section
open Go Go.Proofs Go.RowKit Go.Sort Go.Lib
abbrev Blk:=Bk ByteArray
def lu(x:Blk):List Value:=[N9 Oa x.b,N9 Oa x.s]
def pR(x:Blk):List Value:=[Ob x.d]
theorem NQ:RowT prog lu 2 293 262 where
 len _:=rfl
 one x u hu:=by simp[lu] at hu;rcases hu with rfl|rfl <;> rfl
 pos:=mDe
 und:=underlying262
 info:=by
  obtain⟨i0,hi,h1,h2,h3⟩:=info_parts (show(prog.info? 293).map (fun i=>(i.zero,i.size,i.bytes))=Og (Og (.agg #[N9 Oa 0,N9 Oa 0]),2,16) by kernel_rfl);exact⟨i0,_,hi,h1,h2,rfl,mOm⟩
theorem NR:RowT prog pR 1 9 37 where
 len _:=rfl
 one s u hu:=by simp[pR] at hu;subst hu;rfl
 pos:=mDe
 und:=underlying37
 info:=by
  obtain⟨i0,hi,h1,h2,h3⟩:=info_parts (show(prog.info? 9).map (fun i=>(i.zero,i.size,i.bytes))=Og (Og (Ob ⟨#[]⟩),1,16) by kernel_rfl);exact⟨i0,_,hi,h1,h2,rfl,mOm⟩
theorem Gh(b s:Nat)(hs:s<=1099511627776)(w:World):Calls prog 289 #[.agg #[N9 Oa b,N9 Oa s]] w fun x w'=>x=Oe (.agg #[N9 Oa b,N9 Oa (2*(s:Int))])/\ac w.heap.size w w':=by have a1:IntKind.i64.wrap (2*(s:Int))=2*(s:Int):=aH _ mOm;go_enter func289,ntmps289;go_wp2_with fail;exact bodyPost_ret (v:=.agg #[N9 Oa b,N9 Oa (2*(s:Int))]) (results_cell_row (P:=prog) results289 _ _ (w.heap.size+1) 293 #[N9 Oa b,N9 Oa (2*(s:Int))] (0,0) _ rfl (by have h:=heap_alloc_new (w.alloc (Of #[N9 Oa b,N9 Oa s] 293)) (Of #[N9 Oa b,N9 Oa (2*(s:Int))] 293);rw[World.size_alloc] at h;exact h) underlying293 rfl mKr) rfl ⟨rfl,((aj w _).alloc mSi _)⟩
def ot(b s b2 s2:Nat):Bool:=decide (b2=b+s/\s2=s/\b%(2*s)=0)
theorem Gc(b s b2 s2:Nat)(hb:b<=1099511627776)(hs:s<=1099511627776)(h0:0<s)(w:World):Calls prog 288 #[.agg #[N9 Oa b,N9 Oa s],.agg #[N9 Oa b2,N9 Oa s2]] w fun x w'=>x=Oe (.bool (ot b s b2 s2))/\ac w.heap.size w w':=by
 have a1:IntKind.i64.wrap (2*(s:Int))=2*(s:Int):=aH _ mOm;have a2:IntKind.i64.wrap ((b:Int)+(s:Int))=(b:Int)+(s:Int):=aH _ mOm;go_enter func288,ntmps288;go_wp2_with fail
 all_goals
  go_ret
  refine⟨cF ?_,(aj w _).alloc mSi _⟩;unfold ot
 .rename_i e1 e2
  rw[Bool.eq_iff_iff,beq_iff_eq,decide_eq_true_eq]
  have em:(b:Int)%(2*(s:Int))=((b%(2*s):Nat):Int):=by push_cast;rfl
  rw[em];omega
 .rename_i e1 e2
  symm
  rw[decide_eq_false_iff_not];rintro⟨h1,h2,-⟩;omega
 .rename_i e1
  symm
  rw[decide_eq_false_iff_not];rintro⟨h1,h2,-⟩;omega
end
section
open Go
def lP(md:Region.Mode)(ops:Array Oper):Array Bool->List (Nat×Bool)->Bool
 | listed,[]=>(Region.ready md ops listed).isEmpty
 | listed,(i,true)::σ=>(Region.ready md ops listed).contains i&&Region.free md ops listed i&&lP md ops (listed.setIfInBounds i true) σ
 | listed,(i,false)::σ=>(Region.ready md ops listed==[i])&&lP md ops (listed.setIfInBounds i true) σ
def aQ(P:Program)(ops:Array Oper)(Q:Exit->Act->World->Prop)(S:World->Prop):List (Nat×Bool)->Act->World->Prop
 | [],a,w=>Q .normal a w
 | (i,true)::σ,a,w=>∃oi v,ops[i]? = some oi/\YieldsIf P ops S oi v a/\aQ P ops Q S σ (a.put oi.dst v) w
 | (i,false)::σ,a,w=>wpOp P ops Q i (fun a' w'=>S w'/\aQ P ops Q S σ a' w') a w
section
variable {P:Program} {ops:Array Oper} {Q:Exit->Act->World->Prop} {md:Region.Mode} {S:World->Prop}
theorem pj(hs:Region.noSelect ops=true)(hQ:∀d c v a w,Q (.panic c) (Act.put a d v) w->Q (.panic c) a w) :
  ∀(σ:List (Nat×Bool))(listed:Array Bool)(fuel:Nat)(a:Act)(w:World),lP md ops listed σ=true->σ.length<=fuel->S w->aQ P ops Q S σ a w->wpAnyH P md ops Q S fuel listed a w
 | [],listed,fuel,a,w,hf,_,_,h=>by
  refine wpAnyH_done ?_ h fuel
  simpa [lP] using hf
 | (i,true)::σ,listed,fuel,a,w,hf,hl,hS,h=>by
  obtain⟨oi,v,hi,hy,h⟩:=h;simp only[lP,aX] at hf
  cases fuel with
  | zero=>simp at hl
  | succ fuel=>exact wpAnyH_take hi hs hf.1.2 hf.1.1 (fun c a w=>hQ _ c v a w) hy hS (pj hs hQ σ _ fuel _ w hf.2 (by simpa using hl) hS h)
 | (i,false)::σ,listed,fuel,a,w,hf,hl,hS,h=>by
  simp only[lP,aX,beq_iff_eq] at hf
  cases fuel with
  | zero=>simp at hl
  | succ fuel =>
   refine wpAnyH_all hf.1 mSi fun j hj=>?_
   obtain rfl:j=i:=by simpa using hj
   exact wpOp_mono (fun a' w' h'=>⟨h'.1,pj hs hQ σ _ fuel a' w' hf.2 (by simpa using hl) h'.1 h'.2⟩) h
theorem oA{K:Act->World->Prop}{id:Nat}{a:Act}{w:World}(σ:List (Nat×Bool))(hm:P.follows .mixedOrders=true)(hs:Region.noSelect ops=true)
  (hf:lP .any ops (ef ops.size false) σ=true) (hl:σ.length<=ops.size) (hS:S w.drew) (h:aQ P ops (aZ K) S σ a w.drew):(Code.region id ops true).wp P (aZ K) a w:=
 wp_region_held hm (pj hs (fun _ _ _ _ _ h=>h) σ _ _ a w.drew hf hl hS h)
theorem mR{i:Nat}{σ:List (Nat×Bool)}{a:Act}{w:World}(oi:Oper)(v:Value)(hi:ops[i]? = Og oi)(hw:Region.wanted oi (yielded ops a.tmps)=true)(hy:∀w,S w->(execOp a.eval oi).run P w=.ok (.value v) w)
  (h:aQ P ops Q S σ (a.put oi.dst v) w):aQ P ops Q S ((i,true)::σ) a w:=⟨oi,v,hi,.inl ⟨hw,hy⟩,h⟩
theorem Ia{i:Nat}{σ:List (Nat×Bool)}{a:Act}{w:World}(oi:Oper)(hi:ops[i]? = Og oi)(hw:Region.wanted oi (yielded ops a.tmps)=false)
  (h:aQ P ops Q S σ (a.put oi.dst undef) w):aQ P ops Q S ((i,true)::σ) a w:=⟨oi,undef,hi,.inr ⟨hw,rfl⟩,h⟩
theorem jF{i:Nat}{σ:List (Nat×Bool)}{a:Act}{w:World}(oi:Oper)(hi:ops[i]? = Og oi)(hw:Region.wanted oi (yielded ops a.tmps)=false)(hS:S w)
  (h:aQ P ops Q S σ (a.put oi.dst undef) w):aQ P ops Q S ((i,false)::σ) a w:=by
 unfold aQ wpOp;simp only[hi,hw,Bool.false_eq_true,if_false];exact⟨hS,h⟩
theorem ll{i:Nat}{σ:List (Nat×Bool)}{a:Act}{w:World}(oi:Oper)(hi:ops[i]? = Og oi)(hw:Region.wanted oi (yielded ops a.tmps)=true)
  (h:oi.wp P a w (fun a' w'=>S w'/\aQ P ops Q S σ a' w') Q):aQ P ops Q S ((i,false)::σ) a w:=by
 unfold aQ wpOp;simp only[hi,hw,if_true];exact .inl h
theorem uP{i:Nat}{σ:List (Nat×Bool)}{a:Act}{w:World}(oi:Oper)(hi:ops[i]? = Og oi)(hw:Region.wanted oi (yielded ops a.tmps)=true)(f:FuncId)(args:Array Operand)(tys:Array TypeId)
  (ho:oi.op=.call { callee:=.value (.func f),args:=args,argTypes:=tys }) (vs:List Value) (hvs:args.toList.map a.eval=vs) (hc:∀xs w,(callFunc f xs).run P w=.ok (.enter f xs) w) {R:Ending->World->Prop} (h:Calls P f vs.toArray w R)
  (hK:∀e w',R e w'->∃v,e=Oe v/\S w'/\aQ P ops Q S σ (a.put oi.dst v) w'):aQ P ops Q S ((i,false)::σ) a w:=
 ll oi hi hw (AH f args tys ho vs hvs hc h fun e w' hR=>let ⟨v,he,hS,h⟩:=hK e w' hR;⟨v,he,hS,h⟩)
end
theorem lQ{P:Program}{ops:Array Oper}{Q:Exit->Act->World->Prop}{S:World->Prop}{i:Nat}{σ:List (Nat×Bool)}{a:Act}{w:World}(oi:Oper)(v:Value)(w':World)(hi:ops[i]? = Og oi)(hw:Region.wanted oi (yielded ops a.tmps)=true)(hr:(execOp a.eval oi).run P w=.ok (.value v) w')
  (hS:S w') (h:aQ P ops Q S σ (a.put oi.dst v) w'):aQ P ops Q S ((i,false)::σ) a w:=
 ll oi hi hw (by unfold Oper.wp;rw[hr,Oper.upon_value];exact⟨hS,h⟩)
def B5:Code->Array Oper
 | .region _ ops _=>ops
 | _=>#[]
theorem K8{P:Program}{ops:Array Oper}{S:World->Prop}{K:Act->World->Prop}{id:Nat}{a:Act}{w:World}(t:List (Nat×Bool))(hS:S w.drew)(h:aQ P ops (aZ K) S t a w.drew)(hm:P.follows .mixedOrders=true:=by kernel_rfl)(hs:Region.noSelect ops=true:=by kernel_rfl)(hf:lP .any ops (ef ops.size false) t=true:=by kernel_rfl)(hl:t.length<=ops.size:=by decide):(Code.region id ops true).wp P (aZ K) a w:=oA t hm hs hf hl hS h
theorem aD{P:Program}{ops:Array Oper}{S:World->Prop}{K:Act->World->Prop}{id:Nat}{a:Act}{w:World}{Q:Exit->Act->World->Prop}(t:List (Nat×Bool))(hS:S w.drew)(h:aQ P ops (aZ K) S t a w.drew)(hm:P.follows .mixedOrders=true:=by kernel_rfl)(hs:Region.noSelect ops=true:=by kernel_rfl)(hf:lP .any ops (ef ops.size false) t=true:=by kernel_rfl)(hl:t.length<=ops.size:=by decide)(hk:∀a w,K a w->Q .normal a w:=by exact fun _ _ h=>h):(Code.region id ops true).wp P Q a w:=qb (oA t hm hs hf hl hS h) hk
theorem ak{P:Program}{ops:Array Oper}{Q:Exit->Act->World->Prop}{S:World->Prop}{i:Nat}{σ:List (Nat×Bool)}{a:Act}{w:World}{d}{o}{t}{p}{af}{g}{v:Value}{q:Prop}(h:q)(hi:ops[i]? = some (Oper.mk d o t p af g):=by rfl)(hw:Region.wanted (Oper.mk d o t p af g) (yielded ops a.tmps)=true:=by rfl)(hy:∀w,S w->(execOp a.eval (Oper.mk d o t p af g)).run P w=.ok (.value v) w:=by intro w hSw;(try dsimp only at hSw);go_simp;(try with_reducible rfl))(f:Wq q->aQ P ops Q S σ (Act.put a d v) w:=by intro hq;(try simp only[Act.put,List.setIfInBounds_toArray,List.set_cons_zero,List.set_cons_succ]);exact hq.1):aQ P ops Q S ((i,true)::σ) a w:=mR (Oper.mk d o t p af g) v hi hw hy (f ⟨h⟩)
theorem dw{P:Program}{ops:Array Oper}{Q:Exit->Act->World->Prop}{S:World->Prop}{i:Nat}{σ:List (Nat×Bool)}{a:Act}{w:World}{d}{o}{t}{p}{af}{g}{q:Prop}(h:q)(hi:ops[i]? = some (Oper.mk d o t p af g):=by rfl)(hw:Region.wanted (Oper.mk d o t p af g) (yielded ops a.tmps)=false:=by rfl)(f:Wq q->aQ P ops Q S σ (Act.put a d undef) w:=by intro hq;(try simp only[Act.put,List.setIfInBounds_toArray,List.set_cons_zero,List.set_cons_succ]);exact hq.1):aQ P ops Q S ((i,true)::σ) a w:=Ia (Oper.mk d o t p af g) hi hw (f ⟨h⟩)
theorem aJ{P:Program}{ops:Array Oper}{Q:Exit->Act->World->Prop}{S:World->Prop}{i:Nat}{σ:List (Nat×Bool)}{a:Act}{w:World}{d}{o}{t}{p}{af}{g}{args:Array Operand}{tys:Array TypeId}{vs:List Value}(f:FuncId)(hc:∀xs w,(callFunc f xs).run P w=.ok (.enter f xs) w){R:Ending->World->Prop}(h:Calls P f vs.toArray w R)
  (hK:∀e w',R e w'->∃v,e=Oe v/\S w'/\aQ P ops Q S σ (a.put d v) w') (hi:ops[i]? = Og (Oper.mk d o t p af g):=by rfl) (hw:Region.wanted (Oper.mk d o t p af g) (yielded ops a.tmps)=true:=by rfl) (ho:o=.call { callee:=.value (.func f),args:=args,argTypes:=tys }:=by rfl) (hvs:args.toList.map a.eval=vs:=by rfl):aQ P ops Q S ((i,false)::σ) a w:=uP (Oper.mk d o t p af g) hi hw f args tys ho vs hvs hc h hK
end
section
open Go
def ws(md:Region.Mode)(ops:Array Oper):Array Bool->List Nat->Bool
 | _,[]=>true
 | L,i::σ=>(Region.ready md ops L).contains i&&Region.free md ops L i&&ws md ops (L.setIfInBounds i true) σ
def mt(P:Program)(ops:Array Oper)(S:World->Prop):List Nat->Act->(Act->Prop)->Prop
 | [],a,K=>K a
 | i::σ,a,K=>∃oi v,ops[i]? = some oi/\YieldsIf P ops S oi v a/\mt P ops S σ (a.put oi.dst v) K
def Mh(md:Region.Mode)(ops:Array Oper)(Ls:List (Array Bool)):List (Array Bool):=(Ls.flatMap fun L=>(Region.ready md ops L).map fun i=>L.setIfInBounds i true).eraseDups
def BY(md:Region.Mode)(ops:Array Oper)(pre:Nat->Array Bool->Bool)(fin:Array Bool->Bool):Nat->List (Array Bool)->Bool
 | 0,Ls=>Ls.all fun L=>(Region.ready md ops L).isEmpty&&fin L
 | n+1,Ls=>(Ls.all fun L=>!(Region.ready md ops L).isEmpty&&(Region.ready md ops L).all fun i=>pre i L)&&BY md ops pre fin n (Mh md ops Ls)
section
variable {P:Program} {ops:Array Oper} {Q:Exit->Act->World->Prop} {md:Region.Mode} {S:World->Prop}
theorem xO(hs:Region.noSelect ops=true)(hQ:∀d c v a w,Q (.panic c) (Act.put a d v) w->Q (.panic c) a w) :
  ∀(σ:List Nat)(L:Array Bool)(fuel:Nat)(a:Act)(w:World),ws md ops L σ=true->S w->mt P ops S σ a (fun a'=>wpAnyH P md ops Q S fuel (σ.foldl (fun L i=>L.setIfInBounds i true) L) a' w)->wpAnyH P md ops Q S (fuel+σ.length) L a w
 | [],_,_,_,_,_,_,h=>h
 | i::σ,L,fuel,a,w,hf,hS,h=>by
  obtain⟨oi,v,hi,hy,h⟩:=h;simp only[ws,aX] at hf;exact wpAnyH_take hi hs hf.1.2 hf.1.1 (fun c a w=>hQ _ c v a w) hy hS (xO hs hQ σ _ fuel _ w hf.2 hS h)
theorem Ba{I:Array Bool->Act->World->Prop}{pre:Nat->Array Bool->Bool}{fin:Array Bool->Bool}
  (hstep:∀i L a w,pre i L=true->I L a w->wpOp P ops Q i (fun a' w'=>S w'/\I (L.setIfInBounds i true) a' w') a w) (hfin:∀L a w,fin L=true->I L a w->Q .normal a w) :
  ∀(n:Nat)(Ls:List (Array Bool))(L:Array Bool)(a:Act)(w:World),BY md ops pre fin n Ls=true->L∈Ls->I L a w->wpAnyH P md ops Q S n L a w
 | 0,Ls,L,a,w,hok,hL,hI=>by
  have h:=gh.1 hok L hL;simp only[aX,List.isEmpty_iff] at h;exact⟨h.1,hfin L a w h.2 hI⟩
 | n+1,Ls,L,a,w,hok,hL,hI=>by
  simp only[BY,aX] at hok;have h:=gh.1 hok.1 L hL;simp only[aX,Bool.not_eq_true',List.isEmpty_eq_false_iff,gh] at h;refine⟨fun h0=>absurd h0 h.1,fun i hi=>wpOp_mono (fun a' w' h'=>⟨h'.1,Ba hstep hfin n _ _ a' w' hok.2 ?_ h'.2⟩) (hstep i L a w (h.2 i hi) hI)⟩;exact List.mem_eraseDups.2 (List.mem_flatMap.2 ⟨L,hL,List.mem_map.2 ⟨i,hi,rfl⟩⟩)
theorem li{K:Act->World->Prop}{id:Nat}{a:Act}{w:World}(σ:List Nat)(n:Nat){I:Array Bool->Act->World->Prop}{pre:Nat->Array Bool->Bool}{fin:Array Bool->Bool}(hm:P.follows .mixedOrders=true)(hs:Region.noSelect ops=true)
  (hf:ws .any ops (ef ops.size false) σ=true) (hl:BY .any ops pre fin n [σ.foldl (fun L i=>L.setIfInBounds i true) (ef ops.size false)]=true) (hn:n+σ.length=ops.size) (hS:S w.drew)
  (hstep:∀i L a w,pre i L=true->I L a w->wpOp P ops (aZ K) i (fun a' w'=>S w'/\I (L.setIfInBounds i true) a' w') a w) (hfin:∀L a w,fin L=true->I L a w->K a w)
  (h:mt P ops S σ a (fun a'=>I (σ.foldl (fun L i=>L.setIfInBounds i true) (ef ops.size false)) a' w.drew)):(Code.region id ops true).wp P (aZ K) a w:=by
 have go:∀(σ':List Nat)(a:Act),mt P ops S σ' a (fun a'=>I (σ.foldl (fun L i=>L.setIfInBounds i true) (ef ops.size false)) a' w.drew)->mt P ops S σ' a (fun a'=>wpAnyH P .any ops (aZ K) S n (σ.foldl (fun L i=>L.setIfInBounds i true) (ef ops.size false)) a' w.drew):=by
  intro σ'
  induction σ' with
  | nil=>intro a h;exact Ba hstep hfin n _ _ a w.drew hl (bE.2 rfl) h
  | cons i σ' ih=>intro a ⟨oi,v,hi,hy,h⟩;exact⟨oi,v,hi,hy,ih _ h⟩
 have key:=xO (S:=S) (Q:=aZ K) hs (fun _ _ _ _ _ h=>h) σ (ef ops.size false) n a w.drew hf hS (go σ a h)
 rw[hn] at key;exact wp_region_held (S:=S) hm key
theorem cq{i:Nat}{σ:List Nat}{a:Act}{K:Act->Prop}(oi:Oper)(v:Value)(hi:ops[i]? = Og oi)(hw:Region.wanted oi (yielded ops a.tmps)=true)(hy:∀w,S w->(execOp a.eval oi).run P w=.ok (.value v) w)
  (h:mt P ops S σ (a.put oi.dst v) K):mt P ops S (i::σ) a K:=⟨oi,v,hi,.inl ⟨hw,hy⟩,h⟩
theorem vC{i:Nat}{K:Act->World->Prop}{a:Act}{w:World}(oi:Oper)(hi:ops[i]? = Og oi)(hw:Region.wanted oi (yielded ops a.tmps)=true)(h:oi.wp P a w K Q):wpOp P ops Q i K a w:=by unfold wpOp;simp only[hi,hw,if_true];exact .inl h
theorem yy{i:Nat}{K:Act->World->Prop}{a:Act}{w:World}(oi:Oper)(hi:ops[i]? = Og oi)(hw:Region.wanted oi (yielded ops a.tmps)=true)(f:FuncId)(args:Array Operand)(tys:Array TypeId)
  (ho:oi.op=.call { callee:=.value (.func f),args:=args,argTypes:=tys }) (vs:List Value) (hvs:args.toList.map a.eval=vs) (hc:∀xs w,(callFunc f xs).run P w=.ok (.enter f xs) w) {R:Ending->World->Prop} (h:Calls P f vs.toArray w R)
  (hK:∀e w',R e w'->∃v,e=Oe v/\K (a.put oi.dst v) w'):wpOp P ops Q i K a w:=
 vC oi hi hw (AH f args tys ho vs hvs hc h hK)
theorem fl{i:Nat}{K:Act->World->Prop}{a:Act}{w:World}(oi:Oper)(v:Value)(w':World)(hi:ops[i]? = Og oi)(hw:Region.wanted oi (yielded ops a.tmps)=true)(hr:(execOp a.eval oi).run P w=.ok (.value v) w')(h:K (a.put oi.dst v) w'):wpOp P ops Q i K a w:=
 vC oi hi hw (by unfold Oper.wp;rw[hr,Oper.upon_value];exact h)
end
theorem Jb(L:Array Bool)(i j:Nat):(L.setIfInBounds i true).getD j false=if i=j/\i<L.size then true else L.getD j false:=by
 simp only[Array.getD_eq_getD_getElem?,Array.getElem?_setIfInBounds];by_cases h:i=j
 .subst h;by_cases h2:i<L.size
  .simp[h2]
  .simp[h2]
 .simp[h]
theorem am{L:Array Bool}{i j:Nat}(h:i≠j:=by decide):(L.setIfInBounds i true).getD j false=L.getD j false:=by rw[Jb,if_neg (fun e=>h e.1)]
theorem fy{L:Array Bool}{i:Nat}(h:i<L.size:=by omega):(L.setIfInBounds i true).getD i false=true:=by rw[Jb,if_pos ⟨rfl,h⟩]
end
section
open Go Go.Proofs Go.RowKit Go.Sort Go.Lib
section
variable {P:Program} {ops:Array Oper} {Q:Exit->Act->World->Prop} {S:World->Prop}
theorem jK{α:Type}{enc:α->List Value}{k:Nat}{e t:TypeId}(R:RowT P enc k e t){i:Nat}{K:Act->World->Prop}{a:Act}{w:World}(oi:Oper)(hi:ops[i]? = Og oi)(hw:Region.wanted oi (yielded ops a.tmps)=true)(s x:Operand)(ho:oi.op=.call { callee:=.builtin .append,args:=#[s,x],argTypes:=#[t,t] })
  (base:Nat) (v xv:Value) (X Y:List α) (hs:a.eval s=v) (hxv:a.eval x=xv) (hown:w.ownsRow base e k v X.length (aN enc X)) (hx:ar enc w xv Y) (hl:X.length+Y.length<=1000000) (hb:base<=w.heap.size)
  (h:∀v' w',AppT enc k e w base v X Y v' w'->K (a.put oi.dst v') w'):wpOp P ops Q i K a w:=
 vC oi hi hw (uy R s x ho base v xv X Y hs hxv hown hx hl hb h)
theorem di{i:Nat}{K:Act->World->Prop}{a:Act}{w:World}(oi:Oper)(hi:ops[i]? = Og oi)(hw:Region.wanted oi (yielded ops a.tmps)=true)(ty:TypeId)(x y:Operand)(ho:oi.op=.store ty x y)
  (g:Nat) (cells:Array Value) (hx:a.eval x=Od (Og ⟨g,0,Oh⟩)) (hy:a.eval y=.agg cells) (t:TypeId) (old:Array Value) (hg:w.heap[g]? = Og (Of old t (0,0))) (hi2:(P.info? ty).map (·.size)=Og cells.size)
  (hold:old.size=cells.size) (h1:cells.all (·.oneCell')=true) (h:K (a.put oi.dst undef) (w.setRow g cells)):wpOp P ops Q i K a w:=
 vC oi hi hw (wp_store_row ty x y ho g cells hx hy t old hg hi2 hold h1 h)
theorem vE{i:Nat}{σ:List Nat}{a:Act}{K:Act->Prop}(oi:Oper)(hi:ops[i]? = Og oi)(hw:Region.wanted oi (yielded ops a.tmps)=true)(ty:TypeId)(x:Operand)(ho:oi.op=.load ty x)
  (b o:Nat) (hx:a.eval x=Od (Og ⟨b,o,Oh⟩)) (cs:List Value) (d:TypeDesc) (hS:∀w,S w->w.rangeAt b o cs) (hu:P.underlying ty=Og d) (hd:d.isRow=true) (hi2:(P.info? ty).map (·.size)=Og cs.length)
  (h:mt P ops S σ (a.put oi.dst (.agg cs.toArray)) K):mt P ops S (i::σ) a K:=⟨oi,_,hi,yieldsIf_load_mid hw ty x ho b o hx cs d hS hu hd hi2,h⟩
theorem vD{i:Nat}{K:Act->World->Prop}{a:Act}{w:World}(oi:Oper)(w':World)(hi:ops[i]? = Og oi)(hw:Region.wanted oi (yielded ops a.tmps)=true)(hr:(execOp a.eval oi).run P w=.ok .skip w')(h:K (a.put oi.dst undef) w'):wpOp P ops Q i K a w:=
 vC oi hi hw (by unfold Oper.wp;rw[hr,Oper.upon_skip];exact h)
theorem iO{i:Nat}{σ:List (Nat×Bool)}{a:Act}{w:World}(oi:Oper)(hi:ops[i]? = Og oi)(hw:Region.wanted oi (yielded ops a.tmps)=true)(ty:TypeId)(x:Operand)(ho:oi.op=.load ty x)
  (b o:Nat) (hx:a.eval x=Od (Og ⟨b,o,Oh⟩)) (cs:List Value) (d:TypeDesc) (hS:∀w,S w->w.rangeAt b o cs) (hu:P.underlying ty=Og d) (hd:d.isRow=true) (hi2:(P.info? ty).map (·.size)=Og cs.length)
  (h:aQ P ops Q S σ (a.put oi.dst (.agg cs.toArray)) w):aQ P ops Q S ((i,true)::σ) a w:=⟨oi,_,hi,yieldsIf_load_mid hw ty x ho b o hx cs d hS hu hd hi2,h⟩
end
theorem aF.grown{w w':World}{r:Option Nat}(h:w.grownBy w' r):aF (fun k=>r=Og k) w w':=⟨h.os,h.tape,h.output,h.size,fun k hk hs=>h.block k hk (fun e=>hs e.symm)⟩
theorem cN{α:Type}{enc:α->List Value}{w:World}{b n:Nat}{cs:Array Value}{t:TypeId}(h:w.heap[b]? = Og (Of cs t (0,0)))(L:List α)(hcs:cs.toList=aN enc L)(hn:L.length=n):ar enc w (Oc (Og ⟨b,0,Oh⟩) n n) L:=by
 subst hn;refine⟨_,_,rfl,az _,fun hn=>(by cases hn),fun _=>⟨_,_,rfl,aG h,fun j u hj=>?_⟩⟩;rw[bP,ae h];rw[<-hcs] at hj
 simpa using hj
theorem bK{S:Nat->Prop}{base k n:Nat}{e:TypeId}{v:Value}{xs:List Value}{w w':World}(h:w.ownsRow base e k v n xs)(hb:aF S w w')(hs:∀g,v.ownBlock=Og g->¬S g):w'.ownsRow base e k v n xs:=by
 obtain⟨hl,h⟩:=h;refine⟨hl,?_⟩;rcases h with h|⟨g,cap,cur,rfl,h1,h2,h3⟩
 .exact .inl h
 .exact .inr ⟨g,cap,cur,rfl,h1,hb.heap h2 (hs g rfl),h3⟩
def gU(fb:Nat)(bv dv:Value)(k:Nat):Prop:=k=fb\/bv.ownBlock=Og k\/dv.ownBlock=Og k
structure fu (fb:Nat) (bv dv:Value) (L:List Blk) (w:World):Prop where
 box:w.heap[fb]? = Og (Of #[bv,dv] 264 (0,0))
 bs:w.ownsRow (fb+1) 293 2 bv L.length (aN lu L)
 ds:w.ownsRow (fb+1) 9 1 dv L.length (aN pR L)
 few:L.length<=10000
 fit:∀x∈L,x.b<=1099511627776/\0<x.s/\x.s<=1099511627776/\x.d.size=8
theorem jU{α:Type}{w:World}{base k:Nat}{e:TypeId}{v:Value}{M:List α}{z:α}{xs:List Value}(h:w.ownsRow base e k v (M++[z]).length xs):∃g c,v=Oc (Og ⟨g,0,Oh⟩) (M++[z]).length c:=by
 obtain⟨-,(⟨-,h0⟩|⟨g,c,cur,rfl,-⟩)⟩:=h
 .simp at h0
 .exact⟨g,c,rfl⟩
theorem fu.apart{fb:Nat}{bv dv:Value}{L:List Blk}{w:World}(h:fu fb bv dv L w)(q:Nat)(h1:bv.ownBlock=Og q)(h2:dv.ownBlock=Og q):False:=by
 obtain⟨-,(⟨rfl,-⟩|⟨g,c,cur,rfl,-,hg,-⟩)⟩:=h.bs
 .cases h1
 .obtain⟨-,(⟨rfl,-⟩|⟨g2,c2,cur2,rfl,-,hg2,-⟩)⟩:=h.ds
  .cases h2
  .injection h1 with h1;injection h2 with h2;simp only at h1 h2;subst h1;subst h2;rw[hg] at hg2;injection hg2 with hg2;injection hg2 with _ e;exact absurd e mDe
theorem fu.buts{S:Nat->Prop}{fb:Nat}{bv dv:Value}{L:List Blk}{w w':World}(h:fu fb bv dv L w)(hb:aF S w w')(h0:¬S fb)(h1:∀k,bv.ownBlock=Og k->¬S k)(h2:∀k,dv.ownBlock=Og k->¬S k):fu fb bv dv L w':=
 ⟨hb.heap h.box h0,bK h.bs hb h1,bK h.ds hb h2,h.few,h.fit⟩
theorem aF.setRow(w:World)(xb:Nat)(cs:Array Value):aF (fun k=>k=xb) w (w.setRow xb cs):=by
 have hz:(w.setRow xb cs).heap.size=w.heap.size:=by simp[World.setRow]
 exact⟨rfl,rfl,rfl,mOm,fun k _ hs=>by simp[World.setRow,eJ,Ne.symm hs]⟩
end
section
open Go Go.Proofs Go.RowKit Go.Maps Go.Sort Go.Lib
section
variable {P:Program} {o:Oper} {a:Act} {w:World} {next:Act->World->Prop} {Q:Exit->Act->World->Prop} {l n:Nat}
theorem IW{row:String}{args:Array Value}{R:Value->World->Prop}(h:Rows P row args w R):RowsIn (Fence.wide.inRound l) n P row args w R:=
 fun c cs _=>let ⟨v,w',r,s⟩:=h c cs;⟨v,w',r,stepsIn_wide.2 s⟩
theorem GD(hd:∀c,o.op ≠ .defer c)(h:o.wp P a w next Q):o.wpIn (Fence.wide.inRound l) n P a w next Q:=by
 unfold Oper.wp at h;unfold Oper.wpIn;refine⟨fun _ _=>trivial,?_⟩;rw[Oper.semAt_plain _ _ _ hd];have hdp:(Fence.wide.inRound l).depth.isSome=true->1<=n:=fun hh=>by simp[Fence.wide] at hh
 generalize (execOp a.eval o).run P w=r at h |-
 cases r with
 | ok x w' =>
  cases x with
  | value v=>exact h
  | skip=>exact h
  | defer d=>exact h
  | enter f args=>exact⟨hdp,CallsIn.inRound l (callsIn_wide.2 h)⟩
  | row row args=>exact⟨hdp,IW h⟩
  | _=>exact(h:False).elim
 | halt hh w' =>
  cases hh with
  | panic v=>exact h
  | _=>exact(h:False).elim
theorem rk{ops:Array Oper}(hd:∀(j:Nat)(o:Oper),ops[j]? = Og o->∀c,o.op ≠ .defer c)(hQ:¬LetsOut Q):∀(is:List Nat)(a:Act)(w:World),wpOps P ops Q is a w->wpOpsIn (Fence.wide.inRound l) n P ops Q is a w
 | [],_,_,h=>h
 | i::is,a,w,h=>by
  unfold wpOps at h;unfold wpOpsIn
  cases ho:ops[i]? with
  | none =>
   rw[ho] at h;exact rk hd hQ is a w h
  | some o =>
   rw[ho] at h;dsimp only at h |-
   split at h
   .rename_i hw
    rw[if_pos hw]
    rcases h with h|h
    .exact GD (hd i o ho) (Oper.wp_mono (fun a w h=>rk hd hQ is a w h) h)
    .exact absurd h.2 hQ
   .rename_i hw
    rw[if_neg hw]
    exact⟨fun _ _=>trivial,rk hd hQ is _ w h⟩
theorem xE{F:Fence}{c:Code}{K:Act->World->Prop}(h:c.wpIn F n P (aZ K) a w)(hk:∀a w,K a w->Q .normal a w):c.wpIn F n P Q a w:=
 Code.wpIn_mono (fun e a w h=>by cases e <;> first|exact hk _ _ h|exact(h:False).elim) h
theorem uz{ops:Array Oper}{S:World->Prop}{K:Act->World->Prop}{id:Nat}{a:Act}{w:World}(σ:List (Nat×Bool))(hm:P.follows .mixedOrders=true)(hs:Region.noSelect ops=true)(hd:ops.all (fun o=>match o.op with | .defer _=>false|_=>true)=true)
  (hf:lP .any ops (ef ops.size false) σ=true) (hl:σ.length<=ops.size) (hS:S w.drew) (h:aQ P ops (aZ K) S σ a w.drew):(Code.region id ops true).wpIn (Fence.wide.inRound l) n P (aZ K) a w:=
 wpIn_region_draw fun t=>by
  simp only[Region.schedule,hm,Bool.true_or,if_true];refine rk (fun j o ho c e=>?_) (fun ⟨_,_,h⟩=>h) _ _ _ (wpAny_sound ops.size t _ a _ (wpAny_of_held _ _ _ _ (pj hs (fun _ _ _ _ _ h=>h) σ _ _ a w.drew hf hl hS h)));have hm2:=Array.all_eq_true.1 hd j (by rcases Array.getElem?_eq_some_iff.1 ho with ⟨h,_⟩;exact h);rcases Array.getElem?_eq_some_iff.1 ho with ⟨_,rfl⟩;rw[e] at hm2
  cases hm2
end
end
section
open Go Go.RowKit Go.Sort
def Bld(B b:Nat)(l:List UInt8)(w:World):Prop:=Lib.IsBuilderF 158 5 B b (jA l) w/\B<=w.heap.size
abbrev B7(b:Nat)(w w':World):Prop:=Lib.OthersKept 5 (Og b) w w'
theorem A7{b:Nat}{w w':World}(h:B7 b w w'){k:Nat}{cs:Array Value}{t:TypeId}{fz:Nat×Nat}(hk:w.heap[k]? = Og (Of cs t fz))(hb:k≠b)(ht:t≠5):w'.heap[k]? = Og (Of cs t fz):=
 h k _ hk (by simpa using hb) (by intro c f e;injection e with _ e2;exact ht e2)
theorem Bld.new(w:World):Bld w.heap.size w.heap.size [] (w.alloc (Of #[.pointer Oh,Oc Oh 0 0] 158)):=
 ⟨Lib.IsBuilderF.of (Lib.fresh_isBuilder _ _ w),mSi⟩
theorem Bld.lt{B b:Nat}{l:List UInt8}{w:World}(h:Bld B b l w):b<w.heap.size:=by
 rcases h.1 with h|h <;> exact h.lt
theorem yI{T e B b:Nat}{p:Value}{bs:List Value}{w w':World}(h:Lib.BuilderAtF T e B b p bs w)(hb:Below w.heap.size w w'):Lib.BuilderAtF T e B b p bs w':=by
 obtain⟨hB,v,hh,ho,hn⟩:=h;have hlt:b<w.heap.size:=by
  rcases jc b w.heap.size with h'|h'
  .exact h'
  .rw[gC h'] at hh;cases hh
 refine⟨hB,v,by rw[hb.block b hlt];exact hh,?_,hn⟩
 exact ho.kept (row:=Oh) ⟨hb.os,hb.tape,hb.output,hb.size,fun k hk _=>hb.block k hk⟩ (by cases hv:v.ownBlock <;> simp)
theorem Bld.below{B b:Nat}{l:List UInt8}{w w':World}(h:Bld B b l w)(hb:Below w.heap.size w w'):Bld B b l w':=
 ⟨h.1.elim (fun h=>.inl (yI h hb)) (fun h=>.inr (yI h hb)),aV h.2 hb.size⟩
theorem Bld.alloc{B b:Nat}{l:List UInt8}{w:World}(h:Bld B b l w)(o:Obj):Bld B b l (w.alloc o):=h.below ((Below.refl _ _).alloc (az _) _)
theorem BB(l m:List UInt8):jA l++Lib.strCells ⟨m.toArray⟩=jA (l++m):=by simp[jA,Lib.strCells]
theorem uE(B b:Nat)(l m:List UInt8)(w:World)(h:Bld B b l w)(hlen:l.length+m.length<=1000000000) :
  Calls prog 96 #[Od (Og ⟨b,0,Oh⟩),Ob ⟨m.toArray⟩] w fun e w'=>e=Oe (.tuple #[N9 Oa m.length,.nilIface])/\Bld B b (l++m) w'/\Below B w w'/\B7 b w w':=by
 have h1:(⟨m.toArray⟩:ByteArray).size=m.length:=by simp[ByteArray.size]
 have:=Tryz.Builder_WriteString_k B b (jA l) ⟨m.toArray⟩ w h.1 (by rw[Lib.byteCells_length,h1];omega) h.2;rw[h1] at this;exact this.mono fun e w' ⟨he,hb,hl,hk⟩=>⟨he,⟨.inr (by rw[<-BB];exact hb),aV h.2 hl.size⟩,hl,hk⟩
theorem yJ(B b:Nat)(l:List UInt8)(w:World)(h:Bld B b l w) :
  Calls prog 99 #[Od (Og ⟨b,0,Oh⟩)] w fun e w'=>e=Oe (Ob ⟨l.toArray⟩)/\Bld B b l w'/\Below B w w'/\B7 b w w':=
 (Tryz.Builder_String_any_k B b l w h.1 h.2).mono fun _e _w' ⟨he,hb,hl,hk⟩=>⟨he,⟨hb,aV h.2 hl.size⟩,hl,hk⟩
end
section
open Go Go.RowKit Go.Sort
structure Ent where
 id:Int
 school:Int
 student:Int
 kind:Int
 day:Int
 on:Int
 course:ByteArray
 credits:Int
 grade:Int
 ref:Int
 fro:Int
 programme:Int
 version:Int
 key:Int
 mark:ByteArray
def I64(n:Int):Prop:=-9223372036854775808<=n/\n<=9223372036854775807
structure Ent.Ok (e:Ent):Prop where
 id:I64 e.id
 school:I64 e.school
 student:I64 e.student
 kind:I64 e.kind
 day:I64 e.day
 on:I64 e.on
 credits:I64 e.credits
 grade:I64 e.grade
 ref:I64 e.ref
 fro:I64 e.fro
 programme:I64 e.programme
 version:I64 e.version
 key:I64 e.key
 course:e.course.size<=100000
 mark:e.mark.size<=100000
@[reducible] def Ent.val(e:Ent):Value:=.agg #[N9 Oa e.id,N9 Oa e.school,N9 Oa e.student,N9 Oa e.kind,N9 Oa e.day,N9 Oa e.on,Ob e.course,N9 Oa e.credits,N9 Oa e.grade,N9 Oa e.ref,N9 Oa e.fro,N9 Oa e.programme,N9 Oa e.version,N9 Oa e.key,Ob e.mark]
def Ent.ints1(e:Ent):List Int:=[e.id,e.school,e.student,e.kind,e.day,e.on]
def Ent.ints2(e:Ent):List Int:=[e.credits,e.grade,e.ref,e.fro,e.programme,e.version,e.key]
def gl(l:List Int):List UInt8:=l.flatMap dM
def Ent.body(e:Ent):List UInt8:=gl e.ints1++eW e.course++gl e.ints2
def Ent.code(e:Ent):List UInt8:=e.body++eW e.mark
theorem G6(l:List Int)(n:Int):gl (l++[n])=gl l++dM n:=by simp[gl]
theorem pu(l:List Int)(k:Nat)(h:k<l.length):gl (l.take (k+1))=gl (l.take k)++dM (l.getD k 0):=by rw[List.take_succ_eq_append_getElem h,G6,bi,ai h];rfl
theorem kK(l:List Int)(h:∀n∈l,I64 n):(gl l).length<=22*l.length:=by
 induction l with
 | nil=>simp[gl]
 | cons a l ih =>
  have h1:=gg a (h a mSi).1 (h a mSi).2;have h2:=ih (fun n hn=>h n (by simp[hn]));simp only[gl,List.flatMap_cons,ap,bB] at *;omega
theorem pV{l:List Int}{k:Nat}(h:k<l.length):l.getD k 0∈l:=by rw[bi,ai h];simp
theorem Ent.Ok.ints1{e:Ent}(h:e.Ok):∀n∈e.ints1,I64 n:=by
 obtain⟨a,b,c,d,f,g,_⟩:=h;simp only[Ent.ints1,bM,eZ,or_false];rintro n (rfl|rfl|rfl|rfl|rfl|rfl) <;> assumption
theorem Ent.Ok.ints2{e:Ent}(h:e.Ok):∀n∈e.ints2,I64 n:=by
 obtain⟨_,_,_,_,_,_,a,b,c,d,f,g,i,_⟩:=h;simp only[Ent.ints2,bM,eZ,or_false];rintro n (rfl|rfl|rfl|rfl|rfl|rfl|rfl) <;> assumption
def eT(w:World)(b:Nat)(l:List Int):Prop:=w.heap[b]? = Og (Of (l.map (Value.int Oa)).toArray 3 (0,0))
theorem eT.cell{w:World}{b:Nat}{l:List Int}(h:eT w b l){k:Nat}(hk:k<l.length):w.cell? ⟨b,k,Oh⟩=Og (N9 Oa (l.getD k 0)):=by unfold eT at h;rw[ae h];simp[bi,ai hk]
theorem eT.kept{w w':World}{b c:Nat}{l:List Int}(h:eT w b l)(hk:B7 c w w')(hb:b≠c):eT w' b l:=A7 hk h hb mDe
theorem av{w:World}{b:Nat}{o:Obj}(h:w.heap[b]? = Og o):b<w.heap.size:=by
 rcases jc b w.heap.size with h'|h'
 .exact h'
 .rw[gC h'] at h;cases h
theorem eT.below{w w':World}{b:Nat}{l:List Int}(h:eT w b l)(hk:Below w.heap.size w w'):eT w' b l:=by unfold eT at *;rw[hk.block b (av h)];exact h
def Ent.cells(e:Ent):Array Value:=#[N9 Oa e.id,N9 Oa e.school,N9 Oa e.student,N9 Oa e.kind,N9 Oa e.day,N9 Oa e.on,Ob e.course,N9 Oa e.credits,N9 Oa e.grade,N9 Oa e.ref,N9 Oa e.fro,N9 Oa e.programme,N9 Oa e.version,N9 Oa e.key,Ob e.mark]
def aM(w:World)(b:Nat)(e:Ent):Prop:=w.heap[b]? = Og (Of e.cells 67 (0,0))
theorem aM.kept{w w':World}{b c:Nat}{e:Ent}(h:aM w b e)(hk:B7 c w w')(hb:b≠c):aM w' b e:=A7 hk h hb mDe
theorem aM.below{w w':World}{b:Nat}{e:Ent}(h:aM w b e)(hk:Below w.heap.size w w'):aM w' b e:=by unfold aM at *;rw[hk.block b (av h)];exact h
theorem aM.cell{w:World}{b:Nat}{e:Ent}(h:aM w b e)(k:Nat):w.cell? ⟨b,k,Oh⟩=e.cells[k]?:=ae h k
theorem size_alloc(w:World)(o:Obj):(w.alloc o).heap.size=w.heap.size+1:=mSi
theorem eT.new(w:World)(l:List Int):eT (w.alloc (Of (l.map (Value.int Oa)).toArray 3)) w.heap.size l:=heap_alloc_new w _
theorem aM.new(w:World)(e:Ent):aM (w.alloc (Of e.cells 67)) w.heap.size e:=heap_alloc_new w _
theorem Jq(e:Ent)(h:e.Ok)(w:World)(ht:Tabs w) :
  Calls prog 42 #[e.val] w fun x w'=>x=Oe (Ob ⟨e.body.toArray⟩)/\Below w.heap.size w w':=by
 have hl1:=kK e.ints1 h.ints1;have hl2:=ia e.course (by have:=h.course;omega);have hl3:e.ints1.length=6:=rfl;have hcs:=h.course;go_enter func42,ntmps42;go_wp2
 go_loopw [22] (fun i wr=>∃k:Nat,k<=6/\i=N9 Oa k/\Bld (w.heap.size+1) (w.heap.size+1) (gl (e.ints1.take k)) wr/\Below w.heap.size w wr/\aM wr w.heap.size e/\eT wr (w.heap.size+1+1) e.ints1) (fun i _=>6-(intOf i).toNat)
 case atStart =>
  refine⟨0,mOm,rfl,?_,?_,?_,?_⟩
  .have:=(Bld.new (w.alloc (Of e.cells 67))).alloc (Of (e.ints1.map (Value.int Oa)).toArray 3);rw[size_alloc] at this;exact this
  .exact(((Below.refl _ _).alloc (az _) _).alloc mSi _).alloc (by simp;omega) _
  .exact((aM.new w e).below (aq _ _)).below (aq _ _)
  .have:=eT.new ((w.alloc (Of e.cells 67)).alloc (Of #[.pointer Oh,Oc Oh 0 0] 158)) e.ints1;rw[size_alloc,size_alloc] at this;exact this
 case round =>
  obtain⟨k,hk,rfl,hbl,hbe,hbox,hrow⟩:=hrel;by_cases hlt:k<6
  .have hc:=hrow.cell (k:=k) (by simpa [Ent.ints1] using hlt);have hi:=h.ints1 _ (pV (l:=e.ints1) (k:=k) (by simpa [Ent.ints1] using hlt));have htr:=ht.below hbe;have hlen:=kK (e.ints1.take k) (fun n hn=>h.ints1 n (cu hn));have hlen2:(e.ints1.take k).length<=6:=by simp[Ent.ints1];omega
   have H:=aa (pu e.ints1 k (by simpa [Ent.ints1] using hlt));generalize e.ints1.getD k 0=n at hc hi H;have hwl:=gg n hi.1 hi.2;go_wp2_with fail;refine(lr n _ hi.1 hi.2 htr).mono ?_;rintro x w1⟨rfl,hb1⟩;go_wp2_with fail;refine(uE _ _ _ (dM n) _ (hbl.below hb1) mOm).mono ?_;rintro x w2⟨rfl,hbl2,hb2,hk2⟩;go_wp2_with fail
   go_roundw
   case rel=>exact⟨k+1,mOm,by go_num,by rw[H.out];exact hbl2,(hbe.trans (hb1.mono hbe.size)).trans (hb2.mono mOm),(hbox.below hb1).kept hk2 mOm,(hrow.below hb1).kept hk2 mOm⟩
   case measure=>simp[intOf];omega
  .obtain rfl:k=6:=mOm;have e6:e.ints1.take 6=e.ints1:=rfl;rw[e6] at hbl;clear hlt hk e6;have hc6:wr.cell? ⟨w.heap.size,6,Oh⟩=Og (Ob e.course):=hbox.cell 6;go_wp2_with fail;refine(qj e.course _ mOm (ht.below hbe)).mono ?_;rintro x w1⟨rfl,hb1⟩;go_wp2_with fail;refine(uE _ _ _ (eW e.course) _ (hbl.below hb1) mOm).mono ?_;rintro x w2⟨rfl,hbl2,hb2,hk2⟩;have hbe2:=(hbe.trans (hb1.mono hbe.size)).trans (hb2.mono mOm);have hbox2:=(hbox.below hb1).kept hk2 mOm;clear hbl hb1 hb2 hk2 hbe hbox hrow hc6;have hc7:w2.cell? ⟨w.heap.size,7,Oh⟩=Og (N9 Oa e.credits):=hbox2.cell 7;have hc8:w2.cell? ⟨w.heap.size,8,Oh⟩=Og (N9 Oa e.grade):=hbox2.cell 8;have hc9:w2.cell? ⟨w.heap.size,9,Oh⟩=Og (N9 Oa e.ref):=hbox2.cell 9;have hc10:w2.cell? ⟨w.heap.size,10,Oh⟩=Og (N9 Oa e.fro):=hbox2.cell 10;have hc11:w2.cell? ⟨w.heap.size,11,Oh⟩=Og (N9 Oa e.programme):=hbox2.cell 11;have hc12:w2.cell? ⟨w.heap.size,12,Oh⟩=Og (N9 Oa e.version):=hbox2.cell 12;have hc13:w2.cell? ⟨w.heap.size,13,Oh⟩=Og (N9 Oa e.key):=hbox2.cell 13;go_wp2_with fail;clear hc7 hc8 hc9 hc10 hc11 hc12 hc13
   go_loopw [50] (fun i wr=>∃k:Nat,k<=7/\i=N9 Oa k/\Bld (w.heap.size+1) (w.heap.size+1) (gl e.ints1++eW e.course++gl (e.ints2.take k)) wr/\Below w.heap.size w wr/\eT wr w2.heap.size e.ints2) (fun i _=>7-(intOf i).toNat)
   case atStart =>
    refine⟨0,mOm,rfl,?_,hbe2.trans ((aq _ _).mono hbe2.size),eT.new w2 e.ints2⟩;have:=hbl2.alloc (Of (e.ints2.map (Value.int Oa)).toArray 3);have e0:gl (e.ints2.take 0)=[]:=rfl;rw[e0,List.append_nil];exact this
   case round =>
    have hlt2:=hbl2.lt;clear hbe2 hbox2 hbl2;obtain⟨k,hk,rfl,hbl,hbe,hrow⟩:=hrel;have hl4:e.ints2.length=7:=rfl;by_cases hlt:k<7
    .have hc:=hrow.cell (k:=k) (by simpa [Ent.ints2] using hlt);have hi:=h.ints2 _ (pV (l:=e.ints2) (k:=k) (by simpa [Ent.ints2] using hlt));have htr:=ht.below hbe;have hlen:=kK (e.ints2.take k) (fun n hn=>h.ints2 n (cu hn));have hlen2:(e.ints2.take k).length<=7:=by simp[Ent.ints2];omega
     have H:=aa (pu e.ints2 k (by simpa [Ent.ints2] using hlt));generalize e.ints2.getD k 0=n at hc hi H;have hwl:=gg n hi.1 hi.2;go_wp2_with fail;refine(lr n _ hi.1 hi.2 htr).mono ?_;rintro x w1⟨rfl,hb1⟩;go_wp2_with fail;refine(uE _ _ _ (dM n) _ (hbl.below hb1) (by simp only[ap];omega)).mono ?_;rintro x w3⟨rfl,hbl3,hb3,hk3⟩;go_wp2_with fail
     go_roundw
     case rel=>exact⟨k+1,mOm,by go_num,by rw[H.out,<-List.append_assoc];exact hbl3,(hbe.trans (hb1.mono hbe.size)).trans (hb3.mono mOm),(hrow.below hb1).kept hk3 mOm⟩
     case measure=>simp[intOf];omega
    .obtain rfl:k=7:=mOm;have e7:e.ints2.take 7=e.ints2:=rfl;rw[e7] at hbl;clear hlt hk e7 hrow;go_wp2_with fail;refine(yJ _ _ _ _ hbl).mono ?_;rintro x w3⟨rfl,_,hb3,_⟩;go_wp2_with fail;go_ret;exact⟨cU (by simp[Ent.body]),hbe.trans (hb3.mono mOm)⟩
theorem pL(e:Ent)(h:e.Ok):e.body.length<=e.course.size+400:=by have hl1:=kK e.ints1 h.ints1;have hl2:=ia e.course (by have:=h.course;omega);have hl3:=kK e.ints2 h.ints2;have h1:e.ints1.length=6:=rfl;have h2:e.ints2.length=7:=rfl;simp only[Ent.body,ap];omega
def EntAt(w:World)(b o:Nat)(e:Ent):Prop:=w.rangeAt b o e.cells.toList
theorem aM.at_{w:World}{b:Nat}{e:Ent}(h:aM w b e):EntAt w b 0 e:=by intro j v hv;rw[bP,h.cell j];simpa using hv
theorem EntAt.below{w w':World}{B b o:Nat}{e:Ent}(h:EntAt w b o e)(hb:Below B w w')(hB:b<B):EntAt w' b o e:=fun j v hv=>by
 rw[hb.cell (p:=⟨b,o+j,Oh⟩) hB];exact h j v hv
theorem EntAt.cell{w:World}{b o:Nat}{e:Ent}(h:EntAt w b o e)(j:Nat){v:Value}(hv:e.cells.toList[j]? = Og v):w.cell? ⟨b,o+j,Oh⟩=Og v:=h j v hv
theorem JQ(w:World)(b o:Nat)(e:Ent)(h:EntAt w b o e):(Instr.loadAt 67 (Od (Og ⟨b,o,Oh⟩))).run prog w=.ok e.val w:=
 run_loadAt_mid w b o 67 e.cells.toList _ h underlying67 rfl mKr
theorem aM.of_cells{b:Nat}{e:Ent}{W w w':World}(h:Below W.heap.size W w/\∀j,w.cell? ⟨b,j,Oh⟩=e.cells[j]?)(hb:Below w.heap.size w w'):Below W.heap.size W w'/\∀j,w'.cell? ⟨b,j,Oh⟩=e.cells[j]?:=by
 have h0:w.cell? ⟨b,0,Oh⟩=Og (N9 Oa e.id):=h.2 0;have hlt:b<w.heap.size:=al w _ h0;exact⟨h.1.trans (hb.mono h.1.size),fun j=>(hb.cell (p:=⟨b,j,Oh⟩) hlt).trans (h.2 j)⟩
attribute [local go_sem] Ent.cells
end
section
open Go Go.RowKit Go.Sort
def eqE(a b:Ent):Bool:=decide (a.id=b.id)&&(decide (a.school=b.school)&&(decide (a.student=b.student)&&(decide (a.kind=b.kind)&&(decide (a.day=b.day)&&(decide (a.on=b.on)&&(decide (a.course.toList=b.course.toList)&&(decide (a.credits=b.credits)&&(decide (a.grade=b.grade)&&(decide (a.ref=b.ref)&&(decide (a.fro=b.fro)&&(decide (a.programme=b.programme)&&(decide (a.version=b.version)&&(decide (a.key=b.key)&&(decide (a.mark.toList=b.mark.toList)))))))))))))))
theorem ba_toList{a b:ByteArray}:a.toList=b.toList↔a=b:=by
 rw[ByteArray.toList_eq,ByteArray.toList_eq];constructor
 .intro h;cases a;cases b;simp_all
 .rintro rfl;rfl
theorem Ah(a b:Ent):eqE a b=true↔a=b:=by
 simp only[eqE,aX,decide_eq_true_eq,ba_toList];constructor
 .rintro⟨h1,h2,h3,h4,h5,h6,h7,h8,h9,h10,h11,h12,h13,h14,h15⟩;cases a;cases b;simp_all
 .rintro rfl;simp
theorem MQ(p:Prop)[Decidable p](q:Bool)(w:World):Result.ok (decide p&&q) w=if p then Result.ok q w else Result.ok false w:=by by_cases h:p <;> simp[h]
theorem MS(p:Prop)[Decidable p](w:World):Result.ok (decide p) w=if p then Result.ok true w else Result.ok false w:=by by_cases h:p <;> simp[h]
theorem Cw(a b:Ent)(w:World):(Op.equalIn 10000 67 a.val b.val).run prog w=.ok (eqE a b) w:=by
 have hp:prog.stoodInHeld 67=false:=mKr;rw[show(10000:Nat)=9999+1 from rfl,run_equalIn_agg w _ _ _ _ mKr hp];unfold Program.fieldsOf;rw[underlying67]
 go_simp
 simp only[eqE,MQ];rw[MS]
theorem EK(a b:Ent)(w:World):(binOp .eql 67 a.val b.val).run prog w=.ok (.bool (eqE a b)) w:=by rw[run_eql_struct,Cw];rfl
end
section
open Go Go.RowKit Go.Sort Go.Lib
def ig(r:Nat):Bool:=(decide (r<65)||decide (90<r))&&(decide (r<48)||decide (57<r))
def jt(l:List UInt8):Bool:=decide (1<=l.length)&&decide (l.length<=8)&&l.all (fun c=>!ig c.toNat)
theorem zT(r:Nat)(h:128<=r):ig r=true:=by have a:90<r:=mOm;have b:57<r:=mOm;simp[ig,a,b]
theorem LJ(s:ByteArray)(f pos:Nat)(hf:s.size<=f+pos):decide (jm ig true s f pos<0)=(s.data.toList.drop pos).all (fun c=>!ig c.toNat):=by
 induction f generalizing pos with
 | zero =>
  have h1:s.data.toList.drop pos=[]:=fm (by rw[<-bF];omega);rw[h1];simp[jm]
 | succ f ih =>
  by_cases hp:pos<s.size
  .have hl:pos<s.data.toList.length:=by rw[<-bF];exact hp
   have hg:s.data.toList[pos]'hl=s[pos]'hp:=rfl;rw[List.drop_eq_getElem_cons hl,List.all_cons,hg];unfold jm;rw[if_pos hp];by_cases ha:(s[pos]'hp).toNat<128
   .rw[decode_ascii s pos hp ha];by_cases hw:ig (s[pos]'hp).toNat=true
    .rw[if_pos hw,hw];simp
    .have hw':ig (s[pos]'hp).toNat=false:=by simpa using hw
     rw[if_neg hw,hw',ih (pos+1) mOm];simp
   .have hd:=decode_high s pos hp mOm;have hw:=zT _ hd.1;have hw2:=zT (s[pos]'hp).toNat mOm;rw[if_pos hw,hw2];simp
  .have h1:s.data.toList.drop pos=[]:=fm (by rw[<-bF];omega);rw[h1,Lib.idxFuncFrom_end _ _ _ _ _ hp];rfl
theorem GE(w:World):PredAt prog 263 #[] encR ig w:=fun W r _=>by
 unfold FnGives;by_cases h1:r<65 <;> by_cases h2:90<r <;> by_cases h3:r<48 <;> by_cases h4:57<r
 all_goals first|(exfalso;omega)|skip
 all_goals
  go_enter func263,ntmps263
  go_wp2
  all_goals first|(exfalso;omega)|(go_ret;exact⟨by simp[ig,h1,h2,h3,h4] <;> omega,0,rfl⟩)
theorem JE(s:ByteArray)(w:World)(hs:s.size<=9223372036854775807) :
  Calls prog 236 #[Ob s] w fun e w'=>e=Oe (.bool (jt s.data.toList))/\Below w.heap.size w w':=by
 have hC:=fun W=>Tryz.strings_IndexFunc 263 #[] (enters_of func263 mKr rfl) ig s W (GE W)
 have hi:=LJ s s.size 0 mOm;have hsz:=bF s;have hz:Lib.idxFunc ig true s=jm ig true s s.size 0:=rfl;rw[<-hz,mv] at hi;clear hz;by_cases h0:s.data.toList=[]
 .have hr:jt s.data.toList=false:=by simp[jt,h0]
  have h1:(!s.toList.isEmpty)=false:=by rw[ByteArray.toList_eq];simp[h0]
  have h2:s.toList=[]:=by rw[ByteArray.toList_eq];exact h0
  have H:=aa hr;clear hr hC hi h0 hsz;go_enter func236,ntmps236;go_wp2_with fail;go_ret;exact⟨cF H.out.symm,Below.refl _ _⟩
 .have h1:(!s.toList.isEmpty)=true:=by rw[ByteArray.toList_eq];simpa using h0
  have h2:¬s.toList=[]:=by rw[ByteArray.toList_eq];exact h0
  by_cases h8:s.size<=8
  .have hr:jt s.data.toList=s.data.toList.all (fun c=>!ig c.toNat):=by
    have:1<=s.data.toList.length:=by rcases h:s.data.toList with _|⟨a,l⟩;exact absurd h h0;simp
    have h9:s.data.toList.length<=8:=mOm;simp only[jt,this,h9,decide_true,Bool.true_and]
   rw[<-hi] at hr
   have H:=aa hr;clear hr hi h0 hsz;go_enter func236,ntmps236;go_wp2_with fail;refine(hC _).mono ?_;rintro x w1⟨rfl,hb⟩;go_wp2_with fail;go_ret;exact⟨cF H.out.symm,hb⟩
  .have hr:jt s.data.toList=false:=by
    have h9:¬s.data.toList.length<=8:=mOm;simp only[jt,h9,decide_false,Bool.and_false,Bool.false_and]
   have H:=aa hr
   clear hr hC hi h0 hsz;go_enter func236,ntmps236;go_wp2_with fail;go_ret;exact⟨cF H.out.symm,Below.refl _ _⟩
theorem Jm(l:List UInt8)(k:Nat)(h:k<l.length)(p:UInt8->Bool):(l.take (k+1)).all p=((l.take k).all p&&p l[k]):=by rw[List.take_succ_eq_append_getElem h,List.all_append];simp
theorem Ef(s:ByteArray)(w:World)(hs:s.size<=9223372036854775807) :
    Calls prog 180 #[Ob s] w fun e w'=>e=Oe (.bool (jt s.data.toList))/\w=w':=by
  go_enter func180,ntmps180;go_wp2_with fail
  go_loop [3] (fun i=>∃k:Nat,k<=s.size/\i=N9 Oa k/\Hid ((s.data.toList.take k).all (fun c=>!ig c.toNat)=true)) (fun i=>s.size-(intOf i).toNat)
  case atStart=>exact⟨0,aP _,rfl,rfl⟩
  case round =>
    obtain⟨k,hk,rfl,H⟩:=hrel;by_cases hlt:k<s.size
    · have hl:k<s.data.toList.length:=by rw[<-bF];exact hlt
      have hts:=Jm s.data.toList k hl (fun c=>!ig c.toNat)
      have hg:s.data.toList[k]'hl=s[k]'hlt:=rfl;rw[hg] at hts;by_cases h1:(65:Int)<=(s[k].toNat:Int) <;> by_cases h2:(s[k].toNat:Int)<=90 <;> by_cases h3:(48:Int)<=(s[k].toNat:Int) <;> by_cases h4:(s[k].toNat:Int)<=57
      all_goals first|(exfalso;omega)|skip
      all_goals
        have h1':s[k].toNat<65↔¬(65:Int)<=(s[k].toNat:Int):=mOm
        have h2':90<s[k].toNat↔¬(s[k].toNat:Int)<=90:=mOm;have h3':s[k].toNat<48↔¬(48:Int)<=(s[k].toNat:Int):=mOm;have h4':57<s[k].toNat↔¬(s[k].toNat:Int)<=57:=mOm;have hw:ig s[k].toNat=((decide (s[k].toNat<65)||decide (90<s[k].toNat))&&(decide (s[k].toNat<48)||decide (57<s[k].toNat))):=rfl;simp only[h1',h2',h3',h4',h1,h2,h3,h4,not_true_eq_false,not_false_eq_true,decide_true,decide_false,Bool.or_true,Bool.or_false,Bool.and_true,Bool.and_false] at hw;have HT:=aa hts;have HW:=aa hw;clear hts hw h1' h2' h3' h4' hg;go_wp2_with fail
        first
          | (go_round
             case rel=>exact⟨k+1,mOm,by go_num,by unfold Hid;rw[HT.out,HW.out,H.out];rfl⟩
             case measure=>simp[intOf];omega)
          | (go_ret
             exact⟨cF (by
               have hall:s.data.toList.all (fun c=>!ig c.toNat)=false:=by
                 have h5:(s.data.toList.take (k+1)).all (fun c=>!ig c.toNat)=false:=by rw[HT.out,HW.out];simp
                 rw[<-Bool.not_eq_true,gh] at h5 |-;exact fun h6=>h5 fun x hx=>h6 x (cu hx)
               simp[jt,hall]),rfl⟩)
    · obtain rfl:k=s.size:=mOm
      have e1:s.data.toList.take s.size=s.data.toList:=by rw[bF];exact aT
      rw[e1] at H;clear hlt e1 hk;by_cases hs1:1<=s.size
      · have hs1':(1:Int)<=(s.size:Int):=mOm
        go_wp2_with fail
        go_ret;exact⟨cF (by simp only[jt,H.out,<-bF];simp[hs1];omega),rfl⟩
      · have hs0:s.data.toList=[]:=by rw[<-List.length_eq_zero_iff,<-bF];omega
        have HS:=aa hs0
        clear hs0;go_wp2_with fail;go_ret;exact⟨cF (by rw[HS.out];rfl),rfl⟩
end
section
namespace Wr
open Go Go.RowKit Go.Sort Go.Lib
theorem aq(w:World)(o:Obj):ac w.heap.size w (w.alloc o):=(Below.refl _ _).alloc (az _) _
theorem Ff{W w w':World}(h:ac W.heap.size W w)(hb:ac w.heap.size w w'):ac W.heap.size W w':=h.trans (hb.mono h.size)
theorem mv0{W W':World}{b o:Nat}{v:Value}(hb:ac W.heap.size W W')(h:W.cell? ⟨b,o,Oh⟩=Og v):W'.cell? ⟨b,o,Oh⟩=Og v:=
 ((ql hb).1 _ _ (al W _ h)).trans h
def gl(l:List Int):List UInt8:=91::(l.flatMap dM++[93])
end Wr
end
section
namespace Wr
open Go Go.Lib
theorem oo{m:Nat}(h:¬m<10):decDigits m=decDigits (m / 10)++[UInt8.ofNat (48+m%10)]:=by rw[decDigits,dif_neg h]
theorem ra(k:Nat)(h:k<10):(UInt8.ofNat (48+k)).toNat=48+k:=by rw[UInt8.toNat_ofNat'];omega
theorem oZ(m:Nat):∀c∈decDigits m,48<=c.toNat/\c.toNat<=57:=by
 induction m using Nat.strongRecOn with
 | _ m ih =>
  by_cases h:m<10
  .rw[decDigits,dif_pos h];intro c hc;simp only[bE] at hc;subst hc;rw[ra m h];omega
  .rw[oo h];intro c hc;rcases List.mem_append.1 hc with hc|hc
   .exact ih (m / 10) mOm c hc
   .simp only[bE] at hc;subst hc;rw[ra _ mOm];omega
theorem pP(m:Nat):decDigits m ≠ []:=by intro h;have:=decDigits_length m;rw[h] at this;have:=nDigits_pos m;simp at *;omega
theorem EU:∀(l:List UInt8)(a u:Nat)(c:UInt8),parseUint10 a l=.ok u->parseUint10 a (l++[c])=parseUint10 u [c]
 | [],a,u,c,h=>by simp only[parseUint10] at h;injection h with h;rw[h];rfl
 | b::l,a,u,c,h=>by
  simp only[parseUint10,eY] at h |-
  split at h
  .rename_i h1
   rw[if_pos h1]
   split at h
   .cases h
   .rename_i h2
    rw[if_neg h2]
    split at h
    .cases h
    .rename_i h3
     rw[if_neg h3]
     exact EU l _ u c h
  .cases h
theorem IM(m:Nat)(hm:m<18446744073709551616):parseUint10 0 (decDigits m)=.ok m:=by
 induction m using Nat.strongRecOn with
 | _ m ih =>
  by_cases h:m<10
  .rw[decDigits,dif_pos h];have e:=ra m h;simp only[parseUint10];rw[if_pos mOm,if_neg mOm,if_neg mOm,e]
   congr 1;omega
  .rw[oo h,EU _ _ _ _ (ih (m / 10) mOm mOm)];have e:=ra (m%10) mOm;simp only[parseUint10];rw[if_pos mOm,if_neg mOm,if_neg mOm,e]
   congr 1;omega
theorem JJ(m:Nat):∃c r,decDigits m=c::r/\48<=c.toNat/\c.toNat<=57:=by
 cases h:decDigits m with
 | nil=>exact absurd h (pP m)
 | cons c r=>exact⟨c,r,rfl,oZ m c (by rw[h];simp)⟩
theorem kQ(n:Int):(0<=n/\itoa n=decDigits n.toNat)\/(n<0/\itoa n=45::decDigits (-n).toNat):=by
 by_cases h:n<0
 .refine .inr ⟨h,?_⟩;unfold itoa;rw[if_pos h];congr 2;omega
 .refine .inl ⟨mOm,?_⟩;unfold itoa;rw[if_neg h]
theorem atoi_itoa(n:Int)(h : -9223372036854775808<=n/\n<=9223372036854775807):atoiAll (itoa n)=.ok n:=by
 rcases kQ n with⟨h0,e⟩|⟨h0,e⟩
 .rw[e];obtain⟨c,r,hc,c1,c2⟩:=JJ n.toNat;have hp:=IM n.toNat mOm;have hne:=pP n.toNat;have hm:parseMag (decDigits n.toNat)=.ok n.toNat:=by unfold parseMag;rw[if_neg hne];exact hp
  rw[hc] at hm |-;unfold atoiAll;simp only;rw[if_neg mOm,hm];simp only;rw[if_neg mOm,if_neg mOm,if_neg mOm]
  congr 1;omega
 .rw[e];have hp:=IM (-n).toNat mOm;have hne:=pP (-n).toNat;have hm:parseMag (decDigits (-n).toNat)=.ok (-n).toNat:=by unfold parseMag;rw[if_neg hne];exact hp
  unfold atoiAll;simp only;rw[if_pos mDe,hm];simp only;rw[if_neg mSi,if_neg mOm,if_pos mDe]
  congr 1;omega
end Wr
end
section
open Go Go.RowKit
theorem ES(n m:Int):(n.tmod m+m)%m=n%m:=by
 rw[Int.add_emod_right];by_cases hn:0<=n
 .rw[bN hn,Int.emod_emod_of_dvd _ (Int.dvd_refl m)]
 .have h1:n.tmod m = -((-n)%m):=by
   rw[<-bN mOm,Int.neg_tmod,Int.neg_neg]
  have h2:=Int.emod_add_mul_ediv n m
  have h3:=Int.tmod_add_mul_tdiv n m;have e:n.tmod m=n%m+m*(n / m-n.tdiv m):=by rw[Int.mul_sub];omega
  rw[e,Int.add_mul_emod_self_left,Int.emod_emod_of_dvd _ (Int.dvd_refl m)]
def cQ(n lo hi:Int):Bool:=decide (n<lo)||decide (hi<n)
theorem ir(n lo hi:Int)(w:World) :
  Calls prog 232 #[N9 Oa n,N9 Oa lo,N9 Oa hi] w fun e w'=>e=Oe (.bool (cQ n lo hi))/\w=w':=by
 by_cases h:n<lo
 .have hd:decide (n<lo)=true:=by simpa using h
  go_enter func232,ntmps232;go_wp2
  go_ret;exact⟨cF (by simp[cQ,hd]),rfl⟩
 .have hd:decide (n<lo)=false:=by simpa using h
  go_enter func232,ntmps232;go_wp2
  go_ret;exact⟨cF (by simp[cQ,hd]),rfl⟩
def au(n lo hi:Int):Bool:=decide (lo<=n)&&decide (n<=hi)
theorem iq(n lo hi:Int)(w:World) :
  Calls prog 115 #[N9 Oa n,N9 Oa lo,N9 Oa hi] w fun e w'=>e=Oe (.bool (au n lo hi))/\w=w':=by
 by_cases h:lo<=n
 .have hd:decide (lo<=n)=true:=by simpa using h
  go_enter func115,ntmps115;go_wp2
  go_ret;exact⟨cF (by simp[au,hd]),rfl⟩
 .have hd:decide (lo<=n)=false:=by simpa using h
  go_enter func115,ntmps115;go_wp2
  go_ret;exact⟨cF (by simp[au,hd]),rfl⟩
def da(k:Int):Int:=if k=1\/k=8 then 32 else if k=2 then 96 else if k=3 then 7 else if k=4 then 12 else if k=5\/k=6\/k=9 then 8 else if k=7 then 16 else 0
theorem EP(k:Int)(w:World) :
  Calls prog 234 #[N9 Oa k] w fun e w'=>e=Oe (N9 Oa (da k))/\w=w':=by
 go_enter func234,ntmps234;go_wp2
 all_goals go_ret
 all_goals exact⟨aL (by simp_all [da]),rfl⟩
end
section
open Go Go.RowKit Go.Sort Go.Lib
def eU(B:Nat)(A:Option Addr)(n:Nat)(w:World):Prop:=
 n<=1000000000000000000/\∀j,j<n->∃b off z,A=Og ⟨b,off,Oh⟩/\b<B/\w.cell? ⟨b,off+j,Oh⟩=Og (N9 Oa z)/\I64 z
theorem eU.below{B:Nat}{A:Option Addr}{n:Nat}{w w':World}(h:eU B A n w)(hb:Below B w w'):eU B A n w':=
 ⟨h.1,fun j hj=>by
  obtain⟨b,off,z,hA,hB,hc,hz⟩:=h.2 j hj
  exact⟨b,off,z,hA,hB,(hb.cell (p:=⟨b,off+j,Oh⟩) hB).trans hc,hz⟩⟩
def pI(w:World)(d:Nat)(A:Option Addr)(n c k:Nat):Prop:=w.heap[d]? = Og (Of #[Oc A n c,N9 Oa k] 144 (0,0))
def Only(d:Nat)(w w':World):Prop:=w.grownBy w' (Og d)
end
section
open Go
theorem uQ{ops:Array Oper}{Q:Exit->Act->World->Prop}{S:World->Prop}{i:Nat}{σ:List (Nat×Bool)}{a:Act}{w:World}(oi:Oper)(e:Ent)(b:Nat)(hi:ops[i]? = Og oi)(hw:Region.wanted oi (yielded ops a.tmps)=true)
  (p:Operand) (ho:oi.op=.load 67 p) (hp:a.eval p=Od (Og ⟨b,0,Oh⟩)) (hc:∀w,S w->∀j,w.cell? ⟨b,j,Oh⟩=e.cells[j]?)
  (h:aQ prog ops Q S σ (a.put oi.dst e.val) w):aQ prog ops Q S ((i,true)::σ) a w:=
 mR oi e.val hi hw (fun w hS=>by
  have hat:EntAt w b 0 e:=fun j v hv=>by rw[bP,hc w hS j];simpa using hv
  have hl:=JQ w b 0 e hat;unfold execOp
  simp only[ho,hp,Sem.run_bind,Sem.run_pure,hl,Result.andThen_ok]) h
