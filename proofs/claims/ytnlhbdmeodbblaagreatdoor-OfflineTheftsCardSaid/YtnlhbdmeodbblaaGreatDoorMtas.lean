/- Lemmas. -/
import Derived.Test.YtnlhbdmeodbblaaGreatDoorMtai
import Derived.Test.YtnlhbdmeodbblaaGreatDoorMtal
import Derived.Test.YtnlhbdmeodbblaaGreatDoorMtad
set_option maxRecDepth 100000
set_option maxHeartbeats 16000000
set_option linter.all false
open Go.Proofs.Tryz
open Go.Lib renaming cell_of_heap->ae,hid->aa
open List renaming getD_eq_getElem?_getD->bi,getElem?_eq_getElem->ai,getElem_mem->bA,mem_append->bI,toArray->aK
open Nat renaming le_refl->az,lt_of_lt_of_le->ax,zero_le->aP
open Go.RowKit renaming Below->ac
open Go.World renaming ownsRow_nil->dX,setCell->dP
open Go.Ending renaming returned->Oe
open Go.IntKind renaming i64->Oa
open Go.Obj renaming cells->Of
open Go.Value renaming int->N9,string->Ob,slice->Oc,pointer->Od
open Option renaming some->Og,none->Oh
namespace Go.Proofs.YtnlhbdmeodbblaaGreatDoor
open Go Go.RowKit Go.Sort Go.Lib
section
theorem J8:(prog.info? 3).map (fun i=>(i.zero,i.size,i.bytes))=Og (Og (N9 Oa 0),1,8):=mKr
def Jl(es:List Ent)(st kd:Int)(w:World)(x:Ending)(w':World):Prop:=
 ∃r:Int,x=Oe (N9 Oa r)/\(r=0\/∃e∈es,e.student=st/\e.kind=kd/\r=e.id)/\Below w.heap.size w w'
theorem Kt(base:Nat)(v:Value)(es:List Ent)(st kd:Int)(n:Nat)(w:World)(h:Ents base w v es)(hl:es.length<=1000)(hn:n<=1000) :
  Calls prog 83 #[v,N9 Oa st,N9 Oa kd,N9 Oa n] w (Jl es st kd w):=by
 obtain⟨i0,hi,hz0,hz1,hz2⟩:=info_parts J8;obtain⟨A,c,rfl,hA⟩:=h.form;go_enter func83,ntmps83;go_wp2_with fail
 go_loopw [9,10] (fun v i wr=>∃(k:Nat) (ids:List Int),k<=es.length/\i=N9 Oa k/\ids.length<=k/\(∀r∈ids,∃e∈es,e.student=st/\e.kind=kd/\r=e.id)/\wr.ownsRow w.heap.size 3 1 v ids.length (ids.map (Value.int Oa))/\Below w.heap.size w wr) (fun _ i _=>es.length-(intOf i).toNat)
 case atStart=>exact⟨0,[],aP _,rfl,az _,mSi,dX _ _ _ _,Below.refl _ _⟩
 case round =>
  obtain⟨k,ids,hk,rfl,hkl,hids,hown,hbe⟩:=hrel;by_cases hlt:k<es.length
  .obtain⟨g,rfl,hg0,hg1,hat⟩:=hA mOm;have he:es[k]? = Og es[k]:=ai hlt;have hm:es[k]∈es:=bA hlt;generalize es[k]=e at he hm;have hat1:=(hat k e he).below hbe hg1;have c0:wr.cell? ⟨g,k*15,Oh⟩=Og (N9 Oa e.id):=hat1.cell 0 rfl;have c2:wr.cell? ⟨g,k*15+2,Oh⟩=Og (N9 Oa e.student):=hat1.cell 2 rfl;have c3:wr.cell? ⟨g,k*15+3,Oh⟩=Og (N9 Oa e.kind):=hat1.cell 3 rfl;clear hA hat hat1 h;by_cases h1:e.student=st
   .by_cases h2:e.kind=kd
    .have hnew:∀j u,[Value.int Oa e.id][j]? = Og u->(wr.alloc (Of #[N9 Oa e.id] 3)).cell? ((⟨wr.heap.size,0,Oh⟩:Addr).add j)=Og u:=by
      intro j u hj
      match j,hj with
      | 0,hj=>simp at hj;subst hj;exact ae (heap_alloc_new wr _) 0
     have hown1:=hown.alloc (Of #[N9 Oa e.id] 3)
     go_wp2_with (at_builtin;go_must (refine wpList_append_own _ rfl (.tmp 33) (.tmp 39) 22 rfl w.heap.size 3 i0 (N9 Oa 0) 1 8 underlying22 hi hz0 hz1 hz2 rfl mDe _ _ _ rfl hown1 ⟨wr.heap.size,0,Oh⟩ 1 1 [N9 Oa e.id] rfl rfl hnew (by simp[Value.oneCell']) (by unfold maxLen;omega) mOm (by simp;have:=hbe.size;omega) ?_);intro v' w1 hown' hgrow _);have hbe':ac w.heap.size w w1:=(hbe.trans ((aq wr _).mono hbe.size)).grown hgrow (by simp;have:=hbe.size;omega) (fun q hq=>(hown.lt q hq).1);clear hown hown1 hgrow hnew;go_wp2_with fail
     go_roundw
     case rel =>
      refine⟨k+1,ids++[e.id],mOm,by go_num,by simp;omega,?_,by simpa using hown',hbe'⟩;intro r hr;rcases bI.1 hr with hr|hr
      .exact hids r hr
      .simp at hr;exact⟨e,hm,h1,h2,hr⟩
     case measure=>simp[intOf];omega
    .go_wp2_with fail
     go_roundw
     case rel=>exact⟨k+1,ids,mOm,by go_num,mOm,hids,hown,hbe⟩
     case measure=>simp[intOf];omega
   .go_wp2_with fail
    go_roundw
    case rel=>exact⟨k+1,ids,mOm,by go_num,mOm,hids,hown,hbe⟩
    case measure=>simp[intOf];omega
  .obtain rfl:k=es.length:=mOm;clear hA h hlt hk;obtain⟨A',c',rfl,hA'⟩:∃A' c',u9=Oc A' ids.length c'/\(0<ids.length->∃g,A'=Og ⟨g,0,Oh⟩/\∀j,j<ids.length->wr.cell? ⟨g,j,Oh⟩=Og (N9 Oa (ids.getD j 0))):=by
    rcases hown.2 with ⟨hv,h0⟩|⟨g,cap,cur,hv,hb,hg,hn',hc',hs,htake⟩
    .exact⟨Oh,0,by rw[hv,h0],fun hp=>by omega⟩
    .refine⟨Og ⟨g,0,Oh⟩,cap,hv,fun _=>⟨g,rfl,fun j hj=>?_⟩⟩;have h1:(ids.map (Value.int Oa))[j]? = Og (N9 Oa (ids.getD j 0)):=by simp[bi,ai hj]
     rw[<-htake,List.getElem?_take] at h1;rw[ae hg]
     split at h1
     .simpa using h1
     .cases h1
   clear hown
   by_cases h0:ids.length=0
   .have h0':(((ids.length:Nat):Int)==0)=true:=by simp[h0]
    clear hA';go_wp2_with fail;go_ret;exact⟨0,rfl,.inl rfl,hbe⟩
   .have h0':(((ids.length:Nat):Int)==0)=false:=by simp[h0]
    have hlt:n%ids.length<ids.length:=Nat.mod_lt _ mOm;obtain⟨g,rfl,hcell⟩:=hA' mOm;have hc:=hcell _ hlt;have hmem:=hids _ (pV hlt);generalize ids.getD (n%ids.length) 0=r at hc hmem;clear hcell hA' hids;go_wp2_with fail;go_ret;exact⟨r,rfl,.inr hmem,hbe⟩
def Mo(es:List Ent)(w:World)(x:Ending)(w':World):Prop:=
 ∃r:Int,x=Oe (N9 Oa r)/\(r=0\/∃e∈es,r=e.on)/\w=w'
theorem MT(base:Nat)(v:Value)(es:List Ent)(id:Int)(w:World)(h:Ents base w v es)(hl:es.length<=1000) :
  Calls prog 85 #[v,N9 Oa id] w (Mo es w):=by
 obtain⟨A,c,rfl,hA⟩:=h.form;clear h;go_enter func85,ntmps85;go_wp2_with fail
 go_loop [5] (fun i=>∃k:Nat,k<=es.length/\i=N9 Oa k) (fun i=>es.length-(intOf i).toNat)
 case atStart=>exact⟨0,aP _,rfl⟩
 case round =>
  obtain⟨k,hk,rfl⟩:=hrel;by_cases hlt:k<es.length
  .obtain⟨g,rfl,hg0,hg1,hat⟩:=hA mOm;have he:es[k]? = Og es[k]:=ai hlt;have hm:es[k]∈es:=bA hlt;generalize es[k]=e at he hm;have hat1:=hat k e he;have c0:w.cell? ⟨g,k*15,Oh⟩=Og (N9 Oa e.id):=hat1.cell 0 rfl;have c5:w.cell? ⟨g,k*15+5,Oh⟩=Og (N9 Oa e.on):=hat1.cell 5 rfl;clear hA hat hat1;by_cases h1:e.id=id
   .go_wp2_with fail;go_ret;exact⟨e.on,rfl,.inr ⟨e,hm,rfl⟩,rfl⟩
   .go_wp2_with fail
    go_round
    case rel=>exact⟨k+1,mOm,by go_num⟩
    case measure=>simp[intOf];omega
  .obtain rfl:k=es.length:=mOm;clear hA hlt hk;go_wp2_with fail;go_ret;exact⟨0,rfl,.inl rfl,rfl⟩
end
section
attribute [local go_sem] Ent.cells
theorem Hl(w:World) :
  Calls prog 84 #[] w fun x w'=>x=Oe (Oc (Og ⟨w.heap.size,0,Oh⟩) 6 6)/\w'=w.alloc (Of #[Ob ⟨#[65,49]⟩,Ob ⟨#[66,49]⟩,Ob ⟨#[66,50]⟩,Ob ⟨#[67,49]⟩,Ob ⟨#[68,49]⟩,Ob ⟨#[69,57]⟩] 9):=by
 go_enter func84,ntmps84;go_wp2_with fail;go_ret;exact⟨rfl,rfl⟩
def Nj(d:Nat)(A:Option Addr)(n c:Nat)(m:Nat)(w:World)(x:Ending)(w':World):Prop:=
 ∃v:Nat,x=Oe (N9 Oa v)/\v<m/\BX d A n c w'/\Only d w w'
theorem mV(d:Nat)(A:Option Addr)(n c:Nat)(m:Nat)(w:World)(hm:0<m)(hm2:m<=1000000)(hd:BX d A n c w)(hi:eU d A n w) :
  Calls prog 82 #[Od (Og ⟨d,0,Oh⟩),N9 Oa m] w (Nj d A n c m w):=by
 obtain⟨k,hk,hd⟩:=hd;refine(Kn d d A n c k m w mOm mOm hd (az _) hk hi).mono ?_;rintro x w'⟨v,rfl,h0,h1,⟨k',hk',hd'⟩,ho⟩;exact⟨v.toNat,by rw[Int.toNat_of_nonneg h0],mOm,⟨k',hk',hd'⟩,ho⟩
theorem MR.below'{w wr w':World}{A:Option Addr}{n c:Nat}{v:Value}{es:List Ent}(h:MR w A n c v es wr)(hb:ac wr.heap.size wr w'):MR w A n c v es w':=by obtain⟨k,hk,hda⟩:=h.draw;refine⟨h.below.trans (hb.mono h.below.size),h.ents.below hb,⟨k,hk,?_⟩,h.ints.below (hb.mono h.below.size)⟩;unfold pI at *;rw[hb.block _ (av hda)];exact hda
def kindL:List Int:=[1,3,3,3,3,3,4,5,6,7,8,9,2,3,8]
theorem D0(k:Nat)(h:k<15):1<=kindL.getD k 0/\kindL.getD k 0<=9:=by have:∀i:Fin 15,1<=kindL.getD i.1 0/\kindL.getD i.1 0<=9:=mDe;exact this ⟨k,h⟩
def Ni(w:World)(A:Option Addr)(n c:Nat)(v:Value)(es:List Ent)(eb:Nat)(m:Nat)(W:World)(x:Ending)(w':World):Prop:=
 ∃g:Nat,x=Oe (N9 Oa g)/\g<m/\MR w A n c v es w'/\(∀o,W.heap[eb]? = Og o->w'.heap[eb]? = Og o)/\eb<w'.heap.size
theorem LV(w:World)(A:Option Addr)(n c:Nat)(v:Value)(es:List Ent)(eb:Nat)(m:Nat)(W:World)(hm:0<m)(hm2:m<=1000000)(heb:w.heap.size<eb)(hlt:eb<W.heap.size)(hM:MR w A n c v es W) :
  Calls prog 82 #[Od (Og ⟨w.heap.size,0,Oh⟩),N9 Oa m] W (Ni w A n c v es eb m W):=by
 refine(mV w.heap.size A n c m _ hm hm2 hM.draw hM.ints).mono ?_;rintro x w'⟨g,rfl,hg,hd,ho⟩;have hb:=ho.block eb hlt (by simp;omega);exact⟨g,rfl,hg,hM.only hd ho,fun o h=>hb.trans h,ax hlt ho.size⟩
def Nk(w:World)(A:Option Addr)(n c:Nat)(v:Value)(es:List Ent)(eb:Nat)(W:World)(x:Ending)(w':World):Prop:=
 ∃r:Int,x=Oe (N9 Oa r)/\(r=0\/1<=r/\r<=es.length)/\MR w A n c v es w'/\(∀o,W.heap[eb]? = Og o->w'.heap[eb]? = Og o)/\eb<w'.heap.size
theorem LR{sc:Int}{es:List Ent}(hok:fQ sc es){e:Ent}(he:e∈es):1<=e.id/\e.id<=es.length:=by obtain⟨i,hi,rfl⟩:=List.getElem_of_mem he;have:=hok.ids i _ (ai hi);omega
theorem LZ(w:World)(A:Option Addr)(n c:Nat)(v:Value)(es:List Ent)(eb:Nat)(st kd sc:Int)(nn:Nat)(W:World)(hnn:nn<=1000)(hok:fQ sc es)(hlt:eb<W.heap.size)(hM:MR w A n c v es W) :
  Calls prog 83 #[v,N9 Oa st,N9 Oa kd,N9 Oa nn] W (Nk w A n c v es eb W):=by
 refine(Kt w.heap.size v es st kd nn W hM.ents (by have:=hok.len;omega) hnn).mono ?_;rintro x w'⟨r,rfl,hr,hb⟩;refine⟨r,rfl,?_,hM.below' hb,fun o h=>(hb.block eb hlt).trans h,ax hlt hb.size⟩;rcases hr with rfl|⟨e,he,_,_,rfl⟩
 .exact .inl rfl
 .exact .inr (LR hok he)
def OnM(day:Int)(W:World)(x:Ending)(w':World):Prop:=∃r:Int,x=Oe (N9 Oa r)/\0<=r/\r<=day/\W=w'
theorem Nz(w:World)(A:Option Addr)(n c:Nat)(v:Value)(es:List Ent)(id sc day:Int)(W:World)(hday:0<=day)(hd:∀e∈es,e.day<=day)(hok:fQ sc es)(hM:MR w A n c v es W) :
  Calls prog 85 #[v,N9 Oa id] W (OnM day W):=by
 refine(MT w.heap.size v es id W hM.ents (by have:=hok.len;omega)).mono ?_;rintro x w'⟨r,rfl,hr,rfl⟩;refine⟨r,rfl,?_⟩;rcases hr with rfl|⟨e,he,rfl⟩
 .exact⟨mOm,hday,rfl⟩
 .have h1:=(hok.good e he).on;have h2:=hd e he;exact⟨h1.1,mOm,rfl⟩
theorem NT(a b D:Int)(ha:a<=D)(hb:b<=D)(hD:0<=D):∃m,0<=m/\m<=D/\∀(ts:Array TypeId)(t:TypeId)(W:World),(Builtin.max_ ts t #[N9 Oa 0,N9 Oa a,N9 Oa b]).run prog W=.ok (N9 Oa m) W:=
 ⟨if b>(if a>0 then a else 0) then b else (if a>0 then a else 0),by split <;> split <;> omega,by split <;> split <;> omega,fun ts t W=>run_max_int3 W ts t _ _ _ 0 a b⟩
theorem JP:(prog.info? 67).map (fun i=>(i.zero,i.size,i.bytes))=Og (Og (.agg #[N9 Oa 0,N9 Oa 0,N9 Oa 0,N9 Oa 0,N9 Oa 0,N9 Oa 0,Ob ⟨#[]⟩,N9 Oa 0,N9 Oa 0,N9 Oa 0,N9 Oa 0,N9 Oa 0,N9 Oa 0,N9 Oa 0,Ob ⟨#[]⟩]),15,136):=mKr
theorem BH(es:List Ent)(e:Ent):iN es++e.cells.toList=iN (es++[e]):=by simp[iN]
theorem Lj{ops:Array Oper}{rest:List Oper}{o:Oper}{a:Act}{W:World}{Q:Exit->Act->World->Prop}(hgd:o.guard=Oh)(s x:Operand)
  (ho:o.op=.call { callee:=.builtin .append,args:=#[s,x],argTypes:=#[34,34] }) (base:Nat) (v:Value) (es:List Ent) (hs:a.eval s=v) (hown:Ents base W v es) (e:Ent)
  (b:Nat) (hb:W.heap.size=b) (hx:a.eval x=Oc (Og ⟨b,0,Oh⟩) 1 1) (hlen:es.length<=100000) (hbase:base<=W.heap.size)
  (h:∀v' w',Ents base w' v' (es++[e])->(W.alloc (Of e.cells 67)).grownBy w' v.ownBlock->wpList prog ops Q rest (a.put o.dst v') w'):wpList prog ops Q (o::rest) a (W.alloc (Of e.cells 67)):=by
 subst hb;obtain⟨i0,hi,hz0,hz1,hz2⟩:=info_parts JP;refine wpList_append_own _ hgd s x 34 ho base 67 i0 _ 15 136 underlying34 hi hz0 hz1 hz2 rfl mDe v es.length (iN es) hs (World.ownsRow.alloc hown _) ⟨W.heap.size,0,Oh⟩ 1 1 e.cells.toList hx rfl ?_ ?_ (by unfold maxLen;omega) mOm (by simp;omega) ?_
 .intro j u hj;have hadd:(⟨W.heap.size,0,Oh⟩:Addr).add j=⟨W.heap.size,j,Oh⟩:=by unfold Addr.add;split <;> simp_all
  rw[hadd,ae (heap_alloc_new W _)]
  simpa using hj
 .intro u hu;simp[Ent.cells] at hu;rcases hu with rfl|rfl|rfl|rfl|rfl|rfl|rfl|rfl|rfl|rfl|rfl|rfl|rfl|rfl|rfl <;> rfl
 .intro v' w' ho hg _;refine h v' w' ?_ hg;unfold Ents;rw[<-BH,List.length_append];exact ho
theorem SwOk.three{kd sc n rf fr pg vs:Int}(h:SwOk kd sc n rf fr pg vs)(hk:kd=1\/kd=2\/kd=3\/kd=4\/kd=5\/kd=6\/kd=7\/kd=8\/kd=9)(hr:iJ kd=true)(h0:rf=0):SwB 3 sc n rf fr pg vs:=by
 unfold SwOk at h;unfold SwB;rcases hk with rfl|rfl|rfl|rfl|rfl|rfl|rfl|rfl|rfl <;> simp[iJ] at hr h |- <;> omega
def xT(kd gr:Int):Prop:=if kd=3\/kd=4 then 0<=gr/\gr<=100 else gr=0
def RD(w:World)(A:Option Addr)(n c:Nat)(v:Value)(es:List Ent)(eb:Nat)(id sc st day:Int)(wx:World):Prop:=
 ∃kd co cr gr rf fr pg vs,aM wx eb (mkE id sc st kd day 0 co cr gr rf fr pg vs)/\MR w A n c v es wx/\SwB kd sc es.length rf fr pg vs/\zW kd co cr/\xT kd gr/\eb<wx.heap.size
theorem LG(day:Int){kd sc n rf fr pg vs cr gr:Int}{co:ByteArray}(h:SwB kd sc n rf fr pg vs)(hc:zW kd co cr)(hg:xT kd gr) :
  ∀id st on:Int,id=n+1/\id<=24->1<=st/\st<=3->0<=on/\on<=day/\day<=600/\0<=n->Good sc (mkE id sc st kd day on co cr gr rf fr pg vs):=by
 intro id st on h1 h2 h3;obtain⟨hk,hr,hf,hp,hv⟩:=h;unfold xT at hg;refine⟨by simp only[mkE];omega,rfl,h2,hk,by simp only[mkE];omega,by simp only[mkE];omega,rfl,rfl,hc,hg,?_,hf,hp,hv⟩;have e:(iJ kd=true)↔(kd=4\/kd=5\/kd=6\/kd=9):=by simp[iJ,or_assoc]
 simp only[e] at hr;simp only[mkE];by_cases hx:kd=4\/kd=5\/kd=6\/kd=9
 .rw[if_pos hx] at hr
  first|(rw[if_pos hx];omega)|(simp only[hx,if_true];omega)
 .rw[if_neg hx] at hr
  first|(rw[if_neg hx];exact hr)|(simp only[hx,if_false];exact hr)
def Jj(sc:Int)(w:World)(x:Ending)(w':World):Prop:=∃v es,x=Oe v/\fQ sc es/\Ents w.heap.size w' v es/\ac w.heap.size w w'
end
section
variable {s0 s1 s2 s3 s4 s5 s6 s7 s8 s9 l4 l5 l6 ha d6 d8 d9 dc dd dg dk dm ds dv dx dy dT e0 e1 e2 e3 e4 e5 e6 e7 e8 e9 ea ed eg ei ej em eo er ex ey ez eA eB h9 eD f0 f1 f2 f3 f4 f5 f6 f7 f9 fb fe fi fn fs fv fx g0 g1 g2 g3 g4 g5 g6 g7 g8 g9 ga gc gd gf gk gn go gs gv gx gy gA gB gD gW h0 h1 h2 h4 h5 h7 h8 b1 b2 b3 b4 b5 b6 b7 b8 b9 ba bb bc bd be bf bg bh bk bm bo bp bq d4 br a0 a1 d3 bs bt bv bx c0 c1 c4 c5 ca cb cc cd ce cf cg ch ci cj ck d5 cl cn cp cs ct cx cy cz cA cB cD cG cO cS cW cX d0 d1 d2 a2 a3 a4 a5 a6 a7 a8 a9 ab ad af ag ao b0:Value}
attribute [local go_sem] Ent.cells
attribute [local go_sem] nR
theorem lE{p:Prop} (h:p:=by
 go_wp2_with fail;refine(LZ w A n c v es eb _ _ sc nn _ mOm hok mOm hm9).mono ?_;rintro x w10⟨r9,rfl,hr9,hm10,hbo,hlt10⟩;have hbx10:aM w10 eb _:=hbo _ hbx9;have fz10:=hbx10.frozen;have c10:w10.cell? ⟨eb,9,Oh⟩=Og (N9 Oa 0):=hbx10.cell 9;go_wp2_with fail
 exact HQ.out _ _ _ _ _ _ _ _ _ _ _ _ _ _ _ _ _ _ _ _ _ _ _ _ _ _ _ _ _ _ _ _ _ _ _ _ _ _ _ _ _ _ _ _ _ _ _ _ _ ⟨r9,0,0,0,hbx10.set 9 (N9 Oa r9) rfl,hm10.set hlt3 hfr 9 _,by unfold SwOk iJ;simp;try omega,by simp[dP];exact hlt10⟩):p:=h
theorem rD{p:Prop} (h:p:=by
 go_wp2_with fail
 exact HQ.out _ _ _ _ _ _ _ _ _ _ _ _ _ _ _ _ _ _ _ _ _ _ _ _ _ _ _ _ _ _ _ _ _ _ _ _ _ _ _ _ _ _ _ _ _ _ _ _ _ ⟨0,0,1+nn%2,0,hbx9.set 11 (N9 Oa (1+nn%2)) rfl,hm9.set hlt3 hfr 11 _,by unfold SwOk iJ;simp;try omega,by simp[dP];exact hlt9⟩):p:=h
theorem LT(w:World)(A:Option Addr)(n c:Nat)(v:Value)(es:List Ent)(eb:Nat)(id sc st day kk many early:Int)(nn:Nat)(kd:Int)(W:World)(Q:Exit->Act->World->Prop)(hnn:nn<=1000)(hlen:es.length<=24)(hsc:1<=sc/\sc<=100)(hok:fQ sc es)(hlt3:w.heap.size<eb)(hfr:v.ownBlock≠Og eb)(hkk:kd=1\/kd=2\/kd=3\/kd=4\/kd=5\/kd=6\/kd=7\/kd=8\/kd=9)(hbx9:aM W eb (mkE id sc st kd day 0 ⟨#[]⟩ 0 0 0 0 0 0))(hm9:MR w A n c v es W)(hlt9:eb<W.heap.size)
  (hQ:∀(im io ix j0 j1 j2 j3 j4 j5 j6 j7 j8 j9 jl k0 k1 k2 k3 k4 k5 k6 k7 k8 k9 ka kb kc ke kf kh ki kj kl km kn ko kp kq kr ks kt kv kw kx ky l0 l1 l2:Value)(wx:World),RA w A n c v es eb id sc st kd day wx->Q .normal ⟨aK (Oc A n c::N9 Oa sc::s2::s3::s4::Od (Og ⟨w.heap.size,0,Oh⟩)::v::N9 Oa day::N9 Oa many::N9 Oa kk::Od (Og ⟨eb,0,Oh⟩)::N9 Oa early::N9 Oa (nn:Nat)::ha::d6::d8::d9::dc::dd::dg::dk::dm::ds::dv::dx::dy::dT::e0::e1::e2::e3::e4::e5::e6::e7::e8::e9::ea::ed::eg::ei::ej::em::eo::er::ex::ey::ez::eA::eB::N9 Oa kd::im::io::ix::j0::j1::j2::j3::j4::j5::j6::j7::j8::j9::jl::k0::k1::k2::k3::k4::k5::k6::k7::k8::k9::ka::kb::kc::ke::kf::kh::ki::kj::kl::km::kn::ko::kp::kq::kr::ks::kt::kv::kw::kx::ky::l0::l1::l2::h8::b1::b2::b3::b4::b5::b6::b7::b8::b9::ba::bb::bc::bd::be::bf::bg::bh::[bk,bm,bo,bp,bq,d4,br,a0,a1,d3,bs,bt,bv,bx,c0,c1,c4,c5,ca,cb,cc,cd,ce,cf,cg,ch,ci,cj,ck,d5,cl,cn,cp,cs,ct,cx,cy,cz,cA,cB,cD,cG,cO,cS,cW,cX,d0,d1,d2,a2,a3,a4,a5,a6,a7,a8,a9,ab,ad,af,ag,ao,b0]),[]⟩ wx) :
  (Lk f33 2).wp prog Q ⟨aK (Oc A n c::N9 Oa sc::s2::s3::s4::Od (Og ⟨w.heap.size,0,Oh⟩)::v::N9 Oa day::N9 Oa many::N9 Oa kk::Od (Og ⟨eb,0,Oh⟩)::N9 Oa early::N9 Oa (nn:Nat)::ha::d6::d8::d9::dc::dd::dg::dk::dm::ds::dv::dx::dy::dT::e0::e1::e2::e3::e4::e5::e6::e7::e8::e9::ea::ed::eg::ei::ej::em::eo::er::ex::ey::ez::eA::eB::N9 Oa kd::eD::f0::f1::f2::f3::f4::f5::f6::f7::f9::fb::fe::fi::fn::fs::fv::fx::g0::g1::g2::g3::g4::g5::g6::g7::g8::g9::ga::gc::gd::gf::gk::gn::go::gs::gv::gx::gy::gA::gB::gD::gW::h0::h1::h2::h4::h5::h7::h8::b1::b2::b3::b4::b5::b6::b7::b8::b9::ba::bb::bc::bd::be::bf::bg::bh::[bk,bm,bo,bp,bq,d4,br,a0,a1,d3,bs,bt,bv,bx,c0,c1,c4,c5,ca,cb,cc,cd,ce,cf,cg,ch,ci,cj,ck,d5,cl,cn,cp,cs,ct,cx,cy,cz,cA,cB,cD,cG,cO,cS,cW,cX,d0,d1,d2,a2,a3,a4,a5,a6,a7,a8,a9,ab,ad,af,ag,ao,b0]),[]⟩ W:=by
 refine mOn ?_;generalize Q .normal=K at hQ |-;have HQ:=aa hQ;clear hQ
 conv=>arg 2;whnf
 have fz:=hbx9.frozen
 have c2:W.cell? ⟨eb,2,none⟩=some (.int .i64 st):=hbx9.cell 2;have c9:W.cell? ⟨eb,9,none⟩=some (.int .i64 0):=hbx9.cell 9;have c10:W.cell? ⟨eb,10,none⟩=some (.int .i64 0):=hbx9.cell 10;have c11:W.cell? ⟨eb,11,none⟩=some (.int .i64 0):=hbx9.cell 11;have c12:W.cell? ⟨eb,12,none⟩=some (.int .i64 0):=hbx9.cell 12;rcases hkk with rfl|rfl|rfl|rfl|rfl|rfl|rfl|rfl|rfl
 .as_aux_lemma =>
   exact rD
 .as_aux_lemma =>
   go_wp2_with fail;exact HQ.out _ _ _ _ _ _ _ _ _ _ _ _ _ _ _ _ _ _ _ _ _ _ _ _ _ _ _ _ _ _ _ _ _ _ _ _ _ _ _ _ _ _ _ _ _ _ _ _ _ ⟨0,0,1+nn%2,1+nn%3,aM.set (e:=mkE id sc st 2 day 0 ⟨#[]⟩ 0 0 0 0 (1+nn%2) 0) (hbx9.set 11 (N9 Oa (1+nn%2)) rfl) 12 (N9 Oa (1+nn%3)) rfl,(hm9.set hlt3 hfr 11 _).set hlt3 hfr 12 _,by unfold SwOk iJ;simp;try omega,by simp[dP];exact hlt9⟩
 .as_aux_lemma =>
   go_wp2_with fail;exact HQ.out _ _ _ _ _ _ _ _ _ _ _ _ _ _ _ _ _ _ _ _ _ _ _ _ _ _ _ _ _ _ _ _ _ _ _ _ _ _ _ _ _ _ _ _ _ _ _ _ _ ⟨0,0,0,0,hbx9,hm9,by unfold SwOk iJ;simp;try omega,hlt9⟩
 .as_aux_lemma =>
   exact lE
 .as_aux_lemma =>
   exact lE
 .as_aux_lemma =>
   exact lE
 .as_aux_lemma =>
   go_wp2_with fail;exact HQ.out _ _ _ _ _ _ _ _ _ _ _ _ _ _ _ _ _ _ _ _ _ _ _ _ _ _ _ _ _ _ _ _ _ _ _ _ _ _ _ _ _ _ _ _ _ _ _ _ _ ⟨0,1+sc%3,0,0,hbx9.set 10 (N9 Oa (1+sc%3)) rfl,hm9.set hlt3 hfr 10 _,by unfold SwOk iJ;simp;try omega,by simp[dP];exact hlt9⟩
 .as_aux_lemma =>
   exact rD
 .as_aux_lemma =>
   exact lE
theorem Kj(w:World)(A:Option Addr)(n c:Nat)(v:Value)(es:List Ent)(eb:Nat)(id sc st day kk many early:Int)(nn:Nat)(kd rf fr pg vs:Int)(W:World)(Q:Exit->Act->World->Prop)(_hnn:nn<=1000)(_hlen:es.length<=24)(_hsc:1<=sc/\sc<=100)(_hok:fQ sc es)(_hlt3:w.heap.size<eb)(_hfr:v.ownBlock≠Og eb)(hkk:kd=1\/kd=2\/kd=3\/kd=4\/kd=5\/kd=6\/kd=7\/kd=8\/kd=9)(hbxA:aM W eb (mkE id sc st kd day 0 ⟨#[]⟩ 0 0 rf fr pg vs))
  (hQ:∀(l3 hb hc hd he hf hg hh hi hj hk hl hm hn ho hp hq hs:Value)(wx:World),W=wx->Q .normal ⟨aK (Oc A n c::N9 Oa sc::s2::s3::s4::Od (Og ⟨w.heap.size,0,Oh⟩)::v::N9 Oa day::N9 Oa many::N9 Oa kk::Od (Og ⟨eb,0,Oh⟩)::N9 Oa early::N9 Oa (nn:Nat)::.bool (iJ kd)::d6::d8::d9::dc::dd::dg::dk::dm::ds::dv::dx::dy::dT::e0::e1::e2::e3::e4::e5::e6::e7::e8::e9::ea::ed::eg::ei::ej::em::eo::er::ex::ey::ez::eA::eB::h9::eD::f0::f1::f2::f3::f4::f5::f6::f7::f9::fb::fe::fi::fn::fs::fv::fx::g0::g1::g2::g3::g4::g5::g6::g7::g8::g9::ga::gc::gd::gf::gk::gn::go::gs::gv::gx::gy::gA::gB::gD::gW::h0::h1::h2::h4::h5::h7::l3::hb::hc::hd::he::hf::hg::hh::hi::hj::hk::hl::hm::hn::ho::hp::hq::hs::[bk,bm,bo,bp,bq,d4,br,a0,a1,d3,bs,bt,bv,bx,c0,c1,c4,c5,ca,cb,cc,cd,ce,cf,cg,ch,ci,cj,ck,d5,cl,cn,cp,cs,ct,cx,cy,cz,cA,cB,cD,cG,cO,cS,cW,cX,d0,d1,d2,a2,a3,a4,a5,a6,a7,a8,a9,ab,ad,af,ag,ao,b0]),[]⟩ wx) :
  (db f33 29).wp prog Q ⟨aK (Oc A n c::N9 Oa sc::s2::s3::s4::Od (Og ⟨w.heap.size,0,Oh⟩)::v::N9 Oa day::N9 Oa many::N9 Oa kk::Od (Og ⟨eb,0,Oh⟩)::N9 Oa early::N9 Oa (nn:Nat)::ha::d6::d8::d9::dc::dd::dg::dk::dm::ds::dv::dx::dy::dT::e0::e1::e2::e3::e4::e5::e6::e7::e8::e9::ea::ed::eg::ei::ej::em::eo::er::ex::ey::ez::eA::eB::h9::eD::f0::f1::f2::f3::f4::f5::f6::f7::f9::fb::fe::fi::fn::fs::fv::fx::g0::g1::g2::g3::g4::g5::g6::g7::g8::g9::ga::gc::gd::gf::gk::gn::go::gs::gv::gx::gy::gA::gB::gD::gW::h0::h1::h2::h4::h5::h7::h8::b1::b2::b3::b4::b5::b6::b7::b8::b9::ba::bb::bc::bd::be::bf::bg::bh::[bk,bm,bo,bp,bq,d4,br,a0,a1,d3,bs,bt,bv,bx,c0,c1,c4,c5,ca,cb,cc,cd,ce,cf,cg,ch,ci,cj,ck,d5,cl,cn,cp,cs,ct,cx,cy,cz,cA,cB,cD,cG,cO,cS,cW,cX,d0,d1,d2,a2,a3,a4,a5,a6,a7,a8,a9,ab,ad,af,ag,ao,b0]),[]⟩ W:=by
 refine mOn ?_;generalize Q .normal=K at hQ |-;have HQ:=aa hQ;clear hQ
 conv=>arg 2;whnf
 have c3:W.cell? ⟨eb,3,Oh⟩=Og (N9 Oa kd):=hbxA.cell 3
 rcases hkk with rfl|rfl|rfl|rfl|rfl|rfl|rfl|rfl|rfl
 all_goals (go_wp2_with fail;exact HQ.out _ _ _ _ _ _ _ _ _ _ _ _ _ _ _ _ _ _ _ rfl)
theorem Kk(w:World)(A:Option Addr)(n c:Nat)(v:Value)(es:List Ent)(eb:Nat)(id sc st day kk many early:Int)(nn:Nat)(kd rf fr pg vs:Int)(W:World)(Q:Exit->Act->World->Prop)(_hnn:nn<=1000)(_hlen:es.length<=24)(_hsc:1<=sc/\sc<=100)(_hok:fQ sc es)(_hlt3:w.heap.size<eb)(_hfr:v.ownBlock≠Og eb)(hbxA:aM W eb (mkE id sc st kd day 0 ⟨#[]⟩ 0 0 rf fr pg vs))
  (hQ:∀(ht hu hv hw hx:Value)(B:Bool)(wx:World),W=wx/\Hid (B=true↔iJ kd=true/\rf=0)->Q .normal ⟨aK (Oc A n c::N9 Oa sc::s2::s3::s4::Od (Og ⟨w.heap.size,0,Oh⟩)::v::N9 Oa day::N9 Oa many::N9 Oa kk::Od (Og ⟨eb,0,Oh⟩)::N9 Oa early::N9 Oa (nn:Nat)::.bool (iJ kd)::d6::d8::d9::dc::dd::dg::dk::dm::ds::dv::dx::dy::dT::e0::e1::e2::e3::e4::e5::e6::e7::e8::e9::ea::ed::eg::ei::ej::em::eo::er::ex::ey::ez::eA::eB::h9::eD::f0::f1::f2::f3::f4::f5::f6::f7::f9::fb::fe::fi::fn::fs::fv::fx::g0::g1::g2::g3::g4::g5::g6::g7::g8::g9::ga::gc::gd::gf::gk::gn::go::gs::gv::gx::gy::gA::gB::gD::gW::h0::h1::h2::h4::h5::h7::h8::b1::b2::b3::b4::b5::b6::b7::b8::b9::ba::bb::bc::bd::be::bf::bg::bh::ht::hu::hv::hw::hx::.bool B::[br,a0,a1,d3,bs,bt,bv,bx,c0,c1,c4,c5,ca,cb,cc,cd,ce,cf,cg,ch,ci,cj,ck,d5,cl,cn,cp,cs,ct,cx,cy,cz,cA,cB,cD,cG,cO,cS,cW,cX,d0,d1,d2,a2,a3,a4,a5,a6,a7,a8,a9,ab,ad,af,ag,ao,b0]),[]⟩ wx) :
  (db f33 30).wp prog Q ⟨aK (Oc A n c::N9 Oa sc::s2::s3::s4::Od (Og ⟨w.heap.size,0,Oh⟩)::v::N9 Oa day::N9 Oa many::N9 Oa kk::Od (Og ⟨eb,0,Oh⟩)::N9 Oa early::N9 Oa (nn:Nat)::.bool (iJ kd)::d6::d8::d9::dc::dd::dg::dk::dm::ds::dv::dx::dy::dT::e0::e1::e2::e3::e4::e5::e6::e7::e8::e9::ea::ed::eg::ei::ej::em::eo::er::ex::ey::ez::eA::eB::h9::eD::f0::f1::f2::f3::f4::f5::f6::f7::f9::fb::fe::fi::fn::fs::fv::fx::g0::g1::g2::g3::g4::g5::g6::g7::g8::g9::ga::gc::gd::gf::gk::gn::go::gs::gv::gx::gy::gA::gB::gD::gW::h0::h1::h2::h4::h5::h7::h8::b1::b2::b3::b4::b5::b6::b7::b8::b9::ba::bb::bc::bd::be::bf::bg::bh::[bk,bm,bo,bp,bq,d4,br,a0,a1,d3,bs,bt,bv,bx,c0,c1,c4,c5,ca,cb,cc,cd,ce,cf,cg,ch,ci,cj,ck,d5,cl,cn,cp,cs,ct,cx,cy,cz,cA,cB,cD,cG,cO,cS,cW,cX,d0,d1,d2,a2,a3,a4,a5,a6,a7,a8,a9,ab,ad,af,ag,ao,b0]),[]⟩ W:=by
 refine mOn ?_;generalize Q .normal=K at hQ |-;have HQ:=aa hQ;clear hQ
 conv=>arg 2;whnf
 have c9:W.cell? ⟨eb,9,Oh⟩=Og (N9 Oa rf):=hbxA.cell 9
 generalize iJ kd=BR at HQ |-
 cases BR
 all_goals go_wp2_with fail
 .exact HQ.out _ _ _ _ _ false _ ⟨rfl,aa mSi⟩
 .exact HQ.out _ _ _ _ _ (rf==0) _ ⟨rfl,aa mSi⟩
theorem Iw(w:World)(A:Option Addr)(n c:Nat)(v:Value)(es:List Ent)(eb:Nat)(id sc st day kk many early:Int)(nn:Nat)(kd rf fr pg vs:Int)(B:Bool)(W:World)(Q:Exit->Act->World->Prop)(_hnn:nn<=1000)(_hlen:es.length<=24)(_hsc:1<=sc/\sc<=100)(_hok:fQ sc es)(hlt3:w.heap.size<eb)(hfr:v.ownBlock≠Og eb)(hkk:kd=1\/kd=2\/kd=3\/kd=4\/kd=5\/kd=6\/kd=7\/kd=8\/kd=9)(hbxA:aM W eb (mkE id sc st kd day 0 ⟨#[]⟩ 0 0 rf fr pg vs))(hmA:MR w A n c v es W)(HSW:Hid (SwOk kd sc es.length rf fr pg vs))(hltA:eb<W.heap.size)(HB:Hid (B=true↔iJ kd=true/\rf=0))
  (hQ:∀(hy:Value)(wx:World),RB w A n c v es eb id sc st day wx->Q .normal ⟨aK (Oc A n c::N9 Oa sc::s2::s3::s4::Od (Og ⟨w.heap.size,0,Oh⟩)::v::N9 Oa day::N9 Oa many::N9 Oa kk::Od (Og ⟨eb,0,Oh⟩)::N9 Oa early::N9 Oa (nn:Nat)::ha::d6::d8::d9::dc::dd::dg::dk::dm::ds::dv::dx::dy::dT::e0::e1::e2::e3::e4::e5::e6::e7::e8::e9::ea::ed::eg::ei::ej::em::eo::er::ex::ey::ez::eA::eB::h9::eD::f0::f1::f2::f3::f4::f5::f6::f7::f9::fb::fe::fi::fn::fs::fv::fx::g0::g1::g2::g3::g4::g5::g6::g7::g8::g9::ga::gc::gd::gf::gk::gn::go::gs::gv::gx::gy::gA::gB::gD::gW::h0::h1::h2::h4::h5::h7::h8::b1::b2::b3::b4::b5::b6::b7::b8::b9::ba::bb::bc::bd::be::bf::bg::bh::bk::bm::bo::bp::bq::.bool B::[hy,a0,a1,d3,bs,bt,bv,bx,c0,c1,c4,c5,ca,cb,cc,cd,ce,cf,cg,ch,ci,cj,ck,d5,cl,cn,cp,cs,ct,cx,cy,cz,cA,cB,cD,cG,cO,cS,cW,cX,d0,d1,d2,a2,a3,a4,a5,a6,a7,a8,a9,ab,ad,af,ag,ao,b0]),[]⟩ wx) :
  (Cm f33 122).wp prog Q ⟨aK (Oc A n c::N9 Oa sc::s2::s3::s4::Od (Og ⟨w.heap.size,0,Oh⟩)::v::N9 Oa day::N9 Oa many::N9 Oa kk::Od (Og ⟨eb,0,Oh⟩)::N9 Oa early::N9 Oa (nn:Nat)::ha::d6::d8::d9::dc::dd::dg::dk::dm::ds::dv::dx::dy::dT::e0::e1::e2::e3::e4::e5::e6::e7::e8::e9::ea::ed::eg::ei::ej::em::eo::er::ex::ey::ez::eA::eB::h9::eD::f0::f1::f2::f3::f4::f5::f6::f7::f9::fb::fe::fi::fn::fs::fv::fx::g0::g1::g2::g3::g4::g5::g6::g7::g8::g9::ga::gc::gd::gf::gk::gn::go::gs::gv::gx::gy::gA::gB::gD::gW::h0::h1::h2::h4::h5::h7::h8::b1::b2::b3::b4::b5::b6::b7::b8::b9::ba::bb::bc::bd::be::bf::bg::bh::bk::bm::bo::bp::bq::.bool B::[br,a0,a1,d3,bs,bt,bv,bx,c0,c1,c4,c5,ca,cb,cc,cd,ce,cf,cg,ch,ci,cj,ck,d5,cl,cn,cp,cs,ct,cx,cy,cz,cA,cB,cD,cG,cO,cS,cW,cX,d0,d1,d2,a2,a3,a4,a5,a6,a7,a8,a9,ab,ad,af,ag,ao,b0]),[]⟩ W:=by
 refine mOn ?_;generalize Q .normal=K at hQ |-;have HQ:=aa hQ;clear hQ
 conv=>arg 2;whnf
 cases B
 rotate_left
 .have hr:=HB.out.1 rfl;have fz:=hbxA.frozen 3;have c3:W.cell? ⟨eb,3,Oh⟩=Og (N9 Oa kd):=hbxA.cell 3;have H:=aa (HSW.out.three hkk hr.1 hr.2);clear hr HB;go_wp2_with fail;exact HQ.out _ _ ⟨3,rf,fr,pg,vs,hbxA.set 3 (N9 Oa 3) rfl,hmA.set hlt3 hfr 3 _,H.out,by simp[dP];exact hltA⟩
 .have hr:¬(iJ kd=true/\rf=0):=fun h=>by have:=HB.out.2 h;cases this
  have H:=aa (HSW.out.same hkk hr);clear hr HB;go_wp2_with fail;exact HQ.out _ _ ⟨kd,rf,fr,pg,vs,hbxA,hmA,H.out,hltA⟩
theorem Iy(w:World)(A:Option Addr)(n c:Nat)(v:Value)(es:List Ent)(eb:Nat)(id sc st day kk many early:Int)(nn:Nat)(kd rf fr pg vs:Int)(W:World)(Q:Exit->Act->World->Prop)(hnn:nn<=1000)(_hlen:es.length<=24)(_hsc:1<=sc/\sc<=100)(_hok:fQ sc es)(hlt3:w.heap.size<eb)(hfr:v.ownBlock≠Og eb)(hbxA:aM W eb (mkE id sc st kd day 0 ⟨#[]⟩ 0 0 rf fr pg vs))(hmA:MR w A n c v es W)(HSW:Hid (SwB kd sc es.length rf fr pg vs))(hltA:eb<W.heap.size)
  (hQ:∀(hz hA hB hC hD hE hF hG hH hI hJ hK:Value)(wx:World),RC w A n c v es eb id sc st day wx->Q .normal ⟨aK (Oc A n c::N9 Oa sc::s2::s3::s4::Od (Og ⟨w.heap.size,0,Oh⟩)::v::N9 Oa day::N9 Oa many::N9 Oa kk::Od (Og ⟨eb,0,Oh⟩)::N9 Oa early::N9 Oa (nn:Nat)::ha::d6::d8::d9::dc::dd::dg::dk::dm::ds::dv::dx::dy::dT::e0::e1::e2::e3::e4::e5::e6::e7::e8::e9::ea::ed::eg::ei::ej::em::eo::er::ex::ey::ez::eA::eB::h9::eD::f0::f1::f2::f3::f4::f5::f6::f7::f9::fb::fe::fi::fn::fs::fv::fx::g0::g1::g2::g3::g4::g5::g6::g7::g8::g9::ga::gc::gd::gf::gk::gn::go::gs::gv::gx::gy::gA::gB::gD::gW::h0::h1::h2::h4::h5::h7::h8::b1::b2::b3::b4::b5::b6::b7::b8::b9::ba::bb::bc::bd::be::bf::bg::bh::bk::bm::bo::bp::bq::d4::br::a0::a1::.bool (kd==3)::hz::hA::hB::hC::hD::hE::hF::hG::hH::hI::hJ::hK::ce::cf::cg::ch::ci::cj::ck::d5::cl::cn::cp::cs::ct::cx::cy::cz::cA::cB::cD::cG::cO::cS::cW::cX::d0::d1::d2::a2::a3::a4::a5::a6::a7::a8::a9::ab::ad::af::ag::ao::b0::[]),[]⟩ wx) :
  (Cm f33 126).wp prog Q ⟨aK (Oc A n c::N9 Oa sc::s2::s3::s4::Od (Og ⟨w.heap.size,0,Oh⟩)::v::N9 Oa day::N9 Oa many::N9 Oa kk::Od (Og ⟨eb,0,Oh⟩)::N9 Oa early::N9 Oa (nn:Nat)::ha::d6::d8::d9::dc::dd::dg::dk::dm::ds::dv::dx::dy::dT::e0::e1::e2::e3::e4::e5::e6::e7::e8::e9::ea::ed::eg::ei::ej::em::eo::er::ex::ey::ez::eA::eB::h9::eD::f0::f1::f2::f3::f4::f5::f6::f7::f9::fb::fe::fi::fn::fs::fv::fx::g0::g1::g2::g3::g4::g5::g6::g7::g8::g9::ga::gc::gd::gf::gk::gn::go::gs::gv::gx::gy::gA::gB::gD::gW::h0::h1::h2::h4::h5::h7::h8::b1::b2::b3::b4::b5::b6::b7::b8::b9::ba::bb::bc::bd::be::bf::bg::bh::bk::bm::bo::bp::bq::d4::br::a0::a1::.bool (kd==3)::bs::bt::bv::bx::c0::c1::c4::c5::ca::cb::cc::cd::ce::cf::cg::ch::ci::cj::ck::d5::cl::cn::cp::cs::ct::cx::cy::cz::cA::cB::cD::cG::cO::cS::cW::cX::d0::d1::d2::a2::a3::a4::a5::a6::a7::a8::a9::ab::ad::af::ag::ao::b0::[]),[]⟩ W:=by
 refine mOn ?_;generalize Q .normal=K at hQ |-;have HQ:=aa hQ;clear hQ
 conv=>arg 2;whnf
 by_cases h3:kd=3
 .subst h3;have hcv:codesL.getD (nn%6) ⟨#[]⟩∈codesL:=by
   have h6:nn%6<codesL.length:=Nat.mod_lt _ mDe;rw[bi,ai h6];simp
  have hcr:[5,6,10].getD (nn%3) 0=(5:Int)\/[5,6,10].getD (nn%3) 0=(6:Int)\/[5,6,10].getD (nn%3) 0=(10:Int):=by
   have:nn%3=0\/nn%3=1\/nn%3=2:=mOm;rcases this with h|h|h <;> rw[h] <;> simp
  have hcd:∀(W:World)(b:Nat),W.heap.size=b->(W.alloc (Of #[Ob ⟨#[65,49]⟩,Ob ⟨#[66,49]⟩,Ob ⟨#[66,50]⟩,Ob ⟨#[67,49]⟩,Ob ⟨#[68,49]⟩,Ob ⟨#[69,57]⟩] 9)).cell? ⟨b,nn%6,Oh⟩=Og (Ob (codesL.getD (nn%6) ⟨#[]⟩)):=by
   intro W b hW;subst hW;rw[ae (heap_alloc_new W _)];have:nn%6=0\/nn%6=1\/nn%6=2\/nn%6=3\/nn%6=4\/nn%6=5:=mOm;rcases this with h|h|h|h|h|h <;> rw[h] <;> rfl
  have hce:∀(W:World)(b:Nat),W.heap.size=b->(W.alloc (Of #[N9 Oa 5,N9 Oa 6,N9 Oa 10] 3)).cell? ⟨b,nn%3,Oh⟩=Og (N9 Oa ([5,6,10].getD (nn%3) 0)):=by
   intro W b hW;subst hW;rw[ae (heap_alloc_new W _)];have:nn%3=0\/nn%3=1\/nn%3=2:=mOm;rcases this with h|h|h <;> rw[h] <;> rfl
  generalize codesL.getD (nn%6) ⟨#[]⟩=cv at hcv hcd
  generalize [5,6,10].getD (nn%3) (0:Int)=cr at hcr hce;have fz:=hbxA.frozen;have c6:W.cell? ⟨eb,6,Oh⟩=Og (Ob ⟨#[]⟩):=hbxA.cell 6;have c7:W.cell? ⟨eb,7,Oh⟩=Og (N9 Oa 0):=hbxA.cell 7;go_wp2_with (go_at_call 84;refine(Hl _).mono ?_;rintro x w11⟨rfl,rfl⟩);exact HQ.out _ _ _ _ _ _ _ _ _ _ _ _ _ ⟨3,cv,cr,rf,fr,pg,vs,((aM.set (e:=mkE id sc st 3 day 0 cv 0 0 rf fr pg vs) (hbxA.set 6 (Ob cv) rfl) 7 (N9 Oa cr) rfl).below (aq _ (Of #[Ob ⟨#[65,49]⟩,Ob ⟨#[66,49]⟩,Ob ⟨#[66,50]⟩,Ob ⟨#[67,49]⟩,Ob ⟨#[68,49]⟩,Ob ⟨#[69,57]⟩] 9))).below (aq _ (Of #[N9 Oa 5,N9 Oa 6,N9 Oa 10] 3)),MR.below' (MR.below' ((hmA.set hlt3 hfr 6 (Ob cv)).set hlt3 hfr 7 (N9 Oa cr)) (aq _ (Of #[Ob ⟨#[65,49]⟩,Ob ⟨#[66,49]⟩,Ob ⟨#[66,50]⟩,Ob ⟨#[67,49]⟩,Ob ⟨#[68,49]⟩,Ob ⟨#[69,57]⟩] 9))) (aq _ (Of #[N9 Oa 5,N9 Oa 6,N9 Oa 10] 3)),HSW.out,by unfold zW;rw[if_pos rfl];exact⟨hcv,hcr⟩,by simp[dP];omega⟩
 .have h3':(kd==3)=false:=by simpa using h3
  go_wp2_with fail;exact HQ.out _ _ _ _ _ _ _ _ _ _ _ _ _ ⟨kd,⟨#[]⟩,0,rf,fr,pg,vs,hbxA,hmA,HSW.out,by unfold zW;rw[if_neg h3];exact⟨rfl,rfl⟩,hltA⟩
theorem Kl(w:World)(A:Option Addr)(n c:Nat)(v:Value)(es:List Ent)(eb:Nat)(id sc st day kk many early:Int)(nn:Nat)(kd cr rf fr pg vs:Int)(co:ByteArray)(W:World)(Q:Exit->Act->World->Prop)(_hnn:nn<=1000)(_hlen:es.length<=24)(_hsc:1<=sc/\sc<=100)(_hok:fQ sc es)(_hlt3:w.heap.size<eb)(_hfr:v.ownBlock≠Og eb)(hbxA:aM W eb (mkE id sc st kd day 0 co cr 0 rf fr pg vs))
  (hQ:∀(hL hM hN hO hP hR hS:Value)(B:Bool)(wx:World),W=wx/\Hid (B=true↔kd=3\/kd=4)->Q .normal ⟨aK (Oc A n c::N9 Oa sc::s2::s3::s4::Od (Og ⟨w.heap.size,0,Oh⟩)::v::N9 Oa day::N9 Oa many::N9 Oa kk::Od (Og ⟨eb,0,Oh⟩)::N9 Oa early::N9 Oa (nn:Nat)::ha::d6::d8::d9::dc::dd::dg::dk::dm::ds::dv::dx::dy::dT::e0::e1::e2::e3::e4::e5::e6::e7::e8::e9::ea::ed::eg::ei::ej::em::eo::er::ex::ey::ez::eA::eB::h9::eD::f0::f1::f2::f3::f4::f5::f6::f7::f9::fb::fe::fi::fn::fs::fv::fx::g0::g1::g2::g3::g4::g5::g6::g7::g8::g9::ga::gc::gd::gf::gk::gn::go::gs::gv::gx::gy::gA::gB::gD::gW::h0::h1::h2::h4::h5::h7::h8::b1::b2::b3::b4::b5::b6::b7::b8::b9::ba::bb::bc::bd::be::bf::bg::bh::bk::bm::bo::bp::bq::d4::br::a0::a1::d3::bs::bt::bv::bx::c0::c1::c4::c5::ca::cb::cc::cd::hL::hM::hN::hO::hP::hR::hS::.bool B::[cl,cn,cp,cs,ct,cx,cy,cz,cA,cB,cD,cG,cO,cS,cW,cX,d0,d1,d2,a2,a3,a4,a5,a6,a7,a8,a9,ab,ad,af,ag,ao,b0]),[]⟩ wx) :
  (db f33 35).wp prog Q ⟨aK (Oc A n c::N9 Oa sc::s2::s3::s4::Od (Og ⟨w.heap.size,0,Oh⟩)::v::N9 Oa day::N9 Oa many::N9 Oa kk::Od (Og ⟨eb,0,Oh⟩)::N9 Oa early::N9 Oa (nn:Nat)::ha::d6::d8::d9::dc::dd::dg::dk::dm::ds::dv::dx::dy::dT::e0::e1::e2::e3::e4::e5::e6::e7::e8::e9::ea::ed::eg::ei::ej::em::eo::er::ex::ey::ez::eA::eB::h9::eD::f0::f1::f2::f3::f4::f5::f6::f7::f9::fb::fe::fi::fn::fs::fv::fx::g0::g1::g2::g3::g4::g5::g6::g7::g8::g9::ga::gc::gd::gf::gk::gn::go::gs::gv::gx::gy::gA::gB::gD::gW::h0::h1::h2::h4::h5::h7::h8::b1::b2::b3::b4::b5::b6::b7::b8::b9::ba::bb::bc::bd::be::bf::bg::bh::[bk,bm,bo,bp,bq,d4,br,a0,a1,d3,bs,bt,bv,bx,c0,c1,c4,c5,ca,cb,cc,cd,ce,cf,cg,ch,ci,cj,ck,d5,cl,cn,cp,cs,ct,cx,cy,cz,cA,cB,cD,cG,cO,cS,cW,cX,d0,d1,d2,a2,a3,a4,a5,a6,a7,a8,a9,ab,ad,af,ag,ao,b0]),[]⟩ W:=by
 refine mOn ?_;generalize Q .normal=K at hQ |-;have HQ:=aa hQ;clear hQ
 conv=>arg 2;whnf
 have c3:W.cell? ⟨eb,3,Oh⟩=Og (N9 Oa kd):=hbxA.cell 3
 by_cases h3:kd=3
 .subst h3;go_wp2_with fail;exact HQ.out _ _ _ _ _ _ _ true _ ⟨rfl,aa mSi⟩
 .have h3':(kd==3)=false:=by simpa using h3
  go_wp2_with fail;exact HQ.out _ _ _ _ _ _ _ (kd==4) _ ⟨rfl,aa (by simp[h3])⟩
theorem Iz(w:World)(A:Option Addr)(n c:Nat)(v:Value)(es:List Ent)(eb:Nat)(id sc st day kk many early:Int)(nn:Nat)(kd cr rf fr pg vs:Int)(co:ByteArray)(B:Bool)(W:World)(Q:Exit->Act->World->Prop)(_hnn:nn<=1000)(_hlen:es.length<=24)(hsc:1<=sc/\sc<=100)(hok:fQ sc es)(hlt3:w.heap.size<eb)(hfr:v.ownBlock≠Og eb)(hbxA:aM W eb (mkE id sc st kd day 0 co cr 0 rf fr pg vs))(hmA:MR w A n c v es W)(HSW:Hid (SwB kd sc es.length rf fr pg vs))(HCO:Hid (zW kd co cr))(hltA:eb<W.heap.size)(HB:Hid (B=true↔kd=3\/kd=4))
  (hQ:∀(hT hU hV hX hY hZ i0 i1 i2 i3 i4 i5 i6 i7 i8 i9 ib ih ii:Value)(wx:World),RD w A n c v es eb id sc st day wx->Q .normal ⟨aK (Oc A n c::N9 Oa sc::s2::s3::s4::Od (Og ⟨w.heap.size,0,Oh⟩)::v::N9 Oa day::N9 Oa many::N9 Oa kk::Od (Og ⟨eb,0,Oh⟩)::N9 Oa early::N9 Oa (nn:Nat)::ha::d6::d8::d9::dc::dd::dg::dk::dm::ds::dv::dx::dy::dT::e0::e1::e2::e3::e4::e5::e6::e7::e8::e9::ea::ed::eg::ei::ej::em::eo::er::ex::ey::ez::eA::eB::h9::eD::f0::f1::f2::f3::f4::f5::f6::f7::f9::fb::fe::fi::fn::fs::fv::fx::g0::g1::g2::g3::g4::g5::g6::g7::g8::g9::ga::gc::gd::gf::gk::gn::go::gs::gv::gx::gy::gA::gB::gD::gW::h0::h1::h2::h4::h5::h7::h8::b1::b2::b3::b4::b5::b6::b7::b8::b9::ba::bb::bc::bd::be::bf::bg::bh::bk::bm::bo::bp::bq::d4::br::a0::a1::d3::bs::bt::bv::bx::c0::c1::c4::c5::ca::cb::cc::cd::ce::cf::cg::ch::ci::cj::ck::.bool B::[hT,hU,hV,hX,hY,hZ,i0,i1,i2,i3,i4,i5,i6,i7,i8,i9,ib,ih,ii,a2,a3,a4,a5,a6,a7,a8,a9,ab,ad,af,ag,ao,b0]),[]⟩ wx) :
  (Cm f33 146).wp prog Q ⟨aK (Oc A n c::N9 Oa sc::s2::s3::s4::Od (Og ⟨w.heap.size,0,Oh⟩)::v::N9 Oa day::N9 Oa many::N9 Oa kk::Od (Og ⟨eb,0,Oh⟩)::N9 Oa early::N9 Oa (nn:Nat)::ha::d6::d8::d9::dc::dd::dg::dk::dm::ds::dv::dx::dy::dT::e0::e1::e2::e3::e4::e5::e6::e7::e8::e9::ea::ed::eg::ei::ej::em::eo::er::ex::ey::ez::eA::eB::h9::eD::f0::f1::f2::f3::f4::f5::f6::f7::f9::fb::fe::fi::fn::fs::fv::fx::g0::g1::g2::g3::g4::g5::g6::g7::g8::g9::ga::gc::gd::gf::gk::gn::go::gs::gv::gx::gy::gA::gB::gD::gW::h0::h1::h2::h4::h5::h7::h8::b1::b2::b3::b4::b5::b6::b7::b8::b9::ba::bb::bc::bd::be::bf::bg::bh::bk::bm::bo::bp::bq::d4::br::a0::a1::d3::bs::bt::bv::bx::c0::c1::c4::c5::ca::cb::cc::cd::ce::cf::cg::ch::ci::cj::ck::.bool B::[cl,cn,cp,cs,ct,cx,cy,cz,cA,cB,cD,cG,cO,cS,cW,cX,d0,d1,d2,a2,a3,a4,a5,a6,a7,a8,a9,ab,ad,af,ag,ao,b0]),[]⟩ W:=by
 refine mOn ?_;generalize Q .normal=K at hQ |-;have HQ:=aa hQ;clear hQ
 conv=>arg 2;whnf
 cases B
 rotate_left
 .have H3:=aa (HB.out.1 rfl);clear HB;go_wp2_with fail;refine(LV w A n c v es eb 21 _ mOm mOm hlt3 mOm hmA).mono ?_;rintro x w12⟨gr,rfl,hgr,hm12,hbo,hlt12⟩;have hbx12:aM w12 eb _:=hbo _ hbxA;have fz:=hbx12.frozen;have c8:w12.cell? ⟨eb,8,Oh⟩=Og (N9 Oa 0):=hbx12.cell 8;clear hbo hbxA hmA hltA;by_cases hs2:sc=2
  .subst hs2;go_wp2_with fail;exact HQ.out _ _ _ _ _ _ _ _ _ _ _ _ _ _ _ _ _ _ _ _ ⟨kd,co,cr,1+gr%5,rf,fr,pg,vs,aM.set (e:=mkE id 2 st kd day 0 co cr (5*gr) rf fr pg vs) (hbx12.set 8 (N9 Oa (5*gr)) rfl) 8 (N9 Oa (1+gr%5)) rfl,(hm12.set hlt3 hfr 8 (N9 Oa (5*gr))).set hlt3 hfr 8 (N9 Oa (1+gr%5)),HSW.out,HCO.out,by unfold xT;rw[if_pos H3.out];omega,by simp[dP];exact hlt12⟩
  .by_cases hs3:sc=3
   .subst hs3;go_wp2_with fail;exact HQ.out _ _ _ _ _ _ _ _ _ _ _ _ _ _ _ _ _ _ _ _ ⟨kd,co,cr,gr,rf,fr,pg,vs,aM.set (e:=mkE id 3 st kd day 0 co cr (5*gr) rf fr pg vs) (hbx12.set 8 (N9 Oa (5*gr)) rfl) 8 (N9 Oa (gr)) rfl,(hm12.set hlt3 hfr 8 (N9 Oa (5*gr))).set hlt3 hfr 8 (N9 Oa (gr)),HSW.out,HCO.out,by unfold xT;rw[if_pos H3.out];omega,by simp[dP];exact hlt12⟩
   .have hs2':(sc==2)=false:=by simpa using hs2
    have hs3':(sc==3)=false:=by simpa using hs3
    go_wp2_with fail;exact HQ.out _ _ _ _ _ _ _ _ _ _ _ _ _ _ _ _ _ _ _ _ ⟨kd,co,cr,5*gr,rf,fr,pg,vs,hbx12.set 8 (N9 Oa (5*gr)) rfl,hm12.set hlt3 hfr 8 (N9 Oa (5*gr)),HSW.out,HCO.out,by unfold xT;rw[if_pos H3.out];omega,by simp[dP];exact hlt12⟩
 .have H3:Hid (¬(kd=3\/kd=4)):=aa (fun h=>by have:=HB.out.2 h;cases this);clear HB;go_wp2_with fail;exact HQ.out _ _ _ _ _ _ _ _ _ _ _ _ _ _ _ _ _ _ _ _ ⟨kd,co,cr,0,rf,fr,pg,vs,hbxA,hmA,HSW.out,HCO.out,by unfold xT;rw[if_neg H3.out],hltA⟩
end
section
attribute [local go_sem] Ent.cells
attribute [local go_sem] nR
theorem Kh(A:Option Addr)(n c:Nat)(sc:Int)(w:World)(hsc:1<=sc/\sc<=100)(hi:eU w.heap.size A n w) :
  Calls prog 33 #[Oc A n c,N9 Oa sc] w (Jj sc w):=by
 go_enter func33,ntmps33;go_wp2_with fail;have hm0:MR w A n c (Oc Oh 0 0) [] (w.alloc (Of #[Oc A n c,N9 Oa 0] 144)):=
  ⟨aq _ _,dX _ _ _ _,⟨0,aP _,heap_alloc_new _ _⟩,hi.below (aq _ _)⟩
 refine(mV w.heap.size A n c 25 _ mOm mOm hm0.draw hm0.ints).mono ?_
 rintro x w1⟨many,rfl,hmany,hd1,ho1⟩;have hm1:=hm0.only hd1 ho1;clear hm0 hd1 ho1;go_wp2_with fail
 go_loopw [6,7,9] (fun v D i wr=>∃(k day:Nat) (es:List Ent),k<=many/\i=N9 Oa k/\D=N9 Oa day/\day<=24*k/\es.length=k/\fQ sc es/\(∀e∈es,e.day<=day)/\MR w A n c v es wr) (fun _ _ i _=>many-(intOf i).toNat)
 case atStart=>exact⟨0,0,[],aP _,rfl,rfl,mOm,rfl,⟨mSi,mSi,mSi,mSi⟩,mSi,hm1⟩
 case round =>
  obtain⟨k,day,es,hk,rfl,rfl,hday,hlen,hok,hdays,hm⟩:=hrel;clear hm1;by_cases hlt:k<many
  .go_wp2_with fail;refine(mV w.heap.size A n c 25 _ mOm mOm hm.draw hm.ints).mono ?_;rintro x w2⟨dd,rfl,hdd,hd2,ho2⟩;have hm2:=hm.only hd2 ho2;clear hm hd2 ho2;go_wp2_with fail;refine(mV w.heap.size A n c 3 _ mOm mOm hm2.draw hm2.ints).mono ?_;rintro x w3⟨st,rfl,hst,hd3,ho3⟩;have hm3:=hm2.only hd3 ho3;clear hm2 hd3 ho3;go_wp2_with fail;obtain⟨e0,he0⟩:∃e0:Ent,e0=⟨k+1,sc,1+st,0,day+dd,0,⟨#[]⟩,0,0,0,0,0,0,0,⟨#[]⟩⟩:=⟨_,rfl⟩;have hbx:aM ((w3.alloc (Of (Ent.cells ⟨k+1,sc,1+st,0,day+dd,0,⟨#[]⟩,0,0,0,0,0,0,0,⟨#[]⟩⟩) 67)).alloc (Of (kindL.map (Value.int Oa)).toArray 3)) w3.heap.size e0:=by rw[he0];exact(aM.new w3 _).below (aq _ _)
   have hrw:eT ((w3.alloc (Of (Ent.cells ⟨k+1,sc,1+st,0,day+dd,0,⟨#[]⟩,0,0,0,0,0,0,0,⟨#[]⟩⟩) 67)).alloc (Of (kindL.map (Value.int Oa)).toArray 3)) (w3.heap.size+1) kindL:=by have:=eT.new (w3.alloc (Of (Ent.cells ⟨k+1,sc,1+st,0,day+dd,0,⟨#[]⟩,0,0,0,0,0,0,0,⟨#[]⟩⟩) 67)) kindL;rw[size_alloc] at this;exact this
   have hm4:=(hm3.below' (aq w3 (Of (Ent.cells ⟨k+1,sc,1+st,0,day+dd,0,⟨#[]⟩,0,0,0,0,0,0,0,⟨#[]⟩⟩) 67))).below' (aq _ (Of (kindL.map (Value.int Oa)).toArray 3))
   have hfr:u6.ownBlock≠Og w3.heap.size:=fun e=>absurd (hm3.ents.lt _ e).2 mOm
   have hlt3:w.heap.size<w3.heap.size:=by obtain⟨q,_,hq⟩:=hm3.draw;exact av hq
   generalize w3.heap.size=eb at *
   clear hm3;refine(mV w.heap.size A n c 15 _ mOm mOm hm4.draw hm4.ints).mono ?_;rintro x w5⟨ki,rfl,hki,hd5,ho5⟩;have hm5:=hm4.only hd5 ho5;have hbx5:=hbx.only ho5 mOm;have hrw5:=hrw.only ho5 mOm;clear hm4 hd5 ho5 hbx hrw;have hcell:=hrw5.cell (k:=ki) (show ki<kindL.length from hki);have hkr:=D0 ki hki;generalize kindL.getD ki 0=kd at hcell hkr;have hf3:=hbx5.frozen 3;have hc3:w5.cell? ⟨eb,3,Oh⟩=Og (N9 Oa e0.kind):=hbx5.cell 3;go_wp2_with fail;clear hcell hrw5 hf3 hc3;have hm6:=hm5.set hlt3 hfr 3 (N9 Oa kd);have hbx6:=hbx5.set (e':={ e0 with kind:=kd }) 3 (N9 Oa kd) rfl;generalize w5.setCell ⟨eb,3,Oh⟩ (N9 Oa kd)=w6 at *;clear hm5 hbx5;refine(mV w.heap.size A n c 3 _ mOm mOm hm6.draw hm6.ints).mono ?_;rintro x w7⟨ea,rfl,hea,hd7,ho7⟩;have hm7:=hm6.only hd7 ho7;have hbx7:=hbx6.only ho7 mOm;clear hm6 hbx6 hd7 ho7;go_wp2_with fail;refine(mV w.heap.size A n c 120 _ mOm mOm hm7.draw hm7.ints).mono ?_;rintro x w8⟨eb2,rfl,heb2,hd8,ho8⟩;have hm8:=hm7.only hd8 ho8;have hbx8:=hbx7.only ho8 mOm;clear hm7 hbx7 hd8 ho8;have hmul:ea*eb2<=2*119:=Nat.mul_le_mul mOm mOm;have hmw:IntKind.i64.wrap ((ea:Int)*(eb2:Int))=((ea*eb2:Nat):Int):=by rw[<-Int.natCast_mul];exact IntWalk.i64_in _ mOm
   go_wp2_with fail;have hea3:(ea:Int)*(eb2:Int)=((ea*eb2:Nat):Int):=(Int.natCast_mul _ _).symm;rw[hea3];generalize ea*eb2=early at hmul;clear hea3 hmw hea heb2;refine(mV w.heap.size A n c 30 _ mOm mOm hm8.draw hm8.ints).mono ?_;rintro x w9⟨nn,rfl,hnn,hd9,ho9⟩;have hm9:=hm8.only hd9 ho9;have hbx9:=hbx8.only ho9 mOm;clear hm8 hbx8 hd9 ho9;subst he0;have hlt9:=av hbx9;have hkk:kd=1\/kd=2\/kd=3\/kd=4\/kd=5\/kd=6\/kd=7\/kd=8\/kd=9:=mOm;have hd':∀e∈es,e.day<=((day:Int)+(dd:Int)):=fun e he=>by have:=hdays e he;omega
   have hlen':es.length<=1000:=mOm;have c3:w9.cell? ⟨eb,3,Oh⟩=Og (N9 Oa kd):=hbx9.cell 3
   go_upto_block 2 with fail
   clear c3;refine LT w A n c u6 es eb (k+1) sc (1+st) (day+dd) k many early nn kd _ _ mOm mOm hsc hok hlt3 hfr hkk hbx9 hm9 hlt9 ?_;intro cl cn cp cs ct cv cx cy cz cA cB cD cG cO cS cW cX d0 d1 d2 d3 d4 d5 d6 d8 d9 dc dg dk dm ds dv dx dy dT e1 e2 e3 e4 e5 e6 e7 e8 e9 ed eg ei ej wa hcut;clear hm9 hbx9 hlt9;obtain⟨rf,fr,pg,vs,hbxA,hmA,hsw,hltA⟩:=hcut;have HSW:=aa hsw;clear hsw
   go_upto_region 29 with fail
   refine Kj w A n c u6 es eb (k+1) sc (1+st) (day+dd) k many early nn kd rf fr pg vs _ _ mOm mOm hsc hok hlt3 hfr hkk hbxA ?_;rintro em a0 a1 a2 a3 a4 a5 a6 a7 a8 a9 ab ad af ag ao b0 b1 wx rfl
   go_upto_region 30 with fail
   refine Kk w A n c u6 es eb (k+1) sc (1+st) (day+dd) k many early nn kd rf fr pg vs _ _ mOm mOm hsc hok hlt3 hfr hbxA ?_;rintro b2 b3 b4 b5 b6 B wx⟨rfl,HB⟩
   go_upto_if 122 with fail
   refine Iw w A n c u6 es eb (k+1) sc (1+st) (day+dd) k many early nn kd rf fr pg vs B _ _ mOm mOm hsc hok hlt3 hfr hkk hbxA hmA HSW hltA HB ?_;intro b7 wb hcut;clear hbxA hmA HSW hltA hkk hkr HB;obtain⟨kd,rf,fr,pg,vs,hbxA,hmA,hsw,hltA⟩:=hcut;have HSW:=aa hsw;clear hsw;have c3:wb.cell? ⟨eb,3,Oh⟩=Og (N9 Oa kd):=hbxA.cell 3
   go_upto_if 126 with fail
   refine Iy w A n c u6 es eb (k+1) sc (1+st) (day+dd) k many early nn kd rf fr pg vs _ _ mOm mOm hsc hok hlt3 hfr hbxA hmA HSW hltA ?_;intro b8 b9 ba bb bc bd be bf bg bh bk bm wd hcut;clear hbxA hmA HSW hltA c3;obtain⟨kd,co,cr,rf,fr,pg,vs,hbxA,hmA,hsw,hco,hltA⟩:=hcut;have HSW:=aa hsw;clear hsw;have HCO:=aa hco;clear hco
   go_upto_region 35 with fail
   refine Kl w A n c u6 es eb (k+1) sc (1+st) (day+dd) k many early nn kd cr rf fr pg vs co _ _ mOm mOm hsc hok hlt3 hfr hbxA ?_;rintro bo bp bq br bs bt bv B wx⟨rfl,HB⟩
   go_upto_if 146 with fail
   refine Iz w A n c u6 es eb (k+1) sc (1+st) (day+dd) k many early nn kd cr rf fr pg vs co B _ _ mOm mOm hsc hok hlt3 hfr hbxA hmA HSW HCO hltA HB ?_;intro bx c0 c1 c2 c4 c6 c7 c8 ca cb cc cd ce cf cg ch ci cj ck we hcut;clear hbxA hmA HSW HCO hltA HB;obtain⟨kd,co,cr,gr,rf,fr,pg,vs,hbxA,hmA,hsw,hco,hgr,hltA⟩:=hcut;have HG:=aa (LG (day+dd) hsw hco hgr);clear hsw hco hgr;have c9:we.cell? ⟨eb,9,none⟩=some (.int .i64 rf):=hbxA.cell 9;have c5:we.cell? ⟨eb,5,none⟩=some (.int .i64 0):=hbxA.cell 5;have fz:=hbxA.frozen 5;go_wp2_with fail;refine(Nz w A n c u6 es _ sc (day+dd) _ mOm hd' hok hmA).mono ?_;rintro x w13⟨on,rfl,hon1,hon2,rfl⟩;obtain⟨m,hm0,hmD,hmx⟩:=NT on (day+dd-early) (day+dd) hon2 mOm mOm;have hM':=hmA.set hlt3 hfr 5 (.int .i64 m);have hE:aM _ eb (mkE (k+1) sc (1+st) kd (day+dd) m co cr gr rf fr pg vs):=hbxA.set 5 (.int .i64 m) rfl;have hat:=hE.at_;clear hE;go_wp2_with (first|((with_reducible refine wpList_load_mid (op:=⟨_,_,_,_,_,_⟩) ?_ 67 (.tmp 10) ?_ eb 0 ?_ (Ent.cells (mkE (k+1) sc (1+st) kd (day+dd) m co cr gr rf fr pg vs)).toList _ ?_ underlying67 ?_ ?_ ?_);rfl;rfl;rfl;exact hat;rfl;kernel_rfl)|((with_reducible refine id_at (o:=⟨_,_,_,_,_,_⟩) ?_);refine bs_ent rfl rfl rfl ?_)|(at_builtin;refine Lj rfl (.tmp 175) (.tmp 177) rfl w.heap.size u6 es rfl hM'.ents (mkE (k+1) sc (1+st) kd (day+dd) m co cr gr rf fr pg vs) _ mSi rfl mOm hM'.below.size ?_;intro v' w14 hown' hg'));have hM2:=hM'.append hown' hg';have HG2:=HG.out (k+1) (1+st) m mOm mOm mOm;clear hM' hmx hown' hg' hat HG;go_wp2_with fail
   go_roundw
   case rel=>exact⟨k+1,day+dd,_,mOm,by go_num,by go_num,mOm,by simp[hlen],hok.snoc mOm HG2 (by simp[hlen,mkE]) hd',by simp only[bI,List.mem_singleton];rintro a (ha|rfl);exact hd' a ha;simp[mkE],hM2⟩
   case measure=>simp[intOf];omega
  .obtain rfl:k=many:=mOm;go_wp2_with fail;go_ret;exact⟨u6,es,rfl,hok,hm.ents,hm.below⟩
