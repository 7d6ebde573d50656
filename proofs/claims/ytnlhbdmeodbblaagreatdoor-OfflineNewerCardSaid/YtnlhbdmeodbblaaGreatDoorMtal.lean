/- Lemmas. -/
import Derived.Laws.EntriesVeiled
import Derived.Test.YtnlhbdmeodbblaaGreatDoorMtag
import Derived.WalkMore
import Derived.ScopeJumps
import Derived.Test.YtnlhbdmeodbblaaGreatDoorMtac
import Derived.Laws.Tables
import Derived.Laws.Cover1
import Derived.Laws.ResultCell
import Derived.Laws.Rows
set_option maxRecDepth 100000
set_option maxHeartbeats 16000000
set_option linter.all false
open Go.Proofs.Tryz
open Array renaming getElem?_eq_none->gC,getElem?_modify->eJ
open Go.Lib renaming atoiAll->mI,cell_of_heap->ae,cut->ls,hid->aa
open List renaming append_assoc->bZ,getElem?_append_left->bR,getElem?_append_right->bS,getElem?_eq_none->eh,length_append->ap,length_cons->bB
open Nat renaming le_refl->az,lt_or_ge->jc,mod_lt->jX,zero_add->bP
open Option renaming map_some->jY
open Go.RowKit renaming Below->ac
open Go.World renaming block_lt_of_cell?->al,setCell->dP
open Go.Ending renaming returned->Oe
open Go.IntKind renaming i64->Oa
open Go.Obj renaming cells->Of
open Go.Value renaming int->N9,string->Ob,slice->Oc,pointer->Od
open Option renaming some->Og,none->Oh
namespace Go.Proofs.YtnlhbdmeodbblaaGreatDoor
section
open Go Go.RowKit Go.Sort Go.Lib
attribute [local go_sem] Ent.cells
def Df(b:Nat):Array Value:=#[N9 Oa 1,.func (.func 235) #[] #[Od (Og ⟨b,0,Oh⟩)],N9 Oa 12,
 N9 Oa 2,.func (.func 237) #[] #[Od (Og ⟨b,0,Oh⟩)],N9 Oa 3,
 N9 Oa 4,.func (.func 238) #[] #[Od (Og ⟨b,0,Oh⟩)],N9 Oa 3,
 N9 Oa 32,.func (.func 239) #[] #[Od (Og ⟨b,0,Oh⟩)],N9 Oa 3,
 N9 Oa 64,.func (.func 240) #[] #[Od (Og ⟨b,0,Oh⟩)],N9 Oa 3,
 N9 Oa 16,.func (.func 241) #[] #[Od (Og ⟨b,0,Oh⟩)],N9 Oa 3,
 N9 Oa 8,.func (.func 242) #[] #[Od (Og ⟨b,0,Oh⟩)],N9 Oa 21]
def fk(w:World)(g b:Nat):Prop:=w.heap[g]? = Og (Of (Df b) 257 (0,0))
theorem fk.cell{w:World}{g b:Nat}(h:fk w g b)(k:Nat):w.cell? ⟨g,k,Oh⟩=(Df b)[k]?:=ae h k
theorem fk.below{w w':World}{g b:Nat}(h:fk w g b)(hk:Below w.heap.size w w'):fk w' g b:=by unfold fk at *;rw[hk.block g (av h)];exact h
theorem fk.drewN{w:World}{g b:Nat}(h:fk w g b)(n:Nat):fk (w.drewN n) g b:=h
structure Rule1 (w:World) (e:Ent) (q g:Nat) (w':World):Prop where
 below:Below w.heap.size w w'
 box:aM w' w.heap.size e
 rules:fk w' g w.heap.size
 c0:w'.cell? ⟨q,0,Oh⟩=Og (N9 Oa 1)
 c1:w'.cell? ⟨q,1,Oh⟩=Og (.func (.func 235) #[] #[Od (Og ⟨w.heap.size,0,Oh⟩)])
 c2:w'.cell? ⟨q,2,Oh⟩=Og (N9 Oa 12)
theorem Rule1.step{w w' w'':World}{e:Ent}{q g:Nat}(h:Rule1 w e q g w')(hb:Below w'.heap.size w' w''):Rule1 w e q g w'':=
 ⟨h.below.trans (hb.mono h.below.size),h.box.below hb,h.rules.below hb,
  (hb.cell (p:=⟨q,0,Oh⟩) (al w' _ h.c0)).trans h.c0,(hb.cell (p:=⟨q,1,Oh⟩) (al w' _ h.c1)).trans h.c1,(hb.cell (p:=⟨q,2,Oh⟩) (al w' _ h.c2)).trans h.c2⟩
theorem Rule1.held{w w':World}{e:Ent}{q g:Nat}(h:Rule1 w e q g w'):Rule1 w e q g w'/\w'.cell? ⟨w.heap.size,3,Oh⟩=Og (N9 Oa e.kind)/\w'.cell? ⟨q,0,Oh⟩=Og (N9 Oa 1)/\w'.cell? ⟨q,1,Oh⟩=Og (.func (.func 235) #[] #[Od (Og ⟨w.heap.size,0,Oh⟩)]):=
 ⟨h,h.box.cell 3,h.c0,h.c1⟩
theorem fg{B:Nat}{a w:World}(h:Below B a w)(n:Nat):Below B a (w.drewN n):=h.trans ⟨rfl,rfl,rfl,az _,fun _ _=>rfl⟩
theorem aM.drewN{w:World}{b:Nat}{e:Ent}(h:aM w b e)(n:Nat):aM (w.drewN n) b e:=h
theorem gj{P:Program}{f:FuncId}{args:Array Value}{w:World}{n:Nat}{v:Value}(h:Calls P f args (w.drewN n) fun e w'=>e=Oe v/\w.drewN n=w') :
  Calls P f args (w.drewN n) fun e w''=>e=Oe v/\∃m,w''=w.drewN m:=h.mono fun _ _ ⟨he,hm⟩=>⟨he,n,hm.symm⟩
theorem gT{p q:Prop}(h:q) (f:Wq q->p:=by
 intro hq;have hltq:=av hrl;have hc3:wr.cell? ⟨w.heap.size,3,Oh⟩=Og (N9 Oa e.kind):=hbox.cell 3
 revert hltq hc3
 exact hq.1):p:=f ⟨h⟩
theorem Hi(e:Ent)(h:e.Ok)(w:World) :
    Calls prog 198 #[e.val] w fun x w'=>x=Oe (N9 Oa (dQ e))/\Below w.heap.size w w':=by
  have hb1:=aq w (Of e.cells 67);have hcs:=h.course;go_enter func198,ntmps198;go_wp2_with fail;refine(ir _ _ _ _).mono ?_;rintro x w1⟨rfl,rfl⟩
  cases h0:cQ e.id 1 899999
  case true =>
    have h0:=aa h0;go_wp2_with fail;go_ret;exact⟨aL (by unfold dQ;simp[h0.out]),hb1⟩
  have H0:=aa h0
  clear h0;go_wp2_with fail;refine(ir _ _ _ _).mono ?_;rintro x w1⟨rfl,rfl⟩
  cases h1:cQ e.school 1 8
  case true =>
    have h1:=aa h1;go_wp2_with fail;go_ret;exact⟨aL (by unfold dQ;simp[H0.out,h1.out]),hb1⟩
  have H1:=aa h1
  clear h1;go_wp2_with fail;refine(ir _ _ _ _).mono ?_;rintro x w1⟨rfl,rfl⟩
  cases h2:cQ e.student 1 999999
  case true =>
    have h2:=aa h2;go_wp2_with fail;go_ret;exact⟨aL (by unfold dQ;simp[H0.out,H1.out,h2.out]),hb1⟩
  have H2:=aa h2
  clear h2;go_wp2_with fail;refine(ir _ _ _ _).mono ?_;rintro x w1⟨rfl,rfl⟩
  cases h3:cQ e.kind 1 9
  case true =>
    have h3:=aa h3;go_wp2_with fail;go_ret;exact⟨aL (by unfold dQ;simp[H0.out,H1.out,H2.out,h3.out]),hb1⟩
  have H3:=aa h3
  clear h3;go_wp2_with fail;have hbx:=fun j=>(aM.new w e).cell j
  go_region_held3 (fun w'=>Below w.heap.size w w'/\∀j,w'.cell? ⟨w.heap.size,j,none⟩=e.cells[j]?) (first|exact⟨hb1.drew,hbx⟩|assumption)
    (first
      | (go_at_call 233;refine(F8 e _).mono ?_;rintro x w1⟨rfl,hf1⟩;have hS1:=aM.of_cells (e:=e) (by assumption) hf1;have hbw1:=aM.below (w:=(w.alloc (.cells e.cells 67)).drew) (aM.new w e) hf1)
      | (go_at_call 234;refine(EP _ _).mono ?_;rintro x w2⟨rfl,rfl⟩))
  rename_i hHeld
  clear hHeld hf1 hbx hb1
  obtain⟨hb1,hbx⟩:=hS1;have hlt:w.heap.size<w1.heap.size:=al w1 _ (show w1.cell? ⟨w.heap.size,0,Oh⟩=Og (N9 Oa e.id) from hbx 0);generalize h4:(bits .andNot Oa (mQ e) (da e.kind) != 0)=b4
  cases b4
  case true =>
    have H4:=aa h4;clear h4;go_wp2_with fail;go_ret;exact⟨aL (by unfold dQ;simp[H0.out,H1.out,H2.out,H3.out];have:=H4.out;simp at this;simp[this]),hb1⟩
  have H4:=aa h4
  clear h4;go_wp2_with fail;refine(ir _ _ _ _).mono ?_;rintro x w2⟨rfl,rfl⟩
  cases h5:cQ e.day 0 100000
  case true =>
    have h5:=aa h5;go_wp2_with fail;go_ret;exact⟨aL (by have h4:=H4.out;simp only[bne_eq_false_iff_eq] at h4;unfold dQ;simp[H0.out,H1.out,H2.out,H3.out,h5.out,h4]),hb1⟩
  have H5:=aa h5
  clear h5;go_wp2_with fail;refine(ir _ _ _ _).mono ?_;rintro x w2⟨rfl,rfl⟩
  cases h6:cQ e.on 0 e.day
  case true =>
    have h6:=aa h6;go_wp2_with fail;go_ret;exact⟨aL (by have h4:=H4.out;simp only[bne_eq_false_iff_eq] at h4;unfold dQ;simp[H0.out,H1.out,H2.out,H3.out,H5.out,h6.out,h4]),hb1⟩
  have H6:=aa h6
  clear h6;go_wp2_with fail;have hB0:Below w.heap.size w (w1.alloc (Of (Df w.heap.size) 257)):=hb1.trans ((aq _ _).mono hb1.size);obtain⟨hv,hhv⟩:∃hv,hv=da e.kind:=⟨_,rfl⟩;have qh:∀W,Calls prog 234 #[N9 Oa e.kind] W fun x w'=>x=Oe (N9 Oa hv)/\W=w':=fun W=>by rw[hhv];exact EP e.kind W
  rw[<-hhv];have hchk:dQ e=aY hv e 0:=by have h4:=H4.out;rw[<-hhv] at h4;unfold dQ;rw[H0.out,H1.out,H2.out,H3.out,H5.out,H6.out,<-hhv,h4];simp
  have HC:=aa hchk
  clear hhv hchk
  go_loopw [53] (fun i wr=>∃k:Nat,k<=7/\i=N9 Oa k/\Below w.heap.size w wr/\aM wr w.heap.size e/\fk wr w1.heap.size w.heap.size/\Hid (aY hv e 0=aY hv e k)) (fun i _=>7-(intOf i).toNat)
  case atStart=>exact⟨0,mOm,rfl,hB0,aM.below hbw1 (aq _ _),heap_alloc_new _ _,rfl⟩
  case round =>
    obtain⟨k,hk,rfl,hbe,hbox,hrl,H⟩:=hrel;have hk8:k=0\/k=1\/k=2\/k=3\/k=4\/k=5\/k=6\/k=7:=mOm;rcases hk8 with rfl|rfl|rfl|rfl|rfl|rfl|rfl|rfl
    · have hltr:=av hbox
      refine gT ?_;intro hltq hc3
      have hl0:wr.cell? ⟨w1.heap.size,0,Oh⟩=Og (N9 Oa 1):=hrl.cell 0;have hl1:wr.cell? ⟨w1.heap.size,1,Oh⟩=Og (.func (.func 235) #[] #[Od (Og ⟨w.heap.size,0,Oh⟩)]):=hrl.cell 1;have hl2:wr.cell? ⟨w1.heap.size,2,Oh⟩=Og (N9 Oa 12):=hrl.cell 2;by_cases hg:(bits .and Oa hv 1 != 0)=true
      · cases hq:(!jt e.course.data.toList)
        all_goals
          have HQ:=aa hq
          have q:=fun W hW=>Ju e mOm w.heap.size W hW
          rw[hq] at q;clear hq;go_wp2_with fail;have hba:=hbe.trans ((aq wr (Of #[N9 Oa 1,.func (.func 235) #[] #[Od (Og ⟨w.heap.size,0,Oh⟩)],N9 Oa 12] 257)).mono hbe.size);have hbb:=hbox.below (aq wr (Of #[N9 Oa 1,.func (.func 235) #[] #[Od (Og ⟨w.heap.size,0,Oh⟩)],N9 Oa 12] 257));have hbr:=hrl.below (aq wr (Of #[N9 Oa 1,.func (.func 235) #[] #[Od (Og ⟨w.heap.size,0,Oh⟩)],N9 Oa 12] 257));have hS0:Rule1 w e wr.heap.size w1.heap.size (wr.alloc (Of #[N9 Oa 1,.func (.func 235) #[] #[Od (Og ⟨w.heap.size,0,Oh⟩)],N9 Oa 12] 257)).drew:=⟨hba.drew,hbb,hbr,ae (heap_alloc_new wr _) 0,ae (heap_alloc_new wr _) 1,ae (heap_alloc_new wr _) 2⟩;clear hba hbb hbr
          go_region_held3 (fun w'=>Rule1 w e wr.heap.size w1.heap.size w'/\w'.cell? ⟨w.heap.size,3,none⟩=some (.int .i64 e.kind)/\w'.cell? ⟨wr.heap.size,0,none⟩=some (.int .i64 1)/\w'.cell? ⟨wr.heap.size,1,none⟩=some (.func (.func 235) #[] #[.pointer (some ⟨w.heap.size,0,none⟩)])) (first|exact Rule1.held hS0|assumption)
            (first
              | (go_at_call 234;refine(qh _).mono ?_;rintro x w2⟨rfl,rfl⟩)
              | (go_at_call 235;refine(q _ (Rule1.box (And.left (by assumption)))).mono ?_;rintro x w3⟨rfl,hb3⟩;have hS3:=Rule1.step (And.left (by assumption)) hb3;have hS4:=Rule1.held hS3))
          rename_i hHeld
          clear hHeld hS4
          have hc2:=hS3.c2;go_wp2_with fail
          first
            | (go_roundw
               case rel=>exact⟨1,mOm,rfl,hS3.below,hS3.box,hS3.rules,by unfold Hid;unfold aY;simp only[HQ.out];simp⟩
               case measure=>simp[intOf])
            | (go_ret
               exact⟨aL (by rw[HC.out];unfold aY;simp only[HQ.out];simp[hg]),hS3.below⟩)
      · go_wp2_with fail
        go_quiet ((go_at_call 234;exact gj (qh _)))
        go_wp2_with fail
        go_roundw
        case rel=>exact⟨1,mOm,rfl,fg (hbe.trans ((aq wr _).mono hbe.size)) _,aM.drewN (hbox.below (aq wr _)) _,fk.drewN (hrl.below (aq wr _)) _,by unfold Hid;unfold aY;simp[hg]⟩
        case measure=>simp[intOf]
    · have hltr:=av hbox
      refine gT ?_;intro hltq hc3
      have hl0:wr.cell? ⟨w1.heap.size,3,Oh⟩=Og (N9 Oa 2):=hrl.cell 3;have hl1:wr.cell? ⟨w1.heap.size,4,Oh⟩=Og (.func (.func 237) #[] #[Od (Og ⟨w.heap.size,0,Oh⟩)]):=hrl.cell 4;have hl2:wr.cell? ⟨w1.heap.size,5,Oh⟩=Og (N9 Oa 3):=hrl.cell 5;by_cases hg:(bits .and Oa hv 2 != 0)=true
      · cases hq:cQ e.credits 1 60
        all_goals
          have HQ:=aa hq
          have q:=fun W hW=>Jv e w.heap.size W hW
          rw[hq] at q;clear hq;go_wp2_with fail
          go_quiet ((first|(go_at_call 234;exact gj (qh _))|(go_at_call 237;exact gj (q _ (aM.drewN (hbox.below (aq _ _)) _)))))
          go_wp2_with fail
          first
            | (go_roundw
               case rel=>exact⟨2,mOm,rfl,fg (hbe.trans ((aq wr _).mono hbe.size)) _,aM.drewN (hbox.below (aq wr _)) _,fk.drewN (hrl.below (aq wr _)) _,by unfold Hid;rw[H.out];unfold aY;simp only[HQ.out];simp⟩
               case measure=>simp[intOf])
            | (go_ret
               exact⟨aL (by rw[HC.out,H.out];unfold aY;simp only[HQ.out];simp[hg]),fg (hbe.trans ((aq wr _).mono hbe.size)) _⟩)
      · go_wp2_with fail
        go_quiet ((go_at_call 234;exact gj (qh _)))
        go_wp2_with fail
        go_roundw
        case rel=>exact⟨2,mOm,rfl,fg (hbe.trans ((aq wr _).mono hbe.size)) _,aM.drewN (hbox.below (aq wr _)) _,fk.drewN (hrl.below (aq wr _)) _,by unfold Hid;rw[H.out];unfold aY;simp[hg]⟩
        case measure=>simp[intOf]
    · have hltr:=av hbox
      refine gT ?_;intro hltq hc3
      have hl0:wr.cell? ⟨w1.heap.size,6,Oh⟩=Og (N9 Oa 4):=hrl.cell 6;have hl1:wr.cell? ⟨w1.heap.size,7,Oh⟩=Og (.func (.func 238) #[] #[Od (Og ⟨w.heap.size,0,Oh⟩)]):=hrl.cell 7;have hl2:wr.cell? ⟨w1.heap.size,8,Oh⟩=Og (N9 Oa 3):=hrl.cell 8;by_cases hg:(bits .and Oa hv 4 != 0)=true
      · cases hq:cQ e.grade (-1000) 1000
        all_goals
          have HQ:=aa hq
          have q:=fun W hW=>Jw e w.heap.size W hW
          rw[hq] at q;clear hq;go_wp2_with fail
          go_quiet ((first|(go_at_call 234;exact gj (qh _))|(go_at_call 238;exact gj (q _ (aM.drewN (hbox.below (aq _ _)) _)))))
          go_wp2_with fail
          first
            | (go_roundw
               case rel=>exact⟨3,mOm,rfl,fg (hbe.trans ((aq wr _).mono hbe.size)) _,aM.drewN (hbox.below (aq wr _)) _,fk.drewN (hrl.below (aq wr _)) _,by unfold Hid;rw[H.out];unfold aY;simp only[HQ.out];simp⟩
               case measure=>simp[intOf])
            | (go_ret
               exact⟨aL (by rw[HC.out,H.out];unfold aY;simp only[HQ.out];simp[hg]),fg (hbe.trans ((aq wr _).mono hbe.size)) _⟩)
      · go_wp2_with fail
        go_quiet ((go_at_call 234;exact gj (qh _)))
        go_wp2_with fail
        go_roundw
        case rel=>exact⟨3,mOm,rfl,fg (hbe.trans ((aq wr _).mono hbe.size)) _,aM.drewN (hbox.below (aq wr _)) _,fk.drewN (hrl.below (aq wr _)) _,by unfold Hid;rw[H.out];unfold aY;simp[hg]⟩
        case measure=>simp[intOf]
    · have hltr:=av hbox
      refine gT ?_;intro hltq hc3
      have hl0:wr.cell? ⟨w1.heap.size,9,Oh⟩=Og (N9 Oa 32):=hrl.cell 9;have hl1:wr.cell? ⟨w1.heap.size,10,Oh⟩=Og (.func (.func 239) #[] #[Od (Og ⟨w.heap.size,0,Oh⟩)]):=hrl.cell 10;have hl2:wr.cell? ⟨w1.heap.size,11,Oh⟩=Og (N9 Oa 3):=hrl.cell 11;by_cases hg:(bits .and Oa hv 32 != 0)=true
      · cases hq:decide (e.programme<1)
        all_goals
          have HQ:=aa hq
          have q:=fun W hW=>Jx e w.heap.size W hW
          rw[hq] at q;clear hq;go_wp2_with fail
          go_quiet ((first|(go_at_call 234;exact gj (qh _))|(go_at_call 239;exact gj (q _ (aM.drewN (hbox.below (aq _ _)) _)))))
          go_wp2_with fail
          first
            | (go_roundw
               case rel=>exact⟨4,mOm,rfl,fg (hbe.trans ((aq wr _).mono hbe.size)) _,aM.drewN (hbox.below (aq wr _)) _,fk.drewN (hrl.below (aq wr _)) _,by unfold Hid;rw[H.out];unfold aY;simp only[HQ.out];simp⟩
               case measure=>simp[intOf])
            | (go_ret
               exact⟨aL (by rw[HC.out,H.out];unfold aY;simp only[HQ.out];simp[hg]),fg (hbe.trans ((aq wr _).mono hbe.size)) _⟩)
      · go_wp2_with fail
        go_quiet ((go_at_call 234;exact gj (qh _)))
        go_wp2_with fail
        go_roundw
        case rel=>exact⟨4,mOm,rfl,fg (hbe.trans ((aq wr _).mono hbe.size)) _,aM.drewN (hbox.below (aq wr _)) _,fk.drewN (hrl.below (aq wr _)) _,by unfold Hid;rw[H.out];unfold aY;simp[hg]⟩
        case measure=>simp[intOf]
    · have hltr:=av hbox
      refine gT ?_;intro hltq hc3
      have hl0:wr.cell? ⟨w1.heap.size,12,Oh⟩=Og (N9 Oa 64):=hrl.cell 12;have hl1:wr.cell? ⟨w1.heap.size,13,Oh⟩=Og (.func (.func 240) #[] #[Od (Og ⟨w.heap.size,0,Oh⟩)]):=hrl.cell 13;have hl2:wr.cell? ⟨w1.heap.size,14,Oh⟩=Og (N9 Oa 3):=hrl.cell 14;by_cases hg:(bits .and Oa hv 64 != 0)=true
      · cases hq:decide (e.version<1)
        all_goals
          have HQ:=aa hq
          have q:=fun W hW=>Jy e w.heap.size W hW
          rw[hq] at q;clear hq;go_wp2_with fail
          go_quiet ((first|(go_at_call 234;exact gj (qh _))|(go_at_call 240;exact gj (q _ (aM.drewN (hbox.below (aq _ _)) _)))))
          go_wp2_with fail
          first
            | (go_roundw
               case rel=>exact⟨5,mOm,rfl,fg (hbe.trans ((aq wr _).mono hbe.size)) _,aM.drewN (hbox.below (aq wr _)) _,fk.drewN (hrl.below (aq wr _)) _,by unfold Hid;rw[H.out];unfold aY;simp only[HQ.out];simp⟩
               case measure=>simp[intOf])
            | (go_ret
               exact⟨aL (by rw[HC.out,H.out];unfold aY;simp only[HQ.out];simp[hg]),fg (hbe.trans ((aq wr _).mono hbe.size)) _⟩)
      · go_wp2_with fail
        go_quiet ((go_at_call 234;exact gj (qh _)))
        go_wp2_with fail
        go_roundw
        case rel=>exact⟨5,mOm,rfl,fg (hbe.trans ((aq wr _).mono hbe.size)) _,aM.drewN (hbox.below (aq wr _)) _,fk.drewN (hrl.below (aq wr _)) _,by unfold Hid;rw[H.out];unfold aY;simp[hg]⟩
        case measure=>simp[intOf]
    · have hltr:=av hbox
      refine gT ?_;intro hltq hc3
      have hl0:wr.cell? ⟨w1.heap.size,15,Oh⟩=Og (N9 Oa 16):=hrl.cell 15;have hl1:wr.cell? ⟨w1.heap.size,16,Oh⟩=Og (.func (.func 241) #[] #[Od (Og ⟨w.heap.size,0,Oh⟩)]):=hrl.cell 16;have hl2:wr.cell? ⟨w1.heap.size,17,Oh⟩=Og (N9 Oa 3):=hrl.cell 17;by_cases hg:(bits .and Oa hv 16 != 0)=true
      · cases hq:(cQ e.fro 1 8||e.fro==e.school)
        all_goals
          have HQ:=aa hq
          have q:=fun W hW=>Jz e w.heap.size W hW
          rw[hq] at q;clear hq;go_wp2_with fail
          go_quiet ((first|(go_at_call 234;exact gj (qh _))|(go_at_call 241;exact gj (q _ (aM.drewN (hbox.below (aq _ _)) _)))))
          go_wp2_with fail
          first
            | (go_roundw
               case rel=>exact⟨6,mOm,rfl,fg (hbe.trans ((aq wr _).mono hbe.size)) _,aM.drewN (hbox.below (aq wr _)) _,fk.drewN (hrl.below (aq wr _)) _,by unfold Hid;rw[H.out];unfold aY;simp only[HQ.out];simp⟩
               case measure=>simp[intOf])
            | (go_ret
               exact⟨aL (by rw[HC.out,H.out];unfold aY;simp only[HQ.out];simp[hg]),fg (hbe.trans ((aq wr _).mono hbe.size)) _⟩)
      · go_wp2_with fail
        go_quiet ((go_at_call 234;exact gj (qh _)))
        go_wp2_with fail
        go_roundw
        case rel=>exact⟨6,mOm,rfl,fg (hbe.trans ((aq wr _).mono hbe.size)) _,aM.drewN (hbox.below (aq wr _)) _,fk.drewN (hrl.below (aq wr _)) _,by unfold Hid;rw[H.out];unfold aY;simp[hg]⟩
        case measure=>simp[intOf]
    · have hltr:=av hbox
      refine gT ?_;intro hltq hc3
      have hl0:wr.cell? ⟨w1.heap.size,18,Oh⟩=Og (N9 Oa 8):=hrl.cell 18;have hl1:wr.cell? ⟨w1.heap.size,19,Oh⟩=Og (.func (.func 242) #[] #[Od (Og ⟨w.heap.size,0,Oh⟩)]):=hrl.cell 19;have hl2:wr.cell? ⟨w1.heap.size,20,Oh⟩=Og (N9 Oa 21):=hrl.cell 20;by_cases hg:(bits .and Oa hv 8 != 0)=true
      · cases hq:(cQ e.ref 1 899999||e.ref==e.id)
        all_goals
          have HQ:=aa hq
          have q:=fun W hW=>JB e w.heap.size W hW
          rw[hq] at q;clear hq;go_wp2_with fail
          go_quiet ((first|(go_at_call 234;exact gj (qh _))|(go_at_call 242;exact gj (q _ (aM.drewN (hbox.below (aq _ _)) _)))))
          go_wp2_with fail
          first
            | (go_roundw
               case rel=>exact⟨7,mOm,rfl,fg (hbe.trans ((aq wr _).mono hbe.size)) _,aM.drewN (hbox.below (aq wr _)) _,fk.drewN (hrl.below (aq wr _)) _,by unfold Hid;rw[H.out];unfold aY;simp only[HQ.out];simp⟩
               case measure=>simp[intOf])
            | (go_ret
               exact⟨aL (by rw[HC.out,H.out];unfold aY;simp only[HQ.out];simp[hg]),fg (hbe.trans ((aq wr _).mono hbe.size)) _⟩)
      · go_wp2_with fail
        go_quiet ((go_at_call 234;exact gj (qh _)))
        go_wp2_with fail
        go_roundw
        case rel=>exact⟨7,mOm,rfl,fg (hbe.trans ((aq wr _).mono hbe.size)) _,aM.drewN (hbox.below (aq wr _)) _,fk.drewN (hrl.below (aq wr _)) _,by unfold Hid;rw[H.out];unfold aY;simp[hg]⟩
        case measure=>simp[intOf]
    · go_wp2_with fail
      go_ret
      exact⟨aL (by rw[HC.out,H.out];unfold aY;simp),hbe⟩
end
section
namespace Wr
open Go Go.RowKit Go.Sort Go.Lib
structure But (p:Nat) (w w':World):Prop where
 os:w'.os=w.os
 tape:w'.tape=w.tape
 output:w'.output=w.output
 size:w.heap.size<=w'.heap.size
 block:∀k,k<w.heap.size->k≠p->w'.heap[k]? = w.heap[k]?
theorem But.refl(p:Nat)(w:World):But p w w:=⟨rfl,rfl,rfl,az _,fun _ _ _=>rfl⟩
theorem But.trans{p:Nat}{a b c:World}(h:But p a b)(k:But p b c):But p a c:=
 ⟨k.os.trans h.os,k.tape.trans h.tape,k.output.trans h.output,Nat.le_trans h.size k.size,fun i hi hp=>(k.block i (Nat.lt_of_lt_of_le hi h.size) hp).trans (h.block i hi hp)⟩
theorem But.of{p:Nat}{w w':World}(h:ac w.heap.size w w'):But p w w':=⟨h.os,h.tape,h.output,h.size,fun k hk _=>h.block k hk⟩
theorem But.below{p B:Nat}{w w':World}(h:But p w w')(hp:B<=p)(hB:B<=w.heap.size):ac B w w':=⟨h.os,h.tape,h.output,h.size,fun k hk=>h.block k mOm mOm⟩
theorem But.set{p:Nat}{a w:World}(h:But p a w)(o:Nat)(v:Value):But p a (w.setCell ⟨p,o,Oh⟩ v):=
 h.trans ⟨rfl,rfl,rfl,by simp[dP],fun k _ hk=>Below.heap_setCell _ _ _ _ hk⟩
theorem But.cell{p:Nat}{w w':World}(h:But p w w'){b o:Nat}(hb:b≠p){v:Value}(hc:w.cell? ⟨b,o,Oh⟩=Og v):w'.cell? ⟨b,o,Oh⟩=Og v:=by have hl:=al w _ hc;have hh:=h.block b hl hb;simp only[World.cell?] at hc |-;rw[hh];exact hc
def RdAt(w:World)(p:Nat)(s:ByteArray)(b:Bool):Prop:=w.cell? ⟨p,0,Oh⟩=Og (Ob s)/\w.cell? ⟨p,1,Oh⟩=Og (.bool b)/\w.frozen? ⟨p,0,Oh⟩=false/\w.frozen? ⟨p,1,Oh⟩=false
theorem RdAt.lt{w:World}{p:Nat}{s:ByteArray}{b:Bool}(h:RdAt w p s b):p<w.heap.size:=al w _ h.1
theorem RdAt.below{w w':World}{p:Nat}{s:ByteArray}{b:Bool}(h:RdAt w p s b)(hb:ac w.heap.size w w'):RdAt w' p s b:=
 ⟨mv0 hb h.1,mv0 hb h.2.1,((ql hb).2 _ _ h.lt).trans h.2.2.1,((ql hb).2 _ _ h.lt).trans h.2.2.2⟩
theorem MU(w:World)(s:ByteArray)(b:Bool)(t:TypeId):RdAt (w.alloc (Of #[Ob s,.bool b] t)) w.heap.size s b:=⟨by simp[go_sem],by simp[go_sem],by simp[go_sem],by simp[go_sem]⟩
def NP(s:ByteArray)(w:World)(e:Ending)(w':World):Prop:=∃p:Nat,e=Oe (Od (Og ⟨p,0,Oh⟩))/\w.heap.size<=p/\RdAt w' p s false/\ac w.heap.size w w'
theorem new_any(s:ByteArray)(w:World):Calls prog 161 #[Ob s] w (NP s w):=by have h:=MU w s false 241;go_enter func161,ntmps161;go_wp2_with fail;go_ret;exact⟨_,rfl,az _,h,aq _ _⟩
theorem bad_any(p:Nat)(s:ByteArray)(b:Bool)(w:World)(h:RdAt w p s b):Calls prog 164 #[Od (Og ⟨p,0,Oh⟩)] w fun e w'=>e=Oe (.bool b)/\w=w':=by obtain⟨h0,h1,-,-⟩:=h;go_enter func164,ntmps164;go_wp2_with fail;go_ret;exact⟨rfl,rfl⟩
theorem left_any(p:Nat)(s:ByteArray)(b:Bool)(w:World)(h:RdAt w p s b):Calls prog 165 #[Od (Og ⟨p,0,Oh⟩)] w fun e w'=>e=Oe (N9 Oa (if b=true then 0 else (s.size:Int)))/\w=w':=by
 have c:=bad_any p s b w h;obtain⟨h0,h1,-,-⟩:=h
 cases b
 all_goals
  go_enter func165,ntmps165
  go_wp2_with fail;refine c.mono ?_;rintro x _⟨rfl,rfl⟩;go_wp2_with fail;go_ret;exact⟨rfl,rfl⟩
theorem RdAt.set{w:World}{p:Nat}{s:ByteArray}{b:Bool}(h:RdAt w p s b)(s':ByteArray):RdAt (w.setCell ⟨p,0,Oh⟩ (Ob s')) p s' b:=by obtain⟨h0,h1,f0,f1⟩:=h;exact⟨World.cell?_setCell_same _ _ _ h0,(World.cell?_setCell_other _ _ _ _ mSi).trans h1,by simpa using f0,by simpa using f1⟩
theorem RdAt.spoil{w:World}{p:Nat}{s:ByteArray}{b:Bool}(h:RdAt w p s b)(b':Bool):RdAt (w.setCell ⟨p,1,Oh⟩ (.bool b')) p s b':=by obtain⟨h0,h1,f0,f1⟩:=h;exact⟨(World.cell?_setCell_other _ _ _ _ mSi).trans h0,World.cell?_setCell_same _ _ _ h1,by simpa using f0,by simpa using f1⟩
theorem tM(p:Nat)(s:ByteArray)(b:Bool)(w:World)(h:RdAt w p s b):Calls prog 217 #[Od (Og ⟨p,0,Oh⟩)] w fun e w'=>e=Oe (.tuple #[])/\RdAt w' p ⟨#[]⟩ true/\But p w w':=by
 have hE:=(h.spoil true).set ⟨#[]⟩;have hB:=((But.refl p w).set 1 (.bool true)).set 0 (Ob ⟨#[]⟩);have hl:=h.lt;obtain⟨h0,h1,f0,f1⟩:=h;go_enter func217,ntmps217;go_wp2_with fail
 go_end0
 exact⟨rfl,hE,hB⟩
end Wr
end
section
namespace Wr
open Go Go.RowKit Go.Sort Go.Lib
def iX(s:List UInt8)(c:UInt8):Option (Int×List UInt8):=
 if (ls s [c]).2.2=true then
  match atoiAll (ls s [c]).1 with
  | .ok n=>if itoa n=(ls s [c]).1 then some (n,(ls s [c]).2.1) else none
  | _=>none
 else Oh
theorem atoi_ok(s:ByteArray)(hs:s.size<=4294967280)(v:Int)(h:mI s.data.toList=.ok v)(w:World) :
  Calls prog 212 #[Ob s] w fun e w'=>e=Oe (.tuple #[N9 Oa v,.nilIface])/\ac w.heap.size w w':=
 (Tryz.strconv_Atoi_ok s mOm v h w).mono fun e w' ⟨he,hw⟩=>⟨he,by
  rcases hw with rfl|⟨t,rfl⟩
  .exact Below.refl _ _
  .exact Lib.bytesWorld_below _ _ _⟩
def Sane(w:World):Prop:=Tabs w/\∃m,w.cell? ⟨1,0,Oh⟩=Og (N9 Oa m)
theorem Sane.below{w w':World}(h:Sane w)(hb:ac w.heap.size w w'):Sane w':=by obtain⟨h1,m,h2⟩:=h;exact⟨h1.below hb,m,by rw[(ql hb).1 _ _ (al w _ h2)];exact h2⟩
theorem Cd{B:Nat}{a w:World}(h:ac B a w)(n:Nat):ac B a (w.drewN n):=⟨h.os,h.tape,h.output,h.size,h.block⟩
theorem EF(s sep:ByteArray)(w:World)(h:Sane w)(hs:s.size<=4294967280) :
  Calls prog 250 #[Ob s,Ob sep] w fun e w'=>e=Oe (.tuple #[Ob ⟨(ls s.data.toList sep.data.toList).1.toArray⟩,Ob ⟨(ls s.data.toList sep.data.toList).2.1.toArray⟩,.bool (ls s.data.toList sep.data.toList).2.2])/\ac w.heap.size w w':=by
 obtain⟨_,m,hm⟩:=h;exact(Tryz.strings_Cut s sep m w mOm hm).mono fun e w' ⟨he,n,hw⟩=>⟨he,by rw[hw];exact Cd (Below.refl _ _) n⟩
def yG(p:Nat)(w:World)(e:Ending)(w':World):Prop:=e=Oe (.tuple #[N9 Oa 0,.bool false])/\RdAt w' p ⟨#[]⟩ true/\But p w w'
@[local go_sem] theorem CQ{l:Nat}{J:Act->World->Prop}{Q:Exit->Act->World->Prop}{a:Act}{w:World}:Exit.jump l J Q .ret a w=Q .ret a w:=rfl
def E7(p:Nat)(w0:World)(a:Act)(w:World):Prop:=(∃u1 u2 u3 u4 u5 u6 u7 u8 u9 a0 a1 a2 a3 a4 a5 a6 a7 a8 a9 ab ad af ag ao b0 b1 b2 b3 b4 b5 b6 b7 b8 b9 ba bb bc bd be bf:Value,a=⟨List.toArray (Od (Og ⟨p,0,Oh⟩)::[u1,u2,u3,u4,u5,u6,u7,u8,u9,a0,a1,a2,a3,a4,a5,a6,a7,a8,a9,ab,ad,af,ag,ao,b0,b1,b2,b3,b4,b5,b6,b7,b8,b9,ba,bb,bc,bd,be,bf]),[]⟩)/\(∃s b,RdAt w p s b)/\But p w0 w
theorem se{p:Prop} (h:p:=by
 have cf:=tM p s' b' wr hR
 (try go_step3)
 go_wp2_with fail;refine cf.mono ?_;rintro x w2⟨rfl,hR2,hB2⟩;go_wp2_with fail
 (try simp only[CQ])
 (try simp only[Exit.inBlock,Exit.then]);refine bodyPost_ret (results_tmp2 rfl _ _ _) rfl ?_
 exact⟨rfl,hR2,hB.trans hB2⟩):p:=h
theorem GA(p:Nat)(s:ByteArray)(c:UInt8)(w:World)(h:RdAt w p s true) :
  Calls prog 216 #[Od (Og ⟨p,0,Oh⟩),Ob ⟨#[c]⟩] w (yG p w):=by
 have cb:=bad_any p s true w h;go_enter func216,ntmps216;go_wp2_with fail;refine wp_scope_jumps 0 (E7 p w) (fun _ _=>0) rfl ?_ ?_
 .go_wp2_with fail;refine cb.mono ?_;rintro x _⟨rfl,rfl⟩;go_wp2_with fail
  go_step3
  exact⟨rfl,⟨_,_,_,_,_,_,_,_,_,_,_,_,_,_,_,_,_,_,_,_,_,_,_,_,_,_,_,_,_,_,_,_,_,_,_,_,_,_,_,_,rfl⟩,⟨s,true,h⟩,But.refl _ _⟩
 .rintro _ wr⟨⟨u1,u2,u3,u4,u5,u6,u7,u8,u9,a0,a1,a2,a3,a4,a5,a6,a7,a8,a9,ab,ad,af,ag,ao,b0,b1,b2,b3,b4,b5,b6,b7,b8,b9,ba,bb,bc,bd,be,bf,rfl⟩,⟨s',b',hR⟩,hB⟩;exact se
theorem GB(p:Nat)(s:ByteArray)(hs:s.size<=100000000)(c:UInt8)(w:World)(h:RdAt w p s false)(ht:Sane w)(u v:List UInt8)(hc:ls s.data.toList [c]=(u,v,false)) :
  Calls prog 216 #[Od (Og ⟨p,0,Oh⟩),Ob ⟨#[c]⟩] w (yG p w):=by
 have cb:=bad_any p s false w h;have cc:=EF s ⟨#[c]⟩ w ht mOm;rw[show(⟨#[c]⟩:ByteArray).data.toList=[c] from rfl,hc] at cc;clear hc;obtain⟨h0,h1,-,-⟩:=id h;go_enter func216,ntmps216;go_wp2_with fail;refine wp_scope_jumps 0 (E7 p w) (fun _ _=>0) rfl ?_ ?_
 .go_wp2_with fail;refine cb.mono ?_;rintro x _⟨rfl,rfl⟩;go_wp2_with fail;refine cc.mono ?_;rintro x w1⟨rfl,hb⟩;have hR:=(h.below hb).set ⟨v.toArray⟩;have hB:=(But.of (p:=p) hb).set 0 (Ob ⟨v.toArray⟩);obtain⟨k0,k1,f0,f1⟩:=h.below hb;have hl:=(h.below hb).lt;clear h0 h1 h;go_wp2_with fail
  go_step3
  exact⟨rfl,⟨_,_,_,_,_,_,_,_,_,_,_,_,_,_,_,_,_,_,_,_,_,_,_,_,_,_,_,_,_,_,_,_,_,_,_,_,_,_,_,_,rfl⟩,⟨_,_,hR⟩,hB⟩
 .rintro _ wr⟨⟨u1,u2,u3,u4,u5,u6,u7,u8,u9,a0,a1,a2,a3,a4,a5,a6,a7,a8,a9,ab,ad,af,ag,ao,b0,b1,b2,b3,b4,b5,b6,b7,b8,b9,ba,bb,bc,bd,be,bf,rfl⟩,⟨s',b',hR⟩,hB⟩;exact se
end Wr
end
section
namespace Wr
open Go Go.RowKit Go.Sort Go.Lib
def ErrVars (w : World) : Prop := (∃ tp p, w.var? prog "strconv.ErrSyntax" = Og #[.iface tp p]) ∧ ∃ tp p, w.var? prog "strconv.ErrRange" = Og #[.iface tp p]
theorem Bv{w w':World}{n:String}{cs:Array Value}(h:w.var? prog n=Og cs)(hb:ac w.heap.size w w'):w'.var? prog n=Og cs:=by
 unfold World.var? at *
 cases hg:prog.globalNamed n with
 | none=>simp only[hg] at h;cases h
 | some g =>
  simp only[hg,Option.bind_some] at h |-;have hlt:g<w.heap.size:=by
   rcases jc g w.heap.size with hx|hx
   .exact hx
   .rw[gC hx] at h;cases h
  rw[hb.block g hlt];exact h
theorem ErrVars.below{w w':World}(h:ErrVars w)(hb:ac w.heap.size w w'):ErrVars w':=by obtain⟨⟨t1,p1,h1⟩,t2,p2,h2⟩:=h;exact⟨⟨t1,p1,Bv h1 hb⟩,t2,p2,Bv h2 hb⟩
def Li(w:World)(e:Ending)(w':World):Prop:=∃(n:Int) (t:TypeId) (a:Addr),e=Oe (.tuple #[N9 Oa n,.iface t (Od (Og a))])/\ac w.heap.size w w'
theorem atoi_bad(s:ByteArray)(hs:s.size<=4294967280)(h:∀v,mI s.data.toList ≠ .ok v)(w:World)(hv:ErrVars w) :
  Calls prog 212 #[Ob s] w (Li w):=by
 obtain⟨⟨t1,p1,h1⟩,t2,p2,h2⟩:=hv;rcases hx:mI s.data.toList with v|_|_
 .exact absurd hx (h v)
 .exact(Any.strconv_Atoi_syntax_var laysC172 s mOm hx t1 p1 w h1).mono fun e w' ⟨N,he,_,_,hb⟩=>⟨_,_,_,he,hb⟩
 .exact(Any.strconv_Atoi_range_var laysC172 s mOm hx t2 p2 w h2).mono fun e w' ⟨N,he,_,_,hb⟩=>⟨_,_,_,he,hb⟩
def Past(p:Nat):Prop:=1<p/\0<p/\2<p/\3<p
theorem Sane.but{w w':World}{p:Nat}(h:Sane w)(hB:But p w w')(hp:Past p):Sane w':=by obtain⟨h1,m,h2⟩:=h;obtain⟨p1,p2,-,-⟩:=hp;have l1:=h1.lt;have b1:=hB.below (B:=0+1) mOm mOm;exact⟨var?_below b1 Ga mOm h1,m,hB.cell mOm h2⟩
theorem ErrVars.but{w w':World}{p:Nat}(h:ErrVars w)(hB:But p w w')(hp:Past p):ErrVars w':=by
 have key:∀{n:String}{cs:Array Value}(g:Nat),prog.globalNamed n=Og g->g<p->w.var? prog n=Og cs->w'.var? prog n=Og cs:=by
  intro n cs g hg hgp h;have hlt:g<w.heap.size:=by
   unfold World.var? at h;rw[hg] at h;simp only[Option.bind_some] at h;rcases jc g w.heap.size with hx|hx
   .exact hx
   .rw[gC hx] at h;cases h
  exact var?_below (hB.below (B:=g+1) mOm mOm) hg mOm h
 obtain⟨⟨t1,p1,h1⟩,t2,p2,h2⟩:=h
 exact⟨⟨t1,p1,key 2 mKr hp.2.2.1 h1⟩,t2,p2,key 3 mKr hp.2.2.2 h2⟩
theorem mZ{p q:Prop}(h:q) (f:Wq q->p:=by
 intro hq;refine cc.mono ?_;rintro x w1⟨rfl,hb⟩;have hR:=(h.below hb).set ⟨v.toArray⟩;have hB:=(But.of (p:=p) hb).set 0 (Ob ⟨v.toArray⟩);obtain⟨k0,k1,f0,f1⟩:=h.below hb;have hl:=(h.below hb).lt
 revert w1 hb hR hB k0 k1 f0 f1 hl
 exact hq.1):p:=f ⟨h⟩
theorem ns{p q:Prop}(h:q) (f:Wq q->p:=by
 intro hq;have cb:=bad_any p s false w h;have cc:=EF s ⟨#[c]⟩ w ht mOm;rw[show(⟨#[c]⟩:ByteArray).data.toList=[c] from rfl,hc] at cc
 revert cb cc
 exact hq.1):p:=f ⟨h⟩
theorem IG(p:Nat)(hp:Past p)(s:ByteArray)(hs:s.size<=100000000)(c:UInt8)(w:World)(h:RdAt w p s false)(ht:Sane w)(u v:List UInt8)(hu:u.length<=100000000)(hc:ls s.data.toList [c]=(u,v,true))(n:Int)(hn : -9223372036854775808<=n/\n<=9223372036854775807)(ha:atoiAll u=.ok n)(hi:itoa n=u) :
  Calls prog 216 #[Od (Og ⟨p,0,Oh⟩),Ob ⟨#[c]⟩] w fun e w'=>e=Oe (.tuple #[N9 Oa n,.bool true])/\RdAt w' p ⟨v.toArray⟩ false/\But p w w':=by
 refine ns ?_;intro cb cc;clear hc;obtain⟨h0,h1,-,-⟩:=id h;have ca:=fun w=>atoi_ok ⟨u.toArray⟩ (by simp[ByteArray.size];omega) n (by simpa using ha) w
 have HI:=aa hi;clear ha hi;go_enter func216,ntmps216;go_wp2_with fail
 go_step3
 go_wp2_with fail;refine cb.mono ?_;rintro x _⟨rfl,rfl⟩;go_wp2_with fail;refine mZ ?_;intro w1 hb hR hB k0 k1 f0 f1 hl;clear h0 h1 h;go_wp2_with fail;refine(ca _).mono ?_;rintro x w2⟨rfl,hb2⟩;replace hR:=hR.below hb2;replace hB:=hB.trans (But.of hb2);clear hb2 k0 k1 f0 f1 hl;go_wp2_with fail;refine(lT n _ hn.1 hn.2 (ht.but hB hp).1).mono ?_;rintro x w3⟨rfl,hb3⟩;replace hR:=hR.below hb3;replace hB:=hB.trans (But.of hb3);clear hb3;rw[HI.out];go_wp2_with fail;rw[Exit.noGoto_ret]
 (try simp only[Exit.inBlock,Exit.then]);refine bodyPost_ret (results_tmp2 rfl _ _ _) rfl ?_
 exact⟨rfl,hR,hB⟩
theorem so{p:Prop} (h:p:=by
 have cf:=tM p s' b' wr hR
 (try go_step3)
 go_wp2_with fail;refine cf.mono ?_;rintro x w2⟨rfl,hR2,hB2⟩;go_wp2_with fail
 (try simp only[CQ])
 (try simp only[Exit.inBlock,Exit.then]);refine bodyPost_ret (results_tmp2 rfl _ _ _) rfl ?_
 exact⟨rfl,hR2,hB.trans hB2⟩):p:=h
theorem rO{p:Prop} (h:p:=by
 go_wp2_with fail
 go_step3
 exact⟨rfl,⟨_,_,_,_,_,_,_,_,_,_,_,_,_,_,_,_,_,_,_,_,_,_,_,_,_,_,_,_,_,_,_,_,_,_,_,_,_,_,_,_,rfl⟩,⟨_,_,hR⟩,hB⟩):p:=h
theorem Ea(p:Nat)(hp:Past p)(s:ByteArray)(hs:s.size<=100000000)(c:UInt8)(w:World)(h:RdAt w p s false)(ht:Sane w)(u v:List UInt8)(hu:u.length<=100000000)(hc:ls s.data.toList [c]=(u,v,true))(n:Int)(hn : -9223372036854775808<=n/\n<=9223372036854775807)(ha:atoiAll u=.ok n)(hi:itoa n≠u) :
  Calls prog 216 #[Od (Og ⟨p,0,Oh⟩),Ob ⟨#[c]⟩] w (yG p w):=by
 refine ns ?_;intro cb cc;clear hc;obtain⟨h0,h1,-,-⟩:=id h;have ca:=fun w=>atoi_ok ⟨u.toArray⟩ (by simp[ByteArray.size];omega) n (by simpa using ha) w
 clear ha;go_enter func216,ntmps216;go_wp2_with fail;refine wp_scope_jumps 0 (E7 p w) (fun _ _=>0) rfl ?_ ?_
 .go_wp2_with fail;refine cb.mono ?_;rintro x _⟨rfl,rfl⟩;go_wp2_with fail;refine mZ ?_;intro w1 hb hR hB k0 k1 f0 f1 hl;clear h0 h1 h;go_wp2_with fail;refine(ca _).mono ?_;rintro x w2⟨rfl,hb2⟩;replace hR:=hR.below hb2;replace hB:=hB.trans (But.of hb2);clear hb2 k0 k1 f0 f1 hl;go_wp2_with fail;refine(lT n _ hn.1 hn.2 (ht.but hB hp).1).mono ?_;rintro x w3⟨rfl,hb3⟩;replace hR:=hR.below hb3;replace hB:=hB.trans (But.of hb3);clear hb3;have hne:(itoa n==u)=false:=by simpa using hi
  clear hi;exact rO
 .rintro _ wr⟨⟨u1,u2,u3,u4,u5,u6,u7,u8,u9,a0,a1,a3,a4,a5,a6,a7,a8,a9,ab,ad,af,ag,ao,b0,b2,b3,b4,b5,b6,b7,b8,b9,ba,bb,bc,bd,be,bf,bg,bh,rfl⟩,⟨s',b',hR⟩,hB⟩;exact so
theorem xD(p:Nat)(hp:Past p)(s:ByteArray)(hs:s.size<=100000000)(c:UInt8)(w:World)(h:RdAt w p s false)(ht:Sane w)(u v:List UInt8)(hu:u.length<=100000000)(hc:ls s.data.toList [c]=(u,v,true))(he:ErrVars w)(ha:∀n,atoiAll u ≠ .ok n) :
  Calls prog 216 #[Od (Og ⟨p,0,Oh⟩),Ob ⟨#[c]⟩] w (yG p w):=by
 refine ns ?_;intro cb cc;clear hc;obtain⟨h0,h1,-,-⟩:=id h;have ca:=fun w he=>atoi_bad ⟨u.toArray⟩ (by simp[ByteArray.size];omega) (by simpa using ha) w he
 clear ha;go_enter func216,ntmps216;go_wp2_with fail;refine wp_scope_jumps 0 (E7 p w) (fun _ _=>0) rfl ?_ ?_
 .go_wp2_with fail;refine cb.mono ?_;rintro x _⟨rfl,rfl⟩;go_wp2_with fail;refine mZ ?_;intro w1 hb hR hB k0 k1 f0 f1 hl;clear h0 h1 h;go_wp2_with fail;refine(ca _ (he.but hB hp)).mono ?_;rintro x w2⟨n2,t2,a2,rfl,hb2⟩;replace hR:=hR.below hb2;replace hB:=hB.trans (But.of hb2);clear hb2 k0 k1 f0 f1 hl;exact rO
 .rintro _ wr⟨⟨u1,u2,u3,u4,u5,u6,u7,u8,u9,a0,a1,a3,a4,a5,a6,a7,a8,a9,ab,ad,af,ag,ao,b0,b2,b3,b4,b5,b6,b7,b8,b9,ba,bb,bc,bd,be,bf,bg,bh,rfl⟩,⟨s',b',hR⟩,hB⟩;exact so
end Wr
end
section
namespace Wr
open Go Go.RowKit Go.Sort Go.Lib
theorem Ca{l:List UInt8}{n:Int}(h:mI l=.ok n) : -9223372036854775808<=n/\n<=9223372036854775807:=by
 unfold mI at h
 split at h
 .cases h
 .simp only at h
  split at h
  .cases h
  .cases h
  .split at h
   .cases h
   .split at h
    .cases h
    .injection h with h;subst h
     split <;> omega
theorem Lo(s sep:List UInt8):(ls s sep).1.length<=s.length/\(ls s sep).2.1.length<=s.length:=by
 unfold ls
 split
 .exact⟨by simp[List.length_take];omega,by simp[List.length_drop]⟩
 .exact⟨az _,Nat.zero_le _⟩
def Reads{α:Type}(p:Nat)(ok:α->Value)(bad:Value)(z:Option (α×List UInt8))(w:World)(e:Ending)(w':World):Prop:=
 match z with
 | some (n,r)=>e=.returned (ok n)/\RdAt w' p ⟨r.toArray⟩ false/\But p w w'
 | none=>e=.returned bad/\RdAt w' p ⟨#[]⟩ true/\But p w w'
theorem kR(p:Nat)(hp:Past p)(s:ByteArray)(hs:s.size<=100000000)(b:Bool)(c:UInt8)(w:World)(h:RdAt w p s b)(ht:Sane w)(he:ErrVars w) :
  Calls prog 216 #[Od (Og ⟨p,0,Oh⟩),Ob ⟨#[c]⟩] w (Reads p (fun n=>.tuple #[N9 Oa n,.bool true]) (.tuple #[N9 Oa 0,.bool false]) (if b=true then Oh else iX s.data.toList c) w):=by
 cases b
 .rw[if_neg mDe];have hl:=(Lo s.data.toList [c]).1;have hz:=bF s;rcases hc:ls s.data.toList [c] with ⟨u,v,x⟩;rw[hc] at hl
  cases x
  .have e:iX s.data.toList c=Oh:=by unfold iX;rw[hc];rfl
   rw[e];exact GB p s hs c w h ht u v hc
  .have hu:u.length<=100000000:=by simp only at hl;omega
   rcases ha:atoiAll u with n|_|_
   .have hn:=Ca ha;by_cases hi:itoa n=u
    .have e:iX s.data.toList c=Og (n,v):=by unfold iX;rw[hc];simp only[if_true,ha,hi]
     rw[e];exact IG p hp s hs c w h ht u v hu hc n hn ha hi
    .have e:iX s.data.toList c=Oh:=by unfold iX;rw[hc];simp only[if_true,ha,if_neg hi]
     rw[e];exact Ea p hp s hs c w h ht u v hu hc n hn ha hi
   .have e:iX s.data.toList c=Oh:=by unfold iX;rw[hc];simp only[if_true,ha]
    rw[e];exact xD p hp s hs c w h ht u v hu hc he (fun n hx=>by rw[ha] at hx;cases hx)
   .have e:iX s.data.toList c=Oh:=by unfold iX;rw[hc];simp only[if_true,ha]
    rw[e];exact xD p hp s hs c w h ht u v hu hc he (fun n hx=>by rw[ha] at hx;cases hx)
 .rw[if_pos rfl];exact GA p s c w h
theorem rdInt_any(p:Nat)(hp:Past p)(s:ByteArray)(hs:s.size<=100000000)(b:Bool)(w:World)(h:RdAt w p s b)(ht:Sane w)(he:ErrVars w) :
  Calls prog 162 #[Od (Og ⟨p,0,Oh⟩)] w (Reads p (fun n=>N9 Oa n) (N9 Oa 0) (if b=true then Oh else iX s.data.toList 59) w):=by
 have c:=kR p hp s hs b 59 w h ht he;generalize (if b=true then none else iX s.data.toList 59)=z at c |-;rcases z with _|⟨n,r⟩
 all_goals
  unfold Reads at c |-
  dsimp only at c |-;clear h ht he;go_enter func162,ntmps162;go_wp2_with fail;refine c.mono ?_;rintro x w1⟨rfl,hR,hB⟩;go_wp2_with fail;go_ret;exact⟨rfl,hR,hB⟩
end Wr
end
section
namespace Wr
open Go Go.RowKit Go.Sort Go.Lib
def textP(s:List UInt8):Option (List UInt8×List UInt8):=
 match iX s 58 with
 | some (n,r)=>if n<0\/(r.length:Int)<n then none else some (r.take n.toNat,r.drop n.toNat)
 | none=>none
theorem sI{p:Prop} (h:p:=by
 go_enter func163,ntmps163;go_wp2_with fail;refine c.mono ?_;rintro x w1⟨rfl,hR,hB⟩;have cf:=tM p _ _ _ hR;obtain⟨k0,k1,-,-⟩:=id hR;go_wp2_with fail;refine cf.mono ?_;rintro x w2⟨rfl,hR2,hB2⟩;go_wp2_with fail;go_ret
 exact⟨rfl,hR2,hB.trans hB2⟩):p:=h
theorem rdText_any(p:Nat)(hp:Past p)(s:ByteArray)(hs:s.size<=100000000)(b:Bool)(w:World)(h:RdAt w p s b)(ht:Sane w)(he:ErrVars w) :
  Calls prog 163 #[Od (Og ⟨p,0,Oh⟩)] w (Reads p (fun t=>Ob ⟨t.toArray⟩) (Ob ⟨#[]⟩) (if b=true then Oh else textP s.data.toList) w):=by
 have c:=kR p hp s hs b 58 w h ht he
 have e:(if b=true then none else textP s.data.toList)=match (if b=true then none else iX s.data.toList 58) with
   | some (n,r)=>if n<0\/(r.length:Int)<n then none else some (r.take n.toNat,r.drop n.toNat)
   | none=>none:=by cases b <;> rfl
 rw[e]
 clear e;generalize (if b=true then none else iX s.data.toList 58)=z at c |-;rcases z with _|⟨n,r⟩
 .unfold Reads at c |-;dsimp only at c |-;clear h ht he;go_enter func163,ntmps163;go_wp2_with fail;refine c.mono ?_;rintro x w1⟨rfl,hR,hB⟩;have cf:=tM p _ _ _ hR;go_wp2_with fail;refine cf.mono ?_;rintro x w2⟨rfl,hR2,hB2⟩;go_wp2_with fail;go_ret;exact⟨rfl,hR2,hB.trans hB2⟩
 .have hrz:(⟨r.toArray⟩:ByteArray).size=r.length:=by simp[ByteArray.size]
  have hx:(n<0)\/(0<=n/\(r.length:Int)<n)\/(0<=n/\n<=r.length):=mOm;rcases hx with h1|⟨h1,h2⟩|⟨h1,h2⟩
  .have hk:n<0\/(r.length:Int)<n:=.inl h1;dsimp only;rw[if_pos hk];unfold Reads at c |-;dsimp only at c |-;clear h ht he hk hrz;exact sI
  .have hk:n<0\/(r.length:Int)<n:=.inr h2;dsimp only;rw[if_pos hk];unfold Reads at c |-;dsimp only at c |-;clear h ht he hk;exact sI
  .have hk:¬(n<0\/(r.length:Int)<n):=mOm;have h3:n<=(⟨r.toArray⟩:ByteArray).size:=by rw[hrz];exact h2
   have e1:(⟨r.toArray⟩:ByteArray).extract 0 n.toNat=⟨(r.take n.toNat).toArray⟩:=dL (by simp[ByteArray.data_extract]);have e2:(⟨r.toArray⟩:ByteArray).extract n.toNat r.length=⟨(r.drop n.toNat).toArray⟩:=dL (by simp[ByteArray.data_extract];rw[List.take_of_length_le mSi]);dsimp only;rw[if_neg hk];unfold Reads at c |-;dsimp only at c |-;clear h ht he hk;go_enter func163,ntmps163;go_wp2_with fail;refine c.mono ?_;rintro x w1⟨rfl,hR,hB⟩;have hS:=hR.set ⟨(r.drop n.toNat).toArray⟩;have hB2:=hB.set 0 (Ob ⟨(r.drop n.toNat).toArray⟩);have hl:=hR.lt;obtain⟨k0,k1,f0,f1⟩:=id hR;clear hR;go_wp2_with fail;go_ret;exact⟨rfl,hS,hB2⟩
end Wr
end
section
namespace Wr
open Go Go.Lib
def Off(c:UInt8):Prop:=c≠45/\¬(48<=c.toNat/\c.toNat<=57)
def B6(n:Int):Prop:=-9223372036854775808<=n/\n<=9223372036854775807
theorem Nx:Off 58:=by unfold Off;decide
theorem Ny:Off 59:=by unfold Off;decide
theorem Kb(n:Int){c:UInt8}(h:Off c):∀x∈itoa n,x≠c:=by
 intro x hx e;subst e;rcases kQ n with⟨_,e⟩|⟨_,e⟩ <;> rw[e] at hx
 .exact h.2 (oZ _ _ hx)
 .rcases List.mem_cons.1 hx with k|k
  .exact h.1 k
  .exact h.2 (oZ _ _ k)
theorem CM(d:UInt8):∀(l:List UInt8),(∀c∈l,c≠d)->index l [d] = -1
 | [],_=>rfl
 | b::l,h=>by
  have hb:b≠d:=h b mSi;have:=CM d l (fun c hc=>h c (by simp[hc]));simp only[index,this];rw[if_neg (by simp[List.isPrefixOf];exact fun e=>hb e.symm)];rfl
theorem Ij(d:UInt8):∀(l r:List UInt8),(∀c∈l,c≠d)->index (l++d::r) [d]=l.length
 | [],r,_=>by simp[index,List.isPrefixOf]
 | b::l,r,h=>by
  have hb:b≠d:=h b mSi;have:=Ij d l r (fun c hc=>h c (by simp[hc]));simp only[List.cons_append,index,this];rw[if_neg (by simp[List.isPrefixOf];exact fun e=>hb e.symm),if_neg mSi];simp
theorem JH{d:UInt8}{l:List UInt8}(h:∀c∈l,c≠d):ls l [d]=(l,[],false):=by unfold ls;rw[CM d l h];rfl
theorem Ms{d:UInt8}{l r:List UInt8}(h:∀c∈l,c≠d):ls (l++d::r) [d]=(l,r,true):=by unfold ls;rw[Ij d l r h,if_pos mOm];simp
theorem KU(d:UInt8)(s:List UInt8):(∀c∈s,c≠d)\/∃u v,s=u++d::v/\∀c∈u,c≠d:=by
 by_cases h:d∈s
 .obtain⟨u,v,e,hu⟩:=List.eq_append_cons_of_mem h;exact .inr ⟨u,v,e,fun c hc e=>hu (e ▸ hc)⟩
 .exact .inl fun c hc e=>h (e ▸ hc)
theorem IF{s:List UInt8}{d:UInt8}(h:∀c∈s,c≠d):iX s d=Oh:=by unfold iX;rw[JH h];rfl
theorem ET{u v:List UInt8}{d:UInt8}(h:∀c∈u,c≠d):iX (u++d::v) d=match atoiAll u with | .ok n=>if itoa n=u then some (n,v) else none|_=>none:=by unfold iX;rw[Ms h];rfl
theorem Bg{n:Int}(hn:B6 n){d:UInt8}(hd:Off d)(r:List UInt8):iX (itoa n++d::r) d=Og (n,r):=by rw[ET (Kb n hd),atoi_itoa n hn];simp
theorem Bh{s:List UInt8}{d:UInt8}{n:Int}{r:List UInt8}(h:iX s d=Og (n,r)):s=itoa n++d::r/\B6 n:=by
 rcases KU d s with hs|⟨u,v,rfl,hu⟩
 .rw[IF hs] at h;cases h
 .rw[ET hu] at h;rcases ha:atoiAll u with m|_|_
  .rw[ha] at h;simp only at h
   split at h
   .rename_i e
    injection h with h
    injection h with h1 h2;subst h1 h2;exact⟨by rw[e],Ca ha⟩
   .cases h
  .rw[ha] at h;cases h
  .rw[ha] at h;cases h
def txtP(s:List UInt8):Option (ByteArray×List UInt8):=(textP s).map fun z=>(⟨z.1.toArray⟩,z.2)
theorem txtP_text{t:ByteArray}(ht:t.size<=100000000)(r:List UInt8):txtP (eW t++r)=Og (t,r):=by
 have hz:=bF t;have e:eW t++r=itoa t.size++58::(t.data.toList++r):=by simp[eW]
 unfold txtP textP;rw[e,Bg (by unfold B6;omega) Nx];simp only;rw[if_neg (by simp only[ap];omega)];simp only[jY,Option.some.injEq,Prod.mk.injEq];have h1:((t.size:Int).toNat)=t.data.toList.length:=mOm;rw[h1];exact⟨dL mSi,mSi⟩
theorem txtP_some{s:List UInt8}{t:ByteArray}{r:List UInt8}(h:txtP s=Og (t,r)):s=eW t++r/\t.size<=s.length:=by
 unfold txtP textP at h;rcases hn:iX s 58 with _|⟨n,q⟩
 .rw[hn] at h;cases h
 .rw[hn] at h;simp only at h
  split at h
  .cases h
  .rename_i hc
   simp only[jY,Option.some.injEq,Prod.mk.injEq] at h
   obtain⟨h1,h2⟩:=h;subst h1 h2;obtain⟨e,-⟩:=Bh hn;have hz:(⟨(q.take n.toNat).toArray⟩:ByteArray).size=n.toNat:=by simp[ByteArray.size];omega
   refine⟨?_,?_⟩
   .unfold eW;rw[hz,show((n.toNat:Nat):Int)=n by omega]
    simpa using e
   .rw[hz,e];simp only[ap,bB];omega
def intP(s:List UInt8):Option (Int×List UInt8):=iX s 59
theorem intP_int{n:Int}(hn:B6 n)(r:List UInt8):intP (dM n++r)=Og (n,r):=by unfold intP dM;rw[bZ,List.singleton_append];exact Bg hn Ny r
theorem intP_some{s:List UInt8}{n:Int}{r:List UInt8}(h:intP s=Og (n,r)):s=dM n++r/\B6 n:=by obtain⟨e,hn⟩:=Bh h;exact⟨by unfold dM;rw[bZ,List.singleton_append];exact e,hn⟩
end Wr
namespace Wr
open Go Go.Lib
end Wr
namespace Wr
open Go Go.Lib
def frm(u:List UInt8):Nat:=if u.head? = Og 45 then 1 else 0
def fin(u:List UInt8)(n:Int):Int:=if frm u=0 then -n else n
end Wr
namespace Wr
open Go Go.RowKit Go.Sort Go.Lib
end Wr
namespace Wr
open Go Go.RowKit Go.Sort Go.Lib
@[local go_sem] theorem Dk{P:Program}(w:World)(t:TypeId)(s:ByteArray)(ht:P.underlying t=Og .string)(kl kh:IntKind)(l h:Int)(h0:0<=l)(h1:l<=h)(h2:h<=s.size) :
  (Instr.slice t (Ob s) (Og (.int kl l)) (Og (.int kh h)) Oh).run P w=.ok (Ob (s.extract l.toNat h.toNat)) w:=by
 have h3:0<=h:=mOm;have h4:l.toNat<=h.toNat:=mOm;simp[Instr.slice,Instr.sliceBounds,Instr.sliceBound,asIntOf,run_underlying ht,h0,h2,h3];intro hc;exfalso;omega
theorem get_ba(s:ByteArray)(t:Nat)(h:t<s.size):s[t]'h=s.data.toList[t]'(by rw[<-bF];exact h):=rfl
end Wr
namespace Wr
open Go Go.RowKit Go.Sort Go.Lib
end Wr
end
section
open Go Go.RowKit Go.Sort Go.Lib
attribute [local go_sem] Ent.cells
def gR(e:Ent):List UInt8:=dl e.student.toNat++32::(dl e.on.toNat++32::(dl e.id.toNat++32::[UInt8.ofNat (48+e.kind.toNat)]))
def fW(e:Ent):List UInt8:=if dQ e=0 then gR e else []
theorem mN{n lo hi:Int}(h:cQ n lo hi=false):lo<=n/\n<=hi:=by simp only[cQ,Bool.or_eq_false_iff,decide_eq_false_iff_not] at h;omega
theorem qo{e:Ent}(h:dQ e=0):(1<=e.id/\e.id<=899999)/\(1<=e.school/\e.school<=8)/\(1<=e.student/\e.student<=999999)/\(1<=e.kind/\e.kind<=9)/\(0<=e.day/\e.day<=100000)/\(0<=e.on/\e.on<=e.day):=by
 unfold dQ at h
 split at h
 .cases h
 rename_i h1
 split at h
 .cases h
 rename_i h2
 split at h
 .cases h
 rename_i h3
 simp only[Bool.or_eq_true,not_or,Bool.not_eq_true] at h1 h2 h3
 exact⟨mN h1.1.1,mN h1.1.2,mN h1.2,mN h2.1,mN h3.1,mN h3.2⟩
theorem JN(k:Int)(h:1<=k/\k<=9):Utf8.encode (48+k)=⟨#[UInt8.ofNat (48+k.toNat)]⟩:=by
 have:k=1\/k=2\/k=3\/k=4\/k=5\/k=6\/k=7\/k=8\/k=9:=mOm;rcases this with rfl|rfl|rfl|rfl|rfl|rfl|rfl|rfl|rfl
 all_goals rfl
theorem Nt(l0 l1 l2 l3:List UInt8)(W:World)(t:TypeId)(h0:l0.length<=1000)(h1:l1.length<=1000)(h2:l2.length<=1000)(h3:l3.length<=1000) :
  Calls prog 199 #[Oc (Og ⟨W.heap.size,0,Oh⟩) 4 4,Ob ⟨#[32]⟩] (W.alloc (Of #[Ob ⟨l0.toArray⟩,Ob ⟨l1.toArray⟩,Ob ⟨l2.toArray⟩,Ob ⟨l3.toArray⟩] t))
   fun e w'=>e=Oe (Ob ⟨(l0++32::(l1++32::(l2++32::l3))).toArray⟩)/\Below (W.alloc (Of #[Ob ⟨l0.toArray⟩,Ob ⟨l1.toArray⟩,Ob ⟨l2.toArray⟩,Ob ⟨l3.toArray⟩] t)).heap.size (W.alloc (Of #[Ob ⟨l0.toArray⟩,Ob ⟨l1.toArray⟩,Ob ⟨l2.toArray⟩,Ob ⟨l3.toArray⟩] t)) w':=by
 have hj:Lib.join ([⟨l0.toArray⟩,⟨l1.toArray⟩,⟨l2.toArray⟩,⟨l3.toArray⟩].map (fun x:ByteArray=>x.data.toList)) (⟨#[32]⟩:ByteArray).data.toList=l0++32::(l1++32::(l2++32::l3)):=by simp[Lib.join,List.intercalate]
 have:=Tryz.strings_Join W.heap.size 0 4 [⟨l0.toArray⟩,⟨l1.toArray⟩,⟨l2.toArray⟩,⟨l3.toArray⟩] ⟨#[32]⟩ (W.alloc (Of #[Ob ⟨l0.toArray⟩,Ob ⟨l1.toArray⟩,Ob ⟨l2.toArray⟩,Ob ⟨l3.toArray⟩] t))
  (fun j x hx=>by
   rw[bP,ae (heap_alloc_new W _)]
   match j,hx with
   | 0,hx=>simp at hx;subst hx;rfl
   | 1,hx=>simp at hx;subst hx;rfl
   | 2,hx=>simp at hx;subst hx;rfl
   | 3,hx=>simp at hx;subst hx;rfl) mSi mSi mSi (by rw[hj];simp only[ap,bB];omega)
 rw[hj] at this
 exact this
theorem yB(n:Nat):(dl n).length=6:=rfl
theorem LP(e:Ent)(h:e.Ok)(w:World) :
  Calls prog 146 #[e.val] w fun x w'=>x=Oe (Ob ⟨(fW e).toArray⟩)/\Below w.heap.size w w':=by
 have hc:=fun W=>Hi e h W
 by_cases h0:dQ e=0
 .have hr:fW e=gR e:=by unfold fW;rw[if_pos h0]
  obtain⟨r1,r2,r3,r4,r5,r6⟩:=qo h0;rw[h0] at hc;have H:=aa hr;clear hr h0;obtain⟨a,ha⟩:=Int.eq_ofNat_of_zero_le (show 0<=e.student by omega);obtain⟨b,hb⟩:=Int.eq_ofNat_of_zero_le (show 0<=e.on by omega);obtain⟨c,hcc⟩:=Int.eq_ofNat_of_zero_le (show 0<=e.id by omega);have s1:=fun W=>Ax a W mOm
  have s2:=fun W=>Ax b W mOm
  have s3:=fun W=>Ax c W mOm
  rw[<-ha] at s1;rw[<-hb] at s2;rw[<-hcc] at s3;have HA:=aa ha;have HB:=aa hb;have HC:=aa hcc;clear ha hb hcc;have hcv:=JN e.kind r4;have hw1:IntKind.i64.wrap (48+e.kind)=48+e.kind:=IntWalk.i64_in _ mOm;have hw2:IntKind.i32.wrap (48+e.kind)=48+e.kind:=IntWalk.i32_in _ mOm;have hb0:=aq w (Of e.cells 67);have hbx:=fun j=>(aM.new w e).cell j
  go_enter func146,ntmps146;go_wp2_with fail;refine(hc _).mono ?_;rintro x w1⟨rfl,hb1⟩;have hbw:=aM.below (aM.new w e) hb1;have hbe:=hb0.trans (hb1.mono mSi);clear hb0 hbx hb1;have hbx:=fun j=>hbw.cell j
  go_wp2_with fail
  go_region_held3 (fun w'=>Below w.heap.size w w'/\∀j,w'.cell? ⟨w.heap.size,j,none⟩=e.cells[j]?) (first|exact⟨hbe.drew,hbx⟩|assumption|exact aM.of_cells (e:=e) (by assumption) (aq _ _))
   (first
    | (go_at_call 200;(first|(with_reducible refine(s1 _).mono ?_)|(with_reducible refine(s2 _).mono ?_)|(with_reducible refine(s3 _).mono ?_));rintro x w2⟨rfl,hb2⟩;have hS2:=aM.of_cells (e:=e) (by assumption) hb2)
    | (go_at_call 199;refine(Nt (dl a) (dl b) (dl c) [48+UInt8.ofNat e.kind.toNat] w2 _ (by rw[yB];omega) (by rw[yB];omega) (by rw[yB];omega) mSi).mono ?_;rintro x w3⟨rfl,hb3⟩;have hS3:=aM.of_cells (e:=e) (by assumption) hb3))
  rename_i hHeld
  clear hHeld
  go_wp2_with fail;go_ret;exact⟨cU (by rw[H.out];simp[gR,HA.out,HB.out,HC.out,UInt8.ofNat_add]),hS3.1⟩
 .have hr:fW e=[]:=by unfold fW;rw[if_neg h0]
  have hne:(dQ e != 0)=true:=by simpa using h0
  have H:=aa hr;clear hr h0;go_enter func146,ntmps146;go_wp2_with fail;refine(hc _).mono ?_;rintro x w1⟨rfl,hb1⟩;go_wp2_with fail;go_ret;exact⟨cU (by rw[H.out]),(aq w _).trans (hb1.mono mSi)⟩
end
section
open Go Go.RowKit Go.Sort Go.Lib
def iN(l:List Ent):List Value:=l.flatMap fun e=>e.cells.toList
theorem xz(l:List Ent)(k:Nat)(e:Ent)(h:l[k]? = Og e)(j:Nat)(v:Value)(hv:e.cells.toList[j]? = Og v):(iN l)[k*15+j]? = Og v:=by
 induction l generalizing k with
 | nil=>simp at h
 | cons a l ih =>
  have hl:a.cells.toList.length=15:=rfl;have hj:j<15:=by
   rcases jc j 15 with h'|h'
   .exact h'
   .rw[eh (by exact h')] at hv;cases hv
  have e0:iN (a::l)=a.cells.toList++iN l:=rfl
  rw[e0]
  cases k with
  | zero =>
   simp only[List.getElem?_cons_zero,Option.some.injEq] at h;subst h;rw[Nat.zero_mul,bP,bR mOm];exact hv
  | succ k =>
   rw[bS mOm,hl,show(k+1)*15+j-15=k*15+j by omega];exact ih k (by simpa using h)
end
section
open Go Go.RowKit Go.Sort Go.Lib
def vU:List Int->Nat->Int
 | [],_=>0
 | x::_,0=>x
 | _::l,k+1=>vU l k
def vV:List ByteArray->Nat->ByteArray
 | [],_=>⟨#[]⟩
 | x::_,0=>x
 | _::l,k+1=>vV l k
theorem Au(l:List Int)(k:Nat)(h:k<l.length):(l.map (Value.int Oa))[k]? = Og (N9 Oa (vU l k)):=by
 induction l generalizing k with
 | nil=>simp at h
 | cons x l ih =>
  cases k with
  | zero=>rfl
  | succ k=>simpa [vU] using ih k (by simpa using h)
theorem Av(l:List ByteArray)(k:Nat)(h:k<l.length):(l.map Value.string)[k]? = Og (Ob (vV l k)):=by
 induction l generalizing k with
 | nil=>simp at h
 | cons x l ih =>
  cases k with
  | zero=>rfl
  | succ k=>simpa [vV] using ih k (by simpa using h)
theorem Bo(W:World)(l:List Int)(t:TypeId)(b k:Nat)(hb:W.heap.size=b)(h:k<l.length):(W.alloc (Of (l.map (Value.int Oa)).toArray t)).cell? ⟨b,k,Oh⟩=Og (N9 Oa (vU l k)):=by subst hb;rw[ae (heap_alloc_new W _)];simpa using Au l k h
theorem Bp(W:World)(l:List ByteArray)(t:TypeId)(b k:Nat)(hb:W.heap.size=b)(h:k<l.length):(W.alloc (Of (l.map Value.string).toArray t)).cell? ⟨b,k,Oh⟩=Og (Ob (vV l k)):=by subst hb;rw[ae (heap_alloc_new W _)];simpa using Av l k h
theorem MZ(W:World)(x0 x1 x2 x3:Int)(t:TypeId)(b n:Nat)(hb:W.heap.size=b):(W.alloc (Of #[N9 Oa x0,N9 Oa x1,N9 Oa x2,N9 Oa x3] t)).cell? ⟨b,n%4,Oh⟩=Og (N9 Oa (vU [x0,x1,x2,x3] (n%4))):=
 Bo W [x0,x1,x2,x3] t b (n%4) hb (jX _ mDe)
theorem M0(W:World)(x0 x1 x2 x3 x4 x5:Int)(t:TypeId)(b n:Nat)(hb:W.heap.size=b):(W.alloc (Of #[N9 Oa x0,N9 Oa x1,N9 Oa x2,N9 Oa x3,N9 Oa x4,N9 Oa x5] t)).cell? ⟨b,n%6,Oh⟩=Og (N9 Oa (vU [x0,x1,x2,x3,x4,x5] (n%6))):=
 Bo W [x0,x1,x2,x3,x4,x5] t b (n%6) hb (jX _ mDe)
theorem M3(W:World)(x0 x1 x2 x3:ByteArray)(t:TypeId)(b n:Nat)(hb:W.heap.size=b):(W.alloc (Of #[Ob x0,Ob x1,Ob x2,Ob x3] t)).cell? ⟨b,n%4,Oh⟩=Og (Ob (vV [x0,x1,x2,x3] (n%4))):=
 Bp W [x0,x1,x2,x3] t b (n%4) hb (jX _ mDe)
theorem M4(W:World)(x0 x1 x2 x3 x4:ByteArray)(t:TypeId)(b n:Nat)(hb:W.heap.size=b):(W.alloc (Of #[Ob x0,Ob x1,Ob x2,Ob x3,Ob x4] t)).cell? ⟨b,n%5,Oh⟩=Og (Ob (vV [x0,x1,x2,x3,x4] (n%5))):=
 Bp W [x0,x1,x2,x3,x4] t b (n%5) hb (jX _ mDe)
theorem M1(x0 x1 x2 x3:Int)(n:Nat):[Value.int Oa x0,N9 Oa x1,N9 Oa x2,N9 Oa x3][n%4]? = Og (N9 Oa (vU [x0,x1,x2,x3] (n%4))):=Au [x0,x1,x2,x3] (n%4) (jX _ mDe)
theorem M2(x0 x1 x2 x3 x4 x5:Int)(n:Nat):[Value.int Oa x0,N9 Oa x1,N9 Oa x2,N9 Oa x3,N9 Oa x4,N9 Oa x5][n%6]? = Og (N9 Oa (vU [x0,x1,x2,x3,x4,x5] (n%6))):=Au [x0,x1,x2,x3,x4,x5] (n%6) (jX _ mDe)
theorem M5(x0 x1 x2 x3:ByteArray)(n:Nat):[Value.string x0,Ob x1,Ob x2,Ob x3][n%4]? = Og (Ob (vV [x0,x1,x2,x3] (n%4))):=Av [x0,x1,x2,x3] (n%4) (jX _ mDe)
theorem M6(x0 x1 x2 x3 x4:ByteArray)(n:Nat):[Value.string x0,Ob x1,Ob x2,Ob x3,Ob x4][n%5]? = Og (Ob (vV [x0,x1,x2,x3,x4] (n%5))):=Av [x0,x1,x2,x3,x4] (n%5) (jX _ mDe)
attribute [local go_sem] MZ M0 M3 M4 M1 M2 M5 M6
theorem He(w:World)(o o':Obj):ac w.heap.size w ((w.alloc o).alloc o'):=((Below.refl _ _).alloc (az _) o).alloc mSi o'
theorem Mp(w:World)(o o' o'':Obj):ac w.heap.size w (((w.alloc o).alloc o').alloc o''):=(He w o o').alloc (by simp;omega) o''
theorem aM.setc{w:World}{b:Nat}{e e':Ent}(h:aM w b e)(j:Nat)(u:Value)(he:e.cells.setIfInBounds j u=e'.cells):aM (w.setCell ⟨b,j,Oh⟩ u) b e':=by unfold aM at *;rw[<-he];simp[dP,eJ,h]
def zeroCells:Array Value:=#[N9 Oa 0,N9 Oa 0,N9 Oa 0,N9 Oa 0,N9 Oa 0,N9 Oa 0,Ob ⟨#[]⟩,N9 Oa 0,N9 Oa 0,N9 Oa 0,N9 Oa 0,N9 Oa 0,N9 Oa 0,N9 Oa 0,Ob ⟨#[]⟩]
theorem Nr(w:World)(o o' o'':Obj):(((w.alloc o).alloc o').alloc o'').heap[w.heap.size]? = Og o/\(((w.alloc o).alloc o').alloc o'').heap[w.heap.size+1+1]? = Og o'':=by
 constructor
 .rw[(aq ((w.alloc o).alloc o') o'').block _ (by simp;omega),(aq (w.alloc o) o').block _ mSi];exact heap_alloc_new _ _
 .have:=heap_alloc_new ((w.alloc o).alloc o') o'';rw[size_alloc,size_alloc] at this;exact this
theorem gi{W:World}{b:Nat}{cs:Array Value}{t:TypeId}{fz:Nat×Nat}(h:W.heap[b]? = Og (Of cs t fz))(cs':Array Value):(W.setRow b cs').heap[b]? = Og (Of cs' t fz):=by simp[World.setRow,eJ,h]
theorem bu{B b:Nat}{w W:World}(h:ac B w W)(hb:B<=b)(cs:Array Value):ac B w (W.setRow b cs):=
 h.trans ⟨rfl,rfl,rfl,by simp[World.setRow],fun k hk=>by
  show(W.heap.modify b _)[k]? = W.heap[k]?
  rw[eJ,if_neg mOm]⟩
end
section
open Go Go.RowKit Go.Sort Go.Lib
def Ents(base:Nat)(w:World)(v:Value)(es:List Ent):Prop:=w.ownsRow base 67 15 v es.length (iN es)
theorem Ents.below{base:Nat}{w w':World}{v:Value}{es:List Ent}(h:Ents base w v es)(hb:Below w.heap.size w w'):Ents base w' v es:=
 World.ownsRow.kept (row:=Oh) h ⟨hb.os,hb.tape,hb.output,hb.size,fun k hk _=>hb.block k hk⟩ (by cases hv:v.ownBlock <;> simp)
theorem Ents.form{base:Nat}{w:World}{v:Value}{es:List Ent}(h:Ents base w v es):∃A c,v=Oc A es.length c/\(0<es.length->∃g,A=Og ⟨g,0,Oh⟩/\base<=g/\g<w.heap.size/\∀k e,es[k]? = Og e->EntAt w g (k*15) e):=by
 rcases h.2 with ⟨hv,h0⟩|⟨g,cap,cur,hv,hb,hg,hn,hc,hs,htake⟩
 .exact⟨Oh,0,by rw[hv,h0],fun hp=>by omega⟩
 .refine⟨Og ⟨g,0,Oh⟩,cap,hv,fun _=>⟨g,rfl,hb,av hg,fun k e he j u hu=>?_⟩⟩;have h1:=xz es k e he j u hu;rw[ae hg];rw[<-htake,List.getElem?_take] at h1
  split at h1
  .simpa using h1
  .cases h1
end
section
open Go Go.RowKit Go.Sort Go.Lib
attribute [local go_sem] Ent.cells
def codesL:List ByteArray:=[⟨#[65,49]⟩,⟨#[66,49]⟩,⟨#[66,50]⟩,⟨#[67,49]⟩,⟨#[68,49]⟩,⟨#[69,57]⟩]
structure Good (sc:Int) (e:Ent):Prop where
 id:1<=e.id/\e.id<=24
 school:e.school=sc
 student:1<=e.student/\e.student<=3
 kind:1<=e.kind/\e.kind<=9
 day:0<=e.day/\e.day<=600
 on:0<=e.on/\e.on<=e.day
 key:e.key=0
 mark:e.mark=⟨#[]⟩
 course:if e.kind=3 then e.course∈codesL/\(e.credits=5\/e.credits=6\/e.credits=10) else e.course=⟨#[]⟩/\e.credits=0
 grade:if e.kind=3\/e.kind=4 then 0<=e.grade/\e.grade<=100 else e.grade=0
 ref:if e.kind=4\/e.kind=5\/e.kind=6\/e.kind=9 then 1<=e.ref/\e.ref<e.id else e.ref=0
 fro:if e.kind=7 then e.fro=1+sc%3 else e.fro=0
 programme:if e.kind=1\/e.kind=8\/e.kind=2 then 1<=e.programme/\e.programme<=2 else e.programme=0
 version:if e.kind=2 then 1<=e.version/\e.version<=3 else e.version=0
structure fQ (sc:Int) (es:List Ent):Prop where
 len:es.length<=24
 good:∀e∈es,Good sc e
 ids:∀(k:Nat)(e:Ent),es[k]? = Og e->e.id=k+1
 days:∀(i j:Nat)(a b:Ent),i<=j->es[i]? = Og a->es[j]? = Og b->a.day<=b.day
def BX(d:Nat)(A:Option Addr)(n c:Nat)(w:World):Prop:=∃k,k<=n/\pI w d A n c k
structure MR (w:World) (A:Option Addr) (n c:Nat) (v:Value) (es:List Ent) (wr:World):Prop where
 below:ac w.heap.size w wr
 ents:Ents w.heap.size wr v es
 draw:BX w.heap.size A n c wr
 ints:eU w.heap.size A n wr
theorem EN{base:Nat}{w:World}{v:Value}{es:List Ent}{d:Nat}{cs:Array Value}{t:TypeId}(h:Ents base w v es)(hd:w.heap[d]? = Og (Of cs t (0,0)))(ht:t≠67):v.ownBlock≠Og d:=by
 rcases h.2 with ⟨hv,_⟩|⟨g,cap,cur,hv,hb,hg,_⟩
 .rw[hv];simp[Value.ownBlock]
 .rw[hv];intro e;have e':g=d:=by simpa [Value.ownBlock] using e
  subst e';rw[hg] at hd;injection hd with hd;injection hd with _ hd;exact ht hd.symm
theorem eU.only{B d:Nat}{A:Option Addr}{n:Nat}{w w':World}(h:eU B A n w)(hB:B<=d)(hw:B<=w.heap.size)(ho:Only d w w'):eU B A n w':=
 h.below ⟨ho.os,ho.tape,ho.output,ho.size,fun k hk=>ho.block k mOm (by simp;omega)⟩
theorem MR.only{w wr w':World}{A:Option Addr}{n c:Nat}{v:Value}{es:List Ent}(h:MR w A n c v es wr)(hd:BX w.heap.size A n c w')(ho:Only w.heap.size wr w'):MR w A n c v es w':=by
 obtain⟨k,hk,hda⟩:=h.draw;refine⟨h.below.trans ⟨ho.os,ho.tape,ho.output,ho.size,fun k hk=>ho.block k (by have:=h.below.size;omega) (by simp;omega)⟩,?_,hd,h.ints.only (az _) h.below.size ho⟩;exact World.ownsRow.kept h.ents ho (.inr (EN h.ents hda mDe))
theorem MR.set{w wr:World}{A:Option Addr}{n c:Nat}{v:Value}{es:List Ent}(h:MR w A n c v es wr){b:Nat}(hb:w.heap.size<b)(hv:v.ownBlock≠Og b)(j:Nat)(u:Value):MR w A n c v es (wr.setCell ⟨b,j,Oh⟩ u):=by
 obtain⟨k,hk,hda⟩:=h.draw;have ho:wr.grownBy (wr.setCell ⟨b,j,Oh⟩ u) (Og b):=⟨rfl,rfl,rfl,by simp[dP],fun k _ hk=>Below.heap_setCell _ _ _ _ (by simpa using hk)⟩;have hbl:ac w.heap.size wr (wr.setCell ⟨b,j,Oh⟩ u):=⟨rfl,rfl,rfl,by simp[dP],fun k hk=>Below.heap_setCell _ _ _ _ (by show k≠b;omega)⟩;refine⟨h.below.trans hbl,World.ownsRow.kept h.ents ho (.inr hv),⟨k,hk,?_⟩,h.ints.below hbl⟩;unfold pI at *;rw[Below.heap_setCell _ _ _ _ (by show w.heap.size≠b;omega)];exact hda
theorem aM.only{w w':World}{b d:Nat}{e:Ent}(h:aM w b e)(ho:Only d w w')(hbd:b≠d):aM w' b e:=by unfold aM at *;rw[ho.block b (av h) (by simpa using hbd)];exact h
theorem eT.only{w w':World}{b d:Nat}{l:List Int}(h:eT w b l)(ho:Only d w w')(hbd:b≠d):eT w' b l:=by unfold eT at *;rw[ho.block b (av h) (by simpa using hbd)];exact h
theorem aM.set{w:World}{b:Nat}{e e':Ent}(h:aM w b e)(j:Nat)(u:Value)(he:e.cells.setIfInBounds j u=e'.cells):aM (w.setCell ⟨b,j,Oh⟩ u) b e':=by unfold aM at *;rw[<-he];simp[dP,eJ,h]
theorem aM.frozen{w:World}{b:Nat}{e:Ent}(h:aM w b e)(j:Nat):w.frozen? ⟨b,j,Oh⟩=false:=Lib.frozen_of_heap h j
theorem eR{W:World}{b:Nat}{o:Obj}(h:W.heap[b]? = Og o)(o':Obj):(W.alloc o').heap[b]? = Og o:=(Below.heap_alloc W o' b (av h)).trans h
theorem nR(w:World)(a:Addr)(u:Value):(w.setCell a u).heap.size=w.heap.size:=by simp[dP]
theorem MR.append{w W w':World}{A:Option Addr}{n c:Nat}{v v':Value}{es:List Ent}{e:Ent}{o:Obj}(h:MR w A n c v es W)(hown:Ents w.heap.size w' v' (es++[e]))(hg:(W.alloc o).grownBy w' v.ownBlock):MR w A n c v' (es++[e]) w':=by
 obtain⟨k,hk,hda⟩:=h.draw;have hne:=EN h.ents hda mDe;have hb:ac w.heap.size W w':=((aq W o).mono h.below.size).grown hg (by simp;have:=h.below.size;omega) (fun q hq=>(World.ownsRow.lt h.ents q hq).1);refine⟨h.below.trans hb,hown,⟨k,hk,?_⟩,h.ints.below hb⟩;unfold pI at *;rw[hg.block _ (by simp;have:=av hda;omega) (fun e=>hne e.symm),Below.heap_alloc _ _ _ (av hda)];exact hda
theorem fQ.snoc{sc:Int}{es:List Ent}(h:fQ sc es){e:Ent}(hl:es.length<24)(hg:Good sc e)(hid:e.id=es.length+1)(hd:∀a∈es,a.day<=e.day):fQ sc (es++[e]):=by
 refine⟨by simp;omega,?_,?_,?_⟩
 .intro a ha;rcases List.mem_append.1 ha with ha|ha
  .exact h.good a ha
  .simp at ha;subst ha;exact hg
 .intro k a ha;rcases jc k es.length with hk|hk
  .rw[bR hk] at ha;exact h.ids k a ha
  .rw[bS hk] at ha;have h0:k-es.length=0:=by
    rcases Nat.eq_zero_or_pos (k-es.length) with h0|h0
    .exact h0
    .rw[eh (by simp;omega)] at ha;cases ha
   rw[h0] at ha
   simp at ha;subst ha;rw[hid];omega
 .intro i j a b hij ha hb;rcases jc j es.length with hj|hj
  .rw[bR hj] at hb;rw[bR mOm] at ha;exact h.days i j a b hij ha hb
  .rw[bS hj] at hb;have h0:j-es.length=0:=by
    rcases Nat.eq_zero_or_pos (j-es.length) with h0|h0
    .exact h0
    .rw[eh (by simp;omega)] at hb;cases hb
   rw[h0] at hb
   simp at hb;subst hb;rcases jc i es.length with hi|hi
   .rw[bR hi] at ha;exact hd a (List.mem_of_getElem? ha)
   .have:i=j:=mOm;subst this;rw[bS hi,h0] at ha;simp at ha;subst ha;exact Int.le_refl _
def mkE(id sc st kd day on:Int)(co:ByteArray)(cr gr rf fr pg vs:Int):Ent:=⟨id,sc,st,kd,day,on,co,cr,gr,rf,fr,pg,vs,0,⟨#[]⟩⟩
def iJ(kd:Int):Bool:=kd==4||kd==5||kd==6||kd==9
def SwOk(kd sc n rf fr pg vs:Int):Prop:=(if iJ kd=true then rf=0\/1<=rf/\rf<=n else rf=0)/\(if kd=7 then fr=1+sc%3 else fr=0)/\
 (if kd=1\/kd=8\/kd=2 then 1<=pg/\pg<=2 else pg=0)/\(if kd=2 then 1<=vs/\vs<=3 else vs=0)
def RA(w:World)(A:Option Addr)(n c:Nat)(v:Value)(es:List Ent)(eb:Nat)(id sc st kd day:Int)(wx:World):Prop:=
 ∃rf fr pg vs,aM wx eb (mkE id sc st kd day 0 ⟨#[]⟩ 0 0 rf fr pg vs)/\MR w A n c v es wx/\SwOk kd sc es.length rf fr pg vs/\eb<wx.heap.size
def SwB(kd sc n rf fr pg vs:Int):Prop:=(1<=kd/\kd<=9)/\(if iJ kd=true then 1<=rf/\rf<=n else rf=0)/\(if kd=7 then fr=1+sc%3 else fr=0)/\
 (if kd=1\/kd=8\/kd=2 then 1<=pg/\pg<=2 else pg=0)/\(if kd=2 then 1<=vs/\vs<=3 else vs=0)
theorem SwOk.same{kd sc n rf fr pg vs:Int}(h:SwOk kd sc n rf fr pg vs)(hk:kd=1\/kd=2\/kd=3\/kd=4\/kd=5\/kd=6\/kd=7\/kd=8\/kd=9)(hr:¬(iJ kd=true/\rf=0)):SwB kd sc n rf fr pg vs:=by
 unfold SwOk at h;unfold SwB;rcases hk with rfl|rfl|rfl|rfl|rfl|rfl|rfl|rfl|rfl <;> simp[iJ] at hr h |- <;> omega
def zW(kd:Int)(co:ByteArray)(cr:Int):Prop:=if kd=3 then co∈codesL/\(cr=5\/cr=6\/cr=10) else co=⟨#[]⟩/\cr=0
def RB(w:World)(A:Option Addr)(n c:Nat)(v:Value)(es:List Ent)(eb:Nat)(id sc st day:Int)(wx:World):Prop:=
 ∃kd rf fr pg vs,aM wx eb (mkE id sc st kd day 0 ⟨#[]⟩ 0 0 rf fr pg vs)/\MR w A n c v es wx/\SwB kd sc es.length rf fr pg vs/\eb<wx.heap.size
def RC(w:World)(A:Option Addr)(n c:Nat)(v:Value)(es:List Ent)(eb:Nat)(id sc st day:Int)(wx:World):Prop:=
 ∃kd co cr rf fr pg vs,aM wx eb (mkE id sc st kd day 0 co cr 0 rf fr pg vs)/\MR w A n c v es wx/\SwB kd sc es.length rf fr pg vs/\zW kd co cr/\eb<wx.heap.size
end
section
open Go Go.RowKit Go.Sort Go.Lib
def mx(x y:Int):Int:=if y>x then y else x
def mn(x y:Int):Int:=if y<x then y else x
theorem mq{P:Program}(w:World)(ts:Array TypeId)(t:TypeId)(k k':IntKind)(x y:Int):(Builtin.max_ ts t #[.int k x,.int k' y]).run P w=.ok (.int k (mx x y)) w:=run_max_int2 w ts t k k' x y
theorem mr{P:Program}(w:World)(ts:Array TypeId)(t:TypeId)(k k':IntKind)(x y:Int):(Builtin.min_ ts t #[.int k x,.int k' y]).run P w=.ok (.int k (mn x y)) w:=run_min_int2 w ts t k k' x y
end
section
open Go Go.RowKit Go.Sort Go.Lib
attribute [local go_sem] Ent.cells
def entZ:Ent:=⟨0,0,0,0,0,0,⟨#[]⟩,0,0,0,0,0,0,0,⟨#[]⟩⟩
theorem aM.far2{w:World}{b b':Nat}{e:Ent}(h:aM w b e)(hb:b≠b')(j:Nat)(u:Value):aM (w.setCell ⟨b',j,Oh⟩ u) b e:=by unfold aM at *;rw[Below.heap_setCell _ _ _ _ hb];exact h
theorem vY{w:World}(o1 o2 o3:Obj):ac w.heap.size w (((w.alloc o1).alloc o2).alloc o3)/\(((w.alloc o1).alloc o2).alloc o3).heap[w.heap.size]? = Og o1/\(((w.alloc o1).alloc o2).alloc o3).heap[w.heap.size+1]? = Og o2/\(((w.alloc o1).alloc o2).alloc o3).heap[w.heap.size+1+1]? = Og o3:=by have h1:=heap_alloc_new w o1;have h2:=heap_alloc_new (w.alloc o1) o2;have h3:=heap_alloc_new ((w.alloc o1).alloc o2) o3;rw[size_alloc] at h2;rw[size_alloc,size_alloc] at h3;exact⟨(((Below.refl _ _).alloc (az _) _).alloc mSi _).alloc (by simp;omega) _,eR (eR h1 _) _,eR h2 _,h3⟩
theorem lm{fn:Func}{p u:Tmp}(h:fn.results=#[.cell p 67,.tmp u])(tmps:Array Value)(w:World)(g:Nat)(e:Ent)(hp:tmps.getD p undef=Od (Og ⟨g,0,Oh⟩))(hg:aM w g e) :
  (results fn tmps).run prog w=.ok (.tuple #[e.val,tmps.getD u undef]) w:=by
 rw[results_cell_tmp h,hp];have:=run_loadVar_row (P:=prog) w g 67 67 e.cells (0,0) _ hg underlying67 rfl mKr;simp only[asAddr,Sem.run_pure,Result.andThen_ok,this];rfl
