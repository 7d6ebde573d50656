/- Lemmas. -/
import Derived.KernelRfl
import Derived.OrdersHeld
import Derived.Deep.DeepCutAuto
import Derived.Shelf.Strings.Builder1
import Derived.Shelf.Strings.Builder2
import Derived.Shelf.Strings.OnBuilder
import Derived.Shelf.Small.Utf8
import Derived.Shelf.Small.Strs
import Derived.Shelf.Small.Wraps
import Derived.Shelf.Strings.BuilderF
import Derived.Shelf.Strings.BuilderK
import Derived.Shelf.Strings.Builder2Cap
import Derived.Shelf.Strconv.Atoi
import Derived.Shelf.Strconv.Itoa0
import Derived.Shelf.Strconv.Itoa1
import Derived.Shelf.LaysM
import Derived.Shelf.Strconv.Itoa2
import Derived.Shelf.Strconv.Itoa3
import Derived.Shelf.Strconv.AtoiErrFast
import Derived.Shelf.Strconv.ParseIntEmpty
import Derived.Shelf.Strconv.AtoiFail
import Derived.Shelf.Strconv.Clone
import Derived.Shelf.Strconv.SyntaxError
import Derived.Shelf.LaysC
import Derived.Shelf.Strconv.ToError
import Derived.Shelf.Strconv.AtoiErr
import Derived.Shelf.Strconv.ErrVar
import Derived.Shelf.Strconv.Lower
import Derived.Shelf.Strconv.ParseUint10
import Derived.Shelf.Strconv.ParseUint10Empty
import Derived.Shelf.Strconv.ParseUint10Any
import Derived.Shelf.Strconv.ParseInt10
import Derived.Shelf.Strconv.AtoiLong
import Derived.Shelf.Strconv.AtoiInnerAll
import Derived.Shelf.Strconv.RangeError
import Derived.Shelf.Strconv.ToErrorRange
import Derived.Shelf.Strconv.AtoiAll
import Derived.Shelf.Strconv.ErrVarAll
import Derived.Shelf.Strconv.ParseUintEmpty
import Derived.Shelf.Strconv.ParseUint10b64
import Derived.Shelf.Strconv.ParseUint10b32
import Derived.Shelf.Strconv.ParseUint10b16
import Derived.Shelf.Strconv.ParseUint10b8
import Derived.Shelf.Strconv.ParseUint10At
import Derived.Shelf.Strconv.ParseInt10At64
import Derived.Shelf.Strconv.ParseInt10At32
import Derived.Shelf.Strconv.ParseInt10At16
import Derived.Shelf.Strconv.ParseInt10At8
import Derived.Shelf.Strconv.ParseInt10All
import Derived.Shelf.Strings.Search1
import Derived.Shelf.Strings.Search2
import Derived.Shelf.Strings.Cut
import Derived.Shelf.Strings.Shaped
import Derived.Shelf.GgClosure.StringsIndexFunc
import Derived.Ground.GgwProg
import Derived.Shelf.GgClosure.StringsIndexFuncTop
import Derived.Shelf.GgClosure.StringsRunes
import Derived.Shelf.Strings.Prefix
import Derived.Shelf.Strings.Runes
import Derived.Shelf.Strings.FuncGrows
import Derived.Shelf.Strings.BuilderCap
import Derived.Shelf.Slices.Equal
import Derived.Ground.Names2Prog
import Derived.Shelf.Slices.SearchI
import Derived.Shelf.Slices.Empties2
import Derived.Test.YtnlhbdmeodbblaaGreatDoorProg
import Derived.Test.YtnlhbdmeodbblaaGreatDoorRows
import Derived.WalkKit
import Derived.WalkSmall
import Derived.Lib.Hide
import Derived.Lib.LaidTab
import Derived.Lib.ItoaLen
import Derived.Lib.ItoaMem
import Derived.Deep.QuietTactic
import Derived.Deep.Draws
import Derived.BigQuiet
import Derived.Laws.BytesArg
import Derived.Deep.DeepMust
import Derived.OwnWalk
import Derived.Laws.MakeOwn
import Derived.Lib.ConvBytes
import Derived.Lib.AtoiErrMem
import Derived.RangeFuncOwn
import Derived.RangeFuncCalls
import Derived.RangeFuncLeaves
import Derived.OwnWalkIn
import Derived.TacticsInMore
import Derived.BigCall
import Derived.Deep.RegionHeld3
import Derived.Deep.AppendLies
import Derived.Deep.MidRow
import Derived.Shelf.SlSortCmp.InsertionK
import Derived.Ground.SlsfProg
set_option maxRecDepth 100000
set_option maxHeartbeats 16000000
set_option linter.all false
open Go.Proofs.Tryz
open Int renaming emod_lt_of_pos->fd,emod_nonneg->gE,tmod_eq_emod_of_nonneg->bN
open Go.IntWalk renaming i64_in->aH
open Go.Lib renaming cell_of_heap->ae,hid->aa,itoa->dC,itoa_length_le->bO
open List renaming eq_nil_of_length_eq_zero->bn,foldl_append->fO,getElem?_append_left->bR,getElem?_append_right->bS,getElem?_eq_getElem->ai,getElem?_eq_some_iff->aA,length_append->ap,map_cons->fP,take_add_one->aR,take_append_drop->cP,take_length->aT
open Nat renaming add_mul->pJ,le_refl->az,le_succ->pK,le_trans->aV,lt_of_lt_of_le->ax,mul_le_mul_right->iR,pow_succ->mM,two_pow_pos->lH,zero_add->bP,zero_le->aP
open Go.RowKit renaming Below->ac,intOf->aw
open Go.World renaming alloc_heap_new->gm,putObj_heap_other->ee
open Go.Ending renaming returned->Oe
open Go.IntKind renaming i64->Oa
open Go.Obj renaming cells->Of
open Go.Value renaming int->N9,string->Ob,slice->Oc,pointer->Od
open Option renaming some->Og,none->Oh
namespace Go.Proofs.YtnlhbdmeodbblaaGreatDoor
end Go.Proofs.YtnlhbdmeodbblaaGreatDoor
section
namespace Go.Proofs
structure Wq (q:Prop):Prop where
 o:q
theorem mOm{p:Prop}(h:p:=by omega):p:=h
theorem mRf{p:Prop}(h:p:=by rfl):p:=h
theorem mDe{p:Prop}(h:p:=by decide):p:=h
theorem mKr{p:Prop}(h:p:=by kernel_rfl):p:=h
theorem mSi{p:Prop}(h:p:=by simp):p:=h
end Go.Proofs
end
namespace Go.Proofs.YtnlhbdmeodbblaaGreatDoor
end Go.Proofs.YtnlhbdmeodbblaaGreatDoor
section
namespace Go.Proofs
open Go
theorem ay{p q:Prop}(h:q)(f:Wq q->p:=by intro hq;(try simp only[Act.put,List.setIfInBounds_toArray,List.set_cons_zero,List.set_cons_succ]);exact hq.1):p:=f ⟨h⟩
theorem mPt{p:Prop}(h:p:=by simp only[Act.put,List.setIfInBounds_toArray,List.set_cons_zero,List.set_cons_succ]):p:=h
theorem mTr{α:Type}{a:Option α}{b c:α}(h:a=some b)(h2:b=c:=by kernel_rfl):a=some c:=h.trans (congrArg some h2)
theorem mWh{p q:Prop}(h:q)(f:Wq q->p:=by intro hq;(conv=>arg 2;whnf);exact hq.1):p:=f ⟨h⟩
end Go.Proofs
end
namespace Go.Proofs.YtnlhbdmeodbblaaGreatDoor
end Go.Proofs.YtnlhbdmeodbblaaGreatDoor
section
namespace Go.Proofs
open Go.Shelf
def Tryz.lays169_ren:Go.Shelf.Ren:=⟨fun|169=>99|n=>n,fun|70=>156|9=>9|0=>0|72=>158|37=>94|127=>213|3=>3|5=>5|n=>n,fun|n=>n⟩
theorem Tryz.lays169:Go.Proofs.Lays.n169 prog Tryz.lays169_ren:={
 mixed:=mKr
 f169:=mTr func99
 t0:=underlying0
 a0:=isAgg0
 z0:=sizeOf0
 v0:=zeroValue0
 t3:=underlying3
 a3:=isAgg3
 z3:=sizeOf3
 v3:=zeroValue3
 t9:=underlying9
 a9:=isAgg9
 z9:=sizeOf9
 v9:=zeroValue9
 t37:=underlying94
 a37:=isAgg94
 z37:=sizeOf94
 v37:=zeroValue94
 t70:=underlying156
 a70:=isAgg156
 z70:=sizeOf156
 v70:=zeroValue156
 t72:=underlying158
 a72:=isAgg158
 z72:=sizeOf158
 v72:=zeroValue158
 t127:=underlying213
 a127:=isAgg213
 z127:=sizeOf213
 v127:=zeroValue213 }
theorem Tryz.Builder_Extra_169:Builder.Extra prog Tryz.lays169_ren:={
 sizeBuilder:=mKr
 liesBuilder:=mKr
 t5:=underlying5
 a5:=isAgg5
 z5:=sizeOf5
 v5:=zeroValue5
 infoByte:=mKr
 cellsByte:=mKr
 sizeByte:=mKr
 neB5:=by decide }
def Tryz.lays156_ren:Go.Shelf.Ren:=⟨fun|156=>199|165=>243|166=>96|169=>99|240=>166|241=>264|276=>218|277=>283|n=>n,fun|31=>37|9=>9|3=>3|4=>4|0=>0|20=>20|72=>158|76=>161|70=>156|37=>94|75=>160|127=>213|164=>242|5=>5|80=>163|n=>n,fun|n=>n⟩
theorem Tryz.lays156:Go.Proofs.Lays.n156 prog Tryz.lays156_ren:={
 mixed:=mKr
 f156:=mTr func199
 f165:=mTr func243
 f166:=mTr func96
 f169:=mTr func99
 f240:=mTr func166
 f241:=mTr func264
 f276:=mTr func218
 f277:=mTr func283
 t0:=underlying0
 a0:=isAgg0
 z0:=sizeOf0
 v0:=zeroValue0
 t3:=underlying3
 a3:=isAgg3
 z3:=sizeOf3
 v3:=zeroValue3
 t4:=underlying4
 a4:=isAgg4
 z4:=sizeOf4
 v4:=zeroValue4
 t9:=underlying9
 a9:=isAgg9
 z9:=sizeOf9
 v9:=zeroValue9
 t20:=underlying20
 a20:=isAgg20
 z20:=sizeOf20
 v20:=zeroValue20
 t31:=underlying37
 a31:=isAgg37
 z31:=sizeOf37
 v31:=zeroValue37
 t37:=underlying94
 a37:=isAgg94
 z37:=sizeOf94
 v37:=zeroValue94
 t70:=underlying156
 a70:=isAgg156
 z70:=sizeOf156
 v70:=zeroValue156
 t72:=underlying158
 a72:=isAgg158
 z72:=sizeOf158
 v72:=zeroValue158
 t75:=underlying160
 a75:=isAgg160
 z75:=sizeOf160
 v75:=zeroValue160
 t76:=underlying161
 a76:=isAgg161
 z76:=sizeOf161
 v76:=zeroValue161
 t127:=underlying213
 a127:=isAgg213
 z127:=sizeOf213
 v127:=zeroValue213
 t164:=underlying242
 a164:=isAgg242
 z164:=sizeOf242
 v164:=zeroValue242 }
theorem Tryz.Builder_Extra_156:Builder.Extra prog Tryz.lays156_ren:={
 sizeBuilder:=mKr
 liesBuilder:=mKr
 t5:=underlying5
 a5:=isAgg5
 z5:=sizeOf5
 v5:=zeroValue5
 infoByte:=mKr
 cellsByte:=mKr
 sizeByte:=mKr
 neB5:=by decide }
open Go.RowKit in
theorem Tryz.strings_Join(bk o c:Nat)(xs:List ByteArray)(sep:ByteArray)(w:World)(hcells:∀(j:Nat) x,xs[j]? = Og x->w.cell? ⟨bk,o+j,Oh⟩=Og (Ob x))(hbk:bk<w.heap.size)(hN:xs.length<=140737488355328)(hcap:xs.length<=c)(hlen:(Lib.join (xs.map (·.data.toList)) sep.data.toList).length<=140737488355328) :
  Calls prog 199 #[Oc (Og ⟨bk,o,Oh⟩) xs.length c,Ob sep] w fun e w'=>e=Oe (Ob ⟨(Lib.join (xs.map (·.data.toList)) sep.data.toList).toArray⟩)/\Below w.heap.size w w':=Any.strings_Join lays156 Tryz.Builder_Extra_156 bk o c xs sep w hcells hbk hN hcap hlen
def Tryz.lays106_ren:Go.Shelf.Ren:=⟨fun|106=>249|213=>273|265=>291|n=>n,fun|9=>9|3=>3|n=>n,fun|n=>n⟩
theorem Tryz.lays106:Go.Proofs.Lays.n106 prog Tryz.lays106_ren:={
 mixed:=mKr
 f106:=mTr func249
 f213:=mTr func273
 f265:=mTr func291
 t3:=underlying3
 a3:=isAgg3
 z3:=sizeOf3
 v3:=zeroValue3
 t9:=underlying9
 a9:=isAgg9
 z9:=sizeOf9
 v9:=zeroValue9 }
open Go.RowKit in
theorem Tryz.strings_Compare(a b:ByteArray)(w:World) :
  Calls prog 249 #[Ob a,Ob b] w fun e w'=>e=Oe (N9 Oa (Lib.compareBytes a.data.toList b.data.toList))/\w'=w:=Any.strings_Compare lays106 a b w
def Tryz.lays122_ren:Go.Shelf.Ren:=⟨fun|122=>51|215=>114|n=>n,fun|3=>3|4=>4|n=>n,fun|n=>n⟩
theorem Tryz.lays122:Go.Proofs.Lays.n122 prog Tryz.lays122_ren:={
 mixed:=mKr
 f122:=mTr func51
 f215:=mTr func114
 t3:=underlying3
 a3:=isAgg3
 z3:=sizeOf3
 v3:=zeroValue3
 t4:=underlying4
 a4:=isAgg4
 z4:=sizeOf4
 v4:=zeroValue4 }
open Go.RowKit in
theorem Tryz.cmp_Compare_int(x y:Int)(w:World) :
  Calls prog 51 #[N9 Oa x,N9 Oa y] w fun e w'=>e=Oe (N9 Oa (Lib.compareInt x y))/\w'=w:=Any.cmp_Compare_int lays122 x y w
open Go.RowKit in
theorem Tryz.Builder_String_any_k(B b:Nat)(l:List UInt8)(w:World)(h:Lib.IsBuilderF 158 5 B b (Lib.byteCells l) w)(hBw:B<=w.heap.size) :
  Calls prog 99 #[Od (Og ⟨b,0,Oh⟩)] w fun e w'=>e=Oe (Ob ⟨l.toArray⟩)/\(Lib.IsBuilderF 158 5 B b (Lib.byteCells l) w'/\Below B w w'/\Lib.OthersKept 5 (Og b) w w'):=Any.Builder_String_any_k lays169 Tryz.Builder_Extra_169 B b l w h hBw
def Tryz.laysM171_ren:Go.Shelf.Ren:=⟨fun|171=>121|243=>183|246=>222|283=>253|284=>254|285=>255|286=>256|129=>278|317=>277|318=>279|319=>280|320=>281|337=>293|338=>294|n=>n,fun|3=>3|9=>9|2=>2|4=>4|171=>271|0=>0|53=>272|37=>94|5=>5|173=>275|212=>299|51=>300|20=>20|213=>301|46=>236|232=>317|233=>318|n=>n,fun|17=>0|18=>4|19=>5|n=>n⟩
theorem Tryz.laysM171:Go.Proofs.LaysM.n171 prog Tryz.laysM171_ren:={
 mixed:=mKr
 f129:=mTr func278
 f171:=mTr func121
 f243:=mTr func183
 f246:=mTr func222
 f283:=mTr func253
 f284:=mTr func254
 f285:=mTr func255
 f286:=mTr func256
 f317:=mTr func277
 f318:=mTr func279
 f319:=mTr func280
 f320:=mTr func281
 f337:=mTr func293
 f338:=mTr func294
 t0:=underlying0
 a0:=isAgg0
 z0:=sizeOf0
 v0:=zeroValue0
 t2:=underlying2
 a2:=isAgg2
 z2:=sizeOf2
 v2:=zeroValue2
 t3:=underlying3
 a3:=isAgg3
 z3:=sizeOf3
 v3:=zeroValue3
 t4:=underlying4
 a4:=isAgg4
 z4:=sizeOf4
 v4:=zeroValue4
 t5:=underlying5
 a5:=isAgg5
 z5:=sizeOf5
 v5:=zeroValue5
 t9:=underlying9
 a9:=isAgg9
 z9:=sizeOf9
 v9:=zeroValue9
 t20:=underlying20
 a20:=isAgg20
 z20:=sizeOf20
 v20:=zeroValue20
 t37:=underlying94
 a37:=isAgg94
 z37:=sizeOf94
 v37:=zeroValue94
 t46:=underlying236
 a46:=isAgg236
 z46:=sizeOf236
 v46:=zeroValue236
 t51:=underlying300
 a51:=isAgg300
 z51:=sizeOf300
 v51:=zeroValue300
 t53:=underlying272
 a53:=isAgg272
 z53:=sizeOf272
 v53:=zeroValue272
 t171:=underlying271
 a171:=isAgg271
 z171:=sizeOf271
 v171:=zeroValue271
 t173:=underlying275
 a173:=isAgg275
 z173:=sizeOf275
 v173:=zeroValue275
 t212:=underlying299
 a212:=isAgg299
 z212:=sizeOf299
 v212:=zeroValue299
 t213:=underlying301
 a213:=isAgg301
 z213:=sizeOf301
 t232:=underlying317
 a232:=isAgg317
 z232:=sizeOf317
 v232:=zeroValue317
 t233:=underlying318
 a233:=isAgg318
 z233:=sizeOf318
 v233:=zeroValue318
 g17:=mKr
 g18:=mKr
 g19:=mKr
 i0:=mKr
 i2:=mKr
 i3:=mKr
 i4:=mKr
 i5:=mKr
 i9:=mKr
 i20:=mKr
 i37:=mKr
 i46:=mKr
 i51:=mKr
 i53:=mKr
 i171:=mKr
 i173:=mKr
 i212:=mKr
 i232:=mKr
 i233:=mKr
 m17:=mKr
 m18:=mKr
 m19:=by kernel_rfl }
open Go.RowKit Go.Sort Go.Lib in
theorem Tryz.strconv_Itoa (n : Int) (h0 : -9223372036854775808 ≤ n) (h1 : n ≤ 9223372036854775807) (w : World) (htab : Lib.TabIs prog w "internal/strconv.uint64pow10" .u64 Lib.pow10Tab) :
  Calls prog 121 #[N9 Oa n] w fun e w'=>e=Oe (Ob ⟨(dC n).toArray⟩)/\∃k os,w'=grow (w.drewN k) os:=Any.strconv_Itoa laysM171 n h0 h1 w htab
def Tryz.laysC172_ren:Go.Shelf.Ren:=⟨fun|172=>212|244=>244|245=>245|247=>265|279=>266|280=>267|281=>268|282=>269|287=>284|316=>285|171=>121|205=>286|321=>296|322=>297|243=>183|246=>222|283=>253|284=>254|285=>255|286=>256|129=>278|317=>277|318=>279|319=>280|320=>281|337=>293|338=>294|n=>n,fun|9=>9|3=>3|75=>160|76=>161|4=>4|5=>5|167=>282|37=>94|0=>0|85=>283|2=>2|168=>285|53=>272|175=>304|46=>236|210=>307|127=>213|145=>316|143=>314|21=>21|171=>271|173=>275|212=>299|51=>300|20=>20|213=>301|232=>317|233=>318|80=>163|n=>n,fun|15=>2|16=>3|17=>0|18=>4|19=>5|n=>n⟩
theorem Tryz.laysC172:Go.Proofs.LaysC.n172 prog Tryz.laysC172_ren:={
 mixed:=mKr
 f129:=mTr func278
 f171:=mTr func121
 f172:=mTr func212
 f205:=mTr func286
 f243:=mTr func183
 f244:=mTr func244
 f245:=mTr func245
 f246:=mTr func222
 f247:=mTr func265
 f279:=mTr func266
 f280:=mTr func267
 f281:=mTr func268
 f282:=mTr func269
 f283:=mTr func253
 f284:=mTr func254
 f285:=mTr func255
 f286:=mTr func256
 f287:=mTr func284
 f316:=mTr func285
 f317:=mTr func277
 f318:=mTr func279
 f319:=mTr func280
 f320:=mTr func281
 f321:=mTr func296
 f322:=mTr func297
 f337:=mTr func293
 f338:=mTr func294
 t0:=underlying0
 a0:=isAgg0
 z0:=sizeOf0
 v0:=zeroValue0
 t2:=underlying2
 a2:=isAgg2
 z2:=sizeOf2
 v2:=zeroValue2
 t3:=underlying3
 a3:=isAgg3
 z3:=sizeOf3
 v3:=zeroValue3
 t4:=underlying4
 a4:=isAgg4
 z4:=sizeOf4
 v4:=zeroValue4
 t5:=underlying5
 a5:=isAgg5
 z5:=sizeOf5
 v5:=zeroValue5
 t9:=underlying9
 a9:=isAgg9
 z9:=sizeOf9
 v9:=zeroValue9
 t20:=underlying20
 a20:=isAgg20
 z20:=sizeOf20
 v20:=zeroValue20
 t21:=underlying21
 a21:=isAgg21
 z21:=sizeOf21
 v21:=zeroValue21
 t37:=underlying94
 a37:=isAgg94
 z37:=sizeOf94
 v37:=zeroValue94
 t46:=underlying236
 a46:=isAgg236
 z46:=sizeOf236
 v46:=zeroValue236
 t51:=underlying300
 a51:=isAgg300
 z51:=sizeOf300
 v51:=zeroValue300
 t53:=underlying272
 a53:=isAgg272
 z53:=sizeOf272
 v53:=zeroValue272
 t75:=underlying160
 a75:=isAgg160
 z75:=sizeOf160
 v75:=zeroValue160
 t76:=underlying161
 a76:=isAgg161
 z76:=sizeOf161
 v76:=zeroValue161
 t85:=underlying283
 a85:=isAgg283
 z85:=sizeOf283
 v85:=zeroValue283
 t127:=underlying213
 a127:=isAgg213
 z127:=sizeOf213
 v127:=zeroValue213
 t143:=underlying314
 a143:=isAgg314
 z143:=sizeOf314
 v143:=zeroValue314
 t145:=underlying316
 a145:=isAgg316
 z145:=sizeOf316
 v145:=zeroValue316
 t167:=underlying282
 a167:=isAgg282
 z167:=sizeOf282
 v167:=zeroValue282
 t168:=underlying285
 a168:=isAgg285
 z168:=sizeOf285
 v168:=zeroValue285
 t171:=underlying271
 a171:=isAgg271
 z171:=sizeOf271
 v171:=zeroValue271
 t173:=underlying275
 a173:=isAgg275
 z173:=sizeOf275
 v173:=zeroValue275
 t175:=underlying304
 a175:=isAgg304
 z175:=sizeOf304
 v175:=zeroValue304
 t210:=underlying307
 a210:=isAgg307
 z210:=sizeOf307
 v210:=zeroValue307
 t212:=underlying299
 a212:=isAgg299
 z212:=sizeOf299
 v212:=zeroValue299
 t213:=underlying301
 a213:=isAgg301
 z213:=sizeOf301
 t232:=underlying317
 a232:=isAgg317
 z232:=sizeOf317
 v232:=zeroValue317
 t233:=underlying318
 a233:=isAgg318
 z233:=sizeOf318
 v233:=zeroValue318
 g15:=mKr
 g16:=mKr
 g17:=mKr
 g18:=mKr
 g19:=mKr
 t80:=underlying163
 a80:=isAgg163
 z80:=sizeOf163
 v80:=zeroValue163
 i0:=mKr
 i2:=mKr
 i3:=mKr
 i4:=mKr
 i5:=mKr
 i9:=mKr
 i20:=mKr
 i21:=mKr
 i37:=mKr
 i46:=mKr
 i51:=mKr
 i53:=mKr
 i75:=mKr
 i76:=mKr
 i80:=mKr
 i85:=mKr
 i127:=mKr
 i143:=mKr
 i145:=mKr
 i167:=mKr
 i168:=mKr
 i171:=mKr
 i173:=mKr
 i175:=mKr
 i210:=mKr
 i212:=mKr
 i232:=mKr
 i233:=mKr
 m15:=mKr
 m16:=mKr
 m17:=mKr
 m18:=mKr
 m19:=mKr
 c0:=mKr
 c2:=mKr
 c3:=mKr
 c4:=mKr
 c5:=mKr
 c9:=mKr
 c20:=mKr
 c21:=mKr
 c37:=mKr
 c46:=mKr
 c51:=mKr
 c53:=mKr
 c75:=mKr
 c76:=mKr
 c80:=mKr
 c85:=mKr
 c127:=mKr
 c143:=mKr
 c145:=mKr
 c167:=mKr
 c168:=mKr
 c171:=mKr
 c173:=mKr
 c175:=mKr
 c210:=mKr
 c212:=mKr
 c213:=mKr
 c232:=mKr
 c233:=by kernel_rfl }
open Go.RowKit in
theorem Tryz.strconv_Atoi_ok(s:ByteArray)(hmax:s.size<=9223372036854775806)(v:Int)(h:Lib.atoiAll s.data.toList=.ok v)(w:World) :
  Calls prog 212 #[Ob s] w fun e w'=>e=Oe (.tuple #[N9 Oa v,.nilIface])/\(w'=w\/∃t,w'=Lib.bytesWorld w 5 t):=Any.strconv_Atoi_ok laysC172 s hmax v h w
def Tryz.lays145_ren:Go.Shelf.Ren:=⟨fun|145=>250|220=>274|219=>292|217=>282|225=>262|224=>261|267=>298|266=>295|314=>299|n=>n,fun|9=>9|4=>4|59=>185|3=>3|5=>5|46=>236|146=>319|51=>300|n=>n,fun|1=>1|n=>n⟩
theorem Tryz.lays145:Go.Proofs.Lays.n145 prog Tryz.lays145_ren:={
 mixed:=mKr
 f145:=mTr func250
 f217:=mTr func282
 f219:=mTr func292
 f220:=mTr func274
 f224:=mTr func261
 f225:=mTr func262
 f266:=mTr func295
 f267:=mTr func298
 f314:=mTr func299
 t3:=underlying3
 a3:=isAgg3
 z3:=sizeOf3
 v3:=zeroValue3
 t4:=underlying4
 a4:=isAgg4
 z4:=sizeOf4
 v4:=zeroValue4
 t5:=underlying5
 a5:=isAgg5
 z5:=sizeOf5
 v5:=zeroValue5
 t9:=underlying9
 a9:=isAgg9
 z9:=sizeOf9
 v9:=zeroValue9
 t46:=underlying236
 a46:=isAgg236
 z46:=sizeOf236
 v46:=zeroValue236
 t51:=underlying300
 a51:=isAgg300
 z51:=sizeOf300
 v51:=zeroValue300
 t59:=underlying185
 a59:=isAgg185
 z59:=sizeOf185
 v59:=zeroValue185
 t146:=underlying319
 a146:=isAgg319
 z146:=sizeOf319
 v146:=zeroValue319
 g1:=by kernel_rfl }
open Go.RowKit Go.Lib in
theorem Tryz.strings_Cut(s sep:ByteArray)(m:Int)(w:World)(hs:s.size<4294967281)(hm:w.cell? ⟨1,0,Oh⟩=Og (N9 Oa m)) :
  Calls prog 250 #[Ob s,Ob sep] w fun e w'=>e=Oe (.tuple #[Ob ⟨(Lib.cut s.data.toList sep.data.toList).1.toArray⟩,Ob ⟨(Lib.cut s.data.toList sep.data.toList).2.1.toArray⟩,.bool (Lib.cut s.data.toList sep.data.toList).2.2])/\∃n,w'=w.drewN n:=Any.strings_Cut lays145 s sep m w hs hm
def Tryz.laysGw15_ren:Go.Shelf.Ren:=⟨fun|15=>195|20=>230|n=>n,fun|9=>9|23=>233|3=>3|4=>4|0=>0|21=>21|n=>n,fun|n=>n⟩
theorem Tryz.laysGw15:Go.Proofs.LaysGw.n15 prog Tryz.laysGw15_ren:={
 mixed:=mKr
 f15:=mTr func195
 f20:=mTr func230
 t0:=underlying0
 a0:=isAgg0
 z0:=sizeOf0
 v0:=zeroValue0
 i0:=mKr
 t3:=underlying3
 a3:=isAgg3
 z3:=sizeOf3
 v3:=zeroValue3
 i3:=mKr
 t4:=underlying4
 a4:=isAgg4
 z4:=sizeOf4
 v4:=zeroValue4
 i4:=mKr
 t9:=underlying9
 a9:=isAgg9
 z9:=sizeOf9
 v9:=zeroValue9
 i9:=mKr
 t21:=underlying21
 a21:=isAgg21
 z21:=sizeOf21
 v21:=zeroValue21
 i21:=mKr
 t23:=underlying233
 a23:=isAgg233
 z23:=sizeOf233
 v23:=zeroValue233
 i23:=by kernel_rfl }
open Go.RowKit Go.Lib in
theorem Tryz.strings_IndexFunc(g:Nat)(lb:Array Value)(eg:∀args w,(callFunc g args).run prog w=.ok (.enter g args) w)(p:Nat->Bool)(s:ByteArray)(w:World)(hp:PredAt prog g lb encR p w) :
  Calls prog 195 #[Ob s,.func (.func g) #[] lb] w fun e w'=>e=Oe (N9 Oa (Lib.idxFunc p true s))/\Below w.heap.size w w':=Any.strings_IndexFunc laysGw15 g lb eg p s w hp
def Tryz.lays100_ren:Go.Shelf.Ren:=⟨fun|100=>40|207=>93|n=>n,fun|9=>9|4=>4|3=>3|n=>n,fun|n=>n⟩
theorem Tryz.lays100:Go.Proofs.Lays.n100 prog Tryz.lays100_ren:={
 mixed:=mKr
 f100:=mTr func40
 f207:=mTr func93
 t3:=underlying3
 a3:=isAgg3
 z3:=sizeOf3
 v3:=zeroValue3
 t4:=underlying4
 a4:=isAgg4
 z4:=sizeOf4
 v4:=zeroValue4
 t9:=underlying9
 a9:=isAgg9
 z9:=sizeOf9
 v9:=zeroValue9 }
open Go.RowKit Go.Lib in
theorem Tryz.strings_HasSuffix(s p:ByteArray)(w:World)(hs:s.size<=9223372036854775807) :
  Calls prog 40 #[Ob s,Ob p] w fun e w'=>e=Oe (.bool (Lib.hasSuffix s.data.toList p.data.toList))/\w'=w:=Any.strings_HasSuffix lays100 s p w hs
def Tryz.lays151_ren:Go.Shelf.Ren:=⟨fun|151=>197|152=>231|137=>259|119=>260|224=>261|225=>262|217=>282|266=>295|n=>n,fun|9=>9|21=>21|4=>4|3=>3|5=>5|0=>0|46=>236|n=>n,fun|n=>n⟩
theorem Tryz.lays151:Go.Proofs.Lays.n151 prog Tryz.lays151_ren:={
 mixed:=mKr
 f119:=mTr func260
 f137:=mTr func259
 f151:=mTr func197
 f152:=mTr func231
 f217:=mTr func282
 f224:=mTr func261
 f225:=mTr func262
 f266:=mTr func295
 t0:=underlying0
 a0:=isAgg0
 z0:=sizeOf0
 v0:=zeroValue0
 t3:=underlying3
 a3:=isAgg3
 z3:=sizeOf3
 v3:=zeroValue3
 t4:=underlying4
 a4:=isAgg4
 z4:=sizeOf4
 v4:=zeroValue4
 t5:=underlying5
 a5:=isAgg5
 z5:=sizeOf5
 v5:=zeroValue5
 t9:=underlying9
 a9:=isAgg9
 z9:=sizeOf9
 v9:=zeroValue9
 t21:=underlying21
 a21:=isAgg21
 z21:=sizeOf21
 v21:=zeroValue21
 t46:=underlying236
 a46:=isAgg236
 z46:=sizeOf236
 v46:=zeroValue236 }
open Go.RowKit Go.Lib in
theorem Tryz.strings_ContainsRune_ascii(s:ByteArray)(r:Int)(w:World)(h0:0<=r)(h1:r<128) :
  Calls prog 197 #[Ob s,N9 .i32 r] w fun e w'=>e=Oe (.bool (decide (0<=Lib.indexByte s.data.toList r.toNat.toUInt8)))/\w'=w:=Any.strings_ContainsRune_ascii lays151 s r w h0 h1
def Tryz.lays193_ren:Go.Shelf.Ren:=⟨fun|193=>160|n=>n,fun|31=>37|9=>9|4=>4|3=>3|0=>0|n=>n,fun|n=>n⟩
theorem Tryz.lays193:Go.Proofs.Lays.n193 prog Tryz.lays193_ren:={
 mixed:=mKr
 f193:=mTr func160
 t0:=underlying0
 a0:=isAgg0
 z0:=sizeOf0
 v0:=zeroValue0
 t3:=underlying3
 a3:=isAgg3
 z3:=sizeOf3
 v3:=zeroValue3
 t4:=underlying4
 a4:=isAgg4
 z4:=sizeOf4
 v4:=zeroValue4
 t9:=underlying9
 a9:=isAgg9
 z9:=sizeOf9
 v9:=zeroValue9
 t31:=underlying37
 a31:=isAgg37
 z31:=sizeOf37
 v31:=zeroValue37 }
open Go.RowKit Go.Lib in
theorem Tryz.slices_Equal_string(b1 o1 n c b2 o2 m d:Nat)(xs ys:List ByteArray)(w:World)(hx:n<=xs.length)(hy:m<=ys.length)(hbig:n<=9223372036854775807)(hbig2:m<=9223372036854775807)(hc1:∀j,j<xs.length->w.cell? ⟨b1,o1+j,Oh⟩=Og (Ob (xs.getD j ByteArray.empty)))(hc2:∀j,j<ys.length->w.cell? ⟨b2,o2+j,Oh⟩=Og (Ob (ys.getD j ByteArray.empty))) :
  Calls prog 160 #[Oc (Og ⟨b1,o1,Oh⟩) n c,Oc (Og ⟨b2,o2,Oh⟩) m d] w fun e w'=>e=Oe (.bool (decide (xs.take n=ys.take m)))/\∃q,w'=w.drewN q:=Any.slices_Equal_string lays193 b1 o1 n c b2 o2 m d xs ys w hx hy hbig hbig2 hc1 hc2
open Go.RowKit Go.Lib in
theorem Tryz.slices_Equal_string_empty(a1 a2:Option Addr)(c m d:Nat)(w:World)(hbig2:m<=9223372036854775807) :
  Calls prog 160 #[Oc a1 0 c,Oc a2 m d] w fun e w'=>e=Oe (.bool (decide (m=0)))/\w'=w:=Any.slices_Equal_string_empty lays193 a1 a2 c m d w hbig2
open Go.RowKit Go.Lib in
theorem Tryz.slices_Equal_string_lens(a1 a2:Option Addr)(n c m d:Nat)(w:World)(hnm:n≠m) :
  Calls prog 160 #[Oc a1 n c,Oc a2 m d] w fun e w'=>e=Oe (.bool false)/\w'=w:=Any.slices_Equal_string_lens lays193 a1 a2 n c m d w hnm
def Tryz.lays167_ren:Go.Shelf.Ren:=⟨fun|167=>201|240=>166|276=>218|n=>n,fun|0=>0|4=>4|5=>5|9=>9|20=>20|37=>94|70=>156|72=>158|75=>160|164=>242|80=>163|n=>n,fun|n=>n⟩
theorem Tryz.lays167:Go.Proofs.Lays.n167 prog Tryz.lays167_ren:={
 mixed:=mKr
 f167:=mTr func201
 f240:=mTr func166
 f276:=mTr func218
 t0:=underlying0
 a0:=isAgg0
 z0:=sizeOf0
 v0:=zeroValue0
 t4:=underlying4
 a4:=isAgg4
 z4:=sizeOf4
 v4:=zeroValue4
 t5:=underlying5
 a5:=isAgg5
 z5:=sizeOf5
 v5:=zeroValue5
 t9:=underlying9
 a9:=isAgg9
 z9:=sizeOf9
 v9:=zeroValue9
 t20:=underlying20
 a20:=isAgg20
 z20:=sizeOf20
 v20:=zeroValue20
 t37:=underlying94
 a37:=isAgg94
 z37:=sizeOf94
 v37:=zeroValue94
 t70:=underlying156
 a70:=isAgg156
 z70:=sizeOf156
 v70:=zeroValue156
 t72:=underlying158
 a72:=isAgg158
 z72:=sizeOf158
 v72:=zeroValue158
 t75:=underlying160
 a75:=isAgg160
 z75:=sizeOf160
 v75:=zeroValue160
 t164:=underlying242
 a164:=isAgg242
 z164:=sizeOf242
 v164:=zeroValue242 }
theorem Tryz.Builder_Extra_167:Builder.Extra prog Tryz.lays167_ren:={
 sizeBuilder:=mKr
 liesBuilder:=mKr
 t5:=underlying5
 a5:=isAgg5
 z5:=sizeOf5
 v5:=zeroValue5
 infoByte:=mKr
 cellsByte:=mKr
 sizeByte:=mKr
 neB5:=by decide }
def Tryz.lays166_ren:Go.Shelf.Ren:=⟨fun|166=>96|240=>166|276=>218|n=>n,fun|0=>0|3=>3|4=>4|9=>9|20=>20|37=>94|70=>156|72=>158|75=>160|164=>242|5=>5|80=>163|n=>n,fun|n=>n⟩
theorem Tryz.lays166:Go.Proofs.Lays.n166 prog Tryz.lays166_ren:={
 mixed:=mKr
 f166:=mTr func96
 f240:=mTr func166
 f276:=mTr func218
 t0:=underlying0
 a0:=isAgg0
 z0:=sizeOf0
 v0:=zeroValue0
 t3:=underlying3
 a3:=isAgg3
 z3:=sizeOf3
 v3:=zeroValue3
 t4:=underlying4
 a4:=isAgg4
 z4:=sizeOf4
 v4:=zeroValue4
 t9:=underlying9
 a9:=isAgg9
 z9:=sizeOf9
 v9:=zeroValue9
 t20:=underlying20
 a20:=isAgg20
 z20:=sizeOf20
 v20:=zeroValue20
 t37:=underlying94
 a37:=isAgg94
 z37:=sizeOf94
 v37:=zeroValue94
 t70:=underlying156
 a70:=isAgg156
 z70:=sizeOf156
 v70:=zeroValue156
 t72:=underlying158
 a72:=isAgg158
 z72:=sizeOf158
 v72:=zeroValue158
 t75:=underlying160
 a75:=isAgg160
 z75:=sizeOf160
 v75:=zeroValue160
 t164:=underlying242
 a164:=isAgg242
 z164:=sizeOf242
 v164:=zeroValue242 }
theorem Tryz.Builder_Extra_166:Builder.Extra prog Tryz.lays166_ren:={
 sizeBuilder:=mKr
 liesBuilder:=mKr
 t5:=underlying5
 a5:=isAgg5
 z5:=sizeOf5
 v5:=zeroValue5
 infoByte:=mKr
 cellsByte:=mKr
 sizeByte:=mKr
 neB5:=by decide }
open Go.RowKit in
theorem Tryz.Builder_WriteByte_k(B b:Nat)(bs:List Value)(c:Int)(w:World)(h:Lib.IsBuilderF 158 5 B b bs w)(hlen:bs.length+1<=140737488355328)(hBw:B<=w.heap.size) :
  Calls prog 201 #[Od (Og ⟨b,0,Oh⟩),N9 .u8 c] w fun e w'=>e=Oe .nilIface/\(Lib.BuilderAtF 158 5 B b (Od (Og ⟨b,0,Oh⟩)) (bs++[N9 .u8 c]) w'/\Below B w w'/\Lib.OthersKept 5 (Og b) w w'):=Any.Builder_WriteByte_k lays167 Tryz.Builder_Extra_167 B b bs c w h hlen hBw
open Go.RowKit in
theorem Tryz.Builder_WriteString_k(B b:Nat)(bs:List Value)(s:ByteArray)(w:World)(h:Lib.IsBuilderF 158 5 B b bs w)(hlen:bs.length+s.size<=140737488355328)(hBw:B<=w.heap.size) :
  Calls prog 96 #[Od (Og ⟨b,0,Oh⟩),Ob s] w fun e w'=>e=Oe (.tuple #[N9 Oa s.size,.nilIface])/\(Lib.BuilderAtF 158 5 B b (Od (Og ⟨b,0,Oh⟩)) (bs++Lib.strCells s) w'/\Below B w w'/\Lib.OthersKept 5 (Og b) w w'):=Any.Builder_WriteString_k lays166 Tryz.Builder_Extra_166 B b bs s w h hlen hBw
end Go.Proofs
end
namespace Go.Proofs.YtnlhbdmeodbblaaGreatDoor
section
open Go Go.RowKit Go.Sort
theorem aL{k:IntKind}{a b:Int}(h:a=b):Ending.returned (.int k a)=Oe (.int k b):=by rw[h]
theorem cF{a b:Bool}(h:a=b):Ending.returned (.bool a)=Oe (.bool b):=by rw[h]
theorem cU{a b:ByteArray}(h:a=b):Ending.returned (Ob a)=Oe (Ob b):=by rw[h]
theorem Ga : prog.globalNamed "internal/strconv.uint64pow10" = Og 0 := mKr
def Tabs (w : World) : Prop := Lib.TabIs prog w "internal/strconv.uint64pow10" .u64 Lib.pow10Tab
theorem Tabs.lt{w:World}(h:Tabs w):0<w.heap.size:=by
 unfold Tabs Lib.TabIs World.var? at h;rw[Ga] at h;simp only[Option.bind_some] at h;rcases Nat.lt_or_ge 0 w.heap.size with h'|h'
 .exact h'
 .rw[Array.getElem?_eq_none h'] at h;cases h
theorem Tabs.below  {w w':World} (h:Tabs w) (hb:Below w.heap.size w w'):Tabs w':=var?_below hb Ga h.lt h
theorem Tabs.alloc  {w:World} (h:Tabs w) (o:Obj):Tabs (w.alloc o):=h.below ((Below.refl _ _).alloc (az _) _)
theorem ql{W w1:World}(hb:Below W.heap.size W w1):(∀b o,b<W.heap.size->w1.cell? ⟨b,o,Oh⟩=W.cell? ⟨b,o,Oh⟩)/\(∀b o,b<W.heap.size->w1.frozen? ⟨b,o,Oh⟩=W.frozen? ⟨b,o,Oh⟩):=
 ⟨fun b o h=>hb.cell (p:=⟨b,o,Oh⟩) h,fun b o h=>hb.frozen (p:=⟨b,o,Oh⟩) h⟩
theorem Fe(w:World)(k:Nat)(os:Array Obj):Below w.heap.size w (grow (w.drewN k) os):=by
 refine⟨rfl,rfl,rfl,by simp[grow],fun i hi=>?_⟩
 show(w.heap++os)[i]? = w.heap[i]?
 rw[Array.getElem?_append_left hi]
theorem dL{a b:ByteArray}(h:a.data.toList=b.data.toList):a=b:=by cases a;cases b;simp at h;rw[h]
theorem iv(a b:ByteArray):(a++b).data.toList=a.data.toList++b.data.toList:=by rw[ByteArray.data_append];simp
theorem bF(a:ByteArray):a.size=a.data.toList.length:=by cases a;rfl
theorem tE(W:World)(l:List Int)(t:TypeId):(convert 94 9 (Oc (Og ⟨W.heap.size,0,Oh⟩) l.length l.length)).run prog (W.alloc (Of (l.map (Value.int .u8)).toArray t))=.ok (Ob ⟨(l.map fun n=>UInt8.ofNat n.toNat).toArray⟩) (W.alloc (Of (l.map (Value.int .u8)).toArray t)):=
 run_convert_bytes_arg _ 94 5 underlying94 underlying5 W.heap.size 0 l.length l.length l rfl (fun i hi=>by
  rw[bP,ae (heap_alloc_new W _)];simp[ai hi]) 9 underlying9
theorem mz(W:World)(b:Nat)(x0:Int)(t:TypeId)(h:W.heap.size=b):(convert 94 9 (Oc (Og ⟨b,0,Oh⟩) 1 1)).run prog (W.alloc (Of #[N9 .u8 x0] t))=.ok (Ob ⟨#[UInt8.ofNat x0.toNat]⟩) (W.alloc (Of #[N9 .u8 x0] t)):=by subst h;exact tE W [x0] t
theorem xq(W:World)(b:Nat)(x0 x1 x2 x3 x4 x5:Int)(t:TypeId)(h:W.heap.size=b):(convert 94 9 (Oc (Og ⟨b,0,Oh⟩) 6 6)).run prog (W.alloc (Of #[N9 .u8 x0,N9 .u8 x1,N9 .u8 x2,N9 .u8 x3,N9 .u8 x4,N9 .u8 x5] t))=.ok (Ob ⟨#[UInt8.ofNat x0.toNat,UInt8.ofNat x1.toNat,UInt8.ofNat x2.toNat,UInt8.ofNat x3.toNat,UInt8.ofNat x4.toNat,UInt8.ofNat x5.toNat]⟩) (W.alloc (Of #[N9 .u8 x0,N9 .u8 x1,N9 .u8 x2,N9 .u8 x3,N9 .u8 x4,N9 .u8 x5] t)):=by subst h;exact tE W [x0,x1,x2,x3,x4,x5] t
theorem lT  (n:Int) (w:World) (h0 : -9223372036854775808<=n) (h1:n<=9223372036854775807) (ht:Tabs w) :
  Calls prog 121 #[N9 Oa n] w fun e w'=>e=Oe (Ob ⟨(dC n).toArray⟩)/\Below w.heap.size w w':=
 (Tryz.strconv_Itoa n h0 h1 w ht).mono fun _ _ ⟨he,k,os,hw⟩=>⟨he,hw ▸ Fe w k os⟩
end
section
open Go Go.RowKit Go.Sort
theorem aq(w:World)(o:Obj):Below w.heap.size w (w.alloc o):=(Below.refl _ _).alloc (az _) _
def be8(n:Nat):List UInt8:=[UInt8.ofNat (n / 72057594037927936),UInt8.ofNat (n / 281474976710656),UInt8.ofNat (n / 1099511627776),UInt8.ofNat (n / 4294967296),UInt8.ofNat (n / 16777216),UInt8.ofNat (n / 65536),UInt8.ofNat (n / 256),UInt8.ofNat n]
theorem rj(m:Nat):UInt8.ofNat (m%256)=UInt8.ofNat m:=UInt8.toNat_inj.1 (by rw[UInt8.toNat_ofNat',UInt8.toNat_ofNat'];omega)
theorem xu(W:World)(b:Nat)(x0 x1 x2 x3 x4 x5 x6 x7:Int)(t:TypeId)(h:W.heap.size=b):(convert 94 9 (Oc (Og ⟨b,0,Oh⟩) 8 8)).run prog (W.alloc (Of #[N9 .u8 x0,N9 .u8 x1,N9 .u8 x2,N9 .u8 x3,N9 .u8 x4,N9 .u8 x5,N9 .u8 x6,N9 .u8 x7] t))=.ok (Ob ⟨#[UInt8.ofNat x0.toNat,UInt8.ofNat x1.toNat,UInt8.ofNat x2.toNat,UInt8.ofNat x3.toNat,UInt8.ofNat x4.toNat,UInt8.ofNat x5.toNat,UInt8.ofNat x6.toNat,UInt8.ofNat x7.toNat]⟩) (W.alloc (Of #[N9 .u8 x0,N9 .u8 x1,N9 .u8 x2,N9 .u8 x3,N9 .u8 x4,N9 .u8 x5,N9 .u8 x6,N9 .u8 x7] t)):=by subst h;exact tE W [x0,x1,x2,x3,x4,x5,x6,x7] t
theorem lC{p q:Prop}(h:q) (f:Wq q->p:=by
 intro hq;rw[rounds_succ];go_wp2_with fail;rw[rounds_succ];go_wp2_with fail;rw[rounds_succ];go_wp2_with fail;rw[rounds_succ];go_wp2_with fail
 exact hq.1):p:=f ⟨h⟩
theorem kR(n:Nat)(hn:n<9223372036854775808)(w:World) :
  Calls prog 182 #[N9 Oa n] w fun e w'=>e=Oe (Ob ⟨(be8 n).toArray⟩)/\Below w.heap.size w w':=by
 have hmk:∀u:World,(Instr.makeSlice 94 (N9 Oa 8) (N9 Oa 8)).run prog u=.ok (Oc (Og ⟨u.heap.size,0,Oh⟩) 8 8) (u.alloc (Of #[N9 .u8 0,N9 .u8 0,N9 .u8 0,N9 .u8 0,N9 .u8 0,N9 .u8 0,N9 .u8 0,N9 .u8 0] 5)):=fun u=>by
  obtain⟨i0,hi,hz0,hz1,hz2⟩:=info_parts (show(prog.info? 5).map (fun i=>(i.zero,i.size,i.bytes))=Og (Og (N9 .u8 0),1,1) by kernel_rfl);have:=run_makeSlice (P:=prog) u 94 5 i0 (N9 .u8 0) underlying94 hi hz0 Oa Oa 8 8 mOm (Int.le_refl _) (by rw[hz1];decide) (by rw[hz2];decide) mOm;rw[this,hz1,show(Int.toNat 8*1)=8 from rfl,show madeCells (Value.int .u8 0).cells 8=#[N9 .u8 0,N9 .u8 0,N9 .u8 0,N9 .u8 0,N9 .u8 0,N9 .u8 0,N9 .u8 0,N9 .u8 0] by kernel_rfl];rfl
 go_enter func182,ntmps182
 go_wp2_with fail;refine wp_loop_rounds 9 ?_;refine lC ?_;refine lC ?_;have hcv:=xu w _ (n / 72057594037927936:Int) (n / 281474976710656%256:Int) (n / 1099511627776%256:Int) (n / 4294967296%256:Int) (n / 16777216%256:Int) (n / 65536%256:Int) (n / 256%256:Int) (n%256:Int) 5 rfl;rw[rounds_succ];go_wp2_with fail;go_ret;refine⟨cU (dL ?_),aq _ _⟩
 show _=be8 n
 simp only[be8,rj]
theorem oT(n:Nat)(hn:n<9223372036854775808)(w:World) :
  Calls prog 188 #[N9 Oa n] w fun e w'=>e=Oe (Ob ⟨(be8 n).toArray⟩)/\Below w.heap.size w w':=by
 go_enter func188,ntmps188;go_wp2_with fail;refine wp_loop_rounds 9 ?_;refine lC ?_;refine lC ?_;have hcv:=fun x0 x1 x2 x3 x4 x5 x6 x7=>xu w w.heap.size x0 x1 x2 x3 x4 x5 x6 x7 251 rfl
 rw[rounds_succ];go_wp2_with fail;go_ret;refine⟨cU (dL ?_),aq _ _⟩
 show _=be8 n
 simp[be8,rj,Nat.div_div_eq_div_mul]
end
section
open Go Go.RowKit Go.Sort Go.Lib
def dgX(l:List UInt8)(a:Int):Int:=l.foldl (fun x c=>(69621*x+c.toNat+1)%2147483647) a
def dgY(l:List UInt8)(a:Int):Int:=l.foldl (fun x c=>(45991*x+c.toNat+1)%2147483629) a
theorem Ac(l m:List UInt8)(a:Int):dgX (l++m) a=dgX m (dgX l a):=by unfold dgX;rw[fO]
theorem Ad(l m:List UInt8)(a:Int):dgY (l++m) a=dgY m (dgY l a):=by unfold dgY;rw[fO]
theorem LY(X Y:Nat)(hX:X<2147483648)(hY:Y<4294967296):bits BinOp.or IntKind.i64 ((X:Int)*4294967296) (Y:Int)=((X*4294967296+Y:Nat):Int):=by
 have e1:(BitVec.ofInt 64 ((X:Int)*4294967296)).toNat=X*4294967296:=by rw[BitVec.toNat_ofInt];omega
 have e2:(BitVec.ofInt 64 (Y:Int)).toNat=Y:=by rw[BitVec.toNat_ofInt];omega
 have e3:X*4294967296 ||| Y=X*4294967296+Y:=by have:=Nat.two_pow_add_eq_or_of_lt (i:=32) (b:=Y) mOm X;rw[show(2:Nat)^32=4294967296 from rfl,Nat.mul_comm] at this;exact this.symm
 change IntKind.i64.wrap (((BitVec.ofInt 64 ((X:Int)*4294967296) ||| BitVec.ofInt 64 (Y:Int)).toNat:Nat):Int)=_
 rw[BitVec.toNat_or,e1,e2,e3]
 exact aH _ mOm
def sW(w:World)(b o:Nat)(l:List ByteArray):Prop:=∀k (h:k<l.length),w.cell? ⟨b,o+k,Oh⟩=Og (Ob l[k])/\l[k].size<=100000000
def dR(l:List ByteArray):List UInt8:=l.flatMap fun s=>s.data.toList
theorem C3(b o c:Nat)(l:List ByteArray)(hl:l.length<=1000)(w:World)(hP:sW w b o l) :
  Calls prog 181 #[Oc (Og ⟨b,o,Oh⟩) l.length c] w fun e w'=>e=Oe (Ob ⟨(be8 (dgX (dR l) 11*4294967296+dgY (dR l) 17).toNat).toArray⟩)/\Below w.heap.size w w':=by
 go_enter func181,ntmps181;go_wp2_with fail
 go_loopw [3,4,11] (fun x y i wr=>∃(k:Nat) (X Y:Int),k<=l.length/\i=N9 Oa k/\x=N9 Oa X/\y=N9 Oa Y/\(0<=X/\X<=2147483647)/\(0<=Y/\Y<=2147483647)/\Hid (X=dgX (dR (l.take k)) 11/\Y=dgY (dR (l.take k)) 17)/\Below w.heap.size w wr) (fun _ _ i _=>l.length-(aw i).toNat)
 case atStart=>exact⟨0,11,17,aP _,rfl,rfl,rfl,mOm,mOm,aa (by simp[dR,dgX,dgY]),Below.refl _ _⟩
 case round =>
  obtain⟨k,X,Y,hk,rfl,rfl,rfl,hX,hY,HD,hB⟩:=hrel;by_cases hlt:k<l.length
  .obtain⟨hc,hz⟩:=hP k hlt;replace hc:=((ql hB).1 _ _ (World.block_lt_of_cell? w _ hc)).trans hc;have hx0:l[k]? = Og l[k]:=ai hlt;generalize l[k]=p at hc hz hx0;have HX0:=aa hx0;clear hx0;have hcv:(convert 9 94 (Ob p)).run prog wr=.ok (Oc (Og ⟨wr.heap.size,0,Oh⟩) p.size (grownCap wr p.size 0 5)) (bytesWorld wr 5 p):=Lib.run_convert_string_bytes wr _ _ _ p underlying9 underlying94 underlying5;have hcl:∀j,j<p.size->(bytesWorld wr 5 p).cell? ⟨wr.heap.size,j,Oh⟩=Og (N9 .u8 (p.data.toList.getD j 0).toNat):=fun j hj=>bytesWorld_cell wr _ p j hj
   have hbw:=bytesWorld_below wr 5 p;have HP:=aa hP;have HPS:=aa (bF p);clear hP;go_wp2_with fail;generalize bytesWorld wr 5 p=W1 at hcl hbw |-;have hB1:Below w.heap.size w W1:=hB.trans (hbw.mono hB.size);have HCL:=aa hcl;clear hcl hcv hc
   go_loopw [3,4,18] (fun x y i w2=>∃(j:Nat) (X2 Y2:Int),j<=p.size/\i=N9 Oa j/\x=N9 Oa X2/\y=N9 Oa Y2/\(0<=X2/\X2<=2147483647)/\(0<=Y2/\Y2<=2147483647)/\Hid (X2=dgX (p.data.toList.take j) X/\Y2=dgY (p.data.toList.take j) Y)/\w2=W1) (fun _ _ i _=>p.size-(aw i).toNat)
   case atStart=>exact⟨0,X,Y,aP _,rfl,rfl,rfl,hX,hY,aa (by simp[dgX,dgY]),rfl⟩
   case round =>
    obtain⟨j,X2,Y2,hj,rfl,rfl,rfl,hX2,hY2,HD2,rfl⟩:=hrel;by_cases hjl:j<p.size
    .have hcj:=HCL.out j hjl;have hjl2:j<p.data.toList.length:=by rw[<-HPS.out];exact hjl
     obtain⟨d,hd⟩:∃d,p.data.toList.getD j 0=d:=⟨_,rfl⟩;rw[hd] at hcj;have hd8:=UInt8.toNat_lt d;have HT:Hid (p.data.toList.take (j+1)=p.data.toList.take j++[d]):=aa (by rw[aR,ai hjl2,<-hd,List.getD_eq_getElem?_getD,ai hjl2];rfl);have a1:IntKind.i64.wrap (69621*X2)=69621*X2:=aH _ mOm;have a2:IntKind.i64.wrap (69621*X2+d.toNat)=69621*X2+d.toNat:=aH _ mOm;have a3:IntKind.i64.wrap (69621*X2+d.toNat+1)=69621*X2+d.toNat+1:=aH _ mOm;have a4:(69621*X2+d.toNat+1).tmod 2147483647=(69621*X2+d.toNat+1)%2147483647:=bN mOm;have b1:IntKind.i64.wrap (45991*Y2)=45991*Y2:=aH _ mOm;have b2:IntKind.i64.wrap (45991*Y2+d.toNat)=45991*Y2+d.toNat:=aH _ mOm;have b3:IntKind.i64.wrap (45991*Y2+d.toNat+1)=45991*Y2+d.toNat+1:=aH _ mOm;have b4:(45991*Y2+d.toNat+1).tmod 2147483629=(45991*Y2+d.toNat+1)%2147483629:=bN mOm
     have HN:Hid ((69621*X2+d.toNat+1)%2147483647=dgX (p.data.toList.take (j+1)) X/\(45991*Y2+d.toNat+1)%2147483629=dgY (p.data.toList.take (j+1)) Y):=aa (by
      rw[HT.out,Ac,Ad,<-HD2.out.1,<-HD2.out.2];exact⟨rfl,rfl⟩)
     have c1:=gE (69621*X2+d.toNat+1) (show(2147483647:Int)≠0 by decide)
     have c2:=fd (69621*X2+d.toNat+1) (show(0:Int)<2147483647 by decide);have c3:=gE (45991*Y2+d.toNat+1) (show(2147483629:Int)≠0 by decide);have c4:=fd (45991*Y2+d.toNat+1) (show(0:Int)<2147483629 by decide);clear hd hjl2;go_wp2_with fail
     go_roundw
     case rel=>exact⟨j+1,_,_,mOm,by go_num,rfl,rfl,mOm,mOm,HN,by first|rfl|trivial⟩
     case measure=>simp[aw];omega
    .obtain rfl:j=p.size:=mOm
     have HN:Hid (X2=dgX (dR (l.take (k+1))) 11/\Y2=dgY (dR (l.take (k+1))) 17):=aa (by
      have e:dR (l.take (k+1))=dR (l.take k)++p.data.toList:=by unfold dR;rw[aR,HX0.out,List.flatMap_append];simp
      rw[e,Ac,Ad,<-HD.out.1,<-HD.out.2,HD2.out.1,HD2.out.2,HPS.out,aT]
      exact⟨rfl,rfl⟩)
     go_wp2_with fail
     go_roundw
     case rel=>exact⟨k+1,X2,Y2,mOm,by go_num,rfl,rfl,hX2,hY2,HN,hB1⟩
     case measure=>simp[aw];omega
  .obtain rfl:k=l.length:=mOm;obtain⟨X',rfl⟩:∃n:Nat,X=n:=⟨X.toNat,mOm⟩;obtain⟨Y',rfl⟩:∃n:Nat,Y=n:=⟨Y.toNat,mOm⟩;have hor:=LY X' Y' mOm mOm;have hsh:IntKind.i64.wrap ((X':Int)*4294967296)=(X':Int)*4294967296:=aH _ mOm;have cn:=kR (X'*4294967296+Y') mOm wr
   have HE:Hid ((dgX (dR l) 11*4294967296+dgY (dR l) 17).toNat=X'*4294967296+Y'):=aa (by
    have h:=HD.out;rw[aT] at h
    rw[<-h.1,<-h.2];omega)
   rw[show((X'*4294967296+Y':Nat):Int)=(X':Int)*4294967296+Y' by omega] at cn
   go_wp2_with fail;refine cn.mono ?_;rintro _ w5⟨rfl,hb5⟩;go_wp2_with fail;go_ret;exact⟨cU (by rw[HE.out]),hB.trans (hb5.mono hB.size)⟩
end
section
open Go Go.Proofs Go.RowKit Go.Maps Go.Sort Go.Lib
structure aF (S:Nat->Prop) (w w':World):Prop where
 os:w'.os=w.os
 tape:w'.tape=w.tape
 output:w'.output=w.output
 size:w.heap.size<=w'.heap.size
 block:∀k,k<w.heap.size->¬S k->w'.heap[k]? = w.heap[k]?
def fN(w w':World):Prop:=∀(l:Nat)(o:Obj),w.heap[l]? = Og o->o.isCells=false->w'.heap[l]? = Og o
theorem aG{w:World}{l:Nat}{o:Obj}(h:w.heap[l]? = Og o):l<w.heap.size:=(Array.getElem?_eq_some_iff.1 h).1
theorem aF.refl(S:Nat->Prop)(w:World):aF S w w:=⟨rfl,rfl,rfl,az _,fun _ _ _=>rfl⟩
theorem aF.trans{S:Nat->Prop}{a b c:World}(h:aF S a b)(h2:aF S b c):aF S a c:=
 ⟨h2.os.trans h.os,h2.tape.trans h.tape,h2.output.trans h.output,aV h.size h2.size,fun k hk hs=>(h2.block k (ax hk h.size) hs).trans (h.block k hk hs)⟩
theorem aF.mono{S S2:Nat->Prop}{a b:World}(h:aF S a b)(hS:∀k,k<a.heap.size->S k->S2 k):aF S2 a b:=
 ⟨h.os,h.tape,h.output,h.size,fun k hk hs=>h.block k hk (fun e=>hs (hS k hk e))⟩
theorem aF.of{S:Nat->Prop}{w w':World}(h:ac w.heap.size w w'):aF S w w':=⟨h.os,h.tape,h.output,h.size,fun k hk _=>h.block k hk⟩
theorem aF.below{S:Nat->Prop}{B:Nat}{w w':World}(h:aF S w w')(hS:∀k,k<B->¬S k)(hB:B<=w.heap.size):ac B w w':=
 ⟨h.os,h.tape,h.output,h.size,fun k hk=>h.block k (ax hk hB) (hS k hk)⟩
theorem aF.cell{S:Nat->Prop}{w w':World}(h:aF S w w'){b:Nat}(hb:b<w.heap.size)(hs:¬S b)(j:Nat)(e:Option Nat):w'.cell? ⟨b,j,e⟩=w.cell? ⟨b,j,e⟩:=
 World.cell?_of_block (h.block b hb hs)
theorem aF.nc{S:Nat->Prop}{w w':World}(h:aF S w w')(hS:∀k o,S k->w.heap[k]? = Og o->o.isCells=true):fN w w':=fun l o hl ho=>by
 rw[h.block l (aG hl) (fun e=>by rw[hS l o e hl] at ho;cases ho)];exact hl
theorem fN.trans{a b c:World}(h:fN a b)(h2:fN b c):fN a c:=fun l o hl ho=>h2 l o (h l o hl ho) ho
theorem fN.of{w w':World}(h:ac w.heap.size w w'):fN w w':=fun l _o hl _=>(h.block l (aG hl)).trans hl
def J9(I:Nat->World->Prop)(Kp:Nat->World->Prop)(Ix:Code->World->Prop)(N0 N1:Nat)(k:Nat)(W:World):Exit->Act->World->Prop
 | .normal,_,W'=>I (k+1) W'/\Kp k W'/\fN W W'/\∀g,N0<=g->g<N1->W'.heap[g]? = W.heap[g]?
 | .ret,_,W'=>Ix .ret W'/\fN W W'
 | .exit i,_,W'=>Ix (.exit i) W'/\fN W W'
 | _,_,_=>False
def yE(gf:Nat)(lb:Array Value)(enc:Nat->Array Value)(n:Nat)(S:Nat->Prop)(Kp:Nat->World->Prop):Prop:=
 ∀(lp:Nat)(I:Nat->World->Prop)(X:World->Prop)(wL:World),(∀k A B,I k A->aF S A B->I k B)->(∀A B,X A->aF S A B->X B)->Kp 0 wL->I 0 wL->
  (∀k W0 W1,k<n->I k W0->aF S W0 W1->Kp k W1->∀m,YieldAt Fence.wide m prog lp (enc k) W1 fun e W'=>(e=Oe (.bool true)/\I (k+1) W'/\Kp k W'/\∀g,W0.heap.size<=g->g<W1.heap.size->W'.heap[g]? = W1.heap[g]?)\/(e=Oe (.bool false)/\X W'))->
  Calls prog gf (#[.func (.yield lp) #[] #[]]++lb) wL fun e w'=>(∃v,e=Oe v)/\(I n w'\/X w')
theorem wu{ps:Array Tmp}{assign body:Code}{Q:Exit->Act->World->Prop}{a:Act}{w:World}{g:Operand}{gf:Nat}{lb:Array Value}(hg:a.eval g=.func (.func gf) #[] lb)(eg:∀args w,(callFunc gf args).run prog w=.ok (.enter gf args) w)
  {enc:Nat->Array Value} {n:Nat} {S:Nat->Prop} {Kp:Nat->World->Prop} (hit:yE gf lb enc n S Kp) (hps:∀k,(enc k).size=ps.size) (hS:∀k,S k->k<w.heap.size)
  (hKn:∀k A B,Kp k A->w.heap.size<=A.heap.size->aF (fun j=>w.heap.size<=j) A B->Kp k B) (hK0:Kp 0 w)
  (I:Nat->World->Prop) (Ix:Code->World->Prop) (hIs:∀k A B,I k A->aF S A B->I k B) (hXs:∀c A B,Ix c A->aF S A B->Ix c B)
  (hIp:∀k A l r r',w.heap.size<=l->A.heap[l]? = Og (.loop r)->I k A->I k (A.putObj l (.loop r')))
  (hXp:∀c A l r r',w.heap.size<=l->A.heap[l]? = Og (.loop r)->Ix c A->Ix c (A.putObj l (.loop r'))) (hI0:I 0 w) (Bx:Nat->Nat->Act->World->Prop)
  (hBp:∀k N a' A l r r',w.heap.size<=l->l<N->A.heap[l]? = Og (.loop r)->Bx k N a' A->Bx k N a' (A.putObj l (.loop r')))
  (hassign:∀(lp k:Nat)(W:World)(K:Act->World->Prop),I k W->(∀a' W',Bx k W.heap.size a' W'->aF (fun _=>False) W W'->K a' W')->assign.wpIn (Fence.wide.inRound lp) 3 prog (Exit.then K (fun _ _ _=>False)) { tmps:=(ps.zip (enc k)).foldl (fun t (p,v)=>t.setIfInBounds p v) a.tmps,defers:=[] } W)
  (hbody:∀(lp k:Nat)(a':Act)(N1:Nat)(W0 W:World),k<n->I k W0->(∃r,W0.heap[lp]? = Og (.loop r))->w.heap.size<=lp->aF (fun b=>S b\/b=lp) W0 W->Kp k W->Bx k N1 a' W->w.heap.size<=W0.heap.size->W0.heap.size<=N1->N1<=W.heap.size->body.wpIn (Fence.wide.inRound lp) 3 prog (J9 I Kp Ix W0.heap.size N1 k W) a' W)
  (hdone:∀(D:Nat)(W:World),w.heap.size<=D->I n W->W.heap[D]? = Og (.deferred (Og []))->Q .normal { a with defers:={ target:=.collected D,args:=#[] }::a.defers } W)
  (hstop:∀(D:Nat)(c:Code)(W:World),w.heap.size<=D->Ix c W->W.heap[D]? = Og (.deferred (Og []))->c.wpIn Fence.wide 4 prog Q { a with defers:={ target:=.collected D,args:=#[] }::a.defers } W) :
  (Code.rangeFunc g ps assign body).wp prog Q a w:=by
 refine(wpIn_wide (n:=4)).1 ?_;refine wpIn_rangeFunc ?_;intro fn _;rw[Fence.wide_round];obtain⟨rec,hrec⟩:∃rec:LoopState->Option Code->Loop,rec=fun st pe=>{ state:=st,pending:=pe,fn,tmps:=a.tmps,params:=ps,assign,body,defers:=w.heap.size }:=⟨_,rfl⟩
 obtain⟨W1,hW1⟩:∃W1,(w.alloc (.deferred (Og []))).alloc (.loop (rec .ready Oh))=W1:=⟨_,rfl⟩;have hl1:W1.heap[w.heap.size+1]? = Og (.loop (rec .ready Oh)):=by rw[<-hW1];have:=gm (w.alloc (.deferred (Og []))) (.loop (rec .ready Oh));rwa [World.size_alloc] at this
 have hd1:W1.heap[w.heap.size]? = Og (.deferred (Og [])):=by rw[<-hW1];exact(Below.heap_alloc _ _ _ mSi).trans (gm w _)
 have hb1:ac w.heap.size w W1:=by rw[<-hW1];exact((Below.refl _ w).alloc (az _) _).alloc mSi _
 refine⟨w.heap.size+1,[{ target:=.collected w.heap.size,args:=#[] }],W1,{ target:=.fn (.func gf) lb,args:=#[.func (.yield (w.heap.size+1)) #[] #[]] },W1,gf,
  #[.func (.yield (w.heap.size+1)) #[] #[]]++lb,W1,?_,?_,?_,?_,fun _=>by omega,?_⟩
 .rw[<-hW1,hrec];exact run_enterLoop_outer _ _ _ _ _
 .simp only[resolve,hg];simp[go_sem]
 .intro f' _;trivial
 .simp[invoke,go_sem,eg]
 .refine callsIn_wide.2 ?_
  have hkeep:∀{A B:World}{l:Nat}{o:Obj},aF S A B->w.heap.size<=l->A.heap[l]? = Og o->B.heap[l]? = Og o:=fun hab hle hl =>
   (hab.block _ (aG hl) (fun e=>Nat.lt_irrefl _ (ax (hS _ e) hle))).trans hl
  refine(hit (w.heap.size+1) (fun k W=>I k W/\W.heap[w.heap.size+1]? = Og (.loop (rec .ready Oh))/\W.heap[w.heap.size]? = Og (.deferred (Og [])))
   (fun W=>∃c,Ix c W/\W.heap[w.heap.size+1]? = Og (.loop (rec .done (Og c)))/\W.heap[w.heap.size]? = Og (.deferred (Og []))) W1 ?_ ?_
   (hKn 0 _ _ hK0 (az _) (aF.of hb1)) ⟨hIs 0 _ _ hI0 (aF.of hb1),hl1,hd1⟩ ?_).mono ?_
  .rintro k A B⟨h1,h2,h3⟩ hab;exact⟨hIs k A B h1 hab,hkeep hab mOm h2,hkeep hab (az _) h3⟩
  .rintro A B⟨c,h1,h2,h3⟩ hab;exact⟨c,hXs c A B h1 hab,hkeep hab mOm h2,hkeep hab (az _) h3⟩
  .rintro k W0 Wc hkn⟨hi0,hl0,hd0⟩ hb0 hkp m;have hi:=hIs k _ _ hi0 hb0;have hl:=hkeep hb0 mOm hl0;have hd:=hkeep hb0 (az _) hd0;have hlt:=aG hl;have hy:=run_yield (P:=prog) (args:=enc k) hl (by rw[hrec];exact hps k);rw[hrec] at hy;refine⟨fn,_,assign,body,hy,?_⟩
   have hround:RoundIn Fence.wide 3 prog (w.heap.size+1) fn ((ps.zip (enc k)).foldl (fun t (p,v)=>t.setIfInBounds p v) a.tmps) assign body Wc fun e W' =>
     (e=Oe (.bool true)/\(I (k+1) W'/\W'.heap[w.heap.size+1]? = Og (.loop (rec .ready Oh))/\W'.heap[w.heap.size]? = Og (.deferred (Og [])))/\Kp k W'/\∀g,W0.heap.size<=g->g<Wc.heap.size->W'.heap[g]? = Wc.heap[g]?)\/
     (e=Oe (.bool false)/\∃c,Ix c W'/\W'.heap[w.heap.size+1]? = Og (.loop (rec .done (Og c)))/\W'.heap[w.heap.size]? = Og (.deferred (Og []))):=by
    refine roundIn_of_wpIn trivial (hassign _ k Wc _ hi fun a' Wd hBx hWd=>?_);replace hi:=hIs k _ _ hi (hWd.mono fun _ _ h=>h.elim);replace hkp:=hKn k _ _ hkp mOm (hWd.mono fun _ _ h=>h.elim);replace hd:=(hWd.block _ (aG hd) id).trans hd;replace hl:=(hWd.block _ hlt id).trans hl;replace hlt:=aG hl;clear hy;refine⟨_,run_beginRound hl (by rw[hrec]),?_⟩;obtain⟨W2,hW2⟩:∃W2,Wd.putObj (w.heap.size+1) (.loop { rec .ready Oh with state:=.busy })=W2:=⟨_,rfl⟩
    have hput:∀(A:World)(o:Obj),w.heap.size+1<A.heap.size->aF (fun j=>w.heap.size<=j) A (A.putObj (w.heap.size+1) o):=fun A o hA =>
     ⟨rfl,rfl,rfl,mSi,fun j hj hne=>ee mOm⟩
    have hl2:W2.heap[w.heap.size+1]? = Og (.loop { rec .ready Oh with state:=.busy }):=by rw[<-hW2];exact World.putObj_heap_same hlt
    have hd2:W2.heap[w.heap.size]? = Og (.deferred (Og [])):=by rw[<-hW2];exact(ee mOm).trans hd
    have hbw2:aF (fun b=>S b\/b=w.heap.size+1) W0 W2:=(hb0.mono fun _ _ h=>.inl h).trans ((hWd.mono fun _ _ h=>h.elim).trans (by
     rw[<-hW2];exact⟨rfl,rfl,rfl,mSi,fun j hj hne=>ee (fun e=>hne (.inr e))⟩))
    have hfar:∀g,W0.heap.size<=g->g<Wc.heap.size->W2.heap[g]? = Wc.heap[g]?:=fun g hg hg2=>by
     have:=aG hl0;rw[<-hW2,ee mOm];exact hWd.block g hg2 id
    have hszc:=hWd.size
    have hsz2:W2.heap.size=Wd.heap.size:=by rw[<-hW2];simp
    have hk2:Kp k W2:=by rw[<-hW2];exact hKn k _ _ hkp mOm (hput Wd _ hlt)
    have hbx2:Bx k Wc.heap.size a' W2:=by rw[<-hW2];exact hBp k _ a' Wd _ _ _ mOm (by have:=aG hl0;have:=hb0.size;omega) hl hBx
    rw[hW2];refine wpIn_mono (hbody _ k a' Wc.heap.size W0 W2 hkn hi0 ⟨_,hl0⟩ (pK _) hbw2 hk2 hbx2 (by have:=aG hl0;omega) hb0.size mOm) ?_
    have fin:∀(jump:Option Code)(W3:World),fN W2 W3->
      (Instr.endRound (w.heap.size+1) jump).run prog W3=.ok (.bool jump.isNone) (W3.putObj (w.heap.size+1) (.loop (rec (if jump.isNone then .ready else .done) jump)))/\
      W3.heap[w.heap.size+1]? = Og (.loop { rec .ready Oh with state:=.busy })/\
      (W3.putObj (w.heap.size+1) (.loop (rec (if jump.isNone then .ready else .done) jump))).heap[w.heap.size+1]? = Og (.loop (rec (if jump.isNone then .ready else .done) jump))/\
      (W3.putObj (w.heap.size+1) (.loop (rec (if jump.isNone then .ready else .done) jump))).heap[w.heap.size]? = Og (.deferred (Og [])):=fun jump W3 hk3=>by
     have hl3:=hk3 _ _ hl2 rfl;have:=run_endRound (P:=prog) jump hl3;rw[hrec] at this |-;exact⟨this,by rw[hrec] at hl3;exact hl3,World.putObj_heap_same (aG hl3),(ee mOm).trans (hk3 _ _ hd2 rfl)⟩
    rintro e a3 W3 hp
    cases e with
    | normal =>
     obtain⟨hi3,hkp3,hk3,hf3⟩:=hp;obtain⟨hr,hl3,hl4,hk4⟩:=fin Oh W3 hk3
     have hf4:∀g,W0.heap.size<=g->g<Wc.heap.size->(W3.putObj (w.heap.size+1) (.loop (rec .ready Oh))).heap[g]? = Wc.heap[g]?:=fun g hg hg2=>by
      have:=aG hl0;rw[ee mOm,hf3 g hg hg2,hfar g hg hg2]
     exact⟨_,_,hr,.inl ⟨rfl,⟨hIp (k+1) W3 _ _ _ mOm hl3 hi3,hl4,hk4⟩,hKn k _ _ hkp3 (by have:=aG hl3;omega) (hput W3 _ (aG hl3)),hf4⟩⟩
    | ret =>
     obtain⟨hi3,hk3⟩:=hp;obtain⟨hr,hl3,hl4,hk4⟩:=fin (Og .ret) W3 hk3;exact⟨_,_,hr,.inr ⟨rfl,.ret,hXp _ W3 _ _ _ mOm hl3 hi3,hl4,hk4⟩⟩
    | exit id =>
     obtain⟨hi3,hk3⟩:=hp;obtain⟨hr,hl3,hl4,hk4⟩:=fin (Og (.exit id)) W3 hk3;exact⟨_,_,hr,.inr ⟨rfl,.exit id,hXp _ W3 _ _ _ mOm hl3 hi3,hl4,hk4⟩⟩
    | goto t=>exact(hp:False).elim
    | panic ch=>exact(hp:False).elim
    | outgrown=>exact(hp:False).elim
   exact⟨hround.1,fun c cs _=>hround.2 c cs (room_wide _)⟩
  .rintro e W2⟨⟨v,rfl⟩,⟨hi,hl,hd⟩|⟨c,hx,hl,hd⟩⟩
   .refine⟨Oh,_,by have:=run_endLoop (P:=prog) hl (by rw[hrec];simp);rw[hrec] at this;exact this,?_⟩;exact hdone _ _ (az _) (hIp n W2 _ _ _ mOm hl hi) ((ee mOm).trans hd)
   .refine⟨Og c,_,by have:=run_endLoop (P:=prog) hl (by rw[hrec];simp);rw[hrec] at this;exact this,?_⟩;exact hstop _ c _ (az _) (hXp c W2 _ _ _ mOm hl hx) ((ee mOm).trans hd)
end
section
def jw(i j:Nat):Nat->Nat->Nat
 | 0,s=>s
 | f+1,s=>if i%(2*s)=0/\i+2*s<=j then jw i j f (2*s) else s
def iM(i j:Nat):Nat:=jw i j 64 1
def qm:Nat->Nat->Nat->List (Nat×Nat)
 | 0,_,_=>[]
 | f+1,i,j=>if i<j then (i,iM i j)::qm f (i+iM i j) j else []
def cV(i j:Nat):List (Nat×Nat):=qm (j-i) i j
theorem CI(i j:Nat):∀f s,i%s=0->i+s<=j->1<=s->i%jw i j f s=0/\i+jw i j f s<=j/\1<=jw i j f s
 | 0,s,h1,h2,h3=>⟨h1,h2,h3⟩
 | f+1,s,h1,h2,h3=>by
  unfold jw
  split
  .rename_i h;exact CI i j f (2*s) h.1 h.2 mOm
  .exact⟨h1,h2,h3⟩
theorem AU(i j:Nat):∀f t,∃u,jw i j f (2^t)=2^u
 | 0,t=>⟨t,rfl⟩
 | f+1,t=>by
  unfold jw
  split
  .rw[show 2*2^t=2^(t+1) by rw[mM];omega];exact AU i j f (t+1)
  .exact⟨t,rfl⟩
theorem mh{i j:Nat}(h:i<j):i%iM i j=0/\i+iM i j<=j/\1<=iM i j:=CI i j 64 1 (Nat.mod_one i) h (az 1)
theorem Cg(i j:Nat):∃u,iM i j=2^u:=AU i j 64 0
theorem yL:∀f g i j,j-i<=f->j-i<=g->qm f i j=qm g i j
 | 0,g,i,j,h1,h2=>by
  cases g with
  | zero=>rfl
  | succ g=>unfold qm;rw[if_neg mOm]
 | f+1,g,i,j,h1,h2=>by
  cases g with
  | zero=>unfold qm;rw[if_neg mOm]
  | succ g =>
   unfold qm
   split
   .rename_i h
    have:=mh h
    rw[yL f g _ _ mOm mOm]
   .rfl
theorem lK{i j:Nat}(h:¬i<j):cV i j=[]:=by unfold cV;rw[show j-i=0 by omega];rfl
theorem oQ{i j:Nat}(h:i<j):cV i j=(i,iM i j)::cV (i+iM i j) j:=by have:=mh h;unfold cV;rw[show j-i=(j-i-1)+1 by omega,qm,if_pos h,yL (j-i-1) (j-(i+iM i j)) _ _ mOm mOm]
structure Bk (D:Type) where
 b:Nat
 s:Nat
 d:D
section
variable {D:Type} (nd:D->D->D)
def fU:List (Bk D)->Bk D->List (Bk D)
 | [],x=>[x]
 | a::st,x=>if x.b=a.b+a.s/\x.s=a.s/\a.b%(2*a.s)=0 then fU st ⟨a.b,2*a.s,nd a.d x.d⟩ else x::a::st
def nM:List (Bk D)->Bk D->List (Bk D)
 | [],x=>[x]
 | a::st,x=>if a.s=x.s/\a.b%(2*a.s)=0 then nM st ⟨a.b,2*a.s,nd a.d x.d⟩ else x::a::st
def eO(st:List (Bk D))(l:List (Bk D)):List (Bk D):=l.foldl (fU nd) st
def kD(st:List (Bk D))(l:List (Bk D)):List (Bk D):=l.foldl (nM nd) st
def pH:List (Bk D)->Nat->Prop
 | [],p=>p=0
 | a::st,p=>a.b+a.s=p/\pH st a.b
def Row:List (Bk D)->Nat->Nat->Prop
 | [],p,q=>p=q
 | x::l,p,q=>x.b=p/\Row l (p+x.s) q
theorem tV:∀(st:List (Bk D))(x:Bk D),pH st x.b->pH (fU nd st x) (x.b+x.s)
 | [],x,h=>⟨rfl,h⟩
 | a::st,x,h=>by
  unfold fU
  split
  .rename_i e
   have:=tV st ⟨a.b,2*a.s,nd a.d x.d⟩ h.2
   rw[show x.b+x.s=a.b+2*a.s by omega];exact this
  .exact⟨rfl,h⟩
theorem C5:∀(st:List (Bk D))(x:Bk D),pH st x.b->nM nd st x=fU nd st x
 | [],_,_=>rfl
 | a::st,x,h=>by
  unfold nM fU;by_cases e:a.s=x.s/\a.b%(2*a.s)=0
  .rw[if_pos e,if_pos ⟨h.1.symm,e.1.symm,e.2⟩];exact C5 st ⟨a.b,2*a.s,nd a.d x.d⟩ h.2
  .rw[if_neg e,if_neg (fun e2=>e ⟨e2.2.1.symm,e2.2.2⟩)]
theorem xF:∀(l:List (Bk D))(st:List (Bk D))(p q:Nat),pH st p->Row l p q->pH (eO nd st l) q
 | [],st,p,q,h,hr=>by obtain rfl:p=q:=hr;exact h
 | x::l,st,p,q,h,hr=>by
  obtain⟨rfl,hr⟩:=hr;exact xF l (fU nd st x) _ q (tV nd st x h) hr
theorem tW:∀(l:List (Bk D))(st:List (Bk D))(p q:Nat),pH st p->Row l p q->kD nd st l=eO nd st l
 | [],_,_,_,_,_=>rfl
 | x::l,st,p,q,h,hr=>by
  obtain⟨rfl,hr⟩:=hr
  show kD nd (nM nd st x) l=eO nd (fU nd st x) l
  rw[C5 nd st x h]
  exact tW l _ _ q (tV nd st x h) hr
theorem nQ:∀{l m:List (Bk D)}{p q r:Nat},Row l p q->Row m q r->Row (l++m) p r
 | [],_,_,_,_,h1,h2=>by obtain rfl:=(h1:_=_);exact h2
 | _::_,_,_,_,_,h1,h2=>⟨h1.1,nQ h1.2 h2⟩
def jx(e:D):List (Bk D)->D
 | []=>e
 | a::st=>st.foldl (fun t x=>nd x.d t) a.d
variable (lf:Nat->D)
def lJ:Nat->Nat->D
 | 0,b=>lf b
 | t+1,b=>nd (lJ t b) (lJ t (b+2^t))
def tu:List (Bk D)->Nat->Prop
 | [],p=>p=0
 | a::st,p=>∃t,a.s=2^t/\a.b+2^t=p/\a.b%2^(t+1)=0/\a.d=lJ nd lf t a.b/\tu st a.b
theorem ml{t u a:Nat}(h:t<=u)(ha:a%2^u=0):a%2^t=0:=by obtain⟨k,rfl⟩:∃k,u=t+k:=⟨u-t,mOm⟩;obtain⟨c,rfl⟩:=Nat.dvd_of_mod_eq_zero ha;rw[Nat.pow_add,Nat.mul_assoc];exact Nat.mul_mod_right _ _
theorem yO:∀(st:List (Bk D))(p t:Nat),tu nd lf st p->p%2^t=0->tu nd lf (fU nd st ⟨p,2^t,lJ nd lf t p⟩) (p+2^t)
 | [],p,t,h,_=>by
  obtain rfl:p=0:=h;exact⟨t,rfl,rfl,Nat.zero_mod _,rfl,rfl⟩
 | a::st,p,t,h,hp=>by
  obtain⟨u,hs,hb,hm,hd,hc⟩:=h;unfold fU;have e2:2*2^u=2^(u+1):=by rw[mM];omega
  by_cases hu:u=t
  .subst hu;rw[if_pos ⟨by show p=_;omega,hs.symm,by rw[hs,e2];exact hm⟩];have:=yO st a.b (u+1) hc hm;rw[show p+2^u=a.b+2^(u+1) by omega,hs,e2,hd];rw[show p=a.b+2^u by omega];exact this
  .have hne:¬(p=a.b+a.s/\2^t=a.s/\a.b%(2*a.s)=0):=fun e=>by
    rw[hs] at e;exact hu ((Nat.pow_right_inj (Nat.lt_succ_self 1)).1 e.2.1.symm)
   rw[if_neg hne]
   refine⟨t,rfl,rfl,?_,rfl,u,hs,hb,hm,hd,hc⟩
   show p%2^(t+1)=0
   have htu:t<u:=by
    refine Nat.lt_of_le_of_ne ?_ (fun e=>hu e.symm);refine Nat.le_of_not_lt fun hlt=>?_
    have h1:=ml (show u+1<=t from hlt) hp;rw[<-hb,Nat.add_mod,hm,bP,Nat.mod_mod,Nat.mod_eq_of_lt (by rw[<-e2];have:=lH u;omega)] at h1;have:=lH u;omega
   have h3:=ml (show t+1<=u from htu) (ml (pK u) hm)
   have h4:2^u%2^(t+1)=0:=ml (show t+1<=u from htu) (Nat.mod_self _);rw[<-hb,Nat.add_mod,h3,h4];simp
theorem AP:∀(st st2:List (Bk D))(p:Nat),tu nd lf st p->tu nd lf st2 p->st=st2
 | [],[],_,_,_=>rfl
 | [],a::st,p,h,h2=>by
  obtain rfl:p=0:=h;obtain⟨t,_,hb,_⟩:=h2;have:=lH t;omega
 | a::st,[],p,h,h2=>by
  obtain rfl:p=0:=h2;obtain⟨t,_,hb,_⟩:=h;have:=lH t;omega
 | a::st,a2::st2,p,h,h2=>by
  obtain⟨t,hs,hb,hm,hd,hc⟩:=h;obtain⟨u,hs2,hb2,hm2,hd2,hc2⟩:=h2
  have key:∀(t u:Nat)(x y:Nat),x+2^t=y+2^u->x%2^(t+1)=0->y%2^(u+1)=0->¬t<u:=fun t u x y e h1 h2 hlt=>by
   have h3:=ml (show t+1<=u+1 by omega) h2;have h4:2^u%2^(t+1)=0:=ml (show t+1<=u from hlt) (Nat.mod_self _);have h5:(x+2^t)%2^(t+1)=0:=by rw[e,Nat.add_mod,h3,h4];simp
   have e2:2*2^t=2^(t+1):=by rw[mM];omega
   have:=lH t;rw[Nat.add_mod,h1,bP,Nat.mod_mod,Nat.mod_eq_of_lt mOm] at h5;omega
  obtain rfl:t=u:=by have h1:=key t u a.b a2.b mOm hm hm2;have h2:=key u t a2.b a.b mOm hm2 hm;omega
  have hbe:a.b=a2.b:=mOm
  have:a=a2:=by
   cases a;cases a2
   simp only at hs hs2 hd hd2 hbe
   subst hbe hs hs2 hd hd2;rfl
  subst this
  rw[AP st st2 a.b hc (by rw[hbe] at hc2 |-;exact hc2)]
def oC:List (Bk D)->Prop
 | []=>True
 | x::l=>(∃t,x.s=2^t/\x.b%2^t=0/\x.d=lJ nd lf t x.b)/\oC l
theorem mA:∀{l m:List (Bk D)},oC nd lf l->oC nd lf m->oC nd lf (l++m)
 | [],_,_,h=>h
 | _::_,_,h1,h2=>⟨h1.1,mA h1.2 h2⟩
theorem pM:∀(l st:List (Bk D))(p q:Nat),tu nd lf st p->Row l p q->oC nd lf l->tu nd lf (eO nd st l) q
 | [],st,p,q,h,hr,_=>by obtain rfl:p=q:=hr;exact h
 | x::l,st,p,q,h,hr,hg=>by
  obtain⟨b,s,d⟩:=x;obtain⟨rfl,hr⟩:=hr;obtain⟨⟨t,h1,h2,h3⟩,hg⟩:=hg;simp only at h1 h2 h3 hr;subst h1 h3;exact pM l _ _ q (yO nd lf st b t h h2) hr hg
def gw(i j:Nat):List (Bk D):=(cV i j).map fun x=>⟨x.1,x.2,lJ nd lf x.2.log2 x.1⟩
def dF(l:List (Nat×Nat))(d:List D):List (Bk D):=(l.zip d).map fun x=>⟨x.1.1,x.1.2,x.2⟩
def wl(i n:Nat):List (Bk D):=(List.range n).map fun k=>⟨i+k,1,lf (i+k)⟩
theorem oS(j:Nat):∀f i,j-i<=f->i<=j->Row (gw nd lf i j) i j/\oC nd lf (gw nd lf i j)
 | 0,i,h,hi=>by
  obtain rfl:i=j:=mOm;unfold gw;rw[lK (Nat.lt_irrefl i)];exact⟨rfl,trivial⟩
 | f+1,i,h,hi=>by
  by_cases hlt:i<j
  .have hb:=mh hlt;have ih:=oS j f (i+iM i j) mOm hb.2.1;unfold gw at ih |-;rw[oQ hlt];obtain⟨u,hu⟩:=Cg i j;refine⟨⟨rfl,ih.1⟩,⟨u,hu,by rw[<-hu];exact hb.1,?_⟩,ih.2⟩
   show lJ nd lf (iM i j).log2 i=_
   rw[hu,Nat.log2_two_pow]
  .obtain rfl:i=j:=mOm;unfold gw;rw[lK (Nat.lt_irrefl i)];exact⟨rfl,trivial⟩
theorem Bb(i:Nat):∀n,Row (wl lf i n) i (i+n)/\oC nd lf (wl lf i n)
 | 0=>⟨rfl,trivial⟩
 | n+1=>by
  have ih:=Bb i n;have e:wl lf i (n+1)=wl lf i n++[⟨i+n,1,lf (i+n)⟩]:=by unfold wl;rw[List.range_succ,List.map_append];rfl
  rw[e];exact⟨nQ ih.1 ⟨rfl,rfl⟩,mA nd lf ih.2 ⟨⟨0,rfl,Nat.mod_one _,rfl⟩,trivial⟩⟩
theorem AE(i j:Nat):dF (cV i j) ((gw nd lf i j).map Bk.d)=gw nd lf i j:=by
 unfold dF gw;generalize cV i j=l
 induction l with
 | nil=>rfl
 | cons x l ih=>simp only[fP,List.zip_cons_cons];rw[ih]
theorem vF(l:List (Bk D))(n:Nat)(h1:Row l 0 n)(h2:oC nd lf l):eO nd [] l=eO nd [] (wl lf 0 n):=by refine AP nd lf _ _ n (pM nd lf l [] 0 n rfl h1 h2) ?_;have:=Bb nd lf 0 n;rw[bP] at this;exact pM nd lf _ [] 0 n rfl this.1 this.2
end
end
section
open Go
def lW(n:Nat):Code->Option Code
 | .region id ops b=>if id=n then some (.region id ops b) else none
 | .seq a b=>match lW n a with
  | some c=>some c
  | none=>lW n b
 | .cond _ a b=>match lW n a with
  | some c=>some c
  | none=>lW n b
 | .block _ c=>lW n c
 | .loop c=>lW n c
 | .scope c=>lW n c
 | _=>none
noncomputable def db(f:Func)(n:Nat):Code:=(f.body.bind (lW n)).getD .skip
def aZ(K:Act->World->Prop):Exit->Act->World->Prop
 | .normal,a,w=>K a w
 | _,_,_=>False
theorem qb{P:Program}{c:Code}{K:Act->World->Prop}{Q:Exit->Act->World->Prop}{a:Act}{w:World}(h:c.wp P (aZ K) a w)(hk:∀a w,K a w->Q .normal a w):c.wp P Q a w:=
 Code.wp_mono (fun e a w h=>by cases e <;> first|exact hk _ _ h|exact(h:False).elim) h
theorem AH{P:Program}{w:World}{o:Oper}{a:Act}{K:Act->World->Prop}{Q:Exit->Act->World->Prop}(f:FuncId)(args:Array Operand)(tys:Array TypeId)
  (ho:o.op=.call { callee:=.value (.func f),args:=args,argTypes:=tys }) (vs:List Value) (hvs:args.toList.map a.eval=vs) (hc:∀xs w,(callFunc f xs).run P w=.ok (.enter f xs) w) {R:Ending->World->Prop} (h:Calls P f vs.toArray w R)
  (hK:∀e w',R e w'->∃v,e=Oe v/\K (a.put o.dst v) w'):Oper.wp P o a w K Q:=by
 obtain⟨dst,op,type,pos,after,guard⟩:=o;simp only at ho;subst ho;unfold Oper.wp;rw[execOp_call_go,hc,Oper.upon_enter];have hv : #[]++args.map a.eval++#[]=vs.toArray:=by subst hvs;simp[<-Array.toList_map]
 rw[hv];refine h.mono fun e w' hR=>?_
 obtain⟨v,rfl,hk⟩:=hK e w' hR;exact hk
theorem mOn{P:Program}{c:Code}{Q:Exit->Act->World->Prop}{a:Act}{w:World}(h:c.wp P (aZ (Q .normal)) a w):c.wp P Q a w:=qb h (fun _ _ h=>h)
end
section
open Go Go.Proofs Go.RowKit Go.Sort Go.Lib
section
variable {α:Type}
def aN(enc:α->List Value)(L:List α):List Value:=L.flatMap enc
theorem kJ(enc:α->List Value)(L M:List α):aN enc (L++M)=aN enc L++aN enc M:=by simp[aN]
theorem fB{enc:α->List Value}{k:Nat}(hk:∀x,(enc x).length=k):∀L:List α,(aN enc L).length=L.length*k
 | []=>by simp[aN]
 | x::L=>by
  have e:aN enc (x::L)=enc x++aN enc L:=rfl;rw[e,ap,hk,fB hk L,List.length_cons,pJ];omega
theorem uN{enc:α->List Value}(h1:∀x,∀u∈enc x,u.oneCell'=true)(L:List α):∀u∈aN enc L,u.oneCell'=true:=by intro u hu;unfold aN at hu;obtain⟨x,_,hx⟩:=List.mem_flatMap.1 hu;exact h1 x u hx
theorem jp{enc:α->List Value}{k:Nat}(hk:∀x,(enc x).length=k){L:List α}{i j:Nat}{x:α}{u:Value}(hi:L[i]? = Og x)(hj:(enc x)[j]? = Og u):(aN enc L)[i*k+j]? = Og u:=by
 obtain⟨hi1,rfl⟩:=aA.1 hi;have hjk:j<k:=by have:=(aA.1 hj).1;rwa [hk] at this
 have e:L=L.take i++L[i]::L.drop (i+1):=by rw[List.getElem_cons_drop,cP]
 have ht:(L.take i).length=i:=by simp;omega
 have hq:(aN enc L)[i*k+j]? = (aN enc (L.take i++L[i]::L.drop (i+1)))[i*k+j]?:=by rw[<-e]
 rw[hq,kJ,show aN enc (L[i]::L.drop (i+1))=enc L[i]++aN enc (L.drop (i+1)) from rfl,
  bS (by rw[fB hk,ht];omega),fB hk,ht,show i*k+j-i*k=j by omega,
  bR (aA.1 hj).1]
 exact hj
def Ey(enc:α->List Value)(w:World)(b o:Nat)(L:List α):Prop:=∀(j:Nat)(u:Value),(aN enc L)[j]? = Og u->w.cell? ⟨b,o+j,Oh⟩=Og u
def ar(enc:α->List Value)(w:World)(v:Value)(L:List α):Prop:=∃p c,v=Oc p L.length c/\L.length<=c/\(p=Oh->c=0)/\(0<L.length->∃b o,p=Og ⟨b,o,Oh⟩/\b<w.heap.size/\Ey enc w b o L)
variable {enc:α->List Value} {k:Nat} {w w':World} {v:Value} {L:List α}
theorem ar.nil(enc:α->List Value)(w:World):ar enc w (Oc Oh 0 0) []:=⟨Oh,0,rfl,aP _,fun _=>rfl,fun h=>by cases h⟩
theorem ar.below(h:ar enc w v L)(hb:ac w.heap.size w w'):ar enc w' v L:=by
 obtain⟨p,c,hv,hc,hz,hr⟩:=h;refine⟨p,c,hv,hc,hz,fun hl=>?_⟩;obtain⟨b,o,hp,hbs,hx⟩:=hr hl;exact⟨b,o,hp,ax hbs hb.size,fun j u hj=>by rw[hb.cell (p:=⟨b,o+j,Oh⟩) hbs];exact hx j u hj⟩
theorem ar.form(h:ar enc w v L):∃p c,v=Oc p L.length c/\L.length<=c:=by obtain⟨p,c,hv,hc,_,_⟩:=h;exact⟨p,c,hv,hc⟩
theorem ar.take(h:ar enc w v L){p:Option Addr}{n c m:Nat}(hv:v=Oc p n c)(hm:m<=L.length):ar enc w (Oc p m c) (L.take m):=by
 obtain⟨p',c',hv',hc,hz,hr⟩:=h;rw[hv'] at hv;injection hv with e1 e2 e3;subst e1;subst e2;subst e3;have hlen:(L.take m).length=m:=by simp;omega
 refine⟨p',c',by rw[hlen],mOm,hz,fun hl=>?_⟩;obtain⟨b,o,hp,hbs,hx⟩:=hr mOm;refine⟨b,o,hp,hbs,fun j u hj=>hx j u ?_⟩;have e:aN enc L=aN enc (L.take m)++aN enc (L.drop m):=by rw[<-kJ,cP]
 rw[e,bR (aA.1 hj).1];exact hj
theorem ar.drop{b o c:Nat}(h:ar enc w (Oc (Og ⟨b,o,Oh⟩) L.length c) L)(hk:∀x,(enc x).length=k){m:Nat}(hm:m<=L.length):ar enc w (Oc (Og ⟨b,o+m*k,Oh⟩) (L.length-m) (c-m)) (L.drop m):=by
 obtain⟨p',c',hv',hc,_,hr⟩:=h;injection hv' with e1 e2 e3;subst e1;subst e3;have hlen:(L.drop m).length=L.length-m:=mSi;refine⟨_,_,by rw[hlen],mOm,fun hn=>(by cases hn),fun hl=>?_⟩;obtain⟨b',o',hp,hbs,hx⟩:=hr mOm;injection hp with hp;injection hp with e1 e2;subst e1;subst e2;refine⟨_,_,rfl,hbs,fun j u hj=>?_⟩;rw[Nat.add_assoc];refine hx _ _ ?_;have e:aN enc L=aN enc (L.take m)++aN enc (L.drop m):=by rw[<-kJ,cP]
 have ht:(aN enc (L.take m)).length=m*k:=by rw[fB hk];congr 1;simp;omega
 rw[e,bS (by rw[ht];omega),ht,show m*k+j-m*k=j by omega];exact hj
theorem fo{base n:Nat}{e:TypeId}(hk:∀x,(enc x).length=k)(hk0:0<k)(h:w.ownsRow base e k v n (aN enc L)):ar enc w v L:=by
 have hn:n=L.length:=by have:=h.1;rw[fB hk] at this;exact(Nat.eq_of_mul_eq_mul_right hk0 this).symm
 subst hn
 rcases h.2 with ⟨rfl,h0⟩|⟨g,cap,cur,rfl,_,hg,h2,_,_,h5⟩
 .have e:=bn h0;subst e;exact ar.nil _ _
 .refine⟨_,cap,rfl,h2,fun hn=>(by cases hn),fun _=>⟨g,0,rfl,(Array.getElem?_eq_some_iff.1 hg).1,fun j u hj=>?_⟩⟩;rw[bP,ae hg];rw[<-h5,List.getElem?_take] at hj
  split at hj
  .simpa using hj
  .cases hj
structure RowT (P:Program) (enc:α->List Value) (k:Nat) (e t:TypeId):Prop where
 len:∀x,(enc x).length=k
 one:∀x,∀u∈enc x,u.oneCell'=true
 pos:0<k
 und:P.underlying t=Og (.slice e)
 info:∃i0 z,P.info? e=Og i0/\i0.zero=Og z/\i0.size=k/\z.cells.size=k/\i0.bytes<=1000
structure AppT (enc:α->List Value) (k:Nat) (e:TypeId) (w:World) (base:Nat) (v:Value) (X Y:List α) (v':Value) (w':World):Prop where
 own:w'.ownsRow base e k v' (X++Y).length (aN enc (X++Y))
 grown:w.grownBy w' v.ownBlock
 old:ar enc w' v X
 block:v'.ownBlock=v.ownBlock\/∀q,v'.ownBlock=Og q->w.heap.size<=q
theorem oy{P:Program}{e t:TypeId}(R:RowT P enc k e t)(w:World)(base:Nat)(ty:TypeId)(v xv:Value)(X Y:List α)(hown:w.ownsRow base e k v X.length (aN enc X))(hx:ar enc w xv Y)(hl:X.length+Y.length<=1000000)(hb:base<=w.heap.size) :
  ∃v' w',(Builtin.append_ #[t,t] ty #[v,xv]).run P w=.ok v' w'/\AppT enc k e w base v X Y v' w':=by
 obtain⟨i0,z,hi,hz0,hz1,hz2,hz3⟩:=R.info;have hk:=fB R.len;have hby:(X.length+Y.length)*i0.bytes<=140737488355328:=aV (Nat.mul_le_mul hl hz3) mDe;obtain⟨p,c,rfl,hc,hnil,hr⟩:=hx;rcases p with _|ad
 .obtain rfl:=hnil rfl;obtain rfl:Y=[]:=bn mOm;refine⟨v,w,run_append_owned_none w base t ty e i0 k R.und hi v X.length (aN enc X) hown,by simpa using hown,⟨rfl,rfl,rfl,az _,fun _ _ _=>rfl⟩,fo R.len R.pos hown,.inl rfl⟩
 .have hnews:∀(j:Nat)(u:Value),(aN enc Y)[j]? = Og u->w.cell? (ad.add j)=Og u:=fun j u hj=>by
   have hY:0<Y.length:=by
    rcases Nat.eq_zero_or_pos Y.length with h0|h0
    .rw[bn h0] at hj;simp[aN] at hj
    .exact h0
   obtain⟨b,o,hp,_,hx⟩:=hr hY
   injection hp with hp;subst hp;rw[add_plain];exact hx j u hj
  obtain⟨v',w',hr,h5,h6,h7⟩:=run_append_own (P:=P) w base t ty e i0 z k i0.bytes R.und hi hz0 hz1 rfl hz2 R.pos v X.length (aN enc X) hown ad Y.length c (aN enc Y) (hk _)
   hnews (uN R.one _) (by unfold maxLen;omega) hby hb
  suffices h:ar enc w' v X/\(v'.ownBlock=v.ownBlock\/∀q,v'.ownBlock=Og q->w.heap.size<=q) from⟨v',w',hr,by rw[kJ,ap];exact h5,h6,h.1,h.2⟩
  rcases id hown.2 with ⟨rfl,h0⟩|⟨g,cap,cur,rfl,hbg,hg,hnc,hcm,hcs,htake⟩
  .have hX:X=[]:=bn h0;subst hX;refine⟨ar.nil _ _,?_⟩;by_cases hm:Y.length=0
   .left;rw[h7.2 ⟨rfl,hm⟩]
   .right;have hr2:=run_append_nil (P:=P) w t ty e i0 z R.und hi hz0 ad Y.length c (aN enc Y) (by rw[hk,hz1]) hnews mOm mOm (by have:Y.length*i0.bytes<=(([]:List α).length+Y.length)*i0.bytes:=iR _ mSi;omega);rw[hr] at hr2;injection hr2 with e1 e2;subst e1;exact fun q hq=>by obtain rfl:=Option.some.inj hq;exact az _
  .by_cases hroom:X.length+Y.length<=cap
   .have hfit:X.length*i0.size+(aN enc Y).length<=cur.size:=by rw[hk,hcs,hz1,<-pJ];exact iR _ hroom
    have hr2:=run_append_room (P:=P) w t ty e i0 R.und hi g X.length cap cur hg ad Y.length c (aN enc Y) (by rw[hk,hz1]) hnews (uN R.one _) hroom hfit;rw[hr] at hr2;injection hr2 with e1 e2;subst e1;refine⟨⟨_,cap,rfl,hnc,fun hn=>(by cases hn),fun _=>⟨g,0,rfl,(h5.lt g rfl).2,fun j u hj=>?_⟩⟩,.inl rfl⟩;have:=h5.cells (g:=g) rfl j u (by rw[bR (aA.1 hj).1];exact hj);rw[add_plain] at this;exact this
   .have holds:∀j u,(aN enc X)[j]? = Og u->w.cell? ((⟨g,0,Oh⟩:Addr).add j)=Og u:=hown.cells (g:=g) rfl;have hr2:=run_append_grow (P:=P) w t ty e i0 z R.und hi hz0 ⟨g,0,Oh⟩ X.length cap (aN enc X) (by rw[hk,hz1]) holds ad Y.length c (aN enc Y) (by rw[hk,hz1]) hnews mOm mOm (growslice_fits mOm mOm);rw[hr] at hr2;injection hr2 with e1 e2;subst e1 e2;exact⟨(fo R.len R.pos hown).below ((Below.refl _ w).drew.alloc (az _) _),.inr fun q hq=>by obtain rfl:=Option.some.inj hq;exact az _⟩
theorem uy{P:Program}{e t:TypeId}(R:RowT P enc k e t){o:Oper}{a:Act}{w:World}{K:Act->World->Prop}{Q:Exit->Act->World->Prop}(s x:Operand)(ho:o.op=.call { callee:=.builtin .append,args:=#[s,x],argTypes:=#[t,t] })
  (base:Nat) (v xv:Value) (X Y:List α) (hs:a.eval s=v) (hxv:a.eval x=xv) (hown:w.ownsRow base e k v X.length (aN enc X)) (hx:ar enc w xv Y) (hl:X.length+Y.length<=1000000) (hb:base<=w.heap.size)
  (h:∀v' w',AppT enc k e w base v X Y v' w'->K (a.put o.dst v') w'):o.wp P a w K Q:=by
 obtain⟨v',w',hr,h2⟩:=oy R w base o.type v xv X Y hown hx hl hb;unfold Oper.wp execOp;simp only[ho,resolve,invoke,builtin,Sem.run_bind,Sem.run_pure,Result.andThen_ok,List.map_toArray,fP,List.map_nil,hs,hxv,hr];exact h v' w' h2
theorem bl{P:Program}{e t:TypeId}(R:RowT P enc k e t){ops:Array Oper}{rest:List Oper}{o:Oper}{a:Act}{w:World}{Q:Exit->Act->World->Prop}(hgd:o.guard=Oh)(s x:Operand)(ho:o.op=.call { callee:=.builtin .append,args:=#[s,x],argTypes:=#[t,t] })
  (base:Nat) (v xv:Value) (X Y:List α) (hs:a.eval s=v) (hxv:a.eval x=xv) (hown:w.ownsRow base e k v X.length (aN enc X)) (hx:ar enc w xv Y) (hl:X.length+Y.length<=1000000) (hb:base<=w.heap.size)
  (h:∀v' w',AppT enc k e w base v X Y v' w'->wpList P ops Q rest (a.put o.dst v') w'):wpList P ops Q (o::rest) a w:=
 wpList_plain hgd fun _ hK=>uy R s x ho base v xv X Y hs hxv hown hx hl hb fun v' w' h2=>hK _ _ (h v' w' h2)
end
end
section
open Go Go.RowKit Go.Sort
def dM(n:Int):List UInt8:=dC n++[59]
def eW(s:ByteArray):List UInt8:=dC s.size++58::s.data.toList
theorem gg(n:Int)(h0 : -9223372036854775808<=n)(h1:n<=9223372036854775807):(dM n).length<=22:=by have:=bO n h0 h1;simp[dM];omega
theorem ia(s:ByteArray)(hs:s.size<=1000000):(eW s).length<=s.size+22:=by have:=bO s.size mOm mOm;have h2:=bF s;simp[eW] at *;omega
theorem lr(n:Int)(w:World)(h0 : -9223372036854775808<=n)(h1:n<=9223372036854775807)(ht:Tabs w) :
  Calls prog 97 #[N9 Oa n] w fun e w'=>e=Oe (Ob ⟨(dM n).toArray⟩)/\Below w.heap.size w w':=by
 have hl:=bO n h0 h1;go_enter func97,ntmps97;go_wp2_with (go_at_call 121;refine(lT _ _ h0 h1 ht).mono ?_;rintro e w'⟨rfl,hb⟩);go_ret;exact⟨cU (dL (by simp[dM])),hb⟩
theorem qj(s:ByteArray)(w:World)(hs:s.size<=1000000)(ht:Tabs w) :
  Calls prog 98 #[Ob s] w fun e w'=>e=Oe (Ob ⟨(eW s).toArray⟩)/\Below w.heap.size w w':=by
 have hl:=bO s.size mOm mOm;go_enter func98,ntmps98;go_wp2_with (go_at_call 121;refine(lT _ _ mOm mOm ht).mono ?_;rintro e w'⟨rfl,hb⟩);go_ret;exact⟨cU (dL (by simp[eW])),hb⟩
end
end Go.Proofs.YtnlhbdmeodbblaaGreatDoor
section
namespace Go.Proofs
open Go.Shelf
def Tryz.insEnt_ren:Go.Shelf.Ren:=⟨fun|20=>178|n=>n,fun|24=>67|22=>34|3=>3|25=>110|4=>4|0=>0|n=>n,fun|n=>n⟩
theorem Tryz.insEnt:Go.Proofs.SlLaysF0.n20 prog Tryz.insEnt_ren:={
 mixed:=mKr
 f20:=⟨f178.name,mDe,func178.trans (congrArg Og mKr)⟩
 t0:=underlying0
 a0:=isAgg0
 z0:=sizeOf0
 v0:=zeroValue0
 t3:=underlying3
 a3:=isAgg3
 z3:=sizeOf3
 v3:=zeroValue3
 t4:=underlying4
 a4:=isAgg4
 z4:=sizeOf4
 v4:=zeroValue4
 t22:=underlying34
 a22:=isAgg34
 z22:=sizeOf34
 v22:=zeroValue34
 t25:=underlying110
 a25:=isAgg110
 z25:=sizeOf110
 v25:=zeroValue110 }
end Go.Proofs
end
namespace Go.Proofs.YtnlhbdmeodbblaaGreatDoor
