/- Lemmas. -/
import Derived.Stop.BytesEq
import Derived.Test.YtnlhbdmeodbblaaGreatDoorMiao
import Derived.Test.YtnlhbdmeodbblaaGreatDoorMiap
set_option maxRecDepth 100000
set_option maxHeartbeats 16000000
set_option linter.all false
open Go.Proofs.Tryz
open Bool renaming and_eq_true→aW,not_true→ir,true_and→ld
open Go.Lib renaming cell_of_heap→ae,frozen_of_heap→aE,hid→aa
open List renaming eq_nil_of_length_eq_zero→aS,getD_eq_getElem?_getD→bi,getElem?_eq_getElem→ai,getElem_mem→bD,length_append→ax,length_cons→bA,length_map→aX,length_nil→cu,length_singleton→aG,length_take→aM,map_append→eX,mem_append→bN,mem_singleton→bJ,take_length→aT,toArray→aq
open Nat renaming add_zero→ee,le_refl→aD,zero_le→aR
open Go.RowKit renaming Below→ac,intOf→aw
open Go.Ending renaming returned→JT
open Go.IntKind renaming i64→JP
open Go.Obj renaming cells→JU
open Go.Value renaming int→JO,string→JQ,slice→JR,pointer→JS
open Option renaming some→JV,none→JW
namespace Go.Proofs.YtnlhbdmeodbblaaGreatDoor
open Go Go.RowKit Go.Sort Go.Lib
section
theorem yi (s:ByteArray) (i j:Nat):(s.extract i j).data.toList=(s.data.toList.drop i).take (j - i):=by rw [ByteArray.data_extract,Array.toList_extract,List.extract_eq_take_drop]
theorem yj (s:ByteArray) (i j:Nat):(s.extract i j).size=min j s.size - i:=ByteArray.size_extract
def spB (k:ByteArray):Bool:=k.data.toList.getD 6 0==32&&k.data.toList.getD 13 0==32&&k.data.toList.getD 20 0==32
theorem Ff (k:ByteArray) (i:Nat) (h:i < k.size):k[i]=k.data.toList.getD i 0:=by
 have hl:i < k.data.toList.length:=by rw [← bw];exact h
 rw [bi,ai hl];exact Wr.get_ba k i h
theorem D6 {k:ByteArray} (h:k.size=22) (st fi la:Int):iG st fi la k.data.toList=(spB k&&decide (eV (k.extract 0 6).data.toList=st)&&aB (eV (k.extract 7 13).data.toList) fi la&&aB (eV (k.extract 14 20).data.toList) 1 899999&&aB (eV (k.extract 21 22).data.toList) 1 9):=by
 have hl:k.data.toList.length=22:=by rw [← bw];exact h
 have e21:(k.data.toList.drop 21).take (22 - 21)=k.data.toList.drop 21:=List.take_of_length_le (by rw [List.length_drop];omega);unfold iG spB;rw [yi,yi,yi,yi,e21,hl,decide_eq_true rfl,ld,List.drop_zero]
theorem D7 {k:ByteArray} (h:k.size ≠ 22) (st fi la:Int):iG st fi la k.data.toList=false:=by
 have hl:k.data.toList.length ≠ 22:=by rw [← bw];exact h
 unfold iG;rw [decide_eq_false hl];simp
theorem D8 {k:ByteArray} (h:spB k=false) (st fi la:Int):iG st fi la k.data.toList=false:=by
 unfold iG
 change (_&&spB k&&_&&_&&_&&_)=false
 rw [h]
 simp
theorem EA (a b c:UInt8) (w:World):(binOp .neq 253 (.agg #[JO .u8 a.toNat,JO .u8 b.toNat,JO .u8 c.toNat]) (.agg #[JO .u8 32,JO .u8 32,JO .u8 32])).run prog w=.ok (.bool (!(([a,b,c]:List UInt8)==[32,32,32]))) w:=by
 have h:=run_equalIn_bytes (P:=prog) w 9998 253 5 3 underlying253 underlying5 (fun w=>sizeOf5 w) [a,b,c] [32,32,32] rfl rfl;have h2:(Op.equalIn 10000 253 (.agg #[JO .u8 a.toNat,JO .u8 b.toNat,JO .u8 c.toNat]) (.agg #[JO .u8 32,JO .u8 32,JO .u8 32])).run prog w=.ok (([a,b,c]:List UInt8)==[32,32,32]) w:=h;rw [run_neq_struct,h2];rfl
theorem nf {fn:Func} {p u:Tmp} (h:fn.results=#[.cell p 228,.tmp u]) (tmps:Array Value) (w:World) (g:Nat) (a b c d:Int) (hp:tmps.getD p undef=JS (JV ⟨g,0,JW⟩)) (hg:w.heap[g]? = JV (JU #[JO JP a,JO JP b,JO JP c,JO JP d] 228 (0,0))) :
  (results fn tmps).run prog w=.ok (.tuple #[.agg #[JO JP a,JO JP b,JO JP c,JO JP d],tmps.getD u undef]) w:=by
 rw [results_cell_tmp h,hp];have:=run_loadVar_row (P:=prog) w g 228 228 #[JO JP a,JO JP b,JO JP c,JO JP d] (0,0) _ hg underlying228 rfl mKr;simp only [asAddr,Sem.run_pure,Result.andThen_ok,this]
def AQ (k:ByteArray) (w:World) (e:Ending) (w':World):Prop:=ac w.heap.size w w'∧
  ((k.size=22∧spB k=true∧e=JT (.tuple #[.agg #[JO JP (eV (k.extract 0 6).data.toList),JO JP (eV (k.extract 7 13).data.toList),JO JP (eV (k.extract 14 20).data.toList),JO JP (eV (k.extract 21 22).data.toList)],.bool true]))∨
   ((k.size ≠ 22∨spB k=false)∧e=JT (.tuple #[.agg #[JO JP 0,JO JP 0,JO JP 0,JO JP 0],.bool false])))
theorem Re {p q:Prop} (h:q) (f:Wq q→p:=by
 intro hq;refine Jy (S:=fun u=>ac w.heap.size w u) [(0,true),(1,true),(2,true),(3,true),(4,true),(5,true),(6,true),(7,true),(8,true),(9,true),(10,true),(11,true),(12,true),(13,true)] hS0 ?_;have hS:=hS0
 revert hS
 exact hq.1):p:=f ⟨h⟩
theorem Lo {p q:Prop} (h:q) (f:Wq q→p:=by
 intro hq;have hd0:((w.alloc (JU #[JO JP 0,JO JP 0,JO JP 0,JO JP 0] 228)).drew).heap[w.heap.size]? = JV (JU #[JO JP 0,JO JP 0,JO JP 0,JO JP 0] 228 (0,0)):=hh
 revert hd0
 exact hq.1):p:=f ⟨h⟩
theorem Am (k:ByteArray) (_hk:k.size≤100000) (w:World) :
  Calls prog 194 #[JQ k] w (AQ k w):=by
 have hba:=al w (JU #[JO JP 0,JO JP 0,JO JP 0,JO JP 0] 228);have hh:=heap_alloc_new w (JU #[JO JP 0,JO JP 0,JO JP 0,JO JP 0] 228);have hS0:=hba.drew;go_enter func194,ntmps194;by_cases h22:k.size=22
 ·have t1:((k.size:Int) != 22)=false:=by rw [bne_eq_false_iff_eq];omega
  have l6:6 < k.size:=mOm;have l13:13 < k.size:=mOm;have l20:20 < k.size:=mOm;have m6:(6:Int) < (k.size:Int):=mOm;have m13:(13:Int) < (k.size:Int):=mOm;have m20:(20:Int) < (k.size:Int):=mOm;obtain ⟨c6,hc6⟩:∃ c,c=k.data.toList.getD 6 0:=⟨_,rfl⟩;obtain ⟨c13,hc13⟩:∃ c,c=k.data.toList.getD 13 0:=⟨_,rfl⟩;obtain ⟨c20,hc20⟩:∃ c,c=k.data.toList.getD 20 0:=⟨_,rfl⟩;have g6:∀ h:6 < k.size,k[6]'h=c6:=fun h=>(Ff k 6 h).trans hc6.symm
  have g13:∀ h:13 < k.size,k[13]'h=c13:=fun h=>(Ff k 13 h).trans hc13.symm
  have g20:∀ h:20 < k.size,k[20]'h=c20:=fun h=>(Ff k 20 h).trans hc20.symm
  have HSP:Hid (spB k=(([c6,c13,c20]:List UInt8)==[32,32,32])):=aa (by
   unfold spB;rw [← hc6,← hc13,← hc20]
   simp [Bool.and_assoc])
  obtain ⟨sp,hsp⟩:∃ b,b=(([c6,c13,c20]:List UInt8)==[32,32,32]):=⟨_,rfl⟩
  have hnq:∀ u,(binOp .neq 253 (.agg #[JO .u8 c6.toNat,JO .u8 c13.toNat,JO .u8 c20.toNat]) (.agg #[JO .u8 32,JO .u8 32,JO .u8 32])).run prog u=.ok (.bool (!sp)) u:=fun u=>by rw [EA,hsp]
  have HS:Hid (spB k=sp):=aa (by rw [HSP.out,hsp]);have H22:=aa h22;clear hc6 hc13 hc20 HSP hsp;go_wp2_with fail;refine Re ?_;intro hS
  iterate 14 refine aj ?_
  simp only [aO,bj];have hbF:=hS;clear hS hS0;refine Lo ?_;intro hd0
  cases sp
  ·go_wp2_with fail;refine bodyPost_ret (nf results194 _ _ w.heap.size 0 0 0 0 rfl hd0) rfl ⟨hbF,.inr ⟨.inr HS.out,rfl⟩⟩
  ·have n1:=fun u=>mi (k.extract 0 6) (by rw [yj];omega) u
   have n2:=fun u=>mi (k.extract 7 13) (by rw [yj];omega) u
   have n3:=fun u=>mi (k.extract 14 20) (by rw [yj];omega) u
   have n4:=fun u=>mi (k.extract 21 22) (by rw [yj];omega) u
   have hd1:((w.alloc (JU #[JO JP 0,JO JP 0,JO JP 0,JO JP 0] 228)).drew.drew).heap[w.heap.size]? = JV (JU #[JO JP 0,JO JP 0,JO JP 0,JO JP 0] 228 (0,0)):=hh;have hsB:ac w.heap.size w ((w.alloc (JU #[JO JP 0,JO JP 0,JO JP 0,JO JP 0] 228)).drew.drew):=hbF.drew
   have hth:((w.alloc (JU #[JO JP 0,JO JP 0,JO JP 0,JO JP 0] 228)).drew.drew).there w.heap.size 0 4:=fun j hj=>by
    rw [Nat.zero_add];refine ⟨?_,aE hd1 j⟩;rw [ae hd1 j]
    match j,hj with
    | 0,_ | 1,_ | 2,_ | 3,_=>rfl
   clear hh hba hd0 g6 g13 g20 hnq
   obtain ⟨a,ha⟩:∃ a,eV (k.extract 0 6).data.toList=a:=⟨_,rfl⟩;rw [ha] at n1;have HA:=aa ha;clear ha;obtain ⟨b,hb⟩:∃ b,eV (k.extract 7 13).data.toList=b:=⟨_,rfl⟩;rw [hb] at n2;have HB:=aa hb;clear hb;obtain ⟨c,hc⟩:∃ c,eV (k.extract 14 20).data.toList=c:=⟨_,rfl⟩;rw [hc] at n3;have HC:=aa hc;clear hc;obtain ⟨d,hd⟩:∃ d,eV (k.extract 21 22).data.toList=d:=⟨_,rfl⟩;rw [hd] at n4;have HD:=aa hd;clear hd;go_wp2_with fail;generalize ((w.alloc (JU #[JO JP 0,JO JP 0,JO JP 0,JO JP 0] 228)).drew)=W at *;have hsF:ac w.heap.size w (W.drew.setCells w.heap.size 0 [JO JP a,JO JP b,JO JP c,JO JP d]):=(((hsB.setCell (p:=⟨w.heap.size,0,JW⟩) (aD _) _).setCell (p:=⟨w.heap.size,1,JW⟩) (aD _) _).setCell (p:=⟨w.heap.size,2,JW⟩) (aD _) _).setCell (p:=⟨w.heap.size,3,JW⟩) (aD _) _;have hhF:(W.drew.setCells w.heap.size 0 [JO JP a,JO JP b,JO JP c,JO JP d]).heap[w.heap.size]? = JV (JU #[JO JP a,JO JP b,JO JP c,JO JP d] 228 (0,0)):=bp (bp (bp (bp hd1 0 (JO JP a)) 1 (JO JP b)) 2 (JO JP c)) 3 (JO JP d);refine Jy (S:=fun u=>ac w.heap.size w u) [(0,true),(1,true),(3,true),(4,true),(6,true),(7,true),(9,true),(10,true),(2,false),(5,false),(8,false),(11,false),(12,true),(13,false),(14,true)] hsB ?_;have hS:=hsB
   iterate 8 refine aj ?_
   refine aH 229 call229 (n1 _) ?_;rintro x wn ⟨rfl,rfl⟩;refine ⟨_,rfl,hS,?_⟩;refine ar ?_;refine aH 229 call229 (n2 _) ?_;rintro x wn ⟨rfl,rfl⟩;refine ⟨_,rfl,hS,?_⟩;refine ar ?_;refine aH 229 call229 (n3 _) ?_;rintro x wn ⟨rfl,rfl⟩;refine ⟨_,rfl,hS,?_⟩;refine ar ?_;refine aH 229 call229 (n4 _) ?_;rintro x wn ⟨rfl,rfl⟩;refine ⟨_,rfl,hS,?_⟩;refine ar ?_;refine aj ?_;refine iV ⟨_,_,_,_,_,_⟩ rfl mRf (wp_store_mid 228 (.tmp 2) (.tmp 31) mRf w.heap.size 0 #[JO JP a,JO JP b,JO JP c,JO JP d] mRf mRf hth mKr (by simp [Value.oneCell']) ?_);refine ⟨hsF,?_⟩;clear hS;have hS:=hsF
   (try simp only [Act.put])
   refine aj ?_;simp only [aO,bj];go_wp2_with fail;refine bodyPost_ret (nf results194 _ _ w.heap.size a b c d rfl hhF) rfl ⟨hsF,.inl ⟨H22.out,HS.out,by rw [HA.out,HB.out,HC.out,HD.out];rfl⟩⟩
 ·have t1:((k.size:Int) != 22)=true:=by rw [bne_iff_ne];omega
  refine Lo ?_;intro hd0;have hbF:=hS0;have HN:=aa h22;clear h22;go_wp2_with fail;refine Re ?_;intro hS
  iterate 14 (first | refine aj ?_ | refine cN ?_)
  simp only [aO,bj];go_wp2_with fail;refine bodyPost_ret (nf results194 _ _ w.heap.size 0 0 0 0 rfl hd0) rfl ⟨hbF,.inr ⟨.inl HN.out,rfl⟩⟩
end
section
theorem gI (n lo hi:Int) (w:World):Calls prog 143 #[JO JP n,JO JP lo,JO JP hi] w fun e w'=>e=JT (.bool (!aB n lo hi))∧w=w':=by
 obtain ⟨B,hB⟩:∃ B,B = !aB n lo hi:=⟨_,rfl⟩;rw [← hB];unfold aB at hB;have HBB:=aa hB;clear hB;by_cases h1:n < lo <;> by_cases h2:hi < n
 all_goals
  have e1:decide (lo≤n) = !decide (n < lo):=by rw [← decide_not];congr 1;rw [Int.not_lt]
  have e2:decide (n≤hi) = !decide (hi < n):=by rw [← decide_not];congr 1;rw [Int.not_lt]
  have HB:Hid (B=(decide (n < lo)||decide (hi < n))):=aa (by rw [HBB.out,e1,e2];simp);have HC:=HB.out;simp only [h1,h2,decide_true,decide_false,Bool.or_true,Bool.or_false] at HC;have HD:=aa HC;clear e1 e2 HB HC HBB;go_enter func143,ntmps143;go_wp2_with fail;go_ret;exact ⟨bX HD.out.symm,rfl⟩
theorem Cx (sc st fi la ro:Int) (pl pp:Option Addr) (nl cl np cp:Nat) (k:ByteArray) (hk:k.size≤100000) (w:World) :
  Calls prog 144 #[.agg #[JO JP sc,JO JP st,JO JP fi,JO JP la,JO JP ro,JR pl nl cl,JR pp np cp],JQ k] w fun e w'=>e=JT (.bool (iG st fi la k.data.toList))∧ac w.heap.size w w':=by
 have kf:=fun u=>Am k hk u
 have hb0:=al w (JU #[JO JP sc,JO JP st,JO JP fi,JO JP la,JO JP ro,JR pl nl cl,JR pp np cp] 39);have hh:=heap_alloc_new w (JU #[JO JP sc,JO JP st,JO JP fi,JO JP la,JO JP ro,JR pl nl cl,JR pp np cp] 39);have HR22:=aa (fun h=>D6 (k:=k) h st fi la)
 have HRNO:Hid ((k.size ≠ 22∨spB k=false)→iG st fi la k.data.toList=false):=aa (fun h=>by
  rcases h with h | h
  ·exact D7 h st fi la
  ·exact D8 h st fi la)
 generalize iG st fi la k.data.toList=V at *
 go_enter func144,ntmps144;go_wp2_with fail;refine (kf _).mono ?_;rintro _ w1 ⟨hb1,hF⟩;have hbw:=ah hb0 hb1;have e1:=(hb1.block _ (ay hh)).trans hh;have x1:w1.cell? ⟨w.heap.size,1,none⟩=some (.int .i64 st):=ae e1 1;have x2:w1.cell? ⟨w.heap.size,2,none⟩=some (.int .i64 fi):=ae e1 2;have x3:w1.cell? ⟨w.heap.size,3,none⟩=some (.int .i64 la):=ae e1 3;have hxl:=ay e1;clear kf hb1 hh e1 hb0;rcases hF with ⟨h22,hsp,rfl⟩ | ⟨hno,rfl⟩
 rotate_left 1
 ·have HV:Hid (V=false):=aa (HRNO.out hno);have hba:=al w1 (JU #[JO JP 0,JO JP 0,JO JP 0,JO JP 0] 228);have hbF:=ah hbw hba;clear hno HRNO HR22;go_wp2_with fail;go_ret;exact ⟨bX HV.out.symm,hbF⟩
 have hV:=HR22.out h22
 rw [hsp,ld] at hV;have HV:=aa hV;clear HRNO HR22 hV h22 hsp;generalize eV (k.extract 0 6).data.toList=a at *;generalize eV (k.extract 7 13).data.toList=b at *;generalize eV (k.extract 14 20).data.toList=c at *;generalize eV (k.extract 21 22).data.toList=d at *;have hba:=al w1 (JU #[JO JP a,JO JP b,JO JP c,JO JP d] 228);have hbF:=ah hbw hba;have x1:=(hba.cell (p:=⟨w.heap.size,1,JW⟩) hxl).trans x1;have x2:=(hba.cell (p:=⟨w.heap.size,2,JW⟩) hxl).trans x2;have x3:=(hba.cell (p:=⟨w.heap.size,3,JW⟩) hxl).trans x3;have k2:=fun u=>gI b fi la u
 have k3:=fun u=>gI c 1 899999 u
 have k4:=fun u=>gI d 1 9 u
 generalize aB b fi la=B2 at *;generalize aB c 1 899999=B3 at *;generalize aB d 1 9=B4 at *;by_cases h1:a=st
 rotate_left 1
 ·have t1:(a==st)=false:=by rw [beq_eq_false_iff_ne];exact h1
  have HV2:Hid (V=false):=aa (by rw [HV.out,decide_eq_false h1];simp);clear HV h1;go_wp2_with fail;go_ret;exact ⟨bX HV2.out.symm,hbF⟩
 have t1:(a==st)=true:=by rw [beq_iff_eq];exact h1
 have HV2:Hid (V=(B2&&B3&&B4)):=aa (by rw [HV.out,decide_eq_true h1];simp);clear HV h1;go_wp2_with fail;refine (k2 _).mono ?_;rintro _ _ ⟨rfl,rfl⟩
 cases B2
 ·have HV3:Hid (V=false):=aa (by rw [HV2.out];simp);clear HV2;go_wp2_with fail;go_ret;exact ⟨bX HV3.out.symm,hbF⟩
 go_wp2_with fail
 refine (k3 _).mono ?_;rintro _ _ ⟨rfl,rfl⟩
 cases B3
 ·have HV3:Hid (V=false):=aa (by rw [HV2.out];simp);clear HV2;go_wp2_with fail;go_ret;exact ⟨bX HV3.out.symm,hbF⟩
 go_wp2_with fail
 refine (k4 _).mono ?_;rintro _ _ ⟨rfl,rfl⟩;have HV3:Hid (V=B4):=aa (by rw [HV2.out];simp);clear HV2
 cases B4 <;> (go_wp2_with fail;go_ret;exact ⟨bX HV3.out.symm,hbF⟩)
end
section
theorem wG:∀ x:LT,(fg x).length=3:=fun _=>rfl
def LT.Fit (x:LT):Prop:=x.key.size≤100000∧x.hash.size≤100000∧x.body.size≤100000
end
section
structure RdrAt (w0:World) (b:Nat) (L:List ByteArray) (u:World):Prop where
 box:∃ p c,LP u b (JU #[JR p L.length c] 37 (0,0))∧LK bL w0 (JR p L.length c) L
 low:ac w0.heap.size w0 u
 hi:w0.heap.size≤b
theorem RdrAt.below {w0 u v:World} {b:Nat} {L:List ByteArray} (h:RdrAt w0 b L u) (hb:ac u.heap.size u v):RdrAt w0 b L v:=by obtain ⟨p,c,h1,h2⟩:=h.box;exact ⟨⟨p,c,⟨(hb.block _ (aU h1.is)).trans h1.is⟩,h2⟩,ah h.low hb,h.hi⟩
theorem Ct (p:Option Addr) (c:Nat) (L:List ByteArray) (w:World) (h:LK bL w (JR p L.length c) L) :
  Calls prog 156 #[JR p L.length c] w fun e w'=>e=JT (.tuple #[.func (.func 210) #[] #[JS (JV ⟨w.heap.size,0,JW⟩)],.func (.func 211) #[] #[JS (JV ⟨w.heap.size,0,JW⟩)]])∧RdrAt w w.heap.size L w':=by
 have hh:=heap_alloc_new w (JU #[JR p L.length c] 37);have hR:RdrAt w w.heap.size L (w.alloc (JU #[JR p L.length c] 37)):=⟨⟨p,c,⟨hh⟩,h⟩,al w _,aD _⟩;clear h hh;go_enter func156,ntmps156;go_wp2_with fail
 go_ret2
 exact ⟨rfl,hR⟩
theorem mw (w0:World) (b:Nat) (x:ByteArray) (L:List ByteArray) (u:World) (h:RdrAt w0 b (x::L) u) :
  Calls prog 210 #[JS (JV ⟨b,0,JW⟩)] u fun e w'=>e=JT (JQ x)∧RdrAt w0 b L w':=by
 obtain ⟨p,c,h1,h2⟩:=h.box;obtain ⟨g,o,rfl,hg,hcv⟩:=eO h2 rfl mSi;have hc:(x::L).length≤c:=by obtain ⟨_,_,e,hc,_⟩:=h2;injection e with _ _ e;omega
 have q0:u.cell? ⟨b,0,JW⟩=JV (JR (JV ⟨g,o,JW⟩) (x::L).length c):=ae h1.is 0;have f0:=aE h1.is 0;have q1:=(h.low.cell (p:=⟨g,o+0,JW⟩) hg).trans (hcv 0 x rfl);rw [ee] at q1;have hd:=nt h2 (m:=1) mSi
 have fin:∀ v,(∃ p' c',v=JR p' L.length c'∧LK bL w0 (JR p' L.length c') L)→RdrAt w0 b L (u.setCell ⟨b,0,JW⟩ v):=fun v hv=>by
  obtain ⟨p',c',rfl,h3⟩:=hv;exact ⟨⟨p',c',⟨bp h1.is 0 _⟩,h3⟩,h.low.setCell (p:=⟨b,0,JW⟩) h.hi _,h.hi⟩
 have FIN:=aa fin
 have HD:=aa hd;have i1:(0:Int) < (((x::L).length:Nat):Int):=by simp only [bA];omega
 have n1:0 < (x::L).length:=mSi;obtain ⟨n,hn⟩:∃ n,n=L.length:=⟨_,rfl⟩;have e1:(x::L).length=n+1:=by rw [hn];rfl
 have hdl:(x::L).drop 1=L:=rfl;rw [e1] at q0 hc i1 n1 HD;rw [hdl,Nat.add_sub_cancel] at HD;rw [← hn] at FIN;have i2:(1:Int)≤((n+1:Nat):Int):=mOm;clear hcv h1 h2 h fin hd hn e1 hdl;go_enter func210,ntmps210;by_cases hc1:c=1
 ·subst hc1;obtain rfl:n=0:=mOm;go_wp2_with fail;go_ret;exact ⟨rfl,FIN.out _ ⟨_,_,rfl,HD.out.1.2 (by first | exact .inr rfl | exact .inr trivial | simp)⟩⟩
 ·go_wp2_with fail;go_ret;exact ⟨rfl,FIN.out _ ⟨_,_,rfl,HD.out.2 _ rfl⟩⟩
theorem wK (w0:World) (b:Nat) (L:List ByteArray) (u:World) (h:RdrAt w0 b L u) :
  Calls prog 211 #[JS (JV ⟨b,0,JW⟩)] u fun e w'=>(∃ p c,e=JT (JR p L.length c)∧LK bL w0 (JR p L.length c) L)∧ac u.heap.size u w':=by
 obtain ⟨p,c,h1,h2⟩:=h.box;have q0:u.cell? ⟨b,0,JW⟩=JV (JR p L.length c):=ae h1.is 0;have H2:=aa h2;clear h h1 h2;go_enter func211,ntmps211;go_wp2_with fail;go_ret;exact ⟨⟨_,_,rfl,H2.out⟩,Below.refl _ _⟩
end
section
theorem ul (xs ys:List ByteArray) (p1 p2:Option Addr) (c1 c2:Nat) (w:World) (h1:LK bL w (JR p1 xs.length c1) xs) (h2:LK bL w (JR p2 ys.length c2) ys) (hl:xs.length≤1000000) (hl2:ys.length≤1000000) :
  Calls prog 160 #[JR p1 xs.length c1,JR p2 ys.length c2] w (ic (xs=ys) w):=by
 by_cases hlen:xs.length=ys.length
 rotate_left 1
 ·refine (Tryz.slices_Equal_string_lens p1 p2 xs.length c1 ys.length c2 w hlen).mono ?_;rintro _ _ ⟨rfl,rfl⟩;exact ⟨false,rfl,⟨fun e=>(by cases e),fun e=>absurd (congrArg List.length e) hlen⟩,Below.refl _ _⟩
 by_cases h0:xs.length=0
 ·obtain rfl:=aS h0;have hy:ys=[]:=aS (by rw [← hlen];rfl);subst hy;refine (Tryz.slices_Equal_string_empty p1 p2 c1 0 c2 w mOm).mono ?_;rintro _ _ ⟨rfl,rfl⟩;exact ⟨true,rfl,⟨fun _=>rfl,fun _=>rfl⟩,Below.refl _ _⟩
 obtain ⟨b1,o1,rfl,_,hc1⟩:=eO h1 rfl mOm
 obtain ⟨b2,o2,rfl,_,hc2⟩:=eO h2 rfl mOm
 have gd:∀ (l:List ByteArray) (j:Nat),j < l.length→l[j]? = JV (l.getD j ByteArray.empty):=fun l j hj=>by
  rw [bi,ai hj];rfl
 refine (Tryz.slices_Equal_string b1 o1 xs.length c1 b2 o2 ys.length c2 xs ys w (aD _) (aD _) mOm mOm (fun j hj=>hc1 j _ (gd xs j hj)) (fun j hj=>hc2 j _ (gd ys j hj))).mono ?_
 rintro _ _ ⟨rfl,q,rfl⟩;rw [aT,aT];exact ⟨_,rfl,decide_eq_true_iff,⟨rfl,rfl,rfl,aD _,fun _ _=>rfl⟩⟩
theorem CF {L:List LT} {k:Nat} {x:LT} (h:L[k]? = JV x):dq (L.take (k+1))=dq (L.take k)++[x.key++⟨#[32]⟩++x.hash]:=by unfold dq;rw [lC h,eX];rfl
theorem B0 {L:List LT} {d e:ByteArray} (hz:∀ x∈L,x.Fit) (hd:d.size≤100000) (he:e.size≤100000):∀ s∈eS L d e,s.size≤100000000:=by
 intro s hs;unfold eS at hs;rcases bN.1 hs with hs | hs
 ·rcases bN.1 hs with hs | hs
  ·split at hs
   ·cases hs
   ·rw [bJ.1 hs];omega
  ·unfold dq at hs;obtain ⟨x,hx,rfl⟩:=List.mem_map.1 hs;have h:=hz x hx;have h1:=h.1;have h2:=h.2.1;have e1:(⟨#[32]⟩:ByteArray).size=1:=rfl;rw [ByteArray.size_append,ByteArray.size_append,e1];omega
 ·split at hs
  ·cases hs
  ·rw [bJ.1 hs];omega
theorem Dr (L:List LT) (d e:ByteArray):(eS L d e).length≤L.length+2:=by
 unfold eS dq;rw [ax,ax,aX]
 split <;> split <;> simp only [cu,aG] <;> omega
theorem LJ {p q:Prop} (h:q) (f:Wq q→p:=by
 intro hq;have hwl:(G.filter (inB lo hi)).length≤1000000:=Nat.le_trans (List.length_filter_le _ _) (by have:=HGL.out;rw [← HGE.out] at this;omega);have ke:=ul (G.filter (inB lo hi)) (dq L) pW pv cW cv w13 hWr (HSR2.out.below hOW.low) hwl mOm;have hbE:=ah hbF hOW.low
 revert hwl ke hbE
 exact hq.1):p:=f ⟨h⟩
theorem Q2 {p q:Prop} (h:q) (f:Wq q→p:=by
 intro hq;have hb2x:=ah HRG.out.low hb12;have kw:=vf b n lo hi i G rest pG pr cG cr w12 i64n ⟨mOm,mOm⟩ hn (HGR.out.below hb12) (by rw [HGE.out];exact HZG.out) (hrest.below hb2x);have hbF:=ah hb11 hb12;have HSR2:=aa (HSR.out.below hb12)
 revert hb2x kw hbF HSR2
 exact hq.1):p:=f ⟨h⟩
theorem oY {p:Prop} (h:p:=by
 rw [← hG] at H21;clear hG HGE0;obtain ⟨pG,cG,hvG⟩:=H21.out.form;subst hvG;have hGr:=H21.out.row eW mDe;have hbG:=H21.out.low;have HRG:=aa ((HRD.out.below HSH.out.low).below hbG);have hb11:=ah (ah hb9 HSH.out.low) hbG;have HSR:=aa (HRS.out.below hbG);have HGR:=aa hGr;clear hGr hbG;refine (wK _ _ _ _ HRG.out).mono ?_;rintro _ w12 ⟨⟨pr,cr,rfl,hrest⟩,hb12⟩;refine Q2 ?_;intro hb2x kw hbF HSR2;clear hrest hb12 hb2x;go_wp2_with fail;refine kw.mono ?_;clear kw;rintro _ w13 (⟨hno,rfl,hb13⟩ | ⟨hok,vW,rfl,hOW⟩)
 ·have HN:Hid (¬ VT):=aa (fun h=>hno (by have:=(HV2.out.1 h).2.1;rw [← HGE.out] at this;exact this));have hbE:=ah hbF hb13;clear HV2 hno;go_wp2_with fail;go_ret;exact ⟨false,rfl,⟨fun e=>(by cases e),fun h=>absurd h HN.out⟩,hbE⟩
 ·have hWr:=hOW.row eW mDe;obtain ⟨pW,cW,rfl⟩:=hOW.form;refine LJ ?_;intro hwl ke hbE
  have HFI:Hid (VT↔G.filter (inB lo hi)=dq L):=aa (by
   rw [HV2.out,← HGE.out]
   exact ⟨fun h=>h.2.2,fun h=>⟨HALL.out,hok,h⟩⟩)
  clear hWr hOW hok HV2
  go_wp2_with fail;refine ke.mono ?_;clear ke;rintro _ w14 ⟨t,rfl,ht,hb14⟩;have HTT:Hid (t=true↔VT):=aa (ht.trans HFI.out.symm);have hbZ:=ah hbE hb14;clear ht HFI;go_wp2_with fail;go_ret
  exact ⟨t,rfl,HTT.out,hbZ⟩):p:=h
theorem ov {p:Prop} (h:p:=by
 rw [← hG] at H22;clear hG HGE0;obtain ⟨pG,cG,hvG⟩:=H22.out.form;subst hvG;have hGr:=H22.out.row eW mDe;have hbG:=H22.out.low;have HRG:=aa ((HRD.out.below HSH.out.low).below hbG);have hb11:=ah (ah hb9 HSH.out.low) hbG;have HSR:=aa (HRS.out.below hbG);have HGR:=aa hGr;clear hGr hbG;refine (wK _ _ _ _ HRG.out).mono ?_;rintro _ w12 ⟨⟨pr,cr,rfl,hrest⟩,hb12⟩;refine Q2 ?_;intro hb2x kw hbF HSR2;clear hrest hb12 hb2x;go_wp2_with fail;refine kw.mono ?_;clear kw;rintro _ w13 (⟨hno,rfl,hb13⟩ | ⟨hok,vW,rfl,hOW⟩)
 ·have HN:Hid (¬ VT):=aa (fun h=>hno (by have:=(HV2.out.1 h).2.1;rw [← HGE.out] at this;exact this));have hbE:=ah hbF hb13;clear HV2 hno;go_wp2_with fail;go_ret;exact ⟨false,rfl,⟨fun e=>(by cases e),fun h=>absurd h HN.out⟩,hbE⟩
 ·have hWr:=hOW.row eW mDe;obtain ⟨pW,cW,rfl⟩:=hOW.form;refine LJ ?_;intro hwl ke hbE
  have HFI:Hid (VT↔G.filter (inB lo hi)=dq L):=aa (by
   rw [HV2.out,← HGE.out]
   exact ⟨fun h=>h.2.2,fun h=>⟨HALL.out,hok,h⟩⟩)
  clear hWr hOW hok HV2
  go_wp2_with fail;refine ke.mono ?_;clear ke;rintro _ w14 ⟨t,rfl,ht,hb14⟩;have HTT:Hid (t=true↔VT):=aa (ht.trans HFI.out.symm);have hbZ:=ah hbE hb14;clear ht HFI;go_wp2_with fail;go_ret
  exact ⟨t,rfl,HTT.out,hbZ⟩):p:=h
theorem nR {p:Prop} (h:p:=by
 have hO1:=(HO.out.next hbS).next (al W (JU #[JQ (xk++⟨#[32]⟩++xh)] 9));have hlit:LK bL (W.alloc (JU #[JQ (xk++⟨#[32]⟩++xh)] 9)) (JR (JV ⟨W.heap.size,0,JW⟩) 1 1) [xk++⟨#[32]⟩++xh]:=cF (heap_alloc_new W _) _ rfl rfl;have hown:=hO1.own;have hsz:=hO1.low.size;have HO1:=aa hO1;clear hO1 hbS;go_wp2_with (at_builtin;refine bB jY rfl (.tmp 94) (.tmp 101) rfl w9.heap.size _ _ M [xk++(⟨#[32]⟩:ByteArray)++xh] rfl rfl hown hlit (by simp only [aG];omega) hsz ?_;intro v9 w10 hA9;have hO9:=HO1.out.app hA9;have HO9:=aa hO9;clear hO9 hA9)
 go_roundw
 case rel=>exact ⟨k+1,mOm,by go_num,by rw [HT.out];exact HO9.out,HA3⟩
 case measure=>simp [aw];omega):p:=h
theorem Q9 {p q:Prop} (h:q) (f:Wq q→p:=by
 intro hq;refine Jy (S:=fun u=>ac wr.heap.size wr u∧wr.heap.size < u.heap.size∧∀ j,u.cell? ⟨wr.heap.size,j,JW⟩=(#[JQ xk,JQ xh,JQ xb]:Array Value)[j]?) [(0,true),(1,true),(2,true),(3,true),(4,true),(5,true),(6,true),(7,true),(8,true),(9,true),(10,true),(12,true),(13,true),(11,false),(14,true),(15,true),(16,true)] hS0 ?_;have hS:=hS0
 revert hS
 exact hq.1):p:=f ⟨h⟩
theorem QR {p q:Prop} (h:q) (f:Wq q→p:=by
 intro hq;have H0:=aa (LQ.nil bL 1 9 wr);have hP:=H0.out.next (al wr (JU #[JQ d] 9));have hlit20:LK bL (wr.alloc (JU #[JQ d] 9)) (JR (JV ⟨wr.heap.size,0,JW⟩) 1 1) [d]:=cF (heap_alloc_new wr _) _ rfl rfl;have hown20:=hP.own;have hsz20:=hP.low.size;have HP20:=aa hP
 revert H0 hP hlit20 hown20 hsz20 HP20
 exact hq.1):p:=f ⟨h⟩
theorem vT (now:ByteArray) (n st fi la:Int) (pl pp:Option Addr) (cl cp:Nat) (L:List LT) (proof:List ByteArray) (w:World) (hl:LK fg w (JR pl L.length cl) L) (hz:∀ x∈L,x.Fit) (hL:L.length≤4000) (hp:LK bL w (JR pp proof.length cp) proof) (hps:∀ s∈proof,s.size≤100000) (hpl:proof.length≤1000000) (i64n:I64 n) (hn:n≤5000) (hr:Wr.Ready w) :
  Calls prog 92 #[JQ now,JO JP n,JO JP st,JO JP fi,JO JP la,JR pl L.length cl,JR pp proof.length cp] w (ic (ik now n st fi la L proof) w):=by
 have cb:=xN st fi la w hr.sane.1;have HL:=aa hl;have HZ:=aa hz;clear hl hz;go_enter func92,ntmps92;go_wp2_with fail;refine cb.mono ?_;clear cb;rintro _ w1 ⟨hb1,(⟨hro,rfl⟩ | ⟨hno,rfl⟩)⟩
 rotate_left 1
 ·have HN:Hid (¬ ik now n st fi la L proof):=aa (fun h=>hno h.1);clear hno;go_wp2_with fail;go_ret;exact ⟨false,rfl,⟨fun e=>(by cases e),fun h=>absurd h HN.out⟩,hb1⟩
 have HRO:=aa hro
 clear hro;have HP1:=aa (hp.below hb1);have HR1:Hid (Wr.Ready w1):=aa (bz hr hb1);clear hp hr;generalize hlo:loB st fi=lo at *;generalize hhi:hiB st la=hi at *;by_cases h5:proof.length < 5
 ·have i1:(proof.length:Int) < 5:=mOm
  have HN:Hid (¬ ik now n st fi la L proof):=aa (fun h=>by
   obtain ⟨_,a,b,c,d,e,rest,rfl,_⟩:=h
   simp only [bA] at h5;omega)
  clear h5
  go_wp2_with fail;go_ret;exact ⟨false,rfl,⟨fun e=>(by cases e),fun h=>absurd h HN.out⟩,hb1⟩
 obtain ⟨a,b,c,d,e,rest,hpe⟩:∃ a b c d e rest,proof=a::b::c::d::e::rest:=by
  match proof,h5 with
  | a::b::c::d::e::rest,_=>exact ⟨a,b,c,d,e,rest,rfl⟩
  | [],h=>exact absurd h mSi
  | [_],h=>exact absurd h mSi
  | [_,_],h=>exact absurd h mSi
  | [_,_,_],h=>exact absurd h mSi
  | [_,_,_,_],h=>exact absurd h mSi
 have i1:¬ (proof.length:Int) < 5:=mOm
 have zs:a.size≤100000∧b.size≤100000∧c.size≤100000∧d.size≤100000∧e.size≤100000:=by rw [hpe] at hps;exact ⟨hps a mSi,hps b mSi,hps c mSi,hps d mSi,hps e mSi⟩
 obtain ⟨za,zb,zc,zd,ze⟩:=zs
 have ct:=Aj proof pp cp a b w1 HP1.out (by rw [hpe];rfl) (by rw [hpe];rfl) mOm mOm
 have HV:Hid (ik now n st fi la L proof↔jL a b=now∧(∀ x∈L,jT x)∧∃ i,L9 c i∧gU b n lo hi i (eS L d e) rest∧(eS L d e).filter (inB lo hi)=dq L):=aa (by
  rw [hpe,← hlo,← hhi];constructor
  ·rintro ⟨_,a',b',c',d',e',rest',he,h1,h2,h3⟩;injection he with e1 he;injection he with e2 he;injection he with e3 he;injection he with e4 he;injection he with e5 e6;subst e1 e2 e3 e4 e5 e6;exact ⟨h1,h2,h3⟩
  ·rintro ⟨h1,h2,h3⟩
   exact ⟨HRO.out,a,b,c,d,e,rest,rfl,h1,h2,h3⟩)
 generalize ik now n st fi la L proof=VT at *
 have hrl:rest.length≤1000000:=by rw [hpe] at hpl;simp only [bA] at hpl;omega
 have HPE:=aa hpe;clear hpe hps hlo hhi h5 HRO hpl;go_wp2_with fail;refine ct.mono ?_;clear ct;rintro _ w2 ⟨rfl,hb2⟩;have hbw:=ah hb1 hb2;generalize jL a b=ch at *;by_cases hch:ch=now
 rotate_left 1
 ·have te:=iZ hch;have HN:Hid (¬ VT):=aa (fun h=>hch (HV.out.1 h).1);have tn:(ch.toList != now.toList)=true:=by unfold bne;rw [te];rfl
  clear HV hch;go_wp2_with fail;go_ret;exact ⟨false,rfl,⟨fun e=>(by cases e),fun h=>absurd h HN.out⟩,hbw⟩
 subst hch
 have tn:(ch.toList != ch.toList)=false:=mSi;have kr:=Ct pp cp proof w2 (HP1.out.below hb2);have HR2:Hid (Wr.Ready w2):=aa (bz HR1.out hb2);clear HP1 hb1 hb2 HR1;go_wp2_with fail;refine kr.mono ?_;clear kr;rintro _ w3 ⟨rfl,hR⟩;rw [HPE.out] at hR;clear HPE;go_wp2_with fail;refine (mw _ _ _ _ _ hR).mono ?_;clear hR;rintro _ w4 ⟨rfl,hR⟩;go_wp2_with fail;refine (mw _ _ _ _ _ hR).mono ?_;clear hR;rintro _ w5 ⟨rfl,hR⟩;go_wp2_with fail;refine (mw _ _ _ _ _ hR).mono ?_;clear hR;rintro _ w6 ⟨rfl,hR⟩;have kn:=vS c mOm w6 (bz HR2.out hR.low);go_wp2_with fail;refine kn.mono ?_;clear kn;rintro _ w7 ⟨hb7,(⟨i,hi7,rfl⟩ | ⟨hno,m,rfl⟩)⟩
 rotate_left 1
 ·have HN:Hid (¬ VT):=aa (fun h=>by
   obtain ⟨_,_,i,hi,_⟩:=HV.out.1 h
   exact hno i hi)
  have hbF:=ah hbw (ah hR.low hb7)
  clear HV hno hR hb7 hbw;go_wp2_with fail;go_ret;exact ⟨false,rfl,⟨fun e=>(by cases e),fun h=>absurd h HN.out⟩,hbF⟩
 have HI:=aa hi7
 have hiN:=hi7.1
 have HV2:Hid (VT↔(∀ x∈L,jT x)∧gU b n lo hi i (eS L d e) rest∧(eS L d e).filter (inB lo hi)=dq L):=aa (by
  rw [HV.out];constructor
  ·rintro ⟨_,h2,j,hj,h3⟩;obtain rfl:=hj.inj HI.out;exact ⟨h2,h3⟩
  ·rintro ⟨h2,h3⟩
   exact ⟨by first | rfl | trivial,h2,i,HI.out,h3⟩)
 have hR7:=hR.below hb7
 clear HV hi7 hR hb7 HI;go_wp2_with fail;refine (mw _ _ _ _ _ hR7).mono ?_;clear hR7;rintro _ w8 ⟨rfl,hR⟩;go_wp2_with fail;refine (mw _ _ _ _ _ hR).mono ?_;clear hR;rintro _ w9 ⟨rfl,hR⟩;have hb9:=ah hbw hR.low;have HRD:=aa hR;clear hR hbw;go_wp2_with fail
 go_loopw [25,73] (fun v ix wr=>∃ k:Nat,k≤L.length∧ix=JO JP k∧LQ bL 1 9 w9 wr v (dq (L.take k))∧Hid (∀ x∈L.take k,jT x)) (fun _ ix _=>L.length - (aw ix).toNat)
 case atStart=>exact ⟨0,aR _,rfl,LQ.nil _ _ _ _,aa (fun x hx=>by simp at hx)⟩
 case round =>
  obtain ⟨k,hk,rfl,hO,HA⟩:=hrel;obtain ⟨pv,cv,hv⟩:=hO.form;subst hv;have hsl:(dq (L.take k)).length≤4000:=by unfold dq;rw [aX,aM];omega
  by_cases hlt:k < L.length
  ·obtain ⟨g,o,rfl,hg,hrow⟩:=dc (kk:=3) HL.out wG rfl mOm;have hge:=ai hlt;have hat:=hrow k _ hge;have hx:=HZ.out _ (bD hlt);have j1:(k:Int) < (L.length:Int):=mOm;have j2:(0:Int)≤(k:Int):=mOm;have HT:=aa (CF hge)
   have HA2:Hid ((jT L[k]→∀ x∈L.take (k+1),jT x)∧(¬ jT L[k]→¬ VT)):=aa ⟨fun h x hx=>by
    rw [lC hge] at hx;rcases bN.1 hx with hx | hx
    ·exact HA.out x hx
    ·rw [bJ.1 hx];exact h,fun h hv=>h ((HV2.out.1 hv).1 _ (bD hlt))⟩
   have hbo:=ah hb9 hO.low
   generalize L[k]=x at *;generalize dq (L.take k)=M at *;obtain ⟨xk,xh,xb⟩:=x;obtain ⟨z1,z2,z3⟩:=hx;simp only at z1 z2 z3 HT;have q:=fun j=>hbo.cell (p:=⟨g,j,JW⟩) hg
   have q0:=(q _).trans (hat 0 _ rfl);have q1:=(q _).trans (hat 1 _ rfl);have q2:=(q _).trans (hat 2 _ rfl);rw [ee] at q0;have hba:=al wr (JU #[JQ xk,JQ xh,JQ xb] 69);have hS0:sP wr wr.heap.size #[JQ xk,JQ xh,JQ xb] (wr.alloc (JU #[JQ xk,JQ xh,JQ xb] 69)).drew:=⟨hba.drew,by show wr.heap.size < (wr.alloc _).heap.size;rw [size_alloc];omega,fun j=>ae (heap_alloc_new wr _) j⟩;have s1:(⟨#[32]⟩:ByteArray).size=1:=rfl;have c1:¬ 9223372036854775807 < xk.size+1:=mOm;have c2:¬ 9223372036854775807 < xk.size+1+xh.size:=mOm;have HO:=aa hO;have kh:=fun w=>zl xb mOm w
   clear hat hge hrow q hba hO;by_cases h16:xh.size=16
   rotate_left 1
   ·have t1:((xh.size:Int) != 16)=true:=by rw [bne_iff_ne];omega
    have HN:Hid (¬ VT):=aa (HA2.out.2 (fun h=>h16 h.1));clear HA2 HV2 h16;go_wp2_with fail;refine Q9 ?_;intro hS
    iterate 13 (first | refine aj ?_ | refine cN ?_)
    refine gC ⟨_,_,_,_,_,_⟩ rfl mRf hS ?_;refine ar ?_
    iterate 3 (first | refine aj ?_ | refine cN ?_)
    simp only [aO,bj];have hbF:=ah hbo hS.1;clear hS hS0;go_wp2_with fail;go_ret;exact ⟨false,rfl,⟨fun e=>(by cases e),fun h=>absurd h HN.out⟩,hbF⟩
   have t1:((xh.size:Int) != 16)=false:=by rw [bne_eq_false_iff_eq];omega
   by_cases hb0:xb.size=0
   ·obtain rfl:=iw hb0;have HA3:=aa (HA2.out.1 ⟨h16,.inl rfl⟩);clear HA2 h16 hb0;go_wp2_with fail;refine Jy (S:=fun u=>ac wr.heap.size wr u∧wr.heap.size < u.heap.size∧∀ j,u.cell? ⟨wr.heap.size,j,JW⟩=(#[JQ xk,JQ xh,JQ ⟨#[]⟩]:Array Value)[j]?) [(0,true),(1,true),(2,true),(3,true),(4,true),(5,true),(6,true),(7,true),(8,true),(9,true),(10,true),(12,true),(13,true),(11,false),(14,true),(15,true),(16,true)] hS0 ?_;have hS:=hS0
    iterate 13 (first | refine aj ?_ | refine cN ?_)
    refine gC ⟨_,_,_,_,_,_⟩ rfl mRf hS ?_;refine ar ?_
    iterate 3 (first | refine aj ?_ | refine cN ?_)
    simp only [aO,bj];have hbS:=hS.1;have k0:(wr.alloc (JU #[JQ xk,JQ xh,JQ ⟨#[]⟩] 69)).drew.cell? ⟨wr.heap.size,0,JW⟩=JV (JQ xk):=hS.2.2 0;have k1:(wr.alloc (JU #[JQ xk,JQ xh,JQ ⟨#[]⟩] 69)).drew.cell? ⟨wr.heap.size,1,JW⟩=JV (JQ xh):=hS.2.2 1;have hlS:=hS.2.1;clear hS hS0
    (try simp only [tq,ir,bne])
    generalize (wr.alloc (JU #[JQ xk,JQ xh,JQ ⟨#[]⟩] 69)).drew=W at *;exact nR
   obtain ⟨n1,n2⟩:=jp hb0
   have n3:(!xb.toList.isEmpty)=true:=by rw [n2];rfl
   by_cases hh:iC xb=xh
   ·have HA3:=aa (HA2.out.1 ⟨h16,.inr hh⟩);rw [hh] at kh;have tq:(xh.toList==xh.toList)=true:=beq_self_eq_true _;clear HA2 h16 hb0 hh;go_wp2_with fail;refine Q9 ?_;intro hS
    iterate 13 refine aj ?_
    refine aH 158 call158 (kh _) ?_;rintro x wn ⟨rfl,hb⟩;replace hS:=bO hS hb;refine ⟨_,rfl,hS,?_⟩;(try clear hb);refine ar ?_
    iterate 3 refine aj ?_
    simp only [aO,bj];have hbS:=hS.1;have k0:wn.cell? ⟨wr.heap.size,0,JW⟩=JV (JQ xk):=hS.2.2 0;have k1:wn.cell? ⟨wr.heap.size,1,JW⟩=JV (JQ xh):=hS.2.2 1;have hlS:=hS.2.1;clear hS hS0
    (try simp only [tq,ir,bne])
    generalize wn=W at *;exact nR
   ·have HN:Hid (¬ VT):=aa (HA2.out.2 (fun h=>by rcases h.2 with h | h;exact hb0 h;exact hh h));have te:=iZ hh;generalize iC xb=H at *;clear HA2 HV2 h16 hb0 hh;go_wp2_with fail;refine Q9 ?_;intro hS
    iterate 13 refine aj ?_
    refine aH 158 call158 (kh _) ?_;rintro x wn ⟨rfl,hb⟩;replace hS:=bO hS hb;refine ⟨_,rfl,hS,?_⟩;(try clear hb);refine ar ?_
    iterate 3 refine aj ?_
    simp only [aO,bj];have hbF:=ah hbo hS.1;clear hS hS0
    (try simp only [te,Bool.not_false,bne])
    go_wp2_with fail;go_ret;exact ⟨false,rfl,⟨fun e=>(by cases e),fun h=>absurd h HN.out⟩,hbF⟩
  ·obtain rfl:k=L.length:=mOm;rw [aT] at hO hsl HA ⊢;have HSH:=aa hO;have hrS:=hO.row eW mDe;have HRS:=aa hrS;have HALL:Hid (∀ x∈L,jT x):=HA;have HZG:Hid (∀ s∈eS L d e,s.size≤100000000):=aa (B0 HZ.out mOm mOm);have HGL:Hid ((eS L d e).length≤5000):=aa (by have:=Dr L d e;omega);clear hO hrS HA;by_cases hd0:d.size=0
   ·by_cases he0:e.size=0
    ·obtain rfl:=iw hd0;obtain rfl:=iw he0;have HGE0:Hid (([]:List ByteArray)++dq L=eS L ⟨#[]⟩ ⟨#[]⟩):=aa (by unfold eS;have z0:(⟨#[]⟩:ByteArray).size=0:=rfl;simp [z0]);have H0:=aa (LQ.nil bL 1 9 wr);have H20:=H0;have hown21:=H20.out.own;have hsz21:=H20.out.low.size;have hrx:=HRS.out;clear hd0;go_wp2_with (first | (at_builtin;refine bB jY rfl (.tmp 110) (.tmp 111) rfl wr.heap.size _ _ ([]:List ByteArray) (dq L) rfl rfl hown21 hrx (by simp only [cu];omega) hsz21 ?_;intro v21 w21 hA21;have H21:=aa (H20.out.app hA21);clear hA21 hown21 hsz21 hrx));obtain ⟨G,hG⟩:∃ G,G=([]:List ByteArray)++dq L:=⟨_,rfl⟩;have HGE:Hid (G=eS L ⟨#[]⟩ ⟨#[]⟩):=aa (hG.trans HGE0.out);exact oY
    ·obtain rfl:=iw hd0;obtain ⟨q1,q2⟩:=jp he0;have q3:(!e.toList.isEmpty)=true:=by rw [q2];rfl
     have HGE0:Hid (([]:List ByteArray)++dq L++[e]=eS L ⟨#[]⟩ e):=aa (by unfold eS;have z0:(⟨#[]⟩:ByteArray).size=0:=rfl;simp [z0,he0]);have H0:=aa (LQ.nil bL 1 9 wr);have H20:=H0;have hown21:=H20.out.own;have hsz21:=H20.out.low.size;have hrx:=HRS.out;clear hd0;clear he0;go_wp2_with (first | (at_builtin;refine bB jY rfl (.tmp 110) (.tmp 111) rfl wr.heap.size _ _ ([]:List ByteArray) (dq L) rfl rfl hown21 hrx (by simp only [cu];omega) hsz21 ?_;intro v21 w21 hA21;have H21:=aa (H20.out.app hA21);have hP:=H21.out.next (al w21 (.cells #[.string e] 9));have hlit22:LK bL (w21.alloc (.cells #[.string e] 9)) (.slice (some ⟨w21.heap.size,0,none⟩) 1 1) [e]:=cF (heap_alloc_new w21 _) _ rfl rfl;have hown22:=hP.own;have hsz22:=hP.low.size;have HP22:=aa hP;clear hP;clear hA21 hown21 hsz21 hrx) | (at_builtin;refine bB jY rfl (.tmp 115) (.tmp 117) rfl wr.heap.size _ _ (([]:List ByteArray)++dq L) [e] rfl rfl hown22 hlit22 (by simp only [ax,cu,aG];omega) hsz22 ?_;intro v22 w22 hA22;have H22:=aa (HP22.out.app hA22);clear hA22 hown22 hsz22 hlit22));obtain ⟨G,hG⟩:∃ G,G=([]:List ByteArray)++dq L++[e]:=⟨_,rfl⟩;have HGE:Hid (G=eS L ⟨#[]⟩ e):=aa (hG.trans HGE0.out);exact ov
   ·by_cases he0:e.size=0
    ·obtain ⟨m1,m2⟩:=jp hd0;have m3:(!d.toList.isEmpty)=true:=by rw [m2];rfl
     obtain rfl:=iw he0;have HGE0:Hid ([d]++dq L=eS L d ⟨#[]⟩):=aa (by unfold eS;have z0:(⟨#[]⟩:ByteArray).size=0:=rfl;simp [z0,hd0]);refine QR ?_;intro H0 hP hlit20 hown20 hsz20 HP20;clear hP hd0;go_wp2_with (first | (at_builtin;refine bB jY rfl (.tmp 106) (.tmp 108) rfl wr.heap.size _ _ [] [d] rfl rfl hown20 hlit20 mSi hsz20 ?_;intro v20 w20 hA20;have H20:=aa (show LQ bL 1 9 wr w20 v20 [d] from HP20.out.app hA20);have hown21:=H20.out.own;have hsz21:=H20.out.low.size;have hrx:=HRS.out.below H20.out.low;clear hA20 hown20 hsz20 hlit20) | (at_builtin;refine bB jY rfl (.tmp 110) (.tmp 111) rfl wr.heap.size _ _ [d] (dq L) rfl rfl hown21 hrx (by simp only [aG];omega) hsz21 ?_;intro v21 w21 hA21;have H21:=aa (H20.out.app hA21);clear hA21 hown21 hsz21 hrx));obtain ⟨G,hG⟩:∃ G,G=[d]++dq L:=⟨_,rfl⟩;have HGE:Hid (G=eS L d ⟨#[]⟩):=aa (hG.trans HGE0.out);exact oY
    ·obtain ⟨m1,m2⟩:=jp hd0;have m3:(!d.toList.isEmpty)=true:=by rw [m2];rfl
     obtain ⟨q1,q2⟩:=jp he0;have q3:(!e.toList.isEmpty)=true:=by rw [q2];rfl
     have HGE0:Hid ([d]++dq L++[e]=eS L d e):=aa (by unfold eS;have z0:(⟨#[]⟩:ByteArray).size=0:=rfl;simp [hd0,he0]);refine QR ?_;intro H0 hP hlit20 hown20 hsz20 HP20;clear hP hd0;clear he0;go_wp2_with (first | (at_builtin;refine bB jY rfl (.tmp 106) (.tmp 108) rfl wr.heap.size _ _ [] [d] rfl rfl hown20 hlit20 mSi hsz20 ?_;intro v20 w20 hA20;have H20:=aa (show LQ bL 1 9 wr w20 v20 [d] from HP20.out.app hA20);have hown21:=H20.out.own;have hsz21:=H20.out.low.size;have hrx:=HRS.out.below H20.out.low;clear hA20 hown20 hsz20 hlit20) | (at_builtin;refine bB jY rfl (.tmp 110) (.tmp 111) rfl wr.heap.size _ _ [d] (dq L) rfl rfl hown21 hrx (by simp only [aG];omega) hsz21 ?_;intro v21 w21 hA21;have H21:=aa (H20.out.app hA21);have hP:=H21.out.next (al w21 (.cells #[.string e] 9));have hlit22:LK bL (w21.alloc (.cells #[.string e] 9)) (.slice (some ⟨w21.heap.size,0,none⟩) 1 1) [e]:=cF (heap_alloc_new w21 _) _ rfl rfl;have hown22:=hP.own;have hsz22:=hP.low.size;have HP22:=aa hP;clear hP;clear hA21 hown21 hsz21 hrx) | (at_builtin;refine bB jY rfl (.tmp 115) (.tmp 117) rfl wr.heap.size _ _ ([d]++dq L) [e] rfl rfl hown22 hlit22 (by simp only [ax,aG];omega) hsz22 ?_;intro v22 w22 hA22;have H22:=aa (HP22.out.app hA22);clear hA22 hown22 hsz22 hlit22));obtain ⟨G,hG⟩:∃ G,G=[d]++dq L++[e]:=⟨_,rfl⟩;have HGE:Hid (G=eS L d e):=aa (hG.trans HGE0.out);exact ov
end
section
attribute [local go_sem] Ent.cells
theorem DB (e:Ent):da e=((⟨(fk e).toArray⟩:ByteArray)++⟨#[32]⟩)++iC ⟨e.code.toArray⟩:=by refine dl ?_;rw [gb,gb];unfold da iC;simp
theorem qm (e:Ent):(fk e).length≤22:=by
 unfold fk
 split
 ·exact aD _
 ·exact aR _
theorem xR (e:Ent) (h:e.Ok):e.code.length≤300000:=by have h1:=lR e h;have h2:=fB e.mark (by have:=h.mark;omega);have h3:=h.course;have h4:=h.mark;unfold Ent.code;rw [ax];omega
theorem wF (e:Ent) (h:e.Ok) (w:World) :
  Calls prog 138 #[e.val] w fun x w'=>x=JT (JQ (da e))∧ac w.heap.size w w':=by
 have hk:=fun u=>mI e h u
 have he:=fun u=>qF e h u
 have hcl:=xR e h;have hh:=fun u=>sy ⟨e.code.toArray⟩ (by rw [bw];show e.code.length≤_;omega) u
 have HL:=aa (DB e);have hz1:(⟨(fk e).toArray⟩:ByteArray).size≤22:=by rw [bw];exact qm e
 have hz2:(iC ⟨e.code.toArray⟩).size≤16:=by rw [bw];exact Nat.le_of_eq (kW _)
 generalize da e=LB at *;generalize iC ⟨e.code.toArray⟩=HB at *;generalize (⟨e.code.toArray⟩:ByteArray)=CD at *;generalize (⟨(fk e).toArray⟩:ByteArray)=KV at *;have s1:(⟨#[32]⟩:ByteArray).size=1:=rfl;have c1:¬ 9223372036854775807 < KV.size+1:=mOm;have c2:¬ 9223372036854775807 < KV.size+1+HB.size:=mOm;have hba:=al w (JU e.cells 67);have heb:=heap_alloc_new w (JU e.cells 67);have hS0:sP w w.heap.size e.cells (w.alloc (JU e.cells 67)).drew:=⟨hba.drew,ay heb,fun j=>ae heb j⟩;clear hcl h hba heb;obtain ⟨e0,e1,e2,e3,e4,e5,e6,e7,e8,e9,e10,e11,e12,e13,e14⟩:=e;simp only [Ent.cells] at hS0;go_enter func138,ntmps138;go_wp2_with fail;refine Jy (S:=fun u=>ac w.heap.size w u∧w.heap.size < u.heap.size∧∀ j,u.cell? ⟨w.heap.size,j,JW⟩=(#[JO JP e0,JO JP e1,JO JP e2,JO JP e3,JO JP e4,JO JP e5,JQ e6,JO JP e7,JO JP e8,JO JP e9,JO JP e10,JO JP e11,JO JP e12,JO JP e13,JQ e14]:Array Value)[j]?) [(0,true),(3,true),(1,false),(2,true),(4,false),(5,false),(6,true),(7,true)] hS0 ?_;have hS:=hS0
 iterate 2 refine aj ?_
 refine aH 21 call21 (hk _) ?_;rintro x wn ⟨rfl,hb⟩;replace hS:=bO hS hb;refine ⟨_,rfl,hS,?_⟩;(try clear hb);refine ar ?_;refine aj ?_;refine aH 139 call139 (he _) ?_;rintro x wn ⟨rfl,hb⟩;replace hS:=bO hS hb;refine ⟨_,rfl,hS,?_⟩;(try clear hb);refine ar ?_;refine aH 140 call140 (hh _) ?_;rintro x wn ⟨rfl,hb⟩;replace hS:=bO hS hb;refine ⟨_,rfl,hS,?_⟩;(try clear hb);refine ar ?_
 iterate 2 refine aj ?_
 simp only [aO,bj];have hbF:=hS.1;go_wp2_with fail;go_ret;exact ⟨cJ HL.out.symm,hbF⟩
theorem dH:∀ x:Ent,(bK x).length=15:=fun _=>rfl
theorem sr (l:List Ent) (hok:∀ e∈l,e.Ok) (p:Option Addr) (c:Nat) (w:World) (h:LK bK w (JR p l.length c) l) (hl:l.length≤100000) :
  Calls prog 136 #[JR p l.length c] w fun e w'=>∃ v,e=JT v∧LQ bL 1 9 w w' v (bV l):=by
 have HL:=aa h;have HOK:=aa hok;clear h hok;go_enter func136,ntmps136;go_wp2_with fail
 go_loopw [3,4] (fun v i wr=>∃ k:Nat,k≤l.length∧i=JO JP k∧LQ bL 1 9 w wr v (bV (l.take k))) (fun _ i _=>l.length - (aw i).toNat)
 case atStart=>exact ⟨0,aR _,rfl,LQ.nil _ _ _ _⟩
 case round =>
  obtain ⟨k,hk,rfl,hO⟩:=hrel;obtain ⟨pv,cv,hv⟩:=hO.form;subst hv;have hsl:(bV (l.take k)).length≤100000:=by unfold bV;rw [aX,aM];omega
  by_cases hlt:k < l.length
  ·obtain ⟨g,o,rfl,hg,hrow⟩:=dc (kk:=15) HL.out dH rfl mOm;have hge:=ai hlt;have hra:=hrow k _ hge;have hx:=HOK.out _ (bD hlt);have j1:(k:Int) < (l.length:Int):=mOm;have j2:(0:Int)≤(k:Int):=mOm
   have HT:Hid (bV (l.take (k+1))=bV (l.take k)++[da l[k]]):=aa (by
    unfold bV
    rw [List.take_add_one,hge,Option.toList_some,eX];rfl)
   have hat:wr.rangeAt g (o+k*15) l[k].cells.toList:=fun j v hv=>(hO.low.cell (p:=⟨g,o+k*15+j,JW⟩) hg).trans (hra j v hv)
   have kf:=fun u=>wF l[k] hx u
   generalize l[k]=x at *;generalize bV (l.take k)=M at *;generalize da x=LB at *;have HO:=aa hO;clear hra hrow hge hO;go_wp2_with (refine wpList_load_mid rfl 67 (.tmp 14) rfl _ _ rfl x.cells.toList _ hat underlying67 rfl mKr ?_);refine (kf _).mono ?_;clear kf;rintro _ w2 ⟨rfl,hb2⟩;have hP:=(HO.out.next hb2).next (al w2 (JU #[JQ LB] 9));have hlit:LK bL (w2.alloc (JU #[JQ LB] 9)) (JR (JV ⟨w2.heap.size,0,JW⟩) 1 1) [LB]:=cF (heap_alloc_new w2 _) _ rfl rfl;have hown:=hP.own;have hsz:=hP.low.size;have HP:=aa hP;clear hP HO hb2 hat;go_wp2_with (at_builtin;refine bB jY rfl (.tmp 11) (.tmp 17) rfl w.heap.size _ _ M [LB] rfl rfl hown hlit (by simp only [aG];omega) hsz ?_;intro v9 w10 hA9;have H9:=aa (HP.out.app hA9);clear hA9 hown hsz hlit)
   go_roundw
   case rel=>exact ⟨k+1,mOm,by go_num,by rw [HT.out];exact H9.out⟩
   case measure=>simp [aw];omega
  ·obtain rfl:k=l.length:=mOm;have i1:¬ (l.length:Int) < (l.length:Int):=mOm;rw [aT] at hO hsl ⊢;have HO:=aa hO;clear hO;go_wp2_with fail;go_ret;exact ⟨_,rfl,HO.out⟩
end
section
variable {s0 s1 s2 s3 s4 s5 s6 s7 s8 s9 a6 a7 a8 a9 ad af ag ao b0 b1 b5 b6 b7 b8 b9 ba bb bc bd bf b2 b3 b4:Value}
theorem I4 (xb ob ab g o n c r:Nat) (rt:LL) (x0 x1 x2 x3:Int) (x5 x6 z0 z1 z2 z3 z4 z5 z6:Value) (W:World) (Q:Exit→Act→World→Prop) (hbx:W.heap[xb]? = JV (JU #[JO JP x0,JO JP x1,JO JP x2,JO JP x3,JO JP (r:Int),x5,x6] 39 (0,0))) (hbo:W.heap[ob]? = JV (JU #[JR (JV ⟨g,o,JW⟩) n c] 35 (0,0))) (hba:W.heap[ab]? = JV (JU #[z0,z1,z2,z3,z4,z5,z6] 65 (0,0))) (hra:W.rangeAt g (o+r*7) (cH rt)) (hgl:g < W.heap.size) (hxx:¬ (xb=ob∨xb=ab)) (hgx:¬ (g=ob∨g=ab)) (hoa:ab ≠ ob) (hn:r < n) (hm:n≤1000000) (hmc:n≤c)
  (hQ:∀ (a0 a2 a3 a4 a5:Value)  (wx:World),LM (fun k=>k=ob∨k=ab) W wx→wx.heap[ob]? = JV (JU #[JR (JV ⟨g,o,JW⟩) (r+1) c] 35 (0,0))→wx.heap[ab]? = JV (JU #[JO JP rt.school,JO JP rt.size,JO JP rt.day,JQ rt.tree,JQ rt.before,JO JP rt.key,JQ rt.mark] 65 (0,0))→Q .normal ⟨aq (s0::JS (JV ⟨xb,0,JW⟩)::s2::JS (JV ⟨ob,0,JW⟩)::JS (JV ⟨ab,0,JW⟩)::s5::s6::s7::s8::s9::a6::a7::a8::a9::ad::af::ag::ao::b0::b1::a0::JS (JV ⟨xb,4,JW⟩)::JO JP (r:Int)::a2::a3::a4::JS (JV ⟨xb,4,JW⟩)::JO JP (r:Int)::JO JP ((r:Int)+1)::[a5,b2,b3,b4]),[]⟩ wx) :
  (bW f88 6).wp prog Q ⟨aq (s0::JS (JV ⟨xb,0,JW⟩)::s2::JS (JV ⟨ob,0,JW⟩)::JS (JV ⟨ab,0,JW⟩)::[s5,s6,s7,s8,s9,a6,a7,a8,a9,ad,af,ag,ao,b0,b1,b5,b6,b7,b8,b9,ba,bb,bc,bd,bf,b2,b3,b4]),[]⟩ W:=by
 refine mOn ?_;generalize Q .normal=K at hQ ⊢;have HQ:=aa hQ;clear hQ
 conv=>arg 2;whnf
 have hxl:=aU hbx
 have n0:(0:Int)≤(r:Int):=mOm;have n1:(r:Int) < (n:Int):=mOm;have n2:r < n:=mOm;have n3:¬ c < r+1:=mOm;have n4:¬ c=0:=mOm;have n5:(0:Int)≤(r:Int)+1:=mOm;have n6:(r:Int)+1≤(c:Int):=mOm;have n7:((r:Int)+1).toNat=r+1:=mOm;have a1:IntKind.i64.wrap ((r:Int)+1)=(r:Int)+1:=IntWalk.i64_in _ mOm;refine fV (S:=fun w=>LM (fun k=>k=ob∨k=ab) W w) (I:=fun L' a w=>∃ a0 a2 a3 a4 a5:Value,a=⟨aq (s0::JS (JV ⟨xb,0,JW⟩)::s2::JS (JV ⟨ob,0,JW⟩)::JS (JV ⟨ab,0,JW⟩)::s5::s6::s7::s8::s9::a6::a7::a8::a9::ad::af::ag::ao::b0::b1::a0::JS (JV ⟨xb,4,JW⟩)::JO JP (r:Int)::a2::a3::a4::JS (JV ⟨xb,4,JW⟩)::JO JP (r:Int)::JO JP ((r:Int)+1)::[a5,b2,b3,b4]),[]⟩∧(LM (fun k=>k=ob∨k=ab) W w)∧(L'.getD 0 false=true→a0=JR (JV ⟨g,o,JW⟩) n c)∧(L'.getD 3 false=true→a2=JS (JV ⟨g,o+r*7,JW⟩))∧(L'.getD 4 false=true→a3=.agg #[JO JP rt.school,JO JP rt.size,JO JP rt.day,JQ rt.tree,JQ rt.before,JO JP rt.key,JQ rt.mark])∧(L'.getD 5 false=true→a4=JR (JV ⟨g,o,JW⟩) n c)∧(L'.getD 9 false=true→a5=JR (JV ⟨g,o,JW⟩) (r+1) c)∧(L'.getD 10 false=true→w.heap[ab]? = JV (JU #[JO JP rt.school,JO JP rt.size,JO JP rt.day,JQ rt.tree,JQ rt.before,JO JP rt.key,JQ rt.mark] 65 (0,0)))∧(L'.getD 11 false=true→w.heap[ob]? = JV (JU #[JR (JV ⟨g,o,JW⟩) (r+1) c] 35 (0,0)))∧(L'.getD 11 false=false→w.heap[ob]? = JV (JU #[JR (JV ⟨g,o,JW⟩) n c] 35 (0,0)))∧(L'.getD 10 false=false→w.heap[ab]? = JV (JU #[z0,z1,z2,z3,z4,z5,z6] 65 (0,0)))) (pre:=fun i L'=>L'.size==12&&((i==0 && !L'.getD 11 false)||(i==3&&L'.getD 0 false)||(i==4&&L'.getD 3 false)||(i==5 && !L'.getD 11 false)||(i==9&&L'.getD 5 false)||(i==10&&L'.getD 4 false && !L'.getD 10 false && !L'.getD 11 false)||(i==11&&L'.getD 9 false&&L'.getD 10 false && !L'.getD 11 false))) (fin:=fun L'=>L'.getD 11 false&&L'.getD 10 false) [1,2,6,7,8] 7 mKr mKr mKr mKr mDe (LM.of (Below.refl _ _).drew) ?_ ?_ ?_
 ·intro i L' a w hp hI;obtain ⟨a0,a2,a3,a4,a5,rfl,hSw,hP0,hP3,hP4,hP5,hP9,hP10,hP11,hN0,hN1⟩:=hI;simp only [aW,Bool.or_eq_true,beq_iff_eq,Bool.not_eq_true'] at hp;obtain ⟨hsz,hp⟩:=hp;rcases hp with ((((((⟨rfl,gn11⟩ | ⟨rfl,gd0⟩) | ⟨rfl,gd3⟩) | ⟨rfl,gn11⟩) | ⟨rfl,gd5⟩) | ⟨⟨⟨rfl,gd4⟩,gn10⟩,gn11⟩) | ⟨⟨⟨rfl,gd9⟩,gd10⟩,gn11⟩)
  ·have g0:=cK (L:=L') (i:=0);have g3:=ak (L:=L') (i:=0) (j:=3);have g4:=ak (L:=L') (i:=0) (j:=4);have g5:=ak (L:=L') (i:=0) (j:=5);have g9:=ak (L:=L') (i:=0) (j:=9);have g10:=ak (L:=L') (i:=0) (j:=10);have g11:=ak (L:=L') (i:=0) (j:=11);have hcc:=ae (hN0 gn11) 0;have hSn:=hSw;refine cQ ⟨_,_,_,_,_,_⟩ (JR (JV ⟨g,o,JW⟩) n c) w rfl mRf (by go_simp) ?_;exact ⟨hSn,(JR (JV ⟨g,o,JW⟩) n c),(a2),(a3),(a4),(a5),mPt,hSn,fun _=>rfl,by rw [g3];exact hP3,by rw [g4];exact hP4,by rw [g5];exact hP5,by rw [g9];exact hP9,by rw [g10];exact hP10,by rw [g11];exact fun e=>absurd (e.symm.trans gn11) mDe,by rw [g11];exact hN0,by rw [g10];exact hN1⟩
  ·have g0:=ak (L:=L') (i:=3) (j:=0);have g3:=cK (L:=L') (i:=3);have g4:=ak (L:=L') (i:=3) (j:=4);have g5:=ak (L:=L') (i:=3) (j:=5);have g9:=ak (L:=L') (i:=3) (j:=9);have g10:=ak (L:=L') (i:=3) (j:=10);have g11:=ak (L:=L') (i:=3) (j:=11);have hD0:=hP0 gd0;obtain rfl:=hD0;have hSn:=hSw;refine cQ ⟨_,_,_,_,_,_⟩ (JS (JV ⟨g,o+r*7,JW⟩)) w rfl mRf (by go_simp) ?_;exact ⟨hSn,(JR (JV ⟨g,o,JW⟩) n c),(JS (JV ⟨g,o+r*7,JW⟩)),(a3),(a4),(a5),mPt,hSn,by rw [g0];exact hP0,fun _=>rfl,by rw [g4];exact hP4,by rw [g5];exact hP5,by rw [g9];exact hP9,by rw [g10];exact hP10,by rw [g11];exact hP11,by rw [g11];exact hN0,by rw [g10];exact hN1⟩
  ·have g0:=ak (L:=L') (i:=4) (j:=0);have g3:=ak (L:=L') (i:=4) (j:=3);have g4:=cK (L:=L') (i:=4);have g5:=ak (L:=L') (i:=4) (j:=5);have g9:=ak (L:=L') (i:=4) (j:=9);have g10:=ak (L:=L') (i:=4) (j:=10);have g11:=ak (L:=L') (i:=4) (j:=11);have hD3:=hP3 gd3;obtain rfl:=hD3;have rc0:w.cell? ⟨g,o+r*7,JW⟩=JV (JO JP rt.school):=(hSw.cell hgl hgx _ JW).trans (hra 0 _ rfl);have rc1:w.cell? ⟨g,o+r*7+1,JW⟩=JV (JO JP rt.size):=(hSw.cell hgl hgx _ JW).trans (hra 1 _ rfl);have rc2:w.cell? ⟨g,o+r*7+2,JW⟩=JV (JO JP rt.day):=(hSw.cell hgl hgx _ JW).trans (hra 2 _ rfl);have rc3:w.cell? ⟨g,o+r*7+3,JW⟩=JV (JQ rt.tree):=(hSw.cell hgl hgx _ JW).trans (hra 3 _ rfl);have rc4:w.cell? ⟨g,o+r*7+4,JW⟩=JV (JQ rt.before):=(hSw.cell hgl hgx _ JW).trans (hra 4 _ rfl);have rc5:w.cell? ⟨g,o+r*7+5,JW⟩=JV (JO JP rt.key):=(hSw.cell hgl hgx _ JW).trans (hra 5 _ rfl);have rc6:w.cell? ⟨g,o+r*7+6,JW⟩=JV (JQ rt.mark):=(hSw.cell hgl hgx _ JW).trans (hra 6 _ rfl);have hSn:=hSw;refine cQ ⟨_,_,_,_,_,_⟩ (.agg #[JO JP rt.school,JO JP rt.size,JO JP rt.day,JQ rt.tree,JQ rt.before,JO JP rt.key,JQ rt.mark]) w rfl mRf (by go_simp) ?_;exact ⟨hSn,(a0),(JS (JV ⟨g,o+r*7,JW⟩)),(.agg #[JO JP rt.school,JO JP rt.size,JO JP rt.day,JQ rt.tree,JQ rt.before,JO JP rt.key,JQ rt.mark]),(a4),(a5),mPt,hSn,by rw [g0];exact hP0,by rw [g3];exact hP3,fun _=>rfl,by rw [g5];exact hP5,by rw [g9];exact hP9,by rw [g10];exact hP10,by rw [g11];exact hP11,by rw [g11];exact hN0,by rw [g10];exact hN1⟩
  ·have g0:=ak (L:=L') (i:=5) (j:=0);have g3:=ak (L:=L') (i:=5) (j:=3);have g4:=ak (L:=L') (i:=5) (j:=4);have g5:=cK (L:=L') (i:=5);have g9:=ak (L:=L') (i:=5) (j:=9);have g10:=ak (L:=L') (i:=5) (j:=10);have g11:=ak (L:=L') (i:=5) (j:=11);have hcc:=ae (hN0 gn11) 0;have hSn:=hSw;refine cQ ⟨_,_,_,_,_,_⟩ (JR (JV ⟨g,o,JW⟩) n c) w rfl mRf (by go_simp) ?_;exact ⟨hSn,(a0),(a2),(a3),(JR (JV ⟨g,o,JW⟩) n c),(a5),mPt,hSn,by rw [g0];exact hP0,by rw [g3];exact hP3,by rw [g4];exact hP4,fun _=>rfl,by rw [g9];exact hP9,by rw [g10];exact hP10,by rw [g11];exact fun e=>absurd (e.symm.trans gn11) mDe,by rw [g11];exact hN0,by rw [g10];exact hN1⟩
  ·have g0:=ak (L:=L') (i:=9) (j:=0);have g3:=ak (L:=L') (i:=9) (j:=3);have g4:=ak (L:=L') (i:=9) (j:=4);have g5:=ak (L:=L') (i:=9) (j:=5);have g9:=cK (L:=L') (i:=9);have g10:=ak (L:=L') (i:=9) (j:=10);have g11:=ak (L:=L') (i:=9) (j:=11);have hD5:=hP5 gd5;obtain rfl:=hD5;have hSn:=hSw;refine cQ ⟨_,_,_,_,_,_⟩ (JR (JV ⟨g,o,JW⟩) (r+1) c) w rfl mRf (by go_simp) ?_;exact ⟨hSn,(a0),(a2),(a3),(JR (JV ⟨g,o,JW⟩) n c),(JR (JV ⟨g,o,JW⟩) (r+1) c),mPt,hSn,by rw [g0];exact hP0,by rw [g3];exact hP3,by rw [g4];exact hP4,by rw [g5];exact hP5,fun _=>rfl,by rw [g10];exact hP10,by rw [g11];exact hP11,by rw [g11];exact hN0,by rw [g10];exact hN1⟩
  ·have g0:=ak (L:=L') (i:=10) (j:=0);have g3:=ak (L:=L') (i:=10) (j:=3);have g4:=ak (L:=L') (i:=10) (j:=4);have g5:=ak (L:=L') (i:=10) (j:=5);have g9:=ak (L:=L') (i:=10) (j:=9);have g10:=cK (L:=L') (i:=10);have g11:=ak (L:=L') (i:=10) (j:=11);have hD4:=hP4 gd4;obtain rfl:=hD4;have hold:=hN1 gn10;have hg:LM (fun k=>k=ab) w (w.setRow ab #[JO JP rt.school,JO JP rt.size,JO JP rt.day,JQ rt.tree,JQ rt.before,JO JP rt.key,JQ rt.mark]):=LM.setRow w ab _;have hSn:=hSw.trans (hg.mono (fun k _ h=>.inr h));refine bH ⟨_,_,_,_,_,_⟩ rfl mRf 65 _ _ mRf ab #[JO JP rt.school,JO JP rt.size,JO JP rt.day,JQ rt.tree,JQ rt.before,JO JP rt.key,JQ rt.mark] mRf mRf _ _ hold mKr rfl (by simp [Value.oneCell']) ?_;exact ⟨hSn,(a0),(a2),(.agg #[JO JP rt.school,JO JP rt.size,JO JP rt.day,JQ rt.tree,JQ rt.before,JO JP rt.key,JQ rt.mark]),(a4),(a5),by simp only [Act.put],hSn,by rw [g0];exact hP0,by rw [g3];exact hP3,by rw [g4];exact hP4,by rw [g5];exact hP5,by rw [g9];exact hP9,fun _=>setRow_heap w ab _ _ _ _ hold,by rw [g11];exact fun e=>absurd (e.symm.trans gn11) mDe,by rw [g11];exact fun e=>hg.heap (hN0 e) (fun e=>hoa e.symm),by rw [g10];exact fun e=>absurd e mDe⟩
  ·have g0:=ak (L:=L') (i:=11) (j:=0);have g3:=ak (L:=L') (i:=11) (j:=3);have g4:=ak (L:=L') (i:=11) (j:=4);have g5:=ak (L:=L') (i:=11) (j:=5);have g9:=ak (L:=L') (i:=11) (j:=9);have g10:=ak (L:=L') (i:=11) (j:=10);have g11:=cK (L:=L') (i:=11);have hD9:=hP9 gd9;obtain rfl:=hD9;have hD10:=hP10 gd10;have hold:=hN0 gn11;have hc:=ae hold 0;have hf:=aE hold 0;have hg:LM (fun k=>k=ob) w (w.setCell ⟨ob,0,JW⟩ (JR (JV ⟨g,o,JW⟩) (r+1) c)):=LM.set (S:=fun k=>k=ob) w rfl 0 _;have hSn:=hSw.trans (hg.mono (fun k _ h=>.inl h));refine rm ⟨_,_,_,_,_,_⟩ (w.setCell ⟨ob,0,JW⟩ (JR (JV ⟨g,o,JW⟩) (r+1) c)) rfl mRf (by go_simp) ?_;exact ⟨hSn,(a0),(a2),(a3),(a4),(JR (JV ⟨g,o,JW⟩) (r+1) c),by simp only [Act.put],hSn,by rw [g0];exact hP0,by rw [g3];exact hP3,by rw [g4];exact hP4,by rw [g5];exact hP5,by rw [g9];exact hP9,by rw [g10];exact fun e=>hg.heap (hP10 e) hoa,fun _=>bp hold 0 _,by rw [g11];exact fun e=>absurd e mDe,by rw [g10];exact fun e=>absurd (gd10.symm.trans e) mDe⟩
 ·intro L' a w hp hI;obtain ⟨a0,a2,a3,a4,a5,rfl,hSw,hP0,hP3,hP4,hP5,hP9,hP10,hP11,hN0,hN1⟩:=hI
  (try simp only [aW] at hp)
  obtain ⟨p11,p10⟩:=hp;obtain hfin:=hP11 p11;exact HQ.out _ _ _ _ _ w hSw hfin (hP10 p10)
 ·refine aV ⟨_,_,_,_,_,_⟩ ?_ rfl mRf ?_ ?_
  rotate_left 1
  ·intro w hSw;(try dsimp only at hSw);go_simp;(try with_reducible rfl)
  refine ar ?_
  refine aV ⟨_,_,_,_,_,_⟩ ?_ rfl mRf ?_ ?_
  rotate_left 1
  ·intro w hSw;(try dsimp only at hSw);have hc:=(hSw.cell hxl hxx 4 JW).trans (ae hbx 4);go_simp;(try with_reducible rfl)
  refine ar ?_
  refine aV ⟨_,_,_,_,_,_⟩ ?_ rfl mRf ?_ ?_
  rotate_left 1
  ·intro w hSw;(try dsimp only at hSw);go_simp;(try with_reducible rfl)
  refine ar ?_
  refine aV ⟨_,_,_,_,_,_⟩ ?_ rfl mRf ?_ ?_
  rotate_left 1
  ·intro w hSw;(try dsimp only at hSw);have hc:=(hSw.cell hxl hxx 4 JW).trans (ae hbx 4);go_simp;(try with_reducible rfl)
  refine ar ?_
  refine aV ⟨_,_,_,_,_,_⟩ ?_ rfl mRf ?_ ?_
  rotate_left 1
  ·intro w hSw;(try dsimp only at hSw);go_simp;(try with_reducible rfl)
  refine ar ?_
  exact ⟨_,_,_,_,_,rfl,(LM.of (Below.refl _ _).drew),(fun e=>absurd e (by decide +kernel)),(fun e=>absurd e (by decide +kernel)),(fun e=>absurd e (by decide +kernel)),(fun e=>absurd e (by decide +kernel)),(fun e=>absurd e (by decide +kernel)),(fun e=>absurd e (by decide +kernel)),(fun e=>absurd e (by decide +kernel)),(fun _=>hbo),(fun _=>hba)⟩
