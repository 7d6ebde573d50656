/- The law MarketPermits, walked: it returns true. -/
import Derived.Test.YtbihaoadgcckhaaGreatMkPm
namespace Go.Proofs.YtbihaoadgcckhaaGreat
open Go Go.Proofs Go.RowKit Go.Maps Go.Sort Go.Lib
attribute [local go_sem] Req.cells

set_option maxHeartbeats 8000000 in
set_option maxRecDepth 100000 in
theorem permits_law (A0 A1 : Option Addr) (n0 n1 c0 c1 : Nat) (q m : Int) (w : World) (h0 : IntsIn w.heap.size A0 n0 w) (h1 : IntssIn w.heap.size A1 n1 w) (hq0 : 0 ≤ q) (hq1 : q ≤ 4294967295) (hm0 : 0 ≤ m) (hm1 : m ≤ 255) :
    Calls Tryz.prog 4 #[.agg #[.slice A0 n0 c0, .slice A1 n1 c1, .int .u32 q, .int .u8 m]] w fun x w' => x = .returned (.bool true) ∧ RowKit.Below w.heap.size w w' := by
  have H0 := Lib.hid h0
  have H1 := Lib.hid h1
  clear h0 h1
  have hb0 := below_alloc1 w (.cells #[.slice A0 n0 c0, .slice A1 n1 c1, .int .u32 q, .int .u8 m] 26)
  have hx0 : ∀ j, (w.alloc (.cells #[.slice A0 n0 c0, .slice A1 n1 c1, .int .u32 q, .int .u8 m] 26)).cell? ⟨w.heap.size, j, none⟩ = (#[.slice A0 n0 c0, .slice A1 n1 c1, .int .u32 q, .int .u8 m] : Array Value)[j]? := fun j => Lib.cell_of_heap (heap_alloc_new w _) j
  have hl0 : w.heap.size < (w.alloc (.cells #[.slice A0 n0 c0, .slice A1 n1 c1, .int .u32 q, .int .u8 m] 26)).heap.size := by simp
  go_enter Tryz.func4, Tryz.ntmps4
  go_wp2_with fail
  generalize w.alloc _ = W at hb0 hx0 hl0 ⊢
  refine (mk_sanity_any _).mono ?_
  rintro _ w1 ⟨rfl, hb⟩
  have hx1 : ∀ j, w1.cell? ⟨w.heap.size, j, none⟩ = (#[.slice A0 n0 c0, .slice A1 n1 c1, .int .u32 q, .int .u8 m] : Array Value)[j]? := fun j => (hb.cell (p := ⟨w.heap.size, j, none⟩) hl0).trans (hx0 j)
  have hb1 := below_next hb0 hb
  clear hb hx0 hb0 hl0
  go_wp2_with fail
  refine (mk_case_any A0 A1 n0 n1 c0 c1 q m w1 (ints_at H0.out hb1) (intss_at H1.out hb1) hq0 hq1 hm0 hm1).mono ?_
  rintro _ w2 ⟨ov, mv, lv, L, M, most, A, rfl, hC, hb⟩
  have hb2 := below_next hb1 hb
  clear hb hx1 hb1 H0 H1
  have hfit : ∀ r ∈ A, r.fits := fun r hr => (hC.small r hr).fits
  have lA := hC.lr
  have m0 := hC.m0
  have m1 := hC.m1
  have HG := Lib.hid hC.good
  go_wp2_with fail
  refine (deal_cat 19 sortsB_19 (by omega) ov mv lv L M most A w2 hC.cat hC.req (by omega) hfit (fun M' hM' => by have := actR_len_le hM'; omega)).mono ?_
  rintro _ w3 ⟨sv, wv, O, rfl, hO, hs3, hw3, hb⟩
  have lO : O.length ≤ 16 := by have := hO.len; omega
  have hb3 := below_next hb2 hb
  have hcat := hC.cat.below hb
  have hreq := hC.req.below hb
  have lens := deal_len (L := L) (met := M) (most := most) O
  have hwf : ∀ x ∈ (dealP L M most O).seats, x.wf := deal_wf O fun r hr => by
    have h := (hfit r (hO.sub hr).1).1
    exact ⟨h.2.2.1, h.2.2.2.2.1⟩
  have hok : OkS L M most (dealP L M most O).seats := deal_ok HG.out.calm O (by omega)
  clear hC hb hb2
  obtain ⟨pd, cd, rfl, _⟩ := hs3.form
  obtain ⟨pw, cw, rfl, _⟩ := hw3.form
  have HO := Lib.hid hO
  have HF := Lib.hid hfit
  have HAll : Hid (∀ B : List Req, (∀ r, r ∈ O ↔ r ∈ B) → givesR B = false → ∀ r ∈ B, seatOf r ∈ (dealP L M most O).seats ∨ seatOf r ∈ (dealP L M most O).waits) := Lib.hid fun B hB hg r hr => pm_all hB hg hr
  obtain ⟨D, hD⟩ : ∃ D, (dealP L M most O).seats = D := ⟨_, rfl⟩
  obtain ⟨Wt, hWt⟩ : ∃ Wt, (dealP L M most O).waits = Wt := ⟨_, rfl⟩
  rw [hD] at hs3 lens hwf hok HAll ⊢
  rw [hWt] at hw3 lens HAll ⊢
  have lD : D.length ≤ 1000 := by omega
  have lW : Wt.length ≤ 1000 := by omega
  have HWF := Lib.hid hwf
  have HK := Lib.hid hok
  clear hD hWt hO hfit hwf hok lens
  obtain ⟨po, co, rfl, _⟩ := hcat.off.form
  have hba := below_alloc1 w3 (.cells #[.slice pd D.length cd, .slice pw Wt.length cw] 45)
  have hcell : w3.heap.size < (w3.alloc (.cells #[.slice pd D.length cd, .slice pw Wt.length cw] 45)).heap.size ∧ ∀ j, (w3.alloc (.cells #[.slice pd D.length cd, .slice pw Wt.length cw] 45)).cell? ⟨w3.heap.size, j, none⟩ = (#[.slice pd D.length cd, .slice pw Wt.length cw] : Array Value)[j]? := ⟨by simp, fun j => Lib.cell_of_heap (heap_alloc_new w3 _) j⟩
  have hcell2 := hcell.2
  have HC := Lib.hid (hcat.below hba)
  have HS := Lib.hid (hs3.below hba)
  have HW := Lib.hid (hw3.below hba)
  have HR := Lib.hid (hreq.below hba)
  have hb4 := below_next hb3 hba
  clear hcat hs3 hw3 hreq
  go_wp2_with fail
  generalize w3.heap.size = db at hcell hcell2 ⊢
  generalize w3.alloc _ = W0 at hcell hcell2 HC HS HW HR hb4 ⊢
  clear hba hb3
  have cK := check_any (.slice po L.length co) mv (.slice pd D.length cd) (.slice pw Wt.length cw) L M most D Wt W0 HC.out HS.out HW.out (by omega) HWF.out
  rw [checkP_ok.2 HK.out] at cK
  refine cK.mono ?_
  rintro _ w5 ⟨rfl, hb5⟩
  clear cK hcell2
  go_upto_block 0 with fail
  have hcl := fun w' (hb : RowKit.Below W0.heap.size W0 w') => (show db < w'.heap.size ∧ ∀ j, w'.cell? ⟨db, j, none⟩ = (#[.slice pd D.length cd, .slice pw Wt.length cw] : Array Value)[j]? from ⟨Nat.lt_of_lt_of_le hcell.1 hb.size, fun j => (hb.cell (p := ⟨db, j, none⟩) hcell.1).trans (hcell.2 j)⟩)
  have HCL := Lib.hid hcl
  have HDL := Lib.hid (fun w' (hb : RowKit.Below W0.heap.size W0 w') => (show DealIn w' (.agg #[.slice pd D.length cd, .slice pw Wt.length cw]) ⟨D, Wt⟩ from ⟨⟨pd, cd, pw, cw, rfl, HS.out.below hb, HW.out.below hb⟩, by show D.length ≤ 1000000; omega, by show Wt.length ≤ 1000000; omega⟩))
  clear hcl hcell
  refine pm_b0 db pd pw po cd cw co mv D Wt L M most w5 _ (HC.out.below hb5) HG.out (HDL.out _ hb5) (HCL.out _ hb5) lD HK.out ?_
  intro u2 u10 u11 u13 u52 u53 u54 u55 u56 u57 u58 u59 u60 u61 u62 u63 u64 u65 u66 u67 u68 u69 u70 u71 u72 u73 u74 u75 u76 u77 u78 u79 u80 u81 u82 u83 u84 u85 u86 u87 w6 hb
  have hb6 := below_next hb5 hb
  clear hb hb5
  go_upto_block 4 with fail
  refine pm_b4 db pd pw po cd cw co mv D Wt L M most w6 _ (HC.out.below hb6) HG.out (HDL.out _ hb6) (HCL.out _ hb6) lD HK.out m0 ?_
  intro u2 u14 u15 u16 u17 u18 u19 u20 u22 u23 u24 u88 u89 u90 u91 u92 u93 u94 u95 u96 u97 u98 u99 u100 u101 u102 u103 u104 u105 u106 u107 u108 u109 u110 u111 u112 u113 u114 u115 u116 u117 u118 u119 u120 u121 u122 u123 u124 u125 u126 u127 u128 u129 u130 u131 u132 u133 u134 u135 u136 u137 u138 u139 u140 u141 u142 u143 u144 u145 u146 u147 u148 u149 u150 u151 u152 u153 w7 hb
  have hb7 := below_next hb6 hb
  clear hb hb6
  go_wp2_with fail
  refine (active_any lv A w7 (HR.out.below hb7) (by omega) HF.out).mono ?_
  rintro _ w8 ⟨av, MA, rfl, hMA, hav, hb⟩
  have hb8 := below_next hb7 hb
  have hrow := (reqsIn_own hav).row
  have hmem := HO.out.mem hMA
  have lMA : (actR MA).length ≤ 1000 := by have := actR_len_le hMA; omega
  clear hb hb7 hav hMA
  generalize actR MA = B at hrow hmem lMA ⊢
  obtain ⟨pa, ca, rfl, _⟩ := hrow.form
  have HB := Lib.hid hmem
  have HROW := Lib.hid hrow
  clear hmem hrow
  go_upto_block 10 with fail
  refine pm_b10 pa ca B w8 _ HROW.out (by omega) ?_
  intro u27 u157 u158 u159 u160 u161 u162 u163 u164 u165 u166 u167  w9 hb
  have hb9 := below_next hb8 hb
  clear hb hb8
  generalize hgv : givesR B = gv
  have HGV := Lib.hid hgv
  clear hgv
  go_wp2_with fail
  refine (active_any lv A w9 (HR.out.below hb9) (by omega) HF.out).mono ?_
  rintro _ w10 ⟨av2, MA2, rfl, hMA2, hav2, hb⟩
  have hb10 := below_next hb9 hb
  have hrow2 := (reqsIn_own hav2).row
  have hmem2 := HO.out.mem hMA2
  have lMA2 : (actR MA2).length ≤ 1000 := by have := actR_len_le hMA2; omega
  clear hb hb9 hav2 hMA2
  generalize actR MA2 = B2 at hrow2 hmem2 lMA2 ⊢
  obtain ⟨pa2, ca2, rfl, _⟩ := hrow2.form
  have HB2 := Lib.hid hmem2
  have HROW2 := Lib.hid hrow2
  clear hmem2 hrow2
  go_upto_block 12 with fail
  refine pm_b12 db pd pw pa2 cd cw ca2 gv D Wt B2 w10 _ HROW2.out (by omega) (HS.out.below hb10) (HW.out.below hb10) lD lW (HCL.out _ hb10) (fun e r hr => HAll.out B HB.out (by rw [HGV.out]; exact e) r ((HB.out r).1 ((HB2.out r).2 hr))) ?_
  intro u2 u29 u30 u171 u172 u173 u174 u175 u176 u177 u178 u179 u180 u181 u182 u183 u184 u185 u186 u187 u188 u189 u190 u191 u192 u193 u194 u195 u196 w11 hb
  have hb11 := below_next hb10 hb
  clear hb hb10
  go_wp2_with fail
  go_ret
  exact ⟨rfl, below_next hb4 hb11⟩
end Go.Proofs.YtbihaoadgcckhaaGreat
