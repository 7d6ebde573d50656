/- The law MarketOrder, walked: it returns true. -/
import Derived.Test.YtbihaoadgcckhaaMkOp
namespace Go.Proofs.Ytbihaoadgcckhaa
open Go Go.Proofs Go.RowKit Go.Maps Go.Sort Go.Lib

theorem again_of {A R O M : List Req} (_hM : IsSet M A) (hA : ActOrd A O) (h : ∀ r, r ∈ R ↔ r ∈ A) (hs : ∀ r ∈ A, r.fits) (hl : A.length ≤ 16) (hR : R.length ≤ 1000) : Again O R where
  len := hR
  fits r hr := hs r ((h r).1 hr)
  few M' hM' := by
    have := actR_len_le (hM'.congr h)
    omega
  ord O' hO' := hO'.same hA h
theorem again_active {A O M : List Req} (hM : IsSet M A) (hA : ActOrd A O) (hs : ∀ r ∈ A, r.fits) (hl : A.length ≤ 16) : Again O (actR M) where
  len := by have := actR_len_le hM; omega
  fits r hr := hs r ((hM.2 r).1 (mk_act_mem hr).1)
  few M' hM' := by
    have h1 := actR_len_le hM'
    have h2 := actR_len_le hM
    omega
  ord O' hO' := (hA.active hM hO').symm
set_option maxHeartbeats 4000000 in
set_option maxRecDepth 100000 in
theorem order_law (A0 A1 : Option Addr) (n0 n1 c0 c1 : Nat) (q m tn : Int) (w : World) (h0 : IntsIn w.heap.size A0 n0 w) (h1 : IntssIn w.heap.size A1 n1 w) (hq0 : 0 ≤ q) (hq1 : q ≤ 4294967295) (hm0 : 0 ≤ m) (hm1 : m ≤ 255) (htn : 0 ≤ tn ∧ tn ≤ 255) :
    Calls Try.prog 4 #[.agg #[.slice A0 n0 c0, .slice A1 n1 c1, .int .u32 q, .int .u8 m], .int .u8 tn] w fun x w' => x = .returned (.bool true) ∧ RowKit.Below w.heap.size w w' := by
  have H0 := Lib.hid h0
  have H1 := Lib.hid h1
  clear h0 h1
  obtain ⟨t, rfl⟩ := Int.eq_ofNat_of_zero_le htn.1
  have ht255 : t ≤ 255 := by omega
  clear htn
  have hb0 := below_alloc1 w (.cells #[.slice A0 n0 c0, .slice A1 n1 c1, .int .u32 q, .int .u8 m] 26)
  have hx0 : ∀ j, (w.alloc (.cells #[.slice A0 n0 c0, .slice A1 n1 c1, .int .u32 q, .int .u8 m] 26)).cell? ⟨w.heap.size, j, none⟩ = (#[.slice A0 n0 c0, .slice A1 n1 c1, .int .u32 q, .int .u8 m] : Array Value)[j]? := fun j => Lib.cell_of_heap (heap_alloc_new w _) j
  have hl0 : w.heap.size < (w.alloc (.cells #[.slice A0 n0 c0, .slice A1 n1 c1, .int .u32 q, .int .u8 m] 26)).heap.size := by simp
  go_enter Try.func4, Try.ntmps4
  go_wp2_with fail
  generalize w.alloc _ = W at hb0 hx0 hl0 ⊢
  refine (mk_sanity_any _).mono ?_
  rintro _ w1 ⟨rfl, hb⟩
  have hx1 : ∀ j, w1.cell? ⟨w.heap.size, j, none⟩ = (#[.slice A0 n0 c0, .slice A1 n1 c1, .int .u32 q, .int .u8 m] : Array Value)[j]? := fun j => (hb.cell (p := ⟨w.heap.size, j, none⟩) hl0).trans (hx0 j)
  have hb1 := below_next hb0 hb
  clear hb hx0 hb0 hl0
  go_wp2_with fail
  refine (mk_case_any A0 A1 n0 n1 c0 c1 q m w1 (ints_at H0.out hb1) (intss_at H1.out hb1) hq0 hq1 hm0 hm1).mono ?_
  rintro _ w2 ⟨ov, mv, lv, L, M, most, A, rfl, hC, hb⟩
  have hb2 := below_next hb1 hb
  clear hb hx1 hb1 H0 H1
  have hfit : ∀ r ∈ A, r.fits := fun r hr => (hC.small r hr).fits
  have lA := hC.lr
  go_wp2_with fail
  refine (deal_cat 19 sortsB_19 (by omega) ov mv lv L M most A w2 hC.cat hC.req (by omega) hfit (fun M' hM' => by have := actR_len_le hM'; omega)).mono ?_
  rintro _ w3 ⟨sv, wv, O, rfl, hO, hs3, hw3, hb⟩
  have lO : O.length ≤ 16 := by have := hO.len; omega
  have hb3 := below_next hb2 hb
  have hcat := hC.cat.below hb
  have hreq := hC.req.below hb
  have lens := deal_len (L := L) (met := M) (most := most) O
  have hd3 := DealIn.mk' hs3 hw3 (by omega) (by omega)
  clear hC hb hb2
  obtain ⟨ps, cs, rfl, _⟩ := hs3.form
  obtain ⟨pw, cw, rfl, _⟩ := hw3.form
  clear hs3 hw3
  have HD := Lib.hid hd3
  have HO := Lib.hid hO
  have HF := Lib.hid hfit
  have HC := Lib.hid hcat
  generalize hS : (dealP L M most O).seats.length = ns at HD lens ⊢
  generalize hW : (dealP L M most O).waits.length = nw at HD lens ⊢
  clear hS hW hd3 hO hfit hcat
  obtain ⟨sa, ca, rfl, _⟩ := hreq.form
  go_wp2_with fail
  have hkm : ((t : Int) % ((A.length : Int) + 1)) = ((t % (A.length + 1) : Nat) : Int) := by rw [Int.natCast_emod]; rfl
  have hkl : t % (A.length + 1) ≤ A.length := by have := Nat.mod_lt t (show 0 < A.length + 1 by omega); omega
  rw [hkm]
  clear hkm
  generalize t % (A.length + 1) = k at hkl ⊢
  have hba := below_alloc1 w3 (.cells #[.slice ps ns cs, .slice pw nw cw] 37)
  have hcell : w3.heap.size < (w3.alloc (.cells #[.slice ps ns cs, .slice pw nw cw] 37)).heap.size ∧ ∀ j, (w3.alloc (.cells #[.slice ps ns cs, .slice pw nw cw] 37)).cell? ⟨w3.heap.size, j, none⟩ = (#[.slice ps ns cs, .slice pw nw cw] : Array Value)[j]? := ⟨by simp, fun j => Lib.cell_of_heap (heap_alloc_new w3 _) j⟩
  have hb4 := below_next hb3 hba
  replace HD := Lib.hid (HD.out.below hba)
  replace HC := Lib.hid (HC.out.below hba)
  replace hreq := hreq.below hba
  clear hba hb3
  generalize w3.alloc _ = W0 at hcell HD HC hreq hb4 ⊢
  refine ord_r5 sa ca k A W0 _ hreq hkl (by omega) ?_
  intro tv u33 u34 u35 u36 u37 u38 u39 u40 u41 w5 hb5 own
  have hmt : ∀ r, r ∈ A.drop k ++ A.take k ↔ r ∈ A := fun r => by
    rw [List.mem_append]
    refine ⟨fun h => h.elim List.mem_of_mem_drop List.mem_of_mem_take, fun h => ?_⟩
    rw [← List.take_append_drop k A, List.mem_append] at h
    exact h.symm
  have lT : (A.drop k ++ A.take k).length ≤ 100 := by simp; omega
  have HT : Hid (Again O (A.drop k ++ A.take k) ∧ Again O (A.drop k ++ A.take k ++ A)) := by
    obtain ⟨MA, hMA, _⟩ := HO.out
    exact Lib.hid ⟨again_of hMA HO.out hmt HF.out lA (by omega), again_of hMA HO.out (fun r => by rw [List.mem_append, hmt]; exact or_self_iff) HF.out lA (by rw [List.length_append]; omega)⟩
  clear hmt
  generalize A.drop k ++ A.take k = T at own lT HT
  go_wp2_with fail
  refine (active_any _ A w5 (hreq.below hb5) (by omega) HF.out).mono ?_
  rintro _ w6 ⟨av, MA, rfl, hMA, hav, hb6⟩
  have HCA := Lib.hid (again_active hMA HO.out HF.out lA)
  have hne : av.ownBlock = none ∨ av.ownBlock ≠ tv.ownBlock := by
    cases e : av.ownBlock with
    | none => exact .inl rfl
    | some q =>
      refine .inr fun e2 => ?_
      have h1 := (hav.lt q e).1
      have h2 := (own.lt q e2.symm).2
      omega
  replace own := rows_below own hb6
  have hav2 := reqsIn_own hav
  have hb56 := below_next hb5 hb6
  clear hav hb6 hb5
  generalize actR MA = CA at HCA hav2
  go_wp2_with fail
  refine ord_r7 w3.heap.size ov mv _ _ tv _ av L M most O A T CA W0 w6 _ hb56 HC.out hcell HD.out hreq own hav2 hne (by omega) (by omega) HT.out.1 HT.out.2 HCA.out ?_
  intro u44 u45 u46 u47 u48 u49 u50 u51 u52 u53 u54 u55 u56 u57 u58 u59 u60 u61 u62 u63 u64 u65 u66 u67 u68 u69 u70 u71 u72 u73 w7 hb7
  go_wp2_with fail
  have hb8 := below_next hb4 hb7
  go_ret
  exact ⟨rfl, hb8⟩
end Go.Proofs.Ytbihaoadgcckhaa
