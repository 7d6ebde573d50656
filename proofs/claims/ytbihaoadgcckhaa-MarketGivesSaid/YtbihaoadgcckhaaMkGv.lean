/- The law MarketGives, walked: it returns true. -/
import Derived.Test.YtbihaoadgcckhaaMkGi
import Derived.Test.YtbihaoadgcckhaaMkGk
namespace Go.Proofs.Ytbihaoadgcckhaa
open Go Go.Proofs Go.RowKit Go.Maps Go.Sort Go.Lib
attribute [local go_sem] Req.cells

theorem lit_i64 {n : Int} (h : -1000000 ≤ n) (h2 : n ≤ 1000000) : (Lit.int .i64 n).wf = true := by
  simp [Lit.wf, IntKind.min, IntKind.max, IntKind.signed, IntKind.bits]
  omega
theorem giv_fits {s : Int} (q p : Int) {c k : ByteArray} (h1 : 1 ≤ s) (h5 : s ≤ 5) (hc : c.size ≤ 2) (hk : k.size ≤ 2) (q1 : 1 ≤ q) (q2 : q ≤ 2) (p1 : 1 ≤ p) (p2 : p ≤ 2) : Req.fits ⟨1, q, false, s, 4, c, k, p, 400⟩ :=
  ⟨⟨lit_i64 (n := 1) (by decide) (by decide), lit_i64 (by show -1000000 ≤ q; omega) (by show q ≤ 1000000; omega), lit_i64 (by show -1000000 ≤ s; omega) (by show s ≤ 1000000; omega), lit_i64 (n := 4) (by decide) (by decide), by show c.size ≤ maxLen; unfold maxLen; omega, by show k.size ≤ maxLen; unfold maxLen; omega, lit_i64 (by show -1000000 ≤ p; omega) (by show p ≤ 1000000; omega), lit_i64 (n := 400) (by decide) (by decide)⟩, by show c.size ≤ 1000000; omega, by show k.size ≤ 1000000; omega⟩
theorem giv_again {s : Int} {g c : ByteArray} (h1 : 1 ≤ s) (h5 : s ≤ 5) (hg : g ∈ codesL) (hc : c ∈ codesL) (hne : ¬ g = c) : Again [givA s g, givB s g c] [givA s g, givB s g c] where
  len := by simp
  fits r hr := by
    have sg := codes_size g hg
    have sc := codes_size c hc
    simp only [List.mem_cons, List.not_mem_nil, or_false] at hr
    rcases hr with rfl | rfl
    · exact giv_fits 1 2 h1 h5 (by omega) (by decide) (by omega) (by omega) (by omega) (by omega)
    · exact giv_fits 2 1 h1 h5 (by omega) (by omega) (by omega) (by omega) (by omega) (by omega)
  few M hM := by
    have := actR_len_le hM
    simp at this
    omega
  ord := giv_ord h1 h5 hg hc hne
set_option maxHeartbeats 4000000 in
set_option maxRecDepth 100000 in
theorem gives_law (A0 A1 : Option Addr) (n0 n1 c0 c1 : Nat) (q m : Int) (x0 x1 x2 : Nat) (w : World) (h0 : IntsIn w.heap.size A0 n0 w) (h1 : IntssIn w.heap.size A1 n1 w) (hq0 : 0 ≤ q) (hq1 : q ≤ 4294967295) (hm0 : 0 ≤ m) (hm1 : m ≤ 255) (hx0 : x0 ≤ 255) (hx1 : x1 ≤ 255) (hx2 : x2 ≤ 255) :
    Calls Try.prog 5 #[.agg #[.slice A0 n0 c0, .slice A1 n1 c1, .int .u32 q, .int .u8 m], .agg #[.int .u8 x0, .int .u8 x1, .int .u8 x2]] w fun x w' => x = .returned (.bool true) ∧ RowKit.Below w.heap.size w w' := by
  have H0 := Lib.hid h0
  have H1 := Lib.hid h1
  clear h0 h1
  have hb0 := (below_alloc1 w (.cells #[.slice A0 n0 c0, .slice A1 n1 c1, .int .u32 q, .int .u8 m] 26)).alloc (by simp) (.cells #[.int .u8 x0, .int .u8 x1, .int .u8 x2] 51)
  have hcx : ((w.alloc (.cells #[.slice A0 n0 c0, .slice A1 n1 c1, .int .u32 q, .int .u8 m] 26)).alloc (.cells #[.int .u8 x0, .int .u8 x1, .int .u8 x2] 51)).heap[w.heap.size]? = some (.cells #[.slice A0 n0 c0, .slice A1 n1 c1, .int .u32 q, .int .u8 m] 26 (0, 0)) := by rw [(below_alloc1 _ _).block _ (by simp)]; exact heap_alloc_new w _
  have hnx := new_two w (.cells #[.slice A0 n0 c0, .slice A1 n1 c1, .int .u32 q, .int .u8 m] 26) (.cells #[.int .u8 x0, .int .u8 x1, .int .u8 x2] 51)
  go_enter Try.func5, Try.ntmps5
  go_wp2_with fail
  generalize World.alloc _ _ = W at hb0 hcx hnx ⊢
  have lt0 := (Array.getElem?_eq_some_iff.1 hcx).1
  have lt1 := (Array.getElem?_eq_some_iff.1 hnx).1
  refine (mk_sanity_any _).mono ?_
  rintro _ w1 ⟨rfl, hb⟩
  have hcy : ∀ j, w1.cell? ⟨w.heap.size, j, none⟩ = (#[.slice A0 n0 c0, .slice A1 n1 c1, .int .u32 q, .int .u8 m] : Array Value)[j]? := fun j => Lib.cell_of_heap ((hb.block _ lt0).trans hcx) j
  have hny := (hb.block _ lt1).trans hnx
  have hb1 := below_next hb0 hb
  have lt2 := (Array.getElem?_eq_some_iff.1 hny).1
  clear hb hb0 hcx hnx lt0 lt1
  go_wp2_with fail
  refine (mk_case_any A0 A1 n0 n1 c0 c1 q m w1 (ints_at H0.out hb1) (intss_at H1.out hb1) hq0 hq1 hm0 hm1).mono ?_
  rintro _ w2 ⟨ov, mv, lv, L, M, most, A, rfl, hC, hb⟩
  have hnz : ∀ j, w2.cell? ⟨w.heap.size + 1, j, none⟩ = (#[.int .u8 x0, .int .u8 x1, .int .u8 x2] : Array Value)[j]? := fun j => Lib.cell_of_heap ((hb.block _ lt2).trans hny) j
  have hb2 := below_next hb1 hb
  have HC := Lib.hid hC
  clear hb hcy hb1 H0 H1 hC hny lt2
  go_wp2_with fail
  obtain ⟨g, hg⟩ : ∃ g, codesL[x1 % 6]? = some g := ⟨_, List.getElem?_eq_getElem (by show x1 % 6 < 6; omega)⟩
  obtain ⟨c, hc⟩ : ∃ c, codesL[x2 % 6]? = some c := ⟨_, List.getElem?_eq_getElem (by show x2 % 6 < 6; omega)⟩
  obtain ⟨s, hs⟩ : ∃ s : Int, s = 1 + ((x0 % 5 : Nat) : Int) := ⟨_, rfl⟩
  have s1 : 1 ≤ s := by omega
  have s5 : s ≤ 5 := by omega
  refine giv_r3 (w.heap.size + 1) x0 x1 x2 (x0 % 5) (x1 % 6) (x2 % 6) s g c w2 _ hnz hx0 hx1 hx2 rfl rfl rfl hs hg hc ?_
  intro u26 u27 u28 u29 u30 u31 u32 u33 u34 u35 u36 u37 u38 u39 u40 u41 u42 u43 u44 w3 hb
  have HG := Lib.hid (List.mem_of_getElem? hg)
  have HS := Lib.hid (List.mem_of_getElem? hc)
  have hb3 := below_next hb2 hb
  have HC3 := Lib.hid (HC.out.below hb)
  clear hb hb2 HC hg hc hs hnz
  by_cases hgc : g = c
  · subst hgc
    have t1 : (g.toList == g.toList) = true := by simp
    go_wp2_with fail
    go_ret
    exact ⟨rfl, hb3⟩
  have t1 : (g.toList == c.toList) = false := by rw [beq_eq_false_iff_ne, ne_eq, req_ba]; exact hgc
  have HGC := Lib.hid hgc
  clear hgc
  go_wp2_with fail
  have hba := (below_alloc1 w3 (.cells #[.int .i64 1, .int .i64 1, .bool false, .int .i64 s, .int .i64 4, .string g, .string ⟨#[]⟩, .int .i64 2, .int .i64 400] 35)).alloc (by simp) (.cells #[.int .i64 1, .int .i64 2, .bool false, .int .i64 s, .int .i64 4, .string c, .string g, .int .i64 1, .int .i64 400] 35)
  have hax : ((w3.alloc (.cells #[.int .i64 1, .int .i64 1, .bool false, .int .i64 s, .int .i64 4, .string g, .string ⟨#[]⟩, .int .i64 2, .int .i64 400] 35)).alloc (.cells #[.int .i64 1, .int .i64 2, .bool false, .int .i64 s, .int .i64 4, .string c, .string g, .int .i64 1, .int .i64 400] 35)).heap[w3.heap.size]? = some (.cells #[.int .i64 1, .int .i64 1, .bool false, .int .i64 s, .int .i64 4, .string g, .string ⟨#[]⟩, .int .i64 2, .int .i64 400] 35 (0, 0)) := by rw [(below_alloc1 _ _).block _ (by simp)]; exact heap_alloc_new w3 _
  have hbx := new_two w3 (.cells #[.int .i64 1, .int .i64 1, .bool false, .int .i64 s, .int .i64 4, .string g, .string ⟨#[]⟩, .int .i64 2, .int .i64 400] 35) (.cells #[.int .i64 1, .int .i64 2, .bool false, .int .i64 s, .int .i64 4, .string c, .string g, .int .i64 1, .int .i64 400] 35)
  have hb4 := below_next hb3 hba
  replace HC3 := Lib.hid (HC3.out.below hba)
  generalize World.alloc _ _ = w4 at hb4 hax hbx HC3 hba ⊢
  generalize w3.heap.size = ra at hax hbx ⊢
  clear hba hb3
  have la := (Array.getElem?_eq_some_iff.1 hax).1
  have lb := (Array.getElem?_eq_some_iff.1 hbx).1
  refine (seat_any s g w4).mono ?_
  rintro _ w5 ⟨rfl, hb⟩
  have hb5 := hb.alloc hb.size (.cells #[.int .i64 s, .string g] 40)
  have hwfs : ∀ x : ByteArray, x ∈ codesL → (⟨s, x⟩ : Seat).wf := fun x hx => ⟨lit_i64 (by show -1000000 ≤ s; omega) (by show s ≤ 1000000; omega), by have := codesL_small hx; show x.size ≤ maxLen; unfold maxLen; omega⟩
  have hk1 := check_any ov mv (.slice (some ⟨w5.heap.size, 0, none⟩) 1 1) (.slice none 0 0) L M most [⟨s, g⟩] [] (w5.alloc (.cells #[.int .i64 s, .string g] 40)) (HC3.out.cat.below hb5) (rowIn_lit (enc := Seat.cells) (e := 40) w5 [⟨s, g⟩] #[.int .i64 s, .string g] w5.heap.size rfl rfl 1 rfl) (RowIn.nil _ _) (by simp) (fun x hx => by rw [List.mem_singleton] at hx; subst hx; exact hwfs g HG.out)
  rw [show ([⟨s, g⟩] : List Seat).length = 1 from rfl, check_one] at hk1
  obtain ⟨eA, hA⟩ : ∃ e, fitsP L M most [] ⟨s, g⟩ = e := ⟨_, rfl⟩
  rw [hA] at hk1
  have HEA := Lib.hid hA
  have HWF := Lib.hid hwfs
  clear hA hwfs hb
  go_wp2_with fail
  refine hk1.mono ?_
  rintro _ w6 ⟨rfl, hb⟩
  have hb6 := below_next hb5 hb
  obtain ⟨bA, hbA⟩ : ∃ b : Bool, (eA == 0) = b := ⟨_, rfl⟩
  have HBA := Lib.hid hbA
  have hbA2 : decide (eA = 0) = bA := by rw [← hbA, Bool.eq_iff_iff, decide_eq_true_eq, beq_iff_eq]
  clear hb hb5 hk1
  go_wp2_with fail
  refine (seat_any s c w6).mono ?_
  rintro _ w7 ⟨rfl, hb⟩
  have hb7 := (below_next hb6 hb).alloc (below_next hb6 hb).size (.cells #[.int .i64 s, .string c] 40)
  have hk1 := check_any ov mv (.slice (some ⟨w7.heap.size, 0, none⟩) 1 1) (.slice none 0 0) L M most [⟨s, c⟩] [] (w7.alloc (.cells #[.int .i64 s, .string c] 40)) (HC3.out.cat.below hb7) (rowIn_lit (enc := Seat.cells) (e := 40) w7 [⟨s, c⟩] #[.int .i64 s, .string c] w7.heap.size rfl rfl 1 rfl) (RowIn.nil _ _) (by simp) (fun x hx => by rw [List.mem_singleton] at hx; subst hx; exact HWF.out c HS.out)
  rw [show ([⟨s, c⟩] : List Seat).length = 1 from rfl, check_one] at hk1
  obtain ⟨eB, hB⟩ : ∃ e, fitsP L M most [] ⟨s, c⟩ = e := ⟨_, rfl⟩
  rw [hB] at hk1
  have HEB := Lib.hid hB
  clear hB hb hb6 hbA
  go_wp2_with fail
  refine hk1.mono ?_
  rintro _ w8 ⟨rfl, hb⟩
  have hb8 := below_next hb7 hb
  obtain ⟨bB, hbB⟩ : ∃ b : Bool, (eB == 0) = b := ⟨_, rfl⟩
  have HBB := Lib.hid hbB
  have hbB2 : decide (eB = 0) = bB := by rw [← hbB, Bool.eq_iff_iff, decide_eq_true_eq, beq_iff_eq]
  clear hb hb7 hk1
  have hay : ∀ j, w8.cell? ⟨ra, j, none⟩ = (#[.int .i64 1, .int .i64 1, .bool false, .int .i64 s, .int .i64 4, .string g, .string ⟨#[]⟩, .int .i64 2, .int .i64 400] : Array Value)[j]? := fun j => Lib.cell_of_heap ((hb8.block _ la).trans hax) j
  have hby : ∀ j, w8.cell? ⟨ra + 1, j, none⟩ = (#[.int .i64 1, .int .i64 2, .bool false, .int .i64 s, .int .i64 4, .string c, .string g, .int .i64 1, .int .i64 400] : Array Value)[j]? := fun j => Lib.cell_of_heap ((hb8.block _ lb).trans hbx) j
  clear hax hbx la lb
  go_wp2_with fail
  have hb9 := hb8.alloc hb8.size (.cells #[.int .i64 1, .int .i64 1, .bool false, .int .i64 s, .int .i64 4, .string g, .string ⟨#[]⟩, .int .i64 2, .int .i64 400, .int .i64 1, .int .i64 2, .bool false, .int .i64 s, .int .i64 4, .string c, .string g, .int .i64 1, .int .i64 400] 35)
  have hreq : ReqsIn (w8.alloc (.cells #[.int .i64 1, .int .i64 1, .bool false, .int .i64 s, .int .i64 4, .string g, .string ⟨#[]⟩, .int .i64 2, .int .i64 400, .int .i64 1, .int .i64 2, .bool false, .int .i64 s, .int .i64 4, .string c, .string g, .int .i64 1, .int .i64 400] 35)) (.slice (some ⟨w8.heap.size, 0, none⟩) 2 2) [givA s g, givB s g c] := by
    refine .inr ⟨w8.heap.size, 0, 2, rfl, Nat.le_refl _, by simp, fun j u hj => ?_⟩
    rw [Nat.zero_add, Lib.cell_of_heap (heap_alloc_new w8 _)]
    simpa [reqCells, givA, givB, Req.cells] using hj
  refine (deal_again (O := [givA s g, givB s g c]) hb9 HC3.out.cat (by simp) (giv_again s1 s5 HG.out HS.out HGC.out) hreq).mono ?_
  rintro _ w9 ⟨sv, wv, rfl, hd9, hb⟩
  have hb10 := below_next hb9 hb
  rw [giv_two (by have := codes_size g HG.out; omega) HGC.out, HEA.out, HEB.out] at hd9
  obtain ⟨pS, cS, pW, cW, hval, _, _⟩ := hd9.val
  injection hval with hval
  simp only [Array.mk.injEq, List.cons.injEq, and_true] at hval
  obtain ⟨rfl, rfl⟩ := hval
  clear hb hb8 hay hby hreq hb9
  generalize hLS : (if eA = 0 then if eB = 0 then (⟨[⟨s, c⟩], []⟩ : Deal) else ⟨[⟨s, g⟩], [⟨s, c⟩]⟩ else ⟨[], [⟨s, g⟩, ⟨s, c⟩]⟩) = dd at hd9
  have HLS := Lib.hid hLS
  have HD := Lib.hid hd9
  clear hLS hd9
  generalize hns : dd.seats.length = ns at HD
  generalize hnw : dd.waits.length = nw at HD
  clear hns hnw
  have hcell : w9.heap.size < (w9.alloc (.cells #[.slice pS ns cS, .slice pW nw cW] 37)).heap.size ∧ ∀ j, (w9.alloc (.cells #[.slice pS ns cS, .slice pW nw cW] 37)).cell? ⟨w9.heap.size, j, none⟩ = (#[.slice pS ns cS, .slice pW nw cW] : Array Value)[j]? := ⟨by simp, fun j => Lib.cell_of_heap (heap_alloc_new w9 _) j⟩
  have hb11 := below_next hb10 (below_alloc1 w9 (.cells #[.slice pS ns cS, .slice pW nw cW] 37))
  have HD2 := Lib.hid (HD.out.below (below_alloc1 w9 (.cells #[.slice pS ns cS, .slice pW nw cW] 37)))
  have HC9 := Lib.hid (HC3.out.below hb11)
  clear HC3 HD hb10
  cases bA
  · have hn : ¬ eA = 0 := of_decide_eq_false hbA2
    have hdd := HLS.out
    rw [if_neg hn] at hdd
    subst hdd
    go_wp2_with fail
    refine giv_r15 w9.heap.size _ _ s g c _ _ hcell HD2.out ?_
    intro v121 v122 v123 v124 v125 v126 v127 v128 v129 v130 v131 v132 v133 wx hbx
    have hbz := below_next hb4 (below_next hb11 hbx)
    go_wp2_with fail
    go_ret
    exact ⟨rfl, hbz⟩
  · have hy : eA = 0 := of_decide_eq_true hbA2
    have hdd := HLS.out
    rw [if_pos hy] at hdd
    have HY := Lib.hid hy
    clear hy
    cases bB
    · have hn : ¬ eB = 0 := of_decide_eq_false hbB2
      rw [if_neg hn] at hdd
      subst hdd
      go_wp2_with fail
      refine giv_r14 w9.heap.size _ _ s g c _ _ hcell HD2.out ?_
      intro v107 v108 v109 v110 v111 v112 v113 v114 v115 v116 v117 v118 v119 v120 wx hbx
      have hbz := below_next hb4 (below_next hb11 hbx)
      go_wp2_with fail
      go_ret
      exact ⟨rfl, hbz⟩
    · have hyB : eB = 0 := of_decide_eq_true hbB2
      rw [if_pos hyB] at hdd
      subst hdd
      have HLF := Lib.hid (giv_left (c := c) HC9.out.good (HEA.out.trans HY.out))
      clear hyB
      go_wp2_with fail
      refine giv_r12 w9.heap.size ov _ _ L s g c _ _ hcell HD2.out HC9.out.cat.off HC9.out.cat.lo (fun o ho => ⟨(HC9.out.cat.ok o ho).1, (HC9.out.cat.ok o ho).2, by have := (HC9.out.good.1 o ho).nd; omega⟩) ⟨HLF.out.1, HLF.out.2.1⟩ (HLF.out.2.2 HGC.out) ?_
      intro v88 v89 v90 v91 v92 v93 v94 v95 v96 v97 v98 v99 v100 v101 v102 v103 v104 wx hbx
      have hbz := below_next hb4 (below_next hb11 hbx)
      go_wp2_with fail
      go_ret
      exact ⟨rfl, hbz⟩
end Go.Proofs.Ytbihaoadgcckhaa
