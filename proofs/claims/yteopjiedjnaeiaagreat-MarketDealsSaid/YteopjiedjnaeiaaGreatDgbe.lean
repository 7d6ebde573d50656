/- The law MarketDeals: for every input it returns true, and each argument reads as it read before. -/
import Derived.Test.YteopjiedjnaeiaaGreatDgbd
import Derived.Deep.DeepCutAuto
import Derived.Test.YteopjiedjnaeiaaGreatRows
import Derived.Test.YteopjiedjnaeiaaGreatDgaw
import Derived.Test.YteopjiedjnaeiaaGreatDgav
/- The law MarketDeals. -/
namespace Go.Proofs.YteopjiedjnaeiaaGreat
open Go Go.Proofs Go.RowKit Go.Maps Go.Sort Go.Lib

set_option maxHeartbeats 8000000 in
set_option maxRecDepth 100000 in
theorem deals_law (A0 A1 : Option Addr) (n0 n1 c0 c1 : Nat) (q m q0 q1 q2 : Int) (rv ov0 sv0 lv0 : Value) (L0 : List Off) (M0 : List Seat) (N : Int) (R0 : List Req) (w : World) (h0 : IntsIn w.heap.size A0 n0 w) (h1 : IntssIn w.heap.size A1 n1 w) (hq0 : 0 ≤ q) (hq1 : q ≤ 4294967295) (hm0 : 0 ≤ m) (hm1 : m ≤ 255)
    (_i0 : I64 q0) (i1 : I64 q1) (i2 : I64 q2) (hraw : RawW w rv ov0 sv0 lv0 L0 M0 N R0) :
    Calls Tryz.prog 3 #[.agg #[.slice A0 n0 c0, .slice A1 n1 c1, .int .u32 q, .int .u8 m], .agg #[.int .i64 q0, .int .i64 q1, .int .i64 q2], rv] w fun x w' => x = .returned (.bool true) ∧ RowKit.Below w.heap.size w w' := by
  have H0 := Lib.hid h0
  have H1 := Lib.hid h1
  have HW := Lib.hid hraw
  obtain ⟨pO, cO, rfl, -⟩ := hraw.offs.form
  obtain ⟨pS, cS, rfl, -⟩ := hraw.seats.form
  obtain ⟨pR, cR, rfl, -⟩ := hraw.reqs.form
  obtain rfl := hraw.eq
  clear h0 h1 hraw
  go_enter Tryz.func3, Tryz.ntmps3
  go_wp2_with fail
  obtain ⟨g1, hg1⟩ : ∃ g1, w.heap.size = g1 := ⟨_, rfl⟩
  rw [hg1]
  obtain ⟨gq, hgq⟩ : ∃ gq, g1 + 1 = gq := ⟨_, rfl⟩
  rw [hgq]
  obtain ⟨gr, hgr⟩ : ∃ gr, gq + 1 = gr := ⟨_, rfl⟩
  rw [hgr]
  have hT := three_new w (.cells #[.slice A0 n0 c0, .slice A1 n1 c1, .int .u32 q, .int .u8 m] 26) (.cells #[.int .i64 q0, .int .i64 q1, .int .i64 q2] 27) (.cells #[.slice pO L0.length cO, .slice pS M0.length cS, .int .i64 N, .slice pR R0.length cR] 32)
  have hB := ((below_alloc1 w (.cells #[.slice A0 n0 c0, .slice A1 n1 c1, .int .u32 q, .int .u8 m] 26)).alloc (by simp) (.cells #[.int .i64 q0, .int .i64 q1, .int .i64 q2] 27)).alloc (by simp <;> omega) (.cells #[.slice pO L0.length cO, .slice pS M0.length cS, .int .i64 N, .slice pR R0.length cR] 32)
  have hZ : (((w.alloc (.cells #[.slice A0 n0 c0, .slice A1 n1 c1, .int .u32 q, .int .u8 m] 26)).alloc (.cells #[.int .i64 q0, .int .i64 q1, .int .i64 q2] 27)).alloc (.cells #[.slice pO L0.length cO, .slice pS M0.length cS, .int .i64 N, .slice pR R0.length cR] 32)).heap.size = g1 + 3 := by simp [hg1]
  generalize (((w.alloc (.cells #[.slice A0 n0 c0, .slice A1 n1 c1, .int .u32 q, .int .u8 m] 26)).alloc (.cells #[.int .i64 q0, .int .i64 q1, .int .i64 q2] 27)).alloc (.cells #[.slice pO L0.length cO, .slice pS M0.length cS, .int .i64 N, .slice pR R0.length cR] 32)) = W3 at hT hB hZ ⊢
  obtain ⟨hT1, hT2, hT3⟩ := hT
  rw [hg1] at hT1 hT2 hT3
  have HG1 := Lib.hid hg1
  clear hg1
  rw [hgq] at hT2 hT3
  rw [hgr] at hT3
  refine (mk_sanity_any _).mono ?_
  rintro _ w1 ⟨rfl, hb⟩
  have hb1 := below_next hB hb
  have hs1 : W3.heap.size ≤ w1.heap.size := hb.size
  have k1 : w1.heap[g1]? = _ := (hb.block g1 (by omega)).trans hT1
  have k2 : w1.heap[gq]? = _ := (hb.block gq (by omega)).trans hT2
  have k3 : w1.heap[gr]? = _ := (hb.block gr (by omega)).trans hT3
  clear hT1 hT2 hT3 hB hb
  have hc3 : ∀ j, w1.cell? ⟨gr, j, none⟩ = (#[.slice pO L0.length cO, .slice pS M0.length cS, .int .i64 N, .slice pR R0.length cR] : Array Value)[j]? := fun j => Lib.cell_of_heap k3 j
  go_wp2_with fail
  refine (rawcut_any _ _ _ _ L0 M0 N R0 w w1 hb1 HW.out).mono ?_
  rintro _ w2 ⟨v', ovr, svr, lvr, Lr, Mr, Rr, rfl, hC, hb⟩
  obtain rfl := hC.eq
  have HC := Lib.hid hC
  obtain ⟨po, co, rfl⟩ := own_form hC.offs
  obtain ⟨ps, cs, rfl, -⟩ := hC.seats.form
  obtain ⟨pr, cr, rfl, -⟩ := hC.reqs.form
  have hb2 := below_next hb1 hb
  have hs2 : W3.heap.size ≤ w2.heap.size := Nat.le_trans hs1 hb.size
  have l1 : w2.heap[g1]? = _ := (hb.block g1 (by omega)).trans k1
  have l2 : w2.heap[gq]? = _ := (hb.block gq (by omega)).trans k2
  have l3 : w2.heap[gr]? = _ := (hb.block gr (by omega)).trans k3
  clear hc3 k1 k2 k3 hb1 hb hC
  have hc3 : ∀ j, w2.cell? ⟨gr, j, none⟩ = (#[.slice pO L0.length cO, .slice pS M0.length cS, .int .i64 N, .slice pR R0.length cR] : Array Value)[j]? := fun j => Lib.cell_of_heap l3 j
  have hf3 : ∀ j, w2.frozen? ⟨gr, j, none⟩ = false := fun j => Lib.frozen_of_heap l3 j
  go_upto_region 3 with fail
  obtain ⟨w3, hw3⟩ : ∃ w3, (((w2.setCell ⟨gr, 0, none⟩ (.slice po Lr.length co)).setCell ⟨gr, 1, none⟩ (.slice ps Mr.length cs)).setCell ⟨gr, 2, none⟩ (.int .i64 N)).setCell ⟨gr, 3, none⟩ (.slice pr Rr.length cr) = w3 := ⟨_, rfl⟩
  rw [hw3]
  have m3 : w3.heap[gr]? = some (.cells #[.slice po Lr.length co, .slice ps Mr.length cs, .int .i64 N, .slice pr Rr.length cr] 32 (0, 0)) := by rw [← hw3]; exact set_heap (set_heap (set_heap (set_heap l3 0 _) 1 _) 2 _) 3 _
  have m1 : w3.heap[g1]? = _ := (show w3.heap[g1]? = w2.heap[g1]? by rw [← hw3, set_heap_ne (by omega), set_heap_ne (by omega), set_heap_ne (by omega), set_heap_ne (by omega)]).trans l1
  have m2 : w3.heap[gq]? = _ := (show w3.heap[gq]? = w2.heap[gq]? by rw [← hw3, set_heap_ne (by omega), set_heap_ne (by omega), set_heap_ne (by omega), set_heap_ne (by omega)]).trans l2
  have hC3 : RawC w w1.heap.size w3 (.agg #[.slice po Lr.length co, .slice ps Mr.length cs, .int .i64 N, .slice pr Rr.length cr]) (.slice po Lr.length co) (.slice ps Mr.length cs) (.slice pr Rr.length cr) Lr Mr N Rr := by rw [← hw3]; exact (((HC.out.set (by omega)).set (by omega)).set (by omega)).set (by omega)
  have hb3 : RowKit.Below w.heap.size w w3 := by
    have hs := hb2.size
    have hg := HG1.out
    rw [← hw3]
    exact below_set (below_set (below_set (below_set hb2 (by omega) hs) (by omega) (by simpa using hs)) (by omega) (by simpa using hs)) (by omega) (by simpa using hs)
  have hs3 : W3.heap.size ≤ w3.heap.size := by rw [← hw3]; simpa using hs2
  have HC3 := Lib.hid hC3
  clear hw3 l1 l2 l3 hc3 hf3 hs2 hb2 HC hC3
  have hc1 : ∀ j, w3.cell? ⟨g1, j, none⟩ = (#[.slice A0 n0 c0, .slice A1 n1 c1, .int .u32 q, .int .u8 m] : Array Value)[j]? := fun j => Lib.cell_of_heap m1 j
  go_wp2_with fail
  refine (mk_case_any A0 A1 n0 n1 c0 c1 q m w3 (ints_at H0.out hb3) (intss_at H1.out hb3) hq0 hq1 hm0 hm1).mono ?_
  rintro _ w4 ⟨ov, mv, lv, L, M, most, A, rfl, hK, hb⟩
  have hb4 := below_next hb3 hb
  have hs4 : W3.heap.size ≤ w4.heap.size := Nat.le_trans hs3 hb.size
  have m4 : w4.heap[gq]? = _ := (hb.block gq (by omega)).trans m2
  have m5 : w4.heap[gr]? = _ := (hb.block gr (by omega)).trans m3
  have HC4 := Lib.hid (HC3.out.below hb)
  have HK := Lib.hid hK
  have lA := hK.lr
  obtain ⟨pa, ca, rfl, hca⟩ := hK.req.form
  have hrow := reqs_rowIn hK.req
  clear hb hc1 m1 m2 m3 hb3 hs3 HC3 H0 H1 hK
  have hown0 := own_empty_at w4 w4.heap.size w4.heap.size rfl (Nat.le_refl _)
  have hrow1 := hrow.below (below_alloc1 w4 (.cells #[] 39))
  go_upto_if 33 with (at_builtin; refine wpList_append_row reqTd rfl (.tmp 28) (.tmp 29) rfl w4.heap.size (.slice (some ⟨w4.heap.size, 0, none⟩) 0 0) (.slice pa A.length ca) [] A rfl rfl hown0 hrow1 (by simp only [List.length_nil]; omega) (by simp) ?_; intro v5 w5 hA5; obtain ⟨p5, c5, rfl⟩ := own_form hA5.own)
  have hown5 : w5.ownsRow w4.heap.size 39 9 (.slice p5 A.length c5) A.length (reqCells A) := hA5.own
  have hb5 : RowKit.Below w4.heap.size w4 w5 := (below_alloc1 w4 (.cells #[] 39)).grown hA5.grown (by simp) (fun q hq => by cases hq; exact Nat.le_refl _)
  have hs5 : W3.heap.size ≤ w5.heap.size := Nat.le_trans hs4 hb5.size
  have lo5 := hb5.size
  have HOWN := Lib.hid hown5
  have HB5 := Lib.hid hb5
  clear hA5 hown0 hrow1 hown5
  go_cut [] (fun wx => RowKit.Below w4.heap.size w4 wx ∧ Hid (∃ X : List Req, X.length = A.length ∧ (∀ r ∈ X, r.Small) ∧ ReqsIn wx (.slice p5 A.length c5) X))
  case first =>
    by_cases hA0 : A.length = 0
    · have t0 : decide (0 < A.length) = false := decide_eq_false (by omega)
      have t1 : decide ((0 : Int) < (A.length : Int)) = false := decide_eq_false (by omega)
      go_wp2_with fail
      go_meet
      case rel => exact ⟨hb5, Lib.hid ⟨A, rfl, HK.out.small, reqsIn_own HOWN.out⟩⟩
    · have t0 : decide (0 < A.length) = true := decide_eq_true (by omega)
      have t1 : decide ((0 : Int) < (A.length : Int)) = true := decide_eq_true (by omega)
      obtain ⟨g, rfl⟩ : ∃ g, p5 = some ⟨g, 0, none⟩ := by
        rcases HOWN.out.2 with ⟨_, e⟩ | ⟨g, cap, cur, e, _⟩
        · omega
        · exact ⟨g, (Value.slice.inj e).1⟩
      have hO5 := OrdSt.own hb5 HOWN.out
      have hgq5 : w5.heap[gq]? = _ := (hb5.block gq (by omega)).trans m4
      have hcq : ∀ j, w5.cell? ⟨gq, j, none⟩ = (#[.int .i64 q0, .int .i64 q1, .int .i64 q2] : Array Value)[j]? := fun j => Lib.cell_of_heap hgq5 j
      have hlo : w4.heap.size ≤ g := hO5.low
      go_wp2_with fail
      refine (mod_any q0 (A.length : Int) w5 (by omega) (by omega)).mono ?_
      rintro _ _ ⟨rfl, rfl⟩
      obtain ⟨k, hk⟩ := Int.eq_ofNat_of_zero_le (Int.emod_nonneg q0 (show (A.length : Int) ≠ 0 by omega))
      have hkl : (k : Int) < (A.length : Int) := hk ▸ Int.emod_lt_of_pos q0 (show (0 : Int) < (A.length : Int) by omega)
      rw [hk]
      clear hk
      obtain ⟨x, hx⟩ : ∃ x, A[k]? = some x := ⟨_, List.getElem?_eq_getElem (by omega)⟩
      go_wp2_with fail
      refine de_r7 w4 w4.heap.size g gq A.length c5 k A x q0 q1 q2 _ _ hO5 lo5 hx (by omega) hkl (HK.out.small x (List.mem_of_getElem? hx)) hcq (by omega) (by omega) i1 i2 ?_
      intros
      rename_i wx r hr hO6
      have HF : Hid (∃ X : List Req, X.length = A.length ∧ (∀ r ∈ X, r.Small) ∧ ReqsIn wx (.slice (some ⟨g, 0, none⟩) A.length c5) X) := Lib.hid ⟨A.set k r, by simp, fun y hy => by
        rcases List.mem_or_eq_of_mem_set hy with h | rfl
        · exact HK.out.small y h
        · exact hr, by
        have h := hO6.reqs (c := c5) (by rw [List.length_set]; exact (reqsIn_own HOWN.out).form.elim fun _ ⟨_, e, h⟩ => by cases e; exact h)
        rwa [List.length_set] at h⟩
      have hbF := hO6.below
      clear hO5 hO6
      go_wp2_with fail
      go_meet
      case rel => exact ⟨hbF, HF⟩
  case rest =>
    obtain ⟨hb6, HX⟩ := hcut
    obtain ⟨X, lX, sX, rX⟩ := HX.out
    have hb7 := below_next hb4 hb6
    have hs7 : W3.heap.size ≤ wc.heap.size := Nat.le_trans hs4 hb6.size
    have m7 : wc.heap[gr]? = _ := (hb6.block gr (by omega)).trans m5
    have hR7 : ∀ j, wc.cell? ⟨gr, j, none⟩ = (#[.slice po Lr.length co, .slice ps Mr.length cs, .int .i64 N, .slice pr Rr.length cr] : Array Value)[j]? := fun j => Lib.cell_of_heap m7 j
    have hA7 := hrow.below hb6
    have hr7 := HC4.out.reqs.below hb7
    have lR := HC4.out.reqN
    go_wp2_with fail
    refine de_r8 gr A.length ca A.length c5 pa p5 A Rr N _ _ _ _ _ hR7 (by omega) hA7 hr7 (by omega) (by omega) ?_
    intros
    rename_i W7 gl v3 hb8 hgl hcl hx3
    have hsv : ReqX W7 v3 ([] ++ A ++ Rr) := ⟨hx3, by simp; omega, fun r hr => by
      rcases List.mem_append.1 hr with h | h
      · exact (HK.out.small r (by simpa using h)).fits
      · exact wf_fits (HC4.out.reqG r h)⟩
    have hb9 := below_next hb7 hb8
    have hb49 := below_next hb6 hb8
    have hx1 : ReqX W7 (.slice pa A.length ca) A := HK.out.reqX.below hb49
    have hx2 : ReqX W7 (.slice p5 A.length c5) X := ⟨rX.below hb8, by omega, fun r hr => (sX r hr).fits⟩
    have hcx : CatX W7 ov mv L M := HK.out.catX.below hb49
    have hcr : CatX W7 (.slice po Lr.length co) (.slice ps Mr.length cs) Lr Mr := (HC4.out.below hb49).catX hb9
    have hR9 : ∀ j, W7.cell? ⟨gr, j, none⟩ = (#[.slice po Lr.length co, .slice ps Mr.length cs, .int .i64 N, .slice pr Rr.length cr] : Array Value)[j]? := fun j => (hb8.cell (p := ⟨gr, j, none⟩) (show gr < wc.heap.size by omega)).trans (hR7 j)
    have hlr : gr < W7.heap.size := by have := hb8.size; omega
    have HX1 := Lib.hid hx1
    have HSEL : Hid (∀ k, k < 3 → ∃ xv Y, (#[.slice pa A.length ca, .slice p5 A.length c5, v3] : Array Value)[k]? = some xv ∧ ReqX W7 xv Y) := Lib.hid fun k hk => by
      match k, hk with
      | 0, _ => exact ⟨_, _, rfl, hx1⟩
      | 1, _ => exact ⟨_, _, rfl, hx2⟩
      | 2, _ => exact ⟨_, _, rfl, hsv⟩
    have HCX := Lib.hid hcx
    have HCR := Lib.hid hcr
    have HR9 := Lib.hid hR9
    have HCL := Lib.hid hcl
    have hB0 : RowKit.Below W7.heap.size W7 W7 := Below.refl _ _
    clear hsv hx1 hx2 hcx hcr hR9 hcl hx3 rX sX hb8 hb49 hr7 hA7 hR7 m7 hb6 HX hb7 m4 m5 hb5 HB5 HOWN hrow hb4 HC4
    go_wp2_with fail
    go_loopw [62] (fun u wr => ∃ k : Nat, k ≤ 3 ∧ u = .int .i64 k ∧ RowKit.Below W7.heap.size W7 wr) (fun u _ => 3 - (RowKit.intOf u).toNat)
    case atStart => exact ⟨0, by omega, rfl, hB0⟩
    case round =>
      clear hB0
      obtain ⟨k, hk, rfl, hBr⟩ := hrel
      by_cases hlt : k < 3
      · have hlt' : (k : Int) < 3 := by omega
        obtain ⟨xv, Y, hxv, hY⟩ := HSEL.out k hlt
        have hld : wr.cell? ⟨gl, k, none⟩ = some xv := (hBr.cell (p := ⟨gl, k, none⟩) hgl).trans ((HCL.out k).trans hxv)
        have hld2 : ∀ j, wr.cell? ⟨gr, j, none⟩ = (#[.slice po Lr.length co, .slice ps Mr.length cs, .int .i64 N, .slice pr Rr.length cr] : Array Value)[j]? := fun j => (hBr.cell (p := ⟨gr, j, none⟩) hlr).trans (HR9.out j)
        have HY := Lib.hid hY
        clear hxv hY
        go_wp2_with fail
        have hbl := hBr.alloc hBr.size (.cells #[.int .i64 most, .int .i64 N] 3)
        have hgl2 : wr.heap.size < (wr.alloc (.cells #[.int .i64 most, .int .i64 N] 3)).heap.size := by simp
        have hcl2 : ∀ j, (wr.alloc (.cells #[.int .i64 most, .int .i64 N] 3)).cell? ⟨wr.heap.size, j, none⟩ = (#[.int .i64 most, .int .i64 N] : Array Value)[j]? := fun j => Lib.cell_of_heap (heap_alloc_new wr _) j
        generalize wr.heap.size = gn at hgl2 hcl2 ⊢
        generalize wr.alloc (.cells #[.int .i64 most, .int .i64 N] 3) = W8 at hbl hgl2 hcl2 ⊢
        have HBL := Lib.hid hbl
        have HCL2 := Lib.hid hcl2
        have hB8 : RowKit.Below W8.heap.size W8 W8 := Below.refl _ _
        clear hld hld2 hBr hbl hcl2
        go_loopw [71] (fun u wq => ∃ j : Nat, j ≤ 2 ∧ u = .int .i64 j ∧ RowKit.Below W8.heap.size W8 wq) (fun u _ => 2 - (RowKit.intOf u).toNat)
        case atStart => exact ⟨0, by omega, rfl, hB8⟩
        case round =>
          clear hB8
          obtain ⟨j, hj, rfl, hBq⟩ := hrel
          by_cases hlj : j < 2
          · have hlj' : (j : Int) < 2 := by omega
            obtain ⟨nv, hnv⟩ : ∃ nv : Int, (#[.int .i64 most, .int .i64 N] : Array Value)[j]? = some (.int .i64 nv) := by
              match j, hlj with
              | 0, _ => exact ⟨_, rfl⟩
              | 1, _ => exact ⟨_, rfl⟩
            have hld : wr.cell? ⟨gn, j, none⟩ = some (.int .i64 nv) := (hBq.cell (p := ⟨gn, j, none⟩) hgl2).trans ((HCL2.out j).trans hnv)
            have hb7q := below_next HBL.out hBq
            clear hnv
            go_wp2_with fail
            refine (deal_x nv HCX.out HY.out hb7q).mono ?_
            rintro _ wa ⟨v1, rfl, hd1, hba⟩
            have hb7a := below_next hb7q hba
            go_wp2_with fail
            refine (refd_x nv HCX.out HY.out hb7a).mono ?_
            rintro _ wb ⟨v2, rfl, hd2, hbb⟩
            go_wp2_with fail
            refine (same_x (hd1.below hbb) hd2).mono ?_
            rintro _ we ⟨rfl, hbe⟩
            have hbF := below_next (below_next (below_next hBq hba) hbb) hbe
            clear hd1 hd2 hba hbb hbe hb7a hb7q hld hBq
            go_wp2_with fail
            go_roundw
            case rel => exact ⟨j + 1, by omega, by go_num, hbF⟩
            case measure => simp [RowKit.intOf]; omega
          · obtain rfl : j = 2 := by omega
            have hbF := below_next HBL.out hBq
            clear hBq
            go_wp2_with fail
            exact ⟨⟨k + 1, by omega, by go_num, hbF⟩, by simp [RowKit.intOf]; omega⟩
      · obtain rfl : k = 3 := by omega
        have hR10 : ∀ j, wr.cell? ⟨gr, j, none⟩ = (#[.slice po Lr.length co, .slice ps Mr.length cs, .int .i64 N, .slice pr Rr.length cr] : Array Value)[j]? := fun j => (hBr.cell (p := ⟨gr, j, none⟩) hlr).trans (HR9.out j)
        have hlr2 : gr < wr.heap.size := Nat.lt_of_lt_of_le hlr hBr.size
        have hcr := HCR.out.below hBr
        have hx := HX1.out.below hBr
        have hbr := below_next hb9 hBr
        clear hBr
        go_wp2_with fail
        refine de_r18 gr A Lr Mr N _ _ _ _ _ _ hR10 hlr2 hcr hx ?_
        intros
        rename_i wx hbx
        have hbF := below_next hbr hbx
        clear hbx hR10 hcr hx hbr
        go_wp2_with fail
        go_ret
        exact ⟨rfl, hbF⟩
end Go.Proofs.YteopjiedjnaeiaaGreat
namespace Go.Proofs.YteopjiedjnaeiaaGreat
open Go Go.ChangeShapes Go.WideShapes Go.ChangeAt Go.WideElems Go.RowKit Go.Lib

set_option maxRecDepth 100000 in
theorem marketDeals_lifted (os : Os) (started : os.Started) (H : Type) (enc : TypeId × Value → H) :
    ReturnsInHanded {} Tryz.checked os 3 .any (Rows.marketDealsSpec.pre6 enc Tryz.prog Tryz.f3 Rows.marketDealsRow.domain false) (Rows.marketDealsSpec.post enc Tryz.prog Tryz.f3 false true false false) := by
  refine returnsInHanded_of_change (C := Tryz.checked) own started (by kernel_rfl) Tryz.func3
    (ChangeSpec.witness6 (enc := enc) (C := Tryz.checked) false ⟨#[], #[.agg #[.slice none 0 0, .slice none 0 0, .int .u32 0, .int .u8 0], .agg #[.int .i64 0, .int .i64 0, .int .i64 0], .agg #[.slice none 0 0, .slice none 0 0, .int .i64 0, .slice none 0 0]], []⟩ 8 (by kernel_rfl) (by kernel_rfl) (by kernel_rfl) (by kernel_rfl)) ?_
  intro W base args ds gs before hval0 hW _ _
  have hval : ∀ (j : Nat) t v, Tryz.f3.params[j]? = some t → args[j]? = some v → Value.okWide Tryz.prog W .any base t v := hval0
  have hW' := hW
  obtain ⟨p, q, hA0, hV, rfl, hfz, hnd⟩ := hW
  have hA : DataW.TrodAll enc Tryz.prog W 0 (fun _ => true) true Tryz.f3.params.toList args.toList ds p := hA0
  have hA2 := hA
  obtain ⟨rfl, rfl⟩ := trodVars_none hV
  simp only [List.append_nil] at hW'
  rw [Tryz.params3] at hA2 hval
  obtain ⟨v0, v1, v2, d0, d1, d2, p0, p1, p2, rfl, rfl, rfl, h0, h1, h2⟩ := trodAll_three hA2
  obtain ⟨A0, A1, n0, n1, c0, c1, q, m, rfl, g0, g1, q0, q1, m0, m1⟩ := open_case h0 (hval 0 26 v0 rfl rfl)
  obtain ⟨x0, x1, x2, rfl, i0, i1, i2⟩ := open_three (hval 1 27 v1 rfl rfl)
  obtain ⟨ov, sv, lv, L, M, n, R, hR⟩ := open_raw h2 (hval 2 32 v2 rfl rfl)
  refine (deals_law A0 A1 n0 n1 c0 c1 q m x0 x1 x2 v2 ov sv lv L M n R W g0 g1 q0 q1 m0 m1 i0 i1 i2 hR).mono fun e W' ⟨he, hbe⟩ => ?_
  subst he
  exact ⟨_, rfl, law_post A_laidOut (by rw [Tryz.params3]; decide +kernel) rfl (by kernel_rfl) Tryz.underlying4 rfl hW' hA hbe⟩

theorem marketDeals_holds : Rows.MarketDealsSaid :=
  OpenClaim.holds_of_wide 3 Tryz.f3 rfl rfl rfl rfl rfl rfl rfl ⟨rfl, rfl, rfl, rfl, rfl⟩ rfl rfl rfl rfl rfl (by kernel_rfl) Tryz.func3 (by kernel_rfl)
    (of_decide_eq_true (by kernel_rfl)) (by unfold Func.isWrapper; first | (rw [if_pos (by decide +kernel)]; kernel_rfl) | (rw [if_neg (by decide +kernel)]; exact ⟨rfl, rfl⟩))
    (fun os started H enc _ => marketDeals_lifted os started H enc)
end Go.Proofs.YteopjiedjnaeiaaGreat
