/- The law RequestChecks, walked: it returns true. -/
import Derived.Test.YtanmmooflhomoaaDoorRqChP
import Derived.Test.YtanmmooflhomoaaDoorRqMis
import Derived.Test.YtanmmooflhomoaaDoorRqAcP
import Derived.Test.YtanmmooflhomoaaDoorRqCut
namespace Go.Proofs.YtanmmooflhomoaaDoor
open Go Go.Proofs Go.RowKit Go.Sort Go.Lib
attribute [local go_sem] Req.cells

theorem RawIn.below {w w' : World} {v : Value} {L : List Req} (h : RawIn w v L) (hb : RowKit.Below w.heap.size w w') : RawIn w' v L := ⟨h.1, fun h0 => (h.2 h0).below hb⟩
set_option maxHeartbeats 16000000 in
set_option maxRecDepth 100000 in
theorem checks_law (A0 A1 A2 : Option Addr) (n0 n1 n2 c0 c1 c2 : Nat) (q0 q1 q2 : Int) (vr : Value) (Lr : List Req) (w : World) (h0 : IntssIn w.heap.size A0 n0 w) (h1 : IntssIn w.heap.size A1 n1 w) (h2 : IntssIn w.heap.size A2 n2 w) (i0 : I64 q0) (i1 : I64 q1) (i2 : I64 q2) (hr : RawIn w vr Lr) (hrw : ∀ r ∈ Lr, r.wf) (ht : Tabs w) :
    Calls Tryd.prog 5 #[.agg #[.slice A0 n0 c0, .slice A1 n1 c1, .slice A2 n2 c2, .int .i64 q0, .int .i64 q1, .int .i64 q2], vr] w fun x w' => x = .returned (.bool true) ∧ RowKit.Below w.heap.size w w' := by
  have H0 := Lib.hid h0
  have H1 := Lib.hid h1
  have H2 := Lib.hid h2
  have HT := Lib.hid ht
  have HRW := Lib.hid hrw
  have HRR := Lib.hid hr
  clear h0 h1 h2 ht hrw hr
  have hb0 : RowKit.Below w.heap.size w (w.alloc (.cells #[.slice A0 n0 c0, .slice A1 n1 c1, .slice A2 n2 c2, .int .i64 q0, .int .i64 q1, .int .i64 q2] 25)) := below_alloc1 _ _
  have hc0 : ∀ j, (w.alloc (.cells #[.slice A0 n0 c0, .slice A1 n1 c1, .slice A2 n2 c2, .int .i64 q0, .int .i64 q1, .int .i64 q2] 25)).cell? ⟨w.heap.size, j, none⟩ = (#[.slice A0 n0 c0, .slice A1 n1 c1, .slice A2 n2 c2, .int .i64 q0, .int .i64 q1, .int .i64 q2] : Array Value)[j]? := fun j => Lib.cell_of_heap (heap_alloc_new w _) j
  have hl0 : w.heap.size < (w.alloc (.cells #[.slice A0 n0 c0, .slice A1 n1 c1, .slice A2 n2 c2, .int .i64 q0, .int .i64 q1, .int .i64 q2] 25)).heap.size := by simp
  go_enter Tryd.func5, Tryd.ntmps5
  go_wp2_with fail
  generalize w.alloc _ = w0 at hb0 hc0 hl0 ⊢
  refine (sanity_any _ (HT.out.below hb0)).mono ?_
  rintro _ w1 ⟨rfl, hb⟩
  have hc1 := old_keep hl0 hb hc0
  have hb1 := below_next hb0 hb
  clear hb hc0 hb0 hl0
  go_wp2_with fail
  refine (case_any A0 A1 A2 n0 n1 n2 c0 c1 c2 q0 q1 q2 w1 (H0.out.at_ hb1) (H1.out.at_ hb1) (H2.out.at_ hb1) i0 i1 i2).mono ?_
  rintro _ w2 ⟨va, vb, vd, A, B, D, rfl, hC⟩
  have ra := reqsIn_own hC.a
  have rb := hC.b
  have hb2 := below_next hb1 hC.below
  have la := hC.la
  have lb := hC.lb
  have SA := Lib.hid hC.sa
  have SB := Lib.hid hC.sb
  have HA2 := Lib.hid (fun q (hq : va.ownBlock = some q) => (hC.a.lt q hq).2)
  clear hC hc1 hb1
  have rr := HRR.out.below hb2
  obtain ⟨sa, ca, hva, _⟩ := ra.form
  subst hva
  go_wp2_with (first
    | (at_builtin; refine wpList_append_reqs rfl (.tmp 21) (.tmp 22) rfl w2.heap.size _ _ [] A rfl rfl (own_empty_at w2 w2.heap.size w2.heap.size rfl (Nat.le_refl _)) (ra.below (below_alloc1 _ _)) (by simp; omega) (by simp) ?_; intro v3 w3 hown3 hg3; have hB3 : RowKit.Below w2.heap.size w2 w3 := (below_alloc1 w2 _).grown hg3 (by simp) (by intro q hq; injection hq with hq; subst hq; simp))
    | (at_builtin; refine wpList_append_reqs rfl (.tmp 23) (.tmp 24) rfl w2.heap.size _ _ ([] ++ A) B rfl rfl hown3 (rb.below hB3) (by simp; omega) hB3.size ?_; intro v4 w4 hown4 hg4; have hB4 : RowKit.Below w2.heap.size w2 w4 := hB3.grown hg4 hB3.size (fun q hq => (hown3.lt q hq).1)))
  rw [List.nil_append] at hown4
  replace ra := ra.below hB4
  replace rr := rr.below hB4
  clear hown3 hg3 hB3 hg4 rb
  refine (cut_any vr Lr _ rr HRW.out).mono ?_
  rintro _ w5 ⟨v27, C, rfl, lc, sc, rc, hb⟩
  have SC := Lib.hid sc
  have hown5 := rows_below hown4 hb
  have hB5 := below_next hB4 hb
  replace ra := ra.below hb
  clear hb hB4 hown4 sc rr
  have lab : (A ++ B).length ≤ 33 := by simp; omega
  obtain ⟨L, hL⟩ : ∃ L, L = A ++ B ++ C := ⟨_, rfl⟩
  have HLL := Lib.hid hL
  have SAll : Hid (∀ r ∈ L, r.Small) := Lib.hid (by rw [hL]; exact small_app (small_app SA.out SB.out) SC.out)
  have lall : L.length ≤ 39 := by rw [hL]; simp at lab ⊢; omega
  clear hL
  go_wp2_with (at_builtin; refine wpList_append_reqs rfl (.tmp 25) (.tmp 27) rfl w2.heap.size _ _ (A ++ B) C rfl rfl hown5 rc (by omega) hB5.size ?_; intro v6 w6 hown6 hg6; have hB6 : RowKit.Below w2.heap.size w2 w6 := hB5.grown hg6 hB5.size (fun q hq => (hown5.lt q hq).1); rw [← HLL.out] at hown6; obtain ⟨s9, c9, rfl⟩ := own_nil hown6)
  have rall := reqsIn_own hown6
  have ra6 : ReqsIn w6 (.slice sa A.length ca) A := ra.grown hg6 (by
    cases e : (Value.slice sa A.length ca).ownBlock with
    | none => exact .inl rfl
    | some q =>
      right
      intro h
      have h1 := (hown5.lt q h.symm).1
      have h2 := HA2.out q e
      omega)
  have hb6 := below_next hb2 hB6
  have HRL := Lib.hid rall
  have HRA := Lib.hid ra6
  have HW := Lib.hid hb6
  clear hown6 hg6 hB6 hown5 hB5 ra rc hb2 hb6 ra6 rall
  go_loopw [31] (fun i wr => ∃ k : Nat, k ≤ L.length ∧ i = .int .i64 k ∧ RowKit.Below w6.heap.size w6 wr) (fun i _ => L.length - (RowKit.intOf i).toNat)
  case atStart => exact ⟨0, Nat.zero_le _, rfl, Below.refl _ _⟩
  case round =>
    obtain ⟨k, hk, rfl, hbr⟩ := hrel
    by_cases hlk : k < L.length
    · obtain ⟨gl, ol, cl, hv, _, hgl, hat⟩ := HRL.out.at_ (by omega)
      have e1 := (Value.slice.inj hv).1
      subst e1
      have HAT := Lib.hid hat
      have hx := List.getElem?_eq_getElem hlk
      have hxs := SAll.out _ (List.getElem_mem hlk)
      generalize L[k] = x at hx hxs
      have hatx := (hat k x hx).below hbr hgl
      have hbx0 : ReqBox (wr.alloc (.cells (Req.cells x) 34)) wr.heap.size x := ReqBox.new wr _
      have hb0 : RowKit.Below w6.heap.size w6 (wr.alloc (.cells (Req.cells x) 34)) := hbr.alloc hbr.size _
      clear hv hat hx
      go_wp2_with ((with_reducible refine wpList_load_mid (op := ⟨some 34, _, _, _, _, _⟩) ?_ 34 (.tmp 33) ?_ gl (ol + k * 9) ?_ (Req.cells x).toList _ ?_ Tryd.underlying34 ?_ ?_ ?_); rfl; rfl; rfl; exact hatx; rfl; kernel_rfl)
      refine chk_r7 wr.heap.size x _ _ hbx0 hxs ?_
      intro u35 u36 u37 u38 w7 hb
      have hbx7 := hbx0.below hb
      have hb7 := below_next hb0 hb
      clear hb hbx0 hb0 hatx
      go_wp2_with fail
      obtain ⟨wp, rfl⟩ : ∃ wp, wp = wr := ⟨_, rfl⟩
      go_loopw [42] (fun i wr => ∃ j : Nat, j ≤ L.length ∧ i = .int .i64 j ∧ ReqBox wr wp.heap.size x ∧ RowKit.Below w6.heap.size w6 wr) (fun i _ => L.length - (RowKit.intOf i).toNat)
      case atStart => exact ⟨0, Nat.zero_le _, rfl, hbx7, hb7⟩
      case round =>
        clear hbx7 hb7
        obtain ⟨j, hj, rfl, hbx8, hb8⟩ := hrel
        by_cases hlj : j < L.length
        · have hy := List.getElem?_eq_getElem hlj
          generalize L[j] = y at hy
          have haty := (HAT.out j y hy).below hb8 hgl
          have hbx9 : ReqBox (wr.alloc (.cells (Req.cells y) 34)) wp.heap.size x := hbx8.below (below_alloc1 _ _)
          have hby9 : ReqBox (wr.alloc (.cells (Req.cells y) 34)) wr.heap.size y := ReqBox.new wr _
          have hb9 : RowKit.Below w6.heap.size w6 (wr.alloc (.cells (Req.cells y) 34)) := hb8.alloc hb8.size _
          clear hy hbx8 hb8
          go_wp2_with ((with_reducible refine wpList_load_mid (op := ⟨some 45, _, _, _, _, _⟩) ?_ 34 (.tmp 44) ?_ gl (ol + j * 9) ?_ (Req.cells y).toList _ ?_ Tryd.underlying34 ?_ ?_ ?_); rfl; rfl; rfl; exact haty; rfl; kernel_rfl)
          refine chk_r12 wp.heap.size wr.heap.size x y _ _ hbx9 hby9 ?_
          intro u46 u47 u48 u49 u50 u51 w8 hb
          have hbx10 := hbx9.below hb
          have hb10 := below_next hb9 hb
          clear hb hbx9 hby9 hb9 haty
          go_wp2_with fail
          go_roundw
          case rel => exact ⟨j + 1, by omega, by go_num, hbx10, hb10⟩
          case measure => simp [RowKit.intOf]; omega
        · obtain rfl : j = L.length := by omega
          go_wp2_with fail
          go_roundw
          case rel => exact ⟨k + 1, by omega, by go_num, hb8⟩
          case measure => simp [RowKit.intOf]; omega
    · obtain rfl : k = L.length := by omega
      have rl := HRL.out.below hbr
      have ra := HRA.out.below hbr
      have hb2 := below_next HW.out hbr
      clear HRL HRA HW hbr hk hlk
      go_wp2_with fail
      refine (act_is L _ _ rl (by omega) SAll.out).mono ?_
      rintro _ x1 ⟨v58, rfl, hact, hb⟩
      obtain ⟨M, hM, hml, r58⟩ := hact
      have HM := Lib.hid hM
      have lM : (actR M).length ≤ 39 := by omega
      replace rl := rl.below hb
      replace ra := ra.below hb
      replace hb2 := below_next hb2 hb
      clear hb hM hml
      go_wp2_with fail
      refine (refActive_any _ L _ rl (by omega) SAll.out).mono ?_
      rintro _ x2 ⟨v60, M2, rfl, hM2, r60, hb⟩
      obtain rfl : M2 = M := hM2.same HM.out
      replace r58 := r58.below hb
      replace ra := ra.below hb
      replace hb2 := below_next hb2 hb
      clear hb hM2 rl
      go_wp2_with fail
      refine (same_at rfl (by omega) _ _ _ r58 r60).mono ?_
      rintro _ x3 ⟨rfl, hb⟩
      replace ra := ra.below hb
      replace hb2 := below_next hb2 hb
      clear hb r58 r60
      go_wp2_with fail
      refine (act_is A _ _ ra (by omega) SA.out).mono ?_
      rintro _ x4 ⟨v65, rfl, hact, hb⟩
      obtain ⟨N, hN, hnl, r65⟩ := hact
      have HN := Lib.hid hN
      have lN : (actR N).length ≤ 17 := by omega
      replace ra := ra.below hb
      replace hb2 := below_next hb2 hb
      clear hb hN hnl
      go_wp2_with fail
      refine (refActive_any _ A _ ra (by omega) SA.out).mono ?_
      rintro _ x5 ⟨v67, N2, rfl, hN2, r67, hb⟩
      obtain rfl : N2 = N := hN2.same HN.out
      replace r65 := r65.below hb
      replace hb2 := below_next hb2 hb
      clear hb hN2 ra
      go_wp2_with fail
      refine (same_at rfl (by omega) _ _ _ r65 r67).mono ?_
      rintro _ x6 ⟨rfl, hb⟩
      replace hb2 := below_next hb2 hb
      go_wp2_with fail
      go_ret
      exact ⟨rfl, hb2⟩
end Go.Proofs.YtanmmooflhomoaaDoor
