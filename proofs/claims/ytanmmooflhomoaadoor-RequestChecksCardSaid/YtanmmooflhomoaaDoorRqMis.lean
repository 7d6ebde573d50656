/- The law RequestMissing, walked: it returns true. -/
import Derived.Test.YtanmmooflhomoaaDoorRqSan
import Derived.Test.YtanmmooflhomoaaDoorRqPut
namespace Go.Proofs.YtanmmooflhomoaaDoor
open Go Go.Proofs Go.RowKit Go.Sort Go.Lib
attribute [local go_sem] Req.cells
attribute [local go_sem ↓] req_eql_cells req_neq_cells

theorem isSet_none {A W : List Req} (h : ∀ r ∈ A, r ∈ W) : IsSet [] (A.filter fun r => !W.any (eqReq r)) :=
  ⟨List.Pairwise.nil, fun r => ⟨fun hr => (List.not_mem_nil hr).elim, fun hr => absurd (h r (mem_missing.1 hr).1) (mem_missing.1 hr).2⟩⟩
/-- A list in order comes back. -/
def RetIs (L : List Req) (w : World) (x : Ending) (w' : World) : Prop := ∃ v M, x = .returned v ∧ IsSet M L ∧ M.length ≤ L.length ∧ ReqsIn w' v M ∧ RowKit.Below w.heap.size w w'
theorem join_is {A B : List Req} (hs : ∀ r ∈ A ++ B, r.Small) (hl : A.length + B.length ≤ 1000000) (a b : Value) (w : World) (ha : ReqsIn w a A) (hb : ReqsIn w b B) :
    Calls Tryd.prog 13 #[a, b] w (RetIs (A ++ B) w) := by
  refine (join_any a b A B w ha hb hl fun r hr => (hs r hr).wf).mono ?_
  rintro x w' ⟨v, M, rfl, hM, hr, hb⟩
  exact ⟨v, M, rfl, hM, put_len hM, reqsIn_own hr, hb⟩
theorem missing_is {A B : List Req} (hs : ∀ r ∈ A, r.Small) (hsb : ∀ r ∈ B, r.Small) (hl : A.length ≤ 1000000) (hlb : B.length ≤ 1000000) (a b : Value) (w : World) (ha : ReqsIn w a A) (hb : ReqsIn w b B) :
    Calls Tryd.prog 12 #[a, b] w (RetIs (A.filter fun r => !B.any (eqReq r)) w) := by
  refine (missing_any a b A B w ha hb hl hlb (fun r hr => (hs r hr).wf) (fun r hr => (hsb r hr).wf)).mono ?_
  rintro x w' ⟨v, M, rfl, hM, hr, hb⟩
  exact ⟨v, M, rfl, hM, put_len hM, reqsIn_own hr, hb⟩
theorem IsSet.small {M L : List Req} (h : IsSet M L) (hs : ∀ r ∈ L, r.Small) : ∀ r ∈ M, r.Small := fun r hr => hs r ((h.2 r).1 hr)
theorem small_app {A B : List Req} (ha : ∀ r ∈ A, r.Small) (hb : ∀ r ∈ B, r.Small) : ∀ r ∈ A ++ B, r.Small := fun r hr => by
  rcases List.mem_append.1 hr with h | h
  · exact ha r h
  · exact hb r h
theorem small_fil {A : List Req} (p : Req → Bool) (ha : ∀ r ∈ A, r.Small) : ∀ r ∈ A.filter p, r.Small := fun r hr => ha r (List.mem_filter.1 hr).1
set_option maxHeartbeats 8000000 in
set_option maxRecDepth 100000 in
theorem missing_law (A0 A1 A2 : Option Addr) (n0 n1 n2 c0 c1 c2 : Nat) (q0 q1 q2 : Int) (w : World) (h0 : IntssIn w.heap.size A0 n0 w) (h1 : IntssIn w.heap.size A1 n1 w) (h2 : IntssIn w.heap.size A2 n2 w) (i0 : I64 q0) (i1 : I64 q1) (i2 : I64 q2) (ht : Tabs w) :
    Calls Tryd.prog 4 #[.agg #[.slice A0 n0 c0, .slice A1 n1 c1, .slice A2 n2 c2, .int .i64 q0, .int .i64 q1, .int .i64 q2]] w fun x w' => x = .returned (.bool true) ∧ RowKit.Below w.heap.size w w' := by
  have H0 := Lib.hid h0
  have H1 := Lib.hid h1
  have H2 := Lib.hid h2
  have HT := Lib.hid ht
  clear h0 h1 h2 ht
  have hb0 : RowKit.Below w.heap.size w (w.alloc (.cells #[.slice A0 n0 c0, .slice A1 n1 c1, .slice A2 n2 c2, .int .i64 q0, .int .i64 q1, .int .i64 q2] 25)) := below_alloc1 _ _
  have hc0 : ∀ j, (w.alloc (.cells #[.slice A0 n0 c0, .slice A1 n1 c1, .slice A2 n2 c2, .int .i64 q0, .int .i64 q1, .int .i64 q2] 25)).cell? ⟨w.heap.size, j, none⟩ = (#[.slice A0 n0 c0, .slice A1 n1 c1, .slice A2 n2 c2, .int .i64 q0, .int .i64 q1, .int .i64 q2] : Array Value)[j]? := fun j => Lib.cell_of_heap (heap_alloc_new w _) j
  have hl0 : w.heap.size < (w.alloc (.cells #[.slice A0 n0 c0, .slice A1 n1 c1, .slice A2 n2 c2, .int .i64 q0, .int .i64 q1, .int .i64 q2] 25)).heap.size := by simp
  go_enter Tryd.func4, Tryd.ntmps4
  go_wp2_with fail
  generalize w.alloc _ = w0 at hb0 hc0 hl0 ⊢
  refine (sanity_any _ (HT.out.below hb0)).mono ?_
  rintro _ w1 ⟨rfl, hb⟩
  have hc1 := old_keep hl0 hb hc0
  have hb1 := below_next hb0 hb
  clear hb hc0 hb0 hl0
  go_wp2_with fail
  refine (case_any A0 A1 A2 n0 n1 n2 c0 c1 c2 q0 q1 q2 w1 (H0.out.at_ hb1) (H1.out.at_ hb1) (H2.out.at_ hb1) i0 i1 i2).mono ?_
  rintro _ w2 ⟨va, vb, vd, A, B, D, rfl, hC⟩
  have ra := reqsIn_own hC.a
  have rb := hC.b
  have hb2 := below_next hb1 hC.below
  have la := hC.la
  have lb := hC.lb
  have SA := Lib.hid hC.sa
  have SB := Lib.hid hC.sb
  clear hC hc1 hb1
  obtain ⟨sa, ca, rfl, _⟩ := ra.form
  obtain ⟨sb, cb, rfl, _⟩ := rb.form
  go_wp2_with fail
  refine (missing_is SA.out SB.out (by omega) (by omega) _ _ w2 ra rb).mono ?_
  rintro _ w3 ⟨vm, M, rfl, hM, hml, rm, hb⟩
  replace ra := ra.below hb
  replace rb := rb.below hb
  have hb3 := below_next hb2 hb
  clear hb hb2
  have lm : M.length ≤ 17 := Nat.le_trans hml (Nat.le_trans (List.length_filter_le _ _) la)
  clear hml
  obtain ⟨sm, cm, rfl, _⟩ := rm.form
  have HM := Lib.hid hM
  have HR := Lib.hid rm
  have HB := Lib.hid rb
  have HA := Lib.hid ra
  clear rm rb ra hM
  go_wp2_with fail
  go_loopw [25] (fun i wr => ∃ k : Nat, k ≤ M.length ∧ i = .int .i64 k ∧ RowKit.Below w3.heap.size w3 wr) (fun i _ => M.length - (RowKit.intOf i).toNat)
  case atStart => exact ⟨0, Nat.zero_le _, rfl, Below.refl _ _⟩
  case round =>
    obtain ⟨k, hk, rfl, hbr⟩ := hrel
    by_cases hlt : k < M.length
    · obtain ⟨gm, om, cm', hv, _, hgl, hat⟩ := HR.out.at_ (by omega)
      have e1 := (Value.slice.inj hv).1
      subst e1
      have hx := List.getElem?_eq_getElem hlt
      generalize M[k] = x at hx
      have hatk := (hat k x hx).below hbr hgl
      have HX : Hid (x ∉ B) := Lib.hid (missing_not HM.out (List.mem_of_getElem? hx))
      clear hv hat hx
      have hbx0 : ReqBox (wr.alloc (.cells x.cells 34)) wr.heap.size x := ReqBox.new wr x
      have hbr0 : RowKit.Below w3.heap.size w3 (wr.alloc (.cells x.cells 34)) := hbr.alloc hbr.size _
      go_wp2_with ((with_reducible refine wpList_load_mid (op := ⟨some 28, _, _, _, _, _⟩) ?_ 34 (.tmp 27) ?_ gm (om + k * 9) ?_ x.cells.toList _ ?_ Tryd.underlying34 ?_ ?_ ?_); rfl; rfl; rfl; exact hatk; rfl; kernel_rfl)
      obtain ⟨wo, rfl⟩ : ∃ wo, wo = wr := ⟨_, rfl⟩
      go_loopw [31] (fun i wr => ∃ k' : Nat, k' ≤ B.length ∧ i = .int .i64 k' ∧ ReqBox wr wo.heap.size x ∧ RowKit.Below w3.heap.size w3 wr) (fun i _ => B.length - (RowKit.intOf i).toNat)
      case atStart => exact ⟨0, Nat.zero_le _, rfl, hbx0, hbr0⟩
      case round =>
        clear hbx0 hbr0 hatk
        obtain ⟨k', hk', rfl, hbx, hb4⟩ := hrel
        by_cases hlt' : k' < B.length
        · obtain ⟨gb, ob, cb', hv, _, hgl', hat⟩ := HB.out.at_ (by omega)
          have e1 := (Value.slice.inj hv).1
          subst e1
          have hy := List.getElem?_eq_getElem hlt'
          generalize B[k'] = y at hy
          have haty := (hat k' y hy).below hb4 hgl'
          have hne : y ≠ x := fun e => HX.out (e ▸ List.mem_of_getElem? hy)
          have hq : eqReq ⟨y.server, y.seq, y.cancel, y.student, y.term, y.code, y.give, y.priority, y.day⟩ ⟨x.server, x.seq, x.cancel, x.student, x.term, x.code, x.give, x.priority, x.day⟩ = false := by
            rw [Bool.eq_false_iff]; intro h; exact hne ((eqReq_iff y x).1 h)
          clear hv hat hy hne
          have hbx1 : ReqBox (wr.alloc (.cells y.cells 34)) wo.heap.size x := hbx.below (below_alloc1 _ _)
          have cx : ∀ j, (wr.alloc (.cells y.cells 34)).cell? ⟨wo.heap.size, j, none⟩ = (Req.cells x)[j]? := hbx1.cell
          have cy : ∀ j, (wr.alloc (.cells y.cells 34)).cell? ⟨wr.heap.size, j, none⟩ = (Req.cells y)[j]? := (ReqBox.new wr y).cell
          have hb5 : RowKit.Below w3.heap.size w3 (wr.alloc (.cells y.cells 34)) := hb4.alloc hb4.size _
          simp only [Req.cells] at cx cy
          go_wp2_with ((with_reducible refine wpList_load_mid (op := ⟨some 34, _, _, _, _, _⟩) ?_ 34 (.tmp 33) ?_ gb (ob + k' * 9) ?_ y.cells.toList _ ?_ Tryd.underlying34 ?_ ?_ ?_); rfl; rfl; rfl; exact haty; rfl; kernel_rfl)
          go_roundw
          case rel => exact ⟨k' + 1, by omega, by go_num, hbx1, hb5⟩
          case measure => simp [RowKit.intOf]; omega
        · obtain rfl : k' = B.length := by omega
          go_wp2_with fail
          go_roundw
          case rel => exact ⟨k + 1, by omega, by go_num, hb4⟩
          case measure => simp [RowKit.intOf]; omega
    · obtain rfl : k = M.length := by omega
      have hb4 := below_next hb3 hbr
      have ra := HA.out.below hbr
      have rb := HB.out.below hbr
      have rm := HR.out.below hbr
      clear hbr hb3
      go_wp2_with fail
      refine (join_is (small_app SA.out SB.out) (by omega) _ _ _ ra rb).mono ?_
      rintro _ w5 ⟨vW, W, rfl, hW, hwl, rw5, hb⟩
      have HW := Lib.hid hW
      have lw : W.length ≤ 33 := by simp at hwl; omega
      obtain ⟨sw, cw, rfl, _⟩ := rw5.form
      have ra5 := ra.below hb
      have rb5 := rb.below hb
      have rm5 := rm.below hb
      have hb5 := below_next hb4 hb
      clear hW hwl hb hb4 ra rb rm
      go_wp2_with fail
      refine (join_is (small_app SB.out (HM.out.small (small_fil _ SA.out))) (by omega) _ _ _ rb5 rm5).mono ?_
      rintro _ w6 ⟨vJ, J, rfl, hJ, hjl, rj, hb⟩
      have HJW := Lib.hid (missing_join HM.out HW.out hJ)
      have hjl' : J.length ≤ 1000000 := by simp at hjl; omega
      have rw6 := rw5.below hb
      have ra6 := ra5.below hb
      have rb6 := rb5.below hb
      have hb6 := below_next hb5 hb
      clear hJ hjl hb hb5 ra5 rb5 rm5 rw5
      obtain ⟨sj, cj, rfl, _⟩ := rj.form
      go_wp2_with fail
      refine (same_at HJW.out hjl' _ _ _ rj rw6).mono ?_
      rintro _ w7 ⟨rfl, hb⟩
      have rw7 := rw6.below hb
      have ra7 := ra6.below hb
      have rb7 := rb6.below hb
      have hb7 := below_next hb6 hb
      clear hb hb6 ra6 rb6 rw6 rj
      go_wp2_with fail
      refine (missing_at (isSet_none fun r hr => (HW.out.2 r).2 (List.mem_append_left _ hr)) SA.out (HW.out.small (small_app SA.out SB.out)) (by omega) (by omega) _ _ _ ra7 rw7).mono ?_
      rintro _ w8 ⟨vN, rfl, rn, hb⟩
      have ra8 := ra7.below hb
      have rb8 := rb7.below hb
      have hb8 := below_next hb7 hb
      clear hb hb7 ra7 rb7 rw7
      obtain ⟨sn, cn, rfl, _⟩ := rn.form
      go_wp2_with fail
      refine (join_is (A := B) (B := []) (by simpa using SB.out) (by simp; omega) _ _ _ rb8 (.inl ⟨rfl, rfl⟩)).mono ?_
      rintro _ w9 ⟨vT, T, rfl, hT, htl, rt, hb⟩
      have ra9 := ra8.below hb
      have hb9 := below_next hb8 hb
      have ltt : T.length ≤ 16 := by simp at htl; omega
      have HL := missing_len HM.out HW.out (by rwa [List.append_nil] at hT)
      have he : ((W.length : Int) == (T.length : Int) + (M.length : Int)) = true := by simp; omega
      clear hb hb8 ra8 rb8 hT htl HL
      obtain ⟨st, ct, rfl, _⟩ := rt.form
      go_wp2_with fail
      refine (missing_at (isSet_none fun r hr => hr) SA.out SA.out (by omega) (by omega) _ _ _ ra9 ra9).mono ?_
      rintro _ w10 ⟨vN2, rfl, rn2, hb⟩
      have hb10 := below_next hb9 hb
      obtain ⟨sn2, cn2, rfl, _⟩ := rn2.form
      clear hb hb9
      go_wp2_with fail
      go_ret
      exact ⟨rfl, hb10⟩
end Go.Proofs.YtanmmooflhomoaaDoor
