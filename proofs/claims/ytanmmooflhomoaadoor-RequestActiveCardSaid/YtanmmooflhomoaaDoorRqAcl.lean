/- The law RequestActive, walked: it returns true. -/
import Derived.Test.YtanmmooflhomoaaDoorRqAcP
import Derived.Test.YtanmmooflhomoaaDoorRqMis
import Derived.Deep.DeepCutAuto
namespace Go.Proofs.YtanmmooflhomoaaDoor
open Go Go.Proofs Go.RowKit Go.Maps Go.Sort Go.Lib
attribute [local go_sem] Req.cells

theorem act_mem {M : List Req} {x : Req} (h : x ∈ actR M) : x ∈ M ∧ numR x ∉ canK M ∧ chkR x = 0 ∧ x.cancel = false := by
  obtain ⟨h1, h2, h3⟩ := keepR_mem M (canK M) x h
  refine ⟨h1, h2, h3, ?_⟩
  cases hc : x.cancel with
  | false => rfl
  | true => exact absurd ((canK_mem M _).2 ⟨x, h1, hc, rfl⟩) h2
theorem act_first {M : List Req} {k : Nat} {x : Req} (h : (actR M)[k]? = some x) : ¬ ∃ y ∈ (actR M).take k, numR y = numR x := by
  rintro ⟨y, hy, e⟩
  obtain ⟨hk, rfl⟩ := List.getElem?_eq_some_iff.1 h
  obtain ⟨j, hj, rfl⟩ := List.mem_iff_getElem.1 hy
  rw [List.getElem_take] at e
  have hjk : j < k := by simp at hj; omega
  exact List.pairwise_iff_getElem.1 (keepR_nums M (canK M)) j k (by have : (keepR (canK M) M).length = (actR M).length := rfl; omega) hk hjk e
theorem seen_snoc {M : List Req} {k : Nat} {x : Req} {K : List (Int × Int)} (h : (actR M)[k]? = some x) (hK : ∀ q, q ∈ K ↔ ∃ y ∈ (actR M).take k, numR y = q) : ∀ q, q ∈ (x.server, x.seq) :: K ↔ ∃ y ∈ (actR M).take (k + 1), numR y = q := by
  intro q
  rw [List.mem_cons, hK q, List.take_add_one, h]
  simp only [Option.toList_some, List.mem_append, List.mem_singleton]
  constructor
  · rintro (rfl | ⟨y, hy, e⟩)
    · exact ⟨x, .inr rfl, rfl⟩
    · exact ⟨y, .inl hy, e⟩
  · rintro ⟨y, hy | rfl, e⟩
    · exact .inr ⟨y, hy, e⟩
    · exact .inl e.symm
theorem act_no {M L : List Req} (hM : IsSet M L) {r : Req} (hc : ∃ x ∈ L, x.cancel = true ∧ numR x = numR r) : ¬ ∃ y ∈ actR M, numR y = numR r := by
  rintro ⟨y, hy, e⟩
  obtain ⟨x, hx, h1, h2⟩ := hc
  exact (act_mem hy).2.1 ((canK_mem M _).2 ⟨x, (hM.2 x).2 hx, h1, h2.trans e.symm⟩)
theorem act_yes {M L : List Req} (hM : IsSet M L) {r : Req} (hr : r ∈ L) (hc : ¬ ∃ x ∈ L, x.cancel = true ∧ numR x = numR r) (hk : chkR r = 0) : ∃ y ∈ actR M, numR y = numR r :=
  keepR_has M (canK M) r ((hM.2 r).2 hr) hk fun h => by
    obtain ⟨x, hx, h1, h2⟩ := (canK_mem M _).1 h
    exact hc ⟨x, (hM.2 x).1 hx, h1, h2⟩
theorem can_snoc {L : List Req} {j : Nat} {y : Req} {q : Int × Int} {c : Bool} (hy : L[j]? = some y) (h : c = true ↔ ∃ x ∈ L.take j, x.cancel = true ∧ numR x = q) : (c || (y.cancel && decide (numR y = q))) = true ↔ ∃ x ∈ L.take (j + 1), x.cancel = true ∧ numR x = q := by
  rw [List.take_add_one, hy, Bool.or_eq_true, h, Bool.and_eq_true, decide_eq_true_eq]
  simp only [Option.toList_some, List.mem_append, List.mem_singleton]
  constructor
  · rintro (⟨x, hx, h1⟩ | h1)
    · exact ⟨x, .inl hx, h1⟩
    · exact ⟨y, .inr rfl, h1⟩
  · rintro ⟨x, hx | rfl, h1⟩
    · exact .inl ⟨x, hx, h1⟩
    · exact .inr h1
theorem small_one {g : Req} (h : g.Small) : ∀ r ∈ [g], r.Small := fun r hr => by obtain rfl := List.mem_singleton.1 hr; exact h
theorem gone_small {r : Req} (h : r.Small) : (goneOf r).Small := small_mk ⟨h.ok.server, h.ok.seq, by unfold I64; omega, by unfold I64; omega, by unfold I64; omega, by unfold I64; omega⟩ (by decide) (by decide)
set_option maxHeartbeats 8000000 in
set_option maxRecDepth 100000 in
theorem active_law (A0 A1 A2 : Option Addr) (n0 n1 n2 c0 c1 c2 : Nat) (q0 q1 q2 : Int) (w : World) (h0 : IntssIn w.heap.size A0 n0 w) (h1 : IntssIn w.heap.size A1 n1 w) (h2 : IntssIn w.heap.size A2 n2 w) (i0 : I64 q0) (i1 : I64 q1) (i2 : I64 q2) (ht : Tabs w) :
    Calls Tryd.prog 3 #[.agg #[.slice A0 n0 c0, .slice A1 n1 c1, .slice A2 n2 c2, .int .i64 q0, .int .i64 q1, .int .i64 q2]] w fun x w' => x = .returned (.bool true) ∧ RowKit.Below w.heap.size w w' := by
  have H0 := Lib.hid h0
  have H1 := Lib.hid h1
  have H2 := Lib.hid h2
  have HT := Lib.hid ht
  clear h0 h1 h2 ht
  have hb0 : RowKit.Below w.heap.size w (w.alloc (.cells #[.slice A0 n0 c0, .slice A1 n1 c1, .slice A2 n2 c2, .int .i64 q0, .int .i64 q1, .int .i64 q2] 25)) := below_alloc1 _ _
  have hc0 : ∀ j, (w.alloc (.cells #[.slice A0 n0 c0, .slice A1 n1 c1, .slice A2 n2 c2, .int .i64 q0, .int .i64 q1, .int .i64 q2] 25)).cell? ⟨w.heap.size, j, none⟩ = (#[.slice A0 n0 c0, .slice A1 n1 c1, .slice A2 n2 c2, .int .i64 q0, .int .i64 q1, .int .i64 q2] : Array Value)[j]? := fun j => Lib.cell_of_heap (heap_alloc_new w _) j
  have hl0 : w.heap.size < (w.alloc (.cells #[.slice A0 n0 c0, .slice A1 n1 c1, .slice A2 n2 c2, .int .i64 q0, .int .i64 q1, .int .i64 q2] 25)).heap.size := by simp
  have hmm := @run_makeMap Tryd.prog
  go_enter Tryd.func3, Tryd.ntmps3
  go_wp2_with fail
  generalize w.alloc _ = w0 at hb0 hc0 hl0 ⊢
  refine (sanity_any _ (HT.out.below hb0)).mono ?_
  rintro _ w1 ⟨rfl, hb⟩
  have hc1 := old_keep hl0 hb hc0
  have hb1 := below_next hb0 hb
  clear hb hc0 hb0 hl0
  go_wp2_with fail
  refine (case_any A0 A1 A2 n0 n1 n2 c0 c1 c2 q0 q1 q2 w1 (H0.out.at_ hb1) (H1.out.at_ hb1) (H2.out.at_ hb1) i0 i1 i2).mono ?_
  rintro _ w2 ⟨va, vb, vd, A, B, D, rfl, hC⟩
  have ra := reqsIn_own hC.a
  have rb := hC.b
  have hb2 := below_next hb1 hC.below
  have la := hC.la
  have lb := hC.lb
  have SAB := Lib.hid (small_app hC.sa hC.sb)
  clear hC hc1 hb1
  go_wp2_with (first
    | (at_builtin; refine wpList_append_reqs rfl (.tmp 30) (.tmp 31) rfl w2.heap.size _ _ [] A rfl rfl (own_empty_at w2 w2.heap.size w2.heap.size rfl (Nat.le_refl _)) (ra.below (below_alloc1 _ _)) (by simp; omega) (by simp) ?_; intro v3 w3 hown3 hg3; have hB3 : RowKit.Below w2.heap.size w2 w3 := (below_alloc1 w2 _).grown hg3 (by simp) (by intro q hq; injection hq with hq; subst hq; simp))
    | (at_builtin; refine wpList_append_reqs rfl (.tmp 32) (.tmp 33) rfl w2.heap.size _ _ ([] ++ A) B rfl rfl hown3 (rb.below hB3) (by simp; omega) hB3.size ?_; intro v4 w4 hown4 hg4; have hB4 : RowKit.Below w2.heap.size w2 w4 := hB3.grown hg4 hB3.size (fun q hq => (hown3.lt q hq).1)))
  rw [List.nil_append] at hown4
  have rall := reqsIn_own hown4
  have ra4 := ra.below hB4
  have rb4 := rb.below hB4
  have hb4 := below_next hb2 hB4
  have lall : (A ++ B).length ≤ 33 := by simp; omega
  clear hown4 hg4 hB4 hown3 hg3 hB3 ra rb hb2
  refine (act_is (A ++ B) _ _ rall (by omega) SAB.out).mono ?_
  rintro _ w5 ⟨v8, rfl, hact, hb⟩
  have rall5 := rall.below hb
  have ra5 := ra4.below hb
  have rb5 := rb4.below hb
  have hb5 := below_next hb4 hb
  obtain ⟨M, hM, hml, ract⟩ := hact
  have HM := Lib.hid hM
  clear hb hb4 rall ra4 rb4 hM
  have SBA : Hid (∀ r ∈ B ++ A, r.Small) := Lib.hid fun r hr => SAB.out r (by rw [List.mem_append] at hr ⊢; exact hr.symm)
  have lact : (actR M).length ≤ 33 := Nat.le_trans hml lall
  clear hml
  go_wp2_with (first
    | (at_builtin; refine wpList_append_reqs rfl (.tmp 38) (.tmp 39) rfl w5.heap.size _ _ [] B rfl rfl (own_empty_at w5 w5.heap.size w5.heap.size rfl (Nat.le_refl _)) (rb5.below (below_alloc1 _ _)) (by simp; omega) (by simp) ?_; intro v6 w6 hown6 hg6; have hB6 : RowKit.Below w5.heap.size w5 w6 := (below_alloc1 w5 _).grown hg6 (by simp) (by intro q hq; injection hq with hq; subst hq; simp))
    | (at_builtin; refine wpList_append_reqs rfl (.tmp 40) (.tmp 41) rfl w5.heap.size _ _ ([] ++ B) A rfl rfl hown6 (ra5.below hB6) (by simp; omega) hB6.size ?_; intro v7 w7 hown7 hg7; have hB7 : RowKit.Below w5.heap.size w5 w7 := hB6.grown hg7 hB6.size (fun q hq => (hown6.lt q hq).1)))
  rw [List.nil_append] at hown7
  refine (act_is (B ++ A) _ _ (reqsIn_own hown7) (by simp; omega) SBA.out).mono ?_
  rintro _ w8 ⟨v43, rfl, hact, hb⟩
  obtain ⟨M2, hM2, _, ract2⟩ := hact
  obtain rfl : M2 = M := hM2.eq HM.out fun r => by rw [List.mem_append, List.mem_append]; exact Or.comm
  have hB8 := below_next hB7 hb
  have ract8 := ract.below hB8
  have rall8 := rall5.below hB8
  have hb8 := below_next hb5 hB8
  clear hown7 hg7 hB7 hown6 hg6 hB6 hb hB8 hb5 ra5 rb5 hM2 rall5 ract
  go_wp2_with fail
  refine (same_at rfl (by omega) _ _ _ ract8 ract2).mono ?_
  rintro _ w9 ⟨rfl, hb⟩
  have ract9 := ract8.below hb
  have rall9 := rall8.below hb
  have hb9 := below_next hb8 hb
  clear hb hb8 ract8 ract2 rall8
  obtain ⟨sA, cA, rfl, _⟩ := ract9.form
  obtain ⟨sL, cL, rfl, _⟩ := rall9.form
  have HX : Hid (actR M2 = actR M2) := Lib.hid rfl
  have hXS : ∀ x ∈ actR M2, x.Small := fun x hx => SAB.out x ((HM.out.2 x).1 (act_mem hx).1)
  have HXS := Lib.hid hXS
  clear hXS
  generalize hXe : actR M2 = X at HX ract9 lact HXS
  have HXe := Lib.hid hXe
  have HR := Lib.hid ract9
  have HL := Lib.hid rall9
  have HB9 := Lib.hid hb9
  clear hXe HX ract9 rall9 hb9
  generalize hLL : A ++ B = L at SAB HM lall HL
  clear hLL SBA la lb
  have hmap0 : (w9.alloc (.map #[] 0)).ownsMap Tryd.prog 35 (plainElem Tryd.prog 4) w9.heap.size 0 (DataW.map [] : DataW Unit) := World.ownsMap_made w9 _ _ _
  have hbm0 : RowKit.Below w9.heap.size w9 (w9.alloc (.map #[] 0)) := below_alloc1 _ _
  go_wp2_with fail
  go_loopw [49] (fun i wr => ∃ (k : Nat) (D : DataW Unit) (K : List (Int × Int)), k ≤ X.length ∧ i = .int .i64 k ∧ wr.ownsMap Tryd.prog 35 (plainElem Tryd.prog 4) w9.heap.size k D ∧ Hid (NumsAre D K) ∧ Hid (∀ q, q ∈ K ↔ ∃ y ∈ X.take k, numR y = q) ∧ RowKit.Below w9.heap.size w9 wr ∧ w9.heap.size < wr.heap.size) (fun i _ => X.length - (RowKit.intOf i).toNat)
  case atStart => exact ⟨0, .map [], [], Nat.zero_le _, rfl, hmap0, Lib.hid (fun s q _ _ => by simp [DataW.atKey]), Lib.hid (by simp), hbm0, by simp⟩
  case round =>
    clear hmap0 hbm0
    obtain ⟨k, D, K, hk, rfl, hown, HD, HK, hbr, hlmb⟩ := hrel
    have hbs := hbr.size
    by_cases hlt : k < X.length
    · obtain ⟨ga, oa, ca', hv, _, hgl, hat⟩ := HR.out.at_ (by omega)
      have e1 := (Value.slice.inj hv).1
      subst e1
      have hx := List.getElem?_eq_getElem hlt
      have hxs := HXS.out _ (List.getElem_mem hlt)
      generalize X[k] = x at hx hxs
      have hatk := (hat k x hx).below hbr hgl
      obtain ⟨hxM, hxc, hxk, hxf⟩ := act_mem (M := M2) (x := x) (by rw [HXe.out]; exact List.mem_of_getElem? hx)
      have hnew : ¬ ∃ y ∈ X.take k, numR y = numR x := by have := act_first (M := M2) (k := k) (x := x) (by rw [HXe.out]; exact hx); rw [HXe.out] at this; exact this
      have HS : Hid (∀ q, q ∈ (x.server, x.seq) :: K ↔ ∃ y ∈ X.take (k + 1), numR y = q) := Lib.hid (by have := seen_snoc (M := M2) (k := k) (x := x) (K := K) (by rw [HXe.out]; exact hx) (by rw [HXe.out]; exact HK.out); rw [HXe.out] at this; exact this)
      have hno : (x.server, x.seq) ∉ K := fun h => hnew ((HK.out _).1 h)
      have HXM := Lib.hid hxM
      have HXK : Hid (x ∈ X) := Lib.hid (List.mem_of_getElem? hx)
      obtain ⟨x0, x1, x2, x3, x4, x5, x6, x7, x8⟩ := x
      obtain rfl : x2 = false := hxf
      obtain ⟨hs, hq⟩ := small_num hxs
      simp only at hs hq hno HS
      have hD0 := HD.out x0 x1 hs hq
      rw [decide_eq_false hno] at hD0
      have hDput := HD.out.put hown.isMap hs hq
      have HDP := Lib.hid hDput
      have hn63 : k < maxLen := by unfold maxLen; omega
      clear hDput hno hv hat hx hnew
      have hownA := (hown.alloc (.cells (Req.cells ⟨x0, x1, false, x3, x4, x5, x6, x7, x8⟩) 34)).alloc (.cells #[.int .i64 x0, .int .i64 x1] 35)
      have hbA : RowKit.Below w9.heap.size w9 ((wr.alloc (.cells (Req.cells ⟨x0, x1, false, x3, x4, x5, x6, x7, x8⟩) 34)).alloc (.cells #[.int .i64 x0, .int .i64 x1] 35)) := (hbr.alloc hbs _).alloc (by simp; omega) _
      have cxA : ∀ j, ((wr.alloc (.cells (Req.cells ⟨x0, x1, false, x3, x4, x5, x6, x7, x8⟩) 34)).alloc (.cells #[.int .i64 x0, .int .i64 x1] 35)).cell? ⟨wr.heap.size, j, none⟩ = (Req.cells ⟨x0, x1, false, x3, x4, x5, x6, x7, x8⟩)[j]? := ((ReqBox.new wr ⟨x0, x1, false, x3, x4, x5, x6, x7, x8⟩).below (below_alloc1 _ _)).cell
      have ckA : ∀ j, ((wr.alloc (.cells (Req.cells ⟨x0, x1, false, x3, x4, x5, x6, x7, x8⟩) 34)).alloc (.cells #[.int .i64 x0, .int .i64 x1] 35)).cell? ⟨wr.heap.size + 1, j, none⟩ = (#[.int .i64 x0, .int .i64 x1] : Array Value)[j]? := fun j => Lib.cell_of_heap (new_two wr _ _) j
      have hlA : wr.heap.size + 1 < ((wr.alloc (.cells (Req.cells ⟨x0, x1, false, x3, x4, x5, x6, x7, x8⟩) 34)).alloc (.cells #[.int .i64 x0, .int .i64 x1] 35)).heap.size := by simp
      simp only [Req.cells] at cxA
      go_wp2_with (first
        | ((with_reducible refine wpList_load_mid (op := ⟨some 52, _, _, _, _, _⟩) ?_ 34 (.tmp 51) ?_ ga (oa + k * 9) ?_ (Req.cells ⟨x0, x1, false, x3, x4, x5, x6, x7, x8⟩).toList _ ?_ Tryd.underlying34 ?_ ?_ ?_); rfl; rfl; rfl; exact hatk; rfl; kernel_rfl)
        | (at_lookup; go_must (refine wpList_lookup_own_bool _ rfl _ _ 32 rfl 35 4 arr_keyed Tryd.underlying32 Tryd.underlying4 (Tryd.zeroValue4 _) w9.heap.size k D rfl hownA _ (litK x0 x1) rfl (key_arr x0 x1 hs hq) false hD0 ?_)))
      refine (ck_at ⟨x0, x1, false, x3, x4, x5, x6, x7, x8⟩ 0 hxk hxs.code hxs.give _).mono ?_
      rintro _ wB ⟨rfl, hb⟩
      have cxB := old_keep (g := wr.heap.size) (Nat.lt_of_succ_lt hlA) hb cxA
      have hownB := hownA.kept (below_grows (row := none) hb) (by simp)
      have hbB := below_next hbA hb
      have hlB : wr.heap.size + 1 < wB.heap.size := Nat.lt_of_lt_of_le hlA hb.size
      have ckB := old_keep (g := wr.heap.size + 1) hlA hb ckA
      clear hb cxA ckA hownA hbA hlA hatk
      go_wp2_with (first
        | (at_mapUpdate; go_must (refine wpList_mapUpdate_own _ rfl _ _ _ 32 rfl 35 4 arr_keyed Tryd.underlying32 _ w9.heap.size k D rfl hownB hn63 _ (.bool true) (litK x0 x1) rfl rfl (key_arr x0 x1 hs hq) (.lit (.bool true)) [] (plainElem_bool Tryd.underlying4 true) ?_); intro wC hownC hgC; have hbC : RowKit.Below w9.heap.size w9 wC := hbB.grown hgC hbB.size (fun q hq => by cases hq; exact Nat.le_refl _); have hlC : wr.heap.size + 1 < wC.heap.size := Nat.lt_of_lt_of_le hlB hgC.size; have cxC : ∀ j, wC.cell? ⟨wr.heap.size, j, none⟩ = (#[.int .i64 x0, .int .i64 x1, .bool false, .int .i64 x3, .int .i64 x4, .string x5, .string x6, .int .i64 x7, .int .i64 x8] : Array Value)[j]? := (fun j => by rw [grown_cell hgC (by omega) (by intro h; injection h with h; omega)]; exact cxB j); clear cxB ckB)
        | (at_builtin; go_must (refine wpList_append_reqs rfl (.tmp 78) (.tmp 79) rfl wC.heap.size _ _ [⟨x0, x1, true, 0, 0, ⟨#[]⟩, ⟨#[]⟩, 0, 0⟩] L rfl rfl (own_laid_at (wC.alloc (.cells (Req.cells ⟨x0, x1, true, 0, 0, ⟨#[]⟩, ⟨#[]⟩, 0, 0⟩) 34)) [⟨x0, x1, true, 0, 0, ⟨#[]⟩, ⟨#[]⟩, 0, 0⟩] wC.heap.size (wC.heap.size + 1) (by simp) (by omega) (by simp)) ((HL.out.below (hbC.alloc hbC.size _)).below (below_alloc1 _ _)) (by simp; omega) (by simp; omega) ?_); intro v16 w16 hown16 hg16))
      have hbD : RowKit.Below wC.heap.size wC ((wC.alloc (.cells (Req.cells ⟨x0, x1, true, 0, 0, ⟨#[]⟩, ⟨#[]⟩, 0, 0⟩) 34)).alloc (.cells (Req.cells ⟨x0, x1, true, 0, 0, ⟨#[]⟩, ⟨#[]⟩, 0, 0⟩) 34)) := below2 _ _ _
      have hbE : RowKit.Below wC.heap.size wC w16 := hbD.grown hg16 (by simp; omega) (by intro q hq; injection hq with hq; subst hq; simp)
      have hbxE : ReqBox w16 wC.heap.size ⟨x0, x1, true, 0, 0, ⟨#[]⟩, ⟨#[]⟩, 0, 0⟩ := by
        have h1 := (ReqBox.new wC ⟨x0, x1, true, 0, 0, ⟨#[]⟩, ⟨#[]⟩, 0, 0⟩).below (below_alloc1 _ (.cells (Req.cells ⟨x0, x1, true, 0, 0, ⟨#[]⟩, ⟨#[]⟩, 0, 0⟩) 34))
        unfold ReqBox at *
        rw [hg16.block _ (lt_of_heap h1) (by intro h; injection h with h; simp at h)]; exact h1
      have hgS : Req.Small ⟨x0, x1, true, 0, 0, ⟨#[]⟩, ⟨#[]⟩, 0, 0⟩ := gone_small hxs
      have r16 := reqsIn_own hown16
      clear hown16 hg16 hbD
      refine (act_is ([⟨x0, x1, true, 0, 0, ⟨#[]⟩, ⟨#[]⟩, 0, 0⟩] ++ L) _ _ r16 (by simp; omega) (small_app (small_one hgS) SAB.out)).mono ?_
      rintro _ w17 ⟨v14, rfl, hact1, hb⟩
      obtain ⟨M1, hM1, _, r14⟩ := hact1
      have hbF := below_next hbE hb
      have hbx17 := hbxE.below hb
      have cx17 := old_keep (g := wr.heap.size) (Nat.lt_of_succ_lt hlC) hbF cxC
      have hown17 := hownC.kept (below_grows (row := none) hbF) (by simp)
      have hb17 := below_next hbC hbF
      have rl17 := HL.out.below hb17
      clear hb hbE hbF hbxE r16 cxC hownC hbC
      go_wp2_with fail
      refine act_r17 (.slice sL L.length cL) wC.heap.size L ⟨x0, x1, true, 0, 0, ⟨#[]⟩, ⟨#[]⟩, 0, 0⟩ w17 _ rl17 hbx17 (by omega) (small_app SAB.out (small_one hgS)) ?_
      intro u15 u82 u83 u84 u85 u86 u87 u88 w18 hb18 hact2
      obtain ⟨M3, hM3, _, r15⟩ := hact2
      obtain rfl : M3 = M1 := hM3.eq hM1 fun r => by rw [List.mem_append, List.mem_append]; exact Or.comm
      have hY := actR_gone ⟨x0, x1, false, x3, x4, x5, x6, x7, x8⟩ HM.out hM1
      rw [HXe.out] at hY
      have hYl : (actR M3).length = X.length - 1 := by
        rw [hY]
        exact filter_one X (by rw [← HXe.out]; exact keepR_nums _ _) _ HXK.out rfl
      have HY : Hid (∀ y ∈ actR M3, ¬ (y.server = x0 ∧ y.seq = x1)) := Lib.hid (by
        intro y hy
        rw [hY] at hy
        have := (List.mem_filter.1 hy).2
        have h2 := of_decide_eq_true this
        rintro ⟨e1, e2⟩
        exact h2 (by simp [numR, e1, e2]))
      have r14' := r14.below hb18
      have cx18 := old_keep (g := wr.heap.size) (by have := hb17.size; have := hbx17.lt; omega) hb18 cx17
      have hown18 := hown17.kept (below_grows (row := none) hb18) (by simp)
      have hb18' := below_next hb17 hb18
      have hl18 : wr.heap.size < w18.heap.size := by have := hb18.size; have := hbx17.lt; omega
      clear hb18 hM1 hM3 hY r14 cx17 hown17 hb17 rl17 hbx17 hgS
      generalize actR M3 = Y at hYl HY r14' r15
      have hlY : Y.length ≤ 33 := by omega
      go_wp2_with fail
      refine (same_at rfl (by omega) _ _ _ r14' r15).mono ?_
      rintro _ w19 ⟨rfl, hb⟩
      have r19 := r14'.below hb
      have cx19 := old_keep (g := wr.heap.size) hl18 hb cx18
      have hl19 : wr.heap.size < w19.heap.size := Nat.lt_of_lt_of_le hl18 hb.size
      have hown19 := hown18.kept (below_grows (row := none) hb) (by simp)
      have hb19 := below_next hb18' hb
      clear hb r14' r15 cx18 hown18 hb18'
      obtain ⟨s14, c14, rfl, _⟩ := r19.form
      have hne : ((Y.length : Int) != ((X.length : Int) - 1)) = false := by
        have : 0 < X.length := by omega
        simp; omega
      clear hYl
      go_wp2_with fail
      obtain ⟨wo, rfl⟩ : ∃ wo, wo = wr := ⟨_, rfl⟩
      go_loopw [103] (fun i wr => ∃ k' : Nat, k' ≤ Y.length ∧ i = .int .i64 k' ∧ RowKit.Below w19.heap.size w19 wr) (fun i _ => Y.length - (RowKit.intOf i).toNat)
      case atStart => exact ⟨0, Nat.zero_le _, rfl, Below.refl _ _⟩
      case round =>
        obtain ⟨k', hk', rfl, hbi⟩ := hrel
        by_cases hlt' : k' < Y.length
        · obtain ⟨gy, oy, cy', hv, _, hgl', hat⟩ := r19.at_ (by omega)
          have e1 := (Value.slice.inj hv).1
          subst e1
          have hy := List.getElem?_eq_getElem hlt'
          generalize Y[k'] = y at hy
          have hym := List.mem_of_getElem? hy
          have haty := (hat k' y hy).below hbi hgl'
          have hyn := HY.out y hym
          have cx2 := old_keep (g := wo.heap.size) (Nat.lt_of_lt_of_le hl19 hbi.size) (below_alloc1 wr (.cells (Req.cells y) 34)) (old_keep (g := wo.heap.size) hl19 hbi cx19)
          have cy2 : ∀ j, (wr.alloc (.cells (Req.cells y) 34)).cell? ⟨wr.heap.size, j, none⟩ = (Req.cells y)[j]? := (ReqBox.new wr y).cell
          obtain ⟨y0, y1, y2, y3, y4, y5, y6, y7, y8⟩ := y
          simp only [Req.cells] at cx2 cy2 hyn
          clear hv hat hy hym
          by_cases e0 : y0 = x0
          · have e1 : (y1 == x1) = false := by simp only [beq_eq_false_iff_ne, ne_eq]; exact fun h => hyn ⟨e0, h⟩
            have e0' : (y0 == x0) = true := by simp [e0]
            clear hyn e0
            go_wp2_with ((with_reducible refine wpList_load_mid (op := ⟨some 106, _, _, _, _, _⟩) ?_ 34 (.tmp 105) ?_ gy (oy + k' * 9) ?_ (Req.cells ⟨y0, y1, y2, y3, y4, y5, y6, y7, y8⟩).toList _ ?_ Tryd.underlying34 ?_ ?_ ?_); rfl; rfl; rfl; exact haty; rfl; kernel_rfl)
            go_roundw
            case rel => exact ⟨k' + 1, by omega, by go_num, hbi.alloc hbi.size _⟩
            case measure => simp [RowKit.intOf]; omega
          · have e0' : (y0 == x0) = false := by simpa using e0
            clear hyn e0
            go_wp2_with ((with_reducible refine wpList_load_mid (op := ⟨some 106, _, _, _, _, _⟩) ?_ 34 (.tmp 105) ?_ gy (oy + k' * 9) ?_ (Req.cells ⟨y0, y1, y2, y3, y4, y5, y6, y7, y8⟩).toList _ ?_ Tryd.underlying34 ?_ ?_ ?_); rfl; rfl; rfl; exact haty; rfl; kernel_rfl)
            go_roundw
            case rel => exact ⟨k' + 1, by omega, by go_num, hbi.alloc hbi.size _⟩
            case measure => simp [RowKit.intOf]; omega
        · obtain rfl : k' = Y.length := by omega
          have hownF := hown19.kept (below_grows (row := none) hbi) (by simp)
          have hbF := below_next hb19 hbi
          have hlF : w9.heap.size < wr.heap.size := by have := hbi.size; omega
          go_wp2_with fail
          go_roundw
          case rel => exact ⟨k + 1, _, _, by omega, by go_num, hownF, HDP, HS, hbF, hlF⟩
          case measure => simp [RowKit.intOf]; omega
    · obtain rfl : k = X.length := by omega
      have HK' : Hid (∀ q, q ∈ K ↔ ∃ y ∈ X, numR y = q) := Lib.hid (by have := HK.out; rwa [List.take_length] at this)
      have rl := HL.out.below hbr
      clear HK hlt hk
      go_wp2_with fail
      obtain ⟨wo, rfl⟩ : ∃ wo, wo = wr := ⟨_, rfl⟩
      go_loopw [123] (fun i wr => ∃ k' : Nat, k' ≤ L.length ∧ i = .int .i64 k' ∧ RowKit.Below wo.heap.size wo wr) (fun i _ => L.length - (RowKit.intOf i).toNat)
      case atStart => exact ⟨0, Nat.zero_le _, rfl, Below.refl _ _⟩
      case round =>
        obtain ⟨k', hk', rfl, hbi⟩ := hrel
        by_cases hlt' : k' < L.length
        · obtain ⟨gr, or_, cr', hv, _, hgl', hat⟩ := rl.at_ (by omega)
          have e1 := (Value.slice.inj hv).1
          subst e1
          have hr := List.getElem?_eq_getElem hlt'
          generalize L[k'] = r at hr
          have hrm := List.mem_of_getElem? hr
          have hrs := SAB.out r hrm
          have hatr := (hat k' r hr).below hbi hgl'
          have HNO := Lib.hid (fun hc => act_no HM.out (r := r) hc)
          have HYES := Lib.hid (fun hc hk => act_yes HM.out (r := r) hrm hc hk)
          obtain ⟨hs, hq⟩ := small_num hrs
          obtain ⟨r0, r1, r2, r3, r4, r5, r6, r7, r8⟩ := r
          simp only at hs hq
          have hbx0 : ReqBox (wr.alloc (.cells (Req.cells ⟨r0, r1, r2, r3, r4, r5, r6, r7, r8⟩) 34)) wr.heap.size ⟨r0, r1, r2, r3, r4, r5, r6, r7, r8⟩ := ReqBox.new wr _
          have hb0 : RowKit.Below wo.heap.size wo (wr.alloc (.cells (Req.cells ⟨r0, r1, r2, r3, r4, r5, r6, r7, r8⟩) 34)) := hbi.alloc hbi.size _
          clear hv hat hr hrm
          go_wp2_with ((with_reducible refine wpList_load_mid (op := ⟨some 126, _, _, _, _, _⟩) ?_ 34 (.tmp 125) ?_ gr (or_ + k' * 9) ?_ (Req.cells ⟨r0, r1, r2, r3, r4, r5, r6, r7, r8⟩).toList _ ?_ Tryd.underlying34 ?_ ?_ ?_); rfl; rfl; rfl; exact hatr; rfl; kernel_rfl)
          obtain ⟨wp, rfl⟩ : ∃ wp, wp = wr := ⟨_, rfl⟩
          go_loopw [20, 129] (fun c i wr => ∃ (j : Nat) (cb : Bool), j ≤ L.length ∧ c = .bool cb ∧ i = .int .i64 j ∧ Hid (cb = true ↔ ∃ x ∈ L.take j, x.cancel = true ∧ numR x = (r0, r1)) ∧ ReqBox wr wp.heap.size ⟨r0, r1, r2, r3, r4, r5, r6, r7, r8⟩ ∧ RowKit.Below wo.heap.size wo wr) (fun _ i _ => L.length - (RowKit.intOf i).toNat)
          case atStart => exact ⟨0, false, Nat.zero_le _, rfl, rfl, Lib.hid (by simp), hbx0, hb0⟩
          case round =>
            clear hbx0 hb0 hatr
            obtain ⟨j, cb, hj, rfl, rfl, HC, hbx1, hb1⟩ := hrel
            by_cases hltj : j < L.length
            · obtain ⟨gy, oy, cy', hv, _, hgl2, hat⟩ := rl.at_ (by omega)
              have e1 := (Value.slice.inj hv).1
              simp only [Option.some.injEq, Addr.mk.injEq, and_true] at e1
              obtain ⟨e1, e2⟩ := e1
              subst e1 e2
              have hy := List.getElem?_eq_getElem hltj
              generalize L[j] = y at hy
              have haty := (hat j y hy).below hb1 hgl2
              have HN := Lib.hid (can_snoc hy HC.out)
              have hbx2 : ReqBox (wr.alloc (.cells (Req.cells y) 34)) wp.heap.size ⟨r0, r1, r2, r3, r4, r5, r6, r7, r8⟩ := hbx1.below (below_alloc1 _ _)
              have hb2 : RowKit.Below wo.heap.size wo (wr.alloc (.cells (Req.cells y) 34)) := hb1.alloc hb1.size _
              have cx2 := hbx2.cell
              have cy2 : ∀ i, (wr.alloc (.cells (Req.cells y) 34)).cell? ⟨wr.heap.size, i, none⟩ = (Req.cells y)[i]? := (ReqBox.new wr y).cell
              obtain ⟨y0, y1, y2, y3, y4, y5, y6, y7, y8⟩ := y
              simp only [Req.cells] at cx2 cy2
              simp only [numR] at HN
              clear hv hat hy HC hbx1 hb1 HNO HYES
              cases cb
              · cases y2
                · skip
                  go_wp2_with ((with_reducible refine wpList_load_mid (op := ⟨some 132, _, _, _, _, _⟩) ?_ 34 (.tmp 131) ?_ gr (or_ + j * 9) ?_ (Req.cells ⟨y0, y1, false, y3, y4, y5, y6, y7, y8⟩).toList _ ?_ Tryd.underlying34 ?_ ?_ ?_); rfl; rfl; rfl; exact haty; rfl; kernel_rfl)
                  go_roundw
                  case rel => exact ⟨j + 1, _, by omega, rfl, by go_num, Lib.hid (by have := HN.out; simpa [numR] using this), hbx2, hb2⟩
                  case measure => simp [RowKit.intOf]; omega
                · by_cases e0 : y0 = r0
                  · have f0 : (y0 == r0) = true := by simp [e0]
                    by_cases e1 : y1 = r1
                    · have f1 : (y1 == r1) = true := by simp [e1]
                      have E0 := Lib.hid e0
                      have E1 := Lib.hid e1
                      clear e0 e1
                      go_wp2_with ((with_reducible refine wpList_load_mid (op := ⟨some 132, _, _, _, _, _⟩) ?_ 34 (.tmp 131) ?_ gr (or_ + j * 9) ?_ (Req.cells ⟨y0, y1, true, y3, y4, y5, y6, y7, y8⟩).toList _ ?_ Tryd.underlying34 ?_ ?_ ?_); rfl; rfl; rfl; exact haty; rfl; kernel_rfl)
                      go_roundw
                      case rel => exact ⟨j + 1, _, by omega, rfl, by go_num, Lib.hid (by have := HN.out; simpa [numR, E0.out, E1.out] using this), hbx2, hb2⟩
                      case measure => simp [RowKit.intOf]; omega
                    · have f1 : (y1 == r1) = false := by simp [e1]
                      have E1 := Lib.hid e1
                      have E0 := Lib.hid e0
                      clear e0 e1
                      go_wp2_with ((with_reducible refine wpList_load_mid (op := ⟨some 132, _, _, _, _, _⟩) ?_ 34 (.tmp 131) ?_ gr (or_ + j * 9) ?_ (Req.cells ⟨y0, y1, true, y3, y4, y5, y6, y7, y8⟩).toList _ ?_ Tryd.underlying34 ?_ ?_ ?_); rfl; rfl; rfl; exact haty; rfl; kernel_rfl)
                      go_roundw
                      case rel => exact ⟨j + 1, _, by omega, rfl, by go_num, Lib.hid (by have := HN.out; simpa [numR, E1.out] using this), hbx2, hb2⟩
                      case measure => simp [RowKit.intOf]; omega
                  · have f0 : (y0 == r0) = false := by simp [e0]
                    have E0 := Lib.hid e0
                    clear e0
                    go_wp2_with ((with_reducible refine wpList_load_mid (op := ⟨some 132, _, _, _, _, _⟩) ?_ 34 (.tmp 131) ?_ gr (or_ + j * 9) ?_ (Req.cells ⟨y0, y1, true, y3, y4, y5, y6, y7, y8⟩).toList _ ?_ Tryd.underlying34 ?_ ?_ ?_); rfl; rfl; rfl; exact haty; rfl; kernel_rfl)
                    go_roundw
                    case rel => exact ⟨j + 1, _, by omega, rfl, by go_num, Lib.hid (by have := HN.out; simpa [numR, E0.out] using this), hbx2, hb2⟩
                    case measure => simp [RowKit.intOf]; omega
              · skip
                go_wp2_with ((with_reducible refine wpList_load_mid (op := ⟨some 132, _, _, _, _, _⟩) ?_ 34 (.tmp 131) ?_ gr (or_ + j * 9) ?_ (Req.cells ⟨y0, y1, y2, y3, y4, y5, y6, y7, y8⟩).toList _ ?_ Tryd.underlying34 ?_ ?_ ?_); rfl; rfl; rfl; exact haty; rfl; kernel_rfl)
                go_roundw
                case rel => exact ⟨j + 1, _, by omega, rfl, by go_num, Lib.hid (by have := HN.out; simpa [numR] using this), hbx2, hb2⟩
                case measure => simp [RowKit.intOf]; omega
            · obtain rfl : j = L.length := by omega
              rw [List.take_length] at HC
              have hownG := hown.kept (below_grows (row := none) hb1) (by simp)
              have cr := hbx1.cell
              simp only [Req.cells] at cr
              have hD0 := HD.out r0 r1 hs hq
              have HSB : Hid (decide ((r0, r1) ∈ K) = true ↔ ∃ y ∈ X, numR y = (r0, r1)) := Lib.hid (by rw [decide_eq_true_eq]; exact HK'.out _)
              generalize decide ((r0, r1) ∈ K) = sB at hD0 HSB
              rw [HXe.out] at HNO HYES
              cases cb
              · have hnc : ¬ ∃ x ∈ L, x.cancel = true ∧ numR x = (r0, r1) := fun h => absurd (HC.out.2 h) (by simp)
                have HY2 := Lib.hid (HYES.out hnc)
                clear hnc HNO HYES HC
                cases sB
                · have hn : (chkR ⟨r0, r1, r2, r3, r4, r5, r6, r7, r8⟩ == 0) = false := by
                    simp only [beq_eq_false_iff_ne, ne_eq]
                    exact fun h => absurd (HSB.out.2 (HY2.out h)) (by simp)
                  clear HSB HY2
                  go_wp2_with (at_lookup; go_must (refine wpList_lookup_own_bool _ rfl _ _ 32 rfl 35 4 arr_keyed Tryd.underlying32 Tryd.underlying4 (Tryd.zeroValue4 _) w9.heap.size X.length D rfl hownG _ (litK r0 r1) rfl (key_arr r0 r1 hs hq) false hD0 ?_))
                  refine (rqCheck_any ⟨r0, r1, r2, r3, r4, r5, r6, r7, r8⟩ (by have := hrs.code; omega) (by have := hrs.give; omega) _).mono ?_
                  rintro _ wq ⟨rfl, hb⟩
                  have hownH := hownG.kept (below_grows (row := none) hb) (by simp)
                  have crq := old_keep hbx1.lt hb cr
                  have hbq := below_next hb1 hb
                  clear hb hownG cr hb1
                  go_wp2_with fail
                  go_roundw
                  case rel => exact ⟨k' + 1, by omega, by go_num, hbq⟩
                  case measure => simp [RowKit.intOf]; omega
                · clear HSB HY2
                  go_wp2_with (at_lookup; go_must (refine wpList_lookup_own_bool _ rfl _ _ 32 rfl 35 4 arr_keyed Tryd.underlying32 Tryd.underlying4 (Tryd.zeroValue4 _) w9.heap.size X.length D rfl hownG _ (litK r0 r1) rfl (key_arr r0 r1 hs hq) true hD0 ?_))
                  refine (rqCheck_any ⟨r0, r1, r2, r3, r4, r5, r6, r7, r8⟩ (by have := hrs.code; omega) (by have := hrs.give; omega) _).mono ?_
                  rintro _ wq ⟨rfl, hb⟩
                  have hownH := hownG.kept (below_grows (row := none) hb) (by simp)
                  have crq := old_keep hbx1.lt hb cr
                  have hbq := below_next hb1 hb
                  clear hb hownG cr hb1
                  generalize chkR ⟨r0, r1, r2, r3, r4, r5, r6, r7, r8⟩ = n
                  by_cases hn0 : n = 0
                  · subst hn0
                    go_wp2_with (at_lookup; go_must (refine wpList_lookup_own_bool_g _ (by rfl) _ _ 32 rfl 35 4 arr_keyed Tryd.underlying32 Tryd.underlying4 (Tryd.zeroValue4 _) w9.heap.size X.length D rfl hownH _ (litK r0 r1) rfl (key_arr r0 r1 hs hq) true hD0 ?_))
                    go_wp2_with fail
                    go_roundw
                    case rel => exact ⟨k' + 1, by omega, by go_num, hbq⟩
                    case measure => simp [RowKit.intOf]; omega
                  · have hn : (n == 0) = false := by simpa using hn0
                    clear hn0
                    go_wp2_with fail
                    go_roundw
                    case rel => exact ⟨k' + 1, by omega, by go_num, hbq⟩
                    case measure => simp [RowKit.intOf]; omega
              · have hsb : sB = false := by
                  rw [Bool.eq_false_iff]
                  exact fun h => HNO.out (HC.out.1 rfl) (HSB.out.1 h)
                subst hsb
                clear HNO HYES HC HSB
                go_wp2_with (at_lookup; go_must (refine wpList_lookup_own_bool _ rfl _ _ 32 rfl 35 4 arr_keyed Tryd.underlying32 Tryd.underlying4 (Tryd.zeroValue4 _) w9.heap.size X.length D rfl hownG _ (litK r0 r1) rfl (key_arr r0 r1 hs hq) false hD0 ?_))
                go_wp2_with fail
                go_roundw
                case rel => exact ⟨k' + 1, by omega, by go_num, hb1⟩
                case measure => simp [RowKit.intOf]; omega
        · obtain rfl : k' = L.length := by omega
          go_wp2_with fail
          go_ret
          exact ⟨rfl, below_next (below_next HB9.out hbr) hbi⟩
end Go.Proofs.YtanmmooflhomoaaDoor
