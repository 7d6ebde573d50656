/- WirePrefix: walked once. -/
import Derived.Test.YtfnlihadibnnoaaDoorWPrR
import Derived.Test.YtfnlihadibnnoaaDoorWEnc2
namespace Go.Proofs.YtfnlihadibnnoaaDoor
open Go Go.RowKit Go.Sort Go.Lib
attribute [local go_sem] map_add0

theorem box5 (w : World) (c0 c1 c2 c3 c4 : Value) (T : TypeId) : (w.alloc (.cells #[c0, c1, c2, c3, c4] T)).cell? ⟨w.heap.size, 0, none⟩ = some c0 ∧ (w.alloc (.cells #[c0, c1, c2, c3, c4] T)).cell? ⟨w.heap.size, 1, none⟩ = some c1 ∧ (w.alloc (.cells #[c0, c1, c2, c3, c4] T)).cell? ⟨w.heap.size, 2, none⟩ = some c2 ∧ (w.alloc (.cells #[c0, c1, c2, c3, c4] T)).cell? ⟨w.heap.size, 3, none⟩ = some c3 ∧ (w.alloc (.cells #[c0, c1, c2, c3, c4] T)).cell? ⟨w.heap.size, 4, none⟩ = some c4 :=
  ⟨Lib.cell_of_heap (heap_alloc_new w _) 0, Lib.cell_of_heap (heap_alloc_new w _) 1, Lib.cell_of_heap (heap_alloc_new w _) 2, Lib.cell_of_heap (heap_alloc_new w _) 3, Lib.cell_of_heap (heap_alloc_new w _) 4⟩
theorem kind_of {n : Int} (h0 : 0 ≤ n) : ∃ k : Nat, k ≤ 3 ∧ n.tmod 4 = k := ⟨(n.tmod 4).toNat, by rw [Int.tmod_eq_emod_of_nonneg h0]; omega, by rw [Int.tmod_eq_emod_of_nonneg h0]; omega⟩
theorem two_next {W w' w2 : World} {B o B' o' : Nat} {c c' : Value} (h : RowKit.Below W.heap.size W w' ∧ w'.cell? ⟨B, o, none⟩ = some c ∧ w'.cell? ⟨B', o', none⟩ = some c') (hb : RowKit.Below w'.heap.size w' w2) :
    RowKit.Below W.heap.size W w2 ∧ w2.cell? ⟨B, o, none⟩ = some c ∧ w2.cell? ⟨B', o', none⟩ = some c' := ⟨below_next h.1 hb, mv0 hb h.2.1, mv0 hb h.2.2⟩
set_option maxHeartbeats 8000000 in
set_option maxRecDepth 100000 in
theorem prefix_any {w : World} (x : Val) (a b : Value) (hV : ValAt w (.int .u8 x.kind) (.int .i64 x.n) (.string x.s) a b x) (y : Val) (a' b' : Value) (hV' : ValAt w (.int .u8 y.kind) (.int .i64 y.n) (.string y.s) a' b' y) (hr : Ready w) :
    Calls Tryd.prog 8 #[.agg #[.int .u8 x.kind, .int .i64 x.n, .string x.s, a, b], .agg #[.int .u8 y.kind, .int .i64 y.n, .string y.s, a', b']] w fun e w' => e = .returned (.bool true) ∧ RowKit.Below w.heap.size w w' := by
  have hOx := hV.ok
  have hOy := hV'.ok
  obtain ⟨-, ⟨hk0, hk1⟩, hFx, hzx, ⟨hIx, hsh⟩, hTx⟩ := hV
  obtain ⟨-, -, hFy, hzy, ⟨hIy, hsh'⟩, hTy⟩ := hV'
  obtain ⟨Ax, cx, rfl, hcx, hmx⟩ := hsh.gen
  obtain ⟨Ay, cy, rfl, hcy, hmy⟩ := hsh'.gen
  obtain ⟨k, hk, hkm⟩ := kind_of hk0
  obtain ⟨x0, x1, x2, x3, x4⟩ := box5 w (.int .u8 x.kind) (.int .i64 x.n) (.string x.s) (.slice Ax x.L.length cx) b 45
  have hb := below_alloc1 w (.cells #[.int .u8 x.kind, .int .i64 x.n, .string x.s, .slice Ax x.L.length cx, b] 45)
  have hsame := encK_same k hOx hOy
  have hlx := encK_len k x hOx
  have hly := encK_len k y hOy
  go_enter Tryd.func8, Tryd.ntmps8
  go_wp2_with fail
  replace hr := hr.below hb
  replace hIx := hIx.below hb
  replace hTx := hTx.below hb
  replace hIy := hIy.below hb
  replace hTy := hTy.below hb
  have hB := hb
  clear hb
  have hw0 : (w.alloc (.cells #[.int .u8 x.kind, .int .i64 x.n, .string x.s, .slice Ax x.L.length cx, b] 45)).heap.size = w.heap.size + 1 := by simp
  generalize w.alloc (.cells #[.int .u8 x.kind, .int .i64 x.n, .string x.s, .slice Ax x.L.length cx, b] 45) = w0 at hw0 x0 x1 x2 x3 x4 hr hIx hTx hIy hTy hB ⊢
  obtain ⟨-, y1, y2, y3, y4⟩ := box5 w0 (.int .u8 y.kind) (.int .i64 y.n) (.string y.s) (.slice Ay y.L.length cy) b' 45
  rw [hw0] at y1 y2 y3 y4
  have hb := below_alloc1 w0 (.cells #[.int .u8 y.kind, .int .i64 y.n, .string y.s, .slice Ay y.L.length cy, b'] 45)
  replace hr := hr.below hb
  replace hIx := hIx.below hb
  replace hTx := hTx.below hb
  replace hIy := hIy.below hb
  replace hTy := hTy.below hb
  replace hB := below_next hB hb
  replace x0 := mv0 hb x0
  replace x1 := mv0 hb x1
  replace x2 := mv0 hb x2
  replace x3 := mv0 hb x3
  replace x4 := mv0 hb x4
  clear hb
  generalize w0.alloc (.cells #[.int .u8 y.kind, .int .i64 y.n, .string y.s, .slice Ay y.L.length cy, b'] 45) = w1 at x0 x1 x2 x3 x4 y1 y2 y3 y4 hr hIx hTx hIy hTy hB ⊢
  refine (sanity_any _ hr).mono ?_
  rintro _ W ⟨rfl, hb⟩
  replace hr := hr.below hb
  replace hIx := hIx.below hb
  replace hTx := hTx.below hb
  replace hIy := hIy.below hb
  replace hTy := hTy.below hb
  replace hB := below_next hB hb
  replace x0 := mv0 hb x0
  replace x1 := mv0 hb x1
  replace x2 := mv0 hb x2
  replace x3 := mv0 hb x3
  replace x4 := mv0 hb x4
  replace y1 := mv0 hb y1
  replace y2 := mv0 hb y2
  replace y3 := mv0 hb y3
  replace y4 := mv0 hb y4
  clear hb
  go_wp2_with fail
  have hIxt := hIx.take 20 cx
  rw [List.length_take] at hIxt
  have hIyt := hIy.take 20 cy
  rw [List.length_take] at hIyt
  refine pre_r2 w.heap.size (w.heap.size + 1) x y k Ax Ay cx cy b b' W _ hr hk hkm hFx hzx hcx hmx hIxt hTx hFy hzy hcy hmy hIyt hTy x0 x1 x2 x3 x4 y1 y2 y3 y4 ?_
  intro u13 u21 u29 u32 u33 u34 u38 u39 u42 u50 u58 u61 u62 u63 u67 u68 u6 u7 V hb e6 e7
  subst e6 e7
  replace hr := hr.below hb
  replace hIxt := hIxt.below hb
  replace hTx := hTx.below hb
  replace hIyt := hIyt.below hb
  replace hTy := hTy.below hb
  replace hB := below_next hB hb
  replace x0 := mv0 hb x0
  replace x1 := mv0 hb x1
  replace x2 := mv0 hb x2
  replace x3 := mv0 hb x3
  replace x4 := mv0 hb x4
  replace y1 := mv0 hb y1
  replace y2 := mv0 hb y2
  replace y3 := mv0 hb y3
  replace y4 := mv0 hb y4
  clear hb hIx hIy hOx hOy hFx hFy
  have hS : sameK k x y = sameK k x y := rfl
  revert hS
  generalize hE : encK k x = E at hsame hlx ⊢
  generalize hF : encK k y = F at hsame hly ⊢
  clear hE hF
  generalize hsb : sameK k x y = sb at hsame ⊢
  intro _
  obtain ⟨hq1, hq2⟩ := hsame
  have hex : (⟨E.toArray⟩ : ByteArray).extract 0 (min E.length F.length) = ⟨(E.take (min E.length F.length)).toArray⟩ := ba_ext (by simp [ByteArray.data_extract])
  have hey : (⟨F.toArray⟩ : ByteArray).extract 0 (min E.length F.length) = ⟨(F.take (min E.length F.length)).toArray⟩ := ba_ext (by simp [ByteArray.data_extract])
  have hez : (⟨E.toArray⟩ : ByteArray).size = E.length := by simp [ByteArray.size]
  have hfz : (⟨F.toArray⟩ : ByteArray).size = F.length := by simp [ByteArray.size]
  obtain ⟨m, hm⟩ : ∃ m, min E.length F.length = m := ⟨_, rfl⟩
  have hmm : min (E.length : Int) F.length = (m : Int) := by omega
  have hm0 : (0 : Int) ≤ m := by omega
  have hm1 : (m : Int) ≤ E.length := by omega
  have hm2 : (m : Int) ≤ F.length := by omega
  rw [hm] at hex hey hq2
  obtain rfl | rfl | rfl | rfl : k = 0 ∨ k = 1 ∨ k = 2 ∨ k = 3 := by omega
  · have hs : (x.n == y.n) = sb := by rw [← hsb]; rfl
    go_wp2_with fail
    have hBV := hB
    go_wp2_with fail
    cases sb
    all_goals
      go_quiet (fail)
      go_wp2_with fail
      go_ret
      exact ⟨rfl, below_drewN' hBV _⟩
  · have hs : ((clip x.s).toList == (clip y.s).toList) = sb := by
      rw [← hsb]
      change _ = decide (clip x.s = clip y.s)
      by_cases h : clip x.s = clip y.s
      · rw [h]; simp
      · rw [decide_eq_false h, beq_eq_false_iff_ne]; exact fun e => h (ba_ext (by rwa [ByteArray.toList_eq, ByteArray.toList_eq] at e))
    have hb0x : (0 : Int) ≤ min (x.s.size : Int) 100 := by omega
    have hb1x : min (x.s.size : Int) 100 ≤ x.s.size := by omega
    have hb0y : (0 : Int) ≤ min (y.s.size : Int) 100 := by omega
    have hb1y : min (y.s.size : Int) 100 ≤ y.s.size := by omega
    unfold clip at hs
    go_wp2_with fail
    go_quiet (fail)
    replace hB := below_drewN' hB nq
    go_wp2_with fail
    have hBV := hB
    go_wp2_with fail
    cases sb
    all_goals
      go_quiet (fail)
      go_wp2_with fail
      go_ret
      exact ⟨rfl, below_drewN' hBV _⟩
  · have hs : decide (x.L.take 20 = y.L.take 20) = sb := hsb
    have hb2x : (0 : Int) ≤ min (x.L.length : Int) 20 := by omega
    have hb3x : min (x.L.length : Int) 20 ≤ cx := by omega
    have hcutx : (min (x.L.length : Int) 20).toNat = min 20 x.L.length := by omega
    have hb2y : (0 : Int) ≤ min (y.L.length : Int) 20 := by omega
    have hb3y : min (y.L.length : Int) 20 ≤ cy := by omega
    have hcuty : (min (y.L.length : Int) 20).toNat = min 20 y.L.length := by omega
    have cs := fun w hA hB => sameInts_any (.slice Ax (min 20 x.L.length) cx) (.slice Ay (min 20 y.L.length) cy) (x.L.take 20) (y.L.take 20) (by rw [List.length_take]; omega) w hA hB (by rw [List.length_take]; omega)
    rw [hs] at cs
    go_wp2_with fail
    have hd : RowKit.Below V.heap.size V V.drew ∧ V.drew.cell? ⟨w.heap.size, 3, none⟩ = some (.slice Ax x.L.length cx) ∧ V.drew.cell? ⟨w.heap.size + 1, 3, none⟩ = some (.slice Ay y.L.length cy) := ⟨(Below.refl _ _).drew, x3, y3⟩
    refine of_onlyN ?_ (fun _ _ h => h)
    refine wp_region_flow (S := fun w' => RowKit.Below V.heap.size V w' ∧ w'.cell? ⟨w.heap.size, 3, none⟩ = some (.slice Ax x.L.length cx) ∧ w'.cell? ⟨w.heap.size + 1, 3, none⟩ = some (.slice Ay y.L.length cy)) [(0, true), (1, true), (2, true), (3, true), (4, true), (5, true), (6, true), (7, true), (8, true), (9, true), (10, true), (11, true), (12, true), (13, true), (14, false), (15, true)] (by kernel_rfl) (by kernel_rfl) (by kernel_rfl) (by decide) (hd) ?_
    have hS := hd
    refine flow_take ⟨some 98, _, _, _, _, _⟩ ?_ rfl (by rfl) ?_ ?_
    rotate_left 1
    · intro w hSw; (try dsimp only at hSw); go_simp; (try with_reducible rfl)
    simp only [Act.put, List.setIfInBounds_toArray, List.set_cons_zero, List.set_cons_succ]
    refine flow_take ⟨some 99, _, _, _, _, _⟩ ?_ rfl (by rfl) ?_ ?_
    rotate_left 1
    · intro w hSw; (try dsimp only at hSw); go_simp; (try with_reducible rfl)
    simp only [Act.put, List.setIfInBounds_toArray, List.set_cons_zero, List.set_cons_succ]
    refine flow_take ⟨some 100, _, _, _, _, _⟩ ?_ rfl (by rfl) ?_ ?_
    rotate_left 1
    · intro w hSw; (try dsimp only at hSw); go_simp; (try with_reducible rfl)
    simp only [Act.put, List.setIfInBounds_toArray, List.set_cons_zero, List.set_cons_succ]
    refine flow_take ⟨some 101, _, _, _, _, _⟩ ?_ rfl (by rfl) ?_ ?_
    rotate_left 1
    · intro w hSw; (try dsimp only at hSw); go_simp; (try with_reducible rfl)
    simp only [Act.put, List.setIfInBounds_toArray, List.set_cons_zero, List.set_cons_succ]
    refine flow_take ⟨some 102, _, _, _, _, _⟩ ?_ rfl (by rfl) ?_ ?_
    rotate_left 1
    · intro w hSw; (try dsimp only at hSw); go_simp; (try with_reducible rfl)
    simp only [Act.put, List.setIfInBounds_toArray, List.set_cons_zero, List.set_cons_succ]
    refine flow_take ⟨some 103, _, _, _, _, _⟩ ?_ rfl (by rfl) ?_ ?_
    rotate_left 1
    · intro w hSw; (try dsimp only at hSw); go_simp; (try with_reducible rfl)
    simp only [Act.put, List.setIfInBounds_toArray, List.set_cons_zero, List.set_cons_succ]
    refine flow_take ⟨some 104, _, _, _, _, _⟩ ?_ rfl (by rfl) ?_ ?_
    rotate_left 1
    · intro w hSw; (try dsimp only at hSw); go_simp; (try with_reducible rfl)
    simp only [Act.put, List.setIfInBounds_toArray, List.set_cons_zero, List.set_cons_succ]
    refine flow_take ⟨some 105, _, _, _, _, _⟩ ?_ rfl (by rfl) ?_ ?_
    rotate_left 1
    · intro w hSw; (try dsimp only at hSw); go_simp; (try with_reducible rfl)
    simp only [Act.put, List.setIfInBounds_toArray, List.set_cons_zero, List.set_cons_succ]
    refine flow_take ⟨some 106, _, _, _, _, _⟩ ?_ rfl (by rfl) ?_ ?_
    rotate_left 1
    · intro w hSw; (try dsimp only at hSw); go_simp; (try with_reducible rfl)
    simp only [Act.put, List.setIfInBounds_toArray, List.set_cons_zero, List.set_cons_succ]
    refine flow_take ⟨some 107, _, _, _, _, _⟩ ?_ rfl (by rfl) ?_ ?_
    rotate_left 1
    · intro w hSw; (try dsimp only at hSw); go_simp; (try with_reducible rfl)
    simp only [Act.put, List.setIfInBounds_toArray, List.set_cons_zero, List.set_cons_succ]
    refine flow_take ⟨some 108, _, _, _, _, _⟩ ?_ rfl (by rfl) ?_ ?_
    rotate_left 1
    · intro w hSw; (try dsimp only at hSw); go_simp; (try with_reducible rfl)
    simp only [Act.put, List.setIfInBounds_toArray, List.set_cons_zero, List.set_cons_succ]
    refine flow_take ⟨some 109, _, _, _, _, _⟩ ?_ rfl (by rfl) ?_ ?_
    rotate_left 1
    · intro w hSw; (try dsimp only at hSw); go_simp; (try with_reducible rfl)
    simp only [Act.put, List.setIfInBounds_toArray, List.set_cons_zero, List.set_cons_succ]
    refine flow_take ⟨some 110, _, _, _, _, _⟩ ?_ rfl (by rfl) ?_ ?_
    rotate_left 1
    · intro w hSw; (try dsimp only at hSw); go_simp; (try with_reducible rfl)
    simp only [Act.put, List.setIfInBounds_toArray, List.set_cons_zero, List.set_cons_succ]
    refine flow_take ⟨some 111, _, _, _, _, _⟩ ?_ rfl (by rfl) ?_ ?_
    rotate_left 1
    · intro w hSw; (try dsimp only at hSw); go_simp; (try with_reducible rfl)
    simp only [Act.put, List.setIfInBounds_toArray, List.set_cons_zero, List.set_cons_succ]
    refine flow_call ⟨some 112, _, _, _, _, _⟩ rfl (by rfl) 26 _ _ (by rfl) _ (by rfl) Tryd.call26 (cs _ (hIxt.below hS.1) (hIyt.below hS.1)) ?_; rintro x wn ⟨rfl, hb⟩; replace hS := two_next hS hb; refine ⟨_, rfl, hS, ?_⟩; (try clear hb)
    simp only [Act.put, List.setIfInBounds_toArray, List.set_cons_zero, List.set_cons_succ]
    refine flow_take ⟨some 8, _, _, _, _, _⟩ ?_ rfl (by rfl) ?_ ?_
    rotate_left 1
    · intro w hSw; (try dsimp only at hSw); go_simp; (try with_reducible rfl)
    simp only [Act.put, List.setIfInBounds_toArray, List.set_cons_zero, List.set_cons_succ]
    simp only [wpFlow, OnlyN]
    replace hB := below_next hB hS.1
    go_wp2_with fail
    have hBV := hB
    go_wp2_with fail
    cases sb
    all_goals
      go_quiet (fail)
      go_wp2_with fail
      go_ret
      exact ⟨rfl, below_drewN' hBV _⟩
  · have hs : decide (cutL x.T = cutL y.T) = sb := hsb
    go_wp2_with fail
    have hd : RowKit.Below V.heap.size V V.drew ∧ V.drew.cell? ⟨w.heap.size, 4, none⟩ = some b ∧ V.drew.cell? ⟨w.heap.size + 1, 4, none⟩ = some b' := ⟨(Below.refl _ _).drew, x4, y4⟩
    refine of_onlyN ?_ (fun _ _ h => h)
    refine wp_region_flow (S := fun w' => RowKit.Below V.heap.size V w' ∧ w'.cell? ⟨w.heap.size, 4, none⟩ = some b ∧ w'.cell? ⟨w.heap.size + 1, 4, none⟩ = some b') [(0, true), (1, true), (3, true), (4, true), (2, false), (5, false), (6, false), (7, true)] (by kernel_rfl) (by kernel_rfl) (by kernel_rfl) (by decide) (hd) ?_
    have hS := hd
    refine flow_take ⟨some 115, _, _, _, _, _⟩ ?_ rfl (by rfl) ?_ ?_
    rotate_left 1
    · intro w hSw; (try dsimp only at hSw); go_simp; (try with_reducible rfl)
    simp only [Act.put, List.setIfInBounds_toArray, List.set_cons_zero, List.set_cons_succ]
    refine flow_take ⟨some 116, _, _, _, _, _⟩ ?_ rfl (by rfl) ?_ ?_
    rotate_left 1
    · intro w hSw; (try dsimp only at hSw); go_simp; (try with_reducible rfl)
    simp only [Act.put, List.setIfInBounds_toArray, List.set_cons_zero, List.set_cons_succ]
    refine flow_take ⟨some 118, _, _, _, _, _⟩ ?_ rfl (by rfl) ?_ ?_
    rotate_left 1
    · intro w hSw; (try dsimp only at hSw); go_simp; (try with_reducible rfl)
    simp only [Act.put, List.setIfInBounds_toArray, List.set_cons_zero, List.set_cons_succ]
    refine flow_take ⟨some 119, _, _, _, _, _⟩ ?_ rfl (by rfl) ?_ ?_
    rotate_left 1
    · intro w hSw; (try dsimp only at hSw); go_simp; (try with_reducible rfl)
    simp only [Act.put, List.setIfInBounds_toArray, List.set_cons_zero, List.set_cons_succ]
    (first | (refine flow_call ⟨some 117, _, _, _, _, _⟩ rfl (by rfl) 11 _ _ (by rfl) _ (by rfl) Tryd.call11 (cut_law b x.T _ (hTx.below hS.1)) ?_; rintro x wn ⟨u, rfl, hu, hb⟩; replace hS := two_next hS hb; have hU := txtsV_own hu (fun z hz => by have := cutL_short x.T z hz; omega); refine ⟨_, rfl, hS, ?_⟩; (try clear hb)) | (refine flow_call ⟨some 117, _, _, _, _, _⟩ rfl (by rfl) 11 _ _ (by rfl) _ (by rfl) Tryd.call11 (cut_law b' y.T _ (hTy.below hS.1)) ?_; rintro x wn ⟨u', rfl, hu', hb⟩; replace hS := two_next hS hb; have hU' := txtsV_own hu' (fun z hz => by have := cutL_short y.T z hz; omega); replace hU := hU.below hb; refine ⟨_, rfl, hS, ?_⟩; (try clear hb)))
    simp only [Act.put, List.setIfInBounds_toArray, List.set_cons_zero, List.set_cons_succ]
    (first | (refine flow_call ⟨some 120, _, _, _, _, _⟩ rfl (by rfl) 11 _ _ (by rfl) _ (by rfl) Tryd.call11 (cut_law b x.T _ (hTx.below hS.1)) ?_; rintro x wn ⟨u, rfl, hu, hb⟩; replace hS := two_next hS hb; have hU := txtsV_own hu (fun z hz => by have := cutL_short x.T z hz; omega); refine ⟨_, rfl, hS, ?_⟩; (try clear hb)) | (refine flow_call ⟨some 120, _, _, _, _, _⟩ rfl (by rfl) 11 _ _ (by rfl) _ (by rfl) Tryd.call11 (cut_law b' y.T _ (hTy.below hS.1)) ?_; rintro x wn ⟨u', rfl, hu', hb⟩; replace hS := two_next hS hb; have hU' := txtsV_own hu' (fun z hz => by have := cutL_short y.T z hz; omega); replace hU := hU.below hb; refine ⟨_, rfl, hS, ?_⟩; (try clear hb)))
    simp only [Act.put, List.setIfInBounds_toArray, List.set_cons_zero, List.set_cons_succ]
    refine flow_call ⟨some 121, _, _, _, _, _⟩ rfl (by rfl) 29 _ _ (by rfl) _ (by rfl) Tryd.call29 ((by have := sameTexts_any u u' (cutL x.T) (cutL y.T) (by have := cutL_len x.T; omega) _ hU hU' (by have := cutL_len y.T; omega); rw [hs] at this; exact this)) ?_; rintro x wn ⟨rfl, hb⟩; replace hS := two_next hS hb; refine ⟨_, rfl, hS, ?_⟩; (try clear hb)
    simp only [Act.put, List.setIfInBounds_toArray, List.set_cons_zero, List.set_cons_succ]
    refine flow_take ⟨some 8, _, _, _, _, _⟩ ?_ rfl (by rfl) ?_ ?_
    rotate_left 1
    · intro w hSw; (try dsimp only at hSw); go_simp; (try with_reducible rfl)
    simp only [Act.put, List.setIfInBounds_toArray, List.set_cons_zero, List.set_cons_succ]
    simp only [wpFlow, OnlyN]
    replace hB := below_next hB hS.1
    go_wp2_with fail
    have hBV := hB
    go_wp2_with fail
    cases sb
    all_goals
      go_quiet (fail)
      go_wp2_with fail
      go_ret
      exact ⟨rfl, below_drewN' hBV _⟩
end Go.Proofs.YtfnlihadibnnoaaDoor
