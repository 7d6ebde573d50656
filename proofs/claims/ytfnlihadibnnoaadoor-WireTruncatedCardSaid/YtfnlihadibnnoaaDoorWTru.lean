/- WireTruncated: walked once. -/
import Derived.Test.YtfnlihadibnnoaaDoorWEnc
namespace Go.Proofs.YtfnlihadibnnoaaDoor
open Go Go.RowKit Go.Sort Go.Lib
attribute [local go_sem] map_add0

theorem box_next {W w' w2 : World} {B : Nat} {c0 c1 c2 c3 c4 : Value} (h : RowKit.Below W.heap.size W w' ∧ w'.cell? ⟨B, 0, none⟩ = some c0 ∧ w'.cell? ⟨B, 1, none⟩ = some c1 ∧ w'.cell? ⟨B, 2, none⟩ = some c2 ∧ w'.cell? ⟨B, 3, none⟩ = some c3 ∧ w'.cell? ⟨B, 4, none⟩ = some c4) (hb : RowKit.Below w'.heap.size w' w2) :
    RowKit.Below W.heap.size W w2 ∧ w2.cell? ⟨B, 0, none⟩ = some c0 ∧ w2.cell? ⟨B, 1, none⟩ = some c1 ∧ w2.cell? ⟨B, 2, none⟩ = some c2 ∧ w2.cell? ⟨B, 3, none⟩ = some c3 ∧ w2.cell? ⟨B, 4, none⟩ = some c4 :=
  ⟨below_next h.1 hb, mv0 hb h.2.1, mv0 hb h.2.2.1, mv0 hb h.2.2.2.1, mv0 hb h.2.2.2.2.1, mv0 hb h.2.2.2.2.2⟩
theorem box_new (w : World) (c0 c1 c2 c3 c4 : Value) (T : TypeId) : RowKit.Below (w.alloc (.cells #[c0, c1, c2, c3, c4] T)).heap.size (w.alloc (.cells #[c0, c1, c2, c3, c4] T)) (w.alloc (.cells #[c0, c1, c2, c3, c4] T)) ∧ (w.alloc (.cells #[c0, c1, c2, c3, c4] T)).cell? ⟨w.heap.size, 0, none⟩ = some c0 ∧ (w.alloc (.cells #[c0, c1, c2, c3, c4] T)).cell? ⟨w.heap.size, 1, none⟩ = some c1 ∧ (w.alloc (.cells #[c0, c1, c2, c3, c4] T)).cell? ⟨w.heap.size, 2, none⟩ = some c2 ∧ (w.alloc (.cells #[c0, c1, c2, c3, c4] T)).cell? ⟨w.heap.size, 3, none⟩ = some c3 ∧ (w.alloc (.cells #[c0, c1, c2, c3, c4] T)).cell? ⟨w.heap.size, 4, none⟩ = some c4 :=
  ⟨Below.refl _ _, Lib.cell_of_heap (heap_alloc_new w _) 0, Lib.cell_of_heap (heap_alloc_new w _) 1, Lib.cell_of_heap (heap_alloc_new w _) 2, Lib.cell_of_heap (heap_alloc_new w _) 3, Lib.cell_of_heap (heap_alloc_new w _) 4⟩
theorem kind_of {n : Int} (h0 : 0 ≤ n) : ∃ k : Nat, k ≤ 3 ∧ n.tmod 4 = k := ⟨(n.tmod 4).toNat, by rw [Int.tmod_eq_emod_of_nonneg h0]; omega, by rw [Int.tmod_eq_emod_of_nonneg h0]; omega⟩
set_option maxHeartbeats 8000000 in
set_option maxRecDepth 100000 in
theorem truncated_any {w : World} (x : Val) (a b : Value) (hV : ValAt w (.int .u8 x.kind) (.int .i64 x.n) (.string x.s) a b x) (m : Int) (m0 : 0 ≤ m) (m1 : m ≤ 65535) (hr : Ready w) :
    Calls Tryd.prog 7 #[.agg #[.int .u8 x.kind, .int .i64 x.n, .string x.s, a, b], .int .u16 m] w fun e w' => e = .returned (.bool true) ∧ RowKit.Below w.heap.size w w' := by
  have hOk := hV.ok
  obtain ⟨-, ⟨hk0, hk1⟩, hF, hz, ⟨hI, hsh⟩, hT⟩ := hV
  obtain ⟨A, c, rfl, hc, hm⟩ := hsh.gen
  obtain ⟨k, hk, hkm⟩ := kind_of hk0
  have hkI : (k : Int) < 4 := by omega
  have hX := box_new w (.int .u8 x.kind) (.int .i64 x.n) (.string x.s) (.slice A x.L.length c) b 45
  have hb := below_alloc1 w (.cells #[.int .u8 x.kind, .int .i64 x.n, .string x.s, .slice A x.L.length c, b] 45)
  go_enter Tryd.func7, Tryd.ntmps7
  go_wp2_with fail
  replace hr := hr.below hb
  replace hI := hI.below hb
  replace hT := hT.below hb
  have hB := hb
  clear hb
  generalize w.alloc (.cells #[.int .u8 x.kind, .int .i64 x.n, .string x.s, .slice A x.L.length c, b] 45) = w0 at hX hr hI hT hB ⊢
  refine (sanity_any _ hr).mono ?_
  rintro _ W ⟨rfl, hb⟩
  replace hX := box_next hX hb
  replace hr := hr.below hb
  replace hI := hI.below hb
  replace hT := hT.below hb
  replace hB := below_next hB hb
  clear hb
  obtain ⟨-, x0, x1, x2, x3, x4⟩ := hX
  go_wp2_with fail
  have hcl := clip_size x.s
  have hb0 : (0 : Int) ≤ min (x.s.size : Int) 100 := by omega
  have hb1 : min (x.s.size : Int) 100 ≤ x.s.size := by omega
  have hb2 : (0 : Int) ≤ min (x.L.length : Int) 20 := by omega
  have hb3 : min (x.L.length : Int) 20 ≤ c := by omega
  have hcut : (min (x.L.length : Int) 20).toNat = (x.L.take 20).length := by rw [List.length_take]; omega
  have hl20 : (x.L.take 20).length ≤ 20 := by rw [List.length_take]; omega
  have hd : RowKit.Below W.heap.size W W.drew ∧ W.drew.cell? ⟨w.heap.size, 0, none⟩ = some (.int .u8 x.kind) ∧ W.drew.cell? ⟨w.heap.size, 1, none⟩ = some (.int .i64 x.n) ∧ W.drew.cell? ⟨w.heap.size, 2, none⟩ = some (.string x.s) ∧ W.drew.cell? ⟨w.heap.size, 3, none⟩ = some (.slice A x.L.length c) ∧ W.drew.cell? ⟨w.heap.size, 4, none⟩ = some b := ⟨(Below.refl _ _).drew, x0, x1, x2, x3, x4⟩
  have cT := fun w ht => wireText_any (clip x.s) w (by omega) ht
  have hIt := hI.take 20 c
  rw [List.length_take] at hIt
  refine of_onlyN ?_ (fun _ _ h => h)
  refine wp_region_flow (S := fun w' => RowKit.Below W.heap.size W w' ∧ w'.cell? ⟨w.heap.size, 0, none⟩ = some (.int .u8 x.kind) ∧ w'.cell? ⟨w.heap.size, 1, none⟩ = some (.int .i64 x.n) ∧ w'.cell? ⟨w.heap.size, 2, none⟩ = some (.string x.s) ∧ w'.cell? ⟨w.heap.size, 3, none⟩ = some (.slice A x.L.length c) ∧ w'.cell? ⟨w.heap.size, 4, none⟩ = some b) [(0, true), (1, true), (3, true), (4, true), (5, true), (6, true), (7, true), (8, true), (9, true), (11, true), (12, true), (13, true), (14, true), (15, true), (16, true), (17, true), (19, true), (20, true), (24, true), (25, true), (26, true), (2, false), (10, false), (18, false), (21, false), (22, false), (23, false), (27, true), (28, false), (29, true)] (by kernel_rfl) (by kernel_rfl) (by kernel_rfl) (by decide) (hd) ?_
  have hS := hd
  refine flow_take ⟨some 10, _, _, _, _, _⟩ ?_ rfl (by rfl) ?_ ?_
  rotate_left 1
  · intro w hSw; (try dsimp only at hSw); go_simp; (try with_reducible rfl)
  simp only [Act.put, List.setIfInBounds_toArray, List.set_cons_zero, List.set_cons_succ]
  refine flow_take ⟨some 11, _, _, _, _, _⟩ ?_ rfl (by rfl) ?_ ?_
  rotate_left 1
  · intro w hSw; (try dsimp only at hSw); go_simp; (try with_reducible rfl)
  simp only [Act.put, List.setIfInBounds_toArray, List.set_cons_zero, List.set_cons_succ]
  refine flow_take ⟨some 13, _, _, _, _, _⟩ ?_ rfl (by rfl) ?_ ?_
  rotate_left 1
  · intro w hSw; (try dsimp only at hSw); go_simp; (try with_reducible rfl)
  simp only [Act.put, List.setIfInBounds_toArray, List.set_cons_zero, List.set_cons_succ]
  refine flow_take ⟨some 14, _, _, _, _, _⟩ ?_ rfl (by rfl) ?_ ?_
  rotate_left 1
  · intro w hSw; (try dsimp only at hSw); go_simp; (try with_reducible rfl)
  simp only [Act.put, List.setIfInBounds_toArray, List.set_cons_zero, List.set_cons_succ]
  refine flow_take ⟨some 15, _, _, _, _, _⟩ ?_ rfl (by rfl) ?_ ?_
  rotate_left 1
  · intro w hSw; (try dsimp only at hSw); go_simp; (try with_reducible rfl)
  simp only [Act.put, List.setIfInBounds_toArray, List.set_cons_zero, List.set_cons_succ]
  refine flow_take ⟨some 16, _, _, _, _, _⟩ ?_ rfl (by rfl) ?_ ?_
  rotate_left 1
  · intro w hSw; (try dsimp only at hSw); go_simp; (try with_reducible rfl)
  simp only [Act.put, List.setIfInBounds_toArray, List.set_cons_zero, List.set_cons_succ]
  refine flow_take ⟨some 17, _, _, _, _, _⟩ ?_ rfl (by rfl) ?_ ?_
  rotate_left 1
  · intro w hSw; (try dsimp only at hSw); go_simp; (try with_reducible rfl)
  simp only [Act.put, List.setIfInBounds_toArray, List.set_cons_zero, List.set_cons_succ]
  refine flow_take ⟨some 18, _, _, _, _, _⟩ ?_ rfl (by rfl) ?_ ?_
  rotate_left 1
  · intro w hSw; (try dsimp only at hSw); go_simp; (try with_reducible rfl)
  simp only [Act.put, List.setIfInBounds_toArray, List.set_cons_zero, List.set_cons_succ]
  refine flow_take ⟨some 19, _, _, _, _, _⟩ ?_ rfl (by rfl) ?_ ?_
  rotate_left 1
  · intro w hSw; (try dsimp only at hSw); go_simp; (try with_reducible rfl)
  simp only [Act.put, List.setIfInBounds_toArray, List.set_cons_zero, List.set_cons_succ]
  refine flow_take ⟨some 21, _, _, _, _, _⟩ ?_ rfl (by rfl) ?_ ?_
  rotate_left 1
  · intro w hSw; (try dsimp only at hSw); go_simp; (try with_reducible rfl)
  simp only [Act.put, List.setIfInBounds_toArray, List.set_cons_zero, List.set_cons_succ]
  refine flow_take ⟨some 22, _, _, _, _, _⟩ ?_ rfl (by rfl) ?_ ?_
  rotate_left 1
  · intro w hSw; (try dsimp only at hSw); go_simp; (try with_reducible rfl)
  simp only [Act.put, List.setIfInBounds_toArray, List.set_cons_zero, List.set_cons_succ]
  refine flow_take ⟨some 23, _, _, _, _, _⟩ ?_ rfl (by rfl) ?_ ?_
  rotate_left 1
  · intro w hSw; (try dsimp only at hSw); go_simp; (try with_reducible rfl)
  simp only [Act.put, List.setIfInBounds_toArray, List.set_cons_zero, List.set_cons_succ]
  refine flow_take ⟨some 24, _, _, _, _, _⟩ ?_ rfl (by rfl) ?_ ?_
  rotate_left 1
  · intro w hSw; (try dsimp only at hSw); go_simp; (try with_reducible rfl)
  simp only [Act.put, List.setIfInBounds_toArray, List.set_cons_zero, List.set_cons_succ]
  refine flow_take ⟨some 25, _, _, _, _, _⟩ ?_ rfl (by rfl) ?_ ?_
  rotate_left 1
  · intro w hSw; (try dsimp only at hSw); go_simp; (try with_reducible rfl)
  simp only [Act.put, List.setIfInBounds_toArray, List.set_cons_zero, List.set_cons_succ]
  refine flow_take ⟨some 26, _, _, _, _, _⟩ ?_ rfl (by rfl) ?_ ?_
  rotate_left 1
  · intro w hSw; (try dsimp only at hSw); go_simp; (try with_reducible rfl)
  simp only [Act.put, List.setIfInBounds_toArray, List.set_cons_zero, List.set_cons_succ]
  refine flow_take ⟨some 27, _, _, _, _, _⟩ ?_ rfl (by rfl) ?_ ?_
  rotate_left 1
  · intro w hSw; (try dsimp only at hSw); go_simp; (try with_reducible rfl)
  simp only [Act.put, List.setIfInBounds_toArray, List.set_cons_zero, List.set_cons_succ]
  refine flow_take ⟨some 29, _, _, _, _, _⟩ ?_ rfl (by rfl) ?_ ?_
  rotate_left 1
  · intro w hSw; (try dsimp only at hSw); go_simp; (try with_reducible rfl)
  simp only [Act.put, List.setIfInBounds_toArray, List.set_cons_zero, List.set_cons_succ]
  refine flow_take ⟨some 30, _, _, _, _, _⟩ ?_ rfl (by rfl) ?_ ?_
  rotate_left 1
  · intro w hSw; (try dsimp only at hSw); go_simp; (try with_reducible rfl)
  simp only [Act.put, List.setIfInBounds_toArray, List.set_cons_zero, List.set_cons_succ]
  refine flow_take ⟨some 34, _, _, _, _, _⟩ ?_ rfl (by rfl) ?_ ?_
  rotate_left 1
  · intro w hSw; (try dsimp only at hSw); go_simp; (try with_reducible rfl)
  simp only [Act.put, List.setIfInBounds_toArray, List.set_cons_zero, List.set_cons_succ]
  refine flow_take ⟨some 35, _, _, _, _, _⟩ ?_ rfl (by rfl) ?_ ?_
  rotate_left 1
  · intro w hSw; (try dsimp only at hSw); go_simp; (try with_reducible rfl)
  simp only [Act.put, List.setIfInBounds_toArray, List.set_cons_zero, List.set_cons_succ]
  refine flow_take ⟨some 36, _, _, _, _, _⟩ ?_ rfl (by rfl) ?_ ?_
  rotate_left 1
  · intro w hSw; (try dsimp only at hSw); go_simp; (try with_reducible rfl)
  simp only [Act.put, List.setIfInBounds_toArray, List.set_cons_zero, List.set_cons_succ]
  refine flow_call ⟨some 12, _, _, _, _, _⟩ rfl (by rfl) 12 _ _ (by rfl) _ (by rfl) Tryd.call12 (wireInt_any x.n _ hF.1 hF.2 (hr.below hS.1).sane.1) ?_; rintro x wn ⟨rfl, hb⟩; replace hS := box_next hS hb; refine ⟨_, rfl, hS, ?_⟩; (try clear hb)
  simp only [Act.put, List.setIfInBounds_toArray, List.set_cons_zero, List.set_cons_succ]
  refine flow_call ⟨some 20, _, _, _, _, _⟩ rfl (by rfl) 14 _ _ (by rfl) _ (by rfl) Tryd.call14 (cT _ (hr.below hS.1).sane.1) ?_; rintro x wn ⟨rfl, hb⟩; replace hS := box_next hS hb; refine ⟨_, rfl, hS, ?_⟩; (try clear hb)
  simp only [Act.put, List.setIfInBounds_toArray, List.set_cons_zero, List.set_cons_succ]
  refine flow_call ⟨some 28, _, _, _, _, _⟩ rfl (by rfl) 16 _ _ (by rfl) _ (by rfl) Tryd.call16 (wireIntsV_any (.slice A (min 20 x.L.length) c) (x.L.take 20) (by omega) _ (hIt.below hS.1) (hr.below hS.1).sane.1) ?_; rintro x wn ⟨rfl, hb⟩; replace hS := box_next hS hb; refine ⟨_, rfl, hS, ?_⟩; (try clear hb)
  simp only [Act.put, List.setIfInBounds_toArray, List.set_cons_zero, List.set_cons_succ]
  refine flow_call ⟨some 31, _, _, _, _, _⟩ rfl (by rfl) 11 _ _ (by rfl) _ (by rfl) Tryd.call11 (cut_law b x.T _ (hT.below hS.1)) ?_; rintro x wn ⟨u, rfl, hu, hb⟩; replace hS := box_next hS hb; have hU := txtsV_own hu (fun y hy => by have := cutL_short x.T y hy; omega); refine ⟨_, rfl, hS, ?_⟩; (try clear hb)
  simp only [Act.put, List.setIfInBounds_toArray, List.set_cons_zero, List.set_cons_succ]
  refine flow_call ⟨some 32, _, _, _, _, _⟩ rfl (by rfl) 18 _ _ (by rfl) _ (by rfl) Tryd.call18 (wireTextsV_any u (cutL x.T) (by have := cutL_len x.T; omega) _ hU (hr.below hS.1).sane.1) ?_; rintro x wn ⟨rfl, hb⟩; replace hS := box_next hS hb; refine ⟨_, rfl, hS, ?_⟩; (try clear hb)
  simp only [Act.put, List.setIfInBounds_toArray, List.set_cons_zero, List.set_cons_succ]
  refine flow_run ⟨some 33, _, _, _, _, _⟩ (.slice (some ⟨wn.heap.size, 0, none⟩) 4 4) (wn.alloc (.cells #[.string ⟨(wInt x.n).toArray⟩, .string ⟨(wText (clip x.s)).toArray⟩, .string ⟨(wInts (x.L.take 20)).toArray⟩, .string ⟨(wTexts (cutL x.T)).toArray⟩] 9)) rfl (by rfl) (by go_simp) (box_next hS (below_alloc1 _ _)) ?_; have hrow := enc_at wn x 9 hk; replace hS := box_next hS (below_alloc1 wn (.cells #[.string ⟨(wInt x.n).toArray⟩, .string ⟨(wText (clip x.s)).toArray⟩, .string ⟨(wInts (x.L.take 20)).toArray⟩, .string ⟨(wTexts (cutL x.T)).toArray⟩] 9)); generalize wn.alloc (.cells #[.string ⟨(wInt x.n).toArray⟩, .string ⟨(wText (clip x.s)).toArray⟩, .string ⟨(wInts (x.L.take 20)).toArray⟩, .string ⟨(wTexts (cutL x.T)).toArray⟩] 9) = V at hrow hS ⊢
  simp only [Act.put, List.setIfInBounds_toArray, List.set_cons_zero, List.set_cons_succ]
  refine flow_take ⟨some 37, _, _, _, _, _⟩ ?_ rfl (by rfl) ?_ ?_
  rotate_left 1
  · intro w hSw; (try dsimp only at hSw); go_simp; (try with_reducible rfl)
  simp only [Act.put, List.setIfInBounds_toArray, List.set_cons_zero, List.set_cons_succ]
  refine flow_run ⟨some 38, _, _, _, _, _⟩ (.string ⟨(encK k x).toArray⟩) V rfl (by rfl) (by go_simp) hS ?_
  (try simp only [Act.put, List.setIfInBounds_toArray, List.set_cons_zero, List.set_cons_succ])
  refine flow_take ⟨some 6, _, _, _, _, _⟩ ?_ rfl (by rfl) ?_ ?_
  rotate_left 1
  · intro w hSw; (try dsimp only at hSw); go_simp; (try with_reducible rfl)
  simp only [Act.put, List.setIfInBounds_toArray, List.set_cons_zero, List.set_cons_succ]
  simp only [wpFlow, OnlyN]
  have hlen := encK_len k x hOk
  have htr : ∀ s q, encK k x = s ++ q → q ≠ [] → decN k s := fun s q h hq => trunc_none hOk h hq
  replace hr := hr.below hS.1
  replace hB := below_next hB hS.1
  obtain ⟨-, x0, -, -, -, -⟩ := hS
  clear hrow hd hcut hU hu hIt cT hI hT x1 x2 x3 x4 hb0 hb1 hb2 hb3 hl20 hcl hsh hc hm hOk hF hz
  generalize encK k x = E at hlen htr ⊢
  obtain ⟨he0, he1⟩ := hlen
  have hez : (⟨E.toArray⟩ : ByteArray).size = E.length := by simp [ByteArray.size]
  have hq0 : ((E.length : Int) == 0) = false := by rw [beq_eq_false_iff_ne]; omega
  have hq1 : (E.length : Int) ≠ 0 := by omega
  have hw1 : IntKind.i64.wrap ((E.length : Int) - 1) = (E.length : Int) - 1 := IntWalk.i64_in _ (by omega)
  have htm : m.tmod E.length = m % E.length := Int.tmod_eq_emod_of_nonneg m0
  have ht0 : 0 ≤ m % E.length := Int.emod_nonneg _ hq1
  have ht1 : m % E.length < E.length := Int.emod_lt_of_pos _ (by omega)
  obtain ⟨j, hj⟩ : ∃ j : Nat, (E.length : Int) - 1 - m % E.length = j := ⟨((E.length : Int) - 1 - m % E.length).toNat, by omega⟩
  have hjl : j < E.length := by omega
  have hw2 : wrap64 ((E.length : Int) - 1 - m % E.length) = j := by rw [hj]; exact IntWalk.wrap64_in _ (by omega)
  have hj0 : (0 : Int) ≤ j := by omega
  have hj1 : (j : Int) ≤ E.length := by omega
  have hdn : decN k (E.take j) := htr _ (E.drop j) (List.take_append_drop j E).symm (fun e => by have := congrArg List.length e; simp at this; omega)
  have hext : (⟨E.toArray⟩ : ByteArray).extract 0 j = ⟨(E.take j).toArray⟩ := ba_ext (by simp [ByteArray.data_extract])
  have hjz : (E.take j).length ≤ 100000000 := by rw [List.length_take]; omega
  clear htr ht0 ht1
  go_wp2_with fail
  refine (new_any _ V).mono ?_
  rintro _ V2 ⟨p, rfl, hp, hR, hb⟩
  have hP := hr.past hp
  have hps : w.heap.size ≤ p := Nat.le_trans hB.size hp
  have hpne : w.heap.size ≠ p := by have := World.block_lt_of_cell? V _ x0; simp only at this; omega
  replace hB := below_next hB hb
  replace hr := hr.below hb
  replace x0 := mv0 hb x0
  clear hb hp
  have cd := decodes_none p hP (E.take j) hjz false k hk (.inr hdn) V2 hR hr
  unfold Spent at cd
  go_wp2_with fail
  refine cd.mono ?_
  rintro _ V3 ⟨rfl, hR2, hb⟩
  have hs2 := hB.size
  replace hB := hB.trans (hb.below hps hs2)
  replace hr := hr.but hb hP
  clear hb cd hR hdn
  have cb := bad_any p _ _ _ hR2
  go_wp2_with fail
  refine cb.mono ?_
  rintro _ _ ⟨rfl, rfl⟩
  clear cb
  go_wp2_with fail
  go_loopw [8] (fun i wr => ∃ k : Nat, k ≤ 4 ∧ i = .int .i64 k ∧ RowKit.Below w.heap.size w wr ∧ Ready wr ∧ RdAt wr p ⟨#[]⟩ true) (fun i _ => 4 - (RowKit.intOf i).toNat)
  case atStart => exact ⟨0, by omega, rfl, hB, hr, hR2⟩
  case round =>
    clear hB hr hR2
    obtain ⟨k, hk, rfl, hB, hr, hR⟩ := hrel
    by_cases hlt : k < 4
    · have cd := decodes_none p hP [] (by simp) true k (by omega) (.inl rfl) wr hR hr
      unfold Spent at cd
      go_wp2_with fail
      refine cd.mono ?_
      rintro _ V4 ⟨rfl, hR2, hb⟩
      have hs2 := hB.size
      replace hB := hB.trans (hb.below hps hs2)
      replace hr := hr.but hb hP
      clear hb cd hR
      have cb := bad_any p _ _ _ hR2
      have cl := left_any p _ _ _ hR2
      rw [if_pos rfl] at cl
      go_wp2_with fail
      refine cb.mono ?_
      rintro _ _ ⟨rfl, rfl⟩
      go_wp2_with fail
      refine cl.mono ?_
      rintro _ _ ⟨rfl, rfl⟩
      go_wp2_with fail
      go_roundw
      case rel => exact ⟨k + 1, by omega, by go_num, hB, hr, hR2⟩
      case measure => simp [RowKit.intOf]; omega
    · obtain rfl : k = 4 := by omega
      go_wp2_with fail
      go_ret
      exact ⟨rfl, hB⟩
end Go.Proofs.YtfnlihadibnnoaaDoor
