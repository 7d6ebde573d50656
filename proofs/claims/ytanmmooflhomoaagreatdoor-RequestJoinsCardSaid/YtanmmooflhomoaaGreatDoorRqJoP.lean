/- The law RequestJoins: its drawn region as a piece. -/
import Derived.Test.YtanmmooflhomoaaGreatDoorRqJs
import Derived.Test.YtanmmooflhomoaaGreatDoorRqCut
namespace Go.Proofs.YtanmmooflhomoaaGreatDoor
open Go Go.Proofs Go.RowKit Go.Sort Go.Lib

theorem jo_keep {W w w' : World} {eb : Nat} {x y : Value} (hl : eb < W.heap.size) (h : RowKit.Below W.heap.size W w ∧ w.cell? ⟨eb, 0, none⟩ = some x ∧ w.cell? ⟨eb, 1, none⟩ = some y) (hb : RowKit.Below w.heap.size w w') : RowKit.Below W.heap.size W w' ∧ w'.cell? ⟨eb, 0, none⟩ = some x ∧ w'.cell? ⟨eb, 1, none⟩ = some y :=
  ⟨below_next h.1 hb, (hb.cell (p := ⟨eb, 0, none⟩) (Nat.lt_of_lt_of_le hl h.1.size)).trans h.2.1, (hb.cell (p := ⟨eb, 1, none⟩) (Nat.lt_of_lt_of_le hl h.1.size)).trans h.2.2⟩

set_option maxHeartbeats 4000000 in
set_option maxRecDepth 100000 in
theorem joins_r7 {s0 s1 s2 s3 s4 s5 s6 s7 s8 s9 s11 s12 s13 s14 s15 s16 s17 s18 s19 s20 s21 s22 s23 s24 s25 s26 s27 s28 s29 s30 s31 s32 s33 s34 s35 s36 s37 s38 s39 s40 s41 s42 s43 s44 s45 s46 s47 s48 s49 s50 s51 s52 s53 s54 s55 s56 s57 s58 s59 s60 s61 s62 s63 s64 s65 s66 s67 s68 s69 s70 s71 s72 s73 s74 s75 s76 s77 s78 : Value} (eb : Nat) (x y : Value) (X Y : List Req) (W : World) (Q : Exit → Act → World → Prop) (h0 : W.cell? ⟨eb, 0, none⟩ = some x) (h1 : W.cell? ⟨eb, 1, none⟩ = some y) (hx : ReqsIn W x X) (hy : ReqsIn W y Y) (hlx : X.length ≤ 30) (hly : Y.length ≤ 30) (hsx : ∀ r ∈ X, r.Small) (hsy : ∀ r ∈ Y, r.Small) (ht : Tabs W)
    (hQ : ∀ (u42 u43 u44 u45 u46 u47 u48 u49 u50 u51 u52 u53 u54 u55 u56 u57 u58 u59 u60 u61 u62 u63 u64 u65 u66 u67 u68 u69 u70 u71 u72 u73 u74 u75 : Value) (wx : World), RowKit.Below W.heap.size W wx → Q .normal ⟨List.toArray (s0 :: s1 :: s2 :: s3 :: s4 :: s5 :: s6 :: s7 :: s8 :: s9 :: .pointer (some ⟨eb, 0, none⟩) :: s11 :: s12 :: s13 :: s14 :: s15 :: s16 :: s17 :: s18 :: s19 :: s20 :: s21 :: s22 :: s23 :: s24 :: s25 :: s26 :: s27 :: s28 :: s29 :: s30 :: s31 :: s32 :: s33 :: s34 :: s35 :: s36 :: s37 :: s38 :: s39 :: s40 :: s41 :: u42 :: u43 :: u44 :: u45 :: u46 :: u47 :: u48 :: u49 :: u50 :: u51 :: u52 :: u53 :: u54 :: u55 :: u56 :: u57 :: u58 :: u59 :: u60 :: u61 :: u62 :: u63 :: u64 :: u65 :: u66 :: u67 :: u68 :: u69 :: u70 :: u71 :: u72 :: u73 :: u74 :: u75 :: .bool false :: s77 :: s78 :: []), []⟩ wx) :
    (regionOf Tryz.f3 7).wp Tryz.prog Q ⟨List.toArray (s0 :: s1 :: s2 :: s3 :: s4 :: s5 :: s6 :: s7 :: s8 :: s9 :: .pointer (some ⟨eb, 0, none⟩) :: s11 :: s12 :: s13 :: s14 :: s15 :: s16 :: s17 :: s18 :: s19 :: s20 :: s21 :: s22 :: s23 :: s24 :: s25 :: s26 :: s27 :: s28 :: s29 :: s30 :: s31 :: s32 :: s33 :: s34 :: s35 :: s36 :: s37 :: s38 :: s39 :: s40 :: s41 :: s42 :: s43 :: s44 :: s45 :: s46 :: s47 :: s48 :: s49 :: s50 :: s51 :: s52 :: s53 :: s54 :: s55 :: s56 :: s57 :: s58 :: s59 :: s60 :: s61 :: s62 :: s63 :: s64 :: s65 :: s66 :: s67 :: s68 :: s69 :: s70 :: s71 :: s72 :: s73 :: s74 :: s75 :: s76 :: s77 :: s78 :: []), []⟩ W := by
  refine of_onlyN (K := Q .normal) ?_ (fun _ _ h => h)
  generalize Q .normal = K at hQ ⊢
  have HQ := Lib.hid hQ; clear hQ
  conv => arg 2; whnf
  have hlb := World.block_lt_of_cell? W _ h0
  have hS0 : RowKit.Below W.heap.size W W.drew ∧ W.drew.cell? ⟨eb, 0, none⟩ = some x ∧ W.drew.cell? ⟨eb, 1, none⟩ = some y := ⟨(Below.refl _ _).drew, h0, h1⟩
  have SX := Lib.hid hsx
  have SY := Lib.hid hsy
  have SXY := Lib.hid (small_app hsx hsy)
  have HT := Lib.hid ht
  clear hsx hsy ht
  refine of_onlyN ?_ (fun _ _ h => h)
  refine wp_region_flow (S := fun w' => RowKit.Below W.heap.size W w' ∧ w'.cell? ⟨eb, 0, none⟩ = some x ∧ w'.cell? ⟨eb, 1, none⟩ = some y) [(0, true), (1, true), (2, true), (3, true), (5, true), (6, true), (7, true), (8, true), (4, false), (9, false), (10, false), (11, true), (12, true), (13, true), (14, true), (15, true), (16, true), (18, true), (19, true), (20, true), (21, true), (17, false), (22, false), (23, false), (24, true), (25, true), (26, true), (27, true), (28, true), (30, true), (31, true), (29, false), (32, false), (33, true), (34, true)] (by kernel_rfl) (by kernel_rfl) (by kernel_rfl) (by decide) (hS0) ?_
  have hS := hS0
  refine flow_take ⟨some 42, _, _, _, _, _⟩ ?_ rfl (by rfl) ?_ ?_
  rotate_left 1
  · intro w hSw; (try dsimp only at hSw); go_simp; (try with_reducible rfl)
  simp only [Act.put, List.setIfInBounds_toArray, List.set_cons_zero, List.set_cons_succ]
  refine flow_take ⟨some 43, _, _, _, _, _⟩ ?_ rfl (by rfl) ?_ ?_
  rotate_left 1
  · intro w hSw; (try dsimp only at hSw); go_simp; (try with_reducible rfl)
  simp only [Act.put, List.setIfInBounds_toArray, List.set_cons_zero, List.set_cons_succ]
  refine flow_take ⟨some 44, _, _, _, _, _⟩ ?_ rfl (by rfl) ?_ ?_
  rotate_left 1
  · intro w hSw; (try dsimp only at hSw); go_simp; (try with_reducible rfl)
  simp only [Act.put, List.setIfInBounds_toArray, List.set_cons_zero, List.set_cons_succ]
  refine flow_take ⟨some 45, _, _, _, _, _⟩ ?_ rfl (by rfl) ?_ ?_
  rotate_left 1
  · intro w hSw; (try dsimp only at hSw); go_simp; (try with_reducible rfl)
  simp only [Act.put, List.setIfInBounds_toArray, List.set_cons_zero, List.set_cons_succ]
  refine flow_take ⟨some 47, _, _, _, _, _⟩ ?_ rfl (by rfl) ?_ ?_
  rotate_left 1
  · intro w hSw; (try dsimp only at hSw); go_simp; (try with_reducible rfl)
  simp only [Act.put, List.setIfInBounds_toArray, List.set_cons_zero, List.set_cons_succ]
  refine flow_take ⟨some 48, _, _, _, _, _⟩ ?_ rfl (by rfl) ?_ ?_
  rotate_left 1
  · intro w hSw; (try dsimp only at hSw); go_simp; (try with_reducible rfl)
  simp only [Act.put, List.setIfInBounds_toArray, List.set_cons_zero, List.set_cons_succ]
  refine flow_take ⟨some 49, _, _, _, _, _⟩ ?_ rfl (by rfl) ?_ ?_
  rotate_left 1
  · intro w hSw; (try dsimp only at hSw); go_simp; (try with_reducible rfl)
  simp only [Act.put, List.setIfInBounds_toArray, List.set_cons_zero, List.set_cons_succ]
  refine flow_take ⟨some 50, _, _, _, _, _⟩ ?_ rfl (by rfl) ?_ ?_
  rotate_left 1
  · intro w hSw; (try dsimp only at hSw); go_simp; (try with_reducible rfl)
  simp only [Act.put, List.setIfInBounds_toArray, List.set_cons_zero, List.set_cons_succ]
  refine flow_call ⟨some 46, _, _, _, _, _⟩ rfl (by rfl) 9 _ _ (by rfl) _ (by rfl) Tryz.call9 (join_is SXY.out (by omega) _ _ _ (hx.below hS.1) (hy.below hS.1)) ?_; rintro x wn ⟨v46, J, rfl, hJ, hlJ, r46, hb⟩; replace hS := jo_keep hlb hS hb; have lJ : J.length ≤ 60 := (by simp at hlJ; omega); refine ⟨_, rfl, hS, ?_⟩; (try clear hb)
  simp only [Act.put, List.setIfInBounds_toArray, List.set_cons_zero, List.set_cons_succ]
  refine flow_call ⟨some 51, _, _, _, _, _⟩ rfl (by rfl) 10 _ _ (by rfl) _ (by rfl) Tryz.call10 (refJoin_any _ _ X Y _ (hx.below hS.1) (hy.below hS.1) (by omega)) ?_; rintro x wn ⟨v51, J2, rfl, hJ2, r51, hb⟩; replace hS := jo_keep hlb hS hb; obtain rfl : J2 = J := hJ2.same hJ; replace r46 := r46.below hb; refine ⟨_, rfl, hS, ?_⟩; (try clear hb)
  simp only [Act.put, List.setIfInBounds_toArray, List.set_cons_zero, List.set_cons_succ]
  (first | (refine flow_call ⟨some 52, _, _, _, _, _⟩ rfl (by rfl) 8 _ _ (by rfl) _ (by rfl) Tryz.call8 (same_at rfl (by omega) _ _ _ r46 r51) ?_; rintro x wn ⟨rfl, hb⟩; replace hS := jo_keep hlb hS hb; refine ⟨_, rfl, hS, ?_⟩; (try clear hb)) | (refine flow_call ⟨some 52, _, _, _, _, _⟩ rfl (by rfl) 8 _ _ (by rfl) _ (by rfl) Tryz.call8 (same_at rfl (by omega) _ _ _ r59 r64) ?_; rintro x wn ⟨rfl, hb⟩; replace hS := jo_keep hlb hS hb; refine ⟨_, rfl, hS, ?_⟩; (try clear hb)))
  simp only [Act.put, List.setIfInBounds_toArray, List.set_cons_zero, List.set_cons_succ]
  refine flow_take ⟨some 53, _, _, _, _, _⟩ ?_ rfl (by rfl) ?_ ?_
  rotate_left 1
  · intro w hSw; (try dsimp only at hSw); go_simp; (try with_reducible rfl)
  simp only [Act.put, List.setIfInBounds_toArray, List.set_cons_zero, List.set_cons_succ]
  refine flow_take ⟨some 54, _, _, _, _, _⟩ ?_ rfl (by rfl) ?_ ?_
  rotate_left 1
  · intro w hSw; (try dsimp only at hSw); go_simp; (try with_reducible rfl)
  simp only [Act.put, List.setIfInBounds_toArray, List.set_cons_zero, List.set_cons_succ]
  refine flow_take ⟨some 55, _, _, _, _, _⟩ ?_ rfl (by rfl) ?_ ?_
  rotate_left 1
  · intro w hSw; (try dsimp only at hSw); go_simp; (try with_reducible rfl)
  simp only [Act.put, List.setIfInBounds_toArray, List.set_cons_zero, List.set_cons_succ]
  refine flow_take ⟨some 56, _, _, _, _, _⟩ ?_ rfl (by rfl) ?_ ?_
  rotate_left 1
  · intro w hSw; (try dsimp only at hSw); go_simp; (try with_reducible rfl)
  simp only [Act.put, List.setIfInBounds_toArray, List.set_cons_zero, List.set_cons_succ]
  refine flow_take ⟨some 57, _, _, _, _, _⟩ ?_ rfl (by rfl) ?_ ?_
  rotate_left 1
  · intro w hSw; (try dsimp only at hSw); go_simp; (try with_reducible rfl)
  simp only [Act.put, List.setIfInBounds_toArray, List.set_cons_zero, List.set_cons_succ]
  refine flow_take ⟨some 58, _, _, _, _, _⟩ ?_ rfl (by rfl) ?_ ?_
  rotate_left 1
  · intro w hSw; (try dsimp only at hSw); go_simp; (try with_reducible rfl)
  simp only [Act.put, List.setIfInBounds_toArray, List.set_cons_zero, List.set_cons_succ]
  refine flow_take ⟨some 60, _, _, _, _, _⟩ ?_ rfl (by rfl) ?_ ?_
  rotate_left 1
  · intro w hSw; (try dsimp only at hSw); go_simp; (try with_reducible rfl)
  simp only [Act.put, List.setIfInBounds_toArray, List.set_cons_zero, List.set_cons_succ]
  refine flow_take ⟨some 61, _, _, _, _, _⟩ ?_ rfl (by rfl) ?_ ?_
  rotate_left 1
  · intro w hSw; (try dsimp only at hSw); go_simp; (try with_reducible rfl)
  simp only [Act.put, List.setIfInBounds_toArray, List.set_cons_zero, List.set_cons_succ]
  refine flow_take ⟨some 62, _, _, _, _, _⟩ ?_ rfl (by rfl) ?_ ?_
  rotate_left 1
  · intro w hSw; (try dsimp only at hSw); go_simp; (try with_reducible rfl)
  simp only [Act.put, List.setIfInBounds_toArray, List.set_cons_zero, List.set_cons_succ]
  refine flow_take ⟨some 63, _, _, _, _, _⟩ ?_ rfl (by rfl) ?_ ?_
  rotate_left 1
  · intro w hSw; (try dsimp only at hSw); go_simp; (try with_reducible rfl)
  simp only [Act.put, List.setIfInBounds_toArray, List.set_cons_zero, List.set_cons_succ]
  refine flow_call ⟨some 59, _, _, _, _, _⟩ rfl (by rfl) 11 _ _ (by rfl) _ (by rfl) Tryz.call11 (missing_is SX.out SY.out (by omega) (by omega) _ _ _ (hx.below hS.1) (hy.below hS.1)) ?_; rintro x wn ⟨v59, M, rfl, hM, hlM, r59, hb⟩; replace hS := jo_keep hlb hS hb; have lM : M.length ≤ 60 := Nat.le_trans hlM (Nat.le_trans (List.length_filter_le _ _) (by omega)); refine ⟨_, rfl, hS, ?_⟩; (try clear hb)
  simp only [Act.put, List.setIfInBounds_toArray, List.set_cons_zero, List.set_cons_succ]
  refine flow_call ⟨some 64, _, _, _, _, _⟩ rfl (by rfl) 12 _ _ (by rfl) _ (by rfl) Tryz.call12 (refMissing_any _ _ X Y _ (hx.below hS.1) (hy.below hS.1) (by omega) (by omega)) ?_; rintro x wn ⟨v64, M2, rfl, hM2, r64, hb⟩; replace hS := jo_keep hlb hS hb; obtain rfl : M2 = M := hM2.same hM; replace r59 := r59.below hb; refine ⟨_, rfl, hS, ?_⟩; (try clear hb)
  simp only [Act.put, List.setIfInBounds_toArray, List.set_cons_zero, List.set_cons_succ]
  (first | (refine flow_call ⟨some 65, _, _, _, _, _⟩ rfl (by rfl) 8 _ _ (by rfl) _ (by rfl) Tryz.call8 (same_at rfl (by omega) _ _ _ r46 r51) ?_; rintro x wn ⟨rfl, hb⟩; replace hS := jo_keep hlb hS hb; refine ⟨_, rfl, hS, ?_⟩; (try clear hb)) | (refine flow_call ⟨some 65, _, _, _, _, _⟩ rfl (by rfl) 8 _ _ (by rfl) _ (by rfl) Tryz.call8 (same_at rfl (by omega) _ _ _ r59 r64) ?_; rintro x wn ⟨rfl, hb⟩; replace hS := jo_keep hlb hS hb; refine ⟨_, rfl, hS, ?_⟩; (try clear hb)))
  simp only [Act.put, List.setIfInBounds_toArray, List.set_cons_zero, List.set_cons_succ]
  refine flow_take ⟨some 66, _, _, _, _, _⟩ ?_ rfl (by rfl) ?_ ?_
  rotate_left 1
  · intro w hSw; (try dsimp only at hSw); go_simp; (try with_reducible rfl)
  simp only [Act.put, List.setIfInBounds_toArray, List.set_cons_zero, List.set_cons_succ]
  refine flow_take ⟨some 67, _, _, _, _, _⟩ ?_ rfl (by rfl) ?_ ?_
  rotate_left 1
  · intro w hSw; (try dsimp only at hSw); go_simp; (try with_reducible rfl)
  simp only [Act.put, List.setIfInBounds_toArray, List.set_cons_zero, List.set_cons_succ]
  refine flow_take ⟨some 68, _, _, _, _, _⟩ ?_ rfl (by rfl) ?_ ?_
  rotate_left 1
  · intro w hSw; (try dsimp only at hSw); go_simp; (try with_reducible rfl)
  simp only [Act.put, List.setIfInBounds_toArray, List.set_cons_zero, List.set_cons_succ]
  refine flow_take ⟨some 69, _, _, _, _, _⟩ ?_ rfl (by rfl) ?_ ?_
  rotate_left 1
  · intro w hSw; (try dsimp only at hSw); go_simp; (try with_reducible rfl)
  simp only [Act.put, List.setIfInBounds_toArray, List.set_cons_zero, List.set_cons_succ]
  refine flow_take ⟨some 70, _, _, _, _, _⟩ ?_ rfl (by rfl) ?_ ?_
  rotate_left 1
  · intro w hSw; (try dsimp only at hSw); go_simp; (try with_reducible rfl)
  simp only [Act.put, List.setIfInBounds_toArray, List.set_cons_zero, List.set_cons_succ]
  refine flow_take ⟨some 72, _, _, _, _, _⟩ ?_ rfl (by rfl) ?_ ?_
  rotate_left 1
  · intro w hSw; (try dsimp only at hSw); go_simp; (try with_reducible rfl)
  simp only [Act.put, List.setIfInBounds_toArray, List.set_cons_zero, List.set_cons_succ]
  refine flow_take ⟨some 73, _, _, _, _, _⟩ ?_ rfl (by rfl) ?_ ?_
  rotate_left 1
  · intro w hSw; (try dsimp only at hSw); go_simp; (try with_reducible rfl)
  simp only [Act.put, List.setIfInBounds_toArray, List.set_cons_zero, List.set_cons_succ]
  refine flow_call ⟨some 71, _, _, _, _, _⟩ rfl (by rfl) 13 _ _ (by rfl) _ (by rfl) Tryz.call13 (digest_any _ X _ (hx.below hS.1) (by omega) (fun r hr => (SX.out r hr).wf) (fun r hr => (SX.out r hr).ok) (HT.out.below hS.1)) ?_; rintro x wn ⟨D, hD, rfl, hb⟩; replace hS := jo_keep hlb hS hb; refine ⟨_, rfl, hS, ?_⟩; (try clear hb)
  simp only [Act.put, List.setIfInBounds_toArray, List.set_cons_zero, List.set_cons_succ]
  refine flow_call ⟨some 74, _, _, _, _, _⟩ rfl (by rfl) 14 _ _ (by rfl) _ (by rfl) Tryz.call14 (refDigest_any _ X _ (hx.below hS.1) (by omega) SX.out) ?_; rintro x wn ⟨D2, hD2, rfl, hb⟩; replace hS := jo_keep hlb hS hb; obtain rfl : D2 = D := hD2.same hD; refine ⟨_, rfl, hS, ?_⟩; (try clear hb)
  simp only [Act.put, List.setIfInBounds_toArray, List.set_cons_zero, List.set_cons_succ]
  refine flow_take ⟨some 75, _, _, _, _, _⟩ ?_ rfl (by rfl) ?_ ?_
  rotate_left 1
  · intro w hSw; (try dsimp only at hSw); go_simp; (try with_reducible rfl)
  simp only [Act.put, List.setIfInBounds_toArray, List.set_cons_zero, List.set_cons_succ]
  refine flow_take ⟨some 76, _, _, _, _, _⟩ ?_ rfl (by rfl) ?_ ?_
  rotate_left 1
  · intro w hSw; (try dsimp only at hSw); go_simp; (try with_reducible rfl)
  simp only [Act.put, List.setIfInBounds_toArray, List.set_cons_zero, List.set_cons_succ]
  simp only [wpFlow, OnlyN]
  exact HQ.out _ _ _ _ _ _ _ _ _ _ _ _ _ _ _ _ _ _ _ _ _ _ _ _ _ _ _ _ _ _ _ _ _ _ _ hS.1
end Go.Proofs.YtanmmooflhomoaaGreatDoor
