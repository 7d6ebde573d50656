/- quadriviumlaw10.EntryChecks: its regions that draw their order. -/
import Derived.Test.YtnkbelbalaeieaaDoorFlow
import Derived.Test.YtnkbelbalaeieaaDoorEnt
import Derived.BigQuiet
namespace Go.Proofs.YtnkbelbalaeieaaDoor
open Go Go.RowKit Go.Sort Go.Lib
attribute [local go_sem] Ent.cells
theorem chk_keep {W w : World} {ab lb rb : Nat} {e l r : Ent} (h1 : EntBox W ab e) (h2 : EntBox W lb l) (h3 : EntBox W rb r) (hb : RowKit.Below W.heap.size W w) :
    RowKit.Below W.heap.size W w ∧ (∀ j, w.cell? ⟨ab, j, none⟩ = e.cells[j]?) ∧ (∀ j, w.cell? ⟨lb, j, none⟩ = l.cells[j]?) ∧ (∀ j, w.cell? ⟨rb, j, none⟩ = r.cells[j]?) :=
  ⟨hb, (h1.below hb).cell, (h2.below hb).cell, (h3.below hb).cell⟩
theorem chk_next {W w w' : World} {R : Prop} {ab lb rb : Nat} {e l r : Ent} (h1 : EntBox W ab e) (h2 : EntBox W lb l) (h3 : EntBox W rb r) (hb : RowKit.Below W.heap.size W w ∧ R) (h : RowKit.Below w.heap.size w w') :
    RowKit.Below W.heap.size W w' ∧ (∀ j, w'.cell? ⟨ab, j, none⟩ = e.cells[j]?) ∧ (∀ j, w'.cell? ⟨lb, j, none⟩ = l.cells[j]?) ∧ (∀ j, w'.cell? ⟨rb, j, none⟩ = r.cells[j]?) :=
  chk_keep h1 h2 h3 (hb.1.trans (h.mono hb.1.size))
theorem chks_flow7 : flowOk .any (opsIn (regionOf Tryd.f5 7)) (Array.replicate (opsIn (regionOf Tryd.f5 7)).size false) [(0, true), (2, true), (1, false), (3, false), (4, true), (5, true), (6, true), (8, true), (7, false), (9, false), (10, true), (11, true), (12, true), (13, true), (15, true), (14, false), (16, false), (17, true), (18, true), (19, true), (20, true), (22, true), (21, false), (23, false), (24, true), (25, true), (26, true), (27, true), (28, true), (30, true), (31, true), (29, false), (32, false), (33, true), (34, true), (35, true), (36, true), (37, true), (39, true), (40, true), (38, false), (41, false), (42, true), (43, true)] = true := by kernel_rfl
set_option maxHeartbeats 4000000 in
set_option maxRecDepth 100000 in
theorem chks_r7 {s0 s1 s2 s3 s4 s6 s7 s9 s11 s12 s13 s14 s15 s16 s17 s18 s19 s20 s21 s22 s23 s24 s25 s26 s27 s28 s29 s30 s31 s32 s33 s34 s35 s36 s37 s38 s39 s40 s41 s42 s43 s44 s45 s46 s47 s48 s49 s50 s51 s52 s53 s54 s55 s56 s57 s58 s59 s60 s61 s62 s63 s64 s65 s66 s67 s68 s69 s70 s71 s72 s73 s74 s75 s76 s77 s78 s79 s80 s81 s82 s83 s84 s85 : Value} (ab lb rb : Nat) (e l r : Ent) (cv : Int) (s t k : ByteArray) (b1 b2 : Bool) (W : World) (Q : Exit → Act → World → Prop) (ht : Tabs W) (h1 : EntBox W ab e) (h2 : EntBox W lb l) (h3 : EntBox W rb r) (c15 : ∀ w, Tabs w → Calls Tryd.prog 15 #[e.val] w fun x w' => x = .returned (.int .i64 cv) ∧ RowKit.Below w.heap.size w w') (c17 : ∀ w, Tabs w → Calls Tryd.prog 17 #[e.val] w fun x w' => x = .returned (.int .i64 cv) ∧ RowKit.Below w.heap.size w w') (c12 : ∀ w, Tabs w → Calls Tryd.prog 12 #[e.val] w fun x w' => x = .returned (.string s) ∧ RowKit.Below w.heap.size w w') (c18 : ∀ w, Tabs w → Calls Tryd.prog 18 #[e.val] w fun x w' => x = .returned (.string s) ∧ RowKit.Below w.heap.size w w') (c13 : ∀ w, Tabs w → Calls Tryd.prog 13 #[e.val] w fun x w' => x = .returned (.string t) ∧ RowKit.Below w.heap.size w w') (c19 : ∀ w, Tabs w → Calls Tryd.prog 19 #[e.val] w fun x w' => x = .returned (.string t) ∧ RowKit.Below w.heap.size w w') (c14 : ∀ w, Tabs w → Calls Tryd.prog 14 #[e.val] w fun x w' => x = .returned (.string k) ∧ RowKit.Below w.heap.size w w') (c20 : ∀ w, Tabs w → Calls Tryd.prog 20 #[e.val] w fun x w' => x = .returned (.string k) ∧ RowKit.Below w.heap.size w w') (c16 : ∀ w, Tabs w → Calls Tryd.prog 16 #[l.val, e.val] w fun x w' => x = .returned (.bool b1) ∧ RowKit.Below w.heap.size w w') (c21 : ∀ w, Tabs w → Calls Tryd.prog 21 #[l.val, e.val] w fun x w' => x = .returned (.bool b1) ∧ RowKit.Below w.heap.size w w') (d16 : ∀ w, Tabs w → Calls Tryd.prog 16 #[e.val, r.val] w fun x w' => x = .returned (.bool b2) ∧ RowKit.Below w.heap.size w w') (d21 : ∀ w, Tabs w → Calls Tryd.prog 21 #[e.val, r.val] w fun x w' => x = .returned (.bool b2) ∧ RowKit.Below w.heap.size w w')
    (hQ : ∀ (u28 u29 u30 u31 u32 u33 u34 u35 u36 u37 u38 u39 u40 u41 u42 u43 u44 u45 u46 u47 u48 u49 u50 u51 u52 u53 u54 u55 u56 u57 u58 u59 u60 u61 u62 u63 u64 u65 u66 u67 u68 u69 u70 : Value)  (wx : World), RowKit.Below W.heap.size W wx → Q .normal ⟨List.toArray (s0 :: s1 :: s2 :: s3 :: s4 :: .pointer (some ⟨rb, 0, none⟩) :: s6 :: s7 :: .pointer (some ⟨lb, 0, none⟩) :: s9 :: .pointer (some ⟨ab, 0, none⟩) :: s11 :: s12 :: s13 :: s14 :: s15 :: s16 :: s17 :: s18 :: s19 :: s20 :: s21 :: s22 :: s23 :: s24 :: s25 :: s26 :: s27 :: u28 :: u29 :: u30 :: u31 :: u32 :: u33 :: u34 :: u35 :: u36 :: u37 :: u38 :: u39 :: u40 :: u41 :: u42 :: u43 :: u44 :: u45 :: u46 :: u47 :: u48 :: u49 :: u50 :: u51 :: u52 :: u53 :: u54 :: u55 :: u56 :: u57 :: u58 :: u59 :: u60 :: u61 :: u62 :: u63 :: u64 :: u65 :: u66 :: u67 :: u68 :: u69 :: u70 :: .bool false :: s72 :: s73 :: s74 :: s75 :: s76 :: s77 :: s78 :: s79 :: s80 :: s81 :: s82 :: s83 :: s84 :: s85 :: []), []⟩ wx) :
    (regionOf Tryd.f5 7).wp Tryd.prog Q ⟨List.toArray (s0 :: s1 :: s2 :: s3 :: s4 :: .pointer (some ⟨rb, 0, none⟩) :: s6 :: s7 :: .pointer (some ⟨lb, 0, none⟩) :: s9 :: .pointer (some ⟨ab, 0, none⟩) :: s11 :: s12 :: s13 :: s14 :: s15 :: s16 :: s17 :: s18 :: s19 :: s20 :: s21 :: s22 :: s23 :: s24 :: s25 :: s26 :: s27 :: s28 :: s29 :: s30 :: s31 :: s32 :: s33 :: s34 :: s35 :: s36 :: s37 :: s38 :: s39 :: s40 :: s41 :: s42 :: s43 :: s44 :: s45 :: s46 :: s47 :: s48 :: s49 :: s50 :: s51 :: s52 :: s53 :: s54 :: s55 :: s56 :: s57 :: s58 :: s59 :: s60 :: s61 :: s62 :: s63 :: s64 :: s65 :: s66 :: s67 :: s68 :: s69 :: s70 :: s71 :: s72 :: s73 :: s74 :: s75 :: s76 :: s77 :: s78 :: s79 :: s80 :: s81 :: s82 :: s83 :: s84 :: s85 :: []), []⟩ W := by
  refine of_onlyN (K := Q .normal) ?_ (fun _ _ h => h)
  generalize Q .normal = K at hQ ⊢
  have HQ := Lib.hid hQ; clear hQ
  conv => arg 2; whnf
  have hbd : RowKit.Below W.heap.size W W.drew := (Below.refl W.heap.size W).drew
  have hS := chk_keep h1 h2 h3 hbd
  refine wp_region_flow (S := (fun w' => RowKit.Below W.heap.size W w' ∧ (∀ j, w'.cell? ⟨ab, j, none⟩ = e.cells[j]?) ∧ (∀ j, w'.cell? ⟨lb, j, none⟩ = l.cells[j]?) ∧ (∀ j, w'.cell? ⟨rb, j, none⟩ = r.cells[j]?))) [(0, true), (2, true), (1, false), (3, false), (4, true), (5, true), (6, true), (8, true), (7, false), (9, false), (10, true), (11, true), (12, true), (13, true), (15, true), (14, false), (16, false), (17, true), (18, true), (19, true), (20, true), (22, true), (21, false), (23, false), (24, true), (25, true), (26, true), (27, true), (28, true), (30, true), (31, true), (29, false), (32, false), (33, true), (34, true), (35, true), (36, true), (37, true), (39, true), (40, true), (38, false), (41, false), (42, true), (43, true)] (by kernel_rfl) (by kernel_rfl) chks_flow7 (by decide) hS ?_
  refine flow_load ⟨some 28, _, _, _, _, _⟩ e ab rfl (by rfl) _ (by rfl) (by rfl) (fun w hS => hS.2.1) ?_
  simp only [Act.put, List.setIfInBounds_toArray, List.set_cons_zero, List.set_cons_succ]
  refine flow_load ⟨some 30, _, _, _, _, _⟩ e ab rfl (by rfl) _ (by rfl) (by rfl) (fun w hS => hS.2.1) ?_
  simp only [Act.put, List.setIfInBounds_toArray, List.set_cons_zero, List.set_cons_succ]
  refine flow_call ⟨some 29, _, _, _, _, _⟩ rfl (by rfl) 15 _ _ (by rfl) [e.val] (by rfl) Tryd.call15 (c15 _ (ht.below hS.1)) ?_
  rintro x1 w1 ⟨rfl, hb1⟩
  replace hS := chk_next h1 h2 h3 hS hb1
  refine ⟨_, rfl, hS, ?_⟩
  clear hb1
  simp only [Act.put, List.setIfInBounds_toArray, List.set_cons_zero, List.set_cons_succ]
  refine flow_call ⟨some 31, _, _, _, _, _⟩ rfl (by rfl) 17 _ _ (by rfl) [e.val] (by rfl) Tryd.call17 (c17 _ (ht.below hS.1)) ?_
  rintro x2 w2 ⟨rfl, hb2⟩
  replace hS := chk_next h1 h2 h3 hS hb2
  refine ⟨_, rfl, hS, ?_⟩
  clear hb2
  simp only [Act.put, List.setIfInBounds_toArray, List.set_cons_zero, List.set_cons_succ]
  refine flow_take ⟨some 32, _, _, _, _, _⟩ ?_ rfl (by rfl) ?_ ?_
  rotate_left 1
  · intro w hSw; (try dsimp only at hSw); go_simp; (try with_reducible rfl)
  simp only [Act.put, List.setIfInBounds_toArray, List.set_cons_zero, List.set_cons_succ]
  refine flow_take ⟨some 33, _, _, _, _, _⟩ ?_ rfl (by rfl) ?_ ?_
  rotate_left 1
  · intro w hSw; (try dsimp only at hSw); go_simp; (try with_reducible rfl)
  simp only [Act.put, List.setIfInBounds_toArray, List.set_cons_zero, List.set_cons_succ]
  refine flow_load ⟨some 34, _, _, _, _, _⟩ e ab rfl (by rfl) _ (by rfl) (by rfl) (fun w hS => hS.2.1) ?_
  simp only [Act.put, List.setIfInBounds_toArray, List.set_cons_zero, List.set_cons_succ]
  refine flow_load ⟨some 36, _, _, _, _, _⟩ e ab rfl (by rfl) _ (by rfl) (by rfl) (fun w hS => hS.2.1) ?_
  simp only [Act.put, List.setIfInBounds_toArray, List.set_cons_zero, List.set_cons_succ]
  refine flow_call ⟨some 35, _, _, _, _, _⟩ rfl (by rfl) 12 _ _ (by rfl) [e.val] (by rfl) Tryd.call12 (c12 _ (ht.below hS.1)) ?_
  rintro x3 w3 ⟨rfl, hb3⟩
  replace hS := chk_next h1 h2 h3 hS hb3
  refine ⟨_, rfl, hS, ?_⟩
  clear hb3
  simp only [Act.put, List.setIfInBounds_toArray, List.set_cons_zero, List.set_cons_succ]
  refine flow_call ⟨some 37, _, _, _, _, _⟩ rfl (by rfl) 18 _ _ (by rfl) [e.val] (by rfl) Tryd.call18 (c18 _ (ht.below hS.1)) ?_
  rintro x4 w4 ⟨rfl, hb4⟩
  replace hS := chk_next h1 h2 h3 hS hb4
  refine ⟨_, rfl, hS, ?_⟩
  clear hb4
  simp only [Act.put, List.setIfInBounds_toArray, List.set_cons_zero, List.set_cons_succ]
  refine flow_take ⟨some 38, _, _, _, _, _⟩ ?_ rfl (by rfl) ?_ ?_
  rotate_left 1
  · intro w hSw; (try dsimp only at hSw); go_simp; (try with_reducible rfl)
  simp only [Act.put, List.setIfInBounds_toArray, List.set_cons_zero, List.set_cons_succ]
  refine flow_take ⟨some 39, _, _, _, _, _⟩ ?_ rfl (by rfl) ?_ ?_
  rotate_left 1
  · intro w hSw; (try dsimp only at hSw); go_simp; (try with_reducible rfl)
  simp only [Act.put, List.setIfInBounds_toArray, List.set_cons_zero, List.set_cons_succ]
  refine flow_take ⟨some 40, _, _, _, _, _⟩ ?_ rfl (by rfl) ?_ ?_
  rotate_left 1
  · intro w hSw; (try dsimp only at hSw); go_simp; (try with_reducible rfl)
  simp only [Act.put, List.setIfInBounds_toArray, List.set_cons_zero, List.set_cons_succ]
  refine flow_load ⟨some 41, _, _, _, _, _⟩ e ab rfl (by rfl) _ (by rfl) (by rfl) (fun w hS => hS.2.1) ?_
  simp only [Act.put, List.setIfInBounds_toArray, List.set_cons_zero, List.set_cons_succ]
  refine flow_load ⟨some 43, _, _, _, _, _⟩ e ab rfl (by rfl) _ (by rfl) (by rfl) (fun w hS => hS.2.1) ?_
  simp only [Act.put, List.setIfInBounds_toArray, List.set_cons_zero, List.set_cons_succ]
  refine flow_call ⟨some 42, _, _, _, _, _⟩ rfl (by rfl) 13 _ _ (by rfl) [e.val] (by rfl) Tryd.call13 (c13 _ (ht.below hS.1)) ?_
  rintro x5 w5 ⟨rfl, hb5⟩
  replace hS := chk_next h1 h2 h3 hS hb5
  refine ⟨_, rfl, hS, ?_⟩
  clear hb5
  simp only [Act.put, List.setIfInBounds_toArray, List.set_cons_zero, List.set_cons_succ]
  refine flow_call ⟨some 44, _, _, _, _, _⟩ rfl (by rfl) 19 _ _ (by rfl) [e.val] (by rfl) Tryd.call19 (c19 _ (ht.below hS.1)) ?_
  rintro x6 w6 ⟨rfl, hb6⟩
  replace hS := chk_next h1 h2 h3 hS hb6
  refine ⟨_, rfl, hS, ?_⟩
  clear hb6
  simp only [Act.put, List.setIfInBounds_toArray, List.set_cons_zero, List.set_cons_succ]
  refine flow_take ⟨some 45, _, _, _, _, _⟩ ?_ rfl (by rfl) ?_ ?_
  rotate_left 1
  · intro w hSw; (try dsimp only at hSw); go_simp; (try with_reducible rfl)
  simp only [Act.put, List.setIfInBounds_toArray, List.set_cons_zero, List.set_cons_succ]
  refine flow_take ⟨some 46, _, _, _, _, _⟩ ?_ rfl (by rfl) ?_ ?_
  rotate_left 1
  · intro w hSw; (try dsimp only at hSw); go_simp; (try with_reducible rfl)
  simp only [Act.put, List.setIfInBounds_toArray, List.set_cons_zero, List.set_cons_succ]
  refine flow_take ⟨some 47, _, _, _, _, _⟩ ?_ rfl (by rfl) ?_ ?_
  rotate_left 1
  · intro w hSw; (try dsimp only at hSw); go_simp; (try with_reducible rfl)
  simp only [Act.put, List.setIfInBounds_toArray, List.set_cons_zero, List.set_cons_succ]
  refine flow_load ⟨some 48, _, _, _, _, _⟩ e ab rfl (by rfl) _ (by rfl) (by rfl) (fun w hS => hS.2.1) ?_
  simp only [Act.put, List.setIfInBounds_toArray, List.set_cons_zero, List.set_cons_succ]
  refine flow_load ⟨some 50, _, _, _, _, _⟩ e ab rfl (by rfl) _ (by rfl) (by rfl) (fun w hS => hS.2.1) ?_
  simp only [Act.put, List.setIfInBounds_toArray, List.set_cons_zero, List.set_cons_succ]
  refine flow_call ⟨some 49, _, _, _, _, _⟩ rfl (by rfl) 14 _ _ (by rfl) [e.val] (by rfl) Tryd.call14 (c14 _ (ht.below hS.1)) ?_
  rintro x7 w7 ⟨rfl, hb7⟩
  replace hS := chk_next h1 h2 h3 hS hb7
  refine ⟨_, rfl, hS, ?_⟩
  clear hb7
  simp only [Act.put, List.setIfInBounds_toArray, List.set_cons_zero, List.set_cons_succ]
  refine flow_call ⟨some 51, _, _, _, _, _⟩ rfl (by rfl) 20 _ _ (by rfl) [e.val] (by rfl) Tryd.call20 (c20 _ (ht.below hS.1)) ?_
  rintro x8 w8 ⟨rfl, hb8⟩
  replace hS := chk_next h1 h2 h3 hS hb8
  refine ⟨_, rfl, hS, ?_⟩
  clear hb8
  simp only [Act.put, List.setIfInBounds_toArray, List.set_cons_zero, List.set_cons_succ]
  refine flow_take ⟨some 52, _, _, _, _, _⟩ ?_ rfl (by rfl) ?_ ?_
  rotate_left 1
  · intro w hSw; (try dsimp only at hSw); go_simp; (try with_reducible rfl)
  simp only [Act.put, List.setIfInBounds_toArray, List.set_cons_zero, List.set_cons_succ]
  refine flow_take ⟨some 53, _, _, _, _, _⟩ ?_ rfl (by rfl) ?_ ?_
  rotate_left 1
  · intro w hSw; (try dsimp only at hSw); go_simp; (try with_reducible rfl)
  simp only [Act.put, List.setIfInBounds_toArray, List.set_cons_zero, List.set_cons_succ]
  refine flow_take ⟨some 54, _, _, _, _, _⟩ ?_ rfl (by rfl) ?_ ?_
  rotate_left 1
  · intro w hSw; (try dsimp only at hSw); go_simp; (try with_reducible rfl)
  simp only [Act.put, List.setIfInBounds_toArray, List.set_cons_zero, List.set_cons_succ]
  refine flow_load ⟨some 55, _, _, _, _, _⟩ l lb rfl (by rfl) _ (by rfl) (by rfl) (fun w hS => hS.2.2.1) ?_
  simp only [Act.put, List.setIfInBounds_toArray, List.set_cons_zero, List.set_cons_succ]
  refine flow_load ⟨some 56, _, _, _, _, _⟩ e ab rfl (by rfl) _ (by rfl) (by rfl) (fun w hS => hS.2.1) ?_
  simp only [Act.put, List.setIfInBounds_toArray, List.set_cons_zero, List.set_cons_succ]
  refine flow_load ⟨some 58, _, _, _, _, _⟩ l lb rfl (by rfl) _ (by rfl) (by rfl) (fun w hS => hS.2.2.1) ?_
  simp only [Act.put, List.setIfInBounds_toArray, List.set_cons_zero, List.set_cons_succ]
  refine flow_load ⟨some 59, _, _, _, _, _⟩ e ab rfl (by rfl) _ (by rfl) (by rfl) (fun w hS => hS.2.1) ?_
  simp only [Act.put, List.setIfInBounds_toArray, List.set_cons_zero, List.set_cons_succ]
  refine flow_call ⟨some 57, _, _, _, _, _⟩ rfl (by rfl) 16 _ _ (by rfl) [l.val, e.val] (by rfl) Tryd.call16 (c16 _ (ht.below hS.1)) ?_
  rintro x9 w9 ⟨rfl, hb9⟩
  replace hS := chk_next h1 h2 h3 hS hb9
  refine ⟨_, rfl, hS, ?_⟩
  clear hb9
  simp only [Act.put, List.setIfInBounds_toArray, List.set_cons_zero, List.set_cons_succ]
  refine flow_call ⟨some 60, _, _, _, _, _⟩ rfl (by rfl) 21 _ _ (by rfl) [l.val, e.val] (by rfl) Tryd.call21 (c21 _ (ht.below hS.1)) ?_
  rintro x10 w10 ⟨rfl, hb10⟩
  replace hS := chk_next h1 h2 h3 hS hb10
  refine ⟨_, rfl, hS, ?_⟩
  clear hb10
  simp only [Act.put, List.setIfInBounds_toArray, List.set_cons_zero, List.set_cons_succ]
  refine flow_take ⟨some 61, _, _, _, _, _⟩ ?_ rfl (by rfl) ?_ ?_
  rotate_left 1
  · intro w hSw; (try dsimp only at hSw); go_simp; (try with_reducible rfl)
  simp only [Act.put, List.setIfInBounds_toArray, List.set_cons_zero, List.set_cons_succ]
  refine flow_take ⟨some 62, _, _, _, _, _⟩ ?_ rfl (by rfl) ?_ ?_
  rotate_left 1
  · intro w hSw; (try dsimp only at hSw); go_simp; (try with_reducible rfl)
  simp only [Act.put, List.setIfInBounds_toArray, List.set_cons_zero, List.set_cons_succ]
  refine flow_take ⟨some 63, _, _, _, _, _⟩ ?_ rfl (by rfl) ?_ ?_
  rotate_left 1
  · intro w hSw; (try dsimp only at hSw); go_simp; (try with_reducible rfl)
  simp only [Act.put, List.setIfInBounds_toArray, List.set_cons_zero, List.set_cons_succ]
  refine flow_load ⟨some 64, _, _, _, _, _⟩ e ab rfl (by rfl) _ (by rfl) (by rfl) (fun w hS => hS.2.1) ?_
  simp only [Act.put, List.setIfInBounds_toArray, List.set_cons_zero, List.set_cons_succ]
  refine flow_load ⟨some 65, _, _, _, _, _⟩ r rb rfl (by rfl) _ (by rfl) (by rfl) (fun w hS => hS.2.2.2) ?_
  simp only [Act.put, List.setIfInBounds_toArray, List.set_cons_zero, List.set_cons_succ]
  refine flow_load ⟨some 67, _, _, _, _, _⟩ e ab rfl (by rfl) _ (by rfl) (by rfl) (fun w hS => hS.2.1) ?_
  simp only [Act.put, List.setIfInBounds_toArray, List.set_cons_zero, List.set_cons_succ]
  refine flow_load ⟨some 68, _, _, _, _, _⟩ r rb rfl (by rfl) _ (by rfl) (by rfl) (fun w hS => hS.2.2.2) ?_
  simp only [Act.put, List.setIfInBounds_toArray, List.set_cons_zero, List.set_cons_succ]
  refine flow_call ⟨some 66, _, _, _, _, _⟩ rfl (by rfl) 16 _ _ (by rfl) [e.val, r.val] (by rfl) Tryd.call16 (d16 _ (ht.below hS.1)) ?_
  rintro x11 w11 ⟨rfl, hb11⟩
  replace hS := chk_next h1 h2 h3 hS hb11
  refine ⟨_, rfl, hS, ?_⟩
  clear hb11
  simp only [Act.put, List.setIfInBounds_toArray, List.set_cons_zero, List.set_cons_succ]
  refine flow_call ⟨some 69, _, _, _, _, _⟩ rfl (by rfl) 21 _ _ (by rfl) [e.val, r.val] (by rfl) Tryd.call21 (d21 _ (ht.below hS.1)) ?_
  rintro x12 w12 ⟨rfl, hb12⟩
  replace hS := chk_next h1 h2 h3 hS hb12
  refine ⟨_, rfl, hS, ?_⟩
  clear hb12
  simp only [Act.put, List.setIfInBounds_toArray, List.set_cons_zero, List.set_cons_succ]
  refine flow_take ⟨some 70, _, _, _, _, _⟩ ?_ rfl (by rfl) ?_ ?_
  rotate_left 1
  · intro w hSw; (try dsimp only at hSw); go_simp; (try with_reducible rfl)
  simp only [Act.put, List.setIfInBounds_toArray, List.set_cons_zero, List.set_cons_succ]
  refine flow_take ⟨some 71, _, _, _, _, _⟩ ?_ rfl (by rfl) ?_ ?_
  rotate_left 1
  · intro w hSw; (try dsimp only at hSw); go_simp; (try with_reducible rfl)
  simp only [Act.put, List.setIfInBounds_toArray, List.set_cons_zero, List.set_cons_succ]
  exact HQ.out _ _ _ _ _ _ _ _ _ _ _ _ _ _ _ _ _ _ _ _ _ _ _ _ _ _ _ _ _ _ _ _ _ _ _ _ _ _ _ _ _ _ _ _ hS.1

end Go.Proofs.YtnkbelbalaeieaaDoor
