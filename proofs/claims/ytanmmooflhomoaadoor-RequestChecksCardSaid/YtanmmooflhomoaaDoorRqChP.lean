/- The law RequestChecks: its drawn regions as pieces. -/
import Derived.Test.YtanmmooflhomoaaDoorRqSan
import Derived.Test.YtanmmooflhomoaaDoorRqLs
import Derived.Test.YtanmmooflhomoaaDoorRqRA
namespace Go.Proofs.YtanmmooflhomoaaDoor
open Go Go.Proofs Go.RowKit Go.Sort Go.Lib
attribute [local go_sem] Req.cells

theorem one_keep {W w w' : World} {eb : Nat} {cs : Array Value} (hl : eb < W.heap.size) (h : RowKit.Below W.heap.size W w ∧ ∀ j, w.cell? ⟨eb, j, none⟩ = cs[j]?) (hb : RowKit.Below w.heap.size w w') : RowKit.Below W.heap.size W w' ∧ ∀ j, w'.cell? ⟨eb, j, none⟩ = cs[j]? :=
  ⟨below_next h.1 hb, old_keep (Nat.lt_of_lt_of_le hl h.1.size) hb h.2⟩
theorem two_keep {W w w' : World} {eb fb : Nat} {cs ds : Array Value} (hl : eb < W.heap.size) (hm : fb < W.heap.size) (h : RowKit.Below W.heap.size W w ∧ (∀ j, w.cell? ⟨eb, j, none⟩ = cs[j]?) ∧ ∀ j, w.cell? ⟨fb, j, none⟩ = ds[j]?) (hb : RowKit.Below w.heap.size w w') : RowKit.Below W.heap.size W w' ∧ (∀ j, w'.cell? ⟨eb, j, none⟩ = cs[j]?) ∧ ∀ j, w'.cell? ⟨fb, j, none⟩ = ds[j]? :=
  ⟨below_next h.1 hb, old_keep (Nat.lt_of_lt_of_le hl h.1.size) hb h.2.1, old_keep (Nat.lt_of_lt_of_le hm h.1.size) hb h.2.2⟩

set_option maxHeartbeats 4000000 in
set_option maxRecDepth 100000 in
theorem chk_r7 {s0 s1 s2 s3 s4 s5 s6 s7 s8 s9 s10 s12 s13 s14 s15 s16 s17 s18 s19 s20 s21 s22 s23 s24 s25 s26 s27 s28 s29 s30 s31 s32 s33 s34 s35 s36 s37 s38 s39 s40 s41 s42 s43 s44 s45 s46 s47 s48 s49 s50 s51 s52 s53 s54 s55 s56 s57 s58 s59 s60 s61 s62 s63 s64 s65 s66 s67 s68 s69 : Value} (eb : Nat) (x : Req) (W : World) (Q : Exit → Act → World → Prop) (hbox : ReqBox W eb x) (hs : x.Small)
    (hQ : ∀ (u35 u36 u37 u38 : Value) (wx : World), RowKit.Below W.heap.size W wx → Q .normal ⟨List.toArray (s0 :: s1 :: s2 :: s3 :: s4 :: s5 :: s6 :: s7 :: s8 :: s9 :: s10 :: .pointer (some ⟨eb, 0, none⟩) :: s12 :: s13 :: s14 :: s15 :: s16 :: s17 :: s18 :: s19 :: s20 :: s21 :: s22 :: s23 :: s24 :: s25 :: s26 :: s27 :: s28 :: s29 :: s30 :: s31 :: s32 :: s33 :: s34 :: u35 :: u36 :: u37 :: u38 :: .bool false :: s40 :: s41 :: s42 :: s43 :: s44 :: s45 :: s46 :: s47 :: s48 :: s49 :: s50 :: s51 :: s52 :: s53 :: s54 :: s55 :: s56 :: s57 :: s58 :: s59 :: s60 :: s61 :: s62 :: s63 :: s64 :: s65 :: s66 :: s67 :: s68 :: s69 :: []), []⟩ wx) :
    (regionOf Tryd.f5 7).wp Tryd.prog Q ⟨List.toArray (s0 :: s1 :: s2 :: s3 :: s4 :: s5 :: s6 :: s7 :: s8 :: s9 :: s10 :: .pointer (some ⟨eb, 0, none⟩) :: s12 :: s13 :: s14 :: s15 :: s16 :: s17 :: s18 :: s19 :: s20 :: s21 :: s22 :: s23 :: s24 :: s25 :: s26 :: s27 :: s28 :: s29 :: s30 :: s31 :: s32 :: s33 :: s34 :: s35 :: s36 :: s37 :: s38 :: s39 :: s40 :: s41 :: s42 :: s43 :: s44 :: s45 :: s46 :: s47 :: s48 :: s49 :: s50 :: s51 :: s52 :: s53 :: s54 :: s55 :: s56 :: s57 :: s58 :: s59 :: s60 :: s61 :: s62 :: s63 :: s64 :: s65 :: s66 :: s67 :: s68 :: s69 :: []), []⟩ W := by
  refine of_onlyN (K := Q .normal) ?_ (fun _ _ h => h)
  generalize Q .normal = K at hQ ⊢
  have HQ := Lib.hid hQ; clear hQ
  conv => arg 2; whnf
  have hl := hbox.lt
  have c1 := fun w => rqCheck_any x (by have := hs.code; omega) (by have := hs.give; omega) w
  have c2 := fun w => rfCheck_any x (by have := hs.code; omega) (by have := hs.give; omega) w
  generalize chkR x = n at c1 c2
  have hS0 : RowKit.Below W.heap.size W W.drew ∧ ∀ j, W.drew.cell? ⟨eb, j, none⟩ = x.cells[j]? := ⟨(Below.refl _ _).drew, hbox.cell⟩
  refine of_onlyN ?_ (fun _ _ h => h)
  refine wp_region_flow (S := fun w' => RowKit.Below W.heap.size W w' ∧ ∀ j, w'.cell? ⟨eb, j, none⟩ = x.cells[j]?) [(0, true), (2, true), (1, false), (3, false), (4, true)] (by kernel_rfl) (by kernel_rfl) (by kernel_rfl) (by decide) (hS0) ?_
  have hS := hS0
  refine flow_req ⟨some 35, _, _, _, _, _⟩ x eb rfl (by rfl) _ (by rfl) (by rfl) (fun w hS => hS.2) ?_
  (try simp only [Act.put, List.setIfInBounds_toArray, List.set_cons_zero, List.set_cons_succ])
  refine flow_req ⟨some 37, _, _, _, _, _⟩ x eb rfl (by rfl) _ (by rfl) (by rfl) (fun w hS => hS.2) ?_
  (try simp only [Act.put, List.setIfInBounds_toArray, List.set_cons_zero, List.set_cons_succ])
  refine flow_call ⟨some 36, _, _, _, _, _⟩ rfl (by rfl) 11 _ _ (by rfl) _ (by rfl) Tryd.call11 (c1 _) ?_; rintro x wn ⟨rfl, hb⟩; replace hS := one_keep hl hS hb; refine ⟨_, rfl, hS, ?_⟩; (try clear hb)
  simp only [Act.put, List.setIfInBounds_toArray, List.set_cons_zero, List.set_cons_succ]
  refine flow_call ⟨some 38, _, _, _, _, _⟩ rfl (by rfl) 15 _ _ (by rfl) _ (by rfl) Tryd.call15 (c2 _) ?_; rintro x wn ⟨rfl, hb⟩; replace hS := one_keep hl hS hb; refine ⟨_, rfl, hS, ?_⟩; (try clear hb)
  simp only [Act.put, List.setIfInBounds_toArray, List.set_cons_zero, List.set_cons_succ]
  refine flow_take ⟨some 39, _, _, _, _, _⟩ ?_ rfl (by rfl) ?_ ?_
  rotate_left 1
  · intro w hSw; (try dsimp only at hSw); go_simp; (try with_reducible rfl)
  simp only [Act.put, List.setIfInBounds_toArray, List.set_cons_zero, List.set_cons_succ]
  simp only [wpFlow, OnlyN]
  exact HQ.out _ _ _ _ _ hS.1

set_option maxHeartbeats 4000000 in
set_option maxRecDepth 100000 in
theorem chk_r12 {s0 s1 s2 s3 s4 s5 s6 s7 s8 s9 s10 s12 s14 s15 s16 s17 s18 s19 s20 s21 s22 s23 s24 s25 s26 s27 s28 s29 s30 s31 s32 s33 s34 s35 s36 s37 s38 s39 s40 s41 s42 s43 s44 s45 s46 s47 s48 s49 s50 s51 s52 s53 s54 s55 s56 s57 s58 s59 s60 s61 s62 s63 s64 s65 s66 s67 s68 s69 : Value} (eb fb : Nat) (x y : Req) (W : World) (Q : Exit → Act → World → Prop) (hbox : ReqBox W eb x) (hboy : ReqBox W fb y)
    (hQ : ∀ (u46 u47 u48 u49 u50 u51 : Value) (wx : World), RowKit.Below W.heap.size W wx → Q .normal ⟨List.toArray (s0 :: s1 :: s2 :: s3 :: s4 :: s5 :: s6 :: s7 :: s8 :: s9 :: s10 :: .pointer (some ⟨eb, 0, none⟩) :: s12 :: .pointer (some ⟨fb, 0, none⟩) :: s14 :: s15 :: s16 :: s17 :: s18 :: s19 :: s20 :: s21 :: s22 :: s23 :: s24 :: s25 :: s26 :: s27 :: s28 :: s29 :: s30 :: s31 :: s32 :: s33 :: s34 :: s35 :: s36 :: s37 :: s38 :: s39 :: s40 :: s41 :: s42 :: s43 :: s44 :: s45 :: u46 :: u47 :: u48 :: u49 :: u50 :: u51 :: .bool false :: s53 :: s54 :: s55 :: s56 :: s57 :: s58 :: s59 :: s60 :: s61 :: s62 :: s63 :: s64 :: s65 :: s66 :: s67 :: s68 :: s69 :: []), []⟩ wx) :
    (regionOf Tryd.f5 12).wp Tryd.prog Q ⟨List.toArray (s0 :: s1 :: s2 :: s3 :: s4 :: s5 :: s6 :: s7 :: s8 :: s9 :: s10 :: .pointer (some ⟨eb, 0, none⟩) :: s12 :: .pointer (some ⟨fb, 0, none⟩) :: s14 :: s15 :: s16 :: s17 :: s18 :: s19 :: s20 :: s21 :: s22 :: s23 :: s24 :: s25 :: s26 :: s27 :: s28 :: s29 :: s30 :: s31 :: s32 :: s33 :: s34 :: s35 :: s36 :: s37 :: s38 :: s39 :: s40 :: s41 :: s42 :: s43 :: s44 :: s45 :: s46 :: s47 :: s48 :: s49 :: s50 :: s51 :: s52 :: s53 :: s54 :: s55 :: s56 :: s57 :: s58 :: s59 :: s60 :: s61 :: s62 :: s63 :: s64 :: s65 :: s66 :: s67 :: s68 :: s69 :: []), []⟩ W := by
  refine of_onlyN (K := Q .normal) ?_ (fun _ _ h => h)
  generalize Q .normal = K at hQ ⊢
  have HQ := Lib.hid hQ; clear hQ
  conv => arg 2; whnf
  have hl := hbox.lt
  have hm := hboy.lt
  have c1 := fun w => rqLess_any x y w
  have c2 := fun w => rfLess_any x y w
  generalize lessR x y = n at c1 c2
  have hS0 : RowKit.Below W.heap.size W W.drew ∧ (∀ j, W.drew.cell? ⟨eb, j, none⟩ = x.cells[j]?) ∧ ∀ j, W.drew.cell? ⟨fb, j, none⟩ = y.cells[j]? := ⟨(Below.refl _ _).drew, hbox.cell, hboy.cell⟩
  refine of_onlyN ?_ (fun _ _ h => h)
  refine wp_region_flow (S := fun w' => RowKit.Below W.heap.size W w' ∧ (∀ j, w'.cell? ⟨eb, j, none⟩ = x.cells[j]?) ∧ ∀ j, w'.cell? ⟨fb, j, none⟩ = y.cells[j]?) [(0, true), (1, true), (3, true), (4, true), (2, false), (5, false), (6, true)] (by kernel_rfl) (by kernel_rfl) (by kernel_rfl) (by decide) (hS0) ?_
  have hS := hS0
  refine flow_req ⟨some 46, _, _, _, _, _⟩ x eb rfl (by rfl) _ (by rfl) (by rfl) (fun w hS => hS.2.1) ?_
  (try simp only [Act.put, List.setIfInBounds_toArray, List.set_cons_zero, List.set_cons_succ])
  refine flow_req ⟨some 47, _, _, _, _, _⟩ y fb rfl (by rfl) _ (by rfl) (by rfl) (fun w hS => hS.2.2) ?_
  (try simp only [Act.put, List.setIfInBounds_toArray, List.set_cons_zero, List.set_cons_succ])
  refine flow_req ⟨some 49, _, _, _, _, _⟩ x eb rfl (by rfl) _ (by rfl) (by rfl) (fun w hS => hS.2.1) ?_
  (try simp only [Act.put, List.setIfInBounds_toArray, List.set_cons_zero, List.set_cons_succ])
  refine flow_req ⟨some 50, _, _, _, _, _⟩ y fb rfl (by rfl) _ (by rfl) (by rfl) (fun w hS => hS.2.2) ?_
  (try simp only [Act.put, List.setIfInBounds_toArray, List.set_cons_zero, List.set_cons_succ])
  refine flow_call ⟨some 48, _, _, _, _, _⟩ rfl (by rfl) 16 _ _ (by rfl) _ (by rfl) Tryd.call16 (c1 _) ?_; rintro x wn ⟨rfl, hb⟩; replace hS := two_keep hl hm hS hb; refine ⟨_, rfl, hS, ?_⟩; (try clear hb)
  simp only [Act.put, List.setIfInBounds_toArray, List.set_cons_zero, List.set_cons_succ]
  refine flow_call ⟨some 51, _, _, _, _, _⟩ rfl (by rfl) 17 _ _ (by rfl) _ (by rfl) Tryd.call17 (c2 _) ?_; rintro x wn ⟨rfl, hb⟩; replace hS := two_keep hl hm hS hb; refine ⟨_, rfl, hS, ?_⟩; (try clear hb)
  simp only [Act.put, List.setIfInBounds_toArray, List.set_cons_zero, List.set_cons_succ]
  refine flow_take ⟨some 52, _, _, _, _, _⟩ ?_ rfl (by rfl) ?_ ?_
  rotate_left 1
  · intro w hSw; (try dsimp only at hSw); go_simp; (try with_reducible rfl)
  simp only [Act.put, List.setIfInBounds_toArray, List.set_cons_zero, List.set_cons_succ]
  simp only [wpFlow, OnlyN]
  exact HQ.out _ _ _ _ _ _ _ hS.1
end Go.Proofs.YtanmmooflhomoaaDoor
