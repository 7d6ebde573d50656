/- Pieces of sanity: regions 9. -/
import Derived.Test.YtanmmooflhomoaaGreatDoorRqSanP
namespace Go.Proofs.YtanmmooflhomoaaGreatDoor
open Go Go.Proofs Go.RowKit Go.Sort Go.Lib
attribute [local go_sem] Req.cells

set_option maxHeartbeats 8000000 in
set_option maxRecDepth 100000 in
theorem san_r9 {s0 s4 s5 s6 s10 s11 s12 s13 s14 s15 s16 s17 s18 s19 s20 s21 s22 s23 s24 s25 s26 s27 s28 s29 s30 s31 s32 s33 s34 s35 s36 s37 s38 s39 s40 s41 s42 s43 s44 s45 s46 s47 s48 s49 s50 s51 s52 s53 s54 s55 s56 s57 s58 s59 s60 s61 s62 s63 s64 s65 s66 s67 s68 s69 s70 s71 s72 s73 s74 s75 s76 s77 s78 s79 s80 s81 s82 s83 s84 s85 s86 s87 s88 s89 s90 s91 s92 s93 : Value} (g1 g2 g3 : Nat) (v8 : Value) (W : World) (Q : Exit → Act → World → Prop) (h1 : ReqBox W g1 ⟨1, 1, false, 5, 4, ⟨#[65, 49]⟩, ⟨#[]⟩, 2, 400⟩) (h2 : ReqBox W g2 ⟨1, 2, false, 5, 4, ⟨#[66, 49]⟩, ⟨#[65, 49]⟩, 2, 400⟩) (h3 : ReqBox W g3 ⟨1, 1, true, 0, 0, ⟨#[]⟩, ⟨#[]⟩, 0, 0⟩) (hV : ReqsIn W v8 [⟨1, 1, false, 5, 4, ⟨#[65, 49]⟩, ⟨#[]⟩, 2, 400⟩, ⟨1, 1, true, 0, 0, ⟨#[]⟩, ⟨#[]⟩, 0, 0⟩, ⟨1, 2, false, 5, 4, ⟨#[66, 49]⟩, ⟨#[65, 49]⟩, 2, 400⟩]) (ht : Tabs W)
    (hQ : ∀ (u79 u82 u83 u85 u86 u87 u88 u89 u90 u91 u92 u93 u0 : Value) (wx : World), RowKit.Below W.heap.size W wx → (u0 = .bool true) → Q .normal ⟨List.toArray (u0 :: .pointer (some ⟨g1, 0, none⟩) :: .pointer (some ⟨g2, 0, none⟩) :: .pointer (some ⟨g3, 0, none⟩) :: s4 :: s5 :: s6 :: .bool true :: v8 :: .bool true :: s10 :: s11 :: s12 :: s13 :: s14 :: s15 :: s16 :: s17 :: s18 :: s19 :: s20 :: s21 :: s22 :: s23 :: s24 :: s25 :: s26 :: s27 :: s28 :: s29 :: s30 :: s31 :: s32 :: s33 :: s34 :: s35 :: s36 :: s37 :: s38 :: s39 :: s40 :: s41 :: s42 :: s43 :: s44 :: s45 :: s46 :: s47 :: s48 :: s49 :: s50 :: s51 :: s52 :: s53 :: s54 :: s55 :: s56 :: s57 :: s58 :: s59 :: s60 :: s61 :: s62 :: s63 :: s64 :: s65 :: s66 :: s67 :: s68 :: s69 :: s70 :: s71 :: .bool true :: .bool true :: .bool true :: .bool true :: .bool true :: .agg #[.int .i64 1, .int .i64 1, .bool false, .int .i64 5, .int .i64 4, .string ⟨#[65, 49]⟩, .string ⟨#[]⟩, .int .i64 2, .int .i64 400] :: .agg #[.int .i64 1, .int .i64 2, .bool false, .int .i64 5, .int .i64 4, .string ⟨#[66, 49]⟩, .string ⟨#[65, 49]⟩, .int .i64 2, .int .i64 400] :: u79 :: .agg #[.int .i64 1, .int .i64 1, .bool true, .int .i64 0, .int .i64 0, .string ⟨#[]⟩, .string ⟨#[]⟩, .int .i64 0, .int .i64 0] :: .agg #[.int .i64 1, .int .i64 1, .bool false, .int .i64 5, .int .i64 4, .string ⟨#[65, 49]⟩, .string ⟨#[]⟩, .int .i64 2, .int .i64 400] :: u82 :: u83 :: .agg #[.int .i64 1, .int .i64 2, .bool false, .int .i64 5, .int .i64 4, .string ⟨#[66, 49]⟩, .string ⟨#[65, 49]⟩, .int .i64 2, .int .i64 400] :: u85 :: u86 :: u87 :: u88 :: u89 :: u90 :: u91 :: u92 :: u93 :: []), []⟩ wx) :
    (regionOf Tryz.f5 9).wp Tryz.prog Q ⟨List.toArray (s0 :: .pointer (some ⟨g1, 0, none⟩) :: .pointer (some ⟨g2, 0, none⟩) :: .pointer (some ⟨g3, 0, none⟩) :: s4 :: s5 :: s6 :: .bool true :: v8 :: .bool true :: s10 :: s11 :: s12 :: s13 :: s14 :: s15 :: s16 :: s17 :: s18 :: s19 :: s20 :: s21 :: s22 :: s23 :: s24 :: s25 :: s26 :: s27 :: s28 :: s29 :: s30 :: s31 :: s32 :: s33 :: s34 :: s35 :: s36 :: s37 :: s38 :: s39 :: s40 :: s41 :: s42 :: s43 :: s44 :: s45 :: s46 :: s47 :: s48 :: s49 :: s50 :: s51 :: s52 :: s53 :: s54 :: s55 :: s56 :: s57 :: s58 :: s59 :: s60 :: s61 :: s62 :: s63 :: s64 :: s65 :: s66 :: s67 :: s68 :: s69 :: s70 :: s71 :: s72 :: s73 :: s74 :: s75 :: s76 :: s77 :: s78 :: s79 :: s80 :: s81 :: s82 :: s83 :: s84 :: s85 :: s86 :: s87 :: s88 :: s89 :: s90 :: s91 :: s92 :: s93 :: []), []⟩ W := by
  refine of_onlyN (K := Q .normal) ?_ (fun _ _ h => h)
  generalize Q .normal = K at hQ ⊢
  have HQ := Lib.hid hQ; clear hQ
  conv => arg 2; whnf
  have keep : ∀ w', RowKit.Below W.heap.size W w' → RowKit.Below W.heap.size W w' ∧ (∀ j, w'.cell? ⟨g1, j, none⟩ = (#[.int .i64 1, .int .i64 1, .bool false, .int .i64 5, .int .i64 4, .string ⟨#[65, 49]⟩, .string ⟨#[]⟩, .int .i64 2, .int .i64 400] : Array Value)[j]?) ∧ (∀ j, w'.cell? ⟨g2, j, none⟩ = (#[.int .i64 1, .int .i64 2, .bool false, .int .i64 5, .int .i64 4, .string ⟨#[66, 49]⟩, .string ⟨#[65, 49]⟩, .int .i64 2, .int .i64 400] : Array Value)[j]?) ∧ (∀ j, w'.cell? ⟨g3, j, none⟩ = (#[.int .i64 1, .int .i64 1, .bool true, .int .i64 0, .int .i64 0, .string ⟨#[]⟩, .string ⟨#[]⟩, .int .i64 0, .int .i64 0] : Array Value)[j]?) := fun w' hb => ⟨hb, old_keep h1.lt hb h1.cell, old_keep h2.lt hb h2.cell, old_keep h3.lt hb h3.cell⟩
  have hS0 : RowKit.Below W.heap.size W W.drew ∧ (∀ j, W.drew.cell? ⟨g1, j, none⟩ = (#[.int .i64 1, .int .i64 1, .bool false, .int .i64 5, .int .i64 4, .string ⟨#[65, 49]⟩, .string ⟨#[]⟩, .int .i64 2, .int .i64 400] : Array Value)[j]?) ∧ (∀ j, W.drew.cell? ⟨g2, j, none⟩ = (#[.int .i64 1, .int .i64 2, .bool false, .int .i64 5, .int .i64 4, .string ⟨#[66, 49]⟩, .string ⟨#[65, 49]⟩, .int .i64 2, .int .i64 400] : Array Value)[j]?) ∧ (∀ j, W.drew.cell? ⟨g3, j, none⟩ = (#[.int .i64 1, .int .i64 1, .bool true, .int .i64 0, .int .i64 0, .string ⟨#[]⟩, .string ⟨#[]⟩, .int .i64 0, .int .i64 0] : Array Value)[j]?) := keep _ (Below.refl W.heap.size W).drew
  refine wp_region_par (S := fun w' => RowKit.Below W.heap.size W w' ∧ (∀ j, w'.cell? ⟨g1, j, none⟩ = (#[.int .i64 1, .int .i64 1, .bool false, .int .i64 5, .int .i64 4, .string ⟨#[65, 49]⟩, .string ⟨#[]⟩, .int .i64 2, .int .i64 400] : Array Value)[j]?) ∧ (∀ j, w'.cell? ⟨g2, j, none⟩ = (#[.int .i64 1, .int .i64 2, .bool false, .int .i64 5, .int .i64 4, .string ⟨#[66, 49]⟩, .string ⟨#[65, 49]⟩, .int .i64 2, .int .i64 400] : Array Value)[j]?) ∧ (∀ j, w'.cell? ⟨g3, j, none⟩ = (#[.int .i64 1, .int .i64 1, .bool true, .int .i64 0, .int .i64 0, .string ⟨#[]⟩, .string ⟨#[]⟩, .int .i64 0, .int .i64 0] : Array Value)[j]?)) (I := fun L a w => ∃ u79 u82 u83 u85 u86 u87 u88 u89 u90 u91 u92 u93 u0 : Value, a = ⟨List.toArray (u0 :: .pointer (some ⟨g1, 0, none⟩) :: .pointer (some ⟨g2, 0, none⟩) :: .pointer (some ⟨g3, 0, none⟩) :: s4 :: s5 :: s6 :: .bool true :: v8 :: .bool true :: s10 :: s11 :: s12 :: s13 :: s14 :: s15 :: s16 :: s17 :: s18 :: s19 :: s20 :: s21 :: s22 :: s23 :: s24 :: s25 :: s26 :: s27 :: s28 :: s29 :: s30 :: s31 :: s32 :: s33 :: s34 :: s35 :: s36 :: s37 :: s38 :: s39 :: s40 :: s41 :: s42 :: s43 :: s44 :: s45 :: s46 :: s47 :: s48 :: s49 :: s50 :: s51 :: s52 :: s53 :: s54 :: s55 :: s56 :: s57 :: s58 :: s59 :: s60 :: s61 :: s62 :: s63 :: s64 :: s65 :: s66 :: s67 :: s68 :: s69 :: s70 :: s71 :: .bool true :: .bool true :: .bool true :: .bool true :: .bool true :: .agg #[.int .i64 1, .int .i64 1, .bool false, .int .i64 5, .int .i64 4, .string ⟨#[65, 49]⟩, .string ⟨#[]⟩, .int .i64 2, .int .i64 400] :: .agg #[.int .i64 1, .int .i64 2, .bool false, .int .i64 5, .int .i64 4, .string ⟨#[66, 49]⟩, .string ⟨#[65, 49]⟩, .int .i64 2, .int .i64 400] :: u79 :: .agg #[.int .i64 1, .int .i64 1, .bool true, .int .i64 0, .int .i64 0, .string ⟨#[]⟩, .string ⟨#[]⟩, .int .i64 0, .int .i64 0] :: .agg #[.int .i64 1, .int .i64 1, .bool false, .int .i64 5, .int .i64 4, .string ⟨#[65, 49]⟩, .string ⟨#[]⟩, .int .i64 2, .int .i64 400] :: u82 :: u83 :: .agg #[.int .i64 1, .int .i64 2, .bool false, .int .i64 5, .int .i64 4, .string ⟨#[66, 49]⟩, .string ⟨#[65, 49]⟩, .int .i64 2, .int .i64 400] :: u85 :: u86 :: u87 :: u88 :: u89 :: u90 :: u91 :: u92 :: u93 :: []), []⟩ ∧ RowKit.Below W.heap.size W w ∧ (L.getD 7 false = true → ReqsIn w u79 [⟨1, 1, false, 5, 4, ⟨#[65, 49]⟩, ⟨#[]⟩, 2, 400⟩, ⟨1, 2, false, 5, 4, ⟨#[66, 49]⟩, ⟨#[65, 49]⟩, 2, 400⟩]) ∧ (L.getD 10 false = true → ReqsIn w u82 [⟨1, 1, true, 0, 0, ⟨#[]⟩, ⟨#[]⟩, 0, 0⟩, ⟨1, 1, false, 5, 4, ⟨#[65, 49]⟩, ⟨#[]⟩, 2, 400⟩]) ∧ (L.getD 11 false = true → ReqsIn w u83 [⟨1, 2, false, 5, 4, ⟨#[66, 49]⟩, ⟨#[65, 49]⟩, 2, 400⟩]) ∧ (L.getD 13 false = true → ReqsIn w u85 [⟨1, 2, false, 5, 4, ⟨#[66, 49]⟩, ⟨#[65, 49]⟩, 2, 400⟩]) ∧ (L.getD 14 false = true → u86 = .bool true) ∧ (L.getD 15 false = true → u87 = .bool true) ∧ (L.getD 16 false = true → u88 = .bool true) ∧ (L.getD 17 false = true → ReqsIn w u89 [⟨1, 1, false, 5, 4, ⟨#[65, 49]⟩, ⟨#[]⟩, 2, 400⟩, ⟨1, 1, true, 0, 0, ⟨#[]⟩, ⟨#[]⟩, 0, 0⟩, ⟨1, 2, false, 5, 4, ⟨#[66, 49]⟩, ⟨#[65, 49]⟩, 2, 400⟩]) ∧ (L.getD 18 false = true → ∃ s : ByteArray, u90 = .string s ∧ s.size = 8) ∧ (L.getD 19 false = true → u91 = .int .i64 8) ∧ (L.getD 20 false = true → u92 = .bool true) ∧ (L.getD 21 false = true → u93 = .bool true) ∧ (L.getD 22 false = true → u0 = .bool true)) (pre := fun i L => L.size == 23 && ((i == 7) || (i == 10) || (i == 11 && L.getD 7 false && L.getD 10 false) || (i == 13) || (i == 14 && L.getD 11 false && L.getD 13 false) || (i == 15 && L.getD 14 false) || (i == 16 && L.getD 15 false) || (i == 17 && L.getD 16 false) || (i == 18 && L.getD 16 false && L.getD 17 false) || (i == 19 && L.getD 16 false && L.getD 18 false) || (i == 20 && L.getD 16 false && L.getD 19 false) || (i == 21 && L.getD 16 false && L.getD 20 false) || (i == 22 && L.getD 21 false))) (fin := fun L => L.getD 22 false) [0, 1, 2, 3, 4, 5, 6, 8, 9, 12] 13 (by kernel_rfl) (by kernel_rfl) (by kernel_rfl) (by kernel_rfl) (by decide) hS0 ?_ ?_ ?_
  · intro i L a w hp hI
    obtain ⟨u79, u82, u83, u85, u86, u87, u88, u89, u90, u91, u92, u93, u0, rfl, hbw, hP7, hP10, hP11, hP13, hP14, hP15, hP16, hP17, hP18, hP19, hP20, hP21, hP22⟩ := hI
    simp only [Bool.and_eq_true, Bool.or_eq_true, beq_iff_eq] at hp
    obtain ⟨hsz, hp⟩ := hp
    rcases hp with ((((((((((((rfl | rfl) | ⟨⟨rfl, gd7⟩, gd10⟩) | rfl) | ⟨⟨rfl, gd11⟩, gd13⟩) | ⟨rfl, gd14⟩) | ⟨rfl, gd15⟩) | ⟨rfl, gd16⟩) | ⟨⟨rfl, gd16⟩, gd17⟩) | ⟨⟨rfl, gd16⟩, gd18⟩) | ⟨⟨rfl, gd16⟩, gd19⟩) | ⟨⟨rfl, gd16⟩, gd20⟩) | ⟨rfl, gd21⟩)
    · have g7 : (L.setIfInBounds 7 true).getD 7 false = true := by rw [up_set, if_pos ⟨rfl, by omega⟩]
      have g10 : (L.setIfInBounds 7 true).getD 10 false = L.getD 10 false := by rw [up_set, if_neg (by omega)]
      have g11 : (L.setIfInBounds 7 true).getD 11 false = L.getD 11 false := by rw [up_set, if_neg (by omega)]
      have g13 : (L.setIfInBounds 7 true).getD 13 false = L.getD 13 false := by rw [up_set, if_neg (by omega)]
      have g14 : (L.setIfInBounds 7 true).getD 14 false = L.getD 14 false := by rw [up_set, if_neg (by omega)]
      have g15 : (L.setIfInBounds 7 true).getD 15 false = L.getD 15 false := by rw [up_set, if_neg (by omega)]
      have g16 : (L.setIfInBounds 7 true).getD 16 false = L.getD 16 false := by rw [up_set, if_neg (by omega)]
      have g17 : (L.setIfInBounds 7 true).getD 17 false = L.getD 17 false := by rw [up_set, if_neg (by omega)]
      have g18 : (L.setIfInBounds 7 true).getD 18 false = L.getD 18 false := by rw [up_set, if_neg (by omega)]
      have g19 : (L.setIfInBounds 7 true).getD 19 false = L.getD 19 false := by rw [up_set, if_neg (by omega)]
      have g20 : (L.setIfInBounds 7 true).getD 20 false = L.getD 20 false := by rw [up_set, if_neg (by omega)]
      have g21 : (L.setIfInBounds 7 true).getD 21 false = L.getD 21 false := by rw [up_set, if_neg (by omega)]
      have g22 : (L.setIfInBounds 7 true).getD 22 false = L.getD 22 false := by rw [up_set, if_neg (by omega)]
      have hb : RowKit.Below w.heap.size w (w.alloc (.cells #[.int .i64 1, .int .i64 1, .bool false, .int .i64 5, .int .i64 4, .string ⟨#[65, 49]⟩, .string ⟨#[]⟩, .int .i64 2, .int .i64 400, .int .i64 1, .int .i64 2, .bool false, .int .i64 5, .int .i64 4, .string ⟨#[66, 49]⟩, .string ⟨#[65, 49]⟩, .int .i64 2, .int .i64 400] 46)) := below_alloc1 w _
      have hbn := below_next hbw hb
      refine par_run ⟨some 79, _, _, _, _, _⟩ (.slice (some ⟨w.heap.size, 0, none⟩) 2 2) (w.alloc (.cells #[.int .i64 1, .int .i64 1, .bool false, .int .i64 5, .int .i64 4, .string ⟨#[65, 49]⟩, .string ⟨#[]⟩, .int .i64 2, .int .i64 400, .int .i64 1, .int .i64 2, .bool false, .int .i64 5, .int .i64 4, .string ⟨#[66, 49]⟩, .string ⟨#[65, 49]⟩, .int .i64 2, .int .i64 400] 46)) rfl (by rfl) (by go_simp) ?_
      exact ⟨keep _ hbn, (.slice (some ⟨w.heap.size, 0, none⟩) 2 2), (u82), (u83), (u85), (u86), (u87), (u88), (u89), (u90), (u91), (u92), (u93), (u0), by simp only [Act.put, List.setIfInBounds_toArray, List.set_cons_zero, List.set_cons_succ], hbn, fun _ => reqs_laid w [⟨1, 1, false, 5, 4, ⟨#[65, 49]⟩, ⟨#[]⟩, 2, 400⟩, ⟨1, 2, false, 5, 4, ⟨#[66, 49]⟩, ⟨#[65, 49]⟩, 2, 400⟩], by rw [g10]; exact fun e => ReqsIn.below (hP10 e) hb, by rw [g11]; exact fun e => ReqsIn.below (hP11 e) hb, by rw [g13]; exact fun e => ReqsIn.below (hP13 e) hb, by rw [g14]; exact hP14, by rw [g15]; exact hP15, by rw [g16]; exact hP16, by rw [g17]; exact fun e => ReqsIn.below (hP17 e) hb, by rw [g18]; exact hP18, by rw [g19]; exact hP19, by rw [g20]; exact hP20, by rw [g21]; exact hP21, by rw [g22]; exact hP22⟩
    · have g7 : (L.setIfInBounds 10 true).getD 7 false = L.getD 7 false := by rw [up_set, if_neg (by omega)]
      have g10 : (L.setIfInBounds 10 true).getD 10 false = true := by rw [up_set, if_pos ⟨rfl, by omega⟩]
      have g11 : (L.setIfInBounds 10 true).getD 11 false = L.getD 11 false := by rw [up_set, if_neg (by omega)]
      have g13 : (L.setIfInBounds 10 true).getD 13 false = L.getD 13 false := by rw [up_set, if_neg (by omega)]
      have g14 : (L.setIfInBounds 10 true).getD 14 false = L.getD 14 false := by rw [up_set, if_neg (by omega)]
      have g15 : (L.setIfInBounds 10 true).getD 15 false = L.getD 15 false := by rw [up_set, if_neg (by omega)]
      have g16 : (L.setIfInBounds 10 true).getD 16 false = L.getD 16 false := by rw [up_set, if_neg (by omega)]
      have g17 : (L.setIfInBounds 10 true).getD 17 false = L.getD 17 false := by rw [up_set, if_neg (by omega)]
      have g18 : (L.setIfInBounds 10 true).getD 18 false = L.getD 18 false := by rw [up_set, if_neg (by omega)]
      have g19 : (L.setIfInBounds 10 true).getD 19 false = L.getD 19 false := by rw [up_set, if_neg (by omega)]
      have g20 : (L.setIfInBounds 10 true).getD 20 false = L.getD 20 false := by rw [up_set, if_neg (by omega)]
      have g21 : (L.setIfInBounds 10 true).getD 21 false = L.getD 21 false := by rw [up_set, if_neg (by omega)]
      have g22 : (L.setIfInBounds 10 true).getD 22 false = L.getD 22 false := by rw [up_set, if_neg (by omega)]
      have hb : RowKit.Below w.heap.size w (w.alloc (.cells #[.int .i64 1, .int .i64 1, .bool true, .int .i64 0, .int .i64 0, .string ⟨#[]⟩, .string ⟨#[]⟩, .int .i64 0, .int .i64 0, .int .i64 1, .int .i64 1, .bool false, .int .i64 5, .int .i64 4, .string ⟨#[65, 49]⟩, .string ⟨#[]⟩, .int .i64 2, .int .i64 400] 46)) := below_alloc1 w _
      have hbn := below_next hbw hb
      refine par_run ⟨some 82, _, _, _, _, _⟩ (.slice (some ⟨w.heap.size, 0, none⟩) 2 2) (w.alloc (.cells #[.int .i64 1, .int .i64 1, .bool true, .int .i64 0, .int .i64 0, .string ⟨#[]⟩, .string ⟨#[]⟩, .int .i64 0, .int .i64 0, .int .i64 1, .int .i64 1, .bool false, .int .i64 5, .int .i64 4, .string ⟨#[65, 49]⟩, .string ⟨#[]⟩, .int .i64 2, .int .i64 400] 46)) rfl (by rfl) (by go_simp) ?_
      exact ⟨keep _ hbn, (u79), (.slice (some ⟨w.heap.size, 0, none⟩) 2 2), (u83), (u85), (u86), (u87), (u88), (u89), (u90), (u91), (u92), (u93), (u0), by simp only [Act.put, List.setIfInBounds_toArray, List.set_cons_zero, List.set_cons_succ], hbn, by rw [g7]; exact fun e => ReqsIn.below (hP7 e) hb, fun _ => reqs_laid w [⟨1, 1, true, 0, 0, ⟨#[]⟩, ⟨#[]⟩, 0, 0⟩, ⟨1, 1, false, 5, 4, ⟨#[65, 49]⟩, ⟨#[]⟩, 2, 400⟩], by rw [g11]; exact fun e => ReqsIn.below (hP11 e) hb, by rw [g13]; exact fun e => ReqsIn.below (hP13 e) hb, by rw [g14]; exact hP14, by rw [g15]; exact hP15, by rw [g16]; exact hP16, by rw [g17]; exact fun e => ReqsIn.below (hP17 e) hb, by rw [g18]; exact hP18, by rw [g19]; exact hP19, by rw [g20]; exact hP20, by rw [g21]; exact hP21, by rw [g22]; exact hP22⟩
    · have g7 : (L.setIfInBounds 11 true).getD 7 false = L.getD 7 false := by rw [up_set, if_neg (by omega)]
      have g10 : (L.setIfInBounds 11 true).getD 10 false = L.getD 10 false := by rw [up_set, if_neg (by omega)]
      have g11 : (L.setIfInBounds 11 true).getD 11 false = true := by rw [up_set, if_pos ⟨rfl, by omega⟩]
      have g13 : (L.setIfInBounds 11 true).getD 13 false = L.getD 13 false := by rw [up_set, if_neg (by omega)]
      have g14 : (L.setIfInBounds 11 true).getD 14 false = L.getD 14 false := by rw [up_set, if_neg (by omega)]
      have g15 : (L.setIfInBounds 11 true).getD 15 false = L.getD 15 false := by rw [up_set, if_neg (by omega)]
      have g16 : (L.setIfInBounds 11 true).getD 16 false = L.getD 16 false := by rw [up_set, if_neg (by omega)]
      have g17 : (L.setIfInBounds 11 true).getD 17 false = L.getD 17 false := by rw [up_set, if_neg (by omega)]
      have g18 : (L.setIfInBounds 11 true).getD 18 false = L.getD 18 false := by rw [up_set, if_neg (by omega)]
      have g19 : (L.setIfInBounds 11 true).getD 19 false = L.getD 19 false := by rw [up_set, if_neg (by omega)]
      have g20 : (L.setIfInBounds 11 true).getD 20 false = L.getD 20 false := by rw [up_set, if_neg (by omega)]
      have g21 : (L.setIfInBounds 11 true).getD 21 false = L.getD 21 false := by rw [up_set, if_neg (by omega)]
      have g22 : (L.setIfInBounds 11 true).getD 22 false = L.getD 22 false := by rw [up_set, if_neg (by omega)]
      have hD7 := hP7 gd7
      have hD10 := hP10 gd10
      refine par_call ⟨some 83, _, _, _, _, _⟩ rfl (by rfl) 11 _ _ (by rfl) _ (by rfl) Tryz.call11 (missing_at set_mi sm_ab sm_ca (by simp) (by simp) u79 u82 w hD7 hD10) ?_
      rintro x wn ⟨va, rfl, hva, hb⟩
      have hbn := below_next hbw hb
      exact ⟨_, rfl, keep _ hbn, (u79), (u82), (va), (u85), (u86), (u87), (u88), (u89), (u90), (u91), (u92), (u93), (u0), by simp only [Act.put, List.setIfInBounds_toArray, List.set_cons_zero, List.set_cons_succ], hbn, by rw [g7]; exact fun e => ReqsIn.below (hP7 e) hb, by rw [g10]; exact fun e => ReqsIn.below (hP10 e) hb, fun _ => hva, by rw [g13]; exact fun e => ReqsIn.below (hP13 e) hb, by rw [g14]; exact hP14, by rw [g15]; exact hP15, by rw [g16]; exact hP16, by rw [g17]; exact fun e => ReqsIn.below (hP17 e) hb, by rw [g18]; exact hP18, by rw [g19]; exact hP19, by rw [g20]; exact hP20, by rw [g21]; exact hP21, by rw [g22]; exact hP22⟩
    · have g7 : (L.setIfInBounds 13 true).getD 7 false = L.getD 7 false := by rw [up_set, if_neg (by omega)]
      have g10 : (L.setIfInBounds 13 true).getD 10 false = L.getD 10 false := by rw [up_set, if_neg (by omega)]
      have g11 : (L.setIfInBounds 13 true).getD 11 false = L.getD 11 false := by rw [up_set, if_neg (by omega)]
      have g13 : (L.setIfInBounds 13 true).getD 13 false = true := by rw [up_set, if_pos ⟨rfl, by omega⟩]
      have g14 : (L.setIfInBounds 13 true).getD 14 false = L.getD 14 false := by rw [up_set, if_neg (by omega)]
      have g15 : (L.setIfInBounds 13 true).getD 15 false = L.getD 15 false := by rw [up_set, if_neg (by omega)]
      have g16 : (L.setIfInBounds 13 true).getD 16 false = L.getD 16 false := by rw [up_set, if_neg (by omega)]
      have g17 : (L.setIfInBounds 13 true).getD 17 false = L.getD 17 false := by rw [up_set, if_neg (by omega)]
      have g18 : (L.setIfInBounds 13 true).getD 18 false = L.getD 18 false := by rw [up_set, if_neg (by omega)]
      have g19 : (L.setIfInBounds 13 true).getD 19 false = L.getD 19 false := by rw [up_set, if_neg (by omega)]
      have g20 : (L.setIfInBounds 13 true).getD 20 false = L.getD 20 false := by rw [up_set, if_neg (by omega)]
      have g21 : (L.setIfInBounds 13 true).getD 21 false = L.getD 21 false := by rw [up_set, if_neg (by omega)]
      have g22 : (L.setIfInBounds 13 true).getD 22 false = L.getD 22 false := by rw [up_set, if_neg (by omega)]
      have hb : RowKit.Below w.heap.size w (w.alloc (.cells #[.int .i64 1, .int .i64 2, .bool false, .int .i64 5, .int .i64 4, .string ⟨#[66, 49]⟩, .string ⟨#[65, 49]⟩, .int .i64 2, .int .i64 400] 46)) := below_alloc1 w _
      have hbn := below_next hbw hb
      refine par_run ⟨some 85, _, _, _, _, _⟩ (.slice (some ⟨w.heap.size, 0, none⟩) 1 1) (w.alloc (.cells #[.int .i64 1, .int .i64 2, .bool false, .int .i64 5, .int .i64 4, .string ⟨#[66, 49]⟩, .string ⟨#[65, 49]⟩, .int .i64 2, .int .i64 400] 46)) rfl (by rfl) (by go_simp) ?_
      exact ⟨keep _ hbn, (u79), (u82), (u83), (.slice (some ⟨w.heap.size, 0, none⟩) 1 1), (u86), (u87), (u88), (u89), (u90), (u91), (u92), (u93), (u0), by simp only [Act.put, List.setIfInBounds_toArray, List.set_cons_zero, List.set_cons_succ], hbn, by rw [g7]; exact fun e => ReqsIn.below (hP7 e) hb, by rw [g10]; exact fun e => ReqsIn.below (hP10 e) hb, by rw [g11]; exact fun e => ReqsIn.below (hP11 e) hb, fun _ => reqs_laid w [⟨1, 2, false, 5, 4, ⟨#[66, 49]⟩, ⟨#[65, 49]⟩, 2, 400⟩], by rw [g14]; exact hP14, by rw [g15]; exact hP15, by rw [g16]; exact hP16, by rw [g17]; exact fun e => ReqsIn.below (hP17 e) hb, by rw [g18]; exact hP18, by rw [g19]; exact hP19, by rw [g20]; exact hP20, by rw [g21]; exact hP21, by rw [g22]; exact hP22⟩
    · have g7 : (L.setIfInBounds 14 true).getD 7 false = L.getD 7 false := by rw [up_set, if_neg (by omega)]
      have g10 : (L.setIfInBounds 14 true).getD 10 false = L.getD 10 false := by rw [up_set, if_neg (by omega)]
      have g11 : (L.setIfInBounds 14 true).getD 11 false = L.getD 11 false := by rw [up_set, if_neg (by omega)]
      have g13 : (L.setIfInBounds 14 true).getD 13 false = L.getD 13 false := by rw [up_set, if_neg (by omega)]
      have g14 : (L.setIfInBounds 14 true).getD 14 false = true := by rw [up_set, if_pos ⟨rfl, by omega⟩]
      have g15 : (L.setIfInBounds 14 true).getD 15 false = L.getD 15 false := by rw [up_set, if_neg (by omega)]
      have g16 : (L.setIfInBounds 14 true).getD 16 false = L.getD 16 false := by rw [up_set, if_neg (by omega)]
      have g17 : (L.setIfInBounds 14 true).getD 17 false = L.getD 17 false := by rw [up_set, if_neg (by omega)]
      have g18 : (L.setIfInBounds 14 true).getD 18 false = L.getD 18 false := by rw [up_set, if_neg (by omega)]
      have g19 : (L.setIfInBounds 14 true).getD 19 false = L.getD 19 false := by rw [up_set, if_neg (by omega)]
      have g20 : (L.setIfInBounds 14 true).getD 20 false = L.getD 20 false := by rw [up_set, if_neg (by omega)]
      have g21 : (L.setIfInBounds 14 true).getD 21 false = L.getD 21 false := by rw [up_set, if_neg (by omega)]
      have g22 : (L.setIfInBounds 14 true).getD 22 false = L.getD 22 false := by rw [up_set, if_neg (by omega)]
      have hD11 := hP11 gd11
      have hD13 := hP13 gd13
      refine par_call ⟨some 86, _, _, _, _, _⟩ rfl (by rfl) 8 _ _ (by rfl) _ (by rfl) Tryz.call8 (same_at rfl (by simp) u83 u85 w hD11 hD13) ?_
      rintro x wn ⟨rfl, hb⟩
      have hbn := below_next hbw hb
      exact ⟨_, rfl, keep _ hbn, (u79), (u82), (u83), (u85), (.bool true), (u87), (u88), (u89), (u90), (u91), (u92), (u93), (u0), by simp only [Act.put, List.setIfInBounds_toArray, List.set_cons_zero, List.set_cons_succ], hbn, by rw [g7]; exact fun e => ReqsIn.below (hP7 e) hb, by rw [g10]; exact fun e => ReqsIn.below (hP10 e) hb, by rw [g11]; exact fun e => ReqsIn.below (hP11 e) hb, by rw [g13]; exact fun e => ReqsIn.below (hP13 e) hb, fun _ => rfl, by rw [g15]; exact hP15, by rw [g16]; exact hP16, by rw [g17]; exact fun e => ReqsIn.below (hP17 e) hb, by rw [g18]; exact hP18, by rw [g19]; exact hP19, by rw [g20]; exact hP20, by rw [g21]; exact hP21, by rw [g22]; exact hP22⟩
    · have g7 : (L.setIfInBounds 15 true).getD 7 false = L.getD 7 false := by rw [up_set, if_neg (by omega)]
      have g10 : (L.setIfInBounds 15 true).getD 10 false = L.getD 10 false := by rw [up_set, if_neg (by omega)]
      have g11 : (L.setIfInBounds 15 true).getD 11 false = L.getD 11 false := by rw [up_set, if_neg (by omega)]
      have g13 : (L.setIfInBounds 15 true).getD 13 false = L.getD 13 false := by rw [up_set, if_neg (by omega)]
      have g14 : (L.setIfInBounds 15 true).getD 14 false = L.getD 14 false := by rw [up_set, if_neg (by omega)]
      have g15 : (L.setIfInBounds 15 true).getD 15 false = true := by rw [up_set, if_pos ⟨rfl, by omega⟩]
      have g16 : (L.setIfInBounds 15 true).getD 16 false = L.getD 16 false := by rw [up_set, if_neg (by omega)]
      have g17 : (L.setIfInBounds 15 true).getD 17 false = L.getD 17 false := by rw [up_set, if_neg (by omega)]
      have g18 : (L.setIfInBounds 15 true).getD 18 false = L.getD 18 false := by rw [up_set, if_neg (by omega)]
      have g19 : (L.setIfInBounds 15 true).getD 19 false = L.getD 19 false := by rw [up_set, if_neg (by omega)]
      have g20 : (L.setIfInBounds 15 true).getD 20 false = L.getD 20 false := by rw [up_set, if_neg (by omega)]
      have g21 : (L.setIfInBounds 15 true).getD 21 false = L.getD 21 false := by rw [up_set, if_neg (by omega)]
      have g22 : (L.setIfInBounds 15 true).getD 22 false = L.getD 22 false := by rw [up_set, if_neg (by omega)]
      have hD14 := hP14 gd14
      obtain rfl := hD14
      have hb : RowKit.Below w.heap.size w w := Below.refl _ _
      have hbn := below_next hbw hb
      refine par_run ⟨some 87, _, _, _, _, _⟩ (.bool true) w rfl (by rfl) (by go_simp) ?_
      exact ⟨keep _ hbn, (u79), (u82), (u83), (u85), (.bool true), (.bool true), (u88), (u89), (u90), (u91), (u92), (u93), (u0), by simp only [Act.put, List.setIfInBounds_toArray, List.set_cons_zero, List.set_cons_succ], hbn, by rw [g7]; exact fun e => ReqsIn.below (hP7 e) hb, by rw [g10]; exact fun e => ReqsIn.below (hP10 e) hb, by rw [g11]; exact fun e => ReqsIn.below (hP11 e) hb, by rw [g13]; exact fun e => ReqsIn.below (hP13 e) hb, by rw [g14]; exact hP14, fun _ => rfl, by rw [g16]; exact hP16, by rw [g17]; exact fun e => ReqsIn.below (hP17 e) hb, by rw [g18]; exact hP18, by rw [g19]; exact hP19, by rw [g20]; exact hP20, by rw [g21]; exact hP21, by rw [g22]; exact hP22⟩
    · have g7 : (L.setIfInBounds 16 true).getD 7 false = L.getD 7 false := by rw [up_set, if_neg (by omega)]
      have g10 : (L.setIfInBounds 16 true).getD 10 false = L.getD 10 false := by rw [up_set, if_neg (by omega)]
      have g11 : (L.setIfInBounds 16 true).getD 11 false = L.getD 11 false := by rw [up_set, if_neg (by omega)]
      have g13 : (L.setIfInBounds 16 true).getD 13 false = L.getD 13 false := by rw [up_set, if_neg (by omega)]
      have g14 : (L.setIfInBounds 16 true).getD 14 false = L.getD 14 false := by rw [up_set, if_neg (by omega)]
      have g15 : (L.setIfInBounds 16 true).getD 15 false = L.getD 15 false := by rw [up_set, if_neg (by omega)]
      have g16 : (L.setIfInBounds 16 true).getD 16 false = true := by rw [up_set, if_pos ⟨rfl, by omega⟩]
      have g17 : (L.setIfInBounds 16 true).getD 17 false = L.getD 17 false := by rw [up_set, if_neg (by omega)]
      have g18 : (L.setIfInBounds 16 true).getD 18 false = L.getD 18 false := by rw [up_set, if_neg (by omega)]
      have g19 : (L.setIfInBounds 16 true).getD 19 false = L.getD 19 false := by rw [up_set, if_neg (by omega)]
      have g20 : (L.setIfInBounds 16 true).getD 20 false = L.getD 20 false := by rw [up_set, if_neg (by omega)]
      have g21 : (L.setIfInBounds 16 true).getD 21 false = L.getD 21 false := by rw [up_set, if_neg (by omega)]
      have g22 : (L.setIfInBounds 16 true).getD 22 false = L.getD 22 false := by rw [up_set, if_neg (by omega)]
      have hD15 := hP15 gd15
      obtain rfl := hD15
      have hb : RowKit.Below w.heap.size w w := Below.refl _ _
      have hbn := below_next hbw hb
      refine par_run ⟨some 88, _, _, _, _, _⟩ (.bool true) w rfl (by rfl) (by go_simp) ?_
      exact ⟨keep _ hbn, (u79), (u82), (u83), (u85), (u86), (.bool true), (.bool true), (u89), (u90), (u91), (u92), (u93), (u0), by simp only [Act.put, List.setIfInBounds_toArray, List.set_cons_zero, List.set_cons_succ], hbn, by rw [g7]; exact fun e => ReqsIn.below (hP7 e) hb, by rw [g10]; exact fun e => ReqsIn.below (hP10 e) hb, by rw [g11]; exact fun e => ReqsIn.below (hP11 e) hb, by rw [g13]; exact fun e => ReqsIn.below (hP13 e) hb, by rw [g14]; exact hP14, by rw [g15]; exact hP15, fun _ => rfl, by rw [g17]; exact fun e => ReqsIn.below (hP17 e) hb, by rw [g18]; exact hP18, by rw [g19]; exact hP19, by rw [g20]; exact hP20, by rw [g21]; exact hP21, by rw [g22]; exact hP22⟩
    · have g7 : (L.setIfInBounds 17 true).getD 7 false = L.getD 7 false := by rw [up_set, if_neg (by omega)]
      have g10 : (L.setIfInBounds 17 true).getD 10 false = L.getD 10 false := by rw [up_set, if_neg (by omega)]
      have g11 : (L.setIfInBounds 17 true).getD 11 false = L.getD 11 false := by rw [up_set, if_neg (by omega)]
      have g13 : (L.setIfInBounds 17 true).getD 13 false = L.getD 13 false := by rw [up_set, if_neg (by omega)]
      have g14 : (L.setIfInBounds 17 true).getD 14 false = L.getD 14 false := by rw [up_set, if_neg (by omega)]
      have g15 : (L.setIfInBounds 17 true).getD 15 false = L.getD 15 false := by rw [up_set, if_neg (by omega)]
      have g16 : (L.setIfInBounds 17 true).getD 16 false = L.getD 16 false := by rw [up_set, if_neg (by omega)]
      have g17 : (L.setIfInBounds 17 true).getD 17 false = true := by rw [up_set, if_pos ⟨rfl, by omega⟩]
      have g18 : (L.setIfInBounds 17 true).getD 18 false = L.getD 18 false := by rw [up_set, if_neg (by omega)]
      have g19 : (L.setIfInBounds 17 true).getD 19 false = L.getD 19 false := by rw [up_set, if_neg (by omega)]
      have g20 : (L.setIfInBounds 17 true).getD 20 false = L.getD 20 false := by rw [up_set, if_neg (by omega)]
      have g21 : (L.setIfInBounds 17 true).getD 21 false = L.getD 21 false := by rw [up_set, if_neg (by omega)]
      have g22 : (L.setIfInBounds 17 true).getD 22 false = L.getD 22 false := by rw [up_set, if_neg (by omega)]
      have hD16 := hP16 gd16
      obtain rfl := hD16
      have hb : RowKit.Below w.heap.size w w := Below.refl _ _
      have hbn := below_next hbw hb
      refine par_run ⟨some 89, _, _, _, _, _⟩ (v8) w rfl (by rfl) (by go_simp) ?_
      exact ⟨keep _ hbn, (u79), (u82), (u83), (u85), (u86), (u87), (.bool true), (v8), (u90), (u91), (u92), (u93), (u0), by simp only [Act.put, List.setIfInBounds_toArray, List.set_cons_zero, List.set_cons_succ], hbn, by rw [g7]; exact fun e => ReqsIn.below (hP7 e) hb, by rw [g10]; exact fun e => ReqsIn.below (hP10 e) hb, by rw [g11]; exact fun e => ReqsIn.below (hP11 e) hb, by rw [g13]; exact fun e => ReqsIn.below (hP13 e) hb, by rw [g14]; exact hP14, by rw [g15]; exact hP15, by rw [g16]; exact hP16, fun _ => hV.below hbw, by rw [g18]; exact hP18, by rw [g19]; exact hP19, by rw [g20]; exact hP20, by rw [g21]; exact hP21, by rw [g22]; exact hP22⟩
    · have g7 : (L.setIfInBounds 18 true).getD 7 false = L.getD 7 false := by rw [up_set, if_neg (by omega)]
      have g10 : (L.setIfInBounds 18 true).getD 10 false = L.getD 10 false := by rw [up_set, if_neg (by omega)]
      have g11 : (L.setIfInBounds 18 true).getD 11 false = L.getD 11 false := by rw [up_set, if_neg (by omega)]
      have g13 : (L.setIfInBounds 18 true).getD 13 false = L.getD 13 false := by rw [up_set, if_neg (by omega)]
      have g14 : (L.setIfInBounds 18 true).getD 14 false = L.getD 14 false := by rw [up_set, if_neg (by omega)]
      have g15 : (L.setIfInBounds 18 true).getD 15 false = L.getD 15 false := by rw [up_set, if_neg (by omega)]
      have g16 : (L.setIfInBounds 18 true).getD 16 false = L.getD 16 false := by rw [up_set, if_neg (by omega)]
      have g17 : (L.setIfInBounds 18 true).getD 17 false = L.getD 17 false := by rw [up_set, if_neg (by omega)]
      have g18 : (L.setIfInBounds 18 true).getD 18 false = true := by rw [up_set, if_pos ⟨rfl, by omega⟩]
      have g19 : (L.setIfInBounds 18 true).getD 19 false = L.getD 19 false := by rw [up_set, if_neg (by omega)]
      have g20 : (L.setIfInBounds 18 true).getD 20 false = L.getD 20 false := by rw [up_set, if_neg (by omega)]
      have g21 : (L.setIfInBounds 18 true).getD 21 false = L.getD 21 false := by rw [up_set, if_neg (by omega)]
      have g22 : (L.setIfInBounds 18 true).getD 22 false = L.getD 22 false := by rw [up_set, if_neg (by omega)]
      have hD16 := hP16 gd16
      obtain rfl := hD16
      have hD17 := hP17 gd17
      refine par_call ⟨some 90, _, _, _, _, _⟩ rfl (by rfl) 13 _ _ (by rfl) _ (by rfl) Tryz.call13 (digest_at sm_acb (by simp) u89 w hD17 (ht.below hbw)) ?_
      rintro x wn ⟨s, rfl, hs, hb⟩
      have hbn := below_next hbw hb
      exact ⟨_, rfl, keep _ hbn, (u79), (u82), (u83), (u85), (u86), (u87), (.bool true), (u89), (.string s), (u91), (u92), (u93), (u0), by simp only [Act.put, List.setIfInBounds_toArray, List.set_cons_zero, List.set_cons_succ], hbn, by rw [g7]; exact fun e => ReqsIn.below (hP7 e) hb, by rw [g10]; exact fun e => ReqsIn.below (hP10 e) hb, by rw [g11]; exact fun e => ReqsIn.below (hP11 e) hb, by rw [g13]; exact fun e => ReqsIn.below (hP13 e) hb, by rw [g14]; exact hP14, by rw [g15]; exact hP15, by rw [g16]; exact hP16, by rw [g17]; exact fun e => ReqsIn.below (hP17 e) hb, fun _ => ⟨s, rfl, hs⟩, by rw [g19]; exact hP19, by rw [g20]; exact hP20, by rw [g21]; exact hP21, by rw [g22]; exact hP22⟩
    · have g7 : (L.setIfInBounds 19 true).getD 7 false = L.getD 7 false := by rw [up_set, if_neg (by omega)]
      have g10 : (L.setIfInBounds 19 true).getD 10 false = L.getD 10 false := by rw [up_set, if_neg (by omega)]
      have g11 : (L.setIfInBounds 19 true).getD 11 false = L.getD 11 false := by rw [up_set, if_neg (by omega)]
      have g13 : (L.setIfInBounds 19 true).getD 13 false = L.getD 13 false := by rw [up_set, if_neg (by omega)]
      have g14 : (L.setIfInBounds 19 true).getD 14 false = L.getD 14 false := by rw [up_set, if_neg (by omega)]
      have g15 : (L.setIfInBounds 19 true).getD 15 false = L.getD 15 false := by rw [up_set, if_neg (by omega)]
      have g16 : (L.setIfInBounds 19 true).getD 16 false = L.getD 16 false := by rw [up_set, if_neg (by omega)]
      have g17 : (L.setIfInBounds 19 true).getD 17 false = L.getD 17 false := by rw [up_set, if_neg (by omega)]
      have g18 : (L.setIfInBounds 19 true).getD 18 false = L.getD 18 false := by rw [up_set, if_neg (by omega)]
      have g19 : (L.setIfInBounds 19 true).getD 19 false = true := by rw [up_set, if_pos ⟨rfl, by omega⟩]
      have g20 : (L.setIfInBounds 19 true).getD 20 false = L.getD 20 false := by rw [up_set, if_neg (by omega)]
      have g21 : (L.setIfInBounds 19 true).getD 21 false = L.getD 21 false := by rw [up_set, if_neg (by omega)]
      have g22 : (L.setIfInBounds 19 true).getD 22 false = L.getD 22 false := by rw [up_set, if_neg (by omega)]
      have hD16 := hP16 gd16
      obtain rfl := hD16
      have hD18 := hP18 gd18
      obtain ⟨s, rfl, hs⟩ := hD18
      have hb : RowKit.Below w.heap.size w w := Below.refl _ _
      have hbn := below_next hbw hb
      refine par_run ⟨some 91, _, _, _, _, _⟩ (.int .i64 8) w rfl (by rfl) (by go_simp) ?_
      exact ⟨keep _ hbn, (u79), (u82), (u83), (u85), (u86), (u87), (.bool true), (u89), (.string s), (.int .i64 8), (u92), (u93), (u0), by simp only [Act.put, List.setIfInBounds_toArray, List.set_cons_zero, List.set_cons_succ], hbn, by rw [g7]; exact fun e => ReqsIn.below (hP7 e) hb, by rw [g10]; exact fun e => ReqsIn.below (hP10 e) hb, by rw [g11]; exact fun e => ReqsIn.below (hP11 e) hb, by rw [g13]; exact fun e => ReqsIn.below (hP13 e) hb, by rw [g14]; exact hP14, by rw [g15]; exact hP15, by rw [g16]; exact hP16, by rw [g17]; exact fun e => ReqsIn.below (hP17 e) hb, by rw [g18]; exact hP18, fun _ => rfl, by rw [g20]; exact hP20, by rw [g21]; exact hP21, by rw [g22]; exact hP22⟩
    · have g7 : (L.setIfInBounds 20 true).getD 7 false = L.getD 7 false := by rw [up_set, if_neg (by omega)]
      have g10 : (L.setIfInBounds 20 true).getD 10 false = L.getD 10 false := by rw [up_set, if_neg (by omega)]
      have g11 : (L.setIfInBounds 20 true).getD 11 false = L.getD 11 false := by rw [up_set, if_neg (by omega)]
      have g13 : (L.setIfInBounds 20 true).getD 13 false = L.getD 13 false := by rw [up_set, if_neg (by omega)]
      have g14 : (L.setIfInBounds 20 true).getD 14 false = L.getD 14 false := by rw [up_set, if_neg (by omega)]
      have g15 : (L.setIfInBounds 20 true).getD 15 false = L.getD 15 false := by rw [up_set, if_neg (by omega)]
      have g16 : (L.setIfInBounds 20 true).getD 16 false = L.getD 16 false := by rw [up_set, if_neg (by omega)]
      have g17 : (L.setIfInBounds 20 true).getD 17 false = L.getD 17 false := by rw [up_set, if_neg (by omega)]
      have g18 : (L.setIfInBounds 20 true).getD 18 false = L.getD 18 false := by rw [up_set, if_neg (by omega)]
      have g19 : (L.setIfInBounds 20 true).getD 19 false = L.getD 19 false := by rw [up_set, if_neg (by omega)]
      have g20 : (L.setIfInBounds 20 true).getD 20 false = true := by rw [up_set, if_pos ⟨rfl, by omega⟩]
      have g21 : (L.setIfInBounds 20 true).getD 21 false = L.getD 21 false := by rw [up_set, if_neg (by omega)]
      have g22 : (L.setIfInBounds 20 true).getD 22 false = L.getD 22 false := by rw [up_set, if_neg (by omega)]
      have hD16 := hP16 gd16
      obtain rfl := hD16
      have hD19 := hP19 gd19
      obtain rfl := hD19
      have hb : RowKit.Below w.heap.size w w := Below.refl _ _
      have hbn := below_next hbw hb
      refine par_run ⟨some 92, _, _, _, _, _⟩ (.bool true) w rfl (by rfl) (by go_simp) ?_
      exact ⟨keep _ hbn, (u79), (u82), (u83), (u85), (u86), (u87), (.bool true), (u89), (u90), (.int .i64 8), (.bool true), (u93), (u0), by simp only [Act.put, List.setIfInBounds_toArray, List.set_cons_zero, List.set_cons_succ], hbn, by rw [g7]; exact fun e => ReqsIn.below (hP7 e) hb, by rw [g10]; exact fun e => ReqsIn.below (hP10 e) hb, by rw [g11]; exact fun e => ReqsIn.below (hP11 e) hb, by rw [g13]; exact fun e => ReqsIn.below (hP13 e) hb, by rw [g14]; exact hP14, by rw [g15]; exact hP15, by rw [g16]; exact hP16, by rw [g17]; exact fun e => ReqsIn.below (hP17 e) hb, by rw [g18]; exact hP18, by rw [g19]; exact hP19, fun _ => rfl, by rw [g21]; exact hP21, by rw [g22]; exact hP22⟩
    · have g7 : (L.setIfInBounds 21 true).getD 7 false = L.getD 7 false := by rw [up_set, if_neg (by omega)]
      have g10 : (L.setIfInBounds 21 true).getD 10 false = L.getD 10 false := by rw [up_set, if_neg (by omega)]
      have g11 : (L.setIfInBounds 21 true).getD 11 false = L.getD 11 false := by rw [up_set, if_neg (by omega)]
      have g13 : (L.setIfInBounds 21 true).getD 13 false = L.getD 13 false := by rw [up_set, if_neg (by omega)]
      have g14 : (L.setIfInBounds 21 true).getD 14 false = L.getD 14 false := by rw [up_set, if_neg (by omega)]
      have g15 : (L.setIfInBounds 21 true).getD 15 false = L.getD 15 false := by rw [up_set, if_neg (by omega)]
      have g16 : (L.setIfInBounds 21 true).getD 16 false = L.getD 16 false := by rw [up_set, if_neg (by omega)]
      have g17 : (L.setIfInBounds 21 true).getD 17 false = L.getD 17 false := by rw [up_set, if_neg (by omega)]
      have g18 : (L.setIfInBounds 21 true).getD 18 false = L.getD 18 false := by rw [up_set, if_neg (by omega)]
      have g19 : (L.setIfInBounds 21 true).getD 19 false = L.getD 19 false := by rw [up_set, if_neg (by omega)]
      have g20 : (L.setIfInBounds 21 true).getD 20 false = L.getD 20 false := by rw [up_set, if_neg (by omega)]
      have g21 : (L.setIfInBounds 21 true).getD 21 false = true := by rw [up_set, if_pos ⟨rfl, by omega⟩]
      have g22 : (L.setIfInBounds 21 true).getD 22 false = L.getD 22 false := by rw [up_set, if_neg (by omega)]
      have hD16 := hP16 gd16
      obtain rfl := hD16
      have hD20 := hP20 gd20
      obtain rfl := hD20
      have hb : RowKit.Below w.heap.size w w := Below.refl _ _
      have hbn := below_next hbw hb
      refine par_run ⟨some 93, _, _, _, _, _⟩ (.bool true) w rfl (by rfl) (by go_simp) ?_
      exact ⟨keep _ hbn, (u79), (u82), (u83), (u85), (u86), (u87), (.bool true), (u89), (u90), (u91), (.bool true), (.bool true), (u0), by simp only [Act.put, List.setIfInBounds_toArray, List.set_cons_zero, List.set_cons_succ], hbn, by rw [g7]; exact fun e => ReqsIn.below (hP7 e) hb, by rw [g10]; exact fun e => ReqsIn.below (hP10 e) hb, by rw [g11]; exact fun e => ReqsIn.below (hP11 e) hb, by rw [g13]; exact fun e => ReqsIn.below (hP13 e) hb, by rw [g14]; exact hP14, by rw [g15]; exact hP15, by rw [g16]; exact hP16, by rw [g17]; exact fun e => ReqsIn.below (hP17 e) hb, by rw [g18]; exact hP18, by rw [g19]; exact hP19, by rw [g20]; exact hP20, fun _ => rfl, by rw [g22]; exact hP22⟩
    · have g7 : (L.setIfInBounds 22 true).getD 7 false = L.getD 7 false := by rw [up_set, if_neg (by omega)]
      have g10 : (L.setIfInBounds 22 true).getD 10 false = L.getD 10 false := by rw [up_set, if_neg (by omega)]
      have g11 : (L.setIfInBounds 22 true).getD 11 false = L.getD 11 false := by rw [up_set, if_neg (by omega)]
      have g13 : (L.setIfInBounds 22 true).getD 13 false = L.getD 13 false := by rw [up_set, if_neg (by omega)]
      have g14 : (L.setIfInBounds 22 true).getD 14 false = L.getD 14 false := by rw [up_set, if_neg (by omega)]
      have g15 : (L.setIfInBounds 22 true).getD 15 false = L.getD 15 false := by rw [up_set, if_neg (by omega)]
      have g16 : (L.setIfInBounds 22 true).getD 16 false = L.getD 16 false := by rw [up_set, if_neg (by omega)]
      have g17 : (L.setIfInBounds 22 true).getD 17 false = L.getD 17 false := by rw [up_set, if_neg (by omega)]
      have g18 : (L.setIfInBounds 22 true).getD 18 false = L.getD 18 false := by rw [up_set, if_neg (by omega)]
      have g19 : (L.setIfInBounds 22 true).getD 19 false = L.getD 19 false := by rw [up_set, if_neg (by omega)]
      have g20 : (L.setIfInBounds 22 true).getD 20 false = L.getD 20 false := by rw [up_set, if_neg (by omega)]
      have g21 : (L.setIfInBounds 22 true).getD 21 false = L.getD 21 false := by rw [up_set, if_neg (by omega)]
      have g22 : (L.setIfInBounds 22 true).getD 22 false = true := by rw [up_set, if_pos ⟨rfl, by omega⟩]
      have hD21 := hP21 gd21
      obtain rfl := hD21
      have hb : RowKit.Below w.heap.size w w := Below.refl _ _
      have hbn := below_next hbw hb
      refine par_run ⟨some 0, _, _, _, _, _⟩ (.bool true) w rfl (by rfl) (by go_simp) ?_
      exact ⟨keep _ hbn, (u79), (u82), (u83), (u85), (u86), (u87), (u88), (u89), (u90), (u91), (u92), (.bool true), (.bool true), by simp only [Act.put, List.setIfInBounds_toArray, List.set_cons_zero], hbn, by rw [g7]; exact fun e => ReqsIn.below (hP7 e) hb, by rw [g10]; exact fun e => ReqsIn.below (hP10 e) hb, by rw [g11]; exact fun e => ReqsIn.below (hP11 e) hb, by rw [g13]; exact fun e => ReqsIn.below (hP13 e) hb, by rw [g14]; exact hP14, by rw [g15]; exact hP15, by rw [g16]; exact hP16, by rw [g17]; exact fun e => ReqsIn.below (hP17 e) hb, by rw [g18]; exact hP18, by rw [g19]; exact hP19, by rw [g20]; exact hP20, by rw [g21]; exact hP21, fun _ => rfl⟩
  · intro L a w hp hI
    obtain ⟨u79, u82, u83, u85, u86, u87, u88, u89, u90, u91, u92, u93, u0, rfl, hbw, hP7, hP10, hP11, hP13, hP14, hP15, hP16, hP17, hP18, hP19, hP20, hP21, hP22⟩ := hI
    (try simp only [Bool.and_eq_true] at hp)
    have p22 := hp
    exact HQ.out _ _ _ _ _ _ _ _ _ _ _ _ _ w hbw (hP22 p22)
  · refine par_take ⟨some 72, _, _, _, _, _⟩ ?_ rfl (by rfl) ?_ ?_
    rotate_left 1
    · intro w hSw; (try dsimp only at hSw); go_simp; (try with_reducible rfl)
    simp only [Act.put, List.setIfInBounds_toArray, List.set_cons_zero, List.set_cons_succ]
    refine par_take ⟨some 73, _, _, _, _, _⟩ ?_ rfl (by rfl) ?_ ?_
    rotate_left 1
    · intro w hSw; (try dsimp only at hSw); go_simp; (try with_reducible rfl)
    simp only [Act.put, List.setIfInBounds_toArray, List.set_cons_zero, List.set_cons_succ]
    refine par_take ⟨some 74, _, _, _, _, _⟩ ?_ rfl (by rfl) ?_ ?_
    rotate_left 1
    · intro w hSw; (try dsimp only at hSw); go_simp; (try with_reducible rfl)
    simp only [Act.put, List.setIfInBounds_toArray, List.set_cons_zero, List.set_cons_succ]
    refine par_take ⟨some 75, _, _, _, _, _⟩ ?_ rfl (by rfl) ?_ ?_
    rotate_left 1
    · intro w hSw; (try dsimp only at hSw); go_simp; (try with_reducible rfl)
    simp only [Act.put, List.setIfInBounds_toArray, List.set_cons_zero, List.set_cons_succ]
    refine par_take ⟨some 76, _, _, _, _, _⟩ ?_ rfl (by rfl) ?_ ?_
    rotate_left 1
    · intro w hSw; (try dsimp only at hSw); go_simp; (try with_reducible rfl)
    simp only [Act.put, List.setIfInBounds_toArray, List.set_cons_zero, List.set_cons_succ]
    refine par_take ⟨some 77, _, _, _, _, _⟩ ?_ rfl (by rfl) ?_ ?_
    rotate_left 1
    · intro w hSw; (try dsimp only at hSw); go_simp; (try with_reducible rfl)
    simp only [Act.put, List.setIfInBounds_toArray, List.set_cons_zero, List.set_cons_succ]
    refine par_take ⟨some 78, _, _, _, _, _⟩ ?_ rfl (by rfl) ?_ ?_
    rotate_left 1
    · intro w hSw; (try dsimp only at hSw); go_simp; (try with_reducible rfl)
    simp only [Act.put, List.setIfInBounds_toArray, List.set_cons_zero, List.set_cons_succ]
    refine par_take ⟨some 80, _, _, _, _, _⟩ ?_ rfl (by rfl) ?_ ?_
    rotate_left 1
    · intro w hSw; (try dsimp only at hSw); go_simp; (try with_reducible rfl)
    simp only [Act.put, List.setIfInBounds_toArray, List.set_cons_zero, List.set_cons_succ]
    refine par_take ⟨some 81, _, _, _, _, _⟩ ?_ rfl (by rfl) ?_ ?_
    rotate_left 1
    · intro w hSw; (try dsimp only at hSw); go_simp; (try with_reducible rfl)
    simp only [Act.put, List.setIfInBounds_toArray, List.set_cons_zero, List.set_cons_succ]
    refine par_take ⟨some 84, _, _, _, _, _⟩ ?_ rfl (by rfl) ?_ ?_
    rotate_left 1
    · intro w hSw; (try dsimp only at hSw); go_simp; (try with_reducible rfl)
    simp only [Act.put, List.setIfInBounds_toArray, List.set_cons_zero, List.set_cons_succ]
    exact ⟨_, _, _, _, _, _, _, _, _, _, _, _, _, rfl, (Below.refl W.heap.size W).drew, (fun e => absurd e (by decide +kernel)), (fun e => absurd e (by decide +kernel)), (fun e => absurd e (by decide +kernel)), (fun e => absurd e (by decide +kernel)), (fun e => absurd e (by decide +kernel)), (fun e => absurd e (by decide +kernel)), (fun e => absurd e (by decide +kernel)), (fun e => absurd e (by decide +kernel)), (fun e => absurd e (by decide +kernel)), (fun e => absurd e (by decide +kernel)), (fun e => absurd e (by decide +kernel)), (fun e => absurd e (by decide +kernel)), (fun e => absurd e (by decide +kernel))⟩
end Go.Proofs.YtanmmooflhomoaaGreatDoor
