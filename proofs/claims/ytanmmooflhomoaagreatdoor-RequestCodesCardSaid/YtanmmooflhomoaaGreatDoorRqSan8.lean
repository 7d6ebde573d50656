/- Pieces of sanity: regions 8. -/
import Derived.Test.YtanmmooflhomoaaGreatDoorRqSanP
namespace Go.Proofs.YtanmmooflhomoaaGreatDoor
open Go Go.Proofs Go.RowKit Go.Sort Go.Lib
attribute [local go_sem] Req.cells

set_option maxHeartbeats 8000000 in
set_option maxRecDepth 100000 in
theorem san_r8 {s0 s4 s5 s6 s7 s9 s10 s11 s12 s13 s14 s15 s16 s17 s18 s19 s20 s21 s22 s23 s24 s25 s26 s27 s28 s29 s30 s31 s32 s33 s34 s35 s36 s37 s38 s39 s40 s41 s42 s43 s44 s45 s46 s47 s48 s49 s50 s51 s52 s53 s54 s55 s56 s57 s58 s59 s60 s61 s62 s63 s64 s65 s66 s67 s68 s69 s70 s71 s72 s73 s74 s75 s76 s77 s78 s79 s80 s81 s82 s83 s84 s85 s86 s87 s88 s89 s90 s91 s92 s93 : Value} (g1 g2 g3 : Nat) (v8 : Value) (W : World) (Q : Exit → Act → World → Prop) (h1 : ReqBox W g1 ⟨1, 1, false, 5, 4, ⟨#[65, 49]⟩, ⟨#[]⟩, 2, 400⟩) (h2 : ReqBox W g2 ⟨1, 2, false, 5, 4, ⟨#[66, 49]⟩, ⟨#[65, 49]⟩, 2, 400⟩) (h3 : ReqBox W g3 ⟨1, 1, true, 0, 0, ⟨#[]⟩, ⟨#[]⟩, 0, 0⟩) (hV : ReqsIn W v8 [⟨1, 1, false, 5, 4, ⟨#[65, 49]⟩, ⟨#[]⟩, 2, 400⟩, ⟨1, 1, true, 0, 0, ⟨#[]⟩, ⟨#[]⟩, 0, 0⟩, ⟨1, 2, false, 5, 4, ⟨#[66, 49]⟩, ⟨#[65, 49]⟩, 2, 400⟩])
    (hQ : ∀ (u53 u54 u55 u56 u57 u58 u59 u60 u61 u62 u63 u64 u65 u66 u67 u68 u69 u70 u71 u9 : Value) (wx : World), RowKit.Below W.heap.size W wx → (u9 = .bool true) → Q .normal ⟨List.toArray (s0 :: .pointer (some ⟨g1, 0, none⟩) :: .pointer (some ⟨g2, 0, none⟩) :: .pointer (some ⟨g3, 0, none⟩) :: s4 :: s5 :: s6 :: s7 :: v8 :: u9 :: s10 :: s11 :: s12 :: s13 :: s14 :: s15 :: s16 :: s17 :: s18 :: s19 :: s20 :: s21 :: s22 :: s23 :: s24 :: s25 :: s26 :: s27 :: s28 :: s29 :: s30 :: s31 :: s32 :: s33 :: s34 :: s35 :: s36 :: s37 :: s38 :: s39 :: s40 :: s41 :: s42 :: s43 :: s44 :: s45 :: s46 :: s47 :: s48 :: v8 :: .agg #[.int .i64 1, .int .i64 1, .bool false, .int .i64 5, .int .i64 4, .string ⟨#[65, 49]⟩, .string ⟨#[]⟩, .int .i64 2, .int .i64 400] :: .agg #[.int .i64 1, .int .i64 1, .bool true, .int .i64 0, .int .i64 0, .string ⟨#[]⟩, .string ⟨#[]⟩, .int .i64 0, .int .i64 0] :: .agg #[.int .i64 1, .int .i64 2, .bool false, .int .i64 5, .int .i64 4, .string ⟨#[66, 49]⟩, .string ⟨#[65, 49]⟩, .int .i64 2, .int .i64 400] :: u53 :: u54 :: u55 :: u56 :: u57 :: u58 :: u59 :: u60 :: u61 :: u62 :: u63 :: u64 :: u65 :: u66 :: u67 :: u68 :: u69 :: u70 :: u71 :: s72 :: s73 :: s74 :: s75 :: s76 :: s77 :: s78 :: s79 :: s80 :: s81 :: s82 :: s83 :: s84 :: s85 :: s86 :: s87 :: s88 :: s89 :: s90 :: s91 :: s92 :: s93 :: []), []⟩ wx) :
    (regionOf Tryz.f5 8).wp Tryz.prog Q ⟨List.toArray (s0 :: .pointer (some ⟨g1, 0, none⟩) :: .pointer (some ⟨g2, 0, none⟩) :: .pointer (some ⟨g3, 0, none⟩) :: s4 :: s5 :: s6 :: s7 :: v8 :: s9 :: s10 :: s11 :: s12 :: s13 :: s14 :: s15 :: s16 :: s17 :: s18 :: s19 :: s20 :: s21 :: s22 :: s23 :: s24 :: s25 :: s26 :: s27 :: s28 :: s29 :: s30 :: s31 :: s32 :: s33 :: s34 :: s35 :: s36 :: s37 :: s38 :: s39 :: s40 :: s41 :: s42 :: s43 :: s44 :: s45 :: s46 :: s47 :: s48 :: s49 :: s50 :: s51 :: s52 :: s53 :: s54 :: s55 :: s56 :: s57 :: s58 :: s59 :: s60 :: s61 :: s62 :: s63 :: s64 :: s65 :: s66 :: s67 :: s68 :: s69 :: s70 :: s71 :: s72 :: s73 :: s74 :: s75 :: s76 :: s77 :: s78 :: s79 :: s80 :: s81 :: s82 :: s83 :: s84 :: s85 :: s86 :: s87 :: s88 :: s89 :: s90 :: s91 :: s92 :: s93 :: []), []⟩ W := by
  refine of_onlyN (K := Q .normal) ?_ (fun _ _ h => h)
  generalize Q .normal = K at hQ ⊢
  have HQ := Lib.hid hQ; clear hQ
  conv => arg 2; whnf
  have keep : ∀ w', RowKit.Below W.heap.size W w' → RowKit.Below W.heap.size W w' ∧ (∀ j, w'.cell? ⟨g1, j, none⟩ = (#[.int .i64 1, .int .i64 1, .bool false, .int .i64 5, .int .i64 4, .string ⟨#[65, 49]⟩, .string ⟨#[]⟩, .int .i64 2, .int .i64 400] : Array Value)[j]?) ∧ (∀ j, w'.cell? ⟨g2, j, none⟩ = (#[.int .i64 1, .int .i64 2, .bool false, .int .i64 5, .int .i64 4, .string ⟨#[66, 49]⟩, .string ⟨#[65, 49]⟩, .int .i64 2, .int .i64 400] : Array Value)[j]?) ∧ (∀ j, w'.cell? ⟨g3, j, none⟩ = (#[.int .i64 1, .int .i64 1, .bool true, .int .i64 0, .int .i64 0, .string ⟨#[]⟩, .string ⟨#[]⟩, .int .i64 0, .int .i64 0] : Array Value)[j]?) := fun w' hb => ⟨hb, old_keep h1.lt hb h1.cell, old_keep h2.lt hb h2.cell, old_keep h3.lt hb h3.cell⟩
  have hS0 : RowKit.Below W.heap.size W W.drew ∧ (∀ j, W.drew.cell? ⟨g1, j, none⟩ = (#[.int .i64 1, .int .i64 1, .bool false, .int .i64 5, .int .i64 4, .string ⟨#[65, 49]⟩, .string ⟨#[]⟩, .int .i64 2, .int .i64 400] : Array Value)[j]?) ∧ (∀ j, W.drew.cell? ⟨g2, j, none⟩ = (#[.int .i64 1, .int .i64 2, .bool false, .int .i64 5, .int .i64 4, .string ⟨#[66, 49]⟩, .string ⟨#[65, 49]⟩, .int .i64 2, .int .i64 400] : Array Value)[j]?) ∧ (∀ j, W.drew.cell? ⟨g3, j, none⟩ = (#[.int .i64 1, .int .i64 1, .bool true, .int .i64 0, .int .i64 0, .string ⟨#[]⟩, .string ⟨#[]⟩, .int .i64 0, .int .i64 0] : Array Value)[j]?) := keep _ (Below.refl W.heap.size W).drew
  refine wp_region_par (S := fun w' => RowKit.Below W.heap.size W w' ∧ (∀ j, w'.cell? ⟨g1, j, none⟩ = (#[.int .i64 1, .int .i64 1, .bool false, .int .i64 5, .int .i64 4, .string ⟨#[65, 49]⟩, .string ⟨#[]⟩, .int .i64 2, .int .i64 400] : Array Value)[j]?) ∧ (∀ j, w'.cell? ⟨g2, j, none⟩ = (#[.int .i64 1, .int .i64 2, .bool false, .int .i64 5, .int .i64 4, .string ⟨#[66, 49]⟩, .string ⟨#[65, 49]⟩, .int .i64 2, .int .i64 400] : Array Value)[j]?) ∧ (∀ j, w'.cell? ⟨g3, j, none⟩ = (#[.int .i64 1, .int .i64 1, .bool true, .int .i64 0, .int .i64 0, .string ⟨#[]⟩, .string ⟨#[]⟩, .int .i64 0, .int .i64 0] : Array Value)[j]?)) (I := fun L a w => ∃ u53 u54 u55 u56 u57 u58 u59 u60 u61 u62 u63 u64 u65 u66 u67 u68 u69 u70 u71 u9 : Value, a = ⟨List.toArray (s0 :: .pointer (some ⟨g1, 0, none⟩) :: .pointer (some ⟨g2, 0, none⟩) :: .pointer (some ⟨g3, 0, none⟩) :: s4 :: s5 :: s6 :: s7 :: v8 :: u9 :: s10 :: s11 :: s12 :: s13 :: s14 :: s15 :: s16 :: s17 :: s18 :: s19 :: s20 :: s21 :: s22 :: s23 :: s24 :: s25 :: s26 :: s27 :: s28 :: s29 :: s30 :: s31 :: s32 :: s33 :: s34 :: s35 :: s36 :: s37 :: s38 :: s39 :: s40 :: s41 :: s42 :: s43 :: s44 :: s45 :: s46 :: s47 :: s48 :: v8 :: .agg #[.int .i64 1, .int .i64 1, .bool false, .int .i64 5, .int .i64 4, .string ⟨#[65, 49]⟩, .string ⟨#[]⟩, .int .i64 2, .int .i64 400] :: .agg #[.int .i64 1, .int .i64 1, .bool true, .int .i64 0, .int .i64 0, .string ⟨#[]⟩, .string ⟨#[]⟩, .int .i64 0, .int .i64 0] :: .agg #[.int .i64 1, .int .i64 2, .bool false, .int .i64 5, .int .i64 4, .string ⟨#[66, 49]⟩, .string ⟨#[65, 49]⟩, .int .i64 2, .int .i64 400] :: u53 :: u54 :: u55 :: u56 :: u57 :: u58 :: u59 :: u60 :: u61 :: u62 :: u63 :: u64 :: u65 :: u66 :: u67 :: u68 :: u69 :: u70 :: u71 :: s72 :: s73 :: s74 :: s75 :: s76 :: s77 :: s78 :: s79 :: s80 :: s81 :: s82 :: s83 :: s84 :: s85 :: s86 :: s87 :: s88 :: s89 :: s90 :: s91 :: s92 :: s93 :: []), []⟩ ∧ RowKit.Below W.heap.size W w ∧ (L.getD 4 false = true → ReqsIn w u53 [⟨1, 1, false, 5, 4, ⟨#[65, 49]⟩, ⟨#[]⟩, 2, 400⟩, ⟨1, 1, true, 0, 0, ⟨#[]⟩, ⟨#[]⟩, 0, 0⟩, ⟨1, 2, false, 5, 4, ⟨#[66, 49]⟩, ⟨#[65, 49]⟩, 2, 400⟩]) ∧ (L.getD 5 false = true → u54 = .bool true) ∧ (L.getD 6 false = true → u55 = .bool true) ∧ (L.getD 7 false = true → ReqsIn w u56 [⟨1, 1, false, 5, 4, ⟨#[65, 49]⟩, ⟨#[]⟩, 2, 400⟩, ⟨1, 1, true, 0, 0, ⟨#[]⟩, ⟨#[]⟩, 0, 0⟩, ⟨1, 2, false, 5, 4, ⟨#[66, 49]⟩, ⟨#[65, 49]⟩, 2, 400⟩]) ∧ (L.getD 8 false = true → ReqsIn w u57 [⟨1, 2, false, 5, 4, ⟨#[66, 49]⟩, ⟨#[65, 49]⟩, 2, 400⟩]) ∧ (L.getD 9 false = true → u58 = .agg #[.int .i64 1, .int .i64 2, .bool false, .int .i64 5, .int .i64 4, .string ⟨#[66, 49]⟩, .string ⟨#[65, 49]⟩, .int .i64 2, .int .i64 400]) ∧ (L.getD 10 false = true → ReqsIn w u59 [⟨1, 2, false, 5, 4, ⟨#[66, 49]⟩, ⟨#[65, 49]⟩, 2, 400⟩]) ∧ (L.getD 11 false = true → u60 = .bool true) ∧ (L.getD 12 false = true → u61 = .bool true) ∧ (L.getD 13 false = true → u62 = .bool true) ∧ (L.getD 14 false = true → u63 = .agg #[.int .i64 1, .int .i64 2, .bool false, .int .i64 5, .int .i64 4, .string ⟨#[66, 49]⟩, .string ⟨#[65, 49]⟩, .int .i64 2, .int .i64 400]) ∧ (L.getD 15 false = true → u64 = .agg #[.int .i64 1, .int .i64 1, .bool false, .int .i64 5, .int .i64 4, .string ⟨#[65, 49]⟩, .string ⟨#[]⟩, .int .i64 2, .int .i64 400]) ∧ (L.getD 16 false = true → ReqsIn w u65 [⟨1, 2, false, 5, 4, ⟨#[66, 49]⟩, ⟨#[65, 49]⟩, 2, 400⟩, ⟨1, 1, false, 5, 4, ⟨#[65, 49]⟩, ⟨#[]⟩, 2, 400⟩]) ∧ (L.getD 17 false = true → ReqsIn w u66 [⟨1, 1, false, 5, 4, ⟨#[65, 49]⟩, ⟨#[]⟩, 2, 400⟩, ⟨1, 2, false, 5, 4, ⟨#[66, 49]⟩, ⟨#[65, 49]⟩, 2, 400⟩]) ∧ (L.getD 18 false = true → u67 = .agg #[.int .i64 1, .int .i64 1, .bool false, .int .i64 5, .int .i64 4, .string ⟨#[65, 49]⟩, .string ⟨#[]⟩, .int .i64 2, .int .i64 400]) ∧ (L.getD 19 false = true → u68 = .agg #[.int .i64 1, .int .i64 2, .bool false, .int .i64 5, .int .i64 4, .string ⟨#[66, 49]⟩, .string ⟨#[65, 49]⟩, .int .i64 2, .int .i64 400]) ∧ (L.getD 20 false = true → ReqsIn w u69 [⟨1, 1, false, 5, 4, ⟨#[65, 49]⟩, ⟨#[]⟩, 2, 400⟩, ⟨1, 2, false, 5, 4, ⟨#[66, 49]⟩, ⟨#[65, 49]⟩, 2, 400⟩]) ∧ (L.getD 21 false = true → u70 = .bool true) ∧ (L.getD 22 false = true → u71 = .bool true) ∧ (L.getD 23 false = true → u9 = .bool true)) (pre := fun i L => L.size == 24 && ((i == 4) || (i == 5 && L.getD 4 false) || (i == 6 && L.getD 5 false) || (i == 7 && L.getD 6 false) || (i == 8 && L.getD 6 false && L.getD 7 false) || (i == 9 && L.getD 6 false) || (i == 10 && L.getD 6 false && L.getD 9 false) || (i == 11 && L.getD 6 false && L.getD 8 false && L.getD 10 false) || (i == 12 && L.getD 6 false && L.getD 11 false) || (i == 13 && L.getD 12 false) || (i == 14 && L.getD 13 false) || (i == 15 && L.getD 13 false) || (i == 16 && L.getD 13 false && L.getD 14 false && L.getD 15 false) || (i == 17 && L.getD 13 false && L.getD 16 false) || (i == 18 && L.getD 13 false) || (i == 19 && L.getD 13 false) || (i == 20 && L.getD 13 false && L.getD 18 false && L.getD 19 false) || (i == 21 && L.getD 13 false && L.getD 17 false && L.getD 20 false) || (i == 22 && L.getD 13 false && L.getD 21 false) || (i == 23 && L.getD 22 false))) (fin := fun L => L.getD 23 false) [0, 1, 2, 3] 20 (by kernel_rfl) (by kernel_rfl) (by kernel_rfl) (by kernel_rfl) (by decide) hS0 ?_ ?_ ?_
  · intro i L a w hp hI
    obtain ⟨u53, u54, u55, u56, u57, u58, u59, u60, u61, u62, u63, u64, u65, u66, u67, u68, u69, u70, u71, u9, rfl, hbw, hP4, hP5, hP6, hP7, hP8, hP9, hP10, hP11, hP12, hP13, hP14, hP15, hP16, hP17, hP18, hP19, hP20, hP21, hP22, hP23⟩ := hI
    simp only [Bool.and_eq_true, Bool.or_eq_true, beq_iff_eq] at hp
    obtain ⟨hsz, hp⟩ := hp
    rcases hp with (((((((((((((((((((rfl | ⟨rfl, gd4⟩) | ⟨rfl, gd5⟩) | ⟨rfl, gd6⟩) | ⟨⟨rfl, gd6⟩, gd7⟩) | ⟨rfl, gd6⟩) | ⟨⟨rfl, gd6⟩, gd9⟩) | ⟨⟨⟨rfl, gd6⟩, gd8⟩, gd10⟩) | ⟨⟨rfl, gd6⟩, gd11⟩) | ⟨rfl, gd12⟩) | ⟨rfl, gd13⟩) | ⟨rfl, gd13⟩) | ⟨⟨⟨rfl, gd13⟩, gd14⟩, gd15⟩) | ⟨⟨rfl, gd13⟩, gd16⟩) | ⟨rfl, gd13⟩) | ⟨rfl, gd13⟩) | ⟨⟨⟨rfl, gd13⟩, gd18⟩, gd19⟩) | ⟨⟨⟨rfl, gd13⟩, gd17⟩, gd20⟩) | ⟨⟨rfl, gd13⟩, gd21⟩) | ⟨rfl, gd22⟩)
    · have g4 : (L.setIfInBounds 4 true).getD 4 false = true := by rw [up_set, if_pos ⟨rfl, by omega⟩]
      have g5 : (L.setIfInBounds 4 true).getD 5 false = L.getD 5 false := by rw [up_set, if_neg (by omega)]
      have g6 : (L.setIfInBounds 4 true).getD 6 false = L.getD 6 false := by rw [up_set, if_neg (by omega)]
      have g7 : (L.setIfInBounds 4 true).getD 7 false = L.getD 7 false := by rw [up_set, if_neg (by omega)]
      have g8 : (L.setIfInBounds 4 true).getD 8 false = L.getD 8 false := by rw [up_set, if_neg (by omega)]
      have g9 : (L.setIfInBounds 4 true).getD 9 false = L.getD 9 false := by rw [up_set, if_neg (by omega)]
      have g10 : (L.setIfInBounds 4 true).getD 10 false = L.getD 10 false := by rw [up_set, if_neg (by omega)]
      have g11 : (L.setIfInBounds 4 true).getD 11 false = L.getD 11 false := by rw [up_set, if_neg (by omega)]
      have g12 : (L.setIfInBounds 4 true).getD 12 false = L.getD 12 false := by rw [up_set, if_neg (by omega)]
      have g13 : (L.setIfInBounds 4 true).getD 13 false = L.getD 13 false := by rw [up_set, if_neg (by omega)]
      have g14 : (L.setIfInBounds 4 true).getD 14 false = L.getD 14 false := by rw [up_set, if_neg (by omega)]
      have g15 : (L.setIfInBounds 4 true).getD 15 false = L.getD 15 false := by rw [up_set, if_neg (by omega)]
      have g16 : (L.setIfInBounds 4 true).getD 16 false = L.getD 16 false := by rw [up_set, if_neg (by omega)]
      have g17 : (L.setIfInBounds 4 true).getD 17 false = L.getD 17 false := by rw [up_set, if_neg (by omega)]
      have g18 : (L.setIfInBounds 4 true).getD 18 false = L.getD 18 false := by rw [up_set, if_neg (by omega)]
      have g19 : (L.setIfInBounds 4 true).getD 19 false = L.getD 19 false := by rw [up_set, if_neg (by omega)]
      have g20 : (L.setIfInBounds 4 true).getD 20 false = L.getD 20 false := by rw [up_set, if_neg (by omega)]
      have g21 : (L.setIfInBounds 4 true).getD 21 false = L.getD 21 false := by rw [up_set, if_neg (by omega)]
      have g22 : (L.setIfInBounds 4 true).getD 22 false = L.getD 22 false := by rw [up_set, if_neg (by omega)]
      have g23 : (L.setIfInBounds 4 true).getD 23 false = L.getD 23 false := by rw [up_set, if_neg (by omega)]
      have hb : RowKit.Below w.heap.size w (w.alloc (.cells #[.int .i64 1, .int .i64 1, .bool false, .int .i64 5, .int .i64 4, .string ⟨#[65, 49]⟩, .string ⟨#[]⟩, .int .i64 2, .int .i64 400, .int .i64 1, .int .i64 1, .bool true, .int .i64 0, .int .i64 0, .string ⟨#[]⟩, .string ⟨#[]⟩, .int .i64 0, .int .i64 0, .int .i64 1, .int .i64 2, .bool false, .int .i64 5, .int .i64 4, .string ⟨#[66, 49]⟩, .string ⟨#[65, 49]⟩, .int .i64 2, .int .i64 400] 46)) := below_alloc1 w _
      have hbn := below_next hbw hb
      refine par_run ⟨some 53, _, _, _, _, _⟩ (.slice (some ⟨w.heap.size, 0, none⟩) 3 3) (w.alloc (.cells #[.int .i64 1, .int .i64 1, .bool false, .int .i64 5, .int .i64 4, .string ⟨#[65, 49]⟩, .string ⟨#[]⟩, .int .i64 2, .int .i64 400, .int .i64 1, .int .i64 1, .bool true, .int .i64 0, .int .i64 0, .string ⟨#[]⟩, .string ⟨#[]⟩, .int .i64 0, .int .i64 0, .int .i64 1, .int .i64 2, .bool false, .int .i64 5, .int .i64 4, .string ⟨#[66, 49]⟩, .string ⟨#[65, 49]⟩, .int .i64 2, .int .i64 400] 46)) rfl (by rfl) (by go_simp) ?_
      exact ⟨keep _ hbn, (.slice (some ⟨w.heap.size, 0, none⟩) 3 3), (u54), (u55), (u56), (u57), (u58), (u59), (u60), (u61), (u62), (u63), (u64), (u65), (u66), (u67), (u68), (u69), (u70), (u71), (u9), by simp only [Act.put, List.setIfInBounds_toArray, List.set_cons_zero, List.set_cons_succ], hbn, fun _ => reqs_laid w [⟨1, 1, false, 5, 4, ⟨#[65, 49]⟩, ⟨#[]⟩, 2, 400⟩, ⟨1, 1, true, 0, 0, ⟨#[]⟩, ⟨#[]⟩, 0, 0⟩, ⟨1, 2, false, 5, 4, ⟨#[66, 49]⟩, ⟨#[65, 49]⟩, 2, 400⟩], by rw [g5]; exact hP5, by rw [g6]; exact hP6, by rw [g7]; exact fun e => ReqsIn.below (hP7 e) hb, by rw [g8]; exact fun e => ReqsIn.below (hP8 e) hb, by rw [g9]; exact hP9, by rw [g10]; exact fun e => ReqsIn.below (hP10 e) hb, by rw [g11]; exact hP11, by rw [g12]; exact hP12, by rw [g13]; exact hP13, by rw [g14]; exact hP14, by rw [g15]; exact hP15, by rw [g16]; exact fun e => ReqsIn.below (hP16 e) hb, by rw [g17]; exact fun e => ReqsIn.below (hP17 e) hb, by rw [g18]; exact hP18, by rw [g19]; exact hP19, by rw [g20]; exact fun e => ReqsIn.below (hP20 e) hb, by rw [g21]; exact hP21, by rw [g22]; exact hP22, by rw [g23]; exact hP23⟩
    · have g4 : (L.setIfInBounds 5 true).getD 4 false = L.getD 4 false := by rw [up_set, if_neg (by omega)]
      have g5 : (L.setIfInBounds 5 true).getD 5 false = true := by rw [up_set, if_pos ⟨rfl, by omega⟩]
      have g6 : (L.setIfInBounds 5 true).getD 6 false = L.getD 6 false := by rw [up_set, if_neg (by omega)]
      have g7 : (L.setIfInBounds 5 true).getD 7 false = L.getD 7 false := by rw [up_set, if_neg (by omega)]
      have g8 : (L.setIfInBounds 5 true).getD 8 false = L.getD 8 false := by rw [up_set, if_neg (by omega)]
      have g9 : (L.setIfInBounds 5 true).getD 9 false = L.getD 9 false := by rw [up_set, if_neg (by omega)]
      have g10 : (L.setIfInBounds 5 true).getD 10 false = L.getD 10 false := by rw [up_set, if_neg (by omega)]
      have g11 : (L.setIfInBounds 5 true).getD 11 false = L.getD 11 false := by rw [up_set, if_neg (by omega)]
      have g12 : (L.setIfInBounds 5 true).getD 12 false = L.getD 12 false := by rw [up_set, if_neg (by omega)]
      have g13 : (L.setIfInBounds 5 true).getD 13 false = L.getD 13 false := by rw [up_set, if_neg (by omega)]
      have g14 : (L.setIfInBounds 5 true).getD 14 false = L.getD 14 false := by rw [up_set, if_neg (by omega)]
      have g15 : (L.setIfInBounds 5 true).getD 15 false = L.getD 15 false := by rw [up_set, if_neg (by omega)]
      have g16 : (L.setIfInBounds 5 true).getD 16 false = L.getD 16 false := by rw [up_set, if_neg (by omega)]
      have g17 : (L.setIfInBounds 5 true).getD 17 false = L.getD 17 false := by rw [up_set, if_neg (by omega)]
      have g18 : (L.setIfInBounds 5 true).getD 18 false = L.getD 18 false := by rw [up_set, if_neg (by omega)]
      have g19 : (L.setIfInBounds 5 true).getD 19 false = L.getD 19 false := by rw [up_set, if_neg (by omega)]
      have g20 : (L.setIfInBounds 5 true).getD 20 false = L.getD 20 false := by rw [up_set, if_neg (by omega)]
      have g21 : (L.setIfInBounds 5 true).getD 21 false = L.getD 21 false := by rw [up_set, if_neg (by omega)]
      have g22 : (L.setIfInBounds 5 true).getD 22 false = L.getD 22 false := by rw [up_set, if_neg (by omega)]
      have g23 : (L.setIfInBounds 5 true).getD 23 false = L.getD 23 false := by rw [up_set, if_neg (by omega)]
      have hD4 := hP4 gd4
      refine par_call ⟨some 54, _, _, _, _, _⟩ rfl (by rfl) 8 _ _ (by rfl) _ (by rfl) Tryz.call8 (same_at rfl (by simp) v8 u53 w (hV.below hbw) hD4) ?_
      rintro x wn ⟨rfl, hb⟩
      have hbn := below_next hbw hb
      exact ⟨_, rfl, keep _ hbn, (u53), (.bool true), (u55), (u56), (u57), (u58), (u59), (u60), (u61), (u62), (u63), (u64), (u65), (u66), (u67), (u68), (u69), (u70), (u71), (u9), by simp only [Act.put, List.setIfInBounds_toArray, List.set_cons_zero, List.set_cons_succ], hbn, by rw [g4]; exact fun e => ReqsIn.below (hP4 e) hb, fun _ => rfl, by rw [g6]; exact hP6, by rw [g7]; exact fun e => ReqsIn.below (hP7 e) hb, by rw [g8]; exact fun e => ReqsIn.below (hP8 e) hb, by rw [g9]; exact hP9, by rw [g10]; exact fun e => ReqsIn.below (hP10 e) hb, by rw [g11]; exact hP11, by rw [g12]; exact hP12, by rw [g13]; exact hP13, by rw [g14]; exact hP14, by rw [g15]; exact hP15, by rw [g16]; exact fun e => ReqsIn.below (hP16 e) hb, by rw [g17]; exact fun e => ReqsIn.below (hP17 e) hb, by rw [g18]; exact hP18, by rw [g19]; exact hP19, by rw [g20]; exact fun e => ReqsIn.below (hP20 e) hb, by rw [g21]; exact hP21, by rw [g22]; exact hP22, by rw [g23]; exact hP23⟩
    · have g4 : (L.setIfInBounds 6 true).getD 4 false = L.getD 4 false := by rw [up_set, if_neg (by omega)]
      have g5 : (L.setIfInBounds 6 true).getD 5 false = L.getD 5 false := by rw [up_set, if_neg (by omega)]
      have g6 : (L.setIfInBounds 6 true).getD 6 false = true := by rw [up_set, if_pos ⟨rfl, by omega⟩]
      have g7 : (L.setIfInBounds 6 true).getD 7 false = L.getD 7 false := by rw [up_set, if_neg (by omega)]
      have g8 : (L.setIfInBounds 6 true).getD 8 false = L.getD 8 false := by rw [up_set, if_neg (by omega)]
      have g9 : (L.setIfInBounds 6 true).getD 9 false = L.getD 9 false := by rw [up_set, if_neg (by omega)]
      have g10 : (L.setIfInBounds 6 true).getD 10 false = L.getD 10 false := by rw [up_set, if_neg (by omega)]
      have g11 : (L.setIfInBounds 6 true).getD 11 false = L.getD 11 false := by rw [up_set, if_neg (by omega)]
      have g12 : (L.setIfInBounds 6 true).getD 12 false = L.getD 12 false := by rw [up_set, if_neg (by omega)]
      have g13 : (L.setIfInBounds 6 true).getD 13 false = L.getD 13 false := by rw [up_set, if_neg (by omega)]
      have g14 : (L.setIfInBounds 6 true).getD 14 false = L.getD 14 false := by rw [up_set, if_neg (by omega)]
      have g15 : (L.setIfInBounds 6 true).getD 15 false = L.getD 15 false := by rw [up_set, if_neg (by omega)]
      have g16 : (L.setIfInBounds 6 true).getD 16 false = L.getD 16 false := by rw [up_set, if_neg (by omega)]
      have g17 : (L.setIfInBounds 6 true).getD 17 false = L.getD 17 false := by rw [up_set, if_neg (by omega)]
      have g18 : (L.setIfInBounds 6 true).getD 18 false = L.getD 18 false := by rw [up_set, if_neg (by omega)]
      have g19 : (L.setIfInBounds 6 true).getD 19 false = L.getD 19 false := by rw [up_set, if_neg (by omega)]
      have g20 : (L.setIfInBounds 6 true).getD 20 false = L.getD 20 false := by rw [up_set, if_neg (by omega)]
      have g21 : (L.setIfInBounds 6 true).getD 21 false = L.getD 21 false := by rw [up_set, if_neg (by omega)]
      have g22 : (L.setIfInBounds 6 true).getD 22 false = L.getD 22 false := by rw [up_set, if_neg (by omega)]
      have g23 : (L.setIfInBounds 6 true).getD 23 false = L.getD 23 false := by rw [up_set, if_neg (by omega)]
      have hD5 := hP5 gd5
      obtain rfl := hD5
      have hb : RowKit.Below w.heap.size w w := Below.refl _ _
      have hbn := below_next hbw hb
      refine par_run ⟨some 55, _, _, _, _, _⟩ (.bool true) w rfl (by rfl) (by go_simp) ?_
      exact ⟨keep _ hbn, (u53), (.bool true), (.bool true), (u56), (u57), (u58), (u59), (u60), (u61), (u62), (u63), (u64), (u65), (u66), (u67), (u68), (u69), (u70), (u71), (u9), by simp only [Act.put, List.setIfInBounds_toArray, List.set_cons_zero, List.set_cons_succ], hbn, by rw [g4]; exact fun e => ReqsIn.below (hP4 e) hb, by rw [g5]; exact hP5, fun _ => rfl, by rw [g7]; exact fun e => ReqsIn.below (hP7 e) hb, by rw [g8]; exact fun e => ReqsIn.below (hP8 e) hb, by rw [g9]; exact hP9, by rw [g10]; exact fun e => ReqsIn.below (hP10 e) hb, by rw [g11]; exact hP11, by rw [g12]; exact hP12, by rw [g13]; exact hP13, by rw [g14]; exact hP14, by rw [g15]; exact hP15, by rw [g16]; exact fun e => ReqsIn.below (hP16 e) hb, by rw [g17]; exact fun e => ReqsIn.below (hP17 e) hb, by rw [g18]; exact hP18, by rw [g19]; exact hP19, by rw [g20]; exact fun e => ReqsIn.below (hP20 e) hb, by rw [g21]; exact hP21, by rw [g22]; exact hP22, by rw [g23]; exact hP23⟩
    · have g4 : (L.setIfInBounds 7 true).getD 4 false = L.getD 4 false := by rw [up_set, if_neg (by omega)]
      have g5 : (L.setIfInBounds 7 true).getD 5 false = L.getD 5 false := by rw [up_set, if_neg (by omega)]
      have g6 : (L.setIfInBounds 7 true).getD 6 false = L.getD 6 false := by rw [up_set, if_neg (by omega)]
      have g7 : (L.setIfInBounds 7 true).getD 7 false = true := by rw [up_set, if_pos ⟨rfl, by omega⟩]
      have g8 : (L.setIfInBounds 7 true).getD 8 false = L.getD 8 false := by rw [up_set, if_neg (by omega)]
      have g9 : (L.setIfInBounds 7 true).getD 9 false = L.getD 9 false := by rw [up_set, if_neg (by omega)]
      have g10 : (L.setIfInBounds 7 true).getD 10 false = L.getD 10 false := by rw [up_set, if_neg (by omega)]
      have g11 : (L.setIfInBounds 7 true).getD 11 false = L.getD 11 false := by rw [up_set, if_neg (by omega)]
      have g12 : (L.setIfInBounds 7 true).getD 12 false = L.getD 12 false := by rw [up_set, if_neg (by omega)]
      have g13 : (L.setIfInBounds 7 true).getD 13 false = L.getD 13 false := by rw [up_set, if_neg (by omega)]
      have g14 : (L.setIfInBounds 7 true).getD 14 false = L.getD 14 false := by rw [up_set, if_neg (by omega)]
      have g15 : (L.setIfInBounds 7 true).getD 15 false = L.getD 15 false := by rw [up_set, if_neg (by omega)]
      have g16 : (L.setIfInBounds 7 true).getD 16 false = L.getD 16 false := by rw [up_set, if_neg (by omega)]
      have g17 : (L.setIfInBounds 7 true).getD 17 false = L.getD 17 false := by rw [up_set, if_neg (by omega)]
      have g18 : (L.setIfInBounds 7 true).getD 18 false = L.getD 18 false := by rw [up_set, if_neg (by omega)]
      have g19 : (L.setIfInBounds 7 true).getD 19 false = L.getD 19 false := by rw [up_set, if_neg (by omega)]
      have g20 : (L.setIfInBounds 7 true).getD 20 false = L.getD 20 false := by rw [up_set, if_neg (by omega)]
      have g21 : (L.setIfInBounds 7 true).getD 21 false = L.getD 21 false := by rw [up_set, if_neg (by omega)]
      have g22 : (L.setIfInBounds 7 true).getD 22 false = L.getD 22 false := by rw [up_set, if_neg (by omega)]
      have g23 : (L.setIfInBounds 7 true).getD 23 false = L.getD 23 false := by rw [up_set, if_neg (by omega)]
      have hD6 := hP6 gd6
      obtain rfl := hD6
      have hb : RowKit.Below w.heap.size w w := Below.refl _ _
      have hbn := below_next hbw hb
      refine par_run ⟨some 56, _, _, _, _, _⟩ (v8) w rfl (by rfl) (by go_simp) ?_
      exact ⟨keep _ hbn, (u53), (u54), (.bool true), (v8), (u57), (u58), (u59), (u60), (u61), (u62), (u63), (u64), (u65), (u66), (u67), (u68), (u69), (u70), (u71), (u9), by simp only [Act.put, List.setIfInBounds_toArray, List.set_cons_zero, List.set_cons_succ], hbn, by rw [g4]; exact fun e => ReqsIn.below (hP4 e) hb, by rw [g5]; exact hP5, by rw [g6]; exact hP6, fun _ => hV.below hbw, by rw [g8]; exact fun e => ReqsIn.below (hP8 e) hb, by rw [g9]; exact hP9, by rw [g10]; exact fun e => ReqsIn.below (hP10 e) hb, by rw [g11]; exact hP11, by rw [g12]; exact hP12, by rw [g13]; exact hP13, by rw [g14]; exact hP14, by rw [g15]; exact hP15, by rw [g16]; exact fun e => ReqsIn.below (hP16 e) hb, by rw [g17]; exact fun e => ReqsIn.below (hP17 e) hb, by rw [g18]; exact hP18, by rw [g19]; exact hP19, by rw [g20]; exact fun e => ReqsIn.below (hP20 e) hb, by rw [g21]; exact hP21, by rw [g22]; exact hP22, by rw [g23]; exact hP23⟩
    · have g4 : (L.setIfInBounds 8 true).getD 4 false = L.getD 4 false := by rw [up_set, if_neg (by omega)]
      have g5 : (L.setIfInBounds 8 true).getD 5 false = L.getD 5 false := by rw [up_set, if_neg (by omega)]
      have g6 : (L.setIfInBounds 8 true).getD 6 false = L.getD 6 false := by rw [up_set, if_neg (by omega)]
      have g7 : (L.setIfInBounds 8 true).getD 7 false = L.getD 7 false := by rw [up_set, if_neg (by omega)]
      have g8 : (L.setIfInBounds 8 true).getD 8 false = true := by rw [up_set, if_pos ⟨rfl, by omega⟩]
      have g9 : (L.setIfInBounds 8 true).getD 9 false = L.getD 9 false := by rw [up_set, if_neg (by omega)]
      have g10 : (L.setIfInBounds 8 true).getD 10 false = L.getD 10 false := by rw [up_set, if_neg (by omega)]
      have g11 : (L.setIfInBounds 8 true).getD 11 false = L.getD 11 false := by rw [up_set, if_neg (by omega)]
      have g12 : (L.setIfInBounds 8 true).getD 12 false = L.getD 12 false := by rw [up_set, if_neg (by omega)]
      have g13 : (L.setIfInBounds 8 true).getD 13 false = L.getD 13 false := by rw [up_set, if_neg (by omega)]
      have g14 : (L.setIfInBounds 8 true).getD 14 false = L.getD 14 false := by rw [up_set, if_neg (by omega)]
      have g15 : (L.setIfInBounds 8 true).getD 15 false = L.getD 15 false := by rw [up_set, if_neg (by omega)]
      have g16 : (L.setIfInBounds 8 true).getD 16 false = L.getD 16 false := by rw [up_set, if_neg (by omega)]
      have g17 : (L.setIfInBounds 8 true).getD 17 false = L.getD 17 false := by rw [up_set, if_neg (by omega)]
      have g18 : (L.setIfInBounds 8 true).getD 18 false = L.getD 18 false := by rw [up_set, if_neg (by omega)]
      have g19 : (L.setIfInBounds 8 true).getD 19 false = L.getD 19 false := by rw [up_set, if_neg (by omega)]
      have g20 : (L.setIfInBounds 8 true).getD 20 false = L.getD 20 false := by rw [up_set, if_neg (by omega)]
      have g21 : (L.setIfInBounds 8 true).getD 21 false = L.getD 21 false := by rw [up_set, if_neg (by omega)]
      have g22 : (L.setIfInBounds 8 true).getD 22 false = L.getD 22 false := by rw [up_set, if_neg (by omega)]
      have g23 : (L.setIfInBounds 8 true).getD 23 false = L.getD 23 false := by rw [up_set, if_neg (by omega)]
      have hD6 := hP6 gd6
      obtain rfl := hD6
      have hD7 := hP7 gd7
      refine par_call ⟨some 57, _, _, _, _, _⟩ rfl (by rfl) 20 _ _ (by rfl) _ (by rfl) Tryz.call20 (active_at set_acb' act_acb sm_acb (by simp) u56 w hD7) ?_
      rintro x wn ⟨va, rfl, hva, hb⟩
      have hbn := below_next hbw hb
      exact ⟨_, rfl, keep _ hbn, (u53), (u54), (.bool true), (u56), (va), (u58), (u59), (u60), (u61), (u62), (u63), (u64), (u65), (u66), (u67), (u68), (u69), (u70), (u71), (u9), by simp only [Act.put, List.setIfInBounds_toArray, List.set_cons_zero, List.set_cons_succ], hbn, by rw [g4]; exact fun e => ReqsIn.below (hP4 e) hb, by rw [g5]; exact hP5, by rw [g6]; exact hP6, by rw [g7]; exact fun e => ReqsIn.below (hP7 e) hb, fun _ => hva, by rw [g9]; exact hP9, by rw [g10]; exact fun e => ReqsIn.below (hP10 e) hb, by rw [g11]; exact hP11, by rw [g12]; exact hP12, by rw [g13]; exact hP13, by rw [g14]; exact hP14, by rw [g15]; exact hP15, by rw [g16]; exact fun e => ReqsIn.below (hP16 e) hb, by rw [g17]; exact fun e => ReqsIn.below (hP17 e) hb, by rw [g18]; exact hP18, by rw [g19]; exact hP19, by rw [g20]; exact fun e => ReqsIn.below (hP20 e) hb, by rw [g21]; exact hP21, by rw [g22]; exact hP22, by rw [g23]; exact hP23⟩
    · have g4 : (L.setIfInBounds 9 true).getD 4 false = L.getD 4 false := by rw [up_set, if_neg (by omega)]
      have g5 : (L.setIfInBounds 9 true).getD 5 false = L.getD 5 false := by rw [up_set, if_neg (by omega)]
      have g6 : (L.setIfInBounds 9 true).getD 6 false = L.getD 6 false := by rw [up_set, if_neg (by omega)]
      have g7 : (L.setIfInBounds 9 true).getD 7 false = L.getD 7 false := by rw [up_set, if_neg (by omega)]
      have g8 : (L.setIfInBounds 9 true).getD 8 false = L.getD 8 false := by rw [up_set, if_neg (by omega)]
      have g9 : (L.setIfInBounds 9 true).getD 9 false = true := by rw [up_set, if_pos ⟨rfl, by omega⟩]
      have g10 : (L.setIfInBounds 9 true).getD 10 false = L.getD 10 false := by rw [up_set, if_neg (by omega)]
      have g11 : (L.setIfInBounds 9 true).getD 11 false = L.getD 11 false := by rw [up_set, if_neg (by omega)]
      have g12 : (L.setIfInBounds 9 true).getD 12 false = L.getD 12 false := by rw [up_set, if_neg (by omega)]
      have g13 : (L.setIfInBounds 9 true).getD 13 false = L.getD 13 false := by rw [up_set, if_neg (by omega)]
      have g14 : (L.setIfInBounds 9 true).getD 14 false = L.getD 14 false := by rw [up_set, if_neg (by omega)]
      have g15 : (L.setIfInBounds 9 true).getD 15 false = L.getD 15 false := by rw [up_set, if_neg (by omega)]
      have g16 : (L.setIfInBounds 9 true).getD 16 false = L.getD 16 false := by rw [up_set, if_neg (by omega)]
      have g17 : (L.setIfInBounds 9 true).getD 17 false = L.getD 17 false := by rw [up_set, if_neg (by omega)]
      have g18 : (L.setIfInBounds 9 true).getD 18 false = L.getD 18 false := by rw [up_set, if_neg (by omega)]
      have g19 : (L.setIfInBounds 9 true).getD 19 false = L.getD 19 false := by rw [up_set, if_neg (by omega)]
      have g20 : (L.setIfInBounds 9 true).getD 20 false = L.getD 20 false := by rw [up_set, if_neg (by omega)]
      have g21 : (L.setIfInBounds 9 true).getD 21 false = L.getD 21 false := by rw [up_set, if_neg (by omega)]
      have g22 : (L.setIfInBounds 9 true).getD 22 false = L.getD 22 false := by rw [up_set, if_neg (by omega)]
      have g23 : (L.setIfInBounds 9 true).getD 23 false = L.getD 23 false := by rw [up_set, if_neg (by omega)]
      have hD6 := hP6 gd6
      obtain rfl := hD6
      have hb : RowKit.Below w.heap.size w w := Below.refl _ _
      have hbn := below_next hbw hb
      refine par_run ⟨some 58, _, _, _, _, _⟩ (.agg #[.int .i64 1, .int .i64 2, .bool false, .int .i64 5, .int .i64 4, .string ⟨#[66, 49]⟩, .string ⟨#[65, 49]⟩, .int .i64 2, .int .i64 400]) w rfl (by rfl) (exec_req (.tmp 2) g2 0 ⟨1, 2, false, 5, 4, ⟨#[66, 49]⟩, ⟨#[65, 49]⟩, 2, 400⟩ (by rfl) (by rfl) (h2.below hbw).at_) ?_
      exact ⟨keep _ hbn, (u53), (u54), (.bool true), (u56), (u57), (.agg #[.int .i64 1, .int .i64 2, .bool false, .int .i64 5, .int .i64 4, .string ⟨#[66, 49]⟩, .string ⟨#[65, 49]⟩, .int .i64 2, .int .i64 400]), (u59), (u60), (u61), (u62), (u63), (u64), (u65), (u66), (u67), (u68), (u69), (u70), (u71), (u9), by simp only [Act.put, List.setIfInBounds_toArray, List.set_cons_zero, List.set_cons_succ], hbn, by rw [g4]; exact fun e => ReqsIn.below (hP4 e) hb, by rw [g5]; exact hP5, by rw [g6]; exact hP6, by rw [g7]; exact fun e => ReqsIn.below (hP7 e) hb, by rw [g8]; exact fun e => ReqsIn.below (hP8 e) hb, fun _ => rfl, by rw [g10]; exact fun e => ReqsIn.below (hP10 e) hb, by rw [g11]; exact hP11, by rw [g12]; exact hP12, by rw [g13]; exact hP13, by rw [g14]; exact hP14, by rw [g15]; exact hP15, by rw [g16]; exact fun e => ReqsIn.below (hP16 e) hb, by rw [g17]; exact fun e => ReqsIn.below (hP17 e) hb, by rw [g18]; exact hP18, by rw [g19]; exact hP19, by rw [g20]; exact fun e => ReqsIn.below (hP20 e) hb, by rw [g21]; exact hP21, by rw [g22]; exact hP22, by rw [g23]; exact hP23⟩
    · have g4 : (L.setIfInBounds 10 true).getD 4 false = L.getD 4 false := by rw [up_set, if_neg (by omega)]
      have g5 : (L.setIfInBounds 10 true).getD 5 false = L.getD 5 false := by rw [up_set, if_neg (by omega)]
      have g6 : (L.setIfInBounds 10 true).getD 6 false = L.getD 6 false := by rw [up_set, if_neg (by omega)]
      have g7 : (L.setIfInBounds 10 true).getD 7 false = L.getD 7 false := by rw [up_set, if_neg (by omega)]
      have g8 : (L.setIfInBounds 10 true).getD 8 false = L.getD 8 false := by rw [up_set, if_neg (by omega)]
      have g9 : (L.setIfInBounds 10 true).getD 9 false = L.getD 9 false := by rw [up_set, if_neg (by omega)]
      have g10 : (L.setIfInBounds 10 true).getD 10 false = true := by rw [up_set, if_pos ⟨rfl, by omega⟩]
      have g11 : (L.setIfInBounds 10 true).getD 11 false = L.getD 11 false := by rw [up_set, if_neg (by omega)]
      have g12 : (L.setIfInBounds 10 true).getD 12 false = L.getD 12 false := by rw [up_set, if_neg (by omega)]
      have g13 : (L.setIfInBounds 10 true).getD 13 false = L.getD 13 false := by rw [up_set, if_neg (by omega)]
      have g14 : (L.setIfInBounds 10 true).getD 14 false = L.getD 14 false := by rw [up_set, if_neg (by omega)]
      have g15 : (L.setIfInBounds 10 true).getD 15 false = L.getD 15 false := by rw [up_set, if_neg (by omega)]
      have g16 : (L.setIfInBounds 10 true).getD 16 false = L.getD 16 false := by rw [up_set, if_neg (by omega)]
      have g17 : (L.setIfInBounds 10 true).getD 17 false = L.getD 17 false := by rw [up_set, if_neg (by omega)]
      have g18 : (L.setIfInBounds 10 true).getD 18 false = L.getD 18 false := by rw [up_set, if_neg (by omega)]
      have g19 : (L.setIfInBounds 10 true).getD 19 false = L.getD 19 false := by rw [up_set, if_neg (by omega)]
      have g20 : (L.setIfInBounds 10 true).getD 20 false = L.getD 20 false := by rw [up_set, if_neg (by omega)]
      have g21 : (L.setIfInBounds 10 true).getD 21 false = L.getD 21 false := by rw [up_set, if_neg (by omega)]
      have g22 : (L.setIfInBounds 10 true).getD 22 false = L.getD 22 false := by rw [up_set, if_neg (by omega)]
      have g23 : (L.setIfInBounds 10 true).getD 23 false = L.getD 23 false := by rw [up_set, if_neg (by omega)]
      have hD6 := hP6 gd6
      obtain rfl := hD6
      have hD9 := hP9 gd9
      obtain rfl := hD9
      have hb : RowKit.Below w.heap.size w (w.alloc (.cells #[.int .i64 1, .int .i64 2, .bool false, .int .i64 5, .int .i64 4, .string ⟨#[66, 49]⟩, .string ⟨#[65, 49]⟩, .int .i64 2, .int .i64 400] 46)) := below_alloc1 w _
      have hbn := below_next hbw hb
      refine par_run ⟨some 59, _, _, _, _, _⟩ (.slice (some ⟨w.heap.size, 0, none⟩) 1 1) (w.alloc (.cells #[.int .i64 1, .int .i64 2, .bool false, .int .i64 5, .int .i64 4, .string ⟨#[66, 49]⟩, .string ⟨#[65, 49]⟩, .int .i64 2, .int .i64 400] 46)) rfl (by rfl) (by go_simp) ?_
      exact ⟨keep _ hbn, (u53), (u54), (.bool true), (u56), (u57), (.agg #[.int .i64 1, .int .i64 2, .bool false, .int .i64 5, .int .i64 4, .string ⟨#[66, 49]⟩, .string ⟨#[65, 49]⟩, .int .i64 2, .int .i64 400]), (.slice (some ⟨w.heap.size, 0, none⟩) 1 1), (u60), (u61), (u62), (u63), (u64), (u65), (u66), (u67), (u68), (u69), (u70), (u71), (u9), by simp only [Act.put, List.setIfInBounds_toArray, List.set_cons_zero, List.set_cons_succ], hbn, by rw [g4]; exact fun e => ReqsIn.below (hP4 e) hb, by rw [g5]; exact hP5, by rw [g6]; exact hP6, by rw [g7]; exact fun e => ReqsIn.below (hP7 e) hb, by rw [g8]; exact fun e => ReqsIn.below (hP8 e) hb, by rw [g9]; exact hP9, fun _ => reqs_laid w [⟨1, 2, false, 5, 4, ⟨#[66, 49]⟩, ⟨#[65, 49]⟩, 2, 400⟩], by rw [g11]; exact hP11, by rw [g12]; exact hP12, by rw [g13]; exact hP13, by rw [g14]; exact hP14, by rw [g15]; exact hP15, by rw [g16]; exact fun e => ReqsIn.below (hP16 e) hb, by rw [g17]; exact fun e => ReqsIn.below (hP17 e) hb, by rw [g18]; exact hP18, by rw [g19]; exact hP19, by rw [g20]; exact fun e => ReqsIn.below (hP20 e) hb, by rw [g21]; exact hP21, by rw [g22]; exact hP22, by rw [g23]; exact hP23⟩
    · have g4 : (L.setIfInBounds 11 true).getD 4 false = L.getD 4 false := by rw [up_set, if_neg (by omega)]
      have g5 : (L.setIfInBounds 11 true).getD 5 false = L.getD 5 false := by rw [up_set, if_neg (by omega)]
      have g6 : (L.setIfInBounds 11 true).getD 6 false = L.getD 6 false := by rw [up_set, if_neg (by omega)]
      have g7 : (L.setIfInBounds 11 true).getD 7 false = L.getD 7 false := by rw [up_set, if_neg (by omega)]
      have g8 : (L.setIfInBounds 11 true).getD 8 false = L.getD 8 false := by rw [up_set, if_neg (by omega)]
      have g9 : (L.setIfInBounds 11 true).getD 9 false = L.getD 9 false := by rw [up_set, if_neg (by omega)]
      have g10 : (L.setIfInBounds 11 true).getD 10 false = L.getD 10 false := by rw [up_set, if_neg (by omega)]
      have g11 : (L.setIfInBounds 11 true).getD 11 false = true := by rw [up_set, if_pos ⟨rfl, by omega⟩]
      have g12 : (L.setIfInBounds 11 true).getD 12 false = L.getD 12 false := by rw [up_set, if_neg (by omega)]
      have g13 : (L.setIfInBounds 11 true).getD 13 false = L.getD 13 false := by rw [up_set, if_neg (by omega)]
      have g14 : (L.setIfInBounds 11 true).getD 14 false = L.getD 14 false := by rw [up_set, if_neg (by omega)]
      have g15 : (L.setIfInBounds 11 true).getD 15 false = L.getD 15 false := by rw [up_set, if_neg (by omega)]
      have g16 : (L.setIfInBounds 11 true).getD 16 false = L.getD 16 false := by rw [up_set, if_neg (by omega)]
      have g17 : (L.setIfInBounds 11 true).getD 17 false = L.getD 17 false := by rw [up_set, if_neg (by omega)]
      have g18 : (L.setIfInBounds 11 true).getD 18 false = L.getD 18 false := by rw [up_set, if_neg (by omega)]
      have g19 : (L.setIfInBounds 11 true).getD 19 false = L.getD 19 false := by rw [up_set, if_neg (by omega)]
      have g20 : (L.setIfInBounds 11 true).getD 20 false = L.getD 20 false := by rw [up_set, if_neg (by omega)]
      have g21 : (L.setIfInBounds 11 true).getD 21 false = L.getD 21 false := by rw [up_set, if_neg (by omega)]
      have g22 : (L.setIfInBounds 11 true).getD 22 false = L.getD 22 false := by rw [up_set, if_neg (by omega)]
      have g23 : (L.setIfInBounds 11 true).getD 23 false = L.getD 23 false := by rw [up_set, if_neg (by omega)]
      have hD6 := hP6 gd6
      obtain rfl := hD6
      have hD8 := hP8 gd8
      have hD10 := hP10 gd10
      refine par_call ⟨some 60, _, _, _, _, _⟩ rfl (by rfl) 8 _ _ (by rfl) _ (by rfl) Tryz.call8 (same_at rfl (by simp) u57 u59 w hD8 hD10) ?_
      rintro x wn ⟨rfl, hb⟩
      have hbn := below_next hbw hb
      exact ⟨_, rfl, keep _ hbn, (u53), (u54), (.bool true), (u56), (u57), (u58), (u59), (.bool true), (u61), (u62), (u63), (u64), (u65), (u66), (u67), (u68), (u69), (u70), (u71), (u9), by simp only [Act.put, List.setIfInBounds_toArray, List.set_cons_zero, List.set_cons_succ], hbn, by rw [g4]; exact fun e => ReqsIn.below (hP4 e) hb, by rw [g5]; exact hP5, by rw [g6]; exact hP6, by rw [g7]; exact fun e => ReqsIn.below (hP7 e) hb, by rw [g8]; exact fun e => ReqsIn.below (hP8 e) hb, by rw [g9]; exact hP9, by rw [g10]; exact fun e => ReqsIn.below (hP10 e) hb, fun _ => rfl, by rw [g12]; exact hP12, by rw [g13]; exact hP13, by rw [g14]; exact hP14, by rw [g15]; exact hP15, by rw [g16]; exact fun e => ReqsIn.below (hP16 e) hb, by rw [g17]; exact fun e => ReqsIn.below (hP17 e) hb, by rw [g18]; exact hP18, by rw [g19]; exact hP19, by rw [g20]; exact fun e => ReqsIn.below (hP20 e) hb, by rw [g21]; exact hP21, by rw [g22]; exact hP22, by rw [g23]; exact hP23⟩
    · have g4 : (L.setIfInBounds 12 true).getD 4 false = L.getD 4 false := by rw [up_set, if_neg (by omega)]
      have g5 : (L.setIfInBounds 12 true).getD 5 false = L.getD 5 false := by rw [up_set, if_neg (by omega)]
      have g6 : (L.setIfInBounds 12 true).getD 6 false = L.getD 6 false := by rw [up_set, if_neg (by omega)]
      have g7 : (L.setIfInBounds 12 true).getD 7 false = L.getD 7 false := by rw [up_set, if_neg (by omega)]
      have g8 : (L.setIfInBounds 12 true).getD 8 false = L.getD 8 false := by rw [up_set, if_neg (by omega)]
      have g9 : (L.setIfInBounds 12 true).getD 9 false = L.getD 9 false := by rw [up_set, if_neg (by omega)]
      have g10 : (L.setIfInBounds 12 true).getD 10 false = L.getD 10 false := by rw [up_set, if_neg (by omega)]
      have g11 : (L.setIfInBounds 12 true).getD 11 false = L.getD 11 false := by rw [up_set, if_neg (by omega)]
      have g12 : (L.setIfInBounds 12 true).getD 12 false = true := by rw [up_set, if_pos ⟨rfl, by omega⟩]
      have g13 : (L.setIfInBounds 12 true).getD 13 false = L.getD 13 false := by rw [up_set, if_neg (by omega)]
      have g14 : (L.setIfInBounds 12 true).getD 14 false = L.getD 14 false := by rw [up_set, if_neg (by omega)]
      have g15 : (L.setIfInBounds 12 true).getD 15 false = L.getD 15 false := by rw [up_set, if_neg (by omega)]
      have g16 : (L.setIfInBounds 12 true).getD 16 false = L.getD 16 false := by rw [up_set, if_neg (by omega)]
      have g17 : (L.setIfInBounds 12 true).getD 17 false = L.getD 17 false := by rw [up_set, if_neg (by omega)]
      have g18 : (L.setIfInBounds 12 true).getD 18 false = L.getD 18 false := by rw [up_set, if_neg (by omega)]
      have g19 : (L.setIfInBounds 12 true).getD 19 false = L.getD 19 false := by rw [up_set, if_neg (by omega)]
      have g20 : (L.setIfInBounds 12 true).getD 20 false = L.getD 20 false := by rw [up_set, if_neg (by omega)]
      have g21 : (L.setIfInBounds 12 true).getD 21 false = L.getD 21 false := by rw [up_set, if_neg (by omega)]
      have g22 : (L.setIfInBounds 12 true).getD 22 false = L.getD 22 false := by rw [up_set, if_neg (by omega)]
      have g23 : (L.setIfInBounds 12 true).getD 23 false = L.getD 23 false := by rw [up_set, if_neg (by omega)]
      have hD6 := hP6 gd6
      obtain rfl := hD6
      have hD11 := hP11 gd11
      obtain rfl := hD11
      have hb : RowKit.Below w.heap.size w w := Below.refl _ _
      have hbn := below_next hbw hb
      refine par_run ⟨some 61, _, _, _, _, _⟩ (.bool true) w rfl (by rfl) (by go_simp) ?_
      exact ⟨keep _ hbn, (u53), (u54), (.bool true), (u56), (u57), (u58), (u59), (.bool true), (.bool true), (u62), (u63), (u64), (u65), (u66), (u67), (u68), (u69), (u70), (u71), (u9), by simp only [Act.put, List.setIfInBounds_toArray, List.set_cons_zero, List.set_cons_succ], hbn, by rw [g4]; exact fun e => ReqsIn.below (hP4 e) hb, by rw [g5]; exact hP5, by rw [g6]; exact hP6, by rw [g7]; exact fun e => ReqsIn.below (hP7 e) hb, by rw [g8]; exact fun e => ReqsIn.below (hP8 e) hb, by rw [g9]; exact hP9, by rw [g10]; exact fun e => ReqsIn.below (hP10 e) hb, by rw [g11]; exact hP11, fun _ => rfl, by rw [g13]; exact hP13, by rw [g14]; exact hP14, by rw [g15]; exact hP15, by rw [g16]; exact fun e => ReqsIn.below (hP16 e) hb, by rw [g17]; exact fun e => ReqsIn.below (hP17 e) hb, by rw [g18]; exact hP18, by rw [g19]; exact hP19, by rw [g20]; exact fun e => ReqsIn.below (hP20 e) hb, by rw [g21]; exact hP21, by rw [g22]; exact hP22, by rw [g23]; exact hP23⟩
    · have g4 : (L.setIfInBounds 13 true).getD 4 false = L.getD 4 false := by rw [up_set, if_neg (by omega)]
      have g5 : (L.setIfInBounds 13 true).getD 5 false = L.getD 5 false := by rw [up_set, if_neg (by omega)]
      have g6 : (L.setIfInBounds 13 true).getD 6 false = L.getD 6 false := by rw [up_set, if_neg (by omega)]
      have g7 : (L.setIfInBounds 13 true).getD 7 false = L.getD 7 false := by rw [up_set, if_neg (by omega)]
      have g8 : (L.setIfInBounds 13 true).getD 8 false = L.getD 8 false := by rw [up_set, if_neg (by omega)]
      have g9 : (L.setIfInBounds 13 true).getD 9 false = L.getD 9 false := by rw [up_set, if_neg (by omega)]
      have g10 : (L.setIfInBounds 13 true).getD 10 false = L.getD 10 false := by rw [up_set, if_neg (by omega)]
      have g11 : (L.setIfInBounds 13 true).getD 11 false = L.getD 11 false := by rw [up_set, if_neg (by omega)]
      have g12 : (L.setIfInBounds 13 true).getD 12 false = L.getD 12 false := by rw [up_set, if_neg (by omega)]
      have g13 : (L.setIfInBounds 13 true).getD 13 false = true := by rw [up_set, if_pos ⟨rfl, by omega⟩]
      have g14 : (L.setIfInBounds 13 true).getD 14 false = L.getD 14 false := by rw [up_set, if_neg (by omega)]
      have g15 : (L.setIfInBounds 13 true).getD 15 false = L.getD 15 false := by rw [up_set, if_neg (by omega)]
      have g16 : (L.setIfInBounds 13 true).getD 16 false = L.getD 16 false := by rw [up_set, if_neg (by omega)]
      have g17 : (L.setIfInBounds 13 true).getD 17 false = L.getD 17 false := by rw [up_set, if_neg (by omega)]
      have g18 : (L.setIfInBounds 13 true).getD 18 false = L.getD 18 false := by rw [up_set, if_neg (by omega)]
      have g19 : (L.setIfInBounds 13 true).getD 19 false = L.getD 19 false := by rw [up_set, if_neg (by omega)]
      have g20 : (L.setIfInBounds 13 true).getD 20 false = L.getD 20 false := by rw [up_set, if_neg (by omega)]
      have g21 : (L.setIfInBounds 13 true).getD 21 false = L.getD 21 false := by rw [up_set, if_neg (by omega)]
      have g22 : (L.setIfInBounds 13 true).getD 22 false = L.getD 22 false := by rw [up_set, if_neg (by omega)]
      have g23 : (L.setIfInBounds 13 true).getD 23 false = L.getD 23 false := by rw [up_set, if_neg (by omega)]
      have hD12 := hP12 gd12
      obtain rfl := hD12
      have hb : RowKit.Below w.heap.size w w := Below.refl _ _
      have hbn := below_next hbw hb
      refine par_run ⟨some 62, _, _, _, _, _⟩ (.bool true) w rfl (by rfl) (by go_simp) ?_
      exact ⟨keep _ hbn, (u53), (u54), (u55), (u56), (u57), (u58), (u59), (u60), (.bool true), (.bool true), (u63), (u64), (u65), (u66), (u67), (u68), (u69), (u70), (u71), (u9), by simp only [Act.put, List.setIfInBounds_toArray, List.set_cons_zero, List.set_cons_succ], hbn, by rw [g4]; exact fun e => ReqsIn.below (hP4 e) hb, by rw [g5]; exact hP5, by rw [g6]; exact hP6, by rw [g7]; exact fun e => ReqsIn.below (hP7 e) hb, by rw [g8]; exact fun e => ReqsIn.below (hP8 e) hb, by rw [g9]; exact hP9, by rw [g10]; exact fun e => ReqsIn.below (hP10 e) hb, by rw [g11]; exact hP11, by rw [g12]; exact hP12, fun _ => rfl, by rw [g14]; exact hP14, by rw [g15]; exact hP15, by rw [g16]; exact fun e => ReqsIn.below (hP16 e) hb, by rw [g17]; exact fun e => ReqsIn.below (hP17 e) hb, by rw [g18]; exact hP18, by rw [g19]; exact hP19, by rw [g20]; exact fun e => ReqsIn.below (hP20 e) hb, by rw [g21]; exact hP21, by rw [g22]; exact hP22, by rw [g23]; exact hP23⟩
    · have g4 : (L.setIfInBounds 14 true).getD 4 false = L.getD 4 false := by rw [up_set, if_neg (by omega)]
      have g5 : (L.setIfInBounds 14 true).getD 5 false = L.getD 5 false := by rw [up_set, if_neg (by omega)]
      have g6 : (L.setIfInBounds 14 true).getD 6 false = L.getD 6 false := by rw [up_set, if_neg (by omega)]
      have g7 : (L.setIfInBounds 14 true).getD 7 false = L.getD 7 false := by rw [up_set, if_neg (by omega)]
      have g8 : (L.setIfInBounds 14 true).getD 8 false = L.getD 8 false := by rw [up_set, if_neg (by omega)]
      have g9 : (L.setIfInBounds 14 true).getD 9 false = L.getD 9 false := by rw [up_set, if_neg (by omega)]
      have g10 : (L.setIfInBounds 14 true).getD 10 false = L.getD 10 false := by rw [up_set, if_neg (by omega)]
      have g11 : (L.setIfInBounds 14 true).getD 11 false = L.getD 11 false := by rw [up_set, if_neg (by omega)]
      have g12 : (L.setIfInBounds 14 true).getD 12 false = L.getD 12 false := by rw [up_set, if_neg (by omega)]
      have g13 : (L.setIfInBounds 14 true).getD 13 false = L.getD 13 false := by rw [up_set, if_neg (by omega)]
      have g14 : (L.setIfInBounds 14 true).getD 14 false = true := by rw [up_set, if_pos ⟨rfl, by omega⟩]
      have g15 : (L.setIfInBounds 14 true).getD 15 false = L.getD 15 false := by rw [up_set, if_neg (by omega)]
      have g16 : (L.setIfInBounds 14 true).getD 16 false = L.getD 16 false := by rw [up_set, if_neg (by omega)]
      have g17 : (L.setIfInBounds 14 true).getD 17 false = L.getD 17 false := by rw [up_set, if_neg (by omega)]
      have g18 : (L.setIfInBounds 14 true).getD 18 false = L.getD 18 false := by rw [up_set, if_neg (by omega)]
      have g19 : (L.setIfInBounds 14 true).getD 19 false = L.getD 19 false := by rw [up_set, if_neg (by omega)]
      have g20 : (L.setIfInBounds 14 true).getD 20 false = L.getD 20 false := by rw [up_set, if_neg (by omega)]
      have g21 : (L.setIfInBounds 14 true).getD 21 false = L.getD 21 false := by rw [up_set, if_neg (by omega)]
      have g22 : (L.setIfInBounds 14 true).getD 22 false = L.getD 22 false := by rw [up_set, if_neg (by omega)]
      have g23 : (L.setIfInBounds 14 true).getD 23 false = L.getD 23 false := by rw [up_set, if_neg (by omega)]
      have hD13 := hP13 gd13
      obtain rfl := hD13
      have hb : RowKit.Below w.heap.size w w := Below.refl _ _
      have hbn := below_next hbw hb
      refine par_run ⟨some 63, _, _, _, _, _⟩ (.agg #[.int .i64 1, .int .i64 2, .bool false, .int .i64 5, .int .i64 4, .string ⟨#[66, 49]⟩, .string ⟨#[65, 49]⟩, .int .i64 2, .int .i64 400]) w rfl (by rfl) (exec_req (.tmp 2) g2 0 ⟨1, 2, false, 5, 4, ⟨#[66, 49]⟩, ⟨#[65, 49]⟩, 2, 400⟩ (by rfl) (by rfl) (h2.below hbw).at_) ?_
      exact ⟨keep _ hbn, (u53), (u54), (u55), (u56), (u57), (u58), (u59), (u60), (u61), (.bool true), (.agg #[.int .i64 1, .int .i64 2, .bool false, .int .i64 5, .int .i64 4, .string ⟨#[66, 49]⟩, .string ⟨#[65, 49]⟩, .int .i64 2, .int .i64 400]), (u64), (u65), (u66), (u67), (u68), (u69), (u70), (u71), (u9), by simp only [Act.put, List.setIfInBounds_toArray, List.set_cons_zero, List.set_cons_succ], hbn, by rw [g4]; exact fun e => ReqsIn.below (hP4 e) hb, by rw [g5]; exact hP5, by rw [g6]; exact hP6, by rw [g7]; exact fun e => ReqsIn.below (hP7 e) hb, by rw [g8]; exact fun e => ReqsIn.below (hP8 e) hb, by rw [g9]; exact hP9, by rw [g10]; exact fun e => ReqsIn.below (hP10 e) hb, by rw [g11]; exact hP11, by rw [g12]; exact hP12, by rw [g13]; exact hP13, fun _ => rfl, by rw [g15]; exact hP15, by rw [g16]; exact fun e => ReqsIn.below (hP16 e) hb, by rw [g17]; exact fun e => ReqsIn.below (hP17 e) hb, by rw [g18]; exact hP18, by rw [g19]; exact hP19, by rw [g20]; exact fun e => ReqsIn.below (hP20 e) hb, by rw [g21]; exact hP21, by rw [g22]; exact hP22, by rw [g23]; exact hP23⟩
    · have g4 : (L.setIfInBounds 15 true).getD 4 false = L.getD 4 false := by rw [up_set, if_neg (by omega)]
      have g5 : (L.setIfInBounds 15 true).getD 5 false = L.getD 5 false := by rw [up_set, if_neg (by omega)]
      have g6 : (L.setIfInBounds 15 true).getD 6 false = L.getD 6 false := by rw [up_set, if_neg (by omega)]
      have g7 : (L.setIfInBounds 15 true).getD 7 false = L.getD 7 false := by rw [up_set, if_neg (by omega)]
      have g8 : (L.setIfInBounds 15 true).getD 8 false = L.getD 8 false := by rw [up_set, if_neg (by omega)]
      have g9 : (L.setIfInBounds 15 true).getD 9 false = L.getD 9 false := by rw [up_set, if_neg (by omega)]
      have g10 : (L.setIfInBounds 15 true).getD 10 false = L.getD 10 false := by rw [up_set, if_neg (by omega)]
      have g11 : (L.setIfInBounds 15 true).getD 11 false = L.getD 11 false := by rw [up_set, if_neg (by omega)]
      have g12 : (L.setIfInBounds 15 true).getD 12 false = L.getD 12 false := by rw [up_set, if_neg (by omega)]
      have g13 : (L.setIfInBounds 15 true).getD 13 false = L.getD 13 false := by rw [up_set, if_neg (by omega)]
      have g14 : (L.setIfInBounds 15 true).getD 14 false = L.getD 14 false := by rw [up_set, if_neg (by omega)]
      have g15 : (L.setIfInBounds 15 true).getD 15 false = true := by rw [up_set, if_pos ⟨rfl, by omega⟩]
      have g16 : (L.setIfInBounds 15 true).getD 16 false = L.getD 16 false := by rw [up_set, if_neg (by omega)]
      have g17 : (L.setIfInBounds 15 true).getD 17 false = L.getD 17 false := by rw [up_set, if_neg (by omega)]
      have g18 : (L.setIfInBounds 15 true).getD 18 false = L.getD 18 false := by rw [up_set, if_neg (by omega)]
      have g19 : (L.setIfInBounds 15 true).getD 19 false = L.getD 19 false := by rw [up_set, if_neg (by omega)]
      have g20 : (L.setIfInBounds 15 true).getD 20 false = L.getD 20 false := by rw [up_set, if_neg (by omega)]
      have g21 : (L.setIfInBounds 15 true).getD 21 false = L.getD 21 false := by rw [up_set, if_neg (by omega)]
      have g22 : (L.setIfInBounds 15 true).getD 22 false = L.getD 22 false := by rw [up_set, if_neg (by omega)]
      have g23 : (L.setIfInBounds 15 true).getD 23 false = L.getD 23 false := by rw [up_set, if_neg (by omega)]
      have hD13 := hP13 gd13
      obtain rfl := hD13
      have hb : RowKit.Below w.heap.size w w := Below.refl _ _
      have hbn := below_next hbw hb
      refine par_run ⟨some 64, _, _, _, _, _⟩ (.agg #[.int .i64 1, .int .i64 1, .bool false, .int .i64 5, .int .i64 4, .string ⟨#[65, 49]⟩, .string ⟨#[]⟩, .int .i64 2, .int .i64 400]) w rfl (by rfl) (exec_req (.tmp 1) g1 0 ⟨1, 1, false, 5, 4, ⟨#[65, 49]⟩, ⟨#[]⟩, 2, 400⟩ (by rfl) (by rfl) (h1.below hbw).at_) ?_
      exact ⟨keep _ hbn, (u53), (u54), (u55), (u56), (u57), (u58), (u59), (u60), (u61), (.bool true), (u63), (.agg #[.int .i64 1, .int .i64 1, .bool false, .int .i64 5, .int .i64 4, .string ⟨#[65, 49]⟩, .string ⟨#[]⟩, .int .i64 2, .int .i64 400]), (u65), (u66), (u67), (u68), (u69), (u70), (u71), (u9), by simp only [Act.put, List.setIfInBounds_toArray, List.set_cons_zero, List.set_cons_succ], hbn, by rw [g4]; exact fun e => ReqsIn.below (hP4 e) hb, by rw [g5]; exact hP5, by rw [g6]; exact hP6, by rw [g7]; exact fun e => ReqsIn.below (hP7 e) hb, by rw [g8]; exact fun e => ReqsIn.below (hP8 e) hb, by rw [g9]; exact hP9, by rw [g10]; exact fun e => ReqsIn.below (hP10 e) hb, by rw [g11]; exact hP11, by rw [g12]; exact hP12, by rw [g13]; exact hP13, by rw [g14]; exact hP14, fun _ => rfl, by rw [g16]; exact fun e => ReqsIn.below (hP16 e) hb, by rw [g17]; exact fun e => ReqsIn.below (hP17 e) hb, by rw [g18]; exact hP18, by rw [g19]; exact hP19, by rw [g20]; exact fun e => ReqsIn.below (hP20 e) hb, by rw [g21]; exact hP21, by rw [g22]; exact hP22, by rw [g23]; exact hP23⟩
    · have g4 : (L.setIfInBounds 16 true).getD 4 false = L.getD 4 false := by rw [up_set, if_neg (by omega)]
      have g5 : (L.setIfInBounds 16 true).getD 5 false = L.getD 5 false := by rw [up_set, if_neg (by omega)]
      have g6 : (L.setIfInBounds 16 true).getD 6 false = L.getD 6 false := by rw [up_set, if_neg (by omega)]
      have g7 : (L.setIfInBounds 16 true).getD 7 false = L.getD 7 false := by rw [up_set, if_neg (by omega)]
      have g8 : (L.setIfInBounds 16 true).getD 8 false = L.getD 8 false := by rw [up_set, if_neg (by omega)]
      have g9 : (L.setIfInBounds 16 true).getD 9 false = L.getD 9 false := by rw [up_set, if_neg (by omega)]
      have g10 : (L.setIfInBounds 16 true).getD 10 false = L.getD 10 false := by rw [up_set, if_neg (by omega)]
      have g11 : (L.setIfInBounds 16 true).getD 11 false = L.getD 11 false := by rw [up_set, if_neg (by omega)]
      have g12 : (L.setIfInBounds 16 true).getD 12 false = L.getD 12 false := by rw [up_set, if_neg (by omega)]
      have g13 : (L.setIfInBounds 16 true).getD 13 false = L.getD 13 false := by rw [up_set, if_neg (by omega)]
      have g14 : (L.setIfInBounds 16 true).getD 14 false = L.getD 14 false := by rw [up_set, if_neg (by omega)]
      have g15 : (L.setIfInBounds 16 true).getD 15 false = L.getD 15 false := by rw [up_set, if_neg (by omega)]
      have g16 : (L.setIfInBounds 16 true).getD 16 false = true := by rw [up_set, if_pos ⟨rfl, by omega⟩]
      have g17 : (L.setIfInBounds 16 true).getD 17 false = L.getD 17 false := by rw [up_set, if_neg (by omega)]
      have g18 : (L.setIfInBounds 16 true).getD 18 false = L.getD 18 false := by rw [up_set, if_neg (by omega)]
      have g19 : (L.setIfInBounds 16 true).getD 19 false = L.getD 19 false := by rw [up_set, if_neg (by omega)]
      have g20 : (L.setIfInBounds 16 true).getD 20 false = L.getD 20 false := by rw [up_set, if_neg (by omega)]
      have g21 : (L.setIfInBounds 16 true).getD 21 false = L.getD 21 false := by rw [up_set, if_neg (by omega)]
      have g22 : (L.setIfInBounds 16 true).getD 22 false = L.getD 22 false := by rw [up_set, if_neg (by omega)]
      have g23 : (L.setIfInBounds 16 true).getD 23 false = L.getD 23 false := by rw [up_set, if_neg (by omega)]
      have hD13 := hP13 gd13
      obtain rfl := hD13
      have hD14 := hP14 gd14
      obtain rfl := hD14
      have hD15 := hP15 gd15
      obtain rfl := hD15
      have hb : RowKit.Below w.heap.size w (w.alloc (.cells #[.int .i64 1, .int .i64 2, .bool false, .int .i64 5, .int .i64 4, .string ⟨#[66, 49]⟩, .string ⟨#[65, 49]⟩, .int .i64 2, .int .i64 400, .int .i64 1, .int .i64 1, .bool false, .int .i64 5, .int .i64 4, .string ⟨#[65, 49]⟩, .string ⟨#[]⟩, .int .i64 2, .int .i64 400] 46)) := below_alloc1 w _
      have hbn := below_next hbw hb
      refine par_run ⟨some 65, _, _, _, _, _⟩ (.slice (some ⟨w.heap.size, 0, none⟩) 2 2) (w.alloc (.cells #[.int .i64 1, .int .i64 2, .bool false, .int .i64 5, .int .i64 4, .string ⟨#[66, 49]⟩, .string ⟨#[65, 49]⟩, .int .i64 2, .int .i64 400, .int .i64 1, .int .i64 1, .bool false, .int .i64 5, .int .i64 4, .string ⟨#[65, 49]⟩, .string ⟨#[]⟩, .int .i64 2, .int .i64 400] 46)) rfl (by rfl) (by go_simp) ?_
      exact ⟨keep _ hbn, (u53), (u54), (u55), (u56), (u57), (u58), (u59), (u60), (u61), (.bool true), (.agg #[.int .i64 1, .int .i64 2, .bool false, .int .i64 5, .int .i64 4, .string ⟨#[66, 49]⟩, .string ⟨#[65, 49]⟩, .int .i64 2, .int .i64 400]), (.agg #[.int .i64 1, .int .i64 1, .bool false, .int .i64 5, .int .i64 4, .string ⟨#[65, 49]⟩, .string ⟨#[]⟩, .int .i64 2, .int .i64 400]), (.slice (some ⟨w.heap.size, 0, none⟩) 2 2), (u66), (u67), (u68), (u69), (u70), (u71), (u9), by simp only [Act.put, List.setIfInBounds_toArray, List.set_cons_zero, List.set_cons_succ], hbn, by rw [g4]; exact fun e => ReqsIn.below (hP4 e) hb, by rw [g5]; exact hP5, by rw [g6]; exact hP6, by rw [g7]; exact fun e => ReqsIn.below (hP7 e) hb, by rw [g8]; exact fun e => ReqsIn.below (hP8 e) hb, by rw [g9]; exact hP9, by rw [g10]; exact fun e => ReqsIn.below (hP10 e) hb, by rw [g11]; exact hP11, by rw [g12]; exact hP12, by rw [g13]; exact hP13, by rw [g14]; exact hP14, by rw [g15]; exact hP15, fun _ => reqs_laid w [⟨1, 2, false, 5, 4, ⟨#[66, 49]⟩, ⟨#[65, 49]⟩, 2, 400⟩, ⟨1, 1, false, 5, 4, ⟨#[65, 49]⟩, ⟨#[]⟩, 2, 400⟩], by rw [g17]; exact fun e => ReqsIn.below (hP17 e) hb, by rw [g18]; exact hP18, by rw [g19]; exact hP19, by rw [g20]; exact fun e => ReqsIn.below (hP20 e) hb, by rw [g21]; exact hP21, by rw [g22]; exact hP22, by rw [g23]; exact hP23⟩
    · have g4 : (L.setIfInBounds 17 true).getD 4 false = L.getD 4 false := by rw [up_set, if_neg (by omega)]
      have g5 : (L.setIfInBounds 17 true).getD 5 false = L.getD 5 false := by rw [up_set, if_neg (by omega)]
      have g6 : (L.setIfInBounds 17 true).getD 6 false = L.getD 6 false := by rw [up_set, if_neg (by omega)]
      have g7 : (L.setIfInBounds 17 true).getD 7 false = L.getD 7 false := by rw [up_set, if_neg (by omega)]
      have g8 : (L.setIfInBounds 17 true).getD 8 false = L.getD 8 false := by rw [up_set, if_neg (by omega)]
      have g9 : (L.setIfInBounds 17 true).getD 9 false = L.getD 9 false := by rw [up_set, if_neg (by omega)]
      have g10 : (L.setIfInBounds 17 true).getD 10 false = L.getD 10 false := by rw [up_set, if_neg (by omega)]
      have g11 : (L.setIfInBounds 17 true).getD 11 false = L.getD 11 false := by rw [up_set, if_neg (by omega)]
      have g12 : (L.setIfInBounds 17 true).getD 12 false = L.getD 12 false := by rw [up_set, if_neg (by omega)]
      have g13 : (L.setIfInBounds 17 true).getD 13 false = L.getD 13 false := by rw [up_set, if_neg (by omega)]
      have g14 : (L.setIfInBounds 17 true).getD 14 false = L.getD 14 false := by rw [up_set, if_neg (by omega)]
      have g15 : (L.setIfInBounds 17 true).getD 15 false = L.getD 15 false := by rw [up_set, if_neg (by omega)]
      have g16 : (L.setIfInBounds 17 true).getD 16 false = L.getD 16 false := by rw [up_set, if_neg (by omega)]
      have g17 : (L.setIfInBounds 17 true).getD 17 false = true := by rw [up_set, if_pos ⟨rfl, by omega⟩]
      have g18 : (L.setIfInBounds 17 true).getD 18 false = L.getD 18 false := by rw [up_set, if_neg (by omega)]
      have g19 : (L.setIfInBounds 17 true).getD 19 false = L.getD 19 false := by rw [up_set, if_neg (by omega)]
      have g20 : (L.setIfInBounds 17 true).getD 20 false = L.getD 20 false := by rw [up_set, if_neg (by omega)]
      have g21 : (L.setIfInBounds 17 true).getD 21 false = L.getD 21 false := by rw [up_set, if_neg (by omega)]
      have g22 : (L.setIfInBounds 17 true).getD 22 false = L.getD 22 false := by rw [up_set, if_neg (by omega)]
      have g23 : (L.setIfInBounds 17 true).getD 23 false = L.getD 23 false := by rw [up_set, if_neg (by omega)]
      have hD13 := hP13 gd13
      obtain rfl := hD13
      have hD16 := hP16 gd16
      refine par_call ⟨some 66, _, _, _, _, _⟩ rfl (by rfl) 20 _ _ (by rfl) _ (by rfl) Tryz.call20 (active_at set_ab act_ab sm_ba (by simp) u65 w hD16) ?_
      rintro x wn ⟨va, rfl, hva, hb⟩
      have hbn := below_next hbw hb
      exact ⟨_, rfl, keep _ hbn, (u53), (u54), (u55), (u56), (u57), (u58), (u59), (u60), (u61), (.bool true), (u63), (u64), (u65), (va), (u67), (u68), (u69), (u70), (u71), (u9), by simp only [Act.put, List.setIfInBounds_toArray, List.set_cons_zero, List.set_cons_succ], hbn, by rw [g4]; exact fun e => ReqsIn.below (hP4 e) hb, by rw [g5]; exact hP5, by rw [g6]; exact hP6, by rw [g7]; exact fun e => ReqsIn.below (hP7 e) hb, by rw [g8]; exact fun e => ReqsIn.below (hP8 e) hb, by rw [g9]; exact hP9, by rw [g10]; exact fun e => ReqsIn.below (hP10 e) hb, by rw [g11]; exact hP11, by rw [g12]; exact hP12, by rw [g13]; exact hP13, by rw [g14]; exact hP14, by rw [g15]; exact hP15, by rw [g16]; exact fun e => ReqsIn.below (hP16 e) hb, fun _ => hva, by rw [g18]; exact hP18, by rw [g19]; exact hP19, by rw [g20]; exact fun e => ReqsIn.below (hP20 e) hb, by rw [g21]; exact hP21, by rw [g22]; exact hP22, by rw [g23]; exact hP23⟩
    · have g4 : (L.setIfInBounds 18 true).getD 4 false = L.getD 4 false := by rw [up_set, if_neg (by omega)]
      have g5 : (L.setIfInBounds 18 true).getD 5 false = L.getD 5 false := by rw [up_set, if_neg (by omega)]
      have g6 : (L.setIfInBounds 18 true).getD 6 false = L.getD 6 false := by rw [up_set, if_neg (by omega)]
      have g7 : (L.setIfInBounds 18 true).getD 7 false = L.getD 7 false := by rw [up_set, if_neg (by omega)]
      have g8 : (L.setIfInBounds 18 true).getD 8 false = L.getD 8 false := by rw [up_set, if_neg (by omega)]
      have g9 : (L.setIfInBounds 18 true).getD 9 false = L.getD 9 false := by rw [up_set, if_neg (by omega)]
      have g10 : (L.setIfInBounds 18 true).getD 10 false = L.getD 10 false := by rw [up_set, if_neg (by omega)]
      have g11 : (L.setIfInBounds 18 true).getD 11 false = L.getD 11 false := by rw [up_set, if_neg (by omega)]
      have g12 : (L.setIfInBounds 18 true).getD 12 false = L.getD 12 false := by rw [up_set, if_neg (by omega)]
      have g13 : (L.setIfInBounds 18 true).getD 13 false = L.getD 13 false := by rw [up_set, if_neg (by omega)]
      have g14 : (L.setIfInBounds 18 true).getD 14 false = L.getD 14 false := by rw [up_set, if_neg (by omega)]
      have g15 : (L.setIfInBounds 18 true).getD 15 false = L.getD 15 false := by rw [up_set, if_neg (by omega)]
      have g16 : (L.setIfInBounds 18 true).getD 16 false = L.getD 16 false := by rw [up_set, if_neg (by omega)]
      have g17 : (L.setIfInBounds 18 true).getD 17 false = L.getD 17 false := by rw [up_set, if_neg (by omega)]
      have g18 : (L.setIfInBounds 18 true).getD 18 false = true := by rw [up_set, if_pos ⟨rfl, by omega⟩]
      have g19 : (L.setIfInBounds 18 true).getD 19 false = L.getD 19 false := by rw [up_set, if_neg (by omega)]
      have g20 : (L.setIfInBounds 18 true).getD 20 false = L.getD 20 false := by rw [up_set, if_neg (by omega)]
      have g21 : (L.setIfInBounds 18 true).getD 21 false = L.getD 21 false := by rw [up_set, if_neg (by omega)]
      have g22 : (L.setIfInBounds 18 true).getD 22 false = L.getD 22 false := by rw [up_set, if_neg (by omega)]
      have g23 : (L.setIfInBounds 18 true).getD 23 false = L.getD 23 false := by rw [up_set, if_neg (by omega)]
      have hD13 := hP13 gd13
      obtain rfl := hD13
      have hb : RowKit.Below w.heap.size w w := Below.refl _ _
      have hbn := below_next hbw hb
      refine par_run ⟨some 67, _, _, _, _, _⟩ (.agg #[.int .i64 1, .int .i64 1, .bool false, .int .i64 5, .int .i64 4, .string ⟨#[65, 49]⟩, .string ⟨#[]⟩, .int .i64 2, .int .i64 400]) w rfl (by rfl) (exec_req (.tmp 1) g1 0 ⟨1, 1, false, 5, 4, ⟨#[65, 49]⟩, ⟨#[]⟩, 2, 400⟩ (by rfl) (by rfl) (h1.below hbw).at_) ?_
      exact ⟨keep _ hbn, (u53), (u54), (u55), (u56), (u57), (u58), (u59), (u60), (u61), (.bool true), (u63), (u64), (u65), (u66), (.agg #[.int .i64 1, .int .i64 1, .bool false, .int .i64 5, .int .i64 4, .string ⟨#[65, 49]⟩, .string ⟨#[]⟩, .int .i64 2, .int .i64 400]), (u68), (u69), (u70), (u71), (u9), by simp only [Act.put, List.setIfInBounds_toArray, List.set_cons_zero, List.set_cons_succ], hbn, by rw [g4]; exact fun e => ReqsIn.below (hP4 e) hb, by rw [g5]; exact hP5, by rw [g6]; exact hP6, by rw [g7]; exact fun e => ReqsIn.below (hP7 e) hb, by rw [g8]; exact fun e => ReqsIn.below (hP8 e) hb, by rw [g9]; exact hP9, by rw [g10]; exact fun e => ReqsIn.below (hP10 e) hb, by rw [g11]; exact hP11, by rw [g12]; exact hP12, by rw [g13]; exact hP13, by rw [g14]; exact hP14, by rw [g15]; exact hP15, by rw [g16]; exact fun e => ReqsIn.below (hP16 e) hb, by rw [g17]; exact fun e => ReqsIn.below (hP17 e) hb, fun _ => rfl, by rw [g19]; exact hP19, by rw [g20]; exact fun e => ReqsIn.below (hP20 e) hb, by rw [g21]; exact hP21, by rw [g22]; exact hP22, by rw [g23]; exact hP23⟩
    · have g4 : (L.setIfInBounds 19 true).getD 4 false = L.getD 4 false := by rw [up_set, if_neg (by omega)]
      have g5 : (L.setIfInBounds 19 true).getD 5 false = L.getD 5 false := by rw [up_set, if_neg (by omega)]
      have g6 : (L.setIfInBounds 19 true).getD 6 false = L.getD 6 false := by rw [up_set, if_neg (by omega)]
      have g7 : (L.setIfInBounds 19 true).getD 7 false = L.getD 7 false := by rw [up_set, if_neg (by omega)]
      have g8 : (L.setIfInBounds 19 true).getD 8 false = L.getD 8 false := by rw [up_set, if_neg (by omega)]
      have g9 : (L.setIfInBounds 19 true).getD 9 false = L.getD 9 false := by rw [up_set, if_neg (by omega)]
      have g10 : (L.setIfInBounds 19 true).getD 10 false = L.getD 10 false := by rw [up_set, if_neg (by omega)]
      have g11 : (L.setIfInBounds 19 true).getD 11 false = L.getD 11 false := by rw [up_set, if_neg (by omega)]
      have g12 : (L.setIfInBounds 19 true).getD 12 false = L.getD 12 false := by rw [up_set, if_neg (by omega)]
      have g13 : (L.setIfInBounds 19 true).getD 13 false = L.getD 13 false := by rw [up_set, if_neg (by omega)]
      have g14 : (L.setIfInBounds 19 true).getD 14 false = L.getD 14 false := by rw [up_set, if_neg (by omega)]
      have g15 : (L.setIfInBounds 19 true).getD 15 false = L.getD 15 false := by rw [up_set, if_neg (by omega)]
      have g16 : (L.setIfInBounds 19 true).getD 16 false = L.getD 16 false := by rw [up_set, if_neg (by omega)]
      have g17 : (L.setIfInBounds 19 true).getD 17 false = L.getD 17 false := by rw [up_set, if_neg (by omega)]
      have g18 : (L.setIfInBounds 19 true).getD 18 false = L.getD 18 false := by rw [up_set, if_neg (by omega)]
      have g19 : (L.setIfInBounds 19 true).getD 19 false = true := by rw [up_set, if_pos ⟨rfl, by omega⟩]
      have g20 : (L.setIfInBounds 19 true).getD 20 false = L.getD 20 false := by rw [up_set, if_neg (by omega)]
      have g21 : (L.setIfInBounds 19 true).getD 21 false = L.getD 21 false := by rw [up_set, if_neg (by omega)]
      have g22 : (L.setIfInBounds 19 true).getD 22 false = L.getD 22 false := by rw [up_set, if_neg (by omega)]
      have g23 : (L.setIfInBounds 19 true).getD 23 false = L.getD 23 false := by rw [up_set, if_neg (by omega)]
      have hD13 := hP13 gd13
      obtain rfl := hD13
      have hb : RowKit.Below w.heap.size w w := Below.refl _ _
      have hbn := below_next hbw hb
      refine par_run ⟨some 68, _, _, _, _, _⟩ (.agg #[.int .i64 1, .int .i64 2, .bool false, .int .i64 5, .int .i64 4, .string ⟨#[66, 49]⟩, .string ⟨#[65, 49]⟩, .int .i64 2, .int .i64 400]) w rfl (by rfl) (exec_req (.tmp 2) g2 0 ⟨1, 2, false, 5, 4, ⟨#[66, 49]⟩, ⟨#[65, 49]⟩, 2, 400⟩ (by rfl) (by rfl) (h2.below hbw).at_) ?_
      exact ⟨keep _ hbn, (u53), (u54), (u55), (u56), (u57), (u58), (u59), (u60), (u61), (.bool true), (u63), (u64), (u65), (u66), (u67), (.agg #[.int .i64 1, .int .i64 2, .bool false, .int .i64 5, .int .i64 4, .string ⟨#[66, 49]⟩, .string ⟨#[65, 49]⟩, .int .i64 2, .int .i64 400]), (u69), (u70), (u71), (u9), by simp only [Act.put, List.setIfInBounds_toArray, List.set_cons_zero, List.set_cons_succ], hbn, by rw [g4]; exact fun e => ReqsIn.below (hP4 e) hb, by rw [g5]; exact hP5, by rw [g6]; exact hP6, by rw [g7]; exact fun e => ReqsIn.below (hP7 e) hb, by rw [g8]; exact fun e => ReqsIn.below (hP8 e) hb, by rw [g9]; exact hP9, by rw [g10]; exact fun e => ReqsIn.below (hP10 e) hb, by rw [g11]; exact hP11, by rw [g12]; exact hP12, by rw [g13]; exact hP13, by rw [g14]; exact hP14, by rw [g15]; exact hP15, by rw [g16]; exact fun e => ReqsIn.below (hP16 e) hb, by rw [g17]; exact fun e => ReqsIn.below (hP17 e) hb, by rw [g18]; exact hP18, fun _ => rfl, by rw [g20]; exact fun e => ReqsIn.below (hP20 e) hb, by rw [g21]; exact hP21, by rw [g22]; exact hP22, by rw [g23]; exact hP23⟩
    · have g4 : (L.setIfInBounds 20 true).getD 4 false = L.getD 4 false := by rw [up_set, if_neg (by omega)]
      have g5 : (L.setIfInBounds 20 true).getD 5 false = L.getD 5 false := by rw [up_set, if_neg (by omega)]
      have g6 : (L.setIfInBounds 20 true).getD 6 false = L.getD 6 false := by rw [up_set, if_neg (by omega)]
      have g7 : (L.setIfInBounds 20 true).getD 7 false = L.getD 7 false := by rw [up_set, if_neg (by omega)]
      have g8 : (L.setIfInBounds 20 true).getD 8 false = L.getD 8 false := by rw [up_set, if_neg (by omega)]
      have g9 : (L.setIfInBounds 20 true).getD 9 false = L.getD 9 false := by rw [up_set, if_neg (by omega)]
      have g10 : (L.setIfInBounds 20 true).getD 10 false = L.getD 10 false := by rw [up_set, if_neg (by omega)]
      have g11 : (L.setIfInBounds 20 true).getD 11 false = L.getD 11 false := by rw [up_set, if_neg (by omega)]
      have g12 : (L.setIfInBounds 20 true).getD 12 false = L.getD 12 false := by rw [up_set, if_neg (by omega)]
      have g13 : (L.setIfInBounds 20 true).getD 13 false = L.getD 13 false := by rw [up_set, if_neg (by omega)]
      have g14 : (L.setIfInBounds 20 true).getD 14 false = L.getD 14 false := by rw [up_set, if_neg (by omega)]
      have g15 : (L.setIfInBounds 20 true).getD 15 false = L.getD 15 false := by rw [up_set, if_neg (by omega)]
      have g16 : (L.setIfInBounds 20 true).getD 16 false = L.getD 16 false := by rw [up_set, if_neg (by omega)]
      have g17 : (L.setIfInBounds 20 true).getD 17 false = L.getD 17 false := by rw [up_set, if_neg (by omega)]
      have g18 : (L.setIfInBounds 20 true).getD 18 false = L.getD 18 false := by rw [up_set, if_neg (by omega)]
      have g19 : (L.setIfInBounds 20 true).getD 19 false = L.getD 19 false := by rw [up_set, if_neg (by omega)]
      have g20 : (L.setIfInBounds 20 true).getD 20 false = true := by rw [up_set, if_pos ⟨rfl, by omega⟩]
      have g21 : (L.setIfInBounds 20 true).getD 21 false = L.getD 21 false := by rw [up_set, if_neg (by omega)]
      have g22 : (L.setIfInBounds 20 true).getD 22 false = L.getD 22 false := by rw [up_set, if_neg (by omega)]
      have g23 : (L.setIfInBounds 20 true).getD 23 false = L.getD 23 false := by rw [up_set, if_neg (by omega)]
      have hD13 := hP13 gd13
      obtain rfl := hD13
      have hD18 := hP18 gd18
      obtain rfl := hD18
      have hD19 := hP19 gd19
      obtain rfl := hD19
      have hb : RowKit.Below w.heap.size w (w.alloc (.cells #[.int .i64 1, .int .i64 1, .bool false, .int .i64 5, .int .i64 4, .string ⟨#[65, 49]⟩, .string ⟨#[]⟩, .int .i64 2, .int .i64 400, .int .i64 1, .int .i64 2, .bool false, .int .i64 5, .int .i64 4, .string ⟨#[66, 49]⟩, .string ⟨#[65, 49]⟩, .int .i64 2, .int .i64 400] 46)) := below_alloc1 w _
      have hbn := below_next hbw hb
      refine par_run ⟨some 69, _, _, _, _, _⟩ (.slice (some ⟨w.heap.size, 0, none⟩) 2 2) (w.alloc (.cells #[.int .i64 1, .int .i64 1, .bool false, .int .i64 5, .int .i64 4, .string ⟨#[65, 49]⟩, .string ⟨#[]⟩, .int .i64 2, .int .i64 400, .int .i64 1, .int .i64 2, .bool false, .int .i64 5, .int .i64 4, .string ⟨#[66, 49]⟩, .string ⟨#[65, 49]⟩, .int .i64 2, .int .i64 400] 46)) rfl (by rfl) (by go_simp) ?_
      exact ⟨keep _ hbn, (u53), (u54), (u55), (u56), (u57), (u58), (u59), (u60), (u61), (.bool true), (u63), (u64), (u65), (u66), (.agg #[.int .i64 1, .int .i64 1, .bool false, .int .i64 5, .int .i64 4, .string ⟨#[65, 49]⟩, .string ⟨#[]⟩, .int .i64 2, .int .i64 400]), (.agg #[.int .i64 1, .int .i64 2, .bool false, .int .i64 5, .int .i64 4, .string ⟨#[66, 49]⟩, .string ⟨#[65, 49]⟩, .int .i64 2, .int .i64 400]), (.slice (some ⟨w.heap.size, 0, none⟩) 2 2), (u70), (u71), (u9), by simp only [Act.put, List.setIfInBounds_toArray, List.set_cons_zero, List.set_cons_succ], hbn, by rw [g4]; exact fun e => ReqsIn.below (hP4 e) hb, by rw [g5]; exact hP5, by rw [g6]; exact hP6, by rw [g7]; exact fun e => ReqsIn.below (hP7 e) hb, by rw [g8]; exact fun e => ReqsIn.below (hP8 e) hb, by rw [g9]; exact hP9, by rw [g10]; exact fun e => ReqsIn.below (hP10 e) hb, by rw [g11]; exact hP11, by rw [g12]; exact hP12, by rw [g13]; exact hP13, by rw [g14]; exact hP14, by rw [g15]; exact hP15, by rw [g16]; exact fun e => ReqsIn.below (hP16 e) hb, by rw [g17]; exact fun e => ReqsIn.below (hP17 e) hb, by rw [g18]; exact hP18, by rw [g19]; exact hP19, fun _ => reqs_laid w [⟨1, 1, false, 5, 4, ⟨#[65, 49]⟩, ⟨#[]⟩, 2, 400⟩, ⟨1, 2, false, 5, 4, ⟨#[66, 49]⟩, ⟨#[65, 49]⟩, 2, 400⟩], by rw [g21]; exact hP21, by rw [g22]; exact hP22, by rw [g23]; exact hP23⟩
    · have g4 : (L.setIfInBounds 21 true).getD 4 false = L.getD 4 false := by rw [up_set, if_neg (by omega)]
      have g5 : (L.setIfInBounds 21 true).getD 5 false = L.getD 5 false := by rw [up_set, if_neg (by omega)]
      have g6 : (L.setIfInBounds 21 true).getD 6 false = L.getD 6 false := by rw [up_set, if_neg (by omega)]
      have g7 : (L.setIfInBounds 21 true).getD 7 false = L.getD 7 false := by rw [up_set, if_neg (by omega)]
      have g8 : (L.setIfInBounds 21 true).getD 8 false = L.getD 8 false := by rw [up_set, if_neg (by omega)]
      have g9 : (L.setIfInBounds 21 true).getD 9 false = L.getD 9 false := by rw [up_set, if_neg (by omega)]
      have g10 : (L.setIfInBounds 21 true).getD 10 false = L.getD 10 false := by rw [up_set, if_neg (by omega)]
      have g11 : (L.setIfInBounds 21 true).getD 11 false = L.getD 11 false := by rw [up_set, if_neg (by omega)]
      have g12 : (L.setIfInBounds 21 true).getD 12 false = L.getD 12 false := by rw [up_set, if_neg (by omega)]
      have g13 : (L.setIfInBounds 21 true).getD 13 false = L.getD 13 false := by rw [up_set, if_neg (by omega)]
      have g14 : (L.setIfInBounds 21 true).getD 14 false = L.getD 14 false := by rw [up_set, if_neg (by omega)]
      have g15 : (L.setIfInBounds 21 true).getD 15 false = L.getD 15 false := by rw [up_set, if_neg (by omega)]
      have g16 : (L.setIfInBounds 21 true).getD 16 false = L.getD 16 false := by rw [up_set, if_neg (by omega)]
      have g17 : (L.setIfInBounds 21 true).getD 17 false = L.getD 17 false := by rw [up_set, if_neg (by omega)]
      have g18 : (L.setIfInBounds 21 true).getD 18 false = L.getD 18 false := by rw [up_set, if_neg (by omega)]
      have g19 : (L.setIfInBounds 21 true).getD 19 false = L.getD 19 false := by rw [up_set, if_neg (by omega)]
      have g20 : (L.setIfInBounds 21 true).getD 20 false = L.getD 20 false := by rw [up_set, if_neg (by omega)]
      have g21 : (L.setIfInBounds 21 true).getD 21 false = true := by rw [up_set, if_pos ⟨rfl, by omega⟩]
      have g22 : (L.setIfInBounds 21 true).getD 22 false = L.getD 22 false := by rw [up_set, if_neg (by omega)]
      have g23 : (L.setIfInBounds 21 true).getD 23 false = L.getD 23 false := by rw [up_set, if_neg (by omega)]
      have hD13 := hP13 gd13
      obtain rfl := hD13
      have hD17 := hP17 gd17
      have hD20 := hP20 gd20
      refine par_call ⟨some 70, _, _, _, _, _⟩ rfl (by rfl) 8 _ _ (by rfl) _ (by rfl) Tryz.call8 (same_at rfl (by simp) u66 u69 w hD17 hD20) ?_
      rintro x wn ⟨rfl, hb⟩
      have hbn := below_next hbw hb
      exact ⟨_, rfl, keep _ hbn, (u53), (u54), (u55), (u56), (u57), (u58), (u59), (u60), (u61), (.bool true), (u63), (u64), (u65), (u66), (u67), (u68), (u69), (.bool true), (u71), (u9), by simp only [Act.put, List.setIfInBounds_toArray, List.set_cons_zero, List.set_cons_succ], hbn, by rw [g4]; exact fun e => ReqsIn.below (hP4 e) hb, by rw [g5]; exact hP5, by rw [g6]; exact hP6, by rw [g7]; exact fun e => ReqsIn.below (hP7 e) hb, by rw [g8]; exact fun e => ReqsIn.below (hP8 e) hb, by rw [g9]; exact hP9, by rw [g10]; exact fun e => ReqsIn.below (hP10 e) hb, by rw [g11]; exact hP11, by rw [g12]; exact hP12, by rw [g13]; exact hP13, by rw [g14]; exact hP14, by rw [g15]; exact hP15, by rw [g16]; exact fun e => ReqsIn.below (hP16 e) hb, by rw [g17]; exact fun e => ReqsIn.below (hP17 e) hb, by rw [g18]; exact hP18, by rw [g19]; exact hP19, by rw [g20]; exact fun e => ReqsIn.below (hP20 e) hb, fun _ => rfl, by rw [g22]; exact hP22, by rw [g23]; exact hP23⟩
    · have g4 : (L.setIfInBounds 22 true).getD 4 false = L.getD 4 false := by rw [up_set, if_neg (by omega)]
      have g5 : (L.setIfInBounds 22 true).getD 5 false = L.getD 5 false := by rw [up_set, if_neg (by omega)]
      have g6 : (L.setIfInBounds 22 true).getD 6 false = L.getD 6 false := by rw [up_set, if_neg (by omega)]
      have g7 : (L.setIfInBounds 22 true).getD 7 false = L.getD 7 false := by rw [up_set, if_neg (by omega)]
      have g8 : (L.setIfInBounds 22 true).getD 8 false = L.getD 8 false := by rw [up_set, if_neg (by omega)]
      have g9 : (L.setIfInBounds 22 true).getD 9 false = L.getD 9 false := by rw [up_set, if_neg (by omega)]
      have g10 : (L.setIfInBounds 22 true).getD 10 false = L.getD 10 false := by rw [up_set, if_neg (by omega)]
      have g11 : (L.setIfInBounds 22 true).getD 11 false = L.getD 11 false := by rw [up_set, if_neg (by omega)]
      have g12 : (L.setIfInBounds 22 true).getD 12 false = L.getD 12 false := by rw [up_set, if_neg (by omega)]
      have g13 : (L.setIfInBounds 22 true).getD 13 false = L.getD 13 false := by rw [up_set, if_neg (by omega)]
      have g14 : (L.setIfInBounds 22 true).getD 14 false = L.getD 14 false := by rw [up_set, if_neg (by omega)]
      have g15 : (L.setIfInBounds 22 true).getD 15 false = L.getD 15 false := by rw [up_set, if_neg (by omega)]
      have g16 : (L.setIfInBounds 22 true).getD 16 false = L.getD 16 false := by rw [up_set, if_neg (by omega)]
      have g17 : (L.setIfInBounds 22 true).getD 17 false = L.getD 17 false := by rw [up_set, if_neg (by omega)]
      have g18 : (L.setIfInBounds 22 true).getD 18 false = L.getD 18 false := by rw [up_set, if_neg (by omega)]
      have g19 : (L.setIfInBounds 22 true).getD 19 false = L.getD 19 false := by rw [up_set, if_neg (by omega)]
      have g20 : (L.setIfInBounds 22 true).getD 20 false = L.getD 20 false := by rw [up_set, if_neg (by omega)]
      have g21 : (L.setIfInBounds 22 true).getD 21 false = L.getD 21 false := by rw [up_set, if_neg (by omega)]
      have g22 : (L.setIfInBounds 22 true).getD 22 false = true := by rw [up_set, if_pos ⟨rfl, by omega⟩]
      have g23 : (L.setIfInBounds 22 true).getD 23 false = L.getD 23 false := by rw [up_set, if_neg (by omega)]
      have hD13 := hP13 gd13
      obtain rfl := hD13
      have hD21 := hP21 gd21
      obtain rfl := hD21
      have hb : RowKit.Below w.heap.size w w := Below.refl _ _
      have hbn := below_next hbw hb
      refine par_run ⟨some 71, _, _, _, _, _⟩ (.bool true) w rfl (by rfl) (by go_simp) ?_
      exact ⟨keep _ hbn, (u53), (u54), (u55), (u56), (u57), (u58), (u59), (u60), (u61), (.bool true), (u63), (u64), (u65), (u66), (u67), (u68), (u69), (.bool true), (.bool true), (u9), by simp only [Act.put, List.setIfInBounds_toArray, List.set_cons_zero, List.set_cons_succ], hbn, by rw [g4]; exact fun e => ReqsIn.below (hP4 e) hb, by rw [g5]; exact hP5, by rw [g6]; exact hP6, by rw [g7]; exact fun e => ReqsIn.below (hP7 e) hb, by rw [g8]; exact fun e => ReqsIn.below (hP8 e) hb, by rw [g9]; exact hP9, by rw [g10]; exact fun e => ReqsIn.below (hP10 e) hb, by rw [g11]; exact hP11, by rw [g12]; exact hP12, by rw [g13]; exact hP13, by rw [g14]; exact hP14, by rw [g15]; exact hP15, by rw [g16]; exact fun e => ReqsIn.below (hP16 e) hb, by rw [g17]; exact fun e => ReqsIn.below (hP17 e) hb, by rw [g18]; exact hP18, by rw [g19]; exact hP19, by rw [g20]; exact fun e => ReqsIn.below (hP20 e) hb, by rw [g21]; exact hP21, fun _ => rfl, by rw [g23]; exact hP23⟩
    · have g4 : (L.setIfInBounds 23 true).getD 4 false = L.getD 4 false := by rw [up_set, if_neg (by omega)]
      have g5 : (L.setIfInBounds 23 true).getD 5 false = L.getD 5 false := by rw [up_set, if_neg (by omega)]
      have g6 : (L.setIfInBounds 23 true).getD 6 false = L.getD 6 false := by rw [up_set, if_neg (by omega)]
      have g7 : (L.setIfInBounds 23 true).getD 7 false = L.getD 7 false := by rw [up_set, if_neg (by omega)]
      have g8 : (L.setIfInBounds 23 true).getD 8 false = L.getD 8 false := by rw [up_set, if_neg (by omega)]
      have g9 : (L.setIfInBounds 23 true).getD 9 false = L.getD 9 false := by rw [up_set, if_neg (by omega)]
      have g10 : (L.setIfInBounds 23 true).getD 10 false = L.getD 10 false := by rw [up_set, if_neg (by omega)]
      have g11 : (L.setIfInBounds 23 true).getD 11 false = L.getD 11 false := by rw [up_set, if_neg (by omega)]
      have g12 : (L.setIfInBounds 23 true).getD 12 false = L.getD 12 false := by rw [up_set, if_neg (by omega)]
      have g13 : (L.setIfInBounds 23 true).getD 13 false = L.getD 13 false := by rw [up_set, if_neg (by omega)]
      have g14 : (L.setIfInBounds 23 true).getD 14 false = L.getD 14 false := by rw [up_set, if_neg (by omega)]
      have g15 : (L.setIfInBounds 23 true).getD 15 false = L.getD 15 false := by rw [up_set, if_neg (by omega)]
      have g16 : (L.setIfInBounds 23 true).getD 16 false = L.getD 16 false := by rw [up_set, if_neg (by omega)]
      have g17 : (L.setIfInBounds 23 true).getD 17 false = L.getD 17 false := by rw [up_set, if_neg (by omega)]
      have g18 : (L.setIfInBounds 23 true).getD 18 false = L.getD 18 false := by rw [up_set, if_neg (by omega)]
      have g19 : (L.setIfInBounds 23 true).getD 19 false = L.getD 19 false := by rw [up_set, if_neg (by omega)]
      have g20 : (L.setIfInBounds 23 true).getD 20 false = L.getD 20 false := by rw [up_set, if_neg (by omega)]
      have g21 : (L.setIfInBounds 23 true).getD 21 false = L.getD 21 false := by rw [up_set, if_neg (by omega)]
      have g22 : (L.setIfInBounds 23 true).getD 22 false = L.getD 22 false := by rw [up_set, if_neg (by omega)]
      have g23 : (L.setIfInBounds 23 true).getD 23 false = true := by rw [up_set, if_pos ⟨rfl, by omega⟩]
      have hD22 := hP22 gd22
      obtain rfl := hD22
      have hb : RowKit.Below w.heap.size w w := Below.refl _ _
      have hbn := below_next hbw hb
      refine par_run ⟨some 9, _, _, _, _, _⟩ (.bool true) w rfl (by rfl) (by go_simp) ?_
      exact ⟨keep _ hbn, (u53), (u54), (u55), (u56), (u57), (u58), (u59), (u60), (u61), (u62), (u63), (u64), (u65), (u66), (u67), (u68), (u69), (u70), (.bool true), (.bool true), by simp only [Act.put, List.setIfInBounds_toArray, List.set_cons_zero, List.set_cons_succ], hbn, by rw [g4]; exact fun e => ReqsIn.below (hP4 e) hb, by rw [g5]; exact hP5, by rw [g6]; exact hP6, by rw [g7]; exact fun e => ReqsIn.below (hP7 e) hb, by rw [g8]; exact fun e => ReqsIn.below (hP8 e) hb, by rw [g9]; exact hP9, by rw [g10]; exact fun e => ReqsIn.below (hP10 e) hb, by rw [g11]; exact hP11, by rw [g12]; exact hP12, by rw [g13]; exact hP13, by rw [g14]; exact hP14, by rw [g15]; exact hP15, by rw [g16]; exact fun e => ReqsIn.below (hP16 e) hb, by rw [g17]; exact fun e => ReqsIn.below (hP17 e) hb, by rw [g18]; exact hP18, by rw [g19]; exact hP19, by rw [g20]; exact fun e => ReqsIn.below (hP20 e) hb, by rw [g21]; exact hP21, by rw [g22]; exact hP22, fun _ => rfl⟩
  · intro L a w hp hI
    obtain ⟨u53, u54, u55, u56, u57, u58, u59, u60, u61, u62, u63, u64, u65, u66, u67, u68, u69, u70, u71, u9, rfl, hbw, hP4, hP5, hP6, hP7, hP8, hP9, hP10, hP11, hP12, hP13, hP14, hP15, hP16, hP17, hP18, hP19, hP20, hP21, hP22, hP23⟩ := hI
    (try simp only [Bool.and_eq_true] at hp)
    have p23 := hp
    exact HQ.out _ _ _ _ _ _ _ _ _ _ _ _ _ _ _ _ _ _ _ _ w hbw (hP23 p23)
  · refine par_take ⟨some 49, _, _, _, _, _⟩ ?_ rfl (by rfl) ?_ ?_
    rotate_left 1
    · intro w hSw; (try dsimp only at hSw); go_simp; (try with_reducible rfl)
    simp only [Act.put, List.setIfInBounds_toArray, List.set_cons_zero, List.set_cons_succ]
    refine par_take ⟨some 50, _, _, _, _, _⟩ ?_ rfl (by rfl) ?_ ?_
    rotate_left 1
    · intro w hSw; (try dsimp only at hSw); go_simp; (try with_reducible rfl)
    simp only [Act.put, List.setIfInBounds_toArray, List.set_cons_zero, List.set_cons_succ]
    refine par_take ⟨some 51, _, _, _, _, _⟩ ?_ rfl (by rfl) ?_ ?_
    rotate_left 1
    · intro w hSw; (try dsimp only at hSw); go_simp; (try with_reducible rfl)
    simp only [Act.put, List.setIfInBounds_toArray, List.set_cons_zero, List.set_cons_succ]
    refine par_take ⟨some 52, _, _, _, _, _⟩ ?_ rfl (by rfl) ?_ ?_
    rotate_left 1
    · intro w hSw; (try dsimp only at hSw); go_simp; (try with_reducible rfl)
    simp only [Act.put, List.setIfInBounds_toArray, List.set_cons_zero, List.set_cons_succ]
    exact ⟨_, _, _, _, _, _, _, _, _, _, _, _, _, _, _, _, _, _, _, _, rfl, (Below.refl W.heap.size W).drew, (fun e => absurd e (by decide +kernel)), (fun e => absurd e (by decide +kernel)), (fun e => absurd e (by decide +kernel)), (fun e => absurd e (by decide +kernel)), (fun e => absurd e (by decide +kernel)), (fun e => absurd e (by decide +kernel)), (fun e => absurd e (by decide +kernel)), (fun e => absurd e (by decide +kernel)), (fun e => absurd e (by decide +kernel)), (fun e => absurd e (by decide +kernel)), (fun e => absurd e (by decide +kernel)), (fun e => absurd e (by decide +kernel)), (fun e => absurd e (by decide +kernel)), (fun e => absurd e (by decide +kernel)), (fun e => absurd e (by decide +kernel)), (fun e => absurd e (by decide +kernel)), (fun e => absurd e (by decide +kernel)), (fun e => absurd e (by decide +kernel)), (fun e => absurd e (by decide +kernel)), (fun e => absurd e (by decide +kernel))⟩
end Go.Proofs.YtanmmooflhomoaaGreatDoor
