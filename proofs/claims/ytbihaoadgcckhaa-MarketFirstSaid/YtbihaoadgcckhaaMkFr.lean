/- The law MarketFirst: three regions as pieces. -/
import Derived.Test.YtbihaoadgcckhaaMkPa
namespace Go.Proofs.Ytbihaoadgcckhaa
open Go Go.Proofs Go.RowKit Go.Maps Go.Sort Go.Lib
attribute [local go_sem] Req.cells

set_option maxHeartbeats 16000000 in
set_option maxRecDepth 100000 in
theorem fst_r13 {s0 s1 s2 s3 s4 s5 s6 s7 s8 s9 s10 s11 s13 s15 s16 s17 s18 s19 s20 s21 s22 s23 s24 s25 s26 s27 s28 s29 s30 s31 s32 s33 s34 s35 s36 s37 s38 s39 s40 s41 s42 s43 s44 s45 s46 s47 s48 s49 s50 s51 s52 s53 s54 s55 s56 s57 s58 s59 s60 s61 s62 s63 s64 s65 s66 s67 s68 s69 s70 s71 s72 s73 s74 s75 s76 s77 s78 s79 s80 s81 s82 s83 s84 s85 s86 s87 s88 s89 s90 s91 s92 s93 s94 s95 s96 s97 s98 s99 s100 s101 s102 s103 s104 s105 s106 s107 s108 s109 s110 s111 s112 s113 s114 s115 s116 s117 s118 s119 s120 s121 s122 s123 s124 s125 s126 s127 s128 s129 s130 s131 s132 s133 s134 s135 s136 s137 s138 s139 s140 s141 s142 s143 s144 s145 s146 s147 s148 s149 s150 s151 s152 s153 s154 s155 s156 s157 s158 s159 s160 s161 s162 : Value} (db sb : Nat) (pd : Option Addr) (cd : Nat) (D : List Seat) (s : Seat) (W : World) (Q : Exit → Act → World → Prop) (hdl : db < W.heap.size) (hdc : W.cell? ⟨db, 0, none⟩ = some (.slice pd D.length cd)) (hr : RowIn Seat.cells W (.slice pd D.length cd) D) (lD : D.length ≤ 100000) (hs : sb < W.heap.size ∧ ∀ j, W.cell? ⟨sb, j, none⟩ = (#[.int .i64 s.student, .string s.code] : Array Value)[j]?)
    (hQ : ∀ (u58 u61 u63 u64 u65 : Value) (b : Nat) (p : Option Addr) (c : Nat) (wx : World), RowKit.Below W.heap.size W wx → W.heap.size ≤ b → wx.heap[b]? = some (.cells #[.slice p (D ++ [s]).length c, .slice none 0 0] 37 (0, 0)) → wx.ownsRow W.heap.size 40 2 (.slice p (D ++ [s]).length c) (D ++ [s]).length (flatE Seat.cells (D ++ [s])) → Q .normal ⟨List.toArray (s0 :: s1 :: s2 :: s3 :: s4 :: s5 :: s6 :: s7 :: s8 :: s9 :: s10 :: s11 :: .pointer (some ⟨db, 0, none⟩) :: s13 :: .pointer (some ⟨sb, 0, none⟩) :: .pointer (some ⟨b, 0, none⟩) :: s16 :: s17 :: s18 :: s19 :: s20 :: s21 :: s22 :: s23 :: s24 :: s25 :: s26 :: s27 :: s28 :: s29 :: s30 :: s31 :: s32 :: s33 :: s34 :: s35 :: s36 :: s37 :: s38 :: s39 :: s40 :: s41 :: s42 :: s43 :: s44 :: s45 :: s46 :: s47 :: s48 :: s49 :: s50 :: s51 :: s52 :: s53 :: s54 :: s55 :: s56 :: s57 :: u58 :: .pointer (some ⟨db, 0, none⟩) :: .slice pd D.length cd :: u61 :: .agg #[.int .i64 s.student, .string s.code] :: u63 :: u64 :: u65 :: s66 :: s67 :: s68 :: s69 :: s70 :: s71 :: s72 :: s73 :: s74 :: s75 :: s76 :: s77 :: s78 :: s79 :: s80 :: s81 :: s82 :: s83 :: s84 :: s85 :: s86 :: s87 :: s88 :: s89 :: s90 :: s91 :: s92 :: s93 :: s94 :: s95 :: s96 :: s97 :: s98 :: s99 :: s100 :: s101 :: s102 :: s103 :: s104 :: s105 :: s106 :: s107 :: s108 :: s109 :: s110 :: s111 :: s112 :: s113 :: s114 :: s115 :: s116 :: s117 :: s118 :: s119 :: s120 :: s121 :: s122 :: s123 :: s124 :: s125 :: s126 :: s127 :: s128 :: s129 :: s130 :: s131 :: s132 :: s133 :: s134 :: s135 :: s136 :: s137 :: s138 :: s139 :: s140 :: s141 :: s142 :: s143 :: s144 :: s145 :: s146 :: s147 :: s148 :: s149 :: s150 :: s151 :: s152 :: s153 :: s154 :: s155 :: s156 :: s157 :: s158 :: s159 :: s160 :: s161 :: s162 :: []), []⟩ wx) :
    (regionOf Try.f3 13).wp Try.prog Q ⟨List.toArray (s0 :: s1 :: s2 :: s3 :: s4 :: s5 :: s6 :: s7 :: s8 :: s9 :: s10 :: s11 :: .pointer (some ⟨db, 0, none⟩) :: s13 :: .pointer (some ⟨sb, 0, none⟩) :: s15 :: s16 :: s17 :: s18 :: s19 :: s20 :: s21 :: s22 :: s23 :: s24 :: s25 :: s26 :: s27 :: s28 :: s29 :: s30 :: s31 :: s32 :: s33 :: s34 :: s35 :: s36 :: s37 :: s38 :: s39 :: s40 :: s41 :: s42 :: s43 :: s44 :: s45 :: s46 :: s47 :: s48 :: s49 :: s50 :: s51 :: s52 :: s53 :: s54 :: s55 :: s56 :: s57 :: s58 :: s59 :: s60 :: s61 :: s62 :: s63 :: s64 :: s65 :: s66 :: s67 :: s68 :: s69 :: s70 :: s71 :: s72 :: s73 :: s74 :: s75 :: s76 :: s77 :: s78 :: s79 :: s80 :: s81 :: s82 :: s83 :: s84 :: s85 :: s86 :: s87 :: s88 :: s89 :: s90 :: s91 :: s92 :: s93 :: s94 :: s95 :: s96 :: s97 :: s98 :: s99 :: s100 :: s101 :: s102 :: s103 :: s104 :: s105 :: s106 :: s107 :: s108 :: s109 :: s110 :: s111 :: s112 :: s113 :: s114 :: s115 :: s116 :: s117 :: s118 :: s119 :: s120 :: s121 :: s122 :: s123 :: s124 :: s125 :: s126 :: s127 :: s128 :: s129 :: s130 :: s131 :: s132 :: s133 :: s134 :: s135 :: s136 :: s137 :: s138 :: s139 :: s140 :: s141 :: s142 :: s143 :: s144 :: s145 :: s146 :: s147 :: s148 :: s149 :: s150 :: s151 :: s152 :: s153 :: s154 :: s155 :: s156 :: s157 :: s158 :: s159 :: s160 :: s161 :: s162 :: []), []⟩ W := by
  refine of_onlyN (K := Q .normal) ?_ (fun _ _ h => h)
  generalize Q .normal = K at hQ ⊢
  have HQ := Lib.hid hQ; clear hQ
  conv => arg 2; whnf
  have hS0 : RowKit.Below W.heap.size W W.drew := (Below.refl _ _).drew
  have HR := Lib.hid hr
  clear hr
  refine wp_region_par (S := fun w => RowKit.Below W.heap.size W w) (I := fun L' a w => ∃ u58 u61 u63 u64 u65 u15 : Value, a = ⟨List.toArray (s0 :: s1 :: s2 :: s3 :: s4 :: s5 :: s6 :: s7 :: s8 :: s9 :: s10 :: s11 :: .pointer (some ⟨db, 0, none⟩) :: s13 :: .pointer (some ⟨sb, 0, none⟩) :: u15 :: s16 :: s17 :: s18 :: s19 :: s20 :: s21 :: s22 :: s23 :: s24 :: s25 :: s26 :: s27 :: s28 :: s29 :: s30 :: s31 :: s32 :: s33 :: s34 :: s35 :: s36 :: s37 :: s38 :: s39 :: s40 :: s41 :: s42 :: s43 :: s44 :: s45 :: s46 :: s47 :: s48 :: s49 :: s50 :: s51 :: s52 :: s53 :: s54 :: s55 :: s56 :: s57 :: u58 :: .pointer (some ⟨db, 0, none⟩) :: .slice pd D.length cd :: u61 :: .agg #[.int .i64 s.student, .string s.code] :: u63 :: u64 :: u65 :: s66 :: s67 :: s68 :: s69 :: s70 :: s71 :: s72 :: s73 :: s74 :: s75 :: s76 :: s77 :: s78 :: s79 :: s80 :: s81 :: s82 :: s83 :: s84 :: s85 :: s86 :: s87 :: s88 :: s89 :: s90 :: s91 :: s92 :: s93 :: s94 :: s95 :: s96 :: s97 :: s98 :: s99 :: s100 :: s101 :: s102 :: s103 :: s104 :: s105 :: s106 :: s107 :: s108 :: s109 :: s110 :: s111 :: s112 :: s113 :: s114 :: s115 :: s116 :: s117 :: s118 :: s119 :: s120 :: s121 :: s122 :: s123 :: s124 :: s125 :: s126 :: s127 :: s128 :: s129 :: s130 :: s131 :: s132 :: s133 :: s134 :: s135 :: s136 :: s137 :: s138 :: s139 :: s140 :: s141 :: s142 :: s143 :: s144 :: s145 :: s146 :: s147 :: s148 :: s149 :: s150 :: s151 :: s152 :: s153 :: s154 :: s155 :: s156 :: s157 :: s158 :: s159 :: s160 :: s161 :: s162 :: []), []⟩ ∧ (RowKit.Below W.heap.size W w) ∧ (L'.getD 0 false = true → L'.getD 3 false = false → Laid W.heap.size w (fun b => .slice (some ⟨b, 0, none⟩) 0 0) (.cells #[] 40 (0, 0)) u58) ∧ (L'.getD 3 false = true → L'.getD 6 false = false → w.ownsRow W.heap.size 40 2 u61 D.length (flatE Seat.cells D)) ∧ (L'.getD 5 false = true → L'.getD 6 false = false → Laid W.heap.size w (fun b => .slice (some ⟨b, 0, none⟩) 1 1) (.cells #[.int .i64 s.student, .string s.code] 40 (0, 0)) u63) ∧ (L'.getD 6 false = true → L'.getD 9 false = false → w.ownsRow W.heap.size 40 2 u64 (D ++ [s]).length (flatE Seat.cells (D ++ [s]))) ∧ (L'.getD 7 false = true → ∃ p c, u64 = .slice p (D ++ [s]).length c ∧ u65 = .agg #[.slice p (D ++ [s]).length c, .slice none 0 0]) ∧ (L'.getD 8 false = true → L'.getD 9 false = false → Laid W.heap.size w (fun b => .pointer (some ⟨b, 0, none⟩)) (.cells #[.slice none 0 0, .slice none 0 0] 37 (0, 0)) u15) ∧ (L'.getD 9 false = true → ∃ b p c, u15 = .pointer (some ⟨b, 0, none⟩) ∧ W.heap.size ≤ b ∧ w.heap[b]? = some (.cells #[.slice p (D ++ [s]).length c, .slice none 0 0] 37 (0, 0)) ∧ w.ownsRow W.heap.size 40 2 (.slice p (D ++ [s]).length c) (D ++ [s]).length (flatE Seat.cells (D ++ [s])))) (pre := fun i L' => L'.size == 10 && ((i == 0 && !L'.getD 9 false) || (i == 3 && L'.getD 0 false && !L'.getD 3 false && !L'.getD 6 false && !L'.getD 7 false && !L'.getD 9 false) || (i == 5 && !L'.getD 9 false) || (i == 6 && L'.getD 3 false && L'.getD 5 false && !L'.getD 6 false && !L'.getD 7 false && !L'.getD 9 false) || (i == 7 && L'.getD 6 false && !L'.getD 7 false && !L'.getD 9 false) || (i == 8 && !L'.getD 9 false) || (i == 9 && L'.getD 6 false && L'.getD 7 false && L'.getD 8 false && L'.getD 3 false && !L'.getD 9 false))) (fin := fun L' => L'.getD 9 false) [1, 2, 4] 7 (by kernel_rfl) (by kernel_rfl) (by kernel_rfl) (by kernel_rfl) (by decide) hS0 ?_ ?_ ?_
  · intro i L' a w hp hI
    obtain ⟨u58, u61, u63, u64, u65, u15, rfl, hSw, hP0, hP3, hP5, hP6, hP7, hP8, hP9⟩ := hI
    simp only [Bool.and_eq_true, Bool.or_eq_true, beq_iff_eq, Bool.not_eq_true'] at hp
    obtain ⟨hsz, hp⟩ := hp
    rcases hp with ((((((⟨rfl, gn9⟩ | ⟨⟨⟨⟨⟨rfl, gd0⟩, gn3⟩, gn6⟩, gn7⟩, gn9⟩) | ⟨rfl, gn9⟩) | ⟨⟨⟨⟨⟨rfl, gd3⟩, gd5⟩, gn6⟩, gn7⟩, gn9⟩) | ⟨⟨⟨rfl, gd6⟩, gn7⟩, gn9⟩) | ⟨rfl, gn9⟩) | ⟨⟨⟨⟨⟨rfl, gd6⟩, gd7⟩, gd8⟩, gd3⟩, gn9⟩)
    · have g0 : (L'.setIfInBounds 0 true).getD 0 false = true := by rw [up_set, if_pos ⟨rfl, by omega⟩]
      have g3 : (L'.setIfInBounds 0 true).getD 3 false = L'.getD 3 false := by rw [up_set, if_neg (by omega)]
      have g5 : (L'.setIfInBounds 0 true).getD 5 false = L'.getD 5 false := by rw [up_set, if_neg (by omega)]
      have g6 : (L'.setIfInBounds 0 true).getD 6 false = L'.getD 6 false := by rw [up_set, if_neg (by omega)]
      have g7 : (L'.setIfInBounds 0 true).getD 7 false = L'.getD 7 false := by rw [up_set, if_neg (by omega)]
      have g8 : (L'.setIfInBounds 0 true).getD 8 false = L'.getD 8 false := by rw [up_set, if_neg (by omega)]
      have g9 : (L'.setIfInBounds 0 true).getD 9 false = L'.getD 9 false := by rw [up_set, if_neg (by omega)]
      have hb : RowKit.Below w.heap.size w (w.alloc (.cells #[] 40)) := below_alloc1 _ _
      have hSn := below_next hSw hb
      refine par_run ⟨some 58, _, _, _, _, _⟩ (.slice (some ⟨w.heap.size, 0, none⟩) 0 0) (w.alloc (.cells #[] 40)) rfl (by rfl) (by go_simp) ?_
      exact ⟨hSn, (.slice (some ⟨w.heap.size, 0, none⟩) 0 0), (u61), (u63), (u64), (u65), (u15), by simp only [Act.put, List.setIfInBounds_toArray, List.set_cons_zero, List.set_cons_succ], hSn, fun _ _ => Laid.new w _ _ _ hSw.size, by rw [g3, g6]; exact fun e e2 => own_below (hP3 e e2) hb, by rw [g5, g6]; exact fun e e2 => (hP5 e e2).below hb, by rw [g6, g9]; exact fun e e2 => own_below (hP6 e e2) hb, by rw [g7]; exact hP7, by rw [g8, g9]; exact fun e e2 => (hP8 e e2).below hb, by rw [g9]; exact fun e => absurd (e.symm.trans gn9) (by decide)⟩
    · have g0 : (L'.setIfInBounds 3 true).getD 0 false = L'.getD 0 false := by rw [up_set, if_neg (by omega)]
      have g3 : (L'.setIfInBounds 3 true).getD 3 false = true := by rw [up_set, if_pos ⟨rfl, by omega⟩]
      have g5 : (L'.setIfInBounds 3 true).getD 5 false = L'.getD 5 false := by rw [up_set, if_neg (by omega)]
      have g6 : (L'.setIfInBounds 3 true).getD 6 false = L'.getD 6 false := by rw [up_set, if_neg (by omega)]
      have g7 : (L'.setIfInBounds 3 true).getD 7 false = L'.getD 7 false := by rw [up_set, if_neg (by omega)]
      have g8 : (L'.setIfInBounds 3 true).getD 8 false = L'.getD 8 false := by rw [up_set, if_neg (by omega)]
      have g9 : (L'.setIfInBounds 3 true).getD 9 false = L'.getD 9 false := by rw [up_set, if_neg (by omega)]
      have hD0 := hP0 gd0 gn3
      have own := hD0.own (k := 2)
      refine par_append seatT ⟨some 61, _, _, _, _, _⟩ rfl (by rfl) (.tmp 58) (.tmp 60) (by rfl) W.heap.size _ _ [] D (by rfl) (by rfl) own (HR.out.below hSw) (by simp only [List.length_nil]; omega) hSw.size ?_
      intro v' wn hA
      have hg := hA.grown
      have hSn := hSw.grown hg hSw.size (fun q hq => (own.lt q hq).1)
      exact ⟨hSn, (u58), (v'), (u63), (u64), (u65), (u15), by simp only [Act.put, List.setIfInBounds_toArray, List.set_cons_zero, List.set_cons_succ], hSn, by rw [g3]; exact fun _ e => absurd e (by decide), fun _ _ => (by have h := hA.own; rwa [List.nil_append] at h), by rw [g5, g6]; exact fun e e2 => (hP5 e e2).grown hg (hD0.apart (by simp)), by rw [g6, g9]; exact fun e e2 => absurd (e.symm.trans gn6) (by decide), by rw [g7]; exact fun e => absurd (e.symm.trans gn7) (by decide), by rw [g8, g9]; exact fun e e2 => (hP8 e e2).grown hg (hD0.apart (by simp)), by rw [g9]; exact fun e => absurd (e.symm.trans gn9) (by decide)⟩
    · have g0 : (L'.setIfInBounds 5 true).getD 0 false = L'.getD 0 false := by rw [up_set, if_neg (by omega)]
      have g3 : (L'.setIfInBounds 5 true).getD 3 false = L'.getD 3 false := by rw [up_set, if_neg (by omega)]
      have g5 : (L'.setIfInBounds 5 true).getD 5 false = true := by rw [up_set, if_pos ⟨rfl, by omega⟩]
      have g6 : (L'.setIfInBounds 5 true).getD 6 false = L'.getD 6 false := by rw [up_set, if_neg (by omega)]
      have g7 : (L'.setIfInBounds 5 true).getD 7 false = L'.getD 7 false := by rw [up_set, if_neg (by omega)]
      have g8 : (L'.setIfInBounds 5 true).getD 8 false = L'.getD 8 false := by rw [up_set, if_neg (by omega)]
      have g9 : (L'.setIfInBounds 5 true).getD 9 false = L'.getD 9 false := by rw [up_set, if_neg (by omega)]
      have hb : RowKit.Below w.heap.size w (w.alloc (.cells #[.int .i64 s.student, .string s.code] 40)) := below_alloc1 _ _
      have hSn := below_next hSw hb
      refine par_run ⟨some 63, _, _, _, _, _⟩ (.slice (some ⟨w.heap.size, 0, none⟩) 1 1) (w.alloc (.cells #[.int .i64 s.student, .string s.code] 40)) rfl (by rfl) (by go_simp) ?_
      exact ⟨hSn, (u58), (u61), (.slice (some ⟨w.heap.size, 0, none⟩) 1 1), (u64), (u65), (u15), by simp only [Act.put, List.setIfInBounds_toArray, List.set_cons_zero, List.set_cons_succ], hSn, by rw [g0, g3]; exact fun e e2 => (hP0 e e2).below hb, by rw [g3, g6]; exact fun e e2 => own_below (hP3 e e2) hb, fun _ _ => Laid.new w _ _ _ hSw.size, by rw [g6, g9]; exact fun e e2 => own_below (hP6 e e2) hb, by rw [g7]; exact hP7, by rw [g8, g9]; exact fun e e2 => (hP8 e e2).below hb, by rw [g9]; exact fun e => absurd (e.symm.trans gn9) (by decide)⟩
    · have g0 : (L'.setIfInBounds 6 true).getD 0 false = L'.getD 0 false := by rw [up_set, if_neg (by omega)]
      have g3 : (L'.setIfInBounds 6 true).getD 3 false = L'.getD 3 false := by rw [up_set, if_neg (by omega)]
      have g5 : (L'.setIfInBounds 6 true).getD 5 false = L'.getD 5 false := by rw [up_set, if_neg (by omega)]
      have g6 : (L'.setIfInBounds 6 true).getD 6 false = true := by rw [up_set, if_pos ⟨rfl, by omega⟩]
      have g7 : (L'.setIfInBounds 6 true).getD 7 false = L'.getD 7 false := by rw [up_set, if_neg (by omega)]
      have g8 : (L'.setIfInBounds 6 true).getD 8 false = L'.getD 8 false := by rw [up_set, if_neg (by omega)]
      have g9 : (L'.setIfInBounds 6 true).getD 9 false = L'.getD 9 false := by rw [up_set, if_neg (by omega)]
      have hD3 := hP3 gd3 gn6
      have hD5 := hP5 gd5 gn6
      refine par_append seatT ⟨some 64, _, _, _, _, _⟩ rfl (by rfl) (.tmp 61) (.tmp 63) (by rfl) W.heap.size _ _ D [s] (by rfl) (by rfl) hD3 (hD5.row [s] rfl rfl) (by simp only [List.length_singleton]; omega) hSw.size ?_
      intro v' wn hA
      have hg := hA.grown
      have hSn := hSw.grown hg hSw.size (fun q hq => (hD3.lt q hq).1)
      exact ⟨hSn, (u58), (u61), (u63), (v'), (u65), (u15), by simp only [Act.put, List.setIfInBounds_toArray, List.set_cons_zero, List.set_cons_succ], hSn, by rw [g0, g3]; exact fun e e2 => absurd (gd3.symm.trans e2) (by decide), by rw [g6]; exact fun _ e => absurd e (by decide), by rw [g6]; exact fun _ e => absurd e (by decide), fun _ _ => hA.own, by rw [g7]; exact fun e => absurd (e.symm.trans gn7) (by decide), by rw [g8, g9]; exact fun e e2 => (hP8 e e2).grown hg (own_apart hD3 (by decide)), by rw [g9]; exact fun e => absurd (e.symm.trans gn9) (by decide)⟩
    · have g0 : (L'.setIfInBounds 7 true).getD 0 false = L'.getD 0 false := by rw [up_set, if_neg (by omega)]
      have g3 : (L'.setIfInBounds 7 true).getD 3 false = L'.getD 3 false := by rw [up_set, if_neg (by omega)]
      have g5 : (L'.setIfInBounds 7 true).getD 5 false = L'.getD 5 false := by rw [up_set, if_neg (by omega)]
      have g6 : (L'.setIfInBounds 7 true).getD 6 false = L'.getD 6 false := by rw [up_set, if_neg (by omega)]
      have g7 : (L'.setIfInBounds 7 true).getD 7 false = true := by rw [up_set, if_pos ⟨rfl, by omega⟩]
      have g8 : (L'.setIfInBounds 7 true).getD 8 false = L'.getD 8 false := by rw [up_set, if_neg (by omega)]
      have g9 : (L'.setIfInBounds 7 true).getD 9 false = L'.getD 9 false := by rw [up_set, if_neg (by omega)]
      have hD6 := hP6 gd6 gn9
      obtain ⟨p6, c6, rfl⟩ := own_form hD6
      have hSn := hSw
      refine par_run ⟨some 65, _, _, _, _, _⟩ (.agg #[.slice p6 (D ++ [s]).length c6, .slice none 0 0]) w rfl (by rfl) (by go_simp) ?_
      exact ⟨hSn, (u58), (u61), (u63), (.slice p6 (D ++ [s]).length c6), (.agg #[.slice p6 (D ++ [s]).length c6, .slice none 0 0]), (u15), by simp only [Act.put, List.setIfInBounds_toArray, List.set_cons_zero, List.set_cons_succ], hSn, by rw [g0, g3]; exact hP0, by rw [g3, g6]; exact hP3, by rw [g5, g6]; exact hP5, by rw [g6, g9]; exact hP6, fun _ => ⟨p6, c6, rfl, rfl⟩, by rw [g8, g9]; exact hP8, by rw [g9]; exact fun e => absurd (e.symm.trans gn9) (by decide)⟩
    · have g0 : (L'.setIfInBounds 8 true).getD 0 false = L'.getD 0 false := by rw [up_set, if_neg (by omega)]
      have g3 : (L'.setIfInBounds 8 true).getD 3 false = L'.getD 3 false := by rw [up_set, if_neg (by omega)]
      have g5 : (L'.setIfInBounds 8 true).getD 5 false = L'.getD 5 false := by rw [up_set, if_neg (by omega)]
      have g6 : (L'.setIfInBounds 8 true).getD 6 false = L'.getD 6 false := by rw [up_set, if_neg (by omega)]
      have g7 : (L'.setIfInBounds 8 true).getD 7 false = L'.getD 7 false := by rw [up_set, if_neg (by omega)]
      have g8 : (L'.setIfInBounds 8 true).getD 8 false = true := by rw [up_set, if_pos ⟨rfl, by omega⟩]
      have g9 : (L'.setIfInBounds 8 true).getD 9 false = L'.getD 9 false := by rw [up_set, if_neg (by omega)]
      have hb : RowKit.Below w.heap.size w (w.alloc (.cells #[.slice none 0 0, .slice none 0 0] 37)) := below_alloc1 _ _
      have hSn := below_next hSw hb
      refine par_run ⟨some 15, _, _, _, _, _⟩ (.pointer (some ⟨w.heap.size, 0, none⟩)) (w.alloc (.cells #[.slice none 0 0, .slice none 0 0] 37)) rfl (by rfl) (by go_simp) ?_
      exact ⟨hSn, (u58), (u61), (u63), (u64), (u65), (.pointer (some ⟨w.heap.size, 0, none⟩)), by simp only [Act.put, List.setIfInBounds_toArray, List.set_cons_zero, List.set_cons_succ], hSn, by rw [g0, g3]; exact fun e e2 => (hP0 e e2).below hb, by rw [g3, g6]; exact fun e e2 => own_below (hP3 e e2) hb, by rw [g5, g6]; exact fun e e2 => (hP5 e e2).below hb, by rw [g6, g9]; exact fun e e2 => own_below (hP6 e e2) hb, by rw [g7]; exact hP7, fun _ _ => Laid.new w _ _ _ hSw.size, by rw [g9]; exact fun e => absurd (e.symm.trans gn9) (by decide)⟩
    · have g0 : (L'.setIfInBounds 9 true).getD 0 false = L'.getD 0 false := by rw [up_set, if_neg (by omega)]
      have g3 : (L'.setIfInBounds 9 true).getD 3 false = L'.getD 3 false := by rw [up_set, if_neg (by omega)]
      have g5 : (L'.setIfInBounds 9 true).getD 5 false = L'.getD 5 false := by rw [up_set, if_neg (by omega)]
      have g6 : (L'.setIfInBounds 9 true).getD 6 false = L'.getD 6 false := by rw [up_set, if_neg (by omega)]
      have g7 : (L'.setIfInBounds 9 true).getD 7 false = L'.getD 7 false := by rw [up_set, if_neg (by omega)]
      have g8 : (L'.setIfInBounds 9 true).getD 8 false = L'.getD 8 false := by rw [up_set, if_neg (by omega)]
      have g9 : (L'.setIfInBounds 9 true).getD 9 false = true := by rw [up_set, if_pos ⟨rfl, by omega⟩]
      have hD6 := hP6 gd6 gn9
      have hD7 := hP7 gd7
      obtain ⟨p7, c7, rfl, rfl⟩ := hD7
      have hD8 := hP8 gd8 gn9
      obtain ⟨b8, rfl, hB8, hb8⟩ := hD8
      have hg := setRow_grown hb8 #[.slice p7 (D ++ [s]).length c7, .slice none 0 0]
      have hSn : RowKit.Below W.heap.size W (w.setRow b8 #[.slice p7 (D ++ [s]).length c7, .slice none 0 0]) := hSw.grown hg hSw.size (fun q hq => by obtain rfl := Option.some.inj hq; exact hB8)
      refine par_store_row ⟨none, _, _, _, _, _⟩ rfl (by rfl) 37 (.tmp 15) (.tmp 65) (by rfl) b8 #[.slice p7 (D ++ [s]).length c7, .slice none 0 0] (by rfl) (by rfl) _ _ hb8 (by kernel_rfl) rfl (by simp [Value.oneCell']) ?_
      exact ⟨hSn, (u58), (u61), (u63), (.slice p7 (D ++ [s]).length c7), (.agg #[.slice p7 (D ++ [s]).length c7, .slice none 0 0]), (.pointer (some ⟨b8, 0, none⟩)), by simp only [Act.put], hSn, by rw [g0, g3]; exact fun e e2 => absurd (gd3.symm.trans e2) (by decide), by rw [g3, g6]; exact fun e e2 => absurd (gd6.symm.trans e2) (by decide), by rw [g5, g6]; exact fun e e2 => absurd (gd6.symm.trans e2) (by decide), by rw [g9]; exact fun _ e => absurd e (by decide), by rw [g7]; exact hP7, by rw [g9]; exact fun _ e => absurd e (by decide), fun _ => ⟨b8, p7, c7, rfl, hB8, setRow_heap w b8 _ _ _ _ hb8, hD6.kept hg (own_apart' hD6 (by decide) hb8)⟩⟩
  · intro L' a w hp hI
    obtain ⟨u58, u61, u63, u64, u65, u15, rfl, hSw, hP0, hP3, hP5, hP6, hP7, hP8, hP9⟩ := hI
    (try simp only [Bool.and_eq_true] at hp)
    have p9 := hp
    obtain ⟨b, p, c, rfl, hlo, hbx, hown⟩ := hP9 p9
    exact HQ.out _ _ _ _ _ b p c w hSw hlo hbx hown
  · refine par_take ⟨some 59, _, _, _, _, _⟩ ?_ rfl (by rfl) ?_ ?_
    rotate_left 1
    · intro w hSw; (try dsimp only at hSw); go_simp; (try with_reducible rfl)
    simp only [Act.put, List.setIfInBounds_toArray, List.set_cons_zero, List.set_cons_succ]
    refine par_take ⟨some 60, _, _, _, _, _⟩ ?_ rfl (by rfl) ?_ ?_
    rotate_left 1
    · intro w hSw; (try dsimp only at hSw); have hcd : w.cell? ⟨db, 0, none⟩ = some (.slice pd D.length cd) := (hSw.cell (p := ⟨db, 0, none⟩) hdl).trans hdc; go_simp; (try with_reducible rfl)
    simp only [Act.put, List.setIfInBounds_toArray, List.set_cons_zero, List.set_cons_succ]
    refine par_take_row ⟨some 62, _, _, _, _, _⟩ rfl (by rfl) 40 (.tmp 14) (by rfl) sb 0 (by rfl) [.int .i64 s.student, .string s.code] _ (fun w hSw => or_at hs hSw) Try.underlying40 rfl (by kernel_rfl) ?_
    simp only [Act.put, List.setIfInBounds_toArray, List.set_cons_zero, List.set_cons_succ]
    exact ⟨_, _, _, _, _, _, rfl, hS0, (fun e => absurd e (by decide +kernel)), (fun e => absurd e (by decide +kernel)), (fun e => absurd e (by decide +kernel)), (fun e => absurd e (by decide +kernel)), (fun e => absurd e (by decide +kernel)), (fun e => absurd e (by decide +kernel)), (fun e => absurd e (by decide +kernel))⟩

set_option maxHeartbeats 16000000 in
set_option maxRecDepth 100000 in
theorem fst_r19 {s0 s1 s2 s3 s4 s5 s9 s11 s12 s13 s14 s15 s17 s18 s19 s20 s21 s22 s23 s24 s25 s26 s27 s28 s29 s30 s31 s32 s33 s34 s35 s36 s37 s38 s39 s40 s41 s42 s43 s44 s45 s46 s47 s48 s49 s50 s51 s52 s53 s54 s55 s56 s57 s58 s59 s60 s61 s62 s63 s64 s65 s66 s67 s68 s69 s70 s71 s72 s73 s74 s75 s76 s77 s78 s79 s80 s81 s82 s83 s84 s85 s86 s87 s88 s89 s90 s91 s92 s93 s94 s95 s96 s97 s98 s99 s100 s101 s102 s103 s104 s105 s106 s107 s108 s109 s110 s111 s112 s113 s114 s115 s116 s117 s118 s119 s120 s121 s122 s123 s124 s125 s126 s127 s128 s129 s130 s131 s132 s133 s134 s135 s136 s137 s138 s139 s140 s141 s142 s143 s144 s145 s146 s147 s148 s149 s150 s151 s152 s153 s154 s155 s156 s157 s158 s159 s160 s161 s162 : Value} (lb : Nat) (ov mv lv : Value) (most : Int) (L : List Off) (M : List Seat) (A O : List Req) (r : Req) (W : World) (Q : Exit → Act → World → Prop) (hc : CatIn W ov mv L M) (hl : RowIn encR W lv A) (lA : A.length ≤ 1000) (hbx : ReqBox W lb r) (hag : Again O (A ++ [r])) (lO : O.length ≤ 1000)
    (hQ : ∀ (u86 u88 u90 u91 u92 : Value) (b : Nat) (p : Option Addr) (c : Nat) (q : Option Addr) (e : Nat) (wx : World), RowKit.Below W.heap.size W wx → W.heap.size ≤ b → wx.heap[b]? = some (.cells #[.slice p (dealP L M most O).seats.length c, .slice q (dealP L M most O).waits.length e] 37 (0, 0)) → DealIn wx (.agg #[.slice p (dealP L M most O).seats.length c, .slice q (dealP L M most O).waits.length e]) (dealP L M most O) → Q .normal ⟨List.toArray (s0 :: s1 :: s2 :: s3 :: s4 :: s5 :: ov :: mv :: .int .i64 most :: s9 :: lv :: s11 :: s12 :: s13 :: s14 :: s15 :: .pointer (some ⟨lb, 0, none⟩) :: .pointer (some ⟨b, 0, none⟩) :: s18 :: s19 :: s20 :: s21 :: s22 :: s23 :: s24 :: s25 :: s26 :: s27 :: s28 :: s29 :: s30 :: s31 :: s32 :: s33 :: s34 :: s35 :: s36 :: s37 :: s38 :: s39 :: s40 :: s41 :: s42 :: s43 :: s44 :: s45 :: s46 :: s47 :: s48 :: s49 :: s50 :: s51 :: s52 :: s53 :: s54 :: s55 :: s56 :: s57 :: s58 :: s59 :: s60 :: s61 :: s62 :: s63 :: s64 :: s65 :: s66 :: s67 :: s68 :: s69 :: s70 :: s71 :: s72 :: s73 :: s74 :: s75 :: s76 :: s77 :: s78 :: s79 :: s80 :: s81 :: s82 :: ov :: mv :: .int .i64 most :: u86 :: lv :: u88 :: .agg #[.int .i64 r.server, .int .i64 r.seq, .bool r.cancel, .int .i64 r.student, .int .i64 r.term, .string r.code, .string r.give, .int .i64 r.priority, .int .i64 r.day] :: u90 :: u91 :: u92 :: s93 :: s94 :: s95 :: s96 :: s97 :: s98 :: s99 :: s100 :: s101 :: s102 :: s103 :: s104 :: s105 :: s106 :: s107 :: s108 :: s109 :: s110 :: s111 :: s112 :: s113 :: s114 :: s115 :: s116 :: s117 :: s118 :: s119 :: s120 :: s121 :: s122 :: s123 :: s124 :: s125 :: s126 :: s127 :: s128 :: s129 :: s130 :: s131 :: s132 :: s133 :: s134 :: s135 :: s136 :: s137 :: s138 :: s139 :: s140 :: s141 :: s142 :: s143 :: s144 :: s145 :: s146 :: s147 :: s148 :: s149 :: s150 :: s151 :: s152 :: s153 :: s154 :: s155 :: s156 :: s157 :: s158 :: s159 :: s160 :: s161 :: s162 :: []), []⟩ wx) :
    (regionOf Try.f3 19).wp Try.prog Q ⟨List.toArray (s0 :: s1 :: s2 :: s3 :: s4 :: s5 :: ov :: mv :: .int .i64 most :: s9 :: lv :: s11 :: s12 :: s13 :: s14 :: s15 :: .pointer (some ⟨lb, 0, none⟩) :: s17 :: s18 :: s19 :: s20 :: s21 :: s22 :: s23 :: s24 :: s25 :: s26 :: s27 :: s28 :: s29 :: s30 :: s31 :: s32 :: s33 :: s34 :: s35 :: s36 :: s37 :: s38 :: s39 :: s40 :: s41 :: s42 :: s43 :: s44 :: s45 :: s46 :: s47 :: s48 :: s49 :: s50 :: s51 :: s52 :: s53 :: s54 :: s55 :: s56 :: s57 :: s58 :: s59 :: s60 :: s61 :: s62 :: s63 :: s64 :: s65 :: s66 :: s67 :: s68 :: s69 :: s70 :: s71 :: s72 :: s73 :: s74 :: s75 :: s76 :: s77 :: s78 :: s79 :: s80 :: s81 :: s82 :: s83 :: s84 :: s85 :: s86 :: s87 :: s88 :: s89 :: s90 :: s91 :: s92 :: s93 :: s94 :: s95 :: s96 :: s97 :: s98 :: s99 :: s100 :: s101 :: s102 :: s103 :: s104 :: s105 :: s106 :: s107 :: s108 :: s109 :: s110 :: s111 :: s112 :: s113 :: s114 :: s115 :: s116 :: s117 :: s118 :: s119 :: s120 :: s121 :: s122 :: s123 :: s124 :: s125 :: s126 :: s127 :: s128 :: s129 :: s130 :: s131 :: s132 :: s133 :: s134 :: s135 :: s136 :: s137 :: s138 :: s139 :: s140 :: s141 :: s142 :: s143 :: s144 :: s145 :: s146 :: s147 :: s148 :: s149 :: s150 :: s151 :: s152 :: s153 :: s154 :: s155 :: s156 :: s157 :: s158 :: s159 :: s160 :: s161 :: s162 :: []), []⟩ W := by
  refine of_onlyN (K := Q .normal) ?_ (fun _ _ h => h)
  generalize Q .normal = K at hQ ⊢
  have HQ := Lib.hid hQ; clear hQ
  conv => arg 2; whnf
  have hS0 : RowKit.Below W.heap.size W W.drew := (Below.refl _ _).drew
  have HC := Lib.hid hc
  have HL := Lib.hid hl
  have HA := Lib.hid hag
  clear hc hl hag
  refine wp_region_par (S := fun w => RowKit.Below W.heap.size W w) (I := fun L' a w => ∃ u86 u88 u90 u91 u92 u17 : Value, a = ⟨List.toArray (s0 :: s1 :: s2 :: s3 :: s4 :: s5 :: ov :: mv :: .int .i64 most :: s9 :: lv :: s11 :: s12 :: s13 :: s14 :: s15 :: .pointer (some ⟨lb, 0, none⟩) :: u17 :: s18 :: s19 :: s20 :: s21 :: s22 :: s23 :: s24 :: s25 :: s26 :: s27 :: s28 :: s29 :: s30 :: s31 :: s32 :: s33 :: s34 :: s35 :: s36 :: s37 :: s38 :: s39 :: s40 :: s41 :: s42 :: s43 :: s44 :: s45 :: s46 :: s47 :: s48 :: s49 :: s50 :: s51 :: s52 :: s53 :: s54 :: s55 :: s56 :: s57 :: s58 :: s59 :: s60 :: s61 :: s62 :: s63 :: s64 :: s65 :: s66 :: s67 :: s68 :: s69 :: s70 :: s71 :: s72 :: s73 :: s74 :: s75 :: s76 :: s77 :: s78 :: s79 :: s80 :: s81 :: s82 :: ov :: mv :: .int .i64 most :: u86 :: lv :: u88 :: .agg #[.int .i64 r.server, .int .i64 r.seq, .bool r.cancel, .int .i64 r.student, .int .i64 r.term, .string r.code, .string r.give, .int .i64 r.priority, .int .i64 r.day] :: u90 :: u91 :: u92 :: s93 :: s94 :: s95 :: s96 :: s97 :: s98 :: s99 :: s100 :: s101 :: s102 :: s103 :: s104 :: s105 :: s106 :: s107 :: s108 :: s109 :: s110 :: s111 :: s112 :: s113 :: s114 :: s115 :: s116 :: s117 :: s118 :: s119 :: s120 :: s121 :: s122 :: s123 :: s124 :: s125 :: s126 :: s127 :: s128 :: s129 :: s130 :: s131 :: s132 :: s133 :: s134 :: s135 :: s136 :: s137 :: s138 :: s139 :: s140 :: s141 :: s142 :: s143 :: s144 :: s145 :: s146 :: s147 :: s148 :: s149 :: s150 :: s151 :: s152 :: s153 :: s154 :: s155 :: s156 :: s157 :: s158 :: s159 :: s160 :: s161 :: s162 :: []), []⟩ ∧ (RowKit.Below W.heap.size W w) ∧ (L'.getD 3 false = true → L'.getD 5 false = false → Laid W.heap.size w (fun b => .slice (some ⟨b, 0, none⟩) 0 0) (.cells #[] 35 (0, 0)) u86) ∧ (L'.getD 5 false = true → L'.getD 8 false = false → w.ownsRow W.heap.size 35 9 u88 A.length (flatE encR A)) ∧ (L'.getD 7 false = true → L'.getD 8 false = false → Laid W.heap.size w (fun b => .slice (some ⟨b, 0, none⟩) 1 1) (.cells #[.int .i64 r.server, .int .i64 r.seq, .bool r.cancel, .int .i64 r.student, .int .i64 r.term, .string r.code, .string r.give, .int .i64 r.priority, .int .i64 r.day] 35 (0, 0)) u90) ∧ (L'.getD 8 false = true → L'.getD 9 false = false → w.ownsRow W.heap.size 35 9 u91 (A ++ [r]).length (flatE encR (A ++ [r]))) ∧ (L'.getD 9 false = true → L'.getD 11 false = false → ∃ p c q e, u92 = .agg #[.slice p (dealP L M most O).seats.length c, .slice q (dealP L M most O).waits.length e] ∧ DealIn w (.agg #[.slice p (dealP L M most O).seats.length c, .slice q (dealP L M most O).waits.length e]) (dealP L M most O)) ∧ (L'.getD 10 false = true → L'.getD 11 false = false → Laid W.heap.size w (fun b => .pointer (some ⟨b, 0, none⟩)) (.cells #[.slice none 0 0, .slice none 0 0] 37 (0, 0)) u17) ∧ (L'.getD 11 false = true → ∃ b p c q e, u17 = .pointer (some ⟨b, 0, none⟩) ∧ W.heap.size ≤ b ∧ w.heap[b]? = some (.cells #[.slice p (dealP L M most O).seats.length c, .slice q (dealP L M most O).waits.length e] 37 (0, 0)) ∧ DealIn w (.agg #[.slice p (dealP L M most O).seats.length c, .slice q (dealP L M most O).waits.length e]) (dealP L M most O))) (pre := fun i L' => L'.size == 12 && ((i == 3 && !L'.getD 11 false) || (i == 5 && L'.getD 3 false && !L'.getD 5 false && !L'.getD 8 false && !L'.getD 9 false && !L'.getD 11 false) || (i == 7 && !L'.getD 11 false) || (i == 8 && L'.getD 5 false && L'.getD 7 false && !L'.getD 8 false && !L'.getD 9 false && !L'.getD 11 false) || (i == 9 && L'.getD 8 false && !L'.getD 9 false && !L'.getD 11 false) || (i == 10 && !L'.getD 11 false) || (i == 11 && L'.getD 9 false && L'.getD 10 false && L'.getD 5 false && L'.getD 8 false && !L'.getD 11 false))) (fin := fun L' => L'.getD 11 false) [0, 1, 2, 4, 6] 7 (by kernel_rfl) (by kernel_rfl) (by kernel_rfl) (by kernel_rfl) (by decide) hS0 ?_ ?_ ?_
  · intro i L' a w hp hI
    obtain ⟨u86, u88, u90, u91, u92, u17, rfl, hSw, hP3, hP5, hP7, hP8, hP9, hP10, hP11⟩ := hI
    simp only [Bool.and_eq_true, Bool.or_eq_true, beq_iff_eq, Bool.not_eq_true'] at hp
    obtain ⟨hsz, hp⟩ := hp
    rcases hp with ((((((⟨rfl, gn11⟩ | ⟨⟨⟨⟨⟨rfl, gd3⟩, gn5⟩, gn8⟩, gn9⟩, gn11⟩) | ⟨rfl, gn11⟩) | ⟨⟨⟨⟨⟨rfl, gd5⟩, gd7⟩, gn8⟩, gn9⟩, gn11⟩) | ⟨⟨⟨rfl, gd8⟩, gn9⟩, gn11⟩) | ⟨rfl, gn11⟩) | ⟨⟨⟨⟨⟨rfl, gd9⟩, gd10⟩, gd5⟩, gd8⟩, gn11⟩)
    · have g3 : (L'.setIfInBounds 3 true).getD 3 false = true := by rw [up_set, if_pos ⟨rfl, by omega⟩]
      have g5 : (L'.setIfInBounds 3 true).getD 5 false = L'.getD 5 false := by rw [up_set, if_neg (by omega)]
      have g7 : (L'.setIfInBounds 3 true).getD 7 false = L'.getD 7 false := by rw [up_set, if_neg (by omega)]
      have g8 : (L'.setIfInBounds 3 true).getD 8 false = L'.getD 8 false := by rw [up_set, if_neg (by omega)]
      have g9 : (L'.setIfInBounds 3 true).getD 9 false = L'.getD 9 false := by rw [up_set, if_neg (by omega)]
      have g10 : (L'.setIfInBounds 3 true).getD 10 false = L'.getD 10 false := by rw [up_set, if_neg (by omega)]
      have g11 : (L'.setIfInBounds 3 true).getD 11 false = L'.getD 11 false := by rw [up_set, if_neg (by omega)]
      have hb : RowKit.Below w.heap.size w (w.alloc (.cells #[] 35)) := below_alloc1 _ _
      have hSn := below_next hSw hb
      refine par_run ⟨some 86, _, _, _, _, _⟩ (.slice (some ⟨w.heap.size, 0, none⟩) 0 0) (w.alloc (.cells #[] 35)) rfl (by rfl) (by go_simp) ?_
      exact ⟨hSn, (.slice (some ⟨w.heap.size, 0, none⟩) 0 0), (u88), (u90), (u91), (u92), (u17), by simp only [Act.put, List.setIfInBounds_toArray, List.set_cons_zero, List.set_cons_succ], hSn, fun _ _ => Laid.new w _ _ _ hSw.size, by rw [g5, g8]; exact fun e e2 => own_below (hP5 e e2) hb, by rw [g7, g8]; exact fun e e2 => (hP7 e e2).below hb, by rw [g8, g9]; exact fun e e2 => own_below (hP8 e e2) hb, by rw [g9, g11]; exact fun e e2 => (by obtain ⟨p, c, q, e, h1, h2⟩ := (hP9 e e2); exact ⟨p, c, q, e, h1, h2.below hb⟩), by rw [g10, g11]; exact fun e e2 => (hP10 e e2).below hb, by rw [g11]; exact fun e => absurd (e.symm.trans gn11) (by decide)⟩
    · have g3 : (L'.setIfInBounds 5 true).getD 3 false = L'.getD 3 false := by rw [up_set, if_neg (by omega)]
      have g5 : (L'.setIfInBounds 5 true).getD 5 false = true := by rw [up_set, if_pos ⟨rfl, by omega⟩]
      have g7 : (L'.setIfInBounds 5 true).getD 7 false = L'.getD 7 false := by rw [up_set, if_neg (by omega)]
      have g8 : (L'.setIfInBounds 5 true).getD 8 false = L'.getD 8 false := by rw [up_set, if_neg (by omega)]
      have g9 : (L'.setIfInBounds 5 true).getD 9 false = L'.getD 9 false := by rw [up_set, if_neg (by omega)]
      have g10 : (L'.setIfInBounds 5 true).getD 10 false = L'.getD 10 false := by rw [up_set, if_neg (by omega)]
      have g11 : (L'.setIfInBounds 5 true).getD 11 false = L'.getD 11 false := by rw [up_set, if_neg (by omega)]
      have hD3 := hP3 gd3 gn5
      have own := hD3.own (k := 9)
      refine par_append reqT ⟨some 88, _, _, _, _, _⟩ rfl (by rfl) (.tmp 86) (.tmp 87) (by rfl) W.heap.size _ _ [] A (by rfl) (by rfl) own (HL.out.below hSw) (by simp only [List.length_nil]; omega) hSw.size ?_
      intro v' wn hA
      have hg := hA.grown
      have hSn := hSw.grown hg hSw.size (fun q hq => (own.lt q hq).1)
      exact ⟨hSn, (u86), (v'), (u90), (u91), (u92), (u17), by simp only [Act.put, List.setIfInBounds_toArray, List.set_cons_zero, List.set_cons_succ], hSn, by rw [g5]; exact fun _ e => absurd e (by decide), fun _ _ => (by have h := hA.own; rwa [List.nil_append] at h), by rw [g7, g8]; exact fun e e2 => (hP7 e e2).grown hg (hD3.apart (by simp)), by rw [g8, g9]; exact fun e e2 => absurd (e.symm.trans gn8) (by decide), by rw [g9, g11]; exact fun e e2 => absurd (e.symm.trans gn9) (by decide), by rw [g10, g11]; exact fun e e2 => (hP10 e e2).grown hg (hD3.apart (by simp)), by rw [g11]; exact fun e => absurd (e.symm.trans gn11) (by decide)⟩
    · have g3 : (L'.setIfInBounds 7 true).getD 3 false = L'.getD 3 false := by rw [up_set, if_neg (by omega)]
      have g5 : (L'.setIfInBounds 7 true).getD 5 false = L'.getD 5 false := by rw [up_set, if_neg (by omega)]
      have g7 : (L'.setIfInBounds 7 true).getD 7 false = true := by rw [up_set, if_pos ⟨rfl, by omega⟩]
      have g8 : (L'.setIfInBounds 7 true).getD 8 false = L'.getD 8 false := by rw [up_set, if_neg (by omega)]
      have g9 : (L'.setIfInBounds 7 true).getD 9 false = L'.getD 9 false := by rw [up_set, if_neg (by omega)]
      have g10 : (L'.setIfInBounds 7 true).getD 10 false = L'.getD 10 false := by rw [up_set, if_neg (by omega)]
      have g11 : (L'.setIfInBounds 7 true).getD 11 false = L'.getD 11 false := by rw [up_set, if_neg (by omega)]
      have hb : RowKit.Below w.heap.size w (w.alloc (.cells #[.int .i64 r.server, .int .i64 r.seq, .bool r.cancel, .int .i64 r.student, .int .i64 r.term, .string r.code, .string r.give, .int .i64 r.priority, .int .i64 r.day] 35)) := below_alloc1 _ _
      have hSn := below_next hSw hb
      refine par_run ⟨some 90, _, _, _, _, _⟩ (.slice (some ⟨w.heap.size, 0, none⟩) 1 1) (w.alloc (.cells #[.int .i64 r.server, .int .i64 r.seq, .bool r.cancel, .int .i64 r.student, .int .i64 r.term, .string r.code, .string r.give, .int .i64 r.priority, .int .i64 r.day] 35)) rfl (by rfl) (by go_simp) ?_
      exact ⟨hSn, (u86), (u88), (.slice (some ⟨w.heap.size, 0, none⟩) 1 1), (u91), (u92), (u17), by simp only [Act.put, List.setIfInBounds_toArray, List.set_cons_zero, List.set_cons_succ], hSn, by rw [g3, g5]; exact fun e e2 => (hP3 e e2).below hb, by rw [g5, g8]; exact fun e e2 => own_below (hP5 e e2) hb, fun _ _ => Laid.new w _ _ _ hSw.size, by rw [g8, g9]; exact fun e e2 => own_below (hP8 e e2) hb, by rw [g9, g11]; exact fun e e2 => (by obtain ⟨p, c, q, e, h1, h2⟩ := (hP9 e e2); exact ⟨p, c, q, e, h1, h2.below hb⟩), by rw [g10, g11]; exact fun e e2 => (hP10 e e2).below hb, by rw [g11]; exact fun e => absurd (e.symm.trans gn11) (by decide)⟩
    · have g3 : (L'.setIfInBounds 8 true).getD 3 false = L'.getD 3 false := by rw [up_set, if_neg (by omega)]
      have g5 : (L'.setIfInBounds 8 true).getD 5 false = L'.getD 5 false := by rw [up_set, if_neg (by omega)]
      have g7 : (L'.setIfInBounds 8 true).getD 7 false = L'.getD 7 false := by rw [up_set, if_neg (by omega)]
      have g8 : (L'.setIfInBounds 8 true).getD 8 false = true := by rw [up_set, if_pos ⟨rfl, by omega⟩]
      have g9 : (L'.setIfInBounds 8 true).getD 9 false = L'.getD 9 false := by rw [up_set, if_neg (by omega)]
      have g10 : (L'.setIfInBounds 8 true).getD 10 false = L'.getD 10 false := by rw [up_set, if_neg (by omega)]
      have g11 : (L'.setIfInBounds 8 true).getD 11 false = L'.getD 11 false := by rw [up_set, if_neg (by omega)]
      have hD5 := hP5 gd5 gn8
      have hD7 := hP7 gd7 gn8
      refine par_append reqT ⟨some 91, _, _, _, _, _⟩ rfl (by rfl) (.tmp 88) (.tmp 90) (by rfl) W.heap.size _ _ A [r] (by rfl) (by rfl) hD5 (hD7.row [r] rfl rfl) (by simp only [List.length_singleton]; omega) hSw.size ?_
      intro v' wn hA
      have hg := hA.grown
      have hSn := hSw.grown hg hSw.size (fun q hq => (hD5.lt q hq).1)
      exact ⟨hSn, (u86), (u88), (u90), (v'), (u92), (u17), by simp only [Act.put, List.setIfInBounds_toArray, List.set_cons_zero, List.set_cons_succ], hSn, by rw [g3, g5]; exact fun e e2 => absurd (gd5.symm.trans e2) (by decide), by rw [g8]; exact fun _ e => absurd e (by decide), by rw [g8]; exact fun _ e => absurd e (by decide), fun _ _ => hA.own, by rw [g9, g11]; exact fun e e2 => absurd (e.symm.trans gn9) (by decide), by rw [g10, g11]; exact fun e e2 => (hP10 e e2).grown hg (own_apart hD5 (by decide)), by rw [g11]; exact fun e => absurd (e.symm.trans gn11) (by decide)⟩
    · have g3 : (L'.setIfInBounds 9 true).getD 3 false = L'.getD 3 false := by rw [up_set, if_neg (by omega)]
      have g5 : (L'.setIfInBounds 9 true).getD 5 false = L'.getD 5 false := by rw [up_set, if_neg (by omega)]
      have g7 : (L'.setIfInBounds 9 true).getD 7 false = L'.getD 7 false := by rw [up_set, if_neg (by omega)]
      have g8 : (L'.setIfInBounds 9 true).getD 8 false = L'.getD 8 false := by rw [up_set, if_neg (by omega)]
      have g9 : (L'.setIfInBounds 9 true).getD 9 false = true := by rw [up_set, if_pos ⟨rfl, by omega⟩]
      have g10 : (L'.setIfInBounds 9 true).getD 10 false = L'.getD 10 false := by rw [up_set, if_neg (by omega)]
      have g11 : (L'.setIfInBounds 9 true).getD 11 false = L'.getD 11 false := by rw [up_set, if_neg (by omega)]
      have hD8 := hP8 gd8 gn9
      refine par_call ⟨some 92, _, _, _, _, _⟩ rfl (by rfl) 9 _ _ (by rfl) _ (by rfl) Try.call9 (deal_again hSw HC.out lO HA.out (reqsIn_own hD8)) ?_
      rintro e wn ⟨sv1, wv1, rfl, hd1, hb⟩
      have hSn := below_next hSw hb
      obtain ⟨p, c, q, e, he, h2, h3⟩ := hd1.val
      have hdn : DealIn wn (.agg #[.slice p (dealP L M most O).seats.length c, .slice q (dealP L M most O).waits.length e]) (dealP L M most O) := ⟨⟨p, c, q, e, rfl, h2, h3⟩, hd1.ls, hd1.lw⟩
      exact ⟨_, rfl, hSn, (u86), (u88), (u90), (u91), (.agg #[sv1, wv1]), (u17), by simp only [Act.put, List.setIfInBounds_toArray, List.set_cons_zero, List.set_cons_succ], hSn, by rw [g3, g5]; exact fun e e2 => (hP3 e e2).below hb, by rw [g5, g8]; exact fun e e2 => absurd (gd8.symm.trans e2) (by decide), by rw [g7, g8]; exact fun e e2 => absurd (gd8.symm.trans e2) (by decide), by rw [g9]; exact fun _ e => absurd e (by decide), fun _ _ => ⟨p, c, q, e, he, hdn⟩, by rw [g10, g11]; exact fun e e2 => (hP10 e e2).below hb, by rw [g11]; exact fun e => absurd (e.symm.trans gn11) (by decide)⟩
    · have g3 : (L'.setIfInBounds 10 true).getD 3 false = L'.getD 3 false := by rw [up_set, if_neg (by omega)]
      have g5 : (L'.setIfInBounds 10 true).getD 5 false = L'.getD 5 false := by rw [up_set, if_neg (by omega)]
      have g7 : (L'.setIfInBounds 10 true).getD 7 false = L'.getD 7 false := by rw [up_set, if_neg (by omega)]
      have g8 : (L'.setIfInBounds 10 true).getD 8 false = L'.getD 8 false := by rw [up_set, if_neg (by omega)]
      have g9 : (L'.setIfInBounds 10 true).getD 9 false = L'.getD 9 false := by rw [up_set, if_neg (by omega)]
      have g10 : (L'.setIfInBounds 10 true).getD 10 false = true := by rw [up_set, if_pos ⟨rfl, by omega⟩]
      have g11 : (L'.setIfInBounds 10 true).getD 11 false = L'.getD 11 false := by rw [up_set, if_neg (by omega)]
      have hb : RowKit.Below w.heap.size w (w.alloc (.cells #[.slice none 0 0, .slice none 0 0] 37)) := below_alloc1 _ _
      have hSn := below_next hSw hb
      refine par_run ⟨some 17, _, _, _, _, _⟩ (.pointer (some ⟨w.heap.size, 0, none⟩)) (w.alloc (.cells #[.slice none 0 0, .slice none 0 0] 37)) rfl (by rfl) (by go_simp) ?_
      exact ⟨hSn, (u86), (u88), (u90), (u91), (u92), (.pointer (some ⟨w.heap.size, 0, none⟩)), by simp only [Act.put, List.setIfInBounds_toArray, List.set_cons_zero, List.set_cons_succ], hSn, by rw [g3, g5]; exact fun e e2 => (hP3 e e2).below hb, by rw [g5, g8]; exact fun e e2 => own_below (hP5 e e2) hb, by rw [g7, g8]; exact fun e e2 => (hP7 e e2).below hb, by rw [g8, g9]; exact fun e e2 => own_below (hP8 e e2) hb, by rw [g9, g11]; exact fun e e2 => (by obtain ⟨p, c, q, e, h1, h2⟩ := (hP9 e e2); exact ⟨p, c, q, e, h1, h2.below hb⟩), fun _ _ => Laid.new w _ _ _ hSw.size, by rw [g11]; exact fun e => absurd (e.symm.trans gn11) (by decide)⟩
    · have g3 : (L'.setIfInBounds 11 true).getD 3 false = L'.getD 3 false := by rw [up_set, if_neg (by omega)]
      have g5 : (L'.setIfInBounds 11 true).getD 5 false = L'.getD 5 false := by rw [up_set, if_neg (by omega)]
      have g7 : (L'.setIfInBounds 11 true).getD 7 false = L'.getD 7 false := by rw [up_set, if_neg (by omega)]
      have g8 : (L'.setIfInBounds 11 true).getD 8 false = L'.getD 8 false := by rw [up_set, if_neg (by omega)]
      have g9 : (L'.setIfInBounds 11 true).getD 9 false = L'.getD 9 false := by rw [up_set, if_neg (by omega)]
      have g10 : (L'.setIfInBounds 11 true).getD 10 false = L'.getD 10 false := by rw [up_set, if_neg (by omega)]
      have g11 : (L'.setIfInBounds 11 true).getD 11 false = true := by rw [up_set, if_pos ⟨rfl, by omega⟩]
      have hD9 := hP9 gd9 gn11
      obtain ⟨p9, c9, q9, e9, rfl, hd9⟩ := hD9
      have hD10 := hP10 gd10 gn11
      obtain ⟨b10, rfl, hB10, hb10⟩ := hD10
      have hg := setRow_grown hb10 #[.slice p9 (dealP L M most O).seats.length c9, .slice q9 (dealP L M most O).waits.length e9]
      have hSn : RowKit.Below W.heap.size W (w.setRow b10 #[.slice p9 (dealP L M most O).seats.length c9, .slice q9 (dealP L M most O).waits.length e9]) := hSw.grown hg hSw.size (fun q hq => by obtain rfl := Option.some.inj hq; exact hB10)
      refine par_store_row ⟨none, _, _, _, _, _⟩ rfl (by rfl) 37 (.tmp 17) (.tmp 92) (by rfl) b10 #[.slice p9 (dealP L M most O).seats.length c9, .slice q9 (dealP L M most O).waits.length e9] (by rfl) (by rfl) _ _ hb10 (by kernel_rfl) rfl (by simp [Value.oneCell']) ?_
      exact ⟨hSn, (u86), (u88), (u90), (u91), (.agg #[.slice p9 (dealP L M most O).seats.length c9, .slice q9 (dealP L M most O).waits.length e9]), (.pointer (some ⟨b10, 0, none⟩)), by simp only [Act.put], hSn, by rw [g3, g5]; exact fun e e2 => absurd (gd5.symm.trans e2) (by decide), by rw [g5, g8]; exact fun e e2 => absurd (gd8.symm.trans e2) (by decide), by rw [g7, g8]; exact fun e e2 => absurd (gd8.symm.trans e2) (by decide), by rw [g8, g9]; exact fun e e2 => absurd (gd9.symm.trans e2) (by decide), by rw [g11]; exact fun _ e => absurd e (by decide), by rw [g11]; exact fun _ e => absurd e (by decide), fun _ => ⟨b10, p9, c9, q9, e9, rfl, hB10, setRow_heap w b10 _ _ _ _ hb10, hd9.grown hg (fun q hq => by obtain rfl := Option.some.inj hq; exact NoInt.deal hb10)⟩⟩
  · intro L' a w hp hI
    obtain ⟨u86, u88, u90, u91, u92, u17, rfl, hSw, hP3, hP5, hP7, hP8, hP9, hP10, hP11⟩ := hI
    (try simp only [Bool.and_eq_true] at hp)
    have p11 := hp
    obtain ⟨b, p, c, q, e, rfl, hlo, hbx2, hdl⟩ := hP11 p11
    exact HQ.out _ _ _ _ _ b p c q e w hSw hlo hbx2 hdl
  · refine par_take ⟨some 83, _, _, _, _, _⟩ ?_ rfl (by rfl) ?_ ?_
    rotate_left 1
    · intro w hSw; (try dsimp only at hSw); go_simp; (try with_reducible rfl)
    simp only [Act.put, List.setIfInBounds_toArray, List.set_cons_zero, List.set_cons_succ]
    refine par_take ⟨some 84, _, _, _, _, _⟩ ?_ rfl (by rfl) ?_ ?_
    rotate_left 1
    · intro w hSw; (try dsimp only at hSw); go_simp; (try with_reducible rfl)
    simp only [Act.put, List.setIfInBounds_toArray, List.set_cons_zero, List.set_cons_succ]
    refine par_take ⟨some 85, _, _, _, _, _⟩ ?_ rfl (by rfl) ?_ ?_
    rotate_left 1
    · intro w hSw; (try dsimp only at hSw); go_simp; (try with_reducible rfl)
    simp only [Act.put, List.setIfInBounds_toArray, List.set_cons_zero, List.set_cons_succ]
    refine par_take ⟨some 87, _, _, _, _, _⟩ ?_ rfl (by rfl) ?_ ?_
    rotate_left 1
    · intro w hSw; (try dsimp only at hSw); go_simp; (try with_reducible rfl)
    simp only [Act.put, List.setIfInBounds_toArray, List.set_cons_zero, List.set_cons_succ]
    refine par_take_row ⟨some 89, _, _, _, _, _⟩ rfl (by rfl) 35 (.tmp 16) (by rfl) lb 0 (by rfl) [.int .i64 r.server, .int .i64 r.seq, .bool r.cancel, .int .i64 r.student, .int .i64 r.term, .string r.code, .string r.give, .int .i64 r.priority, .int .i64 r.day] _ (fun w hSw => (hbx.below hSw).at_) Try.underlying35 rfl (by kernel_rfl) ?_
    simp only [Act.put, List.setIfInBounds_toArray, List.set_cons_zero, List.set_cons_succ]
    exact ⟨_, _, _, _, _, _, rfl, hS0, (fun e => absurd e (by decide +kernel)), (fun e => absurd e (by decide +kernel)), (fun e => absurd e (by decide +kernel)), (fun e => absurd e (by decide +kernel)), (fun e => absurd e (by decide +kernel)), (fun e => absurd e (by decide +kernel)), (fun e => absurd e (by decide +kernel))⟩

set_option maxHeartbeats 16000000 in
set_option maxRecDepth 100000 in
theorem fst_r24 {s0 s1 s2 s3 s4 s5 s9 s11 s12 s13 s14 s15 s17 s18 s19 s20 s21 s22 s23 s24 s25 s26 s27 s28 s29 s30 s31 s32 s33 s34 s35 s36 s37 s38 s39 s40 s41 s42 s43 s44 s45 s46 s47 s48 s49 s50 s51 s52 s53 s54 s55 s56 s57 s58 s59 s60 s61 s62 s63 s64 s65 s66 s67 s68 s69 s70 s71 s72 s73 s74 s75 s76 s77 s78 s79 s80 s81 s82 s83 s84 s85 s86 s87 s88 s89 s90 s91 s92 s93 s94 s95 s96 s97 s98 s99 s100 s101 s102 s103 s104 s105 s106 s107 s108 s109 s110 s111 s112 s113 s114 s115 s116 s117 s118 s119 s120 s121 s122 s123 s124 s125 s126 s127 s128 s129 s130 s131 s132 s133 s134 s135 s136 s137 s138 s139 s140 s141 s142 s143 s144 s145 s146 s147 s148 s149 s150 s151 s152 s153 s154 s155 s156 s157 s158 s159 s160 s161 s162 : Value} (lb : Nat) (ov mv lv : Value) (most : Int) (L : List Off) (M : List Seat) (A O : List Req) (r : Req) (W : World) (Q : Exit → Act → World → Prop) (hc : CatIn W ov mv L M) (hl : RowIn encR W lv A) (lA : A.length ≤ 1000) (hbx : ReqBox W lb r) (hag : Again O (A ++ [r])) (lO : O.length ≤ 1000)
    (hQ : ∀ (u131 u133 u135 u136 u137 : Value) (b : Nat) (p : Option Addr) (c : Nat) (q : Option Addr) (e : Nat) (wx : World), RowKit.Below W.heap.size W wx → W.heap.size ≤ b → wx.heap[b]? = some (.cells #[.slice p (dealP L M most O).seats.length c, .slice q (dealP L M most O).waits.length e] 37 (0, 0)) → DealIn wx (.agg #[.slice p (dealP L M most O).seats.length c, .slice q (dealP L M most O).waits.length e]) (dealP L M most O) → Q .normal ⟨List.toArray (s0 :: s1 :: s2 :: s3 :: s4 :: s5 :: ov :: mv :: .int .i64 most :: s9 :: lv :: s11 :: s12 :: s13 :: s14 :: s15 :: .pointer (some ⟨lb, 0, none⟩) :: s17 :: s18 :: .pointer (some ⟨b, 0, none⟩) :: s20 :: s21 :: s22 :: s23 :: s24 :: s25 :: s26 :: s27 :: s28 :: s29 :: s30 :: s31 :: s32 :: s33 :: s34 :: s35 :: s36 :: s37 :: s38 :: s39 :: s40 :: s41 :: s42 :: s43 :: s44 :: s45 :: s46 :: s47 :: s48 :: s49 :: s50 :: s51 :: s52 :: s53 :: s54 :: s55 :: s56 :: s57 :: s58 :: s59 :: s60 :: s61 :: s62 :: s63 :: s64 :: s65 :: s66 :: s67 :: s68 :: s69 :: s70 :: s71 :: s72 :: s73 :: s74 :: s75 :: s76 :: s77 :: s78 :: s79 :: s80 :: s81 :: s82 :: s83 :: s84 :: s85 :: s86 :: s87 :: s88 :: s89 :: s90 :: s91 :: s92 :: s93 :: s94 :: s95 :: s96 :: s97 :: s98 :: s99 :: s100 :: s101 :: s102 :: s103 :: s104 :: s105 :: s106 :: s107 :: s108 :: s109 :: s110 :: s111 :: s112 :: s113 :: s114 :: s115 :: s116 :: s117 :: s118 :: s119 :: s120 :: s121 :: s122 :: s123 :: s124 :: s125 :: s126 :: s127 :: ov :: mv :: .int .i64 most :: u131 :: lv :: u133 :: .agg #[.int .i64 r.server, .int .i64 r.seq, .bool r.cancel, .int .i64 r.student, .int .i64 r.term, .string r.code, .string r.give, .int .i64 r.priority, .int .i64 r.day] :: u135 :: u136 :: u137 :: s138 :: s139 :: s140 :: s141 :: s142 :: s143 :: s144 :: s145 :: s146 :: s147 :: s148 :: s149 :: s150 :: s151 :: s152 :: s153 :: s154 :: s155 :: s156 :: s157 :: s158 :: s159 :: s160 :: s161 :: s162 :: []), []⟩ wx) :
    (regionOf Try.f3 24).wp Try.prog Q ⟨List.toArray (s0 :: s1 :: s2 :: s3 :: s4 :: s5 :: ov :: mv :: .int .i64 most :: s9 :: lv :: s11 :: s12 :: s13 :: s14 :: s15 :: .pointer (some ⟨lb, 0, none⟩) :: s17 :: s18 :: s19 :: s20 :: s21 :: s22 :: s23 :: s24 :: s25 :: s26 :: s27 :: s28 :: s29 :: s30 :: s31 :: s32 :: s33 :: s34 :: s35 :: s36 :: s37 :: s38 :: s39 :: s40 :: s41 :: s42 :: s43 :: s44 :: s45 :: s46 :: s47 :: s48 :: s49 :: s50 :: s51 :: s52 :: s53 :: s54 :: s55 :: s56 :: s57 :: s58 :: s59 :: s60 :: s61 :: s62 :: s63 :: s64 :: s65 :: s66 :: s67 :: s68 :: s69 :: s70 :: s71 :: s72 :: s73 :: s74 :: s75 :: s76 :: s77 :: s78 :: s79 :: s80 :: s81 :: s82 :: s83 :: s84 :: s85 :: s86 :: s87 :: s88 :: s89 :: s90 :: s91 :: s92 :: s93 :: s94 :: s95 :: s96 :: s97 :: s98 :: s99 :: s100 :: s101 :: s102 :: s103 :: s104 :: s105 :: s106 :: s107 :: s108 :: s109 :: s110 :: s111 :: s112 :: s113 :: s114 :: s115 :: s116 :: s117 :: s118 :: s119 :: s120 :: s121 :: s122 :: s123 :: s124 :: s125 :: s126 :: s127 :: s128 :: s129 :: s130 :: s131 :: s132 :: s133 :: s134 :: s135 :: s136 :: s137 :: s138 :: s139 :: s140 :: s141 :: s142 :: s143 :: s144 :: s145 :: s146 :: s147 :: s148 :: s149 :: s150 :: s151 :: s152 :: s153 :: s154 :: s155 :: s156 :: s157 :: s158 :: s159 :: s160 :: s161 :: s162 :: []), []⟩ W := by
  refine of_onlyN (K := Q .normal) ?_ (fun _ _ h => h)
  generalize Q .normal = K at hQ ⊢
  have HQ := Lib.hid hQ; clear hQ
  conv => arg 2; whnf
  have hS0 : RowKit.Below W.heap.size W W.drew := (Below.refl _ _).drew
  have HC := Lib.hid hc
  have HL := Lib.hid hl
  have HA := Lib.hid hag
  clear hc hl hag
  refine wp_region_par (S := fun w => RowKit.Below W.heap.size W w) (I := fun L' a w => ∃ u131 u133 u135 u136 u137 u19 : Value, a = ⟨List.toArray (s0 :: s1 :: s2 :: s3 :: s4 :: s5 :: ov :: mv :: .int .i64 most :: s9 :: lv :: s11 :: s12 :: s13 :: s14 :: s15 :: .pointer (some ⟨lb, 0, none⟩) :: s17 :: s18 :: u19 :: s20 :: s21 :: s22 :: s23 :: s24 :: s25 :: s26 :: s27 :: s28 :: s29 :: s30 :: s31 :: s32 :: s33 :: s34 :: s35 :: s36 :: s37 :: s38 :: s39 :: s40 :: s41 :: s42 :: s43 :: s44 :: s45 :: s46 :: s47 :: s48 :: s49 :: s50 :: s51 :: s52 :: s53 :: s54 :: s55 :: s56 :: s57 :: s58 :: s59 :: s60 :: s61 :: s62 :: s63 :: s64 :: s65 :: s66 :: s67 :: s68 :: s69 :: s70 :: s71 :: s72 :: s73 :: s74 :: s75 :: s76 :: s77 :: s78 :: s79 :: s80 :: s81 :: s82 :: s83 :: s84 :: s85 :: s86 :: s87 :: s88 :: s89 :: s90 :: s91 :: s92 :: s93 :: s94 :: s95 :: s96 :: s97 :: s98 :: s99 :: s100 :: s101 :: s102 :: s103 :: s104 :: s105 :: s106 :: s107 :: s108 :: s109 :: s110 :: s111 :: s112 :: s113 :: s114 :: s115 :: s116 :: s117 :: s118 :: s119 :: s120 :: s121 :: s122 :: s123 :: s124 :: s125 :: s126 :: s127 :: ov :: mv :: .int .i64 most :: u131 :: lv :: u133 :: .agg #[.int .i64 r.server, .int .i64 r.seq, .bool r.cancel, .int .i64 r.student, .int .i64 r.term, .string r.code, .string r.give, .int .i64 r.priority, .int .i64 r.day] :: u135 :: u136 :: u137 :: s138 :: s139 :: s140 :: s141 :: s142 :: s143 :: s144 :: s145 :: s146 :: s147 :: s148 :: s149 :: s150 :: s151 :: s152 :: s153 :: s154 :: s155 :: s156 :: s157 :: s158 :: s159 :: s160 :: s161 :: s162 :: []), []⟩ ∧ (RowKit.Below W.heap.size W w) ∧ (L'.getD 3 false = true → L'.getD 5 false = false → Laid W.heap.size w (fun b => .slice (some ⟨b, 0, none⟩) 0 0) (.cells #[] 35 (0, 0)) u131) ∧ (L'.getD 5 false = true → L'.getD 8 false = false → w.ownsRow W.heap.size 35 9 u133 A.length (flatE encR A)) ∧ (L'.getD 7 false = true → L'.getD 8 false = false → Laid W.heap.size w (fun b => .slice (some ⟨b, 0, none⟩) 1 1) (.cells #[.int .i64 r.server, .int .i64 r.seq, .bool r.cancel, .int .i64 r.student, .int .i64 r.term, .string r.code, .string r.give, .int .i64 r.priority, .int .i64 r.day] 35 (0, 0)) u135) ∧ (L'.getD 8 false = true → L'.getD 9 false = false → w.ownsRow W.heap.size 35 9 u136 (A ++ [r]).length (flatE encR (A ++ [r]))) ∧ (L'.getD 9 false = true → L'.getD 11 false = false → ∃ p c q e, u137 = .agg #[.slice p (dealP L M most O).seats.length c, .slice q (dealP L M most O).waits.length e] ∧ DealIn w (.agg #[.slice p (dealP L M most O).seats.length c, .slice q (dealP L M most O).waits.length e]) (dealP L M most O)) ∧ (L'.getD 10 false = true → L'.getD 11 false = false → Laid W.heap.size w (fun b => .pointer (some ⟨b, 0, none⟩)) (.cells #[.slice none 0 0, .slice none 0 0] 37 (0, 0)) u19) ∧ (L'.getD 11 false = true → ∃ b p c q e, u19 = .pointer (some ⟨b, 0, none⟩) ∧ W.heap.size ≤ b ∧ w.heap[b]? = some (.cells #[.slice p (dealP L M most O).seats.length c, .slice q (dealP L M most O).waits.length e] 37 (0, 0)) ∧ DealIn w (.agg #[.slice p (dealP L M most O).seats.length c, .slice q (dealP L M most O).waits.length e]) (dealP L M most O))) (pre := fun i L' => L'.size == 12 && ((i == 3 && !L'.getD 11 false) || (i == 5 && L'.getD 3 false && !L'.getD 5 false && !L'.getD 8 false && !L'.getD 9 false && !L'.getD 11 false) || (i == 7 && !L'.getD 11 false) || (i == 8 && L'.getD 5 false && L'.getD 7 false && !L'.getD 8 false && !L'.getD 9 false && !L'.getD 11 false) || (i == 9 && L'.getD 8 false && !L'.getD 9 false && !L'.getD 11 false) || (i == 10 && !L'.getD 11 false) || (i == 11 && L'.getD 9 false && L'.getD 10 false && L'.getD 5 false && L'.getD 8 false && !L'.getD 11 false))) (fin := fun L' => L'.getD 11 false) [0, 1, 2, 4, 6] 7 (by kernel_rfl) (by kernel_rfl) (by kernel_rfl) (by kernel_rfl) (by decide) hS0 ?_ ?_ ?_
  · intro i L' a w hp hI
    obtain ⟨u131, u133, u135, u136, u137, u19, rfl, hSw, hP3, hP5, hP7, hP8, hP9, hP10, hP11⟩ := hI
    simp only [Bool.and_eq_true, Bool.or_eq_true, beq_iff_eq, Bool.not_eq_true'] at hp
    obtain ⟨hsz, hp⟩ := hp
    rcases hp with ((((((⟨rfl, gn11⟩ | ⟨⟨⟨⟨⟨rfl, gd3⟩, gn5⟩, gn8⟩, gn9⟩, gn11⟩) | ⟨rfl, gn11⟩) | ⟨⟨⟨⟨⟨rfl, gd5⟩, gd7⟩, gn8⟩, gn9⟩, gn11⟩) | ⟨⟨⟨rfl, gd8⟩, gn9⟩, gn11⟩) | ⟨rfl, gn11⟩) | ⟨⟨⟨⟨⟨rfl, gd9⟩, gd10⟩, gd5⟩, gd8⟩, gn11⟩)
    · have g3 : (L'.setIfInBounds 3 true).getD 3 false = true := by rw [up_set, if_pos ⟨rfl, by omega⟩]
      have g5 : (L'.setIfInBounds 3 true).getD 5 false = L'.getD 5 false := by rw [up_set, if_neg (by omega)]
      have g7 : (L'.setIfInBounds 3 true).getD 7 false = L'.getD 7 false := by rw [up_set, if_neg (by omega)]
      have g8 : (L'.setIfInBounds 3 true).getD 8 false = L'.getD 8 false := by rw [up_set, if_neg (by omega)]
      have g9 : (L'.setIfInBounds 3 true).getD 9 false = L'.getD 9 false := by rw [up_set, if_neg (by omega)]
      have g10 : (L'.setIfInBounds 3 true).getD 10 false = L'.getD 10 false := by rw [up_set, if_neg (by omega)]
      have g11 : (L'.setIfInBounds 3 true).getD 11 false = L'.getD 11 false := by rw [up_set, if_neg (by omega)]
      have hb : RowKit.Below w.heap.size w (w.alloc (.cells #[] 35)) := below_alloc1 _ _
      have hSn := below_next hSw hb
      refine par_run ⟨some 131, _, _, _, _, _⟩ (.slice (some ⟨w.heap.size, 0, none⟩) 0 0) (w.alloc (.cells #[] 35)) rfl (by rfl) (by go_simp) ?_
      exact ⟨hSn, (.slice (some ⟨w.heap.size, 0, none⟩) 0 0), (u133), (u135), (u136), (u137), (u19), by simp only [Act.put, List.setIfInBounds_toArray, List.set_cons_zero, List.set_cons_succ], hSn, fun _ _ => Laid.new w _ _ _ hSw.size, by rw [g5, g8]; exact fun e e2 => own_below (hP5 e e2) hb, by rw [g7, g8]; exact fun e e2 => (hP7 e e2).below hb, by rw [g8, g9]; exact fun e e2 => own_below (hP8 e e2) hb, by rw [g9, g11]; exact fun e e2 => (by obtain ⟨p, c, q, e, h1, h2⟩ := (hP9 e e2); exact ⟨p, c, q, e, h1, h2.below hb⟩), by rw [g10, g11]; exact fun e e2 => (hP10 e e2).below hb, by rw [g11]; exact fun e => absurd (e.symm.trans gn11) (by decide)⟩
    · have g3 : (L'.setIfInBounds 5 true).getD 3 false = L'.getD 3 false := by rw [up_set, if_neg (by omega)]
      have g5 : (L'.setIfInBounds 5 true).getD 5 false = true := by rw [up_set, if_pos ⟨rfl, by omega⟩]
      have g7 : (L'.setIfInBounds 5 true).getD 7 false = L'.getD 7 false := by rw [up_set, if_neg (by omega)]
      have g8 : (L'.setIfInBounds 5 true).getD 8 false = L'.getD 8 false := by rw [up_set, if_neg (by omega)]
      have g9 : (L'.setIfInBounds 5 true).getD 9 false = L'.getD 9 false := by rw [up_set, if_neg (by omega)]
      have g10 : (L'.setIfInBounds 5 true).getD 10 false = L'.getD 10 false := by rw [up_set, if_neg (by omega)]
      have g11 : (L'.setIfInBounds 5 true).getD 11 false = L'.getD 11 false := by rw [up_set, if_neg (by omega)]
      have hD3 := hP3 gd3 gn5
      have own := hD3.own (k := 9)
      refine par_append reqT ⟨some 133, _, _, _, _, _⟩ rfl (by rfl) (.tmp 131) (.tmp 132) (by rfl) W.heap.size _ _ [] A (by rfl) (by rfl) own (HL.out.below hSw) (by simp only [List.length_nil]; omega) hSw.size ?_
      intro v' wn hA
      have hg := hA.grown
      have hSn := hSw.grown hg hSw.size (fun q hq => (own.lt q hq).1)
      exact ⟨hSn, (u131), (v'), (u135), (u136), (u137), (u19), by simp only [Act.put, List.setIfInBounds_toArray, List.set_cons_zero, List.set_cons_succ], hSn, by rw [g5]; exact fun _ e => absurd e (by decide), fun _ _ => (by have h := hA.own; rwa [List.nil_append] at h), by rw [g7, g8]; exact fun e e2 => (hP7 e e2).grown hg (hD3.apart (by simp)), by rw [g8, g9]; exact fun e e2 => absurd (e.symm.trans gn8) (by decide), by rw [g9, g11]; exact fun e e2 => absurd (e.symm.trans gn9) (by decide), by rw [g10, g11]; exact fun e e2 => (hP10 e e2).grown hg (hD3.apart (by simp)), by rw [g11]; exact fun e => absurd (e.symm.trans gn11) (by decide)⟩
    · have g3 : (L'.setIfInBounds 7 true).getD 3 false = L'.getD 3 false := by rw [up_set, if_neg (by omega)]
      have g5 : (L'.setIfInBounds 7 true).getD 5 false = L'.getD 5 false := by rw [up_set, if_neg (by omega)]
      have g7 : (L'.setIfInBounds 7 true).getD 7 false = true := by rw [up_set, if_pos ⟨rfl, by omega⟩]
      have g8 : (L'.setIfInBounds 7 true).getD 8 false = L'.getD 8 false := by rw [up_set, if_neg (by omega)]
      have g9 : (L'.setIfInBounds 7 true).getD 9 false = L'.getD 9 false := by rw [up_set, if_neg (by omega)]
      have g10 : (L'.setIfInBounds 7 true).getD 10 false = L'.getD 10 false := by rw [up_set, if_neg (by omega)]
      have g11 : (L'.setIfInBounds 7 true).getD 11 false = L'.getD 11 false := by rw [up_set, if_neg (by omega)]
      have hb : RowKit.Below w.heap.size w (w.alloc (.cells #[.int .i64 r.server, .int .i64 r.seq, .bool r.cancel, .int .i64 r.student, .int .i64 r.term, .string r.code, .string r.give, .int .i64 r.priority, .int .i64 r.day] 35)) := below_alloc1 _ _
      have hSn := below_next hSw hb
      refine par_run ⟨some 135, _, _, _, _, _⟩ (.slice (some ⟨w.heap.size, 0, none⟩) 1 1) (w.alloc (.cells #[.int .i64 r.server, .int .i64 r.seq, .bool r.cancel, .int .i64 r.student, .int .i64 r.term, .string r.code, .string r.give, .int .i64 r.priority, .int .i64 r.day] 35)) rfl (by rfl) (by go_simp) ?_
      exact ⟨hSn, (u131), (u133), (.slice (some ⟨w.heap.size, 0, none⟩) 1 1), (u136), (u137), (u19), by simp only [Act.put, List.setIfInBounds_toArray, List.set_cons_zero, List.set_cons_succ], hSn, by rw [g3, g5]; exact fun e e2 => (hP3 e e2).below hb, by rw [g5, g8]; exact fun e e2 => own_below (hP5 e e2) hb, fun _ _ => Laid.new w _ _ _ hSw.size, by rw [g8, g9]; exact fun e e2 => own_below (hP8 e e2) hb, by rw [g9, g11]; exact fun e e2 => (by obtain ⟨p, c, q, e, h1, h2⟩ := (hP9 e e2); exact ⟨p, c, q, e, h1, h2.below hb⟩), by rw [g10, g11]; exact fun e e2 => (hP10 e e2).below hb, by rw [g11]; exact fun e => absurd (e.symm.trans gn11) (by decide)⟩
    · have g3 : (L'.setIfInBounds 8 true).getD 3 false = L'.getD 3 false := by rw [up_set, if_neg (by omega)]
      have g5 : (L'.setIfInBounds 8 true).getD 5 false = L'.getD 5 false := by rw [up_set, if_neg (by omega)]
      have g7 : (L'.setIfInBounds 8 true).getD 7 false = L'.getD 7 false := by rw [up_set, if_neg (by omega)]
      have g8 : (L'.setIfInBounds 8 true).getD 8 false = true := by rw [up_set, if_pos ⟨rfl, by omega⟩]
      have g9 : (L'.setIfInBounds 8 true).getD 9 false = L'.getD 9 false := by rw [up_set, if_neg (by omega)]
      have g10 : (L'.setIfInBounds 8 true).getD 10 false = L'.getD 10 false := by rw [up_set, if_neg (by omega)]
      have g11 : (L'.setIfInBounds 8 true).getD 11 false = L'.getD 11 false := by rw [up_set, if_neg (by omega)]
      have hD5 := hP5 gd5 gn8
      have hD7 := hP7 gd7 gn8
      refine par_append reqT ⟨some 136, _, _, _, _, _⟩ rfl (by rfl) (.tmp 133) (.tmp 135) (by rfl) W.heap.size _ _ A [r] (by rfl) (by rfl) hD5 (hD7.row [r] rfl rfl) (by simp only [List.length_singleton]; omega) hSw.size ?_
      intro v' wn hA
      have hg := hA.grown
      have hSn := hSw.grown hg hSw.size (fun q hq => (hD5.lt q hq).1)
      exact ⟨hSn, (u131), (u133), (u135), (v'), (u137), (u19), by simp only [Act.put, List.setIfInBounds_toArray, List.set_cons_zero, List.set_cons_succ], hSn, by rw [g3, g5]; exact fun e e2 => absurd (gd5.symm.trans e2) (by decide), by rw [g8]; exact fun _ e => absurd e (by decide), by rw [g8]; exact fun _ e => absurd e (by decide), fun _ _ => hA.own, by rw [g9, g11]; exact fun e e2 => absurd (e.symm.trans gn9) (by decide), by rw [g10, g11]; exact fun e e2 => (hP10 e e2).grown hg (own_apart hD5 (by decide)), by rw [g11]; exact fun e => absurd (e.symm.trans gn11) (by decide)⟩
    · have g3 : (L'.setIfInBounds 9 true).getD 3 false = L'.getD 3 false := by rw [up_set, if_neg (by omega)]
      have g5 : (L'.setIfInBounds 9 true).getD 5 false = L'.getD 5 false := by rw [up_set, if_neg (by omega)]
      have g7 : (L'.setIfInBounds 9 true).getD 7 false = L'.getD 7 false := by rw [up_set, if_neg (by omega)]
      have g8 : (L'.setIfInBounds 9 true).getD 8 false = L'.getD 8 false := by rw [up_set, if_neg (by omega)]
      have g9 : (L'.setIfInBounds 9 true).getD 9 false = true := by rw [up_set, if_pos ⟨rfl, by omega⟩]
      have g10 : (L'.setIfInBounds 9 true).getD 10 false = L'.getD 10 false := by rw [up_set, if_neg (by omega)]
      have g11 : (L'.setIfInBounds 9 true).getD 11 false = L'.getD 11 false := by rw [up_set, if_neg (by omega)]
      have hD8 := hP8 gd8 gn9
      refine par_call ⟨some 137, _, _, _, _, _⟩ rfl (by rfl) 9 _ _ (by rfl) _ (by rfl) Try.call9 (deal_again hSw HC.out lO HA.out (reqsIn_own hD8)) ?_
      rintro e wn ⟨sv1, wv1, rfl, hd1, hb⟩
      have hSn := below_next hSw hb
      obtain ⟨p, c, q, e, he, h2, h3⟩ := hd1.val
      have hdn : DealIn wn (.agg #[.slice p (dealP L M most O).seats.length c, .slice q (dealP L M most O).waits.length e]) (dealP L M most O) := ⟨⟨p, c, q, e, rfl, h2, h3⟩, hd1.ls, hd1.lw⟩
      exact ⟨_, rfl, hSn, (u131), (u133), (u135), (u136), (.agg #[sv1, wv1]), (u19), by simp only [Act.put, List.setIfInBounds_toArray, List.set_cons_zero, List.set_cons_succ], hSn, by rw [g3, g5]; exact fun e e2 => (hP3 e e2).below hb, by rw [g5, g8]; exact fun e e2 => absurd (gd8.symm.trans e2) (by decide), by rw [g7, g8]; exact fun e e2 => absurd (gd8.symm.trans e2) (by decide), by rw [g9]; exact fun _ e => absurd e (by decide), fun _ _ => ⟨p, c, q, e, he, hdn⟩, by rw [g10, g11]; exact fun e e2 => (hP10 e e2).below hb, by rw [g11]; exact fun e => absurd (e.symm.trans gn11) (by decide)⟩
    · have g3 : (L'.setIfInBounds 10 true).getD 3 false = L'.getD 3 false := by rw [up_set, if_neg (by omega)]
      have g5 : (L'.setIfInBounds 10 true).getD 5 false = L'.getD 5 false := by rw [up_set, if_neg (by omega)]
      have g7 : (L'.setIfInBounds 10 true).getD 7 false = L'.getD 7 false := by rw [up_set, if_neg (by omega)]
      have g8 : (L'.setIfInBounds 10 true).getD 8 false = L'.getD 8 false := by rw [up_set, if_neg (by omega)]
      have g9 : (L'.setIfInBounds 10 true).getD 9 false = L'.getD 9 false := by rw [up_set, if_neg (by omega)]
      have g10 : (L'.setIfInBounds 10 true).getD 10 false = true := by rw [up_set, if_pos ⟨rfl, by omega⟩]
      have g11 : (L'.setIfInBounds 10 true).getD 11 false = L'.getD 11 false := by rw [up_set, if_neg (by omega)]
      have hb : RowKit.Below w.heap.size w (w.alloc (.cells #[.slice none 0 0, .slice none 0 0] 37)) := below_alloc1 _ _
      have hSn := below_next hSw hb
      refine par_run ⟨some 19, _, _, _, _, _⟩ (.pointer (some ⟨w.heap.size, 0, none⟩)) (w.alloc (.cells #[.slice none 0 0, .slice none 0 0] 37)) rfl (by rfl) (by go_simp) ?_
      exact ⟨hSn, (u131), (u133), (u135), (u136), (u137), (.pointer (some ⟨w.heap.size, 0, none⟩)), by simp only [Act.put, List.setIfInBounds_toArray, List.set_cons_zero, List.set_cons_succ], hSn, by rw [g3, g5]; exact fun e e2 => (hP3 e e2).below hb, by rw [g5, g8]; exact fun e e2 => own_below (hP5 e e2) hb, by rw [g7, g8]; exact fun e e2 => (hP7 e e2).below hb, by rw [g8, g9]; exact fun e e2 => own_below (hP8 e e2) hb, by rw [g9, g11]; exact fun e e2 => (by obtain ⟨p, c, q, e, h1, h2⟩ := (hP9 e e2); exact ⟨p, c, q, e, h1, h2.below hb⟩), fun _ _ => Laid.new w _ _ _ hSw.size, by rw [g11]; exact fun e => absurd (e.symm.trans gn11) (by decide)⟩
    · have g3 : (L'.setIfInBounds 11 true).getD 3 false = L'.getD 3 false := by rw [up_set, if_neg (by omega)]
      have g5 : (L'.setIfInBounds 11 true).getD 5 false = L'.getD 5 false := by rw [up_set, if_neg (by omega)]
      have g7 : (L'.setIfInBounds 11 true).getD 7 false = L'.getD 7 false := by rw [up_set, if_neg (by omega)]
      have g8 : (L'.setIfInBounds 11 true).getD 8 false = L'.getD 8 false := by rw [up_set, if_neg (by omega)]
      have g9 : (L'.setIfInBounds 11 true).getD 9 false = L'.getD 9 false := by rw [up_set, if_neg (by omega)]
      have g10 : (L'.setIfInBounds 11 true).getD 10 false = L'.getD 10 false := by rw [up_set, if_neg (by omega)]
      have g11 : (L'.setIfInBounds 11 true).getD 11 false = true := by rw [up_set, if_pos ⟨rfl, by omega⟩]
      have hD9 := hP9 gd9 gn11
      obtain ⟨p9, c9, q9, e9, rfl, hd9⟩ := hD9
      have hD10 := hP10 gd10 gn11
      obtain ⟨b10, rfl, hB10, hb10⟩ := hD10
      have hg := setRow_grown hb10 #[.slice p9 (dealP L M most O).seats.length c9, .slice q9 (dealP L M most O).waits.length e9]
      have hSn : RowKit.Below W.heap.size W (w.setRow b10 #[.slice p9 (dealP L M most O).seats.length c9, .slice q9 (dealP L M most O).waits.length e9]) := hSw.grown hg hSw.size (fun q hq => by obtain rfl := Option.some.inj hq; exact hB10)
      refine par_store_row ⟨none, _, _, _, _, _⟩ rfl (by rfl) 37 (.tmp 19) (.tmp 137) (by rfl) b10 #[.slice p9 (dealP L M most O).seats.length c9, .slice q9 (dealP L M most O).waits.length e9] (by rfl) (by rfl) _ _ hb10 (by kernel_rfl) rfl (by simp [Value.oneCell']) ?_
      exact ⟨hSn, (u131), (u133), (u135), (u136), (.agg #[.slice p9 (dealP L M most O).seats.length c9, .slice q9 (dealP L M most O).waits.length e9]), (.pointer (some ⟨b10, 0, none⟩)), by simp only [Act.put], hSn, by rw [g3, g5]; exact fun e e2 => absurd (gd5.symm.trans e2) (by decide), by rw [g5, g8]; exact fun e e2 => absurd (gd8.symm.trans e2) (by decide), by rw [g7, g8]; exact fun e e2 => absurd (gd8.symm.trans e2) (by decide), by rw [g8, g9]; exact fun e e2 => absurd (gd9.symm.trans e2) (by decide), by rw [g11]; exact fun _ e => absurd e (by decide), by rw [g11]; exact fun _ e => absurd e (by decide), fun _ => ⟨b10, p9, c9, q9, e9, rfl, hB10, setRow_heap w b10 _ _ _ _ hb10, hd9.grown hg (fun q hq => by obtain rfl := Option.some.inj hq; exact NoInt.deal hb10)⟩⟩
  · intro L' a w hp hI
    obtain ⟨u131, u133, u135, u136, u137, u19, rfl, hSw, hP3, hP5, hP7, hP8, hP9, hP10, hP11⟩ := hI
    (try simp only [Bool.and_eq_true] at hp)
    have p11 := hp
    obtain ⟨b, p, c, q, e, rfl, hlo, hbx2, hdl⟩ := hP11 p11
    exact HQ.out _ _ _ _ _ b p c q e w hSw hlo hbx2 hdl
  · refine par_take ⟨some 128, _, _, _, _, _⟩ ?_ rfl (by rfl) ?_ ?_
    rotate_left 1
    · intro w hSw; (try dsimp only at hSw); go_simp; (try with_reducible rfl)
    simp only [Act.put, List.setIfInBounds_toArray, List.set_cons_zero, List.set_cons_succ]
    refine par_take ⟨some 129, _, _, _, _, _⟩ ?_ rfl (by rfl) ?_ ?_
    rotate_left 1
    · intro w hSw; (try dsimp only at hSw); go_simp; (try with_reducible rfl)
    simp only [Act.put, List.setIfInBounds_toArray, List.set_cons_zero, List.set_cons_succ]
    refine par_take ⟨some 130, _, _, _, _, _⟩ ?_ rfl (by rfl) ?_ ?_
    rotate_left 1
    · intro w hSw; (try dsimp only at hSw); go_simp; (try with_reducible rfl)
    simp only [Act.put, List.setIfInBounds_toArray, List.set_cons_zero, List.set_cons_succ]
    refine par_take ⟨some 132, _, _, _, _, _⟩ ?_ rfl (by rfl) ?_ ?_
    rotate_left 1
    · intro w hSw; (try dsimp only at hSw); go_simp; (try with_reducible rfl)
    simp only [Act.put, List.setIfInBounds_toArray, List.set_cons_zero, List.set_cons_succ]
    refine par_take_row ⟨some 134, _, _, _, _, _⟩ rfl (by rfl) 35 (.tmp 16) (by rfl) lb 0 (by rfl) [.int .i64 r.server, .int .i64 r.seq, .bool r.cancel, .int .i64 r.student, .int .i64 r.term, .string r.code, .string r.give, .int .i64 r.priority, .int .i64 r.day] _ (fun w hSw => (hbx.below hSw).at_) Try.underlying35 rfl (by kernel_rfl) ?_
    simp only [Act.put, List.setIfInBounds_toArray, List.set_cons_zero, List.set_cons_succ]
    exact ⟨_, _, _, _, _, _, rfl, hS0, (fun e => absurd e (by decide +kernel)), (fun e => absurd e (by decide +kernel)), (fun e => absurd e (by decide +kernel)), (fun e => absurd e (by decide +kernel)), (fun e => absurd e (by decide +kernel)), (fun e => absurd e (by decide +kernel)), (fun e => absurd e (by decide +kernel))⟩

set_option maxHeartbeats 16000000 in
set_option maxRecDepth 100000 in
theorem fst_r20 {s0 s1 s2 s3 s4 s5 s6 s7 s8 s9 s10 s11 s13 s14 s15 s16 s18 s19 s20 s21 s22 s23 s24 s25 s26 s27 s28 s29 s30 s31 s32 s33 s34 s35 s36 s37 s38 s39 s40 s41 s42 s43 s44 s45 s46 s47 s48 s49 s50 s51 s52 s53 s54 s55 s56 s57 s58 s59 s60 s61 s62 s63 s64 s65 s66 s67 s68 s69 s70 s71 s72 s73 s74 s75 s76 s77 s78 s79 s80 s81 s82 s83 s84 s85 s86 s87 s88 s89 s90 s91 s92 s93 s94 s95 s96 s97 s98 s99 s100 s101 s102 s103 s104 s105 s106 s107 s108 s109 s110 s111 s112 s113 s114 s115 s116 s117 s118 s119 s120 s121 s122 s123 s124 s125 s126 s127 s128 s129 s130 s131 s132 s133 s134 s135 s136 s137 s138 s139 s140 s141 s142 s143 s144 s145 s146 s147 s148 s149 s150 s151 s152 s153 s154 s155 s156 s157 s158 s159 s160 s161 s162 : Value} (db eb : Nat) (pd pe : Option Addr) (cd ce : Nat) (D E : List Seat) (W : World) (Q : Exit → Act → World → Prop) (hd : db < W.heap.size ∧ W.cell? ⟨db, 0, none⟩ = some (.slice pd D.length cd)) (he : eb < W.heap.size ∧ W.cell? ⟨eb, 0, none⟩ = some (.slice pe E.length ce)) (hr : RowIn Seat.cells W (.slice pd D.length cd) D) (hre : RowIn Seat.cells W (.slice pe E.length ce) E) (lD : D.length ≤ 1000) (hlt : ¬ (E.length : Int) < (D.length : Int)) (hgt : ¬ (D.length : Int) + 1 < (E.length : Int)) (hED : E.take D.length = D)
    (hQ : ∀ (u119 u120 : Value)  (wx : World), RowKit.Below W.heap.size W wx → Q .normal ⟨List.toArray (s0 :: s1 :: s2 :: s3 :: s4 :: s5 :: s6 :: s7 :: s8 :: s9 :: s10 :: s11 :: .pointer (some ⟨db, 0, none⟩) :: s13 :: s14 :: s15 :: s16 :: .pointer (some ⟨eb, 0, none⟩) :: s18 :: s19 :: s20 :: s21 :: s22 :: s23 :: s24 :: s25 :: s26 :: s27 :: s28 :: s29 :: s30 :: s31 :: s32 :: s33 :: s34 :: s35 :: s36 :: s37 :: s38 :: s39 :: s40 :: s41 :: s42 :: s43 :: s44 :: s45 :: s46 :: s47 :: s48 :: s49 :: s50 :: s51 :: s52 :: s53 :: s54 :: s55 :: s56 :: s57 :: s58 :: s59 :: s60 :: s61 :: s62 :: s63 :: s64 :: s65 :: s66 :: s67 :: s68 :: s69 :: s70 :: s71 :: s72 :: s73 :: s74 :: s75 :: s76 :: s77 :: s78 :: s79 :: s80 :: s81 :: s82 :: s83 :: s84 :: s85 :: s86 :: s87 :: s88 :: s89 :: s90 :: s91 :: s92 :: .pointer (some ⟨eb, 0, none⟩) :: .slice pe E.length ce :: .int .i64 E.length :: .pointer (some ⟨db, 0, none⟩) :: .slice pd D.length cd :: .int .i64 D.length :: .bool false :: .bool false :: .pointer (some ⟨eb, 0, none⟩) :: .slice pe E.length ce :: .int .i64 E.length :: .pointer (some ⟨db, 0, none⟩) :: .slice pd D.length cd :: .int .i64 D.length :: .int .i64 ((D.length : Int) + 1) :: .bool false :: .bool false :: .bool false :: .pointer (some ⟨eb, 0, none⟩) :: .slice pe E.length ce :: .pointer (some ⟨db, 0, none⟩) :: .slice pd D.length cd :: .int .i64 D.length :: .slice pe D.length ce :: .pointer (some ⟨db, 0, none⟩) :: .slice pd D.length cd :: u119 :: u120 :: .bool false :: s122 :: s123 :: s124 :: s125 :: s126 :: s127 :: s128 :: s129 :: s130 :: s131 :: s132 :: s133 :: s134 :: s135 :: s136 :: s137 :: s138 :: s139 :: s140 :: s141 :: s142 :: s143 :: s144 :: s145 :: s146 :: s147 :: s148 :: s149 :: s150 :: s151 :: s152 :: s153 :: s154 :: s155 :: s156 :: s157 :: s158 :: s159 :: s160 :: s161 :: s162 :: []), []⟩ wx) :
    (regionOf Try.f3 20).wp Try.prog Q ⟨List.toArray (s0 :: s1 :: s2 :: s3 :: s4 :: s5 :: s6 :: s7 :: s8 :: s9 :: s10 :: s11 :: .pointer (some ⟨db, 0, none⟩) :: s13 :: s14 :: s15 :: s16 :: .pointer (some ⟨eb, 0, none⟩) :: s18 :: s19 :: s20 :: s21 :: s22 :: s23 :: s24 :: s25 :: s26 :: s27 :: s28 :: s29 :: s30 :: s31 :: s32 :: s33 :: s34 :: s35 :: s36 :: s37 :: s38 :: s39 :: s40 :: s41 :: s42 :: s43 :: s44 :: s45 :: s46 :: s47 :: s48 :: s49 :: s50 :: s51 :: s52 :: s53 :: s54 :: s55 :: s56 :: s57 :: s58 :: s59 :: s60 :: s61 :: s62 :: s63 :: s64 :: s65 :: s66 :: s67 :: s68 :: s69 :: s70 :: s71 :: s72 :: s73 :: s74 :: s75 :: s76 :: s77 :: s78 :: s79 :: s80 :: s81 :: s82 :: s83 :: s84 :: s85 :: s86 :: s87 :: s88 :: s89 :: s90 :: s91 :: s92 :: s93 :: s94 :: s95 :: s96 :: s97 :: s98 :: s99 :: s100 :: s101 :: s102 :: s103 :: s104 :: s105 :: s106 :: s107 :: s108 :: s109 :: s110 :: s111 :: s112 :: s113 :: s114 :: s115 :: s116 :: s117 :: s118 :: s119 :: s120 :: s121 :: s122 :: s123 :: s124 :: s125 :: s126 :: s127 :: s128 :: s129 :: s130 :: s131 :: s132 :: s133 :: s134 :: s135 :: s136 :: s137 :: s138 :: s139 :: s140 :: s141 :: s142 :: s143 :: s144 :: s145 :: s146 :: s147 :: s148 :: s149 :: s150 :: s151 :: s152 :: s153 :: s154 :: s155 :: s156 :: s157 :: s158 :: s159 :: s160 :: s161 :: s162 :: []), []⟩ W := by
  refine of_onlyN (K := Q .normal) ?_ (fun _ _ h => h)
  generalize Q .normal = K at hQ ⊢
  have HQ := Lib.hid hQ; clear hQ
  conv => arg 2; whnf
  have hS0 : RowKit.Below W.heap.size W W.drew := (Below.refl _ _).drew
  have hle : D.length ≤ E.length := by omega
  have hec : E.length ≤ ce := by obtain ⟨_, _, e, h, _⟩ := hre; injection e with _ _ e; omega
  have HR := Lib.hid hr
  have HE : Hid (RowIn Seat.cells W (.slice pe D.length ce) D) := Lib.hid (by have := hre.take rfl hle; rwa [hED] at this)
  have hdce : ¬ (ce : Int) < (D.length : Int) := by omega
  clear hr hre hED
  refine wp_region_par (S := fun w => RowKit.Below W.heap.size W w) (I := fun L' a w => ∃ u119 u120 u121 : Value, a = ⟨List.toArray (s0 :: s1 :: s2 :: s3 :: s4 :: s5 :: s6 :: s7 :: s8 :: s9 :: s10 :: s11 :: .pointer (some ⟨db, 0, none⟩) :: s13 :: s14 :: s15 :: s16 :: .pointer (some ⟨eb, 0, none⟩) :: s18 :: s19 :: s20 :: s21 :: s22 :: s23 :: s24 :: s25 :: s26 :: s27 :: s28 :: s29 :: s30 :: s31 :: s32 :: s33 :: s34 :: s35 :: s36 :: s37 :: s38 :: s39 :: s40 :: s41 :: s42 :: s43 :: s44 :: s45 :: s46 :: s47 :: s48 :: s49 :: s50 :: s51 :: s52 :: s53 :: s54 :: s55 :: s56 :: s57 :: s58 :: s59 :: s60 :: s61 :: s62 :: s63 :: s64 :: s65 :: s66 :: s67 :: s68 :: s69 :: s70 :: s71 :: s72 :: s73 :: s74 :: s75 :: s76 :: s77 :: s78 :: s79 :: s80 :: s81 :: s82 :: s83 :: s84 :: s85 :: s86 :: s87 :: s88 :: s89 :: s90 :: s91 :: s92 :: .pointer (some ⟨eb, 0, none⟩) :: .slice pe E.length ce :: .int .i64 E.length :: .pointer (some ⟨db, 0, none⟩) :: .slice pd D.length cd :: .int .i64 D.length :: .bool false :: .bool false :: .pointer (some ⟨eb, 0, none⟩) :: .slice pe E.length ce :: .int .i64 E.length :: .pointer (some ⟨db, 0, none⟩) :: .slice pd D.length cd :: .int .i64 D.length :: .int .i64 ((D.length : Int) + 1) :: .bool false :: .bool false :: .bool false :: .pointer (some ⟨eb, 0, none⟩) :: .slice pe E.length ce :: .pointer (some ⟨db, 0, none⟩) :: .slice pd D.length cd :: .int .i64 D.length :: .slice pe D.length ce :: .pointer (some ⟨db, 0, none⟩) :: .slice pd D.length cd :: u119 :: u120 :: u121 :: s122 :: s123 :: s124 :: s125 :: s126 :: s127 :: s128 :: s129 :: s130 :: s131 :: s132 :: s133 :: s134 :: s135 :: s136 :: s137 :: s138 :: s139 :: s140 :: s141 :: s142 :: s143 :: s144 :: s145 :: s146 :: s147 :: s148 :: s149 :: s150 :: s151 :: s152 :: s153 :: s154 :: s155 :: s156 :: s157 :: s158 :: s159 :: s160 :: s161 :: s162 :: []), []⟩ ∧ (RowKit.Below W.heap.size W w) ∧ (L'.getD 26 false = true → u119 = .bool true) ∧ (L'.getD 27 false = true → u120 = .bool false) ∧ (L'.getD 28 false = true → u121 = .bool false)) (pre := fun i L' => L'.size == 29 && ((i == 26) || (i == 27 && L'.getD 26 false) || (i == 28 && L'.getD 27 false))) (fin := fun L' => L'.getD 28 false) [0, 1, 2, 3, 4, 5, 6, 7, 8, 9, 10, 11, 12, 13, 14, 15, 16, 17, 18, 19, 20, 21, 22, 23, 24, 25] 3 (by kernel_rfl) (by kernel_rfl) (by kernel_rfl) (by kernel_rfl) (by decide) hS0 ?_ ?_ ?_
  · intro i L' a w hp hI
    obtain ⟨u119, u120, u121, rfl, hSw, hP26, hP27, hP28⟩ := hI
    simp only [Bool.and_eq_true, Bool.or_eq_true, beq_iff_eq] at hp
    obtain ⟨hsz, hp⟩ := hp
    rcases hp with ((rfl | ⟨rfl, gd26⟩) | ⟨rfl, gd27⟩)
    · have g26 : (L'.setIfInBounds 26 true).getD 26 false = true := by rw [up_set, if_pos ⟨rfl, by omega⟩]
      have g27 : (L'.setIfInBounds 26 true).getD 27 false = L'.getD 27 false := by rw [up_set, if_neg (by omega)]
      have g28 : (L'.setIfInBounds 26 true).getD 28 false = L'.getD 28 false := by rw [up_set, if_neg (by omega)]
      have hcall := sameSeats_any (.slice pe D.length ce) (.slice pd D.length cd) D D w ((HE.out).below hSw) ((HR.out).below hSw) (by omega) (by omega)
      rw [decide_eq_true rfl] at hcall
      refine par_call ⟨some 119, _, _, _, _, _⟩ rfl (by rfl) 13 _ _ (by rfl) _ (by rfl) Try.call13 hcall ?_
      rintro e wn ⟨rfl, hb⟩
      have hSn := below_next hSw hb
      exact ⟨_, rfl, hSn, (.bool true), (u120), (u121), by simp only [Act.put, List.setIfInBounds_toArray, List.set_cons_zero, List.set_cons_succ], hSn, fun _ => rfl, by rw [g27]; exact hP27, by rw [g28]; exact hP28⟩
    · have g26 : (L'.setIfInBounds 27 true).getD 26 false = L'.getD 26 false := by rw [up_set, if_neg (by omega)]
      have g27 : (L'.setIfInBounds 27 true).getD 27 false = true := by rw [up_set, if_pos ⟨rfl, by omega⟩]
      have g28 : (L'.setIfInBounds 27 true).getD 28 false = L'.getD 28 false := by rw [up_set, if_neg (by omega)]
      have hD26 := hP26 gd26
      obtain rfl := hD26
      have hSn := hSw
      refine par_run ⟨some 120, _, _, _, _, _⟩ (.bool false) w rfl (by rfl) (by go_simp) ?_
      exact ⟨hSn, (.bool true), (.bool false), (u121), by simp only [Act.put, List.setIfInBounds_toArray, List.set_cons_zero, List.set_cons_succ], hSn, by rw [g26]; exact hP26, fun _ => rfl, by rw [g28]; exact hP28⟩
    · have g26 : (L'.setIfInBounds 28 true).getD 26 false = L'.getD 26 false := by rw [up_set, if_neg (by omega)]
      have g27 : (L'.setIfInBounds 28 true).getD 27 false = L'.getD 27 false := by rw [up_set, if_neg (by omega)]
      have g28 : (L'.setIfInBounds 28 true).getD 28 false = true := by rw [up_set, if_pos ⟨rfl, by omega⟩]
      have hD27 := hP27 gd27
      obtain rfl := hD27
      have hSn := hSw
      refine par_run ⟨some 121, _, _, _, _, _⟩ (.bool false) w rfl (by rfl) (by go_simp) ?_
      exact ⟨hSn, (u119), (.bool false), (.bool false), by simp only [Act.put, List.setIfInBounds_toArray, List.set_cons_zero, List.set_cons_succ], hSn, by rw [g26]; exact hP26, by rw [g27]; exact hP27, fun _ => rfl⟩
  · intro L' a w hp hI
    obtain ⟨u119, u120, u121, rfl, hSw, hP26, hP27, hP28⟩ := hI
    (try simp only [Bool.and_eq_true] at hp)
    have p28 := hp
    obtain rfl := hP28 p28
    exact HQ.out _ _ w hSw
  · refine par_take ⟨some 93, _, _, _, _, _⟩ (.pointer (some ⟨eb, 0, none⟩)) rfl (by rfl) ?_ ?_
    · intro w hSw; go_simp
    simp only [Act.put, List.setIfInBounds_toArray, List.set_cons_zero, List.set_cons_succ]
    refine par_take ⟨some 94, _, _, _, _, _⟩ (.slice pe E.length ce) rfl (by rfl) ?_ ?_
    · intro w hSw; have hcc : w.cell? ⟨eb, 0, none⟩ = some (.slice pe E.length ce) := (hSw.cell (p := ⟨eb, 0, none⟩) he.1).trans he.2; go_simp
    simp only [Act.put, List.setIfInBounds_toArray, List.set_cons_zero, List.set_cons_succ]
    refine par_take ⟨some 95, _, _, _, _, _⟩ (.int .i64 E.length) rfl (by rfl) ?_ ?_
    · intro w hSw; go_simp
    simp only [Act.put, List.setIfInBounds_toArray, List.set_cons_zero, List.set_cons_succ]
    refine par_take ⟨some 96, _, _, _, _, _⟩ (.pointer (some ⟨db, 0, none⟩)) rfl (by rfl) ?_ ?_
    · intro w hSw; go_simp
    simp only [Act.put, List.setIfInBounds_toArray, List.set_cons_zero, List.set_cons_succ]
    refine par_take ⟨some 97, _, _, _, _, _⟩ (.slice pd D.length cd) rfl (by rfl) ?_ ?_
    · intro w hSw; have hcc : w.cell? ⟨db, 0, none⟩ = some (.slice pd D.length cd) := (hSw.cell (p := ⟨db, 0, none⟩) hd.1).trans hd.2; go_simp
    simp only [Act.put, List.setIfInBounds_toArray, List.set_cons_zero, List.set_cons_succ]
    refine par_take ⟨some 98, _, _, _, _, _⟩ (.int .i64 D.length) rfl (by rfl) ?_ ?_
    · intro w hSw; go_simp
    simp only [Act.put, List.setIfInBounds_toArray, List.set_cons_zero, List.set_cons_succ]
    refine par_take ⟨some 99, _, _, _, _, _⟩ (.bool false) rfl (by rfl) ?_ ?_
    · intro w hSw; go_simp; first | done | (rw [decide_eq_false_iff_not]; omega) | omega
    simp only [Act.put, List.setIfInBounds_toArray, List.set_cons_zero, List.set_cons_succ]
    refine par_take ⟨some 100, _, _, _, _, _⟩ (.bool false) rfl (by rfl) ?_ ?_
    · intro w hSw; go_simp
    simp only [Act.put, List.setIfInBounds_toArray, List.set_cons_zero, List.set_cons_succ]
    refine par_take ⟨some 101, _, _, _, _, _⟩ (.pointer (some ⟨eb, 0, none⟩)) rfl (by rfl) ?_ ?_
    · intro w hSw; go_simp
    simp only [Act.put, List.setIfInBounds_toArray, List.set_cons_zero, List.set_cons_succ]
    refine par_take ⟨some 102, _, _, _, _, _⟩ (.slice pe E.length ce) rfl (by rfl) ?_ ?_
    · intro w hSw; have hcc : w.cell? ⟨eb, 0, none⟩ = some (.slice pe E.length ce) := (hSw.cell (p := ⟨eb, 0, none⟩) he.1).trans he.2; go_simp
    simp only [Act.put, List.setIfInBounds_toArray, List.set_cons_zero, List.set_cons_succ]
    refine par_take ⟨some 103, _, _, _, _, _⟩ (.int .i64 E.length) rfl (by rfl) ?_ ?_
    · intro w hSw; go_simp
    simp only [Act.put, List.setIfInBounds_toArray, List.set_cons_zero, List.set_cons_succ]
    refine par_take ⟨some 104, _, _, _, _, _⟩ (.pointer (some ⟨db, 0, none⟩)) rfl (by rfl) ?_ ?_
    · intro w hSw; go_simp
    simp only [Act.put, List.setIfInBounds_toArray, List.set_cons_zero, List.set_cons_succ]
    refine par_take ⟨some 105, _, _, _, _, _⟩ (.slice pd D.length cd) rfl (by rfl) ?_ ?_
    · intro w hSw; have hcc : w.cell? ⟨db, 0, none⟩ = some (.slice pd D.length cd) := (hSw.cell (p := ⟨db, 0, none⟩) hd.1).trans hd.2; go_simp
    simp only [Act.put, List.setIfInBounds_toArray, List.set_cons_zero, List.set_cons_succ]
    refine par_take ⟨some 106, _, _, _, _, _⟩ (.int .i64 D.length) rfl (by rfl) ?_ ?_
    · intro w hSw; go_simp
    simp only [Act.put, List.setIfInBounds_toArray, List.set_cons_zero, List.set_cons_succ]
    refine par_take ⟨some 107, _, _, _, _, _⟩ (.int .i64 ((D.length : Int) + 1)) rfl (by rfl) ?_ ?_
    · intro w hSw; go_simp; exact i64_id (by omega) (by omega)
    simp only [Act.put, List.setIfInBounds_toArray, List.set_cons_zero, List.set_cons_succ]
    refine par_take ⟨some 108, _, _, _, _, _⟩ (.bool false) rfl (by rfl) ?_ ?_
    · intro w hSw; go_simp; first | done | (rw [decide_eq_false_iff_not]; omega) | omega
    simp only [Act.put, List.setIfInBounds_toArray, List.set_cons_zero, List.set_cons_succ]
    refine par_take ⟨some 109, _, _, _, _, _⟩ (.bool false) rfl (by rfl) ?_ ?_
    · intro w hSw; go_simp
    simp only [Act.put, List.setIfInBounds_toArray, List.set_cons_zero, List.set_cons_succ]
    refine par_take ⟨some 110, _, _, _, _, _⟩ (.bool false) rfl (by rfl) ?_ ?_
    · intro w hSw; go_simp
    simp only [Act.put, List.setIfInBounds_toArray, List.set_cons_zero, List.set_cons_succ]
    refine par_take ⟨some 111, _, _, _, _, _⟩ (.pointer (some ⟨eb, 0, none⟩)) rfl (by rfl) ?_ ?_
    · intro w hSw; go_simp
    simp only [Act.put, List.setIfInBounds_toArray, List.set_cons_zero, List.set_cons_succ]
    refine par_take ⟨some 112, _, _, _, _, _⟩ (.slice pe E.length ce) rfl (by rfl) ?_ ?_
    · intro w hSw; have hcc : w.cell? ⟨eb, 0, none⟩ = some (.slice pe E.length ce) := (hSw.cell (p := ⟨eb, 0, none⟩) he.1).trans he.2; go_simp
    simp only [Act.put, List.setIfInBounds_toArray, List.set_cons_zero, List.set_cons_succ]
    refine par_take ⟨some 113, _, _, _, _, _⟩ (.pointer (some ⟨db, 0, none⟩)) rfl (by rfl) ?_ ?_
    · intro w hSw; go_simp
    simp only [Act.put, List.setIfInBounds_toArray, List.set_cons_zero, List.set_cons_succ]
    refine par_take ⟨some 114, _, _, _, _, _⟩ (.slice pd D.length cd) rfl (by rfl) ?_ ?_
    · intro w hSw; have hcc : w.cell? ⟨db, 0, none⟩ = some (.slice pd D.length cd) := (hSw.cell (p := ⟨db, 0, none⟩) hd.1).trans hd.2; go_simp
    simp only [Act.put, List.setIfInBounds_toArray, List.set_cons_zero, List.set_cons_succ]
    refine par_take ⟨some 115, _, _, _, _, _⟩ (.int .i64 D.length) rfl (by rfl) ?_ ?_
    · intro w hSw; go_simp
    simp only [Act.put, List.setIfInBounds_toArray, List.set_cons_zero, List.set_cons_succ]
    refine par_take ⟨some 116, _, _, _, _, _⟩ (.slice pe D.length ce) rfl (by rfl) ?_ ?_
    · intro w hSw; go_simp; (try (intro hh; omega))
    simp only [Act.put, List.setIfInBounds_toArray, List.set_cons_zero, List.set_cons_succ]
    refine par_take ⟨some 117, _, _, _, _, _⟩ (.pointer (some ⟨db, 0, none⟩)) rfl (by rfl) ?_ ?_
    · intro w hSw; go_simp
    simp only [Act.put, List.setIfInBounds_toArray, List.set_cons_zero, List.set_cons_succ]
    refine par_take ⟨some 118, _, _, _, _, _⟩ (.slice pd D.length cd) rfl (by rfl) ?_ ?_
    · intro w hSw; have hcc : w.cell? ⟨db, 0, none⟩ = some (.slice pd D.length cd) := (hSw.cell (p := ⟨db, 0, none⟩) hd.1).trans hd.2; go_simp
    simp only [Act.put, List.setIfInBounds_toArray, List.set_cons_zero, List.set_cons_succ]
    exact ⟨_, _, _, rfl, hS0, (fun e => absurd e (by decide +kernel)), (fun e => absurd e (by decide +kernel)), (fun e => absurd e (by decide +kernel))⟩

/-- A seat's cells at a place. -/
def SeatAt (w : World) (b o : Nat) (cs : List Value) : Prop := b < w.heap.size ∧ w.rangeAt b o cs
theorem SeatAt.below {w w' : World} {b o : Nat} {cs : List Value} (h : SeatAt w b o cs) (hb : RowKit.Below w.heap.size w w') : w'.rangeAt b o cs := fun j v hj => (hb.cell (p := ⟨b, o + j, none⟩) h.1).trans (h.2 j v hj)
attribute [local go_sem] seat_eql

set_option maxHeartbeats 16000000 in
set_option maxRecDepth 100000 in
theorem fst_r26s {s0 s1 s2 s3 s4 s6 s7 s8 s9 s10 s11 s12 s13 s14 s15 s16 s17 s21 s22 s23 s24 s25 s26 s27 s28 s29 s30 s31 s32 s33 s34 s35 s36 s37 s38 s39 s40 s41 s42 s43 s44 s45 s46 s47 s48 s49 s50 s51 s52 s53 s54 s55 s56 s57 s58 s59 s60 s61 s62 s63 s64 s65 s66 s67 s68 s69 s70 s71 s72 s73 s74 s75 s76 s77 s78 s79 s80 s81 s82 s83 s84 s85 s86 s87 s88 s89 s90 s91 s92 s93 s94 s95 s96 s97 s98 s99 s100 s101 s102 s103 s104 s105 s106 s107 s108 s109 s110 s111 s112 s113 s114 s115 s116 s117 s118 s119 s120 s121 s122 s123 s124 s125 s126 s127 s128 s129 s130 s131 s132 s133 s134 s135 s136 s137 s138 s139 s140 s141 s142 s143 s144 s145 s146 s147 s148 s149 s150 s151 s152 s153 s154 s155 s156 s157 s158 s159 s160 s161 s162 : Value} (fb sb : Nat) (cf : Nat) (al : Bool) (rb ro : Nat) (F : List Seat) (x s : Seat) (W : World) (Q : Exit → Act → World → Prop) (hf : fb < W.heap.size ∧ W.cell? ⟨fb, 0, none⟩ = some (.slice (some ⟨rb, ro, none⟩) (F.length + 1) cf)) (hx : SeatAt W rb ro [.int .i64 x.student, .string x.code]) (hs : sb < W.heap.size ∧ ∀ j, W.cell? ⟨sb, j, none⟩ = (#[.int .i64 s.student, .string s.code] : Array Value)[j]?) (hal : eqSeat ⟨x.student, x.code⟩ ⟨s.student, s.code⟩ = al)
    (hQ : ∀   (wx : World), RowKit.Below W.heap.size W wx → Q .normal ⟨List.toArray (s0 :: s1 :: s2 :: s3 :: .bool true :: .bool true :: s6 :: s7 :: s8 :: s9 :: s10 :: s11 :: s12 :: s13 :: s14 :: s15 :: s16 :: s17 :: .pointer (some ⟨sb, 0, none⟩) :: .pointer (some ⟨fb, 0, none⟩) :: .bool al :: s21 :: s22 :: s23 :: s24 :: s25 :: s26 :: s27 :: s28 :: s29 :: s30 :: s31 :: s32 :: s33 :: s34 :: s35 :: s36 :: s37 :: s38 :: s39 :: s40 :: s41 :: s42 :: s43 :: s44 :: s45 :: s46 :: s47 :: s48 :: s49 :: s50 :: s51 :: s52 :: s53 :: s54 :: s55 :: s56 :: s57 :: s58 :: s59 :: s60 :: s61 :: s62 :: s63 :: s64 :: s65 :: s66 :: s67 :: s68 :: s69 :: s70 :: s71 :: s72 :: s73 :: s74 :: s75 :: s76 :: s77 :: s78 :: s79 :: s80 :: s81 :: s82 :: s83 :: s84 :: s85 :: s86 :: s87 :: s88 :: s89 :: s90 :: s91 :: s92 :: s93 :: s94 :: s95 :: s96 :: s97 :: s98 :: s99 :: s100 :: s101 :: s102 :: s103 :: s104 :: s105 :: s106 :: s107 :: s108 :: s109 :: s110 :: s111 :: s112 :: s113 :: s114 :: s115 :: s116 :: s117 :: s118 :: s119 :: s120 :: s121 :: s122 :: s123 :: s124 :: s125 :: s126 :: s127 :: s128 :: s129 :: s130 :: s131 :: s132 :: s133 :: s134 :: s135 :: s136 :: s137 :: s138 :: s139 :: s140 :: s141 :: s142 :: s143 :: s144 :: s145 :: .bool true :: .bool true :: .pointer (some ⟨fb, 0, none⟩) :: .slice (some ⟨rb, ro, none⟩) (F.length + 1) cf :: .int .i64 ((F.length + 1 : Nat)) :: .bool true :: .bool true :: .pointer (some ⟨fb, 0, none⟩) :: .slice (some ⟨rb, ro, none⟩) (F.length + 1) cf :: .pointer (some ⟨rb, ro, none⟩) :: .agg #[.int .i64 x.student, .string x.code] :: .agg #[.int .i64 s.student, .string s.code] :: .bool al :: .bool al :: .bool al :: .bool true :: .bool true :: []), []⟩ wx) :
    (regionOf Try.f3 26).wp Try.prog Q ⟨List.toArray (s0 :: s1 :: s2 :: s3 :: s4 :: .bool true :: s6 :: s7 :: s8 :: s9 :: s10 :: s11 :: s12 :: s13 :: s14 :: s15 :: s16 :: s17 :: .pointer (some ⟨sb, 0, none⟩) :: .pointer (some ⟨fb, 0, none⟩) :: .bool al :: s21 :: s22 :: s23 :: s24 :: s25 :: s26 :: s27 :: s28 :: s29 :: s30 :: s31 :: s32 :: s33 :: s34 :: s35 :: s36 :: s37 :: s38 :: s39 :: s40 :: s41 :: s42 :: s43 :: s44 :: s45 :: s46 :: s47 :: s48 :: s49 :: s50 :: s51 :: s52 :: s53 :: s54 :: s55 :: s56 :: s57 :: s58 :: s59 :: s60 :: s61 :: s62 :: s63 :: s64 :: s65 :: s66 :: s67 :: s68 :: s69 :: s70 :: s71 :: s72 :: s73 :: s74 :: s75 :: s76 :: s77 :: s78 :: s79 :: s80 :: s81 :: s82 :: s83 :: s84 :: s85 :: s86 :: s87 :: s88 :: s89 :: s90 :: s91 :: s92 :: s93 :: s94 :: s95 :: s96 :: s97 :: s98 :: s99 :: s100 :: s101 :: s102 :: s103 :: s104 :: s105 :: s106 :: s107 :: s108 :: s109 :: s110 :: s111 :: s112 :: s113 :: s114 :: s115 :: s116 :: s117 :: s118 :: s119 :: s120 :: s121 :: s122 :: s123 :: s124 :: s125 :: s126 :: s127 :: s128 :: s129 :: s130 :: s131 :: s132 :: s133 :: s134 :: s135 :: s136 :: s137 :: s138 :: s139 :: s140 :: s141 :: s142 :: s143 :: s144 :: s145 :: s146 :: s147 :: s148 :: s149 :: s150 :: s151 :: s152 :: s153 :: s154 :: s155 :: s156 :: s157 :: s158 :: s159 :: s160 :: s161 :: s162 :: []), []⟩ W := by
  refine of_onlyN (K := Q .normal) ?_ (fun _ _ h => h)
  generalize Q .normal = K at hQ ⊢
  have HQ := Lib.hid hQ; clear hQ
  conv => arg 2; whnf
  have hS0 : RowKit.Below W.heap.size W W.drew := (Below.refl _ _).drew
  refine wp_region_par (S := fun w => RowKit.Below W.heap.size W w) (I := fun L' a w => ∃ u4 : Value, a = ⟨List.toArray (s0 :: s1 :: s2 :: s3 :: u4 :: .bool true :: s6 :: s7 :: s8 :: s9 :: s10 :: s11 :: s12 :: s13 :: s14 :: s15 :: s16 :: s17 :: .pointer (some ⟨sb, 0, none⟩) :: .pointer (some ⟨fb, 0, none⟩) :: .bool al :: s21 :: s22 :: s23 :: s24 :: s25 :: s26 :: s27 :: s28 :: s29 :: s30 :: s31 :: s32 :: s33 :: s34 :: s35 :: s36 :: s37 :: s38 :: s39 :: s40 :: s41 :: s42 :: s43 :: s44 :: s45 :: s46 :: s47 :: s48 :: s49 :: s50 :: s51 :: s52 :: s53 :: s54 :: s55 :: s56 :: s57 :: s58 :: s59 :: s60 :: s61 :: s62 :: s63 :: s64 :: s65 :: s66 :: s67 :: s68 :: s69 :: s70 :: s71 :: s72 :: s73 :: s74 :: s75 :: s76 :: s77 :: s78 :: s79 :: s80 :: s81 :: s82 :: s83 :: s84 :: s85 :: s86 :: s87 :: s88 :: s89 :: s90 :: s91 :: s92 :: s93 :: s94 :: s95 :: s96 :: s97 :: s98 :: s99 :: s100 :: s101 :: s102 :: s103 :: s104 :: s105 :: s106 :: s107 :: s108 :: s109 :: s110 :: s111 :: s112 :: s113 :: s114 :: s115 :: s116 :: s117 :: s118 :: s119 :: s120 :: s121 :: s122 :: s123 :: s124 :: s125 :: s126 :: s127 :: s128 :: s129 :: s130 :: s131 :: s132 :: s133 :: s134 :: s135 :: s136 :: s137 :: s138 :: s139 :: s140 :: s141 :: s142 :: s143 :: s144 :: s145 :: .bool true :: .bool true :: .pointer (some ⟨fb, 0, none⟩) :: .slice (some ⟨rb, ro, none⟩) (F.length + 1) cf :: .int .i64 ((F.length + 1 : Nat)) :: .bool true :: .bool true :: .pointer (some ⟨fb, 0, none⟩) :: .slice (some ⟨rb, ro, none⟩) (F.length + 1) cf :: .pointer (some ⟨rb, ro, none⟩) :: .agg #[.int .i64 x.student, .string x.code] :: .agg #[.int .i64 s.student, .string s.code] :: .bool al :: .bool al :: .bool al :: .bool true :: .bool true :: []), []⟩ ∧ (RowKit.Below W.heap.size W w) ∧ (L'.getD 17 false = true → u4 = .bool true)) (pre := fun i L' => L'.size == 18 && ((i == 17))) (fin := fun L' => L'.getD 17 false) [0, 1, 2, 3, 4, 5, 6, 7, 8, 9, 10, 11, 12, 13, 14, 15, 16] 1 (by kernel_rfl) (by kernel_rfl) (by kernel_rfl) (by kernel_rfl) (by decide) hS0 ?_ ?_ ?_
  · intro i L' a w hp hI
    obtain ⟨u4, rfl, hSw, hP17⟩ := hI
    simp only [Bool.and_eq_true, beq_iff_eq] at hp
    obtain ⟨hsz, hp⟩ := hp
    rcases hp with rfl
    · have g17 : (L'.setIfInBounds 17 true).getD 17 false = true := by rw [up_set, if_pos ⟨rfl, by omega⟩]
      have hSn := hSw
      refine par_run ⟨some 4, _, _, _, _, _⟩ (.bool true) w rfl (by rfl) (by go_simp) ?_
      exact ⟨hSn, (.bool true), by simp only [Act.put, List.setIfInBounds_toArray, List.set_cons_zero, List.set_cons_succ], hSn, fun _ => rfl⟩
  · intro L' a w hp hI
    obtain ⟨u4, rfl, hSw, hP17⟩ := hI
    (try simp only [Bool.and_eq_true] at hp)
    have p17 := hp
    obtain rfl := hP17 p17
    exact HQ.out  w hSw
  · refine par_take ⟨some 146, _, _, _, _, _⟩ ?_ rfl (by rfl) ?_ ?_
    rotate_left 1
    · intro w hSw; (try dsimp only at hSw); go_simp; (try with_reducible rfl)
    simp only [Act.put, List.setIfInBounds_toArray, List.set_cons_zero, List.set_cons_succ]
    refine par_take ⟨some 147, _, _, _, _, _⟩ ?_ rfl (by rfl) ?_ ?_
    rotate_left 1
    · intro w hSw; (try dsimp only at hSw); go_simp; (try with_reducible rfl)
    simp only [Act.put, List.setIfInBounds_toArray, List.set_cons_zero, List.set_cons_succ]
    refine par_take ⟨some 148, _, _, _, _, _⟩ (.pointer (some ⟨fb, 0, none⟩)) rfl (by rfl) ?_ ?_
    · intro w hSw; go_simp
    simp only [Act.put, List.setIfInBounds_toArray, List.set_cons_zero, List.set_cons_succ]
    refine par_take ⟨some 149, _, _, _, _, _⟩ (.slice (some ⟨rb, ro, none⟩) (F.length + 1) cf) rfl (by rfl) ?_ ?_
    · intro w hSw; have hcc : w.cell? ⟨fb, 0, none⟩ = some (.slice (some ⟨rb, ro, none⟩) (F.length + 1) cf) := (hSw.cell (p := ⟨fb, 0, none⟩) hf.1).trans hf.2; go_simp
    simp only [Act.put, List.setIfInBounds_toArray, List.set_cons_zero, List.set_cons_succ]
    refine par_take ⟨some 150, _, _, _, _, _⟩ (.int .i64 ((F.length + 1 : Nat))) rfl (by rfl) ?_ ?_
    · intro w hSw; go_simp
    simp only [Act.put, List.setIfInBounds_toArray, List.set_cons_zero, List.set_cons_succ]
    refine par_take ⟨some 151, _, _, _, _, _⟩ (.bool true) rfl (by rfl) ?_ ?_
    · intro w hSw; go_simp; first | done | (rw [decide_eq_true_eq]; omega) | omega
    simp only [Act.put, List.setIfInBounds_toArray, List.set_cons_zero, List.set_cons_succ]
    refine par_take ⟨some 152, _, _, _, _, _⟩ (.bool true) rfl (by rfl) ?_ ?_
    · intro w hSw; go_simp
    simp only [Act.put, List.setIfInBounds_toArray, List.set_cons_zero, List.set_cons_succ]
    refine par_take ⟨some 153, _, _, _, _, _⟩ (.pointer (some ⟨fb, 0, none⟩)) rfl (by rfl) ?_ ?_
    · intro w hSw; go_simp
    simp only [Act.put, List.setIfInBounds_toArray, List.set_cons_zero, List.set_cons_succ]
    refine par_take ⟨some 154, _, _, _, _, _⟩ (.slice (some ⟨rb, ro, none⟩) (F.length + 1) cf) rfl (by rfl) ?_ ?_
    · intro w hSw; have hcc : w.cell? ⟨fb, 0, none⟩ = some (.slice (some ⟨rb, ro, none⟩) (F.length + 1) cf) := (hSw.cell (p := ⟨fb, 0, none⟩) hf.1).trans hf.2; go_simp
    simp only [Act.put, List.setIfInBounds_toArray, List.set_cons_zero, List.set_cons_succ]
    refine par_take ⟨some 155, _, _, _, _, _⟩ (.pointer (some ⟨rb, ro, none⟩)) rfl (by rfl) ?_ ?_
    · intro w hSw; go_simp; try omega
    simp only [Act.put, List.setIfInBounds_toArray, List.set_cons_zero, List.set_cons_succ]
    refine par_take_row ⟨some 156, _, _, _, _, _⟩ rfl (by rfl) 40 (.tmp 155) (by rfl) rb ro (by rfl) [.int .i64 x.student, .string x.code] _ (fun w hSw => hx.below hSw) Try.underlying40 rfl (by kernel_rfl) ?_
    simp only [Act.put, List.setIfInBounds_toArray, List.set_cons_zero, List.set_cons_succ]
    refine par_take_row ⟨some 157, _, _, _, _, _⟩ rfl (by rfl) 40 (.tmp 18) (by rfl) sb 0 (by rfl) [.int .i64 s.student, .string s.code] _ (fun w hSw => or_at hs hSw) Try.underlying40 rfl (by kernel_rfl) ?_
    simp only [Act.put, List.setIfInBounds_toArray, List.set_cons_zero, List.set_cons_succ]
    refine par_take ⟨some 158, _, _, _, _, _⟩ (.bool al) rfl (by rfl) ?_ ?_
    · intro w hSw; go_simp; (rw [← hal]; unfold eqSeat; by_cases h1 : x.student = s.student <;> by_cases h2 : x.code.toList = s.code.toList <;> simp [h1, h2])
    simp only [Act.put, List.setIfInBounds_toArray, List.set_cons_zero, List.set_cons_succ]
    refine par_take ⟨some 159, _, _, _, _, _⟩ (.bool al) rfl (by rfl) ?_ ?_
    · intro w hSw; go_simp
    simp only [Act.put, List.setIfInBounds_toArray, List.set_cons_zero, List.set_cons_succ]
    refine par_take ⟨some 160, _, _, _, _, _⟩ (.bool al) rfl (by rfl) ?_ ?_
    · intro w hSw; go_simp
    simp only [Act.put, List.setIfInBounds_toArray, List.set_cons_zero, List.set_cons_succ]
    refine par_take ⟨some 161, _, _, _, _, _⟩ (.bool true) rfl (by rfl) ?_ ?_
    · intro w hSw; go_simp; try (cases al <;> rfl)
    simp only [Act.put, List.setIfInBounds_toArray, List.set_cons_zero, List.set_cons_succ]
    refine par_take ⟨some 162, _, _, _, _, _⟩ (.bool true) rfl (by rfl) ?_ ?_
    · intro w hSw; go_simp
    simp only [Act.put, List.setIfInBounds_toArray, List.set_cons_zero, List.set_cons_succ]
    exact ⟨_, rfl, hS0, (fun e => absurd e (by decide +kernel))⟩

set_option maxHeartbeats 16000000 in
set_option maxRecDepth 100000 in
theorem fst_r26n {s0 s1 s2 s3 s4 s6 s7 s8 s9 s10 s11 s12 s13 s14 s15 s16 s17 s21 s22 s23 s24 s25 s26 s27 s28 s29 s30 s31 s32 s33 s34 s35 s36 s37 s38 s39 s40 s41 s42 s43 s44 s45 s46 s47 s48 s49 s50 s51 s52 s53 s54 s55 s56 s57 s58 s59 s60 s61 s62 s63 s64 s65 s66 s67 s68 s69 s70 s71 s72 s73 s74 s75 s76 s77 s78 s79 s80 s81 s82 s83 s84 s85 s86 s87 s88 s89 s90 s91 s92 s93 s94 s95 s96 s97 s98 s99 s100 s101 s102 s103 s104 s105 s106 s107 s108 s109 s110 s111 s112 s113 s114 s115 s116 s117 s118 s119 s120 s121 s122 s123 s124 s125 s126 s127 s128 s129 s130 s131 s132 s133 s134 s135 s136 s137 s138 s139 s140 s141 s142 s143 s144 s145 s146 s147 s148 s149 s150 s151 s152 s153 s154 s155 s156 s157 s158 s159 s160 s161 s162 : Value} (fb sb : Nat) (cf : Nat) (pf : Option Addr) (W : World) (Q : Exit → Act → World → Prop) (hf : fb < W.heap.size ∧ W.cell? ⟨fb, 0, none⟩ = some (.slice pf 0 cf)) 
    (hQ : ∀   (wx : World), RowKit.Below W.heap.size W wx → Q .normal ⟨List.toArray (s0 :: s1 :: s2 :: s3 :: .bool true :: .bool true :: s6 :: s7 :: s8 :: s9 :: s10 :: s11 :: s12 :: s13 :: s14 :: s15 :: s16 :: s17 :: .pointer (some ⟨sb, 0, none⟩) :: .pointer (some ⟨fb, 0, none⟩) :: .bool false :: s21 :: s22 :: s23 :: s24 :: s25 :: s26 :: s27 :: s28 :: s29 :: s30 :: s31 :: s32 :: s33 :: s34 :: s35 :: s36 :: s37 :: s38 :: s39 :: s40 :: s41 :: s42 :: s43 :: s44 :: s45 :: s46 :: s47 :: s48 :: s49 :: s50 :: s51 :: s52 :: s53 :: s54 :: s55 :: s56 :: s57 :: s58 :: s59 :: s60 :: s61 :: s62 :: s63 :: s64 :: s65 :: s66 :: s67 :: s68 :: s69 :: s70 :: s71 :: s72 :: s73 :: s74 :: s75 :: s76 :: s77 :: s78 :: s79 :: s80 :: s81 :: s82 :: s83 :: s84 :: s85 :: s86 :: s87 :: s88 :: s89 :: s90 :: s91 :: s92 :: s93 :: s94 :: s95 :: s96 :: s97 :: s98 :: s99 :: s100 :: s101 :: s102 :: s103 :: s104 :: s105 :: s106 :: s107 :: s108 :: s109 :: s110 :: s111 :: s112 :: s113 :: s114 :: s115 :: s116 :: s117 :: s118 :: s119 :: s120 :: s121 :: s122 :: s123 :: s124 :: s125 :: s126 :: s127 :: s128 :: s129 :: s130 :: s131 :: s132 :: s133 :: s134 :: s135 :: s136 :: s137 :: s138 :: s139 :: s140 :: s141 :: s142 :: s143 :: s144 :: s145 :: .bool true :: .bool true :: .pointer (some ⟨fb, 0, none⟩) :: .slice pf 0 cf :: .int .i64 (0) :: .bool false :: .bool false :: undef :: undef :: undef :: undef :: undef :: undef :: .bool false :: .bool false :: .bool true :: .bool true :: []), []⟩ wx) :
    (regionOf Try.f3 26).wp Try.prog Q ⟨List.toArray (s0 :: s1 :: s2 :: s3 :: s4 :: .bool true :: s6 :: s7 :: s8 :: s9 :: s10 :: s11 :: s12 :: s13 :: s14 :: s15 :: s16 :: s17 :: .pointer (some ⟨sb, 0, none⟩) :: .pointer (some ⟨fb, 0, none⟩) :: .bool false :: s21 :: s22 :: s23 :: s24 :: s25 :: s26 :: s27 :: s28 :: s29 :: s30 :: s31 :: s32 :: s33 :: s34 :: s35 :: s36 :: s37 :: s38 :: s39 :: s40 :: s41 :: s42 :: s43 :: s44 :: s45 :: s46 :: s47 :: s48 :: s49 :: s50 :: s51 :: s52 :: s53 :: s54 :: s55 :: s56 :: s57 :: s58 :: s59 :: s60 :: s61 :: s62 :: s63 :: s64 :: s65 :: s66 :: s67 :: s68 :: s69 :: s70 :: s71 :: s72 :: s73 :: s74 :: s75 :: s76 :: s77 :: s78 :: s79 :: s80 :: s81 :: s82 :: s83 :: s84 :: s85 :: s86 :: s87 :: s88 :: s89 :: s90 :: s91 :: s92 :: s93 :: s94 :: s95 :: s96 :: s97 :: s98 :: s99 :: s100 :: s101 :: s102 :: s103 :: s104 :: s105 :: s106 :: s107 :: s108 :: s109 :: s110 :: s111 :: s112 :: s113 :: s114 :: s115 :: s116 :: s117 :: s118 :: s119 :: s120 :: s121 :: s122 :: s123 :: s124 :: s125 :: s126 :: s127 :: s128 :: s129 :: s130 :: s131 :: s132 :: s133 :: s134 :: s135 :: s136 :: s137 :: s138 :: s139 :: s140 :: s141 :: s142 :: s143 :: s144 :: s145 :: s146 :: s147 :: s148 :: s149 :: s150 :: s151 :: s152 :: s153 :: s154 :: s155 :: s156 :: s157 :: s158 :: s159 :: s160 :: s161 :: s162 :: []), []⟩ W := by
  refine of_onlyN (K := Q .normal) ?_ (fun _ _ h => h)
  generalize Q .normal = K at hQ ⊢
  have HQ := Lib.hid hQ; clear hQ
  conv => arg 2; whnf
  have hS0 : RowKit.Below W.heap.size W W.drew := (Below.refl _ _).drew
  refine wp_region_par (S := fun w => RowKit.Below W.heap.size W w) (I := fun L' a w => ∃ u4 : Value, a = ⟨List.toArray (s0 :: s1 :: s2 :: s3 :: u4 :: .bool true :: s6 :: s7 :: s8 :: s9 :: s10 :: s11 :: s12 :: s13 :: s14 :: s15 :: s16 :: s17 :: .pointer (some ⟨sb, 0, none⟩) :: .pointer (some ⟨fb, 0, none⟩) :: .bool false :: s21 :: s22 :: s23 :: s24 :: s25 :: s26 :: s27 :: s28 :: s29 :: s30 :: s31 :: s32 :: s33 :: s34 :: s35 :: s36 :: s37 :: s38 :: s39 :: s40 :: s41 :: s42 :: s43 :: s44 :: s45 :: s46 :: s47 :: s48 :: s49 :: s50 :: s51 :: s52 :: s53 :: s54 :: s55 :: s56 :: s57 :: s58 :: s59 :: s60 :: s61 :: s62 :: s63 :: s64 :: s65 :: s66 :: s67 :: s68 :: s69 :: s70 :: s71 :: s72 :: s73 :: s74 :: s75 :: s76 :: s77 :: s78 :: s79 :: s80 :: s81 :: s82 :: s83 :: s84 :: s85 :: s86 :: s87 :: s88 :: s89 :: s90 :: s91 :: s92 :: s93 :: s94 :: s95 :: s96 :: s97 :: s98 :: s99 :: s100 :: s101 :: s102 :: s103 :: s104 :: s105 :: s106 :: s107 :: s108 :: s109 :: s110 :: s111 :: s112 :: s113 :: s114 :: s115 :: s116 :: s117 :: s118 :: s119 :: s120 :: s121 :: s122 :: s123 :: s124 :: s125 :: s126 :: s127 :: s128 :: s129 :: s130 :: s131 :: s132 :: s133 :: s134 :: s135 :: s136 :: s137 :: s138 :: s139 :: s140 :: s141 :: s142 :: s143 :: s144 :: s145 :: .bool true :: .bool true :: .pointer (some ⟨fb, 0, none⟩) :: .slice pf 0 cf :: .int .i64 (0) :: .bool false :: .bool false :: undef :: undef :: undef :: undef :: undef :: undef :: .bool false :: .bool false :: .bool true :: .bool true :: []), []⟩ ∧ (RowKit.Below W.heap.size W w) ∧ (L'.getD 17 false = true → u4 = .bool true)) (pre := fun i L' => L'.size == 18 && ((i == 17))) (fin := fun L' => L'.getD 17 false) [0, 1, 2, 3, 4, 5, 6, 7, 8, 9, 10, 11, 12, 13, 14, 15, 16] 1 (by kernel_rfl) (by kernel_rfl) (by kernel_rfl) (by kernel_rfl) (by decide) hS0 ?_ ?_ ?_
  · intro i L' a w hp hI
    obtain ⟨u4, rfl, hSw, hP17⟩ := hI
    simp only [Bool.and_eq_true, beq_iff_eq] at hp
    obtain ⟨hsz, hp⟩ := hp
    rcases hp with rfl
    · have g17 : (L'.setIfInBounds 17 true).getD 17 false = true := by rw [up_set, if_pos ⟨rfl, by omega⟩]
      have hSn := hSw
      refine par_run ⟨some 4, _, _, _, _, _⟩ (.bool true) w rfl (by rfl) (by go_simp) ?_
      exact ⟨hSn, (.bool true), by simp only [Act.put, List.setIfInBounds_toArray, List.set_cons_zero, List.set_cons_succ], hSn, fun _ => rfl⟩
  · intro L' a w hp hI
    obtain ⟨u4, rfl, hSw, hP17⟩ := hI
    (try simp only [Bool.and_eq_true] at hp)
    have p17 := hp
    obtain rfl := hP17 p17
    exact HQ.out  w hSw
  · refine par_take ⟨some 146, _, _, _, _, _⟩ ?_ rfl (by rfl) ?_ ?_
    rotate_left 1
    · intro w hSw; (try dsimp only at hSw); go_simp; (try with_reducible rfl)
    simp only [Act.put, List.setIfInBounds_toArray, List.set_cons_zero, List.set_cons_succ]
    refine par_take ⟨some 147, _, _, _, _, _⟩ ?_ rfl (by rfl) ?_ ?_
    rotate_left 1
    · intro w hSw; (try dsimp only at hSw); go_simp; (try with_reducible rfl)
    simp only [Act.put, List.setIfInBounds_toArray, List.set_cons_zero, List.set_cons_succ]
    refine par_take ⟨some 148, _, _, _, _, _⟩ (.pointer (some ⟨fb, 0, none⟩)) rfl (by rfl) ?_ ?_
    · intro w hSw; go_simp
    simp only [Act.put, List.setIfInBounds_toArray, List.set_cons_zero, List.set_cons_succ]
    refine par_take ⟨some 149, _, _, _, _, _⟩ (.slice pf 0 cf) rfl (by rfl) ?_ ?_
    · intro w hSw; have hcc : w.cell? ⟨fb, 0, none⟩ = some (.slice pf 0 cf) := (hSw.cell (p := ⟨fb, 0, none⟩) hf.1).trans hf.2; go_simp
    simp only [Act.put, List.setIfInBounds_toArray, List.set_cons_zero, List.set_cons_succ]
    refine par_take ⟨some 150, _, _, _, _, _⟩ (.int .i64 (0)) rfl (by rfl) ?_ ?_
    · intro w hSw; go_simp
    simp only [Act.put, List.setIfInBounds_toArray, List.set_cons_zero, List.set_cons_succ]
    refine par_take ⟨some 151, _, _, _, _, _⟩ (.bool false) rfl (by rfl) ?_ ?_
    · intro w hSw; go_simp; try rfl
    simp only [Act.put, List.setIfInBounds_toArray, List.set_cons_zero, List.set_cons_succ]
    refine par_take ⟨some 152, _, _, _, _, _⟩ (.bool false) rfl (by rfl) ?_ ?_
    · intro w hSw; go_simp
    simp only [Act.put, List.setIfInBounds_toArray, List.set_cons_zero, List.set_cons_succ]
    refine par_skip ⟨some 153, _, _, _, _, _⟩ rfl (by rfl) ?_
    simp only [Act.put, List.setIfInBounds_toArray, List.set_cons_zero, List.set_cons_succ]
    refine par_skip ⟨some 154, _, _, _, _, _⟩ rfl (by rfl) ?_
    simp only [Act.put, List.setIfInBounds_toArray, List.set_cons_zero, List.set_cons_succ]
    refine par_skip ⟨some 155, _, _, _, _, _⟩ rfl (by rfl) ?_
    simp only [Act.put, List.setIfInBounds_toArray, List.set_cons_zero, List.set_cons_succ]
    refine par_skip ⟨some 156, _, _, _, _, _⟩ rfl (by rfl) ?_
    simp only [Act.put, List.setIfInBounds_toArray, List.set_cons_zero, List.set_cons_succ]
    refine par_skip ⟨some 157, _, _, _, _, _⟩ rfl (by rfl) ?_
    simp only [Act.put, List.setIfInBounds_toArray, List.set_cons_zero, List.set_cons_succ]
    refine par_skip ⟨some 158, _, _, _, _, _⟩ rfl (by rfl) ?_
    simp only [Act.put, List.setIfInBounds_toArray, List.set_cons_zero, List.set_cons_succ]
    refine par_take ⟨some 159, _, _, _, _, _⟩ (.bool false) rfl (by rfl) ?_ ?_
    · intro w hSw; go_simp
    simp only [Act.put, List.setIfInBounds_toArray, List.set_cons_zero, List.set_cons_succ]
    refine par_take ⟨some 160, _, _, _, _, _⟩ (.bool false) rfl (by rfl) ?_ ?_
    · intro w hSw; go_simp
    simp only [Act.put, List.setIfInBounds_toArray, List.set_cons_zero, List.set_cons_succ]
    refine par_take ⟨some 161, _, _, _, _, _⟩ (.bool true) rfl (by rfl) ?_ ?_
    · intro w hSw; go_simp; try (cases al <;> rfl)
    simp only [Act.put, List.setIfInBounds_toArray, List.set_cons_zero, List.set_cons_succ]
    refine par_take ⟨some 162, _, _, _, _, _⟩ (.bool true) rfl (by rfl) ?_ ?_
    · intro w hSw; go_simp
    simp only [Act.put, List.setIfInBounds_toArray, List.set_cons_zero, List.set_cons_succ]
    exact ⟨_, rfl, hS0, (fun e => absurd e (by decide +kernel))⟩

set_option maxHeartbeats 4000000 in
set_option maxRecDepth 100000 in
theorem fst_r14 {s0 s1 s2 s3 s4 s5 s9 s10 s11 s13 s16 s17 s18 s19 s20 s21 s22 s23 s24 s25 s26 s27 s28 s29 s30 s31 s32 s33 s34 s35 s36 s37 s38 s39 s40 s41 s42 s43 s44 s45 s46 s47 s48 s49 s50 s51 s52 s53 s54 s55 s56 s57 s58 s59 s60 s61 s62 s63 s64 s65 s66 s67 s68 s69 s70 s71 s72 s73 s74 s75 s76 s77 s78 s79 s80 s81 s82 s83 s84 s85 s86 s87 s88 s89 s90 s91 s92 s93 s94 s95 s96 s97 s98 s99 s100 s101 s102 s103 s104 s105 s106 s107 s108 s109 s110 s111 s112 s113 s114 s115 s116 s117 s118 s119 s120 s121 s122 s123 s124 s125 s126 s127 s128 s129 s130 s131 s132 s133 s134 s135 s136 s137 s138 s139 s140 s141 s142 s143 s144 s145 s146 s147 s148 s149 s150 s151 s152 s153 s154 s155 s156 s157 s158 s159 s160 s161 s162 : Value} (db sb b : Nat) (ov mv : Value) (most : Int) (L : List Off) (M : List Seat) (pd p : Option Addr) (cd c : Nat) (D : List Seat) (s : Seat) (W : World) (Q : Exit → Act → World → Prop) (hc : CatIn W ov mv L M) (hr : RowIn Seat.cells W (.slice pd D.length cd) D) (lD : D.length ≤ 1000) (hdx : W.cell? ⟨db, 0, none⟩ = some (.slice pd D.length cd)) (hcx : b < W.heap.size ∧ ∀ j, W.cell? ⟨b, j, none⟩ = (#[.slice p (D ++ [s]).length c, .slice none 0 0] : Array Value)[j]?) (hsx : ∀ j, W.cell? ⟨sb, j, none⟩ = (#[.int .i64 s.student, .string s.code] : Array Value)[j]?) (hra : RowIn Seat.cells W (.slice p (D ++ [s]).length c) (D ++ [s])) (hwf : ∀ x ∈ D ++ [s], x.wf) (hne : ¬ checkP L M most (D ++ [s]) (D ++ [s]).length = 0)
    (hQ : ∀ (u66 u67 u68 u69 u70 u71 u72 u73 u74 u75 u76 u77 : Value) (wx : World), RowKit.Below W.heap.size W wx → Q .normal ⟨List.toArray (s0 :: s1 :: s2 :: s3 :: s4 :: s5 :: ov :: mv :: .int .i64 most :: s9 :: s10 :: s11 :: .pointer (some ⟨db, 0, none⟩) :: s13 :: .pointer (some ⟨sb, 0, none⟩) :: .pointer (some ⟨b, 0, none⟩) :: s16 :: s17 :: s18 :: s19 :: s20 :: s21 :: s22 :: s23 :: s24 :: s25 :: s26 :: s27 :: s28 :: s29 :: s30 :: s31 :: s32 :: s33 :: s34 :: s35 :: s36 :: s37 :: s38 :: s39 :: s40 :: s41 :: s42 :: s43 :: s44 :: s45 :: s46 :: s47 :: s48 :: s49 :: s50 :: s51 :: s52 :: s53 :: s54 :: s55 :: s56 :: s57 :: s58 :: s59 :: s60 :: s61 :: s62 :: s63 :: s64 :: s65 :: u66 :: u67 :: u68 :: u69 :: u70 :: u71 :: u72 :: u73 :: u74 :: u75 :: u76 :: u77 :: .bool false :: s79 :: s80 :: s81 :: s82 :: s83 :: s84 :: s85 :: s86 :: s87 :: s88 :: s89 :: s90 :: s91 :: s92 :: s93 :: s94 :: s95 :: s96 :: s97 :: s98 :: s99 :: s100 :: s101 :: s102 :: s103 :: s104 :: s105 :: s106 :: s107 :: s108 :: s109 :: s110 :: s111 :: s112 :: s113 :: s114 :: s115 :: s116 :: s117 :: s118 :: s119 :: s120 :: s121 :: s122 :: s123 :: s124 :: s125 :: s126 :: s127 :: s128 :: s129 :: s130 :: s131 :: s132 :: s133 :: s134 :: s135 :: s136 :: s137 :: s138 :: s139 :: s140 :: s141 :: s142 :: s143 :: s144 :: s145 :: s146 :: s147 :: s148 :: s149 :: s150 :: s151 :: s152 :: s153 :: s154 :: s155 :: s156 :: s157 :: s158 :: s159 :: s160 :: s161 :: s162 :: []), []⟩ wx) :
    (regionOf Try.f3 14).wp Try.prog Q ⟨List.toArray (s0 :: s1 :: s2 :: s3 :: s4 :: s5 :: ov :: mv :: .int .i64 most :: s9 :: s10 :: s11 :: .pointer (some ⟨db, 0, none⟩) :: s13 :: .pointer (some ⟨sb, 0, none⟩) :: .pointer (some ⟨b, 0, none⟩) :: s16 :: s17 :: s18 :: s19 :: s20 :: s21 :: s22 :: s23 :: s24 :: s25 :: s26 :: s27 :: s28 :: s29 :: s30 :: s31 :: s32 :: s33 :: s34 :: s35 :: s36 :: s37 :: s38 :: s39 :: s40 :: s41 :: s42 :: s43 :: s44 :: s45 :: s46 :: s47 :: s48 :: s49 :: s50 :: s51 :: s52 :: s53 :: s54 :: s55 :: s56 :: s57 :: s58 :: s59 :: s60 :: s61 :: s62 :: s63 :: s64 :: s65 :: s66 :: s67 :: s68 :: s69 :: s70 :: s71 :: s72 :: s73 :: s74 :: s75 :: s76 :: s77 :: s78 :: s79 :: s80 :: s81 :: s82 :: s83 :: s84 :: s85 :: s86 :: s87 :: s88 :: s89 :: s90 :: s91 :: s92 :: s93 :: s94 :: s95 :: s96 :: s97 :: s98 :: s99 :: s100 :: s101 :: s102 :: s103 :: s104 :: s105 :: s106 :: s107 :: s108 :: s109 :: s110 :: s111 :: s112 :: s113 :: s114 :: s115 :: s116 :: s117 :: s118 :: s119 :: s120 :: s121 :: s122 :: s123 :: s124 :: s125 :: s126 :: s127 :: s128 :: s129 :: s130 :: s131 :: s132 :: s133 :: s134 :: s135 :: s136 :: s137 :: s138 :: s139 :: s140 :: s141 :: s142 :: s143 :: s144 :: s145 :: s146 :: s147 :: s148 :: s149 :: s150 :: s151 :: s152 :: s153 :: s154 :: s155 :: s156 :: s157 :: s158 :: s159 :: s160 :: s161 :: s162 :: []), []⟩ W := by
  refine of_onlyN (K := Q .normal) ?_ (fun _ _ h => h)
  generalize Q .normal = K at hQ ⊢
  have HQ := Lib.hid hQ; clear hQ
  conv => arg 2; whnf
  have HC := Lib.hid hc
  have HR := Lib.hid hr
  have HA := Lib.hid hra
  have HW := Lib.hid hwf
  have hla : (D ++ [s]).length ≤ 1000000 := by rw [List.length_append, List.length_singleton]; omega
  have hcl := hcx.1
  replace hcx := hcx.2
  clear hc hr hra hwf
  obtain ⟨e, he⟩ : ∃ e, checkP L M most (D ++ [s]) (D ++ [s]).length = e := ⟨_, rfl⟩
  rw [he] at hne
  have HE := Lib.hid he
  clear he
  generalize hna : (D ++ [s]).length = na at hcx hla HA HE
  have HN := Lib.hid hna
  clear hna
  by_cases hm : s ∈ D
  · have hd1 : decide (s ∈ D) = true := decide_eq_true hm
    go_wp2_with fail
    refine (hasSeat_any (.slice pd D.length cd) D s W HR.out (by omega)).mono ?_
    rintro _ w8 ⟨rfl, hb⟩
    rw [hd1]
    go_wp2_with fail
    exact HQ.out _ _ _ _ _ _ _ _ _ _ _ _ _ hb
  · have hd1 : decide (s ∈ D) = false := decide_eq_false hm
    go_wp2_with fail
    refine (hasSeat_any (.slice pd D.length cd) D s W HR.out (by omega)).mono ?_
    rintro _ w8 ⟨rfl, hb⟩
    have hcy : ∀ j, w8.cell? ⟨b, j, none⟩ = (#[.slice p na c, .slice none 0 0] : Array Value)[j]? := fun j => (hb.cell (p := ⟨b, j, none⟩) hcl).trans (hcx j)
    have hck := check_any ov mv (.slice p na c) (.slice none 0 0) L M most (D ++ [s]) [] w8 (HC.out.below hb) (HA.out.below hb) (RowIn.nil _ _) (by rw [List.length_append, List.length_singleton]; omega) HW.out
    have t1 : (e == 0) = false := by rw [beq_eq_false_iff_ne]; exact hne
    have t2 : decide (e = 0) = false := decide_eq_false hne
    have HK : Hid (Calls Try.prog 11 #[ov, mv, .int .i64 most, .agg #[.slice p na c, .slice none 0 0]] w8 fun x w' => x = .returned (.int .i64 e) ∧ RowKit.Below w8.heap.size w8 w') := Lib.hid (by rw [HN.out, HE.out] at hck; exact hck)
    clear hcx hdx hsx hck
    rw [hd1]
    go_wp2_with fail
    refine HK.out.mono ?_
    rintro _ w9 ⟨rfl, hb2⟩
    have hb3 := below_next hb hb2
    go_wp2_with fail
    exact HQ.out _ _ _ _ _ _ _ _ _ _ _ _ _ hb3
end Go.Proofs.Ytbihaoadgcckhaa
