/- The law MarketGives: the student and the two courses. -/
import Derived.Test.YtbihaoadgcckhaaFlowN
import Derived.Test.YtbihaoadgcckhaaMkGp
namespace Go.Proofs.Ytbihaoadgcckhaa
open Go Go.Proofs Go.RowKit Go.Maps Go.Sort Go.Lib

theorem codes_all (w : World) : Calls Try.prog 17 #[] w fun e w' => ∃ g, e = .returned (.slice (some ⟨g, 0, none⟩) 6 6) ∧ (∀ (k : Nat) c, codesL[k]? = some c → w'.cell? ⟨g, k, none⟩ = some (.string c)) ∧ RowKit.Below w.heap.size w w' := by
  refine (codes_any w).mono ?_
  rintro _ w' ⟨rfl, rfl⟩
  refine ⟨_, rfl, fun k c hk => ?_, below_alloc1 _ _⟩
  rw [Lib.cell_of_heap (heap_alloc_new w _)]
  have hk6 : k < 6 := (List.getElem?_eq_some_iff.1 hk).1
  have : k = 0 ∨ k = 1 ∨ k = 2 ∨ k = 3 ∨ k = 4 ∨ k = 5 := by omega
  rcases this with rfl | rfl | rfl | rfl | rfl | rfl <;> (simp only [codesL] at hk; injection hk with hk; subst hk; rfl)

set_option maxHeartbeats 4000000 in
set_option maxRecDepth 100000 in
theorem giv_r3 {s0 s1 s2 s4 s5 s6 s7 s8 s9 s10 s11 s12 s13 s14 s15 s16 s17 s18 s19 s20 s21 s22 s23 s24 s25 s26 s27 s28 s29 s30 s31 s32 s33 s34 s35 s36 s37 s38 s39 s40 s41 s42 s43 s44 s45 s46 s47 s48 s49 s50 s51 s52 s53 s54 s55 s56 s57 s58 s59 s60 s61 s62 s63 s64 s65 s66 s67 s68 s69 s70 s71 s72 s73 s74 s75 s76 s77 s78 s79 s80 s81 s82 s83 s84 s85 s86 s87 s88 s89 s90 s91 s92 s93 s94 s95 s96 s97 s98 s99 s100 s101 s102 s103 s104 s105 s106 s107 s108 s109 s110 s111 s112 s113 s114 s115 s116 s117 s118 s119 s120 s121 s122 s123 s124 s125 s126 s127 s128 s129 s130 s131 s132 s133 : Value} (nb : Nat) (n0 n1 n2 j0 k1 k2 : Nat) (s : Int) (g c : ByteArray) (W : World) (Q : Exit → Act → World → Prop) (hnb : ∀ j, W.cell? ⟨nb, j, none⟩ = (#[.int .u8 n0, .int .u8 n1, .int .u8 n2] : Array Value)[j]?) (h0 : n0 ≤ 255) (h1 : n1 ≤ 255) (h2 : n2 ≤ 255) (hk1 : n1 % 6 = k1) (hk2 : n2 % 6 = k2) (hj0 : n0 % 5 = j0) (hs : s = 1 + (j0 : Int)) (hg : codesL[k1]? = some g) (hc : codesL[k2]? = some c)
    (hQ : ∀ (u26 u27 u28 u29 u30 u31 u32 u33 u34 u35 u36 u37 u38 u39 u40 u41 u42 u43 u44 : Value) (wx : World), RowKit.Below W.heap.size W wx → Q .normal ⟨List.toArray (s0 :: s1 :: s2 :: .pointer (some ⟨nb, 0, none⟩) :: s4 :: s5 :: s6 :: s7 :: s8 :: s9 :: .int .i64 s :: .string g :: .string c :: s13 :: s14 :: s15 :: s16 :: s17 :: s18 :: s19 :: s20 :: s21 :: s22 :: s23 :: s24 :: s25 :: u26 :: u27 :: u28 :: u29 :: u30 :: u31 :: u32 :: u33 :: u34 :: u35 :: u36 :: u37 :: u38 :: u39 :: u40 :: u41 :: u42 :: u43 :: u44 :: s45 :: s46 :: s47 :: s48 :: s49 :: s50 :: s51 :: s52 :: s53 :: s54 :: s55 :: s56 :: s57 :: s58 :: s59 :: s60 :: s61 :: s62 :: s63 :: s64 :: s65 :: s66 :: s67 :: s68 :: s69 :: s70 :: s71 :: s72 :: s73 :: s74 :: s75 :: s76 :: s77 :: s78 :: s79 :: s80 :: s81 :: s82 :: s83 :: s84 :: s85 :: s86 :: s87 :: s88 :: s89 :: s90 :: s91 :: s92 :: s93 :: s94 :: s95 :: s96 :: s97 :: s98 :: s99 :: s100 :: s101 :: s102 :: s103 :: s104 :: s105 :: s106 :: s107 :: s108 :: s109 :: s110 :: s111 :: s112 :: s113 :: s114 :: s115 :: s116 :: s117 :: s118 :: s119 :: s120 :: s121 :: s122 :: s123 :: s124 :: s125 :: s126 :: s127 :: s128 :: s129 :: s130 :: s131 :: s132 :: s133 :: []), []⟩ wx) :
    (regionOf Try.f5 3).wp Try.prog Q ⟨List.toArray (s0 :: s1 :: s2 :: .pointer (some ⟨nb, 0, none⟩) :: s4 :: s5 :: s6 :: s7 :: s8 :: s9 :: s10 :: s11 :: s12 :: s13 :: s14 :: s15 :: s16 :: s17 :: s18 :: s19 :: s20 :: s21 :: s22 :: s23 :: s24 :: s25 :: s26 :: s27 :: s28 :: s29 :: s30 :: s31 :: s32 :: s33 :: s34 :: s35 :: s36 :: s37 :: s38 :: s39 :: s40 :: s41 :: s42 :: s43 :: s44 :: s45 :: s46 :: s47 :: s48 :: s49 :: s50 :: s51 :: s52 :: s53 :: s54 :: s55 :: s56 :: s57 :: s58 :: s59 :: s60 :: s61 :: s62 :: s63 :: s64 :: s65 :: s66 :: s67 :: s68 :: s69 :: s70 :: s71 :: s72 :: s73 :: s74 :: s75 :: s76 :: s77 :: s78 :: s79 :: s80 :: s81 :: s82 :: s83 :: s84 :: s85 :: s86 :: s87 :: s88 :: s89 :: s90 :: s91 :: s92 :: s93 :: s94 :: s95 :: s96 :: s97 :: s98 :: s99 :: s100 :: s101 :: s102 :: s103 :: s104 :: s105 :: s106 :: s107 :: s108 :: s109 :: s110 :: s111 :: s112 :: s113 :: s114 :: s115 :: s116 :: s117 :: s118 :: s119 :: s120 :: s121 :: s122 :: s123 :: s124 :: s125 :: s126 :: s127 :: s128 :: s129 :: s130 :: s131 :: s132 :: s133 :: []), []⟩ W := by
  refine of_onlyN (K := Q .normal) ?_ (fun _ _ h => h)
  generalize Q .normal = K at hQ ⊢
  have HQ := Lib.hid hQ; clear hQ
  conv => arg 2; whnf
  have m1 : (n1 : Int).tmod 6 = (k1 : Int) := by rw [Int.tmod_eq_emod_of_nonneg (by omega)]; omega
  have m2 : (n2 : Int).tmod 6 = (k2 : Int) := by rw [Int.tmod_eq_emod_of_nonneg (by omega)]; omega
  have m0 : (n0 : Int).tmod 5 = (j0 : Int) := by rw [Int.tmod_eq_emod_of_nonneg (by omega)]; omega
  have ms : IntKind.i64.wrap (1 + (j0 : Int)) = s := by rw [IntWalk.i64_in _ (by omega)]; exact hs.symm
  have l1 : (k1 : Int) < 6 := by omega
  have l2 : (k2 : Int) < 6 := by omega
  have z1 : (0 : Int) ≤ (k1 : Int) := by omega
  have z2 : (0 : Int) ≤ (k2 : Int) := by omega
  have w0 : IntKind.i64.wrap (n0 : Int) = (n0 : Int) := IntWalk.i64_in _ (by omega)
  have w1 : IntKind.i64.wrap (n1 : Int) = (n1 : Int) := IntWalk.i64_in _ (by omega)
  have w2 : IntKind.i64.wrap (n2 : Int) = (n2 : Int) := IntWalk.i64_in _ (by omega)
  have HG := Lib.hid hg
  have HC := Lib.hid hc
  clear hg hc hk1 hk2 hs hj0
  have hS0 : Mo.Cells W [(nb, 0, .int .u8 n0), (nb, 1, .int .u8 n1), (nb, 2, .int .u8 n2)] W.drew := Mo.Cells.drew (Mo.cells_cons.2 ⟨hnb 0, Mo.cells_cons.2 ⟨hnb 1, Mo.cells_cons.2 ⟨hnb 2, Mo.Cells.begin W⟩⟩⟩)
  refine of_onlyN ?_ (fun _ _ h => h)
  refine Mo.wp_region_flow (S := Mo.Cells W [(nb, 0, .int .u8 n0), (nb, 1, .int .u8 n1), (nb, 2, .int .u8 n2)]) [(0, true), (1, true), (2, true), (3, true), (4, true), (6, true), (7, true), (8, true), (9, true), (13, true), (14, true), (15, true), (16, true), (5, false), (10, true), (11, true), (12, false), (17, true), (18, true), (19, true), (20, true), (21, true)] (by kernel_rfl) (by kernel_rfl) (by kernel_rfl) (by decide) (hS0) ?_
  have hS := hS0
  refine Mo.flow_take ⟨some 26, _, _, _, _, _⟩ ?_ rfl (by rfl) ?_ hS ?_
  rotate_left 1
  · intro w hSw; (try dsimp only at hSw); simp only [Mo.cells_cons] at hSw; go_simp; (try with_reducible rfl)
  simp only [Act.put, List.setIfInBounds_toArray, List.set_cons_zero, List.set_cons_succ]
  refine Mo.flow_take ⟨some 27, _, _, _, _, _⟩ ?_ rfl (by rfl) ?_ hS ?_
  rotate_left 1
  · intro w hSw; (try dsimp only at hSw); simp only [Mo.cells_cons] at hSw; go_simp; (try with_reducible rfl)
  simp only [Act.put, List.setIfInBounds_toArray, List.set_cons_zero, List.set_cons_succ]
  refine Mo.flow_take ⟨some 28, _, _, _, _, _⟩ ?_ rfl (by rfl) ?_ hS ?_
  rotate_left 1
  · intro w hSw; (try dsimp only at hSw); simp only [Mo.cells_cons] at hSw; go_simp; (try with_reducible rfl)
  simp only [Act.put, List.setIfInBounds_toArray, List.set_cons_zero, List.set_cons_succ]
  refine Mo.flow_take ⟨some 29, _, _, _, _, _⟩ (.int .i64 (j0 : Int)) rfl (by rfl) (fun w hSw => by go_simp; (try rw [m0])) hS ?_
  (try simp only [Act.put, List.setIfInBounds_toArray, List.set_cons_zero, List.set_cons_succ])
  refine Mo.flow_take ⟨some 30, _, _, _, _, _⟩ (.int .i64 s) rfl (by rfl) (fun w hSw => by go_simp; (try rw [ms])) hS ?_
  (try simp only [Act.put, List.setIfInBounds_toArray, List.set_cons_zero, List.set_cons_succ])
  refine Mo.flow_take ⟨some 32, _, _, _, _, _⟩ ?_ rfl (by rfl) ?_ hS ?_
  rotate_left 1
  · intro w hSw; (try dsimp only at hSw); simp only [Mo.cells_cons] at hSw; go_simp; (try with_reducible rfl)
  simp only [Act.put, List.setIfInBounds_toArray, List.set_cons_zero, List.set_cons_succ]
  refine Mo.flow_take ⟨some 33, _, _, _, _, _⟩ ?_ rfl (by rfl) ?_ hS ?_
  rotate_left 1
  · intro w hSw; (try dsimp only at hSw); simp only [Mo.cells_cons] at hSw; go_simp; (try with_reducible rfl)
  simp only [Act.put, List.setIfInBounds_toArray, List.set_cons_zero, List.set_cons_succ]
  refine Mo.flow_take ⟨some 34, _, _, _, _, _⟩ ?_ rfl (by rfl) ?_ hS ?_
  rotate_left 1
  · intro w hSw; (try dsimp only at hSw); simp only [Mo.cells_cons] at hSw; go_simp; (try with_reducible rfl)
  simp only [Act.put, List.setIfInBounds_toArray, List.set_cons_zero, List.set_cons_succ]
  refine Mo.flow_take ⟨some 35, _, _, _, _, _⟩ (.int .i64 (k1 : Int)) rfl (by rfl) (fun w hSw => by go_simp; (try rw [m1])) hS ?_
  (try simp only [Act.put, List.setIfInBounds_toArray, List.set_cons_zero, List.set_cons_succ])
  refine Mo.flow_take ⟨some 39, _, _, _, _, _⟩ ?_ rfl (by rfl) ?_ hS ?_
  rotate_left 1
  · intro w hSw; (try dsimp only at hSw); simp only [Mo.cells_cons] at hSw; go_simp; (try with_reducible rfl)
  simp only [Act.put, List.setIfInBounds_toArray, List.set_cons_zero, List.set_cons_succ]
  refine Mo.flow_take ⟨some 40, _, _, _, _, _⟩ ?_ rfl (by rfl) ?_ hS ?_
  rotate_left 1
  · intro w hSw; (try dsimp only at hSw); simp only [Mo.cells_cons] at hSw; go_simp; (try with_reducible rfl)
  simp only [Act.put, List.setIfInBounds_toArray, List.set_cons_zero, List.set_cons_succ]
  refine Mo.flow_take ⟨some 41, _, _, _, _, _⟩ ?_ rfl (by rfl) ?_ hS ?_
  rotate_left 1
  · intro w hSw; (try dsimp only at hSw); simp only [Mo.cells_cons] at hSw; go_simp; (try with_reducible rfl)
  simp only [Act.put, List.setIfInBounds_toArray, List.set_cons_zero, List.set_cons_succ]
  refine Mo.flow_take ⟨some 42, _, _, _, _, _⟩ (.int .i64 (k2 : Int)) rfl (by rfl) (fun w hSw => by go_simp; (try rw [m2])) hS ?_
  (try simp only [Act.put, List.setIfInBounds_toArray, List.set_cons_zero, List.set_cons_succ])
  refine Mo.flow_call ⟨some 31, _, _, _, _, _⟩ rfl (by rfl) 17 _ _ (by rfl) _ (by rfl) Try.call17 (codes_all _) ?_; rintro x wn ⟨gb, rfl, hcell, hb⟩; replace hS := Mo.Cells.next hS hb; refine ⟨_, rfl, hS, ?_⟩; (try clear hb)
  simp only [Act.put, List.setIfInBounds_toArray, List.set_cons_zero, List.set_cons_succ]
  refine Mo.flow_more _ (fun _ h => h.less) (Mo.Cells.more (hcell k1 g HG.out) hS) ?_; replace hS := Mo.Cells.more (hcell k1 g HG.out) hS; refine Mo.flow_take ⟨some 36, _, _, _, _, _⟩ (.pointer (some ⟨gb, k1, none⟩)) rfl (by rfl) (fun w hSw => by go_simp) hS ?_
  (try simp only [Act.put, List.setIfInBounds_toArray, List.set_cons_zero, List.set_cons_succ])
  refine Mo.flow_take ⟨some 37, _, _, _, _, _⟩ ?_ rfl (by rfl) ?_ hS ?_
  rotate_left 1
  · intro w hSw; (try dsimp only at hSw); simp only [Mo.cells_cons] at hSw; go_simp; (try with_reducible rfl)
  simp only [Act.put, List.setIfInBounds_toArray, List.set_cons_zero, List.set_cons_succ]
  refine Mo.flow_call ⟨some 38, _, _, _, _, _⟩ rfl (by rfl) 17 _ _ (by rfl) _ (by rfl) Try.call17 (codes_all _) ?_; rintro x wn ⟨gb, rfl, hcell, hb⟩; replace hS := Mo.Cells.next hS hb; refine ⟨_, rfl, hS, ?_⟩; (try clear hb)
  simp only [Act.put, List.setIfInBounds_toArray, List.set_cons_zero, List.set_cons_succ]
  refine Mo.flow_more _ (fun _ h => h.less) (Mo.Cells.more (hcell k2 c HC.out) hS) ?_; replace hS := Mo.Cells.more (hcell k2 c HC.out) hS; refine Mo.flow_take ⟨some 43, _, _, _, _, _⟩ (.pointer (some ⟨gb, k2, none⟩)) rfl (by rfl) (fun w hSw => by go_simp) hS ?_
  (try simp only [Act.put, List.setIfInBounds_toArray, List.set_cons_zero, List.set_cons_succ])
  refine Mo.flow_take ⟨some 44, _, _, _, _, _⟩ ?_ rfl (by rfl) ?_ hS ?_
  rotate_left 1
  · intro w hSw; (try dsimp only at hSw); simp only [Mo.cells_cons] at hSw; go_simp; (try with_reducible rfl)
  simp only [Act.put, List.setIfInBounds_toArray, List.set_cons_zero, List.set_cons_succ]
  refine Mo.flow_take ⟨some 10, _, _, _, _, _⟩ ?_ rfl (by rfl) ?_ hS ?_
  rotate_left 1
  · intro w hSw; (try dsimp only at hSw); simp only [Mo.cells_cons] at hSw; go_simp; (try with_reducible rfl)
  simp only [Act.put, List.setIfInBounds_toArray, List.set_cons_zero, List.set_cons_succ]
  refine Mo.flow_take ⟨some 11, _, _, _, _, _⟩ ?_ rfl (by rfl) ?_ hS ?_
  rotate_left 1
  · intro w hSw; (try dsimp only at hSw); simp only [Mo.cells_cons] at hSw; go_simp; (try with_reducible rfl)
  simp only [Act.put, List.setIfInBounds_toArray, List.set_cons_zero, List.set_cons_succ]
  refine Mo.flow_take ⟨some 12, _, _, _, _, _⟩ ?_ rfl (by rfl) ?_ hS ?_
  rotate_left 1
  · intro w hSw; (try dsimp only at hSw); simp only [Mo.cells_cons] at hSw; go_simp; (try with_reducible rfl)
  simp only [Act.put, List.setIfInBounds_toArray, List.set_cons_zero, List.set_cons_succ]
  simp only [Mo.wpFlow, OnlyN]
  exact HQ.out _ _ _ _ _ _ _ _ _ _ _ _ _ _ _ _ _ _ _ _ hS.1

end Go.Proofs.Ytbihaoadgcckhaa
