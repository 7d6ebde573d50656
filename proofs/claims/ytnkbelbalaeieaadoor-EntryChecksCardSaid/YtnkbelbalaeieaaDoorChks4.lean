/- quadriviumlaw10.EntryChecks: append(some(l, q), raw). -/
import Derived.Test.YtnkbelbalaeieaaDoorBodR
import Derived.Test.YtnkbelbalaeieaaDoorFlow2
namespace Go.Proofs.YtnkbelbalaeieaaDoor
open Go Go.RowKit Go.Sort Go.Lib
attribute [local go_sem] Ent.cells
theorem chks_flow4 : treeOk .any (opsIn (regionOf Tryd.f5 4)) (Array.replicate (opsIn (regionOf Tryd.f5 4)).size false) (.take 0 (.take 1 (.take 3 (.take 7 (.two 2 4 (.one 4 (.one 5 (.take 6 .done))) (.one 2 (.one 5 (.take 6 .done)))))))) = true := by kernel_rfl

set_option maxHeartbeats 4000000 in
set_option maxRecDepth 100000 in
theorem chks_r4 {s1 s2 s3 s6 s7 s8 s9 s10 s11 s12 s13 s14 s15 s16 s17 s18 s19 s20 s21 s22 s23 s24 s25 s26 s27 s28 s29 s30 s31 s32 s33 s34 s35 s36 s37 s38 s39 s40 s41 s42 s43 s44 s45 s46 s47 s48 s49 s50 s51 s52 s53 s54 s55 s56 s57 s58 s59 s60 s61 s62 s63 s64 s65 s66 s67 s68 s69 s70 s71 s72 s73 s74 s75 s76 s77 s78 s79 s80 s81 s82 s83 s84 s85 : Value} (A : Option Addr) (n c qb rb : Nat) (a b c' d : Int) (raw : Ent) (W : World) (Q : Exit → Act → World → Prop) (ha : I64 a) (hb : I64 b) (hc : I64 c') (hd : I64 d) (hq : W.heap[qb]? = some (.cells #[.int .i64 a, .int .i64 b, .int .i64 c', .int .i64 d] 24 (0, 0))) (hr : EntBox W rb raw) (hI : ∀ w', RowKit.Below W.heap.size W w' → IntsIn w'.heap.size A n w')
    (hQ : ∀ (u17 u18 u19 u20 u21 : Value) (g cap : Nat) (es : List Ent) (wx : World), es.length ≤ 1000 → (∀ e ∈ es, Ent.Ok e) → Ents W.heap.size wx (.slice (some ⟨g, 0, none⟩) (es.length + 1) cap) (es ++ [raw]) → RowKit.Below W.heap.size W wx → Q .normal ⟨List.toArray (.slice A n c :: s1 :: s2 :: s3 :: .pointer (some ⟨qb, 0, none⟩) :: .pointer (some ⟨rb, 0, none⟩) :: s6 :: s7 :: s8 :: s9 :: s10 :: s11 :: s12 :: s13 :: s14 :: s15 :: s16 :: u17 :: u18 :: u19 :: u20 :: u21 :: .slice (some ⟨g, 0, none⟩) (es.length + 1) cap :: .int .i64 ((es.length + 1 : Nat) : Int) :: .int .i64 0 :: s25 :: s26 :: s27 :: s28 :: s29 :: s30 :: s31 :: s32 :: s33 :: s34 :: s35 :: s36 :: s37 :: s38 :: s39 :: s40 :: s41 :: s42 :: s43 :: s44 :: s45 :: s46 :: s47 :: s48 :: s49 :: s50 :: s51 :: s52 :: s53 :: s54 :: s55 :: s56 :: s57 :: s58 :: s59 :: s60 :: s61 :: s62 :: s63 :: s64 :: s65 :: s66 :: s67 :: s68 :: s69 :: s70 :: s71 :: s72 :: s73 :: s74 :: s75 :: s76 :: s77 :: s78 :: s79 :: s80 :: s81 :: s82 :: s83 :: s84 :: s85 :: []), []⟩ wx) :
    (regionOf Tryd.f5 4).wp Tryd.prog Q ⟨List.toArray (.slice A n c :: s1 :: s2 :: s3 :: .pointer (some ⟨qb, 0, none⟩) :: .pointer (some ⟨rb, 0, none⟩) :: s6 :: s7 :: s8 :: s9 :: s10 :: s11 :: s12 :: s13 :: s14 :: s15 :: s16 :: s17 :: s18 :: s19 :: s20 :: s21 :: s22 :: s23 :: s24 :: s25 :: s26 :: s27 :: s28 :: s29 :: s30 :: s31 :: s32 :: s33 :: s34 :: s35 :: s36 :: s37 :: s38 :: s39 :: s40 :: s41 :: s42 :: s43 :: s44 :: s45 :: s46 :: s47 :: s48 :: s49 :: s50 :: s51 :: s52 :: s53 :: s54 :: s55 :: s56 :: s57 :: s58 :: s59 :: s60 :: s61 :: s62 :: s63 :: s64 :: s65 :: s66 :: s67 :: s68 :: s69 :: s70 :: s71 :: s72 :: s73 :: s74 :: s75 :: s76 :: s77 :: s78 :: s79 :: s80 :: s81 :: s82 :: s83 :: s84 :: s85 :: []), []⟩ W := by
  refine of_onlyN (K := Q .normal) ?_ (fun _ _ h => h)
  generalize Q .normal = K at hQ ⊢
  have HQ := Lib.hid hQ; clear hQ
  conv => arg 2; whnf
  obtain ⟨i0, hi0, hz0, hz1, hz2⟩ := info_parts ent_info
  have hbd : RowKit.Below W.heap.size W W.drew := (Below.refl W.heap.size W).drew
  have hS := bod_keep hq hr hbd
  refine wp_region_tree (S := (fun w' => RowKit.Below W.heap.size W w' ∧ (∀ j, w'.cell? ⟨rb, j, none⟩ = raw.cells[j]?) ∧ w'.cell? ⟨qb, 0, none⟩ = some (.int .i64 a) ∧ w'.cell? ⟨qb, 1, none⟩ = some (.int .i64 b) ∧ w'.cell? ⟨qb, 2, none⟩ = some (.int .i64 c') ∧ w'.cell? ⟨qb, 3, none⟩ = some (.int .i64 d))) (.take 0 (.take 1 (.take 3 (.take 7 (.two 2 4 (.one 4 (.one 5 (.take 6 .done))) (.one 2 (.one 5 (.take 6 .done)))))))) (by kernel_rfl) (by kernel_rfl) chks_flow4 (by decide) hS ?_
  generalize W.drew = w1 at hS hbd ⊢
  refine tree_take ⟨some 17, _, _, _, _, _⟩ ?_ rfl (by rfl) ?_ ?_
  rotate_left 1
  · intro w hSw; (try dsimp only at hSw); go_simp; (try with_reducible rfl)
  simp only [Act.put, List.setIfInBounds_toArray, List.set_cons_zero, List.set_cons_succ]
  refine tree_take ⟨some 18, _, _, _, _, _⟩ ?_ rfl (by rfl) ?_ ?_
  rotate_left 1
  · intro w hSw; (try dsimp only at hSw); go_simp; (try with_reducible rfl)
  simp only [Act.put, List.setIfInBounds_toArray, List.set_cons_zero, List.set_cons_succ]
  refine tree_load ⟨some 20, _, _, _, _, _⟩ raw rb rfl (by rfl) _ (by rfl) (by rfl) (fun w hS => hS.2.1) ?_
  simp only [Act.put, List.setIfInBounds_toArray, List.set_cons_zero, List.set_cons_succ]
  refine tree_take ⟨some 24, _, _, _, _, _⟩ ?_ rfl (by rfl) ?_ ?_
  rotate_left 1
  · intro w hSw; (try dsimp only at hSw); go_simp; (try with_reducible rfl)
  simp only [Act.put, List.setIfInBounds_toArray, List.set_cons_zero, List.set_cons_succ]
  refine tree_two ?_ ?_
  · refine come_call ⟨some 19, _, _, _, _, _⟩ rfl (by rfl) 10 _ _ (by rfl) [.slice A n c, .agg #[.int .i64 a, .int .i64 b, .int .i64 c', .int .i64 d]] (by rfl) Tryd.call10 (some_any A n c a b c' d _ ha hb hc hd (hI _ hS.1)) ?_
    rintro x w2 ⟨v, es, rfl, hl, hok, hes, hbs⟩
    replace hes := bod_own hes hS
    replace hS := bod_next hq hr hS hbs
    (try replace hB := (hbs.block _ (lt_of_heap hB)).trans hB)
    refine ⟨_, rfl, hS, ?_⟩
    clear hbs
    obtain ⟨w1, rfl⟩ : ∃ w, w = w2 := ⟨_, rfl⟩
    simp only [Act.put, List.setIfInBounds_toArray, List.set_cons_zero, List.set_cons_succ]
    refine tree_one (come_run ⟨some 21, _, _, _, _, _⟩ (.slice (some ⟨w1.heap.size, 0, none⟩) 1 1) (w1.alloc (.cells raw.cells 26)) rfl (by rfl) ?_ ?_)
    · go_simp
    have hB := heap_alloc_new w1 (.cells raw.cells 26)
    replace hS := bod_next hq hr hS (below_alloc1 w1 (.cells raw.cells 26))
    (try replace hes := Ents.below hes (below_alloc1 w1 (.cells raw.cells 26)))
    refine ⟨hS, ?_⟩
    generalize w1.heap.size = nb at hB ⊢
    generalize w1.alloc (.cells raw.cells 26) = w2 at *
    obtain ⟨w1, rfl⟩ : ∃ w, w = w2 := ⟨_, rfl⟩
    simp only [Act.put, List.setIfInBounds_toArray, List.set_cons_zero, List.set_cons_succ]
    refine tree_one (come_op ⟨some 22, _, _, _, _, _⟩ rfl (by rfl) (wp_append_lies w1 (.tmp 19) (.tmp 21) 28 (by rfl) W.heap.size 26 i0 _ 15 136 Tryd.underlying28 hi0 hz0 hz1 hz2 rfl (by decide) v es.length (entCells es) (by rfl) hes ⟨nb, 0, none⟩ 1 1 raw.cells.toList (by rfl) rfl (World.news_of_block hB) (ent_one raw) (by decide) (by unfold maxLen; omega) (by omega) hS.1.size _ rfl ?_))
    intro g cap w5 hown5 hgrow _ _
    replace hS := bod_keep hq hr (hS.1.grown hgrow hS.1.size (fun q hq => (World.ownsRow.lt hes q hq).1))
    refine ⟨hS, ?_⟩
    simp only [Act.put, List.setIfInBounds_toArray, List.set_cons_zero, List.set_cons_succ]
    refine tree_take ⟨some 23, _, _, _, _, _⟩ ?_ rfl (by rfl) ?_ ?_
    rotate_left 1
    · intro w hSw; (try dsimp only at hSw); go_simp; (try with_reducible rfl)
    simp only [Act.put, List.setIfInBounds_toArray, List.set_cons_zero, List.set_cons_succ]
    refine HQ.out _ _ _ _ _ g cap es w5 hl hok ?_ hS.1
    unfold Ents
    rw [← entCells_snoc, List.length_append]
    exact hown5
  · refine come_run ⟨some 21, _, _, _, _, _⟩ (.slice (some ⟨w1.heap.size, 0, none⟩) 1 1) (w1.alloc (.cells raw.cells 26)) rfl (by rfl) ?_ ?_
    · go_simp
    have hB := heap_alloc_new w1 (.cells raw.cells 26)
    replace hS := bod_next hq hr hS (below_alloc1 w1 (.cells raw.cells 26))
    (try replace hes := Ents.below hes (below_alloc1 w1 (.cells raw.cells 26)))
    refine ⟨hS, ?_⟩
    generalize w1.heap.size = nb at hB ⊢
    generalize w1.alloc (.cells raw.cells 26) = w2 at *
    obtain ⟨w1, rfl⟩ : ∃ w, w = w2 := ⟨_, rfl⟩
    simp only [Act.put, List.setIfInBounds_toArray, List.set_cons_zero, List.set_cons_succ]
    refine tree_one (come_call ⟨some 19, _, _, _, _, _⟩ rfl (by rfl) 10 _ _ (by rfl) [.slice A n c, .agg #[.int .i64 a, .int .i64 b, .int .i64 c', .int .i64 d]] (by rfl) Tryd.call10 (some_any A n c a b c' d _ ha hb hc hd (hI _ hS.1)) ?_)
    rintro x w2 ⟨v, es, rfl, hl, hok, hes, hbs⟩
    replace hes := bod_own hes hS
    replace hS := bod_next hq hr hS hbs
    (try replace hB := (hbs.block _ (lt_of_heap hB)).trans hB)
    refine ⟨_, rfl, hS, ?_⟩
    clear hbs
    obtain ⟨w1, rfl⟩ : ∃ w, w = w2 := ⟨_, rfl⟩
    simp only [Act.put, List.setIfInBounds_toArray, List.set_cons_zero, List.set_cons_succ]
    refine tree_one (come_op ⟨some 22, _, _, _, _, _⟩ rfl (by rfl) (wp_append_lies w1 (.tmp 19) (.tmp 21) 28 (by rfl) W.heap.size 26 i0 _ 15 136 Tryd.underlying28 hi0 hz0 hz1 hz2 rfl (by decide) v es.length (entCells es) (by rfl) hes ⟨nb, 0, none⟩ 1 1 raw.cells.toList (by rfl) rfl (World.news_of_block hB) (ent_one raw) (by decide) (by unfold maxLen; omega) (by omega) hS.1.size _ rfl ?_))
    intro g cap w5 hown5 hgrow _ _
    replace hS := bod_keep hq hr (hS.1.grown hgrow hS.1.size (fun q hq => (World.ownsRow.lt hes q hq).1))
    refine ⟨hS, ?_⟩
    simp only [Act.put, List.setIfInBounds_toArray, List.set_cons_zero, List.set_cons_succ]
    refine tree_take ⟨some 23, _, _, _, _, _⟩ ?_ rfl (by rfl) ?_ ?_
    rotate_left 1
    · intro w hSw; (try dsimp only at hSw); go_simp; (try with_reducible rfl)
    simp only [Act.put, List.setIfInBounds_toArray, List.set_cons_zero, List.set_cons_succ]
    refine HQ.out _ _ _ _ _ g cap es w5 hl hok ?_ hS.1
    unfold Ents
    rw [← entCells_snoc, List.length_append]
    exact hown5

end Go.Proofs.YtnkbelbalaeieaaDoor
