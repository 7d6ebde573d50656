/- quadriviumref10.Key, walked. -/
import Derived.Test.YtnkbelbalaeieaaDoorRefK
import Derived.Test.YtnkbelbalaeieaaDoorFlow2
namespace Go.Proofs.YtnkbelbalaeieaaDoor
open Go Go.RowKit Go.Sort Go.Lib
attribute [local go_sem] Ent.cells
theorem conv_at (w : World) (b : Nat) (x : Int) (h : w.cell? ⟨b, 0, none⟩ = some (.int .u8 x)) : (convert 58 9 (.slice (some ⟨b, 0, none⟩) 1 1)).run Tryd.prog w = .ok (.string ⟨#[UInt8.ofNat x.toNat]⟩) w :=
  run_convert_bytes_arg _ 58 5 Tryd.underlying58 Tryd.underlying5 b 0 1 1 [x] rfl (fun i hi => by
    match i, hi with
    | 0, _ => exact h) 9 Tryd.underlying9
theorem six_size (n : Nat) : (sixL n).length = 6 := rfl
theorem keycat (e : Ent) (a b c : Nat) (ha : e.student = a) (hb : e.on = b) (hc : e.id = c) (hk : 1 ≤ e.kind ∧ e.kind ≤ 9) :
    (⟨(sixL a).toArray⟩ : ByteArray) ++ ⟨#[32]⟩ ++ ⟨(sixL b).toArray⟩ ++ ⟨#[32]⟩ ++ ⟨(sixL c).toArray⟩ ++ ⟨#[32]⟩ ++ ⟨#[UInt8.ofNat (48 + e.kind).toNat]⟩ = ⟨(keyL e).toArray⟩ := by
  have h1 : (48 + e.kind).toNat = 48 + e.kind.toNat := by omega
  refine ba_ext ?_
  simp only [ba_app, keyL, ha, hb, hc, h1, Int.toNat_natCast]
  simp
attribute [local go_sem] six_size
theorem refkey_flow : treeOk .any (opsIn (regionOf Tryd.f20 3)) (Array.replicate (opsIn (regionOf Tryd.f20 3)).size false) (.take 0 (.take 1 (.take 4 (.take 5 (.take 9 (.take 10 (.take 14 (.take 15 (.take 16 (.take 17 (.two 2 18 (.take 3 (.two 6 18 (.take 7 (.take 8 (.two 11 18 (.take 12 (.take 13 (.one 18 (.one 19 (.take 20 (.take 21 .done)))))) (.two 11 19 (.take 12 (.take 13 (.one 19 (.take 20 (.take 21 .done))))) (.one 11 (.take 12 (.take 13 (.take 20 (.take 21 .done))))))))) (.two 6 19 (.take 7 (.take 8 (.two 11 19 (.take 12 (.take 13 (.one 19 (.take 20 (.take 21 .done))))) (.one 11 (.take 12 (.take 13 (.take 20 (.take 21 .done)))))))) (.one 6 (.take 7 (.take 8 (.one 11 (.take 12 (.take 13 (.take 20 (.take 21 .done))))))))))) (.two 2 19 (.take 3 (.two 6 19 (.take 7 (.take 8 (.two 11 19 (.take 12 (.take 13 (.one 19 (.take 20 (.take 21 .done))))) (.one 11 (.take 12 (.take 13 (.take 20 (.take 21 .done)))))))) (.one 6 (.take 7 (.take 8 (.one 11 (.take 12 (.take 13 (.take 20 (.take 21 .done)))))))))) (.one 2 (.take 3 (.one 6 (.take 7 (.take 8 (.one 11 (.take 12 (.take 13 (.take 20 (.take 21 .done)))))))))))))))))))))) = true := by kernel_rfl

set_option maxHeartbeats 4000000 in
set_option maxRecDepth 100000 in
theorem refkey_r3 {s0 s2 s3 s4 s5 s6 s7 s8 s9 s10 s11 s12 s13 s14 s15 s16 s17 s18 s19 s20 s21 s22 s23 s24 s25 s26 : Value} (eb a b c : Nat) (e : Ent) (W : World) (Q : Exit → Act → World → Prop) (hx : EntBox W eb e) (ha : e.student = a) (hb : e.on = b) (hc : e.id = c) (ba : a ≤ 999999) (bb : b ≤ 999999) (bc : c ≤ 999999) (hk : 1 ≤ e.kind ∧ e.kind ≤ 9)
    (hQ : ∀ (u6 u7 u8 u9 u10 u11 u12 u13 u14 u15 u16 u17 u18 u19 u20 u21 u22 u23 u24 u25 u26 : Value) (s : ByteArray) (wx : World), s = ⟨(keyL e).toArray⟩ → RowKit.Below W.heap.size W wx → Q .normal ⟨List.toArray (s0 :: .pointer (some ⟨eb, 0, none⟩) :: .string s :: s3 :: s4 :: s5 :: u6 :: u7 :: u8 :: u9 :: u10 :: u11 :: u12 :: u13 :: u14 :: u15 :: u16 :: u17 :: u18 :: u19 :: u20 :: u21 :: u22 :: u23 :: u24 :: u25 :: u26 :: []), []⟩ wx) :
    (regionOf Tryd.f20 3).wp Tryd.prog Q ⟨List.toArray (s0 :: .pointer (some ⟨eb, 0, none⟩) :: s2 :: s3 :: s4 :: s5 :: s6 :: s7 :: s8 :: s9 :: s10 :: s11 :: s12 :: s13 :: s14 :: s15 :: s16 :: s17 :: s18 :: s19 :: s20 :: s21 :: s22 :: s23 :: s24 :: s25 :: s26 :: []), []⟩ W := by
  refine of_onlyN (K := Q .normal) ?_ (fun _ _ h => h)
  generalize Q .normal = K at hQ ⊢
  have HQ := Lib.hid hQ; clear hQ
  conv => arg 2; whnf
  have hbd : RowKit.Below W.heap.size W W.drew := (Below.refl W.heap.size W).drew
  have hS : RowKit.Below W.heap.size W W.drew ∧ (∀ j, W.drew.cell? ⟨eb, j, none⟩ = e.cells[j]?) := ⟨hbd, (hx.below hbd).cell⟩
  have hw2 : IntKind.u8.wrap (48 + e.kind) = 48 + e.kind := by simp [IntKind.wrap, IntKind.signed, IntKind.bits]; omega
  have hw1 : IntKind.i64.wrap (48 + e.kind) = 48 + e.kind := IntWalk.i64_in _ (by omega)
  refine wp_region_tree (S := (fun w' => RowKit.Below W.heap.size W w' ∧ (∀ j, w'.cell? ⟨eb, j, none⟩ = e.cells[j]?))) (.take 0 (.take 1 (.take 4 (.take 5 (.take 9 (.take 10 (.take 14 (.take 15 (.take 16 (.take 17 (.two 2 18 (.take 3 (.two 6 18 (.take 7 (.take 8 (.two 11 18 (.take 12 (.take 13 (.one 18 (.one 19 (.take 20 (.take 21 .done)))))) (.two 11 19 (.take 12 (.take 13 (.one 19 (.take 20 (.take 21 .done))))) (.one 11 (.take 12 (.take 13 (.take 20 (.take 21 .done))))))))) (.two 6 19 (.take 7 (.take 8 (.two 11 19 (.take 12 (.take 13 (.one 19 (.take 20 (.take 21 .done))))) (.one 11 (.take 12 (.take 13 (.take 20 (.take 21 .done)))))))) (.one 6 (.take 7 (.take 8 (.one 11 (.take 12 (.take 13 (.take 20 (.take 21 .done))))))))))) (.two 2 19 (.take 3 (.two 6 19 (.take 7 (.take 8 (.two 11 19 (.take 12 (.take 13 (.one 19 (.take 20 (.take 21 .done))))) (.one 11 (.take 12 (.take 13 (.take 20 (.take 21 .done)))))))) (.one 6 (.take 7 (.take 8 (.one 11 (.take 12 (.take 13 (.take 20 (.take 21 .done)))))))))) (.one 2 (.take 3 (.one 6 (.take 7 (.take 8 (.one 11 (.take 12 (.take 13 (.take 20 (.take 21 .done)))))))))))))))))))))) (by kernel_rfl) (by kernel_rfl) refkey_flow (by decide) hS ?_
  generalize W.drew = w1 at hS hbd ⊢
  refine tree_take ⟨some 6, _, _, _, _, _⟩ ?_ rfl (by rfl) ?_ ?_
  rotate_left 1
  · intro w hSw; (try dsimp only at hSw); go_simp; (try with_reducible rfl)
  simp only [Act.put, List.setIfInBounds_toArray, List.set_cons_zero, List.set_cons_succ]
  refine tree_take ⟨some 7, _, _, _, _, _⟩ ?_ rfl (by rfl) ?_ ?_
  rotate_left 1
  · intro w hSw; (try dsimp only at hSw); go_simp; (try with_reducible rfl)
  simp only [Act.put, List.setIfInBounds_toArray, List.set_cons_zero, List.set_cons_succ]
  refine tree_take ⟨some 10, _, _, _, _, _⟩ ?_ rfl (by rfl) ?_ ?_
  rotate_left 1
  · intro w hSw; (try dsimp only at hSw); go_simp; (try with_reducible rfl)
  simp only [Act.put, List.setIfInBounds_toArray, List.set_cons_zero, List.set_cons_succ]
  refine tree_take ⟨some 11, _, _, _, _, _⟩ ?_ rfl (by rfl) ?_ ?_
  rotate_left 1
  · intro w hSw; (try dsimp only at hSw); go_simp; (try with_reducible rfl)
  simp only [Act.put, List.setIfInBounds_toArray, List.set_cons_zero, List.set_cons_succ]
  refine tree_take ⟨some 15, _, _, _, _, _⟩ ?_ rfl (by rfl) ?_ ?_
  rotate_left 1
  · intro w hSw; (try dsimp only at hSw); go_simp; (try with_reducible rfl)
  simp only [Act.put, List.setIfInBounds_toArray, List.set_cons_zero, List.set_cons_succ]
  refine tree_take ⟨some 16, _, _, _, _, _⟩ ?_ rfl (by rfl) ?_ ?_
  rotate_left 1
  · intro w hSw; (try dsimp only at hSw); go_simp; (try with_reducible rfl)
  simp only [Act.put, List.setIfInBounds_toArray, List.set_cons_zero, List.set_cons_succ]
  refine tree_take ⟨some 20, _, _, _, _, _⟩ ?_ rfl (by rfl) ?_ ?_
  rotate_left 1
  · intro w hSw; (try dsimp only at hSw); go_simp; (try with_reducible rfl)
  simp only [Act.put, List.setIfInBounds_toArray, List.set_cons_zero, List.set_cons_succ]
  refine tree_take ⟨some 21, _, _, _, _, _⟩ ?_ rfl (by rfl) ?_ ?_
  rotate_left 1
  · intro w hSw; (try dsimp only at hSw); go_simp; (try with_reducible rfl)
  simp only [Act.put, List.setIfInBounds_toArray, List.set_cons_zero, List.set_cons_succ]
  refine tree_take ⟨some 22, _, _, _, _, _⟩ ?_ rfl (by rfl) ?_ ?_
  rotate_left 1
  · intro w hSw; (try dsimp only at hSw); go_simp; (try with_reducible rfl)
  simp only [Act.put, List.setIfInBounds_toArray, List.set_cons_zero, List.set_cons_succ]
  refine tree_take ⟨some 23, _, _, _, _, _⟩ ?_ rfl (by rfl) ?_ ?_
  rotate_left 1
  · intro w hSw; (try dsimp only at hSw); go_simp; (try with_reducible rfl)
  simp only [Act.put, List.setIfInBounds_toArray, List.set_cons_zero, List.set_cons_succ]
  refine tree_two ?_ ?_
  · refine come_call ⟨some 8, _, _, _, _, _⟩ rfl (by rfl) 57 _ _ (by rfl) [.int .i64 ((a : Nat) : Int)] (by rfl) Tryd.call57 (refSix_any a _ (by omega)) ?_
    rintro r w1 ⟨rfl, hb1⟩
    replace hS := EntBox.of_cells (e := e) hS hb1
    (try replace hB := (hb1.block _ (lt_of_heap hB)).trans hB)
    refine ⟨_, rfl, hS, ?_⟩
    clear hb1
    simp only [Act.put, List.setIfInBounds_toArray, List.set_cons_zero, List.set_cons_succ]
    refine tree_take ⟨some 9, _, _, _, _, _⟩ ?_ rfl (by rfl) ?_ ?_
    rotate_left 1
    · intro w hSw; (try dsimp only at hSw); go_simp; (try with_reducible rfl)
    simp only [Act.put, List.setIfInBounds_toArray, List.set_cons_zero, List.set_cons_succ]
    refine tree_two ?_ ?_
    · refine come_call ⟨some 12, _, _, _, _, _⟩ rfl (by rfl) 57 _ _ (by rfl) [.int .i64 ((b : Nat) : Int)] (by rfl) Tryd.call57 (refSix_any b _ (by omega)) ?_
      rintro r w1 ⟨rfl, hb1⟩
      replace hS := EntBox.of_cells (e := e) hS hb1
      (try replace hB := (hb1.block _ (lt_of_heap hB)).trans hB)
      refine ⟨_, rfl, hS, ?_⟩
      clear hb1
      simp only [Act.put, List.setIfInBounds_toArray, List.set_cons_zero, List.set_cons_succ]
      refine tree_take ⟨some 13, _, _, _, _, _⟩ ?_ rfl (by rfl) ?_ ?_
      rotate_left 1
      · intro w hSw; (try dsimp only at hSw); go_simp; (try with_reducible rfl)
      simp only [Act.put, List.setIfInBounds_toArray, List.set_cons_zero, List.set_cons_succ]
      refine tree_take ⟨some 14, _, _, _, _, _⟩ ?_ rfl (by rfl) ?_ ?_
      rotate_left 1
      · intro w hSw; (try dsimp only at hSw); go_simp; (try with_reducible rfl)
      simp only [Act.put, List.setIfInBounds_toArray, List.set_cons_zero, List.set_cons_succ]
      refine tree_two ?_ ?_
      · refine come_call ⟨some 17, _, _, _, _, _⟩ rfl (by rfl) 57 _ _ (by rfl) [.int .i64 ((c : Nat) : Int)] (by rfl) Tryd.call57 (refSix_any c _ (by omega)) ?_
        rintro r w1 ⟨rfl, hb1⟩
        replace hS := EntBox.of_cells (e := e) hS hb1
        (try replace hB := (hb1.block _ (lt_of_heap hB)).trans hB)
        refine ⟨_, rfl, hS, ?_⟩
        clear hb1
        simp only [Act.put, List.setIfInBounds_toArray, List.set_cons_zero, List.set_cons_succ]
        refine tree_take ⟨some 18, _, _, _, _, _⟩ ?_ rfl (by rfl) ?_ ?_
        rotate_left 1
        · intro w hSw; (try dsimp only at hSw); go_simp; (try with_reducible rfl)
        simp only [Act.put, List.setIfInBounds_toArray, List.set_cons_zero, List.set_cons_succ]
        refine tree_take ⟨some 19, _, _, _, _, _⟩ ?_ rfl (by rfl) ?_ ?_
        rotate_left 1
        · intro w hSw; (try dsimp only at hSw); go_simp; (try with_reducible rfl)
        simp only [Act.put, List.setIfInBounds_toArray, List.set_cons_zero, List.set_cons_succ]
        refine tree_one (come_run ⟨some 24, _, _, _, _, _⟩ (.slice (some ⟨w1.heap.size, 0, none⟩) 1 1) (w1.alloc (.cells #[.int .u8 (48 + e.kind)] 5)) rfl (by rfl) ?_ ?_)
        · go_simp
        have hB := heap_alloc_new w1 (.cells #[.int .u8 (48 + e.kind)] 5)
        replace hS := EntBox.of_cells (e := e) hS (below_alloc1 w1 (.cells #[.int .u8 (48 + e.kind)] 5))
        refine ⟨hS, ?_⟩
        generalize w1.heap.size = nb at hB ⊢
        generalize w1.alloc (.cells #[.int .u8 (48 + e.kind)] 5) = w2 at hB hS ⊢
        obtain ⟨w1, rfl⟩ : ∃ w, w = w2 := ⟨_, rfl⟩
        simp only [Act.put, List.setIfInBounds_toArray, List.set_cons_zero, List.set_cons_succ]
        refine tree_one (come_run ⟨some 25, _, _, _, _, _⟩ (.string ⟨#[UInt8.ofNat (48 + e.kind).toNat]⟩) w1 rfl (by rfl) ?_ ?_)
        · have hcv := conv_at w1 nb _ (Lib.cell_of_heap hB 0)
          go_simp
        refine ⟨hS, ?_⟩
        simp only [Act.put, List.setIfInBounds_toArray, List.set_cons_zero, List.set_cons_succ]
        refine tree_take ⟨some 26, _, _, _, _, _⟩ ?_ rfl (by rfl) ?_ ?_
        rotate_left 1
        · intro w hSw; (try dsimp only at hSw); go_simp; (try with_reducible rfl)
        simp only [Act.put, List.setIfInBounds_toArray, List.set_cons_zero, List.set_cons_succ]
        refine tree_take ⟨some 2, _, _, _, _, _⟩ ?_ rfl (by rfl) ?_ ?_
        rotate_left 1
        · intro w hSw; (try dsimp only at hSw); go_simp; (try with_reducible rfl)
        simp only [Act.put, List.setIfInBounds_toArray, List.set_cons_zero, List.set_cons_succ]
        exact HQ.out _ _ _ _ _ _ _ _ _ _ _ _ _ _ _ _ _ _ _ _ _ _ _ (keycat e a b c ha hb hc hk) hS.1
      · refine come_run ⟨some 24, _, _, _, _, _⟩ (.slice (some ⟨w1.heap.size, 0, none⟩) 1 1) (w1.alloc (.cells #[.int .u8 (48 + e.kind)] 5)) rfl (by rfl) ?_ ?_
        · go_simp
        have hB := heap_alloc_new w1 (.cells #[.int .u8 (48 + e.kind)] 5)
        replace hS := EntBox.of_cells (e := e) hS (below_alloc1 w1 (.cells #[.int .u8 (48 + e.kind)] 5))
        refine ⟨hS, ?_⟩
        generalize w1.heap.size = nb at hB ⊢
        generalize w1.alloc (.cells #[.int .u8 (48 + e.kind)] 5) = w2 at hB hS ⊢
        obtain ⟨w1, rfl⟩ : ∃ w, w = w2 := ⟨_, rfl⟩
        simp only [Act.put, List.setIfInBounds_toArray, List.set_cons_zero, List.set_cons_succ]
        refine tree_two ?_ ?_
        · refine come_call ⟨some 17, _, _, _, _, _⟩ rfl (by rfl) 57 _ _ (by rfl) [.int .i64 ((c : Nat) : Int)] (by rfl) Tryd.call57 (refSix_any c _ (by omega)) ?_
          rintro r w1 ⟨rfl, hb1⟩
          replace hS := EntBox.of_cells (e := e) hS hb1
          (try replace hB := (hb1.block _ (lt_of_heap hB)).trans hB)
          refine ⟨_, rfl, hS, ?_⟩
          clear hb1
          simp only [Act.put, List.setIfInBounds_toArray, List.set_cons_zero, List.set_cons_succ]
          refine tree_take ⟨some 18, _, _, _, _, _⟩ ?_ rfl (by rfl) ?_ ?_
          rotate_left 1
          · intro w hSw; (try dsimp only at hSw); go_simp; (try with_reducible rfl)
          simp only [Act.put, List.setIfInBounds_toArray, List.set_cons_zero, List.set_cons_succ]
          refine tree_take ⟨some 19, _, _, _, _, _⟩ ?_ rfl (by rfl) ?_ ?_
          rotate_left 1
          · intro w hSw; (try dsimp only at hSw); go_simp; (try with_reducible rfl)
          simp only [Act.put, List.setIfInBounds_toArray, List.set_cons_zero, List.set_cons_succ]
          refine tree_one (come_run ⟨some 25, _, _, _, _, _⟩ (.string ⟨#[UInt8.ofNat (48 + e.kind).toNat]⟩) w1 rfl (by rfl) ?_ ?_)
          · have hcv := conv_at w1 nb _ (Lib.cell_of_heap hB 0)
            go_simp
          refine ⟨hS, ?_⟩
          simp only [Act.put, List.setIfInBounds_toArray, List.set_cons_zero, List.set_cons_succ]
          refine tree_take ⟨some 26, _, _, _, _, _⟩ ?_ rfl (by rfl) ?_ ?_
          rotate_left 1
          · intro w hSw; (try dsimp only at hSw); go_simp; (try with_reducible rfl)
          simp only [Act.put, List.setIfInBounds_toArray, List.set_cons_zero, List.set_cons_succ]
          refine tree_take ⟨some 2, _, _, _, _, _⟩ ?_ rfl (by rfl) ?_ ?_
          rotate_left 1
          · intro w hSw; (try dsimp only at hSw); go_simp; (try with_reducible rfl)
          simp only [Act.put, List.setIfInBounds_toArray, List.set_cons_zero, List.set_cons_succ]
          exact HQ.out _ _ _ _ _ _ _ _ _ _ _ _ _ _ _ _ _ _ _ _ _ _ _ (keycat e a b c ha hb hc hk) hS.1
        · refine come_run ⟨some 25, _, _, _, _, _⟩ (.string ⟨#[UInt8.ofNat (48 + e.kind).toNat]⟩) w1 rfl (by rfl) ?_ ?_
          · have hcv := conv_at w1 nb _ (Lib.cell_of_heap hB 0)
            go_simp
          refine ⟨hS, ?_⟩
          simp only [Act.put, List.setIfInBounds_toArray, List.set_cons_zero, List.set_cons_succ]
          refine tree_one (come_call ⟨some 17, _, _, _, _, _⟩ rfl (by rfl) 57 _ _ (by rfl) [.int .i64 ((c : Nat) : Int)] (by rfl) Tryd.call57 (refSix_any c _ (by omega)) ?_)
          rintro r w1 ⟨rfl, hb1⟩
          replace hS := EntBox.of_cells (e := e) hS hb1
          (try replace hB := (hb1.block _ (lt_of_heap hB)).trans hB)
          refine ⟨_, rfl, hS, ?_⟩
          clear hb1
          simp only [Act.put, List.setIfInBounds_toArray, List.set_cons_zero, List.set_cons_succ]
          refine tree_take ⟨some 18, _, _, _, _, _⟩ ?_ rfl (by rfl) ?_ ?_
          rotate_left 1
          · intro w hSw; (try dsimp only at hSw); go_simp; (try with_reducible rfl)
          simp only [Act.put, List.setIfInBounds_toArray, List.set_cons_zero, List.set_cons_succ]
          refine tree_take ⟨some 19, _, _, _, _, _⟩ ?_ rfl (by rfl) ?_ ?_
          rotate_left 1
          · intro w hSw; (try dsimp only at hSw); go_simp; (try with_reducible rfl)
          simp only [Act.put, List.setIfInBounds_toArray, List.set_cons_zero, List.set_cons_succ]
          refine tree_take ⟨some 26, _, _, _, _, _⟩ ?_ rfl (by rfl) ?_ ?_
          rotate_left 1
          · intro w hSw; (try dsimp only at hSw); go_simp; (try with_reducible rfl)
          simp only [Act.put, List.setIfInBounds_toArray, List.set_cons_zero, List.set_cons_succ]
          refine tree_take ⟨some 2, _, _, _, _, _⟩ ?_ rfl (by rfl) ?_ ?_
          rotate_left 1
          · intro w hSw; (try dsimp only at hSw); go_simp; (try with_reducible rfl)
          simp only [Act.put, List.setIfInBounds_toArray, List.set_cons_zero, List.set_cons_succ]
          exact HQ.out _ _ _ _ _ _ _ _ _ _ _ _ _ _ _ _ _ _ _ _ _ _ _ (keycat e a b c ha hb hc hk) hS.1
    · refine come_run ⟨some 24, _, _, _, _, _⟩ (.slice (some ⟨w1.heap.size, 0, none⟩) 1 1) (w1.alloc (.cells #[.int .u8 (48 + e.kind)] 5)) rfl (by rfl) ?_ ?_
      · go_simp
      have hB := heap_alloc_new w1 (.cells #[.int .u8 (48 + e.kind)] 5)
      replace hS := EntBox.of_cells (e := e) hS (below_alloc1 w1 (.cells #[.int .u8 (48 + e.kind)] 5))
      refine ⟨hS, ?_⟩
      generalize w1.heap.size = nb at hB ⊢
      generalize w1.alloc (.cells #[.int .u8 (48 + e.kind)] 5) = w2 at hB hS ⊢
      obtain ⟨w1, rfl⟩ : ∃ w, w = w2 := ⟨_, rfl⟩
      simp only [Act.put, List.setIfInBounds_toArray, List.set_cons_zero, List.set_cons_succ]
      refine tree_two ?_ ?_
      · refine come_call ⟨some 12, _, _, _, _, _⟩ rfl (by rfl) 57 _ _ (by rfl) [.int .i64 ((b : Nat) : Int)] (by rfl) Tryd.call57 (refSix_any b _ (by omega)) ?_
        rintro r w1 ⟨rfl, hb1⟩
        replace hS := EntBox.of_cells (e := e) hS hb1
        (try replace hB := (hb1.block _ (lt_of_heap hB)).trans hB)
        refine ⟨_, rfl, hS, ?_⟩
        clear hb1
        simp only [Act.put, List.setIfInBounds_toArray, List.set_cons_zero, List.set_cons_succ]
        refine tree_take ⟨some 13, _, _, _, _, _⟩ ?_ rfl (by rfl) ?_ ?_
        rotate_left 1
        · intro w hSw; (try dsimp only at hSw); go_simp; (try with_reducible rfl)
        simp only [Act.put, List.setIfInBounds_toArray, List.set_cons_zero, List.set_cons_succ]
        refine tree_take ⟨some 14, _, _, _, _, _⟩ ?_ rfl (by rfl) ?_ ?_
        rotate_left 1
        · intro w hSw; (try dsimp only at hSw); go_simp; (try with_reducible rfl)
        simp only [Act.put, List.setIfInBounds_toArray, List.set_cons_zero, List.set_cons_succ]
        refine tree_two ?_ ?_
        · refine come_call ⟨some 17, _, _, _, _, _⟩ rfl (by rfl) 57 _ _ (by rfl) [.int .i64 ((c : Nat) : Int)] (by rfl) Tryd.call57 (refSix_any c _ (by omega)) ?_
          rintro r w1 ⟨rfl, hb1⟩
          replace hS := EntBox.of_cells (e := e) hS hb1
          (try replace hB := (hb1.block _ (lt_of_heap hB)).trans hB)
          refine ⟨_, rfl, hS, ?_⟩
          clear hb1
          simp only [Act.put, List.setIfInBounds_toArray, List.set_cons_zero, List.set_cons_succ]
          refine tree_take ⟨some 18, _, _, _, _, _⟩ ?_ rfl (by rfl) ?_ ?_
          rotate_left 1
          · intro w hSw; (try dsimp only at hSw); go_simp; (try with_reducible rfl)
          simp only [Act.put, List.setIfInBounds_toArray, List.set_cons_zero, List.set_cons_succ]
          refine tree_take ⟨some 19, _, _, _, _, _⟩ ?_ rfl (by rfl) ?_ ?_
          rotate_left 1
          · intro w hSw; (try dsimp only at hSw); go_simp; (try with_reducible rfl)
          simp only [Act.put, List.setIfInBounds_toArray, List.set_cons_zero, List.set_cons_succ]
          refine tree_one (come_run ⟨some 25, _, _, _, _, _⟩ (.string ⟨#[UInt8.ofNat (48 + e.kind).toNat]⟩) w1 rfl (by rfl) ?_ ?_)
          · have hcv := conv_at w1 nb _ (Lib.cell_of_heap hB 0)
            go_simp
          refine ⟨hS, ?_⟩
          simp only [Act.put, List.setIfInBounds_toArray, List.set_cons_zero, List.set_cons_succ]
          refine tree_take ⟨some 26, _, _, _, _, _⟩ ?_ rfl (by rfl) ?_ ?_
          rotate_left 1
          · intro w hSw; (try dsimp only at hSw); go_simp; (try with_reducible rfl)
          simp only [Act.put, List.setIfInBounds_toArray, List.set_cons_zero, List.set_cons_succ]
          refine tree_take ⟨some 2, _, _, _, _, _⟩ ?_ rfl (by rfl) ?_ ?_
          rotate_left 1
          · intro w hSw; (try dsimp only at hSw); go_simp; (try with_reducible rfl)
          simp only [Act.put, List.setIfInBounds_toArray, List.set_cons_zero, List.set_cons_succ]
          exact HQ.out _ _ _ _ _ _ _ _ _ _ _ _ _ _ _ _ _ _ _ _ _ _ _ (keycat e a b c ha hb hc hk) hS.1
        · refine come_run ⟨some 25, _, _, _, _, _⟩ (.string ⟨#[UInt8.ofNat (48 + e.kind).toNat]⟩) w1 rfl (by rfl) ?_ ?_
          · have hcv := conv_at w1 nb _ (Lib.cell_of_heap hB 0)
            go_simp
          refine ⟨hS, ?_⟩
          simp only [Act.put, List.setIfInBounds_toArray, List.set_cons_zero, List.set_cons_succ]
          refine tree_one (come_call ⟨some 17, _, _, _, _, _⟩ rfl (by rfl) 57 _ _ (by rfl) [.int .i64 ((c : Nat) : Int)] (by rfl) Tryd.call57 (refSix_any c _ (by omega)) ?_)
          rintro r w1 ⟨rfl, hb1⟩
          replace hS := EntBox.of_cells (e := e) hS hb1
          (try replace hB := (hb1.block _ (lt_of_heap hB)).trans hB)
          refine ⟨_, rfl, hS, ?_⟩
          clear hb1
          simp only [Act.put, List.setIfInBounds_toArray, List.set_cons_zero, List.set_cons_succ]
          refine tree_take ⟨some 18, _, _, _, _, _⟩ ?_ rfl (by rfl) ?_ ?_
          rotate_left 1
          · intro w hSw; (try dsimp only at hSw); go_simp; (try with_reducible rfl)
          simp only [Act.put, List.setIfInBounds_toArray, List.set_cons_zero, List.set_cons_succ]
          refine tree_take ⟨some 19, _, _, _, _, _⟩ ?_ rfl (by rfl) ?_ ?_
          rotate_left 1
          · intro w hSw; (try dsimp only at hSw); go_simp; (try with_reducible rfl)
          simp only [Act.put, List.setIfInBounds_toArray, List.set_cons_zero, List.set_cons_succ]
          refine tree_take ⟨some 26, _, _, _, _, _⟩ ?_ rfl (by rfl) ?_ ?_
          rotate_left 1
          · intro w hSw; (try dsimp only at hSw); go_simp; (try with_reducible rfl)
          simp only [Act.put, List.setIfInBounds_toArray, List.set_cons_zero, List.set_cons_succ]
          refine tree_take ⟨some 2, _, _, _, _, _⟩ ?_ rfl (by rfl) ?_ ?_
          rotate_left 1
          · intro w hSw; (try dsimp only at hSw); go_simp; (try with_reducible rfl)
          simp only [Act.put, List.setIfInBounds_toArray, List.set_cons_zero, List.set_cons_succ]
          exact HQ.out _ _ _ _ _ _ _ _ _ _ _ _ _ _ _ _ _ _ _ _ _ _ _ (keycat e a b c ha hb hc hk) hS.1
      · refine come_run ⟨some 25, _, _, _, _, _⟩ (.string ⟨#[UInt8.ofNat (48 + e.kind).toNat]⟩) w1 rfl (by rfl) ?_ ?_
        · have hcv := conv_at w1 nb _ (Lib.cell_of_heap hB 0)
          go_simp
        refine ⟨hS, ?_⟩
        simp only [Act.put, List.setIfInBounds_toArray, List.set_cons_zero, List.set_cons_succ]
        refine tree_one (come_call ⟨some 12, _, _, _, _, _⟩ rfl (by rfl) 57 _ _ (by rfl) [.int .i64 ((b : Nat) : Int)] (by rfl) Tryd.call57 (refSix_any b _ (by omega)) ?_)
        rintro r w1 ⟨rfl, hb1⟩
        replace hS := EntBox.of_cells (e := e) hS hb1
        (try replace hB := (hb1.block _ (lt_of_heap hB)).trans hB)
        refine ⟨_, rfl, hS, ?_⟩
        clear hb1
        simp only [Act.put, List.setIfInBounds_toArray, List.set_cons_zero, List.set_cons_succ]
        refine tree_take ⟨some 13, _, _, _, _, _⟩ ?_ rfl (by rfl) ?_ ?_
        rotate_left 1
        · intro w hSw; (try dsimp only at hSw); go_simp; (try with_reducible rfl)
        simp only [Act.put, List.setIfInBounds_toArray, List.set_cons_zero, List.set_cons_succ]
        refine tree_take ⟨some 14, _, _, _, _, _⟩ ?_ rfl (by rfl) ?_ ?_
        rotate_left 1
        · intro w hSw; (try dsimp only at hSw); go_simp; (try with_reducible rfl)
        simp only [Act.put, List.setIfInBounds_toArray, List.set_cons_zero, List.set_cons_succ]
        refine tree_one (come_call ⟨some 17, _, _, _, _, _⟩ rfl (by rfl) 57 _ _ (by rfl) [.int .i64 ((c : Nat) : Int)] (by rfl) Tryd.call57 (refSix_any c _ (by omega)) ?_)
        rintro r w1 ⟨rfl, hb1⟩
        replace hS := EntBox.of_cells (e := e) hS hb1
        (try replace hB := (hb1.block _ (lt_of_heap hB)).trans hB)
        refine ⟨_, rfl, hS, ?_⟩
        clear hb1
        simp only [Act.put, List.setIfInBounds_toArray, List.set_cons_zero, List.set_cons_succ]
        refine tree_take ⟨some 18, _, _, _, _, _⟩ ?_ rfl (by rfl) ?_ ?_
        rotate_left 1
        · intro w hSw; (try dsimp only at hSw); go_simp; (try with_reducible rfl)
        simp only [Act.put, List.setIfInBounds_toArray, List.set_cons_zero, List.set_cons_succ]
        refine tree_take ⟨some 19, _, _, _, _, _⟩ ?_ rfl (by rfl) ?_ ?_
        rotate_left 1
        · intro w hSw; (try dsimp only at hSw); go_simp; (try with_reducible rfl)
        simp only [Act.put, List.setIfInBounds_toArray, List.set_cons_zero, List.set_cons_succ]
        refine tree_take ⟨some 26, _, _, _, _, _⟩ ?_ rfl (by rfl) ?_ ?_
        rotate_left 1
        · intro w hSw; (try dsimp only at hSw); go_simp; (try with_reducible rfl)
        simp only [Act.put, List.setIfInBounds_toArray, List.set_cons_zero, List.set_cons_succ]
        refine tree_take ⟨some 2, _, _, _, _, _⟩ ?_ rfl (by rfl) ?_ ?_
        rotate_left 1
        · intro w hSw; (try dsimp only at hSw); go_simp; (try with_reducible rfl)
        simp only [Act.put, List.setIfInBounds_toArray, List.set_cons_zero, List.set_cons_succ]
        exact HQ.out _ _ _ _ _ _ _ _ _ _ _ _ _ _ _ _ _ _ _ _ _ _ _ (keycat e a b c ha hb hc hk) hS.1
  · refine come_run ⟨some 24, _, _, _, _, _⟩ (.slice (some ⟨w1.heap.size, 0, none⟩) 1 1) (w1.alloc (.cells #[.int .u8 (48 + e.kind)] 5)) rfl (by rfl) ?_ ?_
    · go_simp
    have hB := heap_alloc_new w1 (.cells #[.int .u8 (48 + e.kind)] 5)
    replace hS := EntBox.of_cells (e := e) hS (below_alloc1 w1 (.cells #[.int .u8 (48 + e.kind)] 5))
    refine ⟨hS, ?_⟩
    generalize w1.heap.size = nb at hB ⊢
    generalize w1.alloc (.cells #[.int .u8 (48 + e.kind)] 5) = w2 at hB hS ⊢
    obtain ⟨w1, rfl⟩ : ∃ w, w = w2 := ⟨_, rfl⟩
    simp only [Act.put, List.setIfInBounds_toArray, List.set_cons_zero, List.set_cons_succ]
    refine tree_two ?_ ?_
    · refine come_call ⟨some 8, _, _, _, _, _⟩ rfl (by rfl) 57 _ _ (by rfl) [.int .i64 ((a : Nat) : Int)] (by rfl) Tryd.call57 (refSix_any a _ (by omega)) ?_
      rintro r w1 ⟨rfl, hb1⟩
      replace hS := EntBox.of_cells (e := e) hS hb1
      (try replace hB := (hb1.block _ (lt_of_heap hB)).trans hB)
      refine ⟨_, rfl, hS, ?_⟩
      clear hb1
      simp only [Act.put, List.setIfInBounds_toArray, List.set_cons_zero, List.set_cons_succ]
      refine tree_take ⟨some 9, _, _, _, _, _⟩ ?_ rfl (by rfl) ?_ ?_
      rotate_left 1
      · intro w hSw; (try dsimp only at hSw); go_simp; (try with_reducible rfl)
      simp only [Act.put, List.setIfInBounds_toArray, List.set_cons_zero, List.set_cons_succ]
      refine tree_two ?_ ?_
      · refine come_call ⟨some 12, _, _, _, _, _⟩ rfl (by rfl) 57 _ _ (by rfl) [.int .i64 ((b : Nat) : Int)] (by rfl) Tryd.call57 (refSix_any b _ (by omega)) ?_
        rintro r w1 ⟨rfl, hb1⟩
        replace hS := EntBox.of_cells (e := e) hS hb1
        (try replace hB := (hb1.block _ (lt_of_heap hB)).trans hB)
        refine ⟨_, rfl, hS, ?_⟩
        clear hb1
        simp only [Act.put, List.setIfInBounds_toArray, List.set_cons_zero, List.set_cons_succ]
        refine tree_take ⟨some 13, _, _, _, _, _⟩ ?_ rfl (by rfl) ?_ ?_
        rotate_left 1
        · intro w hSw; (try dsimp only at hSw); go_simp; (try with_reducible rfl)
        simp only [Act.put, List.setIfInBounds_toArray, List.set_cons_zero, List.set_cons_succ]
        refine tree_take ⟨some 14, _, _, _, _, _⟩ ?_ rfl (by rfl) ?_ ?_
        rotate_left 1
        · intro w hSw; (try dsimp only at hSw); go_simp; (try with_reducible rfl)
        simp only [Act.put, List.setIfInBounds_toArray, List.set_cons_zero, List.set_cons_succ]
        refine tree_two ?_ ?_
        · refine come_call ⟨some 17, _, _, _, _, _⟩ rfl (by rfl) 57 _ _ (by rfl) [.int .i64 ((c : Nat) : Int)] (by rfl) Tryd.call57 (refSix_any c _ (by omega)) ?_
          rintro r w1 ⟨rfl, hb1⟩
          replace hS := EntBox.of_cells (e := e) hS hb1
          (try replace hB := (hb1.block _ (lt_of_heap hB)).trans hB)
          refine ⟨_, rfl, hS, ?_⟩
          clear hb1
          simp only [Act.put, List.setIfInBounds_toArray, List.set_cons_zero, List.set_cons_succ]
          refine tree_take ⟨some 18, _, _, _, _, _⟩ ?_ rfl (by rfl) ?_ ?_
          rotate_left 1
          · intro w hSw; (try dsimp only at hSw); go_simp; (try with_reducible rfl)
          simp only [Act.put, List.setIfInBounds_toArray, List.set_cons_zero, List.set_cons_succ]
          refine tree_take ⟨some 19, _, _, _, _, _⟩ ?_ rfl (by rfl) ?_ ?_
          rotate_left 1
          · intro w hSw; (try dsimp only at hSw); go_simp; (try with_reducible rfl)
          simp only [Act.put, List.setIfInBounds_toArray, List.set_cons_zero, List.set_cons_succ]
          refine tree_one (come_run ⟨some 25, _, _, _, _, _⟩ (.string ⟨#[UInt8.ofNat (48 + e.kind).toNat]⟩) w1 rfl (by rfl) ?_ ?_)
          · have hcv := conv_at w1 nb _ (Lib.cell_of_heap hB 0)
            go_simp
          refine ⟨hS, ?_⟩
          simp only [Act.put, List.setIfInBounds_toArray, List.set_cons_zero, List.set_cons_succ]
          refine tree_take ⟨some 26, _, _, _, _, _⟩ ?_ rfl (by rfl) ?_ ?_
          rotate_left 1
          · intro w hSw; (try dsimp only at hSw); go_simp; (try with_reducible rfl)
          simp only [Act.put, List.setIfInBounds_toArray, List.set_cons_zero, List.set_cons_succ]
          refine tree_take ⟨some 2, _, _, _, _, _⟩ ?_ rfl (by rfl) ?_ ?_
          rotate_left 1
          · intro w hSw; (try dsimp only at hSw); go_simp; (try with_reducible rfl)
          simp only [Act.put, List.setIfInBounds_toArray, List.set_cons_zero, List.set_cons_succ]
          exact HQ.out _ _ _ _ _ _ _ _ _ _ _ _ _ _ _ _ _ _ _ _ _ _ _ (keycat e a b c ha hb hc hk) hS.1
        · refine come_run ⟨some 25, _, _, _, _, _⟩ (.string ⟨#[UInt8.ofNat (48 + e.kind).toNat]⟩) w1 rfl (by rfl) ?_ ?_
          · have hcv := conv_at w1 nb _ (Lib.cell_of_heap hB 0)
            go_simp
          refine ⟨hS, ?_⟩
          simp only [Act.put, List.setIfInBounds_toArray, List.set_cons_zero, List.set_cons_succ]
          refine tree_one (come_call ⟨some 17, _, _, _, _, _⟩ rfl (by rfl) 57 _ _ (by rfl) [.int .i64 ((c : Nat) : Int)] (by rfl) Tryd.call57 (refSix_any c _ (by omega)) ?_)
          rintro r w1 ⟨rfl, hb1⟩
          replace hS := EntBox.of_cells (e := e) hS hb1
          (try replace hB := (hb1.block _ (lt_of_heap hB)).trans hB)
          refine ⟨_, rfl, hS, ?_⟩
          clear hb1
          simp only [Act.put, List.setIfInBounds_toArray, List.set_cons_zero, List.set_cons_succ]
          refine tree_take ⟨some 18, _, _, _, _, _⟩ ?_ rfl (by rfl) ?_ ?_
          rotate_left 1
          · intro w hSw; (try dsimp only at hSw); go_simp; (try with_reducible rfl)
          simp only [Act.put, List.setIfInBounds_toArray, List.set_cons_zero, List.set_cons_succ]
          refine tree_take ⟨some 19, _, _, _, _, _⟩ ?_ rfl (by rfl) ?_ ?_
          rotate_left 1
          · intro w hSw; (try dsimp only at hSw); go_simp; (try with_reducible rfl)
          simp only [Act.put, List.setIfInBounds_toArray, List.set_cons_zero, List.set_cons_succ]
          refine tree_take ⟨some 26, _, _, _, _, _⟩ ?_ rfl (by rfl) ?_ ?_
          rotate_left 1
          · intro w hSw; (try dsimp only at hSw); go_simp; (try with_reducible rfl)
          simp only [Act.put, List.setIfInBounds_toArray, List.set_cons_zero, List.set_cons_succ]
          refine tree_take ⟨some 2, _, _, _, _, _⟩ ?_ rfl (by rfl) ?_ ?_
          rotate_left 1
          · intro w hSw; (try dsimp only at hSw); go_simp; (try with_reducible rfl)
          simp only [Act.put, List.setIfInBounds_toArray, List.set_cons_zero, List.set_cons_succ]
          exact HQ.out _ _ _ _ _ _ _ _ _ _ _ _ _ _ _ _ _ _ _ _ _ _ _ (keycat e a b c ha hb hc hk) hS.1
      · refine come_run ⟨some 25, _, _, _, _, _⟩ (.string ⟨#[UInt8.ofNat (48 + e.kind).toNat]⟩) w1 rfl (by rfl) ?_ ?_
        · have hcv := conv_at w1 nb _ (Lib.cell_of_heap hB 0)
          go_simp
        refine ⟨hS, ?_⟩
        simp only [Act.put, List.setIfInBounds_toArray, List.set_cons_zero, List.set_cons_succ]
        refine tree_one (come_call ⟨some 12, _, _, _, _, _⟩ rfl (by rfl) 57 _ _ (by rfl) [.int .i64 ((b : Nat) : Int)] (by rfl) Tryd.call57 (refSix_any b _ (by omega)) ?_)
        rintro r w1 ⟨rfl, hb1⟩
        replace hS := EntBox.of_cells (e := e) hS hb1
        (try replace hB := (hb1.block _ (lt_of_heap hB)).trans hB)
        refine ⟨_, rfl, hS, ?_⟩
        clear hb1
        simp only [Act.put, List.setIfInBounds_toArray, List.set_cons_zero, List.set_cons_succ]
        refine tree_take ⟨some 13, _, _, _, _, _⟩ ?_ rfl (by rfl) ?_ ?_
        rotate_left 1
        · intro w hSw; (try dsimp only at hSw); go_simp; (try with_reducible rfl)
        simp only [Act.put, List.setIfInBounds_toArray, List.set_cons_zero, List.set_cons_succ]
        refine tree_take ⟨some 14, _, _, _, _, _⟩ ?_ rfl (by rfl) ?_ ?_
        rotate_left 1
        · intro w hSw; (try dsimp only at hSw); go_simp; (try with_reducible rfl)
        simp only [Act.put, List.setIfInBounds_toArray, List.set_cons_zero, List.set_cons_succ]
        refine tree_one (come_call ⟨some 17, _, _, _, _, _⟩ rfl (by rfl) 57 _ _ (by rfl) [.int .i64 ((c : Nat) : Int)] (by rfl) Tryd.call57 (refSix_any c _ (by omega)) ?_)
        rintro r w1 ⟨rfl, hb1⟩
        replace hS := EntBox.of_cells (e := e) hS hb1
        (try replace hB := (hb1.block _ (lt_of_heap hB)).trans hB)
        refine ⟨_, rfl, hS, ?_⟩
        clear hb1
        simp only [Act.put, List.setIfInBounds_toArray, List.set_cons_zero, List.set_cons_succ]
        refine tree_take ⟨some 18, _, _, _, _, _⟩ ?_ rfl (by rfl) ?_ ?_
        rotate_left 1
        · intro w hSw; (try dsimp only at hSw); go_simp; (try with_reducible rfl)
        simp only [Act.put, List.setIfInBounds_toArray, List.set_cons_zero, List.set_cons_succ]
        refine tree_take ⟨some 19, _, _, _, _, _⟩ ?_ rfl (by rfl) ?_ ?_
        rotate_left 1
        · intro w hSw; (try dsimp only at hSw); go_simp; (try with_reducible rfl)
        simp only [Act.put, List.setIfInBounds_toArray, List.set_cons_zero, List.set_cons_succ]
        refine tree_take ⟨some 26, _, _, _, _, _⟩ ?_ rfl (by rfl) ?_ ?_
        rotate_left 1
        · intro w hSw; (try dsimp only at hSw); go_simp; (try with_reducible rfl)
        simp only [Act.put, List.setIfInBounds_toArray, List.set_cons_zero, List.set_cons_succ]
        refine tree_take ⟨some 2, _, _, _, _, _⟩ ?_ rfl (by rfl) ?_ ?_
        rotate_left 1
        · intro w hSw; (try dsimp only at hSw); go_simp; (try with_reducible rfl)
        simp only [Act.put, List.setIfInBounds_toArray, List.set_cons_zero, List.set_cons_succ]
        exact HQ.out _ _ _ _ _ _ _ _ _ _ _ _ _ _ _ _ _ _ _ _ _ _ _ (keycat e a b c ha hb hc hk) hS.1
    · refine come_run ⟨some 25, _, _, _, _, _⟩ (.string ⟨#[UInt8.ofNat (48 + e.kind).toNat]⟩) w1 rfl (by rfl) ?_ ?_
      · have hcv := conv_at w1 nb _ (Lib.cell_of_heap hB 0)
        go_simp
      refine ⟨hS, ?_⟩
      simp only [Act.put, List.setIfInBounds_toArray, List.set_cons_zero, List.set_cons_succ]
      refine tree_one (come_call ⟨some 8, _, _, _, _, _⟩ rfl (by rfl) 57 _ _ (by rfl) [.int .i64 ((a : Nat) : Int)] (by rfl) Tryd.call57 (refSix_any a _ (by omega)) ?_)
      rintro r w1 ⟨rfl, hb1⟩
      replace hS := EntBox.of_cells (e := e) hS hb1
      (try replace hB := (hb1.block _ (lt_of_heap hB)).trans hB)
      refine ⟨_, rfl, hS, ?_⟩
      clear hb1
      simp only [Act.put, List.setIfInBounds_toArray, List.set_cons_zero, List.set_cons_succ]
      refine tree_take ⟨some 9, _, _, _, _, _⟩ ?_ rfl (by rfl) ?_ ?_
      rotate_left 1
      · intro w hSw; (try dsimp only at hSw); go_simp; (try with_reducible rfl)
      simp only [Act.put, List.setIfInBounds_toArray, List.set_cons_zero, List.set_cons_succ]
      refine tree_one (come_call ⟨some 12, _, _, _, _, _⟩ rfl (by rfl) 57 _ _ (by rfl) [.int .i64 ((b : Nat) : Int)] (by rfl) Tryd.call57 (refSix_any b _ (by omega)) ?_)
      rintro r w1 ⟨rfl, hb1⟩
      replace hS := EntBox.of_cells (e := e) hS hb1
      (try replace hB := (hb1.block _ (lt_of_heap hB)).trans hB)
      refine ⟨_, rfl, hS, ?_⟩
      clear hb1
      simp only [Act.put, List.setIfInBounds_toArray, List.set_cons_zero, List.set_cons_succ]
      refine tree_take ⟨some 13, _, _, _, _, _⟩ ?_ rfl (by rfl) ?_ ?_
      rotate_left 1
      · intro w hSw; (try dsimp only at hSw); go_simp; (try with_reducible rfl)
      simp only [Act.put, List.setIfInBounds_toArray, List.set_cons_zero, List.set_cons_succ]
      refine tree_take ⟨some 14, _, _, _, _, _⟩ ?_ rfl (by rfl) ?_ ?_
      rotate_left 1
      · intro w hSw; (try dsimp only at hSw); go_simp; (try with_reducible rfl)
      simp only [Act.put, List.setIfInBounds_toArray, List.set_cons_zero, List.set_cons_succ]
      refine tree_one (come_call ⟨some 17, _, _, _, _, _⟩ rfl (by rfl) 57 _ _ (by rfl) [.int .i64 ((c : Nat) : Int)] (by rfl) Tryd.call57 (refSix_any c _ (by omega)) ?_)
      rintro r w1 ⟨rfl, hb1⟩
      replace hS := EntBox.of_cells (e := e) hS hb1
      (try replace hB := (hb1.block _ (lt_of_heap hB)).trans hB)
      refine ⟨_, rfl, hS, ?_⟩
      clear hb1
      simp only [Act.put, List.setIfInBounds_toArray, List.set_cons_zero, List.set_cons_succ]
      refine tree_take ⟨some 18, _, _, _, _, _⟩ ?_ rfl (by rfl) ?_ ?_
      rotate_left 1
      · intro w hSw; (try dsimp only at hSw); go_simp; (try with_reducible rfl)
      simp only [Act.put, List.setIfInBounds_toArray, List.set_cons_zero, List.set_cons_succ]
      refine tree_take ⟨some 19, _, _, _, _, _⟩ ?_ rfl (by rfl) ?_ ?_
      rotate_left 1
      · intro w hSw; (try dsimp only at hSw); go_simp; (try with_reducible rfl)
      simp only [Act.put, List.setIfInBounds_toArray, List.set_cons_zero, List.set_cons_succ]
      refine tree_take ⟨some 26, _, _, _, _, _⟩ ?_ rfl (by rfl) ?_ ?_
      rotate_left 1
      · intro w hSw; (try dsimp only at hSw); go_simp; (try with_reducible rfl)
      simp only [Act.put, List.setIfInBounds_toArray, List.set_cons_zero, List.set_cons_succ]
      refine tree_take ⟨some 2, _, _, _, _, _⟩ ?_ rfl (by rfl) ?_ ?_
      rotate_left 1
      · intro w hSw; (try dsimp only at hSw); go_simp; (try with_reducible rfl)
      simp only [Act.put, List.setIfInBounds_toArray, List.set_cons_zero, List.set_cons_succ]
      exact HQ.out _ _ _ _ _ _ _ _ _ _ _ _ _ _ _ _ _ _ _ _ _ _ _ (keycat e a b c ha hb hc hk) hS.1



set_option maxHeartbeats 4000000 in
set_option maxRecDepth 100000 in
theorem refKey_any (e : Ent) (h : e.Ok) (w : World) :
    Calls Tryd.prog 20 #[e.val] w fun x w' => x = .returned (.string ⟨(keyV e).toArray⟩) ∧ RowKit.Below w.heap.size w w' := by
  have hC := fun w => refCheck_any e h w
  have hcell := fun w1 (hb : RowKit.Below (w.alloc (.cells e.cells 26)).heap.size (w.alloc (.cells e.cells 26)) w1) => (EntBox.new w e).below hb
  by_cases h0 : chkV e = 0
  · have hr : keyV e = keyL e := by unfold keyV; rw [if_pos h0]
    obtain ⟨s, o, i, k, h1, h2, h3, h4, b1, b2, b3, b4, b5⟩ := right_nat h0
    have hk9 : 1 ≤ e.kind ∧ e.kind ≤ 9 := by omega
    have H := Lib.hid hr
    have H1 := Lib.hid h1
    have H2 := Lib.hid h2
    have H3 := Lib.hid h3
    rw [h0] at hC
    clear hr h0 h1 h2 h3 h4
    go_enter Tryd.func20, Tryd.ntmps20
    go_wp2_with fail
    refine (hC _).mono ?_
    rintro r w1 ⟨rfl, hb1⟩
    have hx := hcell w1 hb1
    have hbe : RowKit.Below w.heap.size w w1 := (below_alloc1 w _).trans (hb1.mono (by simp))
    clear hb1
    go_wp2_with fail
    refine refkey_r3 w.heap.size s o i e _ _ hx H1.out H2.out H3.out b1 b2 b3 hk9 ?_
    rintro u6 u7 u8 u9 u10 u11 u12 u13 u14 u15 u16 u17 u18 u19 u20 u21 u22 u23 u24 u25 u26 st wx rfl hb2
    go_wp2_with fail
    go_ret
    exact ⟨ret_str (by rw [H.out]), hbe.trans (hb2.mono hbe.size)⟩
  · have hr : keyV e = [] := by unfold keyV; rw [if_neg h0]
    have hne : (chkV e != 0) = true := by simpa using h0
    have H := Lib.hid hr
    clear hr h0
    go_enter Tryd.func20, Tryd.ntmps20
    go_wp2_with fail
    refine (hC _).mono ?_
    rintro r w1 ⟨rfl, hb1⟩
    have hbe : RowKit.Below w.heap.size w w1 := (below_alloc1 w _).trans (hb1.mono (by simp))
    go_wp2_with fail
    go_ret
    exact ⟨ret_str (by rw [H.out]), hbe⟩
end Go.Proofs.YtnkbelbalaeieaaDoor
