/- Of, of the project and of the reference: each walked once. -/
import Derived.Test.YtmbjoenegcnoiaaDoorQRight
namespace Go.Proofs.YtmbjoenegcnoiaaDoor
open Go Go.RowKit Go.Sort Go.Lib

theorem below_next {W w w' : World} (h : RowKit.Below W.heap.size W w) (hb : RowKit.Below w.heap.size w w') : RowKit.Below W.heap.size W w' := h.trans (hb.mono h.size)
theorem u64_nat {u : Nat} (h : u ≤ 9223372036854775808) : IntKind.u64.wrap (u : Int) = u := by simp [IntKind.wrap, IntKind.signed, IntKind.bits]; omega
/-- The ratio in lowest terms, from the parts. -/
def ofU (n d : Int) (u v : Nat) : Rt × Int :=
  if 1073741824 < u ∨ 1073741824 < v then (⟨0, 0⟩, 3) else (⟨if (decide (n < 0) != decide (d < 0)) = true then -(u : Int) else u, v⟩, 0)
theorem ofV_U {n d : Int} (hd : d ≠ 0) : ofV n d = ofU n d (n.natAbs / n.natAbs.gcd d.natAbs) (d.natAbs / n.natAbs.gcd d.natAbs) := by
  unfold ofV ofU; rw [if_neg hd]
theorem gcd_fresh (a b : Nat) (ha : a ≤ 9223372036854775808) (hb : b ≤ 9223372036854775808) (w : World) (B : Nat) (hB : w.heap.size = B) :
    Calls Tryd.prog 45 #[.slice (some ⟨B, 0, none⟩) 2 2] (w.alloc (.cells #[.int .u64 a, .int .u64 b] 57)) fun e w' => e = .returned (.int .u64 (a.gcd b : Nat)) ∧ RowKit.Below (w.alloc (.cells #[.int .u64 a, .int .u64 b] 57)).heap.size (w.alloc (.cells #[.int .u64 a, .int .u64 b] 57)) w' := by
  subst hB; exact gcd_new a b ha hb w
theorem fin2 {w w1 : World} (h : RowKit.Below w.heap.size w w1) (x y : Value) : RowKit.Below w.heap.size w ((w1.setCell ⟨w.heap.size, 0, none⟩ x).setCell ⟨w.heap.size, 1, none⟩ y) :=
  (h.setCell (Nat.le_refl _) _).setCell (Nat.le_refl _) _
theorem fin3 {w w1 : World} (h : RowKit.Below w.heap.size w w1) (x y : Value) (o : Obj) : RowKit.Below w.heap.size w (((w1.setCell ⟨w.heap.size, 0, none⟩ x).setCell ⟨w.heap.size, 1, none⟩ y).alloc o) :=
  (fin2 h x y).trans ((below_alloc1 _ o).mono (fin2 h x y).size)
theorem ofU_neg {n d : Int} {u v : Nat} (h1 : u ≤ 1073741824) (h2 : v ≤ 1073741824) (h : (!decide (n < 0) == decide (d < 0)) = true) : ofU n d u v = (⟨-u, v⟩, 0) := by
  unfold ofU; rw [if_neg (by omega), if_pos (by simpa [bne] using h)]
theorem ofU_pos {n d : Int} {u v : Nat} (h1 : u ≤ 1073741824) (h2 : v ≤ 1073741824) (h : ¬ (!decide (n < 0) == decide (d < 0)) = true) : ofU n d u v = (⟨u, v⟩, 0) := by
  unfold ofU; rw [if_neg (by omega), if_neg (by simpa [bne] using h)]
theorem ofU_big {n d : Int} {u v : Nat} (h : 1073741824 < u ∨ 1073741824 < v) : ofU n d u v = (⟨0, 0⟩, 3) := by
  unfold ofU; rw [if_pos h]
set_option maxHeartbeats 1000000 in
theorem of_any (n d : Int) (hn : I64 n) (hd : I64 d) (w : World) :
    Calls Tryd.prog 19 #[.int .i64 n, .int .i64 d] w fun e w' => e = .returned (.tuple #[(ofV n d).1.val, .int .i64 (ofV n d).2]) ∧ RowKit.Below w.heap.size w w' := by
  by_cases h0 : d = 0
  · subst h0
    rw [low_zero]
    go_enter Tryd.func19, Tryd.ntmps19
    go_wp2_with fail
    exact bodyPost_ret (v := .tuple #[Rt.val ⟨0, 0⟩, .int .i64 1]) (by simp [results, Tryd.results19, go_sem, Rt.val]) rfl ⟨rfl, below_alloc1 w _⟩
  · have hd0 : (d == 0) = false := by simpa using h0
    have HV := Lib.hid (ofV_U (n := n) h0)
    have hgp := gcd_pos (n := n) h0
    have cn := fun w => size_any n hn w
    have cd := fun w => size_any d hd w
    unfold I64 at hn hd
    have hN : n.natAbs ≤ 9223372036854775808 := by omega
    have hD : d.natAbs ≤ 9223372036854775808 := by omega
    clear h0
    generalize n.natAbs = N at *
    generalize d.natAbs = D at *
    have cg := gcd_fresh N D hN hD
    generalize N.gcd D = g at *
    have hg0 : ((g : Int) == 0) = false := by simp; omega
    have hgz : ¬ g = 0 := by omega
    have hq1 : (N : Int).tdiv g = ((N / g : Nat) : Int) := rfl
    have hq2 : (D : Int).tdiv g = ((D / g : Nat) : Int) := rfl
    have hu := Nat.div_le_self N g
    have hv := Nat.div_le_self D g
    generalize hU : N / g = u at *
    generalize hV : D / g = v at *
    have hw1 : IntKind.u64.wrap (u : Int) = u := u64_nat (by omega)
    have hw2 : IntKind.u64.wrap (v : Int) = v := u64_nat (by omega)
    clear hU hV
    go_enter Tryd.func19, Tryd.ntmps19
    go_wp2_with fail
    refine (cn _).mono ?_
    rintro x w1 ⟨rfl, rfl⟩
    go_wp2_with fail
    refine (cd _).mono ?_
    rintro x w1 ⟨rfl, rfl⟩
    go_wp2_with fail
    refine (cg _ _ (by simp)).mono ?_
    rintro x w1 ⟨rfl, hb1⟩
    obtain ⟨hc1, hf1⟩ := bcell hb1
    have hz1 : w.heap.size + 1 < w1.heap.size := by have := hb1.size; simp at this; omega
    have hb2 : RowKit.Below w.heap.size w w1 := ((Below.refl w.heap.size w).alloc (Nat.le_refl _) _).trans ((below_alloc1 _ _).trans (hb1.mono (by simp)) |>.mono (by simp))
    have k0 : w1.cell? ⟨w.heap.size, 0, none⟩ = some (.int .i64 0) := (hc1 _ _ (by simp; omega)).trans (by simp)
    have k1 : w1.cell? ⟨w.heap.size, 1, none⟩ = some (.int .i64 0) := (hc1 _ _ (by simp; omega)).trans (by simp)
    have f0 : w1.frozen? ⟨w.heap.size, 0, none⟩ = false := (hf1 _ _ (by simp; omega)).trans (by simp)
    have f1 : w1.frozen? ⟨w.heap.size, 1, none⟩ = false := (hf1 _ _ (by simp; omega)).trans (by simp)
    have hz0 : w.heap.size < w1.heap.size := by omega
    clear hb1 cg hc1 hf1
    go_wp2_with fail
    refine of_onlyN ?_ (fun _ _ h => h)
    refine wp_region_flow (S := fun _ => True) [(0, true), (2, true), (4, true), (6, true), (1, false), (3, true), (5, false), (7, true), (8, true), (9, true)] (by kernel_rfl) (by kernel_rfl) (by kernel_rfl) (by decide) (trivial) ?_
    have hS := trivial
    refine flow_take ⟨some 19, _, _, _, _, _⟩ ?_ rfl (by rfl) ?_ ?_
    rotate_left 1
    · intro w hSw; (try dsimp only at hSw); go_simp; (try with_reducible rfl)
    simp only [Act.put, List.setIfInBounds_toArray, List.set_cons_zero, List.set_cons_succ]
    refine flow_take ⟨some 21, _, _, _, _, _⟩ ?_ rfl (by rfl) ?_ ?_
    rotate_left 1
    · intro w hSw; (try dsimp only at hSw); go_simp; (try with_reducible rfl)
    simp only [Act.put, List.setIfInBounds_toArray, List.set_cons_zero, List.set_cons_succ]
    refine flow_take ⟨some 23, _, _, _, _, _⟩ ?_ rfl (by rfl) ?_ ?_
    rotate_left 1
    · intro w hSw; (try dsimp only at hSw); go_simp; (try with_reducible rfl)
    simp only [Act.put, List.setIfInBounds_toArray, List.set_cons_zero, List.set_cons_succ]
    refine flow_take ⟨some 25, _, _, _, _, _⟩ ?_ rfl (by rfl) ?_ ?_
    rotate_left 1
    · intro w hSw; (try dsimp only at hSw); go_simp; (try with_reducible rfl)
    simp only [Act.put, List.setIfInBounds_toArray, List.set_cons_zero, List.set_cons_succ]
    (first | (refine flow_call ⟨some 20, _, _, _, _, _⟩ rfl (by rfl) 46 _ _ (by rfl) _ (by rfl) Tryd.call46 (cn _) ?_; rintro x wn ⟨rfl, rfl⟩; refine ⟨_, rfl, hS, ?_⟩) | (refine flow_call ⟨some 20, _, _, _, _, _⟩ rfl (by rfl) 46 _ _ (by rfl) _ (by rfl) Tryd.call46 (cd _) ?_; rintro x wn ⟨rfl, rfl⟩; refine ⟨_, rfl, hS, ?_⟩))
    simp only [Act.put, List.setIfInBounds_toArray, List.set_cons_zero, List.set_cons_succ]
    refine flow_take ⟨some 22, _, _, _, _, _⟩ ?_ rfl (by rfl) ?_ ?_
    rotate_left 1
    · intro w hSw; (try dsimp only at hSw); go_simp; (try with_reducible rfl)
    simp only [Act.put, List.setIfInBounds_toArray, List.set_cons_zero, List.set_cons_succ]
    (first | (refine flow_call ⟨some 24, _, _, _, _, _⟩ rfl (by rfl) 46 _ _ (by rfl) _ (by rfl) Tryd.call46 (cn _) ?_; rintro x wn ⟨rfl, rfl⟩; refine ⟨_, rfl, hS, ?_⟩) | (refine flow_call ⟨some 24, _, _, _, _, _⟩ rfl (by rfl) 46 _ _ (by rfl) _ (by rfl) Tryd.call46 (cd _) ?_; rintro x wn ⟨rfl, rfl⟩; refine ⟨_, rfl, hS, ?_⟩))
    simp only [Act.put, List.setIfInBounds_toArray, List.set_cons_zero, List.set_cons_succ]
    refine flow_take ⟨some 26, _, _, _, _, _⟩ ?_ rfl (by rfl) ?_ ?_
    rotate_left 1
    · intro w hSw; (try dsimp only at hSw); go_simp; (try with_reducible rfl)
    simp only [Act.put, List.setIfInBounds_toArray, List.set_cons_zero, List.set_cons_succ]
    refine flow_take ⟨some 7, _, _, _, _, _⟩ ?_ rfl (by rfl) ?_ ?_
    rotate_left 1
    · intro w hSw; (try dsimp only at hSw); go_simp; (try with_reducible rfl)
    simp only [Act.put, List.setIfInBounds_toArray, List.set_cons_zero, List.set_cons_succ]
    refine flow_take ⟨some 8, _, _, _, _, _⟩ ?_ rfl (by rfl) ?_ ?_
    rotate_left 1
    · intro w hSw; (try dsimp only at hSw); go_simp; (try with_reducible rfl)
    simp only [Act.put, List.setIfInBounds_toArray, List.set_cons_zero, List.set_cons_succ]
    simp only [wpFlow, OnlyN]
    by_cases hbig : 1073741824 < u ∨ 1073741824 < v
    · rw [ofU_big hbig] at HV
      go_wp2_with fail
      all_goals exact bodyPost_ret (v := .tuple #[Rt.val ⟨0, 0⟩, .int .i64 3]) (by simp [results, Tryd.results19, go_sem, Rt.val, k0, k1]) rfl ⟨by rw [HV.out], (fin2 hb2 _ _).drew⟩
    · have hu2 : u ≤ 1073741824 := by omega
      have hv2 : v ≤ 1073741824 := by omega
      clear hbig
      by_cases hs : (!decide (n < 0) == decide (d < 0)) = true
      · rw [ofU_neg hu2 hv2 hs] at HV
        go_wp2_with fail
        exact bodyPost_ret (v := .tuple #[Rt.val ⟨-u, v⟩, .int .i64 0]) (by simp [results, Tryd.results19, go_sem, Rt.val, k0, k1, hz0]) rfl ⟨by rw [HV.out], (fin3 hb2 _ _ _).drew⟩
      · rw [ofU_pos hu2 hv2 hs] at HV
        go_wp2_with fail
        exact bodyPost_ret (v := .tuple #[Rt.val ⟨u, v⟩, .int .i64 0]) (by simp [results, Tryd.results19, go_sem, Rt.val, k0, k1, hz0]) rfl ⟨by rw [HV.out], (fin3 hb2 _ _ _).drew⟩
set_option maxHeartbeats 1000000 in
theorem refOf_any (n d : Int) (hn : I64 n) (hd : I64 d) (w : World) :
    Calls Tryd.prog 10 #[.int .i64 n, .int .i64 d] w fun e w' => e = .returned (.tuple #[(ofV n d).1.val, .int .i64 (ofV n d).2]) ∧ RowKit.Below w.heap.size w w' := by
  by_cases h0 : d = 0
  · subst h0
    rw [low_zero]
    go_enter Tryd.func10, Tryd.ntmps10
    go_wp2_with fail
    exact bodyPost_ret (v := .tuple #[Rt.val ⟨0, 0⟩, .int .i64 1]) (by simp [results, Tryd.results10, go_sem, Rt.val]) rfl ⟨rfl, below_alloc1 w _⟩
  · have hd0 : (d == 0) = false := by simpa using h0
    have HV := Lib.hid (ofV_U (n := n) h0)
    have hgp := gcd_pos (n := n) h0
    have cn := fun w => refSize_any n hn w
    have cd := fun w => refSize_any d hd w
    unfold I64 at hn hd
    have hN : n.natAbs ≤ 9223372036854775808 := by omega
    have hD : d.natAbs ≤ 9223372036854775808 := by omega
    clear h0
    generalize n.natAbs = N at *
    generalize d.natAbs = D at *
    have cg := fun w => refGcd_any N D hN hD w
    generalize N.gcd D = g at *
    have hg0 : ((g : Int) == 0) = false := by simp; omega
    have hgz : ¬ g = 0 := by omega
    have hq1 : (N : Int).tdiv g = ((N / g : Nat) : Int) := rfl
    have hq2 : (D : Int).tdiv g = ((D / g : Nat) : Int) := rfl
    have hu := Nat.div_le_self N g
    have hv := Nat.div_le_self D g
    generalize hU : N / g = u at *
    generalize hV : D / g = v at *
    have hw1 : IntKind.u64.wrap (u : Int) = u := u64_nat (by omega)
    have hw2 : IntKind.u64.wrap (v : Int) = v := u64_nat (by omega)
    clear hU hV
    go_enter Tryd.func10, Tryd.ntmps10
    go_wp2_with fail
    refine (cn _).mono ?_
    rintro x w1 ⟨rfl, rfl⟩
    go_wp2_with fail
    refine (cd _).mono ?_
    rintro x w1 ⟨rfl, rfl⟩
    go_wp2_with fail
    refine (cg _).mono ?_
    rintro x w1 ⟨rfl, hb1⟩
    obtain ⟨hc1, hf1⟩ := bcell hb1
    have hz0 : w.heap.size < w1.heap.size := by have := hb1.size; simp at this; omega
    have hb2 : RowKit.Below w.heap.size w w1 := ((Below.refl w.heap.size w).alloc (Nat.le_refl _) _).trans (hb1.mono (by simp))
    have k0 : w1.cell? ⟨w.heap.size, 0, none⟩ = some (.int .i64 0) := (hc1 _ _ (by simp)).trans (by simp)
    have k1 : w1.cell? ⟨w.heap.size, 1, none⟩ = some (.int .i64 0) := (hc1 _ _ (by simp)).trans (by simp)
    have f0 : w1.frozen? ⟨w.heap.size, 0, none⟩ = false := (hf1 _ _ (by simp)).trans (by simp)
    have f1 : w1.frozen? ⟨w.heap.size, 1, none⟩ = false := (hf1 _ _ (by simp)).trans (by simp)
    clear hb1 cg hc1 hf1
    go_wp2_with fail
    refine (cn _).mono ?_
    rintro x w2 ⟨rfl, rfl⟩
    go_wp2_with fail
    refine (cd _).mono ?_
    rintro x w2 ⟨rfl, rfl⟩
    by_cases hbig : 1073741824 < u ∨ 1073741824 < v
    · rw [ofU_big hbig] at HV
      go_wp2_with fail
      all_goals exact bodyPost_ret (v := .tuple #[Rt.val ⟨0, 0⟩, .int .i64 3]) (by simp [results, Tryd.results10, go_sem, Rt.val, k0, k1]) rfl ⟨by rw [HV.out], (fin2 hb2 _ _)⟩
    · have hu2 : u ≤ 1073741824 := by omega
      have hv2 : v ≤ 1073741824 := by omega
      clear hbig
      by_cases hs : (!decide (n < 0) == decide (d < 0)) = true
      · rw [ofU_neg hu2 hv2 hs] at HV
        go_wp2_with fail
        exact bodyPost_ret (v := .tuple #[Rt.val ⟨-u, v⟩, .int .i64 0]) (by simp [results, Tryd.results10, go_sem, Rt.val, k0, k1, hz0]) rfl ⟨by rw [HV.out], (fin3 hb2 _ _ _)⟩
      · rw [ofU_pos hu2 hv2 hs] at HV
        go_wp2_with fail
        exact bodyPost_ret (v := .tuple #[Rt.val ⟨u, v⟩, .int .i64 0]) (by simp [results, Tryd.results10, go_sem, Rt.val, k0, k1, hz0]) rfl ⟨by rw [HV.out], (fin3 hb2 _ _ _)⟩
end Go.Proofs.YtmbjoenegcnoiaaDoor
