/- The reference of layer 28: Order, the regions that draw. -/
import Derived.Test.YteopjiedjnaeiaaGreatDgaw
namespace Go.Proofs.YteopjiedjnaeiaaGreat
open Go Go.Proofs Go.RowKit Go.Maps Go.Sort Go.Lib

theorem there_at {W0 w : World} {B g : Nat} {X : List Req} (h : OrdSt W0 B g X w) {p : Nat} (hp : p < X.length) : w.there g (p * 9) 9 := fun j hj => by
  have := h.there (p * 9 + j) (by omega)
  rwa [Nat.zero_add] at this
theorem req_all (r : Req) : r.cells.all (·.oneCell') = true := by simp [Req.cells, Value.oneCell']
theorem run_load_req {oi : Oper} (a : Act) (x : Operand) (ho : oi.op = .load 39 x) (w : World) (g o : Nat) (r : Req) (hr : w.rangeAt g o r.cells.toList) (hx : a.eval x = .pointer (some ⟨g, o, none⟩)) : (execOp a.eval oi).run Tryz.prog w = .ok (.value r.val) w := by
  have hl : (Instr.loadAt 39 (.pointer (some ⟨g, o, none⟩))).run Tryz.prog w = .ok r.val w := run_loadAt_mid w g o 39 r.cells.toList _ hr Tryz.underlying39 rfl (by kernel_rfl)
  unfold execOp
  simp only [ho, hx, Sem.run_bind, Sem.run_pure, hl, Result.andThen_ok]

set_option maxHeartbeats 16000000 in
set_option maxRecDepth 100000 in
theorem ord_r8 {s0 s1 s2 s4 s6 s7 s8 s9 s10 s11 s12 s13 s14 s15 s16 s17 s18 s19 s20 s21 s22 s23 s24 s25 s26 s27 s28 s29 s30 s31 s32 s33 s34 s35 s36 s37 s38 s39 s40 s41 s42 s43 s44 s45 s46 s47 s48 : Value} (W0 : World) (B g n c i : Nat) (X : List Req) (W : World) (Q : Exit → Act → World → Prop) (h : OrdSt W0 B g X W) (hB : B ≤ W.heap.size) (hn : X.length = n) (hi : i + 1 < n) (h1 : n ≤ 1000000) (_hnc : n ≤ c)
    (hQ : ∀ (u41 u45 u46 u47 : Value)  (wx : World), OrdSt W0 B g (swapD X i) wx → Q .normal ⟨List.toArray (s0 :: s1 :: s2 :: .slice (some ⟨g, 0, none⟩) n c :: s4 :: .int .i64 ((i : Int) + 1) :: s6 :: s7 :: s8 :: s9 :: s10 :: s11 :: s12 :: s13 :: s14 :: s15 :: s16 :: s17 :: s18 :: s19 :: s20 :: s21 :: s22 :: s23 :: s24 :: s25 :: s26 :: s27 :: s28 :: s29 :: s30 :: s31 :: .slice (some ⟨g, 0, none⟩) n c :: .int .i64 ((i : Int) + 1) :: .slice (some ⟨g, 0, none⟩) n c :: .int .i64 ((i : Int) + 1) :: .int .i64 (i : Int) :: .slice (some ⟨g, 0, none⟩) n c :: .int .i64 ((i : Int) + 1) :: .int .i64 (i : Int) :: .pointer (some ⟨g, i * 9, none⟩) :: u41 :: .slice (some ⟨g, 0, none⟩) n c :: .int .i64 ((i : Int) + 1) :: .pointer (some ⟨g, (i + 1) * 9, none⟩) :: u45 :: u46 :: u47 :: s48 :: []), []⟩ wx) :
    (regionOf Tryz.f28 8).wp Tryz.prog Q ⟨List.toArray (s0 :: s1 :: s2 :: .slice (some ⟨g, 0, none⟩) n c :: s4 :: .int .i64 ((i : Int) + 1) :: s6 :: s7 :: s8 :: s9 :: s10 :: s11 :: s12 :: s13 :: s14 :: s15 :: s16 :: s17 :: s18 :: s19 :: s20 :: s21 :: s22 :: s23 :: s24 :: s25 :: s26 :: s27 :: s28 :: s29 :: s30 :: s31 :: s32 :: s33 :: s34 :: s35 :: s36 :: s37 :: s38 :: s39 :: s40 :: s41 :: s42 :: s43 :: s44 :: s45 :: s46 :: s47 :: s48 :: []), []⟩ W := by
  refine of_onlyN (K := Q .normal) ?_ (fun _ _ h => h)
  generalize Q .normal = K at hQ ⊢
  have HQ := Lib.hid hQ; clear hQ
  conv => arg 2; whnf
  have hw1 : IntKind.i64.wrap (i : Int) = (i : Int) := IntWalk.i64_in _ (by omega)
  have hng : ¬ ((i : Int) + 1 < 0) := by omega
  have hlt1 : (i : Int) + 1 < (n : Int) := by omega
  have hlt0 : (i : Int) < (n : Int) := by omega
  have hS0 : B ≤ W.drew.heap.size := hB
  have hN0 : OrdSt W0 B g X W.drew := h.next (Below.refl _ _).drew hB
  refine wp_region_par (S := fun w => B ≤ w.heap.size) (I := fun L' a w => ∃ u41 u45 u46 u47 : Value, a = ⟨List.toArray (s0 :: s1 :: s2 :: .slice (some ⟨g, 0, none⟩) n c :: s4 :: .int .i64 ((i : Int) + 1) :: s6 :: s7 :: s8 :: s9 :: s10 :: s11 :: s12 :: s13 :: s14 :: s15 :: s16 :: s17 :: s18 :: s19 :: s20 :: s21 :: s22 :: s23 :: s24 :: s25 :: s26 :: s27 :: s28 :: s29 :: s30 :: s31 :: .slice (some ⟨g, 0, none⟩) n c :: .int .i64 ((i : Int) + 1) :: .slice (some ⟨g, 0, none⟩) n c :: .int .i64 ((i : Int) + 1) :: .int .i64 (i : Int) :: .slice (some ⟨g, 0, none⟩) n c :: .int .i64 ((i : Int) + 1) :: .int .i64 (i : Int) :: .pointer (some ⟨g, i * 9, none⟩) :: u41 :: .slice (some ⟨g, 0, none⟩) n c :: .int .i64 ((i : Int) + 1) :: .pointer (some ⟨g, (i + 1) * 9, none⟩) :: u45 :: u46 :: u47 :: s48 :: []), []⟩ ∧ (B ≤ w.heap.size) ∧ (L'.getD 9 false = true → u41 = (elR X i).val) ∧ (L'.getD 13 false = true → u45 = (elR X (i + 1)).val) ∧ (L'.getD 14 false = true → u46 = .pointer (some ⟨g, (i + 1) * 9, none⟩)) ∧ (L'.getD 15 false = true → L'.getD 17 false = false → OrdSt W0 B g (X.set (i + 1) (elR X i)) w) ∧ (L'.getD 16 false = true → u47 = .pointer (some ⟨g, i * 9, none⟩)) ∧ (L'.getD 17 false = true → OrdSt W0 B g (swapD X i) w) ∧ (L'.getD 15 false = false → OrdSt W0 B g X w)) (pre := fun i L' => L'.size == 18 && ((i == 9 && !L'.getD 9 false && !L'.getD 15 false && !L'.getD 17 false) || (i == 13 && !L'.getD 13 false && !L'.getD 15 false && !L'.getD 17 false) || (i == 14 && L'.getD 9 false && L'.getD 13 false && !L'.getD 14 false && !L'.getD 15 false && !L'.getD 17 false) || (i == 15 && L'.getD 9 false && L'.getD 13 false && L'.getD 14 false && !L'.getD 15 false && !L'.getD 17 false) || (i == 16 && L'.getD 15 false && !L'.getD 16 false && !L'.getD 17 false) || (i == 17 && L'.getD 9 false && L'.getD 13 false && L'.getD 15 false && L'.getD 16 false && !L'.getD 17 false))) (fin := fun L' => L'.getD 17 false) [0, 1, 2, 3, 4, 5, 6, 7, 8, 10, 11, 12] 6 (by kernel_rfl) (by kernel_rfl) (by kernel_rfl) (by kernel_rfl) (by decide) hB ?_ ?_ ?_
  · intro i L' a w hp hI
    obtain ⟨u41, u45, u46, u47, rfl, hSw, hP9, hP13, hP14, hP15, hP16, hP17, hN⟩ := hI
    simp only [Bool.and_eq_true, Bool.or_eq_true, beq_iff_eq, Bool.not_eq_true'] at hp
    obtain ⟨hsz, hp⟩ := hp
    rcases hp with (((((⟨⟨⟨rfl, gn9⟩, gn15⟩, gn17⟩ | ⟨⟨⟨rfl, gn13⟩, gn15⟩, gn17⟩) | ⟨⟨⟨⟨⟨rfl, gd9⟩, gd13⟩, gn14⟩, gn15⟩, gn17⟩) | ⟨⟨⟨⟨⟨rfl, gd9⟩, gd13⟩, gd14⟩, gn15⟩, gn17⟩) | ⟨⟨⟨rfl, gd15⟩, gn16⟩, gn17⟩) | ⟨⟨⟨⟨⟨rfl, gd9⟩, gd13⟩, gd15⟩, gd16⟩, gn17⟩)
    · have g9 : (L'.setIfInBounds 9 true).getD 9 false = true := by rw [up_set, if_pos ⟨rfl, by omega⟩]
      have g13 : (L'.setIfInBounds 9 true).getD 13 false = L'.getD 13 false := by rw [up_set, if_neg (by omega)]
      have g14 : (L'.setIfInBounds 9 true).getD 14 false = L'.getD 14 false := by rw [up_set, if_neg (by omega)]
      have g15 : (L'.setIfInBounds 9 true).getD 15 false = L'.getD 15 false := by rw [up_set, if_neg (by omega)]
      have g16 : (L'.setIfInBounds 9 true).getD 16 false = L'.getD 16 false := by rw [up_set, if_neg (by omega)]
      have g17 : (L'.setIfInBounds 9 true).getD 17 false = L'.getD 17 false := by rw [up_set, if_neg (by omega)]
      have hSn := hSw
      refine par_run ⟨some 41, _, _, _, _, _⟩ (elR X i).val w rfl (by rfl) (run_load_req _ (.tmp 40) (by rfl) w g _ _ ((hN gn15).row i _ (elR_get (by omega))) (by rfl)) ?_
      exact ⟨hSn, ((elR X i).val), (u45), (u46), (u47), by simp only [Act.put, List.setIfInBounds_toArray, List.set_cons_zero, List.set_cons_succ], hSn, fun _ => rfl, by rw [g13]; exact hP13, by rw [g14]; exact hP14, by rw [g15, g17]; exact fun e e2 => absurd (e.symm.trans gn15) (by decide), by rw [g16]; exact hP16, by rw [g17]; exact fun e => absurd (e.symm.trans gn17) (by decide), by rw [g15]; exact hN⟩
    · have g9 : (L'.setIfInBounds 13 true).getD 9 false = L'.getD 9 false := by rw [up_set, if_neg (by omega)]
      have g13 : (L'.setIfInBounds 13 true).getD 13 false = true := by rw [up_set, if_pos ⟨rfl, by omega⟩]
      have g14 : (L'.setIfInBounds 13 true).getD 14 false = L'.getD 14 false := by rw [up_set, if_neg (by omega)]
      have g15 : (L'.setIfInBounds 13 true).getD 15 false = L'.getD 15 false := by rw [up_set, if_neg (by omega)]
      have g16 : (L'.setIfInBounds 13 true).getD 16 false = L'.getD 16 false := by rw [up_set, if_neg (by omega)]
      have g17 : (L'.setIfInBounds 13 true).getD 17 false = L'.getD 17 false := by rw [up_set, if_neg (by omega)]
      have hSn := hSw
      refine par_run ⟨some 45, _, _, _, _, _⟩ (elR X (i + 1)).val w rfl (by rfl) (run_load_req _ (.tmp 44) (by rfl) w g _ _ ((hN gn15).row (i + 1) _ (elR_get (by omega))) (by rfl)) ?_
      exact ⟨hSn, (u41), ((elR X (i + 1)).val), (u46), (u47), by simp only [Act.put, List.setIfInBounds_toArray, List.set_cons_zero, List.set_cons_succ], hSn, by rw [g9]; exact hP9, fun _ => rfl, by rw [g14]; exact hP14, by rw [g15, g17]; exact fun e e2 => absurd (e.symm.trans gn15) (by decide), by rw [g16]; exact hP16, by rw [g17]; exact fun e => absurd (e.symm.trans gn17) (by decide), by rw [g15]; exact hN⟩
    · have g9 : (L'.setIfInBounds 14 true).getD 9 false = L'.getD 9 false := by rw [up_set, if_neg (by omega)]
      have g13 : (L'.setIfInBounds 14 true).getD 13 false = L'.getD 13 false := by rw [up_set, if_neg (by omega)]
      have g14 : (L'.setIfInBounds 14 true).getD 14 false = true := by rw [up_set, if_pos ⟨rfl, by omega⟩]
      have g15 : (L'.setIfInBounds 14 true).getD 15 false = L'.getD 15 false := by rw [up_set, if_neg (by omega)]
      have g16 : (L'.setIfInBounds 14 true).getD 16 false = L'.getD 16 false := by rw [up_set, if_neg (by omega)]
      have g17 : (L'.setIfInBounds 14 true).getD 17 false = L'.getD 17 false := by rw [up_set, if_neg (by omega)]
      have hD9 := hP9 gd9
      have hD13 := hP13 gd13
      have hSn := hSw
      refine par_run ⟨some 46, _, _, _, _, _⟩ (.pointer (some ⟨g, (i + 1) * 9, none⟩)) w rfl (by rfl) (by go_simp) ?_
      exact ⟨hSn, (u41), (u45), (.pointer (some ⟨g, (i + 1) * 9, none⟩)), (u47), by simp only [Act.put, List.setIfInBounds_toArray, List.set_cons_zero, List.set_cons_succ], hSn, by rw [g9]; exact hP9, by rw [g13]; exact hP13, fun _ => rfl, by rw [g15, g17]; exact fun e e2 => absurd (e.symm.trans gn15) (by decide), by rw [g16]; exact hP16, by rw [g17]; exact fun e => absurd (e.symm.trans gn17) (by decide), by rw [g15]; exact hN⟩
    · have g9 : (L'.setIfInBounds 15 true).getD 9 false = L'.getD 9 false := by rw [up_set, if_neg (by omega)]
      have g13 : (L'.setIfInBounds 15 true).getD 13 false = L'.getD 13 false := by rw [up_set, if_neg (by omega)]
      have g14 : (L'.setIfInBounds 15 true).getD 14 false = L'.getD 14 false := by rw [up_set, if_neg (by omega)]
      have g15 : (L'.setIfInBounds 15 true).getD 15 false = true := by rw [up_set, if_pos ⟨rfl, by omega⟩]
      have g16 : (L'.setIfInBounds 15 true).getD 16 false = L'.getD 16 false := by rw [up_set, if_neg (by omega)]
      have g17 : (L'.setIfInBounds 15 true).getD 17 false = L'.getD 17 false := by rw [up_set, if_neg (by omega)]
      have hD9 := hP9 gd9
      have hD13 := hP13 gd13
      have hD14 := hP14 gd14
      subst hD9
      subst hD14
      have hSn : B ≤ (w.setCells g ((i + 1) * 9) (elR X i).cells.toList).heap.size := Nat.le_trans hSw (grown_cells _ _ _ _).size
      refine par_op ⟨none, _, _, _, _, _⟩ rfl (by rfl) (wp_store_mid 39 (.tmp 46) (.tmp 41) (by rfl) g ((i + 1) * 9) (elR X i).cells (by rfl) (by rfl) (there_at (hN gn15) (by omega)) (by kernel_rfl) (req_all _) ?_)
      exact ⟨hSn, ((elR X i).val), (u45), (.pointer (some ⟨g, (i + 1) * 9, none⟩)), (u47), by simp only [Act.put], hSn, by rw [g9]; exact hP9, by rw [g13]; exact hP13, by rw [g14]; exact hP14, fun _ _ => (hN gn15).set hSw (by omega) (elR X i), by rw [g16]; exact hP16, by rw [g17]; exact fun e => absurd (e.symm.trans gn17) (by decide), by rw [g15]; exact fun e => absurd e (by decide)⟩
    · have g9 : (L'.setIfInBounds 16 true).getD 9 false = L'.getD 9 false := by rw [up_set, if_neg (by omega)]
      have g13 : (L'.setIfInBounds 16 true).getD 13 false = L'.getD 13 false := by rw [up_set, if_neg (by omega)]
      have g14 : (L'.setIfInBounds 16 true).getD 14 false = L'.getD 14 false := by rw [up_set, if_neg (by omega)]
      have g15 : (L'.setIfInBounds 16 true).getD 15 false = L'.getD 15 false := by rw [up_set, if_neg (by omega)]
      have g16 : (L'.setIfInBounds 16 true).getD 16 false = true := by rw [up_set, if_pos ⟨rfl, by omega⟩]
      have g17 : (L'.setIfInBounds 16 true).getD 17 false = L'.getD 17 false := by rw [up_set, if_neg (by omega)]
      have hD15 := hP15 gd15 gn17
      have hSn := hSw
      refine par_run ⟨some 47, _, _, _, _, _⟩ (.pointer (some ⟨g, i * 9, none⟩)) w rfl (by rfl) (by go_simp) ?_
      exact ⟨hSn, (u41), (u45), (u46), (.pointer (some ⟨g, i * 9, none⟩)), by simp only [Act.put, List.setIfInBounds_toArray, List.set_cons_zero, List.set_cons_succ], hSn, by rw [g9]; exact hP9, by rw [g13]; exact hP13, by rw [g14]; exact hP14, by rw [g15, g17]; exact hP15, fun _ => rfl, by rw [g17]; exact fun e => absurd (e.symm.trans gn17) (by decide), by rw [g15]; exact hN⟩
    · have g9 : (L'.setIfInBounds 17 true).getD 9 false = L'.getD 9 false := by rw [up_set, if_neg (by omega)]
      have g13 : (L'.setIfInBounds 17 true).getD 13 false = L'.getD 13 false := by rw [up_set, if_neg (by omega)]
      have g14 : (L'.setIfInBounds 17 true).getD 14 false = L'.getD 14 false := by rw [up_set, if_neg (by omega)]
      have g15 : (L'.setIfInBounds 17 true).getD 15 false = L'.getD 15 false := by rw [up_set, if_neg (by omega)]
      have g16 : (L'.setIfInBounds 17 true).getD 16 false = L'.getD 16 false := by rw [up_set, if_neg (by omega)]
      have g17 : (L'.setIfInBounds 17 true).getD 17 false = true := by rw [up_set, if_pos ⟨rfl, by omega⟩]
      have hD9 := hP9 gd9
      have hD13 := hP13 gd13
      have hD15 := hP15 gd15 gn17
      have hD16 := hP16 gd16
      subst hD13
      subst hD16
      have hSn : B ≤ (w.setCells g (i * 9) (elR X (i + 1)).cells.toList).heap.size := Nat.le_trans hSw (grown_cells _ _ _ _).size
      refine par_op ⟨none, _, _, _, _, _⟩ rfl (by rfl) (wp_store_mid 39 (.tmp 47) (.tmp 45) (by rfl) g (i * 9) (elR X (i + 1)).cells (by rfl) (by rfl) (there_at hD15 (by simp; omega)) (by kernel_rfl) (req_all _) ?_)
      exact ⟨hSn, (u41), ((elR X (i + 1)).val), (u46), (.pointer (some ⟨g, i * 9, none⟩)), by simp only [Act.put], hSn, by rw [g9]; exact hP9, by rw [g13]; exact hP13, by rw [g14]; exact hP14, by rw [g17]; exact fun _ e => absurd e (by decide), by rw [g16]; exact hP16, fun _ => hD15.set hSw (by simp; omega) (elR X (i + 1)), by rw [g15]; exact fun e => absurd (gd15.symm.trans e) (by decide)⟩
  · intro L' a w hp hI
    obtain ⟨u41, u45, u46, u47, rfl, hSw, hP9, hP13, hP14, hP15, hP16, hP17, hN⟩ := hI
    (try simp only [Bool.and_eq_true] at hp)
    have p17 := hp
    obtain hfin := hP17 p17
    exact HQ.out _ _ _ _ w hfin
  · refine par_take ⟨some 32, _, _, _, _, _⟩ (.slice (some ⟨g, 0, none⟩) n c) rfl (by rfl) ?_ ?_
    · intro w hSw; go_simp
    simp only [Act.put, List.setIfInBounds_toArray, List.set_cons_zero, List.set_cons_succ]
    refine par_take ⟨some 33, _, _, _, _, _⟩ (.int .i64 ((i : Int) + 1)) rfl (by rfl) ?_ ?_
    · intro w hSw; go_simp
    simp only [Act.put, List.setIfInBounds_toArray, List.set_cons_zero, List.set_cons_succ]
    refine par_take ⟨some 34, _, _, _, _, _⟩ (.slice (some ⟨g, 0, none⟩) n c) rfl (by rfl) ?_ ?_
    · intro w hSw; go_simp
    simp only [Act.put, List.setIfInBounds_toArray, List.set_cons_zero, List.set_cons_succ]
    refine par_take ⟨some 35, _, _, _, _, _⟩ (.int .i64 ((i : Int) + 1)) rfl (by rfl) ?_ ?_
    · intro w hSw; go_simp
    simp only [Act.put, List.setIfInBounds_toArray, List.set_cons_zero, List.set_cons_succ]
    refine par_take ⟨some 36, _, _, _, _, _⟩ (.int .i64 (i : Int)) rfl (by rfl) ?_ ?_
    · intro w hSw; go_simp
    simp only [Act.put, List.setIfInBounds_toArray, List.set_cons_zero, List.set_cons_succ]
    refine par_take ⟨some 37, _, _, _, _, _⟩ (.slice (some ⟨g, 0, none⟩) n c) rfl (by rfl) ?_ ?_
    · intro w hSw; go_simp
    simp only [Act.put, List.setIfInBounds_toArray, List.set_cons_zero, List.set_cons_succ]
    refine par_take ⟨some 38, _, _, _, _, _⟩ (.int .i64 ((i : Int) + 1)) rfl (by rfl) ?_ ?_
    · intro w hSw; go_simp
    simp only [Act.put, List.setIfInBounds_toArray, List.set_cons_zero, List.set_cons_succ]
    refine par_take ⟨some 39, _, _, _, _, _⟩ (.int .i64 (i : Int)) rfl (by rfl) ?_ ?_
    · intro w hSw; go_simp
    simp only [Act.put, List.setIfInBounds_toArray, List.set_cons_zero, List.set_cons_succ]
    refine par_take ⟨some 40, _, _, _, _, _⟩ (.pointer (some ⟨g, i * 9, none⟩)) rfl (by rfl) ?_ ?_
    · intro w hSw; go_simp
    simp only [Act.put, List.setIfInBounds_toArray, List.set_cons_zero, List.set_cons_succ]
    refine par_take ⟨some 42, _, _, _, _, _⟩ (.slice (some ⟨g, 0, none⟩) n c) rfl (by rfl) ?_ ?_
    · intro w hSw; go_simp
    simp only [Act.put, List.setIfInBounds_toArray, List.set_cons_zero, List.set_cons_succ]
    refine par_take ⟨some 43, _, _, _, _, _⟩ (.int .i64 ((i : Int) + 1)) rfl (by rfl) ?_ ?_
    · intro w hSw; go_simp
    simp only [Act.put, List.setIfInBounds_toArray, List.set_cons_zero, List.set_cons_succ]
    refine par_take ⟨some 44, _, _, _, _, _⟩ (.pointer (some ⟨g, (i + 1) * 9, none⟩)) rfl (by rfl) ?_ ?_
    · intro w hSw; go_simp
    simp only [Act.put, List.setIfInBounds_toArray, List.set_cons_zero, List.set_cons_succ]
    exact ⟨_, _, _, _, rfl, hB, (fun e => absurd e (by decide +kernel)), (fun e => absurd e (by decide +kernel)), (fun e => absurd e (by decide +kernel)), (fun e => absurd e (by decide +kernel)), (fun e => absurd e (by decide +kernel)), (fun e => absurd e (by decide +kernel)), (fun _ => hN0)⟩
end Go.Proofs.YteopjiedjnaeiaaGreat
