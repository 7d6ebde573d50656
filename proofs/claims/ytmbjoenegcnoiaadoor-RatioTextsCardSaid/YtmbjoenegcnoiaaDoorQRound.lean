/- Round of the project, by its parts: each function walked once. -/
import Derived.Test.YtmbjoenegcnoiaaDoorQMade
import Derived.Laws.Cover1
import Derived.Laws.EntriesVeiled
namespace Go.Proofs.YtmbjoenegcnoiaaDoor
open Go Go.RowKit Go.Sort Go.Lib

def Small (n : Int) : Prop := -2147483648 ≤ n ∧ n ≤ 2147483648
theorem rd1 (l r o : Int) : rdV l r o 1 = l := rfl
theorem rd2 (l r o : Int) : rdV l r o 2 = l + min r 1 := rfl
theorem rd3a {l r o : Int} (h : o ≤ 2 * r) : rdV l r o 3 = l + min r 1 := by simp [rdV, h]
theorem rd3b {l r o : Int} (h : ¬ o ≤ 2 * r) : rdV l r o 3 = l := by simp [rdV, h]
theorem rd4a {l r o : Int} (h : 2 * r = o) (h2 : l % 2 = 0) : rdV l r o 4 = l := by simp [rdV, h, h2]
theorem rd4b {l r o : Int} (h : ¬ (2 * r = o ∧ l % 2 = 0)) : rdV l r o 4 = rdV l r o 3 := by
  simp only [rdV, show ¬ (4 : Int) = 1 by omega, show ¬ (4 : Int) = 2 by omega, show ¬ (4 : Int) = 3 by omega, show ¬ (3 : Int) = 1 by omega, show ¬ (3 : Int) = 2 by omega, if_false, if_true, if_neg h]
theorem down_any (l r o : Int) (w : World) :
    Calls Tryd.prog 32 #[.agg #[.int .i64 l, .int .i64 r, .int .i64 o]] w fun e w' => e = .returned (.int .i64 (rdV l r o 1)) ∧ RowKit.Below w.heap.size w w' := by
  go_enter Tryd.func32, Tryd.ntmps32
  go_wp2_with fail
  go_ret
  exact ⟨rfl, below_alloc1 _ _⟩
theorem up_any (l r o : Int) (hl : Small l) (hr : Small r) (w : World) :
    Calls Tryd.prog 33 #[.agg #[.int .i64 l, .int .i64 r, .int .i64 o]] w fun e w' => e = .returned (.int .i64 (l + min r 1)) ∧ RowKit.Below w.heap.size w w' := by
  unfold Small at hl hr
  go_enter Tryd.func33, Tryd.ntmps33
  go_wp2_with fail
  go_ret
  exact ⟨rfl, below_alloc1 _ _⟩
theorem half_any (l r o : Int) (hl : Small l) (hr : Small r) (w : World) :
    Calls Tryd.prog 34 #[.agg #[.int .i64 l, .int .i64 r, .int .i64 o]] w fun e w' => e = .returned (.int .i64 (rdV l r o 3)) ∧ RowKit.Below w.heap.size w w' := by
  have cu := fun w => up_any l r o hl hr w
  unfold Small at hl hr
  by_cases h : o ≤ 2 * r
  · have HV := Lib.hid (rd3a (l := l) h)
    go_enter Tryd.func34, Tryd.ntmps34
    go_wp2_with fail
    refine (cu _).mono ?_
    rintro x w1 ⟨rfl, hb⟩
    go_wp2_with fail
    go_ret
    exact ⟨ret_int HV.out.symm, below_next (below_alloc1 _ _) hb⟩
  · have HV := Lib.hid (rd3b (l := l) h)
    go_enter Tryd.func34, Tryd.ntmps34
    go_wp2_with fail
    go_ret
    exact ⟨ret_int HV.out.symm, below_alloc1 _ _⟩
theorem even_any (l r o : Int) (hl : Small l) (hr : Small r) (w : World) :
    Calls Tryd.prog 35 #[.agg #[.int .i64 l, .int .i64 r, .int .i64 o]] w fun e w' => e = .returned (.int .i64 (rdV l r o 4)) ∧ RowKit.Below w.heap.size w w' := by
  have cu := fun w => half_any l r o hl hr w
  unfold Small at hl hr
  have ht : l.tmod 2 = 0 ↔ l % 2 = 0 := by rw [← Int.dvd_iff_tmod_eq_zero, Int.dvd_iff_emod_eq_zero]
  by_cases h : 2 * r = o
  · have h' : (2 * r == o) = true := by simpa using h
    by_cases h2 : l.tmod 2 = 0
    · have h2' : (l.tmod 2 == 0) = true := by simpa using h2
      have HV := Lib.hid (rd4a h (ht.1 h2))
      clear h h2 ht cu
      go_enter Tryd.func35, Tryd.ntmps35
      go_wp2_with fail
      go_ret
      exact ⟨ret_int HV.out.symm, below_alloc1 _ _⟩
    · have h2' : (l.tmod 2 == 0) = false := by simpa using h2
      have HV := Lib.hid (rd4b (l := l) (r := r) (o := o) (fun x => h2 (ht.2 x.2)))
      clear h h2 ht
      go_enter Tryd.func35, Tryd.ntmps35
      go_wp2_with fail
      refine (cu _).mono ?_
      rintro x w1 ⟨rfl, hb⟩
      go_wp2_with fail
      go_ret
      exact ⟨ret_int HV.out.symm, below_next (below_alloc1 _ _) hb⟩
  · have h' : (2 * r == o) = false := by simpa using h
    have HV := Lib.hid (rd4b (l := l) (r := r) (o := o) (fun x => h x.1))
    clear h ht
    go_enter Tryd.func35, Tryd.ntmps35
    go_wp2_with fail
    refine (cu _).mono ?_
    rintro x w1 ⟨rfl, hb⟩
    go_wp2_with fail
    go_ret
    exact ⟨ret_int HV.out.symm, below_next (below_alloc1 _ _) hb⟩
theorem floor_parts {N D : Int} (hD : 1 ≤ D) (hD2 : D ≤ 1073741824) (hN : -1073741824 ≤ N) (hN2 : N ≤ 1073741824) : ∃ t p : Int, N.tdiv D = t ∧ t * D = p ∧ (-1073741824 ≤ t ∧ t ≤ 1073741824) ∧ (-1073741824 ≤ p ∧ p ≤ 1073741824) ∧ (t - 1) * D = p - D ∧ (p ≤ N → N / D = t ∧ N % D = N - p) ∧ (N < p → N / D = t - 1 ∧ N % D = N - (p - D)) := by
  have e := Int.mul_tdiv_add_tmod N D
  have l1 := Int.lt_tmod_of_pos N (show 0 < D by omega)
  have l2 := Int.tmod_lt_of_pos N (show 0 < D by omega)
  have s1 : 0 ≤ N → 0 ≤ N.tmod D := fun h => Int.tmod_nonneg D h
  have s2 : N ≤ 0 → N.tmod D ≤ 0 := fun h => by
    have := Int.tmod_nonneg D (show 0 ≤ -N by omega)
    rw [Int.neg_tmod] at this; omega
  have a := Int.natAbs_tdiv N D
  have a2 : N.natAbs.div D.natAbs ≤ N.natAbs := Nat.div_le_self _ _
  have ht : -1073741824 ≤ N.tdiv D ∧ N.tdiv D ≤ 1073741824 := by
    omega
  have hm : (N.tdiv D - 1) * D = N.tdiv D * D - D := by rw [Int.sub_mul, Int.one_mul]
  rw [Int.mul_comm D] at e
  refine ⟨_, _, rfl, rfl, ht, ?_, hm, ?_, ?_⟩
  · rcases Int.le_total 0 N with h | h
    · have := s1 h; omega
    · have := s2 h; omega
  · intro hp
    refine (Int.ediv_emod_unique (by omega)).2 ⟨?_, ?_, ?_⟩
    · rw [Int.mul_comm D]; omega
    · omega
    · omega
  · intro hp
    refine (Int.ediv_emod_unique (by omega)).2 ⟨?_, ?_, ?_⟩
    · rw [Int.mul_comm D, hm]; omega
    · omega
    · omega
theorem divide_any (r : Rt) (h : Right r) (w : World) :
    Calls Tryd.prog 38 #[r.val] w fun e w' => e = .returned (.agg #[.int .i64 (r.n / r.d), .int .i64 (r.n % r.d), .int .i64 r.d]) ∧ RowKit.Below w.heap.size w w' := by
  obtain ⟨p1, p2, p3, p4, _⟩ := h
  obtain ⟨t, p, hT, hP, ⟨t1, t2⟩, ⟨q1, q2⟩, hM, k1, k2⟩ := floor_parts p1 p2 p3 p4
  have hd0 : (r.d == 0) = false := by simp; omega
  unfold Rt.val
  by_cases hp : p ≤ r.n
  · have HV := Lib.hid (k1 hp)
    clear k1 k2 hM
    go_enter Tryd.func38, Tryd.ntmps38
    go_wp2_with fail
    exact bodyPost_ret (v := .agg #[.int .i64 t, .int .i64 (r.n - p), .int .i64 r.d]) (by simp [results, Tryd.results38, go_sem]) rfl ⟨by rw [HV.out.1, HV.out.2], below_next (below_alloc1 _ _) (below_alloc1 _ _)⟩
  · have hp' : r.n < p := by omega
    have HV := Lib.hid (k2 hp')
    clear k1 k2 hp
    go_enter Tryd.func38, Tryd.ntmps38
    go_wp2_with fail
    exact bodyPost_ret (v := .agg #[.int .i64 (t - 1), .int .i64 (r.n - (p - r.d)), .int .i64 r.d]) (by simp [results, Tryd.results38, go_sem]) rfl ⟨by rw [HV.out.1, HV.out.2], below_next (below_alloc1 _ _) (below_alloc1 _ _)⟩
theorem rnd_next {W w w' : World} {b g k : Nat} {x y v : Value} (h : RowKit.Below W.heap.size W w ∧ w.cell? ⟨b, 0, none⟩ = some x ∧ w.cell? ⟨b, 1, none⟩ = some y ∧ w.cell? ⟨g, k, none⟩ = some v) (hb : RowKit.Below w.heap.size w w') :
    RowKit.Below W.heap.size W w' ∧ w'.cell? ⟨b, 0, none⟩ = some x ∧ w'.cell? ⟨b, 1, none⟩ = some y ∧ w'.cell? ⟨g, k, none⟩ = some v := by
  obtain ⟨hc, _⟩ := bcell hb
  exact ⟨h.1.trans (hb.mono h.1.size), (hc _ _ (World.block_lt_of_cell? w _ h.2.1)).trans h.2.1, (hc _ _ (World.block_lt_of_cell? w _ h.2.2.1)).trans h.2.2.1, (hc _ _ (World.block_lt_of_cell? w _ h.2.2.2)).trans h.2.2.2⟩
theorem right_small {r : Rt} (h : Right r) : Small (r.n / r.d) ∧ Small (r.n % r.d) := by
  obtain ⟨p1, p2, p3, p4, _⟩ := h
  obtain ⟨t, p, hT, hP, ⟨t1, t2⟩, ⟨q1, q2⟩, hM, k1, k2⟩ := floor_parts p1 p2 p3 p4
  unfold Small
  rcases Int.lt_or_le r.n p with h | h
  · have := k2 h; omega
  · have := k1 h; omega
set_option maxHeartbeats 1000000 in
theorem round_any (r : Rt) (h : r.Ok) (how : Int) (w : World) :
    Calls Tryd.prog 12 #[r.val, .int .i64 how] w fun e w' => e = .returned (.tuple #[.int .i64 (if Right r ∧ 1 ≤ how ∧ how ≤ 4 then roundV r how else 0), .int .i64 (if Right r ∧ 1 ≤ how ∧ how ≤ 4 then 0 else 1)]) ∧ RowKit.Below w.heap.size w w' := by
  have ra := fun w => right_any r h w
  unfold Rt.val at *
  by_cases h1 : Right r
  · rw [decide_eq_true h1] at ra
    by_cases h2 : 1 ≤ how ∧ how ≤ 4
    · rw [if_pos ⟨h1, h2⟩, if_pos ⟨h1, h2⟩]
      have kw := fun w => within_is 1 how 4 true (by simp [h2]) w
      have dv := fun w => divide_any r h1 w
      obtain ⟨sm1, sm2⟩ := right_small h1
      unfold roundV
      generalize r.n / r.d = l at *
      generalize r.n % r.d = s at *
      have c1 := fun w => down_any l s r.d w
      have c2 := fun w => up_any l s r.d sm1 sm2 w
      have c3 := fun w => half_any l s r.d sm1 sm2 w
      have c4 := fun w => even_any l s r.d sm1 sm2 w
      clear h1 h sm1 sm2
      unfold Rt.val at dv
      have h4 : how = 1 ∨ how = 2 ∨ how = 3 ∨ how = 4 := by omega
      clear h2
      rcases h4 with rfl | rfl | rfl | rfl
      · clear c2 c3 c4
        go_enter Tryd.func12, Tryd.ntmps12
        go_wp2_with fail
        refine (ra _).mono ?_
        rintro x w1 ⟨rfl, hb1⟩
        obtain ⟨hc1, hf1⟩ := bcell hb1
        have k0 : w1.cell? ⟨w.heap.size, 0, none⟩ = some (.int .i64 r.n) := (hc1 _ _ (by simp; omega)).trans (by simp [go_sem])
        have k1 : w1.cell? ⟨w.heap.size, 1, none⟩ = some (.int .i64 r.d) := (hc1 _ _ (by simp; omega)).trans (by simp [go_sem])
        have k2 : w1.cell? ⟨w.heap.size + 1, 0, none⟩ = some (.func (.func 32) #[] #[]) := (hc1 _ _ (by simp)).trans (by simp [go_sem])
        have hbw : RowKit.Below w.heap.size w w1 := (below_next (below_alloc1 _ _) (below_alloc1 _ _)).trans (hb1.mono (by simp; omega))
        have hS0 := rnd_next ⟨Below.refl w1.heap.size w1, k0, k1, k2⟩ (Below.refl _ _).drew
        have hw0 : IntKind.i64.wrap 0 = 0 := by decide +kernel
        clear hb1 hc1 hf1 k0 k1 k2 ra
        go_wp2_with fail
        refine (kw _).mono ?_
        rintro x w2 ⟨rfl, rfl⟩
        go_wp2_with fail
        refine of_onlyN ?_ (fun _ _ h => h)
        refine wp_region_flow (S := fun w' => RowKit.Below w1.heap.size w1 w' ∧ w'.cell? ⟨w.heap.size, 0, none⟩ = some (.int .i64 r.n) ∧ w'.cell? ⟨w.heap.size, 1, none⟩ = some (.int .i64 r.d) ∧ w'.cell? ⟨w.heap.size + 1, 0, none⟩ = some (.func (.func 32) #[] #[])) [(0, true), (1, true), (2, true), (3, true), (4, true), (5, true), (6, false), (7, false), (8, true), (9, true)] (by kernel_rfl) (by kernel_rfl) (by kernel_rfl) (by decide) (hS0) ?_
        have hS := hS0
        refine flow_take ⟨some 18, _, _, _, _, _⟩ ?_ rfl (by rfl) ?_ ?_
        rotate_left 1
        · intro w hSw; (try dsimp only at hSw); go_simp; (try with_reducible rfl)
        simp only [Act.put, List.setIfInBounds_toArray, List.set_cons_zero, List.set_cons_succ]
        refine flow_take ⟨some 19, _, _, _, _, _⟩ ?_ rfl (by rfl) ?_ ?_
        rotate_left 1
        · intro w hSw; (try dsimp only at hSw); go_simp; (try with_reducible rfl)
        simp only [Act.put, List.setIfInBounds_toArray, List.set_cons_zero, List.set_cons_succ]
        refine flow_take ⟨some 20, _, _, _, _, _⟩ ?_ rfl (by rfl) ?_ ?_
        rotate_left 1
        · intro w hSw; (try dsimp only at hSw); go_simp; (try with_reducible rfl)
        simp only [Act.put, List.setIfInBounds_toArray, List.set_cons_zero, List.set_cons_succ]
        refine flow_take ⟨some 21, _, _, _, _, _⟩ ?_ rfl (by rfl) ?_ ?_
        rotate_left 1
        · intro w hSw; (try dsimp only at hSw); go_simp; (try with_reducible rfl)
        simp only [Act.put, List.setIfInBounds_toArray, List.set_cons_zero, List.set_cons_succ]
        refine flow_take ⟨some 22, _, _, _, _, _⟩ ?_ rfl (by rfl) ?_ ?_
        rotate_left 1
        · intro w hSw; (try dsimp only at hSw); go_simp; (try with_reducible rfl)
        simp only [Act.put, List.setIfInBounds_toArray, List.set_cons_zero, List.set_cons_succ]
        refine flow_take ⟨some 23, _, _, _, _, _⟩ ?_ rfl (by rfl) ?_ ?_
        rotate_left 1
        · intro w hSw; (try dsimp only at hSw); go_simp; (try with_reducible rfl)
        simp only [Act.put, List.setIfInBounds_toArray, List.set_cons_zero, List.set_cons_succ]
        refine flow_call ⟨some 24, _, _, _, _, _⟩ rfl (by rfl) 38 _ _ (by rfl) _ (by rfl) Tryd.call38 (dv _) ?_; rintro x wn ⟨rfl, hb⟩; replace hS := rnd_next hS hb; refine ⟨_, rfl, hS, ?_⟩; (try clear hb)
        simp only [Act.put, List.setIfInBounds_toArray, List.set_cons_zero, List.set_cons_succ]
        refine flow_op ⟨some 25, _, _, _, _, _⟩ rfl (by rfl) ?_; unfold Oper.wp; go_simp; refine (c1 _).mono ?_; rintro x wq ⟨rfl, hb⟩; replace hS := rnd_next hS hb; refine ⟨hS, ?_⟩; clear hb
        (try simp only [Act.put, List.setIfInBounds_toArray, List.set_cons_zero, List.set_cons_succ])
        refine flow_take ⟨some 4, _, _, _, _, _⟩ ?_ rfl (by rfl) ?_ ?_
        rotate_left 1
        · intro w hSw; (try dsimp only at hSw); go_simp; (try with_reducible rfl)
        simp only [Act.put, List.setIfInBounds_toArray, List.set_cons_zero, List.set_cons_succ]
        refine flow_take ⟨some 5, _, _, _, _, _⟩ ?_ rfl (by rfl) ?_ ?_
        rotate_left 1
        · intro w hSw; (try dsimp only at hSw); go_simp; (try with_reducible rfl)
        simp only [Act.put, List.setIfInBounds_toArray, List.set_cons_zero, List.set_cons_succ]
        simp only [wpFlow, OnlyN]
        go_wp2_with fail
        go_ret2
        exact ⟨rfl, hbw.trans (hS.1.mono hbw.size)⟩
      · clear c1 c3 c4
        go_enter Tryd.func12, Tryd.ntmps12
        go_wp2_with fail
        refine (ra _).mono ?_
        rintro x w1 ⟨rfl, hb1⟩
        obtain ⟨hc1, hf1⟩ := bcell hb1
        have k0 : w1.cell? ⟨w.heap.size, 0, none⟩ = some (.int .i64 r.n) := (hc1 _ _ (by simp; omega)).trans (by simp [go_sem])
        have k1 : w1.cell? ⟨w.heap.size, 1, none⟩ = some (.int .i64 r.d) := (hc1 _ _ (by simp; omega)).trans (by simp [go_sem])
        have k2 : w1.cell? ⟨w.heap.size + 1, 1, none⟩ = some (.func (.func 33) #[] #[]) := (hc1 _ _ (by simp)).trans (by simp [go_sem])
        have hbw : RowKit.Below w.heap.size w w1 := (below_next (below_alloc1 _ _) (below_alloc1 _ _)).trans (hb1.mono (by simp; omega))
        have hS0 := rnd_next ⟨Below.refl w1.heap.size w1, k0, k1, k2⟩ (Below.refl _ _).drew
        have hw0 : IntKind.i64.wrap 1 = 1 := by decide +kernel
        clear hb1 hc1 hf1 k0 k1 k2 ra
        go_wp2_with fail
        refine (kw _).mono ?_
        rintro x w2 ⟨rfl, rfl⟩
        go_wp2_with fail
        refine of_onlyN ?_ (fun _ _ h => h)
        refine wp_region_flow (S := fun w' => RowKit.Below w1.heap.size w1 w' ∧ w'.cell? ⟨w.heap.size, 0, none⟩ = some (.int .i64 r.n) ∧ w'.cell? ⟨w.heap.size, 1, none⟩ = some (.int .i64 r.d) ∧ w'.cell? ⟨w.heap.size + 1, 1, none⟩ = some (.func (.func 33) #[] #[])) [(0, true), (1, true), (2, true), (3, true), (4, true), (5, true), (6, false), (7, false), (8, true), (9, true)] (by kernel_rfl) (by kernel_rfl) (by kernel_rfl) (by decide) (hS0) ?_
        have hS := hS0
        refine flow_take ⟨some 18, _, _, _, _, _⟩ ?_ rfl (by rfl) ?_ ?_
        rotate_left 1
        · intro w hSw; (try dsimp only at hSw); go_simp; (try with_reducible rfl)
        simp only [Act.put, List.setIfInBounds_toArray, List.set_cons_zero, List.set_cons_succ]
        refine flow_take ⟨some 19, _, _, _, _, _⟩ ?_ rfl (by rfl) ?_ ?_
        rotate_left 1
        · intro w hSw; (try dsimp only at hSw); go_simp; (try with_reducible rfl)
        simp only [Act.put, List.setIfInBounds_toArray, List.set_cons_zero, List.set_cons_succ]
        refine flow_take ⟨some 20, _, _, _, _, _⟩ ?_ rfl (by rfl) ?_ ?_
        rotate_left 1
        · intro w hSw; (try dsimp only at hSw); go_simp; (try with_reducible rfl)
        simp only [Act.put, List.setIfInBounds_toArray, List.set_cons_zero, List.set_cons_succ]
        refine flow_take ⟨some 21, _, _, _, _, _⟩ ?_ rfl (by rfl) ?_ ?_
        rotate_left 1
        · intro w hSw; (try dsimp only at hSw); go_simp; (try with_reducible rfl)
        simp only [Act.put, List.setIfInBounds_toArray, List.set_cons_zero, List.set_cons_succ]
        refine flow_take ⟨some 22, _, _, _, _, _⟩ ?_ rfl (by rfl) ?_ ?_
        rotate_left 1
        · intro w hSw; (try dsimp only at hSw); go_simp; (try with_reducible rfl)
        simp only [Act.put, List.setIfInBounds_toArray, List.set_cons_zero, List.set_cons_succ]
        refine flow_take ⟨some 23, _, _, _, _, _⟩ ?_ rfl (by rfl) ?_ ?_
        rotate_left 1
        · intro w hSw; (try dsimp only at hSw); go_simp; (try with_reducible rfl)
        simp only [Act.put, List.setIfInBounds_toArray, List.set_cons_zero, List.set_cons_succ]
        refine flow_call ⟨some 24, _, _, _, _, _⟩ rfl (by rfl) 38 _ _ (by rfl) _ (by rfl) Tryd.call38 (dv _) ?_; rintro x wn ⟨rfl, hb⟩; replace hS := rnd_next hS hb; refine ⟨_, rfl, hS, ?_⟩; (try clear hb)
        simp only [Act.put, List.setIfInBounds_toArray, List.set_cons_zero, List.set_cons_succ]
        refine flow_op ⟨some 25, _, _, _, _, _⟩ rfl (by rfl) ?_; unfold Oper.wp; go_simp; refine (c2 _).mono ?_; rintro x wq ⟨rfl, hb⟩; replace hS := rnd_next hS hb; refine ⟨hS, ?_⟩; clear hb
        (try simp only [Act.put, List.setIfInBounds_toArray, List.set_cons_zero, List.set_cons_succ])
        refine flow_take ⟨some 4, _, _, _, _, _⟩ ?_ rfl (by rfl) ?_ ?_
        rotate_left 1
        · intro w hSw; (try dsimp only at hSw); go_simp; (try with_reducible rfl)
        simp only [Act.put, List.setIfInBounds_toArray, List.set_cons_zero, List.set_cons_succ]
        refine flow_take ⟨some 5, _, _, _, _, _⟩ ?_ rfl (by rfl) ?_ ?_
        rotate_left 1
        · intro w hSw; (try dsimp only at hSw); go_simp; (try with_reducible rfl)
        simp only [Act.put, List.setIfInBounds_toArray, List.set_cons_zero, List.set_cons_succ]
        simp only [wpFlow, OnlyN]
        go_wp2_with fail
        go_ret2
        exact ⟨rfl, hbw.trans (hS.1.mono hbw.size)⟩
      · clear c1 c2 c4
        go_enter Tryd.func12, Tryd.ntmps12
        go_wp2_with fail
        refine (ra _).mono ?_
        rintro x w1 ⟨rfl, hb1⟩
        obtain ⟨hc1, hf1⟩ := bcell hb1
        have k0 : w1.cell? ⟨w.heap.size, 0, none⟩ = some (.int .i64 r.n) := (hc1 _ _ (by simp; omega)).trans (by simp [go_sem])
        have k1 : w1.cell? ⟨w.heap.size, 1, none⟩ = some (.int .i64 r.d) := (hc1 _ _ (by simp; omega)).trans (by simp [go_sem])
        have k2 : w1.cell? ⟨w.heap.size + 1, 2, none⟩ = some (.func (.func 34) #[] #[]) := (hc1 _ _ (by simp)).trans (by simp [go_sem])
        have hbw : RowKit.Below w.heap.size w w1 := (below_next (below_alloc1 _ _) (below_alloc1 _ _)).trans (hb1.mono (by simp; omega))
        have hS0 := rnd_next ⟨Below.refl w1.heap.size w1, k0, k1, k2⟩ (Below.refl _ _).drew
        have hw0 : IntKind.i64.wrap 2 = 2 := by decide +kernel
        clear hb1 hc1 hf1 k0 k1 k2 ra
        go_wp2_with fail
        refine (kw _).mono ?_
        rintro x w2 ⟨rfl, rfl⟩
        go_wp2_with fail
        refine of_onlyN ?_ (fun _ _ h => h)
        refine wp_region_flow (S := fun w' => RowKit.Below w1.heap.size w1 w' ∧ w'.cell? ⟨w.heap.size, 0, none⟩ = some (.int .i64 r.n) ∧ w'.cell? ⟨w.heap.size, 1, none⟩ = some (.int .i64 r.d) ∧ w'.cell? ⟨w.heap.size + 1, 2, none⟩ = some (.func (.func 34) #[] #[])) [(0, true), (1, true), (2, true), (3, true), (4, true), (5, true), (6, false), (7, false), (8, true), (9, true)] (by kernel_rfl) (by kernel_rfl) (by kernel_rfl) (by decide) (hS0) ?_
        have hS := hS0
        refine flow_take ⟨some 18, _, _, _, _, _⟩ ?_ rfl (by rfl) ?_ ?_
        rotate_left 1
        · intro w hSw; (try dsimp only at hSw); go_simp; (try with_reducible rfl)
        simp only [Act.put, List.setIfInBounds_toArray, List.set_cons_zero, List.set_cons_succ]
        refine flow_take ⟨some 19, _, _, _, _, _⟩ ?_ rfl (by rfl) ?_ ?_
        rotate_left 1
        · intro w hSw; (try dsimp only at hSw); go_simp; (try with_reducible rfl)
        simp only [Act.put, List.setIfInBounds_toArray, List.set_cons_zero, List.set_cons_succ]
        refine flow_take ⟨some 20, _, _, _, _, _⟩ ?_ rfl (by rfl) ?_ ?_
        rotate_left 1
        · intro w hSw; (try dsimp only at hSw); go_simp; (try with_reducible rfl)
        simp only [Act.put, List.setIfInBounds_toArray, List.set_cons_zero, List.set_cons_succ]
        refine flow_take ⟨some 21, _, _, _, _, _⟩ ?_ rfl (by rfl) ?_ ?_
        rotate_left 1
        · intro w hSw; (try dsimp only at hSw); go_simp; (try with_reducible rfl)
        simp only [Act.put, List.setIfInBounds_toArray, List.set_cons_zero, List.set_cons_succ]
        refine flow_take ⟨some 22, _, _, _, _, _⟩ ?_ rfl (by rfl) ?_ ?_
        rotate_left 1
        · intro w hSw; (try dsimp only at hSw); go_simp; (try with_reducible rfl)
        simp only [Act.put, List.setIfInBounds_toArray, List.set_cons_zero, List.set_cons_succ]
        refine flow_take ⟨some 23, _, _, _, _, _⟩ ?_ rfl (by rfl) ?_ ?_
        rotate_left 1
        · intro w hSw; (try dsimp only at hSw); go_simp; (try with_reducible rfl)
        simp only [Act.put, List.setIfInBounds_toArray, List.set_cons_zero, List.set_cons_succ]
        refine flow_call ⟨some 24, _, _, _, _, _⟩ rfl (by rfl) 38 _ _ (by rfl) _ (by rfl) Tryd.call38 (dv _) ?_; rintro x wn ⟨rfl, hb⟩; replace hS := rnd_next hS hb; refine ⟨_, rfl, hS, ?_⟩; (try clear hb)
        simp only [Act.put, List.setIfInBounds_toArray, List.set_cons_zero, List.set_cons_succ]
        refine flow_op ⟨some 25, _, _, _, _, _⟩ rfl (by rfl) ?_; unfold Oper.wp; go_simp; refine (c3 _).mono ?_; rintro x wq ⟨rfl, hb⟩; replace hS := rnd_next hS hb; refine ⟨hS, ?_⟩; clear hb
        (try simp only [Act.put, List.setIfInBounds_toArray, List.set_cons_zero, List.set_cons_succ])
        refine flow_take ⟨some 4, _, _, _, _, _⟩ ?_ rfl (by rfl) ?_ ?_
        rotate_left 1
        · intro w hSw; (try dsimp only at hSw); go_simp; (try with_reducible rfl)
        simp only [Act.put, List.setIfInBounds_toArray, List.set_cons_zero, List.set_cons_succ]
        refine flow_take ⟨some 5, _, _, _, _, _⟩ ?_ rfl (by rfl) ?_ ?_
        rotate_left 1
        · intro w hSw; (try dsimp only at hSw); go_simp; (try with_reducible rfl)
        simp only [Act.put, List.setIfInBounds_toArray, List.set_cons_zero, List.set_cons_succ]
        simp only [wpFlow, OnlyN]
        go_wp2_with fail
        go_ret2
        exact ⟨rfl, hbw.trans (hS.1.mono hbw.size)⟩
      · clear c1 c2 c3
        go_enter Tryd.func12, Tryd.ntmps12
        go_wp2_with fail
        refine (ra _).mono ?_
        rintro x w1 ⟨rfl, hb1⟩
        obtain ⟨hc1, hf1⟩ := bcell hb1
        have k0 : w1.cell? ⟨w.heap.size, 0, none⟩ = some (.int .i64 r.n) := (hc1 _ _ (by simp; omega)).trans (by simp [go_sem])
        have k1 : w1.cell? ⟨w.heap.size, 1, none⟩ = some (.int .i64 r.d) := (hc1 _ _ (by simp; omega)).trans (by simp [go_sem])
        have k2 : w1.cell? ⟨w.heap.size + 1, 3, none⟩ = some (.func (.func 35) #[] #[]) := (hc1 _ _ (by simp)).trans (by simp [go_sem])
        have hbw : RowKit.Below w.heap.size w w1 := (below_next (below_alloc1 _ _) (below_alloc1 _ _)).trans (hb1.mono (by simp; omega))
        have hS0 := rnd_next ⟨Below.refl w1.heap.size w1, k0, k1, k2⟩ (Below.refl _ _).drew
        have hw0 : IntKind.i64.wrap 3 = 3 := by decide +kernel
        clear hb1 hc1 hf1 k0 k1 k2 ra
        go_wp2_with fail
        refine (kw _).mono ?_
        rintro x w2 ⟨rfl, rfl⟩
        go_wp2_with fail
        refine of_onlyN ?_ (fun _ _ h => h)
        refine wp_region_flow (S := fun w' => RowKit.Below w1.heap.size w1 w' ∧ w'.cell? ⟨w.heap.size, 0, none⟩ = some (.int .i64 r.n) ∧ w'.cell? ⟨w.heap.size, 1, none⟩ = some (.int .i64 r.d) ∧ w'.cell? ⟨w.heap.size + 1, 3, none⟩ = some (.func (.func 35) #[] #[])) [(0, true), (1, true), (2, true), (3, true), (4, true), (5, true), (6, false), (7, false), (8, true), (9, true)] (by kernel_rfl) (by kernel_rfl) (by kernel_rfl) (by decide) (hS0) ?_
        have hS := hS0
        refine flow_take ⟨some 18, _, _, _, _, _⟩ ?_ rfl (by rfl) ?_ ?_
        rotate_left 1
        · intro w hSw; (try dsimp only at hSw); go_simp; (try with_reducible rfl)
        simp only [Act.put, List.setIfInBounds_toArray, List.set_cons_zero, List.set_cons_succ]
        refine flow_take ⟨some 19, _, _, _, _, _⟩ ?_ rfl (by rfl) ?_ ?_
        rotate_left 1
        · intro w hSw; (try dsimp only at hSw); go_simp; (try with_reducible rfl)
        simp only [Act.put, List.setIfInBounds_toArray, List.set_cons_zero, List.set_cons_succ]
        refine flow_take ⟨some 20, _, _, _, _, _⟩ ?_ rfl (by rfl) ?_ ?_
        rotate_left 1
        · intro w hSw; (try dsimp only at hSw); go_simp; (try with_reducible rfl)
        simp only [Act.put, List.setIfInBounds_toArray, List.set_cons_zero, List.set_cons_succ]
        refine flow_take ⟨some 21, _, _, _, _, _⟩ ?_ rfl (by rfl) ?_ ?_
        rotate_left 1
        · intro w hSw; (try dsimp only at hSw); go_simp; (try with_reducible rfl)
        simp only [Act.put, List.setIfInBounds_toArray, List.set_cons_zero, List.set_cons_succ]
        refine flow_take ⟨some 22, _, _, _, _, _⟩ ?_ rfl (by rfl) ?_ ?_
        rotate_left 1
        · intro w hSw; (try dsimp only at hSw); go_simp; (try with_reducible rfl)
        simp only [Act.put, List.setIfInBounds_toArray, List.set_cons_zero, List.set_cons_succ]
        refine flow_take ⟨some 23, _, _, _, _, _⟩ ?_ rfl (by rfl) ?_ ?_
        rotate_left 1
        · intro w hSw; (try dsimp only at hSw); go_simp; (try with_reducible rfl)
        simp only [Act.put, List.setIfInBounds_toArray, List.set_cons_zero, List.set_cons_succ]
        refine flow_call ⟨some 24, _, _, _, _, _⟩ rfl (by rfl) 38 _ _ (by rfl) _ (by rfl) Tryd.call38 (dv _) ?_; rintro x wn ⟨rfl, hb⟩; replace hS := rnd_next hS hb; refine ⟨_, rfl, hS, ?_⟩; (try clear hb)
        simp only [Act.put, List.setIfInBounds_toArray, List.set_cons_zero, List.set_cons_succ]
        refine flow_op ⟨some 25, _, _, _, _, _⟩ rfl (by rfl) ?_; unfold Oper.wp; go_simp; refine (c4 _).mono ?_; rintro x wq ⟨rfl, hb⟩; replace hS := rnd_next hS hb; refine ⟨hS, ?_⟩; clear hb
        (try simp only [Act.put, List.setIfInBounds_toArray, List.set_cons_zero, List.set_cons_succ])
        refine flow_take ⟨some 4, _, _, _, _, _⟩ ?_ rfl (by rfl) ?_ ?_
        rotate_left 1
        · intro w hSw; (try dsimp only at hSw); go_simp; (try with_reducible rfl)
        simp only [Act.put, List.setIfInBounds_toArray, List.set_cons_zero, List.set_cons_succ]
        refine flow_take ⟨some 5, _, _, _, _, _⟩ ?_ rfl (by rfl) ?_ ?_
        rotate_left 1
        · intro w hSw; (try dsimp only at hSw); go_simp; (try with_reducible rfl)
        simp only [Act.put, List.setIfInBounds_toArray, List.set_cons_zero, List.set_cons_succ]
        simp only [wpFlow, OnlyN]
        go_wp2_with fail
        go_ret2
        exact ⟨rfl, hbw.trans (hS.1.mono hbw.size)⟩
    · have kw := fun w => within_is 1 how 4 false (by simp; omega) w
      rw [if_neg (fun x => h2 x.2), if_neg (fun x => h2 x.2)]
      clear h1 h h2
      go_enter Tryd.func12, Tryd.ntmps12
      go_wp2_with fail
      refine (ra _).mono ?_
      rintro x w1 ⟨rfl, hb1⟩
      have hbw : RowKit.Below w.heap.size w w1 := (below_next (below_alloc1 _ _) (below_alloc1 _ _)).trans (hb1.mono (by simp; omega))
      clear hb1 ra
      go_wp2_with fail
      refine (kw _).mono ?_
      rintro x w2 ⟨rfl, rfl⟩
      go_wp2_with fail
      go_ret2
      exact ⟨rfl, hbw⟩
  · rw [decide_eq_false h1] at ra
    rw [if_neg (fun x => h1 x.1), if_neg (fun x => h1 x.1)]
    clear h1 h
    go_enter Tryd.func12, Tryd.ntmps12
    go_wp2_with fail
    refine (ra _).mono ?_
    rintro x w1 ⟨rfl, hb1⟩
    have hbw : RowKit.Below w.heap.size w w1 := (below_next (below_alloc1 _ _) (below_alloc1 _ _)).trans (hb1.mono (by simp; omega))
    clear hb1
    go_wp2_with fail
    go_ret2
    exact ⟨rfl, hbw⟩
end Go.Proofs.YtmbjoenegcnoiaaDoor
