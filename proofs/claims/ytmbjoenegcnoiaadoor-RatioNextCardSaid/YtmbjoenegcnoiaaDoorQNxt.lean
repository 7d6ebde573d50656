/- The law RatioNext, walked. -/
import Derived.Test.YtmbjoenegcnoiaaDoorQNxtP
import Derived.Test.YtmbjoenegcnoiaaDoorQOrd
namespace Go.Proofs.YtmbjoenegcnoiaaDoor
open Go Go.RowKit Go.Sort Go.Lib

/-- What holds at the head of the round for a way: three ratios in boxes, and the results so far in two rows. -/
structure NSt (w : World) (A B : Rt) (b0 b1 pl gb bb : Nat) (h : Nat) (W : World) : Prop where
  a0 : W.cell? ⟨b0, 0, none⟩ = some (.int .i64 A.n)
  a1 : W.cell? ⟨b0, 1, none⟩ = some (.int .i64 A.d)
  e0 : W.cell? ⟨b1, 0, none⟩ = some (.int .i64 B.n)
  e1 : W.cell? ⟨b1, 1, none⟩ = some (.int .i64 B.d)
  l0 : W.cell? ⟨pl, 0, none⟩ = some (.int .i64 (-A.n))
  l1 : W.cell? ⟨pl, 1, none⟩ = some (.int .i64 A.d)
  g : ∀ j, j < 5 → W.cell? ⟨gb, j, none⟩ = some (.int .i64 (if 1 ≤ j ∧ j < h then roundV A j else 0))
  k : ∀ j, j < 5 → W.cell? ⟨bb, j, none⟩ = some (.int .i64 (if 1 ≤ j ∧ j < h then roundV ⟨-A.n, A.d⟩ j else 0))
  fg : ∀ j, W.frozen? ⟨gb, j, none⟩ = false
  fk : ∀ j, W.frozen? ⟨bb, j, none⟩ = false
  ne : gb ≠ bb ∧ gb ≠ b0 ∧ gb ≠ b1 ∧ gb ≠ pl ∧ bb ≠ b0 ∧ bb ≠ b1 ∧ bb ≠ pl
  lo : w.heap.size ≤ gb ∧ w.heap.size ≤ bb
  below : RowKit.Below w.heap.size w W
theorem NSt.next {w : World} {A B : Rt} {b0 b1 pl gb bb : Nat} {h : Nat} {W W' : World} (s : NSt w A B b0 b1 pl gb bb h W) (hb : RowKit.Below W.heap.size W W') : NSt w A B b0 b1 pl gb bb h W' :=
  ⟨mv0 hb s.a0, mv0 hb s.a1, mv0 hb s.e0, mv0 hb s.e1, mv0 hb s.l0, mv0 hb s.l1, fun j hj => mv0 hb (s.g j hj), fun j hj => mv0 hb (s.k j hj),
    fun j => ((bcell hb).2 _ _ (World.block_lt_of_cell? W _ (s.g 0 (by omega)))).trans (s.fg j), fun j => ((bcell hb).2 _ _ (World.block_lt_of_cell? W _ (s.k 0 (by omega)))).trans (s.fk j), s.ne, s.lo, below_next s.below hb⟩
theorem NSt.store {w : World} {A B : Rt} {b0 b1 pl gb bb : Nat} {h : Nat} {W : World} (s : NSt w A B b0 b1 pl gb bb h W) (h1 : 1 ≤ h) (h4 : h ≤ 4) : NSt w A B b0 b1 pl gb bb (h + 1) ((W.setCell ⟨gb, h, none⟩ (.int .i64 (roundV A h))).setCell ⟨bb, h, none⟩ (.int .i64 (roundV ⟨-A.n, A.d⟩ h))) := by
  obtain ⟨n0, n1, n2, n3, n4, n5, n6⟩ := s.ne
  refine ⟨?_, ?_, ?_, ?_, ?_, ?_, fun j hj => ?_, fun j hj => ?_, fun j => by simpa using s.fg j, fun j => by simpa using s.fk j, s.ne, s.lo, (s.below.setCell s.lo.1 _).setCell s.lo.2 _⟩
  · rw [World.cell?_setCell_far _ _ _ _ n4, World.cell?_setCell_far _ _ _ _ n1]; exact s.a0
  · rw [World.cell?_setCell_far _ _ _ _ n4, World.cell?_setCell_far _ _ _ _ n1]; exact s.a1
  · rw [World.cell?_setCell_far _ _ _ _ n5, World.cell?_setCell_far _ _ _ _ n2]; exact s.e0
  · rw [World.cell?_setCell_far _ _ _ _ n5, World.cell?_setCell_far _ _ _ _ n2]; exact s.e1
  · rw [World.cell?_setCell_far _ _ _ _ n6, World.cell?_setCell_far _ _ _ _ n3]; exact s.l0
  · rw [World.cell?_setCell_far _ _ _ _ n6, World.cell?_setCell_far _ _ _ _ n3]; exact s.l1
  · rw [World.cell?_setCell_far _ _ _ _ (fun e => n0 e.symm)]
    by_cases e : j = h
    · subst e
      rw [World.cell?_setCell_same _ _ _ (s.g j hj), if_pos (by omega)]
    · rw [World.cell?_setCell_other _ _ _ _ (by simp <;> omega), s.g j hj]
      by_cases e2 : 1 ≤ j ∧ j < h
      · rw [if_pos e2, if_pos (by omega)]
      · rw [if_neg e2, if_neg (by omega)]
  · by_cases e : j = h
    · subst e
      rw [World.cell?_setCell_same _ _ _ ((World.cell?_setCell_far _ _ _ _ n0).trans (s.k j hj)), if_pos (by omega)]
    · rw [World.cell?_setCell_other _ _ _ _ (by simp <;> omega), World.cell?_setCell_far _ _ _ _ n0, s.k j hj]
      by_cases e2 : 1 ≤ j ∧ j < h
      · rw [if_pos e2, if_pos (by omega)]
      · rw [if_neg e2, if_neg (by omega)]
theorem five_new (w : World) (t : TypeId) (j : Nat) (hj : j < 5) : (w.alloc (.cells #[.int .i64 0, .int .i64 0, .int .i64 0, .int .i64 0, .int .i64 0] t)).cell? ⟨w.heap.size, j, none⟩ = some (.int .i64 0) := by
  rw [Lib.cell_of_heap (heap_alloc_new w _)]
  match j, hj with | 0, _ => rfl | 1, _ => rfl | 2, _ => rfl | 3, _ => rfl | 4, _ => rfl
theorem round_is (r : Rt) (h : Right r) (k : Nat) (h1 : 1 ≤ k) (h4 : k ≤ 4) (w : World) : Calls Tryd.prog 12 #[.agg #[.int .i64 r.n, .int .i64 r.d], .int .i64 k] w fun e w' => e = .returned (.tuple #[.int .i64 (roundV r k), .int .i64 0]) ∧ RowKit.Below w.heap.size w w' := by
  have c := round_any r h.ok k w
  rw [if_pos ⟨h, by omega, by omega⟩, if_pos ⟨h, by omega, by omega⟩] at c
  exact c
theorem round_bd {r : Rt} (h : Right r) (k : Int) : -1152921504606846976 ≤ roundV r k * r.d ∧ roundV r k * r.d ≤ 1152921504606846976 := by
  obtain ⟨h1, h2, -⟩ := next_near h k
  obtain ⟨p1, p2, p3, p4, -⟩ := h
  omega
theorem round_lim {r : Rt} (h : Right r) (k : Int) : -1073741825 ≤ roundV r k ∧ roundV r k ≤ 1073741825 := by
  obtain ⟨h0, h1, -⟩ := round_parts h
  have hn := rd_near (q := r.n / r.d) (how := k) h0 h1
  have hs := (right_small h).1
  obtain ⟨p1, p2, p3, p4, -⟩ := h
  obtain ⟨t, p, hT, hP, ⟨t1, t2⟩, ⟨q1, q2⟩, hM, k1, k2⟩ := floor_parts p1 p2 p3 p4
  unfold roundV
  rcases Int.lt_or_le r.n p with hx | hx
  · have := k2 hx; omega
  · have := k1 hx; omega
set_option maxHeartbeats 8000000 in
set_option maxRecDepth 100000 in
theorem next_any (x0 x1 x2 x3 : Int) (i0 : I64 x0) (i1 : I64 x1) (i2 : I64 x2) (i3 : I64 x3) (w : World) (ht : Sane w) :
    Calls Tryd.prog 8 #[.agg #[.int .i64 x0, .int .i64 x1, .int .i64 x2, .int .i64 x3]] w fun x w' => x = .returned (.bool true) ∧ RowKit.Below w.heap.size w w' := by
  have hbw := below_alloc1 w (.cells #[.int .i64 x0, .int .i64 x1, .int .i64 x2, .int .i64 x3] 52)
  have h0 : (w.alloc (.cells #[.int .i64 x0, .int .i64 x1, .int .i64 x2, .int .i64 x3] 52)).cell? ⟨w.heap.size, 0, none⟩ = some (.int .i64 x0) := Lib.cell_of_heap (heap_alloc_new w _) 0
  have h1 : (w.alloc (.cells #[.int .i64 x0, .int .i64 x1, .int .i64 x2, .int .i64 x3] 52)).cell? ⟨w.heap.size, 1, none⟩ = some (.int .i64 x1) := Lib.cell_of_heap (heap_alloc_new w _) 1
  have h2 : (w.alloc (.cells #[.int .i64 x0, .int .i64 x1, .int .i64 x2, .int .i64 x3] 52)).cell? ⟨w.heap.size, 2, none⟩ = some (.int .i64 x2) := Lib.cell_of_heap (heap_alloc_new w _) 2
  have h3 : (w.alloc (.cells #[.int .i64 x0, .int .i64 x1, .int .i64 x2, .int .i64 x3] 52)).cell? ⟨w.heap.size, 3, none⟩ = some (.int .i64 x3) := Lib.cell_of_heap (heap_alloc_new w _) 3
  have c0 := fun w => made_any x0 x1 i0 i1 w
  have c1 := fun w => made_any x2 x3 i2 i3 w
  have rA := made_right x0 x1
  have rB := made_right x2 x3
  generalize madeV x0 x1 = A at c0 rA
  generalize madeV x2 x3 = B at c1 rB
  unfold Rt.val at c0 c1
  go_enter Tryd.func8, Tryd.ntmps8
  go_wp2_with fail
  refine (sanity_any _ (ht.below hbw)).mono ?_
  rintro x w1 ⟨rfl, hb⟩
  replace h0 := mv0 hb h0
  replace h1 := mv0 hb h1
  replace h2 := mv0 hb h2
  replace h3 := mv0 hb h3
  have hlt := World.block_lt_of_cell? _ _ h0
  replace hbw := below_next hbw hb
  clear hb ht i0 i1 i2 i3
  go_wp2_with fail
  refine nxt_r2 w.heap.size x0 x1 x2 x3 A B _ _ h0 h1 h2 h3 c0 c1 ?_
  intro b0 b1 V hn01 hb z0 z1 t0 t1
  replace hbw := below_next hbw hb
  obtain ⟨fA0, fA1, -, -⟩ := id t0
  obtain ⟨fB0, fB1, -, -⟩ := id t1
  have zA := t0.lt
  have zB := t1.lt
  have bA : -1073741824 ≤ A.n ∧ A.n ≤ 1073741824 := ⟨rA.2.2.1, rA.2.2.2.1⟩
  obtain ⟨bA1, bA2⟩ := bA
  have S0 : NSt w A B b0 b1 V.heap.size (V.heap.size + 1) (V.heap.size + 1 + 1) 1 (((V.alloc (.cells #[.int .i64 (-A.n), .int .i64 A.d] 24)).alloc (.cells #[.int .i64 0, .int .i64 0, .int .i64 0, .int .i64 0, .int .i64 0] 53)).alloc (.cells #[.int .i64 0, .int .i64 0, .int .i64 0, .int .i64 0, .int .i64 0] 53)) := by
    have s1 : (V.alloc (.cells #[.int .i64 (-A.n), .int .i64 A.d] 24)).heap.size = V.heap.size + 1 := by simp
    have s2 : ((V.alloc (.cells #[.int .i64 (-A.n), .int .i64 A.d] 24)).alloc (.cells #[.int .i64 0, .int .i64 0, .int .i64 0, .int .i64 0, .int .i64 0] 53)).heap.size = V.heap.size + 1 + 1 := by simp
    have hb3 := below_next (below_next (below_alloc1 V (.cells #[.int .i64 (-A.n), .int .i64 A.d] 24)) (below_alloc1 _ (.cells #[.int .i64 0, .int .i64 0, .int .i64 0, .int .i64 0, .int .i64 0] 53))) (below_alloc1 _ (.cells #[.int .i64 0, .int .i64 0, .int .i64 0, .int .i64 0, .int .i64 0] 53))
    have hz := hbw.size
    have p0 := pair_at V (.int .i64 (-A.n)) (.int .i64 A.d) 24
    have hb2 := below_next (below_alloc1 (V.alloc (.cells #[.int .i64 (-A.n), .int .i64 A.d] 24)) (.cells #[.int .i64 0, .int .i64 0, .int .i64 0, .int .i64 0, .int .i64 0] 53)) (below_alloc1 _ (.cells #[.int .i64 0, .int .i64 0, .int .i64 0, .int .i64 0, .int .i64 0] 53))
    refine ⟨mv0 hb3 fA0, mv0 hb3 fA1, mv0 hb3 fB0, mv0 hb3 fB1, mv0 hb2 p0.1, mv0 hb2 p0.2, fun j hj => ?_, fun j hj => ?_, fun j => by simp [go_sem], fun j => by simp [go_sem], ⟨by omega, by omega, by omega, by omega, by omega, by omega, by omega⟩, ⟨by omega, by omega⟩, below_next hbw hb3⟩
    · rw [if_neg (by omega), ← s1]; exact mv0 (below_alloc1 _ _) (five_new _ _ j hj)
    · rw [if_neg (by omega), ← s2]; exact five_new _ _ j hj
  clear hb t0 t1 z0 z1 h0 h1 h2 h3 c0 c1 hbw
  go_wp2_with fail
  clear fA0 fA1 fB0 fB1 zA zB hlt hn01
  generalize ((V.alloc (.cells #[.int .i64 (-A.n), .int .i64 A.d] 24)).alloc (.cells #[.int .i64 0, .int .i64 0, .int .i64 0, .int .i64 0, .int .i64 0] 53)).alloc (.cells #[.int .i64 0, .int .i64 0, .int .i64 0, .int .i64 0, .int .i64 0] 53) = V1 at S0 ⊢
  generalize V.heap.size + 1 + 1 = bb at S0 ⊢
  generalize V.heap.size + 1 = gb at S0 ⊢
  generalize V.heap.size = pl at S0 ⊢
  have rL := right_neg rA
  go_loopw [9] (fun i wr => ∃ h : Nat, 1 ≤ h ∧ h ≤ 5 ∧ i = .int .i64 h ∧ NSt w A B b0 b1 pl gb bb h wr) (fun i _ => 5 - (RowKit.intOf i).toNat)
  case atStart => exact ⟨1, by omega, by omega, rfl, S0⟩
  case round =>
    obtain ⟨h, h1, h5, rfl, S⟩ := hrel
    by_cases hlt : h ≤ 4
    · have ca := fun w => round_is A rA h h1 hlt w
      have cb := fun w => round_is B rB h h1 hlt w
      have cl := fun w => round_is ⟨-A.n, A.d⟩ rL h h1 hlt w
      dsimp only at cl
      have cc := fun w => cmp_any A B rA.ok rB.ok w
      unfold Rt.val at cc
      obtain ⟨q1, q2, q3⟩ := next_near rA h
      have q4 := round_bd rA h
      have q5 := cmpV_three A B
      have hh : (h : Int) = 1 ∨ (h : Int) = 2 ∨ (h : Int) = 3 ∨ (h : Int) = 4 := by omega
      have q6 : cmpV A B < 0 → roundV A h ≤ roundV B h := fun e => by
        unfold cmpV at e; rw [if_pos ⟨rA, rB⟩] at e; exact next_mono rA rB h hh (sgn_neg.1 e)
      have q7 : 0 < cmpV A B → roundV B h ≤ roundV A h := fun e => by
        unfold cmpV at e; rw [if_pos ⟨rA, rB⟩] at e; exact next_mono rB rA h hh (sgn_pos.1 e)
      have q8 : 2 < (h : Int) → 2 * (roundV A h * A.d - A.n) ≤ A.d ∧ 2 * (A.n - roundV A h * A.d) ≤ A.d := fun e => next_half rA h (by omega)
      have Snx := fun (W : World) (s : NSt w A B b0 b1 pl gb bb h W) => s.store h1 hlt
      generalize hvA : roundV A h = n at *
      generalize hvB : roundV B h = m at *
      generalize hvL : roundV ⟨-A.n, A.d⟩ h = k at *
      generalize hvc : cmpV A B = c at *
      have HVA := Lib.hid hvA
      clear hvA hvB hvL hvc hh
      obtain ⟨a0, a1, e0, e1, l0, l1, -, -, -, -, -, -, -⟩ := id S
      have HS := Lib.hid S
      have HSn := Lib.hid Snx
      have HQ6 := Lib.hid q6
      have HQ7 := Lib.hid q7
      have HQ8 := Lib.hid q8
      have HQ3 := Lib.hid q3
      have HQ5 := Lib.hid q5
      clear S Snx q6 q7 q8 q3 q5
      have hdk : decide ((h : Int) ≤ 4) = true := by simp; omega
      go_wp2_with fail
      refine (ca _).mono ?_
      rintro x y1 ⟨rfl, hb⟩
      have S' := HS.out.next hb
      clear HS hb a0 a1 e0 e1 l0 l1
      have HS := Lib.hid S'
      obtain ⟨a0, a1, e0, e1, l0, l1, -, -, -, -, -, -, -⟩ := id S'
      clear S'
      go_wp2_with fail
      refine (cb _).mono ?_
      rintro x y2 ⟨rfl, hb⟩
      have S' := HS.out.next hb
      clear HS hb a0 a1 e0 e1 l0 l1
      have HS := Lib.hid S'
      obtain ⟨a0, a1, e0, e1, l0, l1, -, -, -, -, -, -, -⟩ := id S'
      clear S'
      go_wp2_with fail
      refine (cl _).mono ?_
      rintro x y3 ⟨rfl, hb⟩
      have S' := HS.out.next hb
      clear HS hb a0 a1 e0 e1 l0 l1
      have HS := Lib.hid S'
      obtain ⟨a0, a1, e0, e1, l0, l1, -, -, -, -, -, -, -⟩ := id S'
      clear S'
      go_upto_region 11 with fail
      refine nxt_r11 b0 A.n A.d n _ _ ⟨rA.1, rA.2.1⟩ ⟨bA1, bA2⟩ ⟨by omega, by omega⟩ q1 q2 HQ3.out a0 a1 ?_
      intro _ _ _ _ _ _ _ _ _ _ _ _ _ _ _ _ _ _ _ _ _ _ _ _ _ _ _ _ _ _ _ _ _ _ _ _ _ _ _ _ _ _ _ _
      go_wp2_with fail
      refine (cc _).mono ?_
      rintro x y4 ⟨rfl, hb⟩
      have S' := HS.out.next hb
      clear HS hb a0 a1 e0 e1 l0 l1
      have HS := Lib.hid S'
      obtain ⟨a0, a1, e0, e1, l0, l1, -, -, -, -, -, -, -⟩ := id S'
      clear S'
      go_upto_region 14 with fail
      refine nxt_r14 b0 A.n A.d n m c h _ _ ⟨rA.1, rA.2.1⟩ ⟨bA1, bA2⟩ ⟨by omega, by omega⟩ HQ5.out HQ6.out HQ7.out HQ8.out a0 a1 ?_
      intro _ _ _ _ _ _ _ _ _ _ _ _ _ _ _ _ _ _ _ _ _ _ _ _ _ _ _ _ _ _ _ _ _ _ _ _ _ _ _ _ _ _ _ _ _
      have S' := HS.out
      have g1 := S'.g h (by omega)
      have g2 := S'.k h (by omega)
      have g3 := S'.fg h
      have g4 := S'.fk h
      have g5 := S'.ne.1
      have Sn := HSn.out _ S'
      clear S' a0 a1 e0 e1 l0 l1 q1 q2 HQ6 HQ7 HQ8 HQ3 HQ5 HS HSn
      generalize (if 1 ≤ h ∧ h < h then roundV A h else 0) = old1 at g1
      generalize (if 1 ≤ h ∧ h < h then roundV ⟨-A.n, A.d⟩ h else 0) = old2 at g2
      go_wp2_with fail
      exact ⟨⟨h + 1, by omega, by omega, by go_num, Sn⟩, by simp [RowKit.intOf]; omega⟩
    · obtain rfl : h = 5 := by omega
      have g1 := S.g 1 (by omega)
      have g2 := S.g 2 (by omega)
      have g3 := S.g 3 (by omega)
      have g4 := S.g 4 (by omega)
      have k1 := S.k 1 (by omega)
      have k2 := S.k 2 (by omega)
      have k4 := S.k 4 (by omega)
      rw [if_pos (by omega)] at g1 g2 g3 g4 k1 k2 k4
      have hbw := S.below
      obtain ⟨m1, m2, m4⟩ := next_neg rA
      obtain ⟨o1, o2, o3⟩ := next_order rA
      have l1 := round_lim rL 1
      have l2 := round_lim rL 2
      have l4 := round_lim rL 4
      simp only [Int.cast_ofNat_Int] at g1 g2 g3 g4 k1 k2 k4
      rw [m1] at g1 o1
      rw [m2] at g2 o3
      rw [m4] at g4 o1 o2
      generalize roundV ⟨-A.n, A.d⟩ 1 = v1 at *
      generalize roundV ⟨-A.n, A.d⟩ 2 = v2 at *
      generalize roundV ⟨-A.n, A.d⟩ 4 = v4 at *
      generalize roundV A 3 = v3 at *
      clear S S0 rL rA rB m1 m2 m4 h5 hlt
      have o1' : v4 ≤ v2 := by omega
      go_wp2_with fail
      go_ret
      exact ⟨rfl, hbw⟩
end Go.Proofs.YtmbjoenegcnoiaaDoor
