/- swap.Turn. -/
import Derived.Test.YtjcogpalmgcpbaaGreatGeaz
/- swap: turn. -/
namespace Go.Proofs.YtjcogpalmgcpbaaGreat
open Go Go.Proofs Go.RowKit Go.Maps Go.Sort Go.Lib
attribute [local go_sem] Seat.cells Req.cells


set_option maxHeartbeats 16000000 in
set_option maxRecDepth 100000 in
theorem tn_r1 {s1 s2 s3 s4 s5 s6 s7 s8 s9 s10 s11 s12 s13 s14 s15 s16 s17 s18 s19 s20 s21 s22 s23 s24 s25 s26 s27 s28 s29 s30 s31 s32 s33 s34 s35 s36 s37 s38 s39 s40 s41 s42 s43 s44 s45 s46 s47 s48 s49 s50 s51 s52 s53 s54 s55 s56 s57 s58 s59 s60 s61 s62 s63 s64 s65 s66 : Value} (b : Nat) (ps pw : Option Addr) (cs cw : Nat) (d : Deal) (W : World) (Q : Exit → Act → World → Prop) (hb2 : b < W.heap.size ∧ W.cell? ⟨b, 2, none⟩ = some (.slice ps d.seats.length cs)) (hb3 : b < W.heap.size ∧ W.cell? ⟨b, 3, none⟩ = some (.slice pw d.waits.length cw)) (hr : RowIn Seat.cells W (.slice ps d.seats.length cs) d.seats) (hw : RowIn Seat.cells W (.slice pw d.waits.length cw) d.waits) (ls : d.seats.length ≤ 1000000) (lw : d.waits.length ≤ 1000000)
    (hQ : ∀ (u15 u21 u22 : Value) (q : Nat) (p : Option Addr) (c : Nat) (p' : Option Addr) (c' : Nat) (wx : World), RowKit.Below W.heap.size W wx → W.heap.size ≤ q → wx.heap[q]? = some (.cells #[.slice p d.seats.length c, .slice p' d.waits.length c'] 31 (0, 0)) → wx.ownsRow W.heap.size 38 2 (.slice p d.seats.length c) d.seats.length (flatE Seat.cells d.seats) → wx.ownsRow W.heap.size 38 2 (.slice p' d.waits.length c') d.waits.length (flatE Seat.cells d.waits) → (∀ x, (Value.slice p d.seats.length c).ownBlock = some x → (Value.slice p' d.waits.length c').ownBlock ≠ some x) → Q .normal ⟨List.toArray (.pointer (some ⟨b, 0, none⟩) :: s1 :: s2 :: s3 :: s4 :: .pointer (some ⟨q, 0, none⟩) :: s6 :: s7 :: s8 :: s9 :: .pointer (some ⟨b, 0, none⟩) :: .pointer (some ⟨b, 0, none⟩) :: .pointer (some ⟨b, 2, none⟩) :: .pointer (some ⟨b, 2, none⟩) :: .slice ps d.seats.length cs :: u15 :: .pointer (some ⟨b, 0, none⟩) :: .pointer (some ⟨b, 0, none⟩) :: .pointer (some ⟨b, 2, none⟩) :: .pointer (some ⟨b, 3, none⟩) :: .slice pw d.waits.length cw :: u21 :: u22 :: s23 :: s24 :: s25 :: s26 :: s27 :: s28 :: s29 :: s30 :: s31 :: s32 :: s33 :: s34 :: s35 :: s36 :: s37 :: s38 :: s39 :: s40 :: s41 :: s42 :: s43 :: s44 :: s45 :: s46 :: s47 :: s48 :: s49 :: s50 :: s51 :: s52 :: s53 :: s54 :: s55 :: s56 :: s57 :: s58 :: s59 :: s60 :: s61 :: s62 :: s63 :: s64 :: s65 :: s66 :: []), []⟩ wx) :
    (regionOf Tryz.f24 1).wp Tryz.prog Q ⟨List.toArray (.pointer (some ⟨b, 0, none⟩) :: s1 :: s2 :: s3 :: s4 :: s5 :: s6 :: s7 :: s8 :: s9 :: s10 :: s11 :: s12 :: s13 :: s14 :: s15 :: s16 :: s17 :: s18 :: s19 :: s20 :: s21 :: s22 :: s23 :: s24 :: s25 :: s26 :: s27 :: s28 :: s29 :: s30 :: s31 :: s32 :: s33 :: s34 :: s35 :: s36 :: s37 :: s38 :: s39 :: s40 :: s41 :: s42 :: s43 :: s44 :: s45 :: s46 :: s47 :: s48 :: s49 :: s50 :: s51 :: s52 :: s53 :: s54 :: s55 :: s56 :: s57 :: s58 :: s59 :: s60 :: s61 :: s62 :: s63 :: s64 :: s65 :: s66 :: []), []⟩ W := by
  refine of_onlyN (K := Q .normal) ?_ (fun _ _ h => h)
  generalize Q .normal = K at hQ ⊢
  have HQ := Lib.hid hQ; clear hQ
  conv => arg 2; whnf
  have hS0 : RowKit.Below W.heap.size W W.drew := (Below.refl _ _).drew
  have HR := Lib.hid hr
  have HW := Lib.hid hw
  clear hr hw
  refine wp_region_par (S := fun w => RowKit.Below W.heap.size W w) (I := fun L' a w => ∃ u15 u21 u22 u5 : Value, a = ⟨List.toArray (.pointer (some ⟨b, 0, none⟩) :: s1 :: s2 :: s3 :: s4 :: u5 :: s6 :: s7 :: s8 :: s9 :: .pointer (some ⟨b, 0, none⟩) :: .pointer (some ⟨b, 0, none⟩) :: .pointer (some ⟨b, 2, none⟩) :: .pointer (some ⟨b, 2, none⟩) :: .slice ps d.seats.length cs :: u15 :: .pointer (some ⟨b, 0, none⟩) :: .pointer (some ⟨b, 0, none⟩) :: .pointer (some ⟨b, 2, none⟩) :: .pointer (some ⟨b, 3, none⟩) :: .slice pw d.waits.length cw :: u21 :: u22 :: s23 :: s24 :: s25 :: s26 :: s27 :: s28 :: s29 :: s30 :: s31 :: s32 :: s33 :: s34 :: s35 :: s36 :: s37 :: s38 :: s39 :: s40 :: s41 :: s42 :: s43 :: s44 :: s45 :: s46 :: s47 :: s48 :: s49 :: s50 :: s51 :: s52 :: s53 :: s54 :: s55 :: s56 :: s57 :: s58 :: s59 :: s60 :: s61 :: s62 :: s63 :: s64 :: s65 :: s66 :: []), []⟩ ∧ (RowKit.Below W.heap.size W w) ∧ (L'.getD 5 false = true → L'.getD 14 false = false → ∃ p c, u15 = .slice p d.seats.length c ∧ w.ownsRow W.heap.size 38 2 u15 d.seats.length (flatE Seat.cells d.seats)) ∧ (L'.getD 11 false = true → L'.getD 14 false = false → ∃ p c, u21 = .slice p d.waits.length c ∧ w.ownsRow W.heap.size 38 2 u21 d.waits.length (flatE Seat.cells d.waits) ∧ ∀ q, u15.ownBlock = some q → u21.ownBlock ≠ some q) ∧ (L'.getD 12 false = true → ∃ p c p' c', u15 = .slice p d.seats.length c ∧ u21 = .slice p' d.waits.length c' ∧ u22 = .agg #[.slice p d.seats.length c, .slice p' d.waits.length c']) ∧ (L'.getD 13 false = true → L'.getD 14 false = false → Laid W.heap.size w (fun b => .pointer (some ⟨b, 0, none⟩)) (.cells #[.slice none 0 0, .slice none 0 0] 31 (0, 0)) u5) ∧ (L'.getD 14 false = true → ∃ q p c p' c', u5 = .pointer (some ⟨q, 0, none⟩) ∧ W.heap.size ≤ q ∧ w.heap[q]? = some (.cells #[.slice p d.seats.length c, .slice p' d.waits.length c'] 31 (0, 0)) ∧ w.ownsRow W.heap.size 38 2 (.slice p d.seats.length c) d.seats.length (flatE Seat.cells d.seats) ∧ w.ownsRow W.heap.size 38 2 (.slice p' d.waits.length c') d.waits.length (flatE Seat.cells d.waits) ∧ ∀ x, (Value.slice p d.seats.length c).ownBlock = some x → (Value.slice p' d.waits.length c').ownBlock ≠ some x)) (pre := fun i L' => L'.size == 15 && ((i == 5 && !L'.getD 5 false && !L'.getD 11 false && !L'.getD 12 false && !L'.getD 14 false) || (i == 11 && L'.getD 5 false && !L'.getD 11 false && !L'.getD 12 false && !L'.getD 14 false) || (i == 12 && L'.getD 5 false && L'.getD 11 false && !L'.getD 12 false && !L'.getD 14 false) || (i == 13 && !L'.getD 14 false) || (i == 14 && L'.getD 5 false && L'.getD 11 false && L'.getD 12 false && L'.getD 13 false && !L'.getD 14 false))) (fin := fun L' => L'.getD 14 false) [0, 1, 2, 3, 4, 6, 7, 8, 9, 10] 5 (by kernel_rfl) (by kernel_rfl) (by kernel_rfl) (by kernel_rfl) (by decide) hS0 ?_ ?_ ?_
  · intro i L' a w hp hI
    obtain ⟨u15, u21, u22, u5, rfl, hSw, hP5, hP11, hP12, hP13, hP14⟩ := hI
    simp only [Bool.and_eq_true, Bool.or_eq_true, beq_iff_eq, Bool.not_eq_true'] at hp
    obtain ⟨hsz, hp⟩ := hp
    rcases hp with ((((⟨⟨⟨⟨rfl, gn5⟩, gn11⟩, gn12⟩, gn14⟩ | ⟨⟨⟨⟨rfl, gd5⟩, gn11⟩, gn12⟩, gn14⟩) | ⟨⟨⟨⟨rfl, gd5⟩, gd11⟩, gn12⟩, gn14⟩) | ⟨rfl, gn14⟩) | ⟨⟨⟨⟨⟨rfl, gd5⟩, gd11⟩, gd12⟩, gd13⟩, gn14⟩)
    · have g5 : (L'.setIfInBounds 5 true).getD 5 false = true := by rw [up_set, if_pos ⟨rfl, by omega⟩]
      have g11 : (L'.setIfInBounds 5 true).getD 11 false = L'.getD 11 false := by rw [up_set, if_neg (by omega)]
      have g12 : (L'.setIfInBounds 5 true).getD 12 false = L'.getD 12 false := by rw [up_set, if_neg (by omega)]
      have g13 : (L'.setIfInBounds 5 true).getD 13 false = L'.getD 13 false := by rw [up_set, if_neg (by omega)]
      have g14 : (L'.setIfInBounds 5 true).getD 14 false = L'.getD 14 false := by rw [up_set, if_neg (by omega)]
      refine par_call ⟨some 15, _, _, _, _, _⟩ rfl (by rfl) 19 _ _ (by rfl) _ (by rfl) Tryz.call19 (clone_seats (.slice ps d.seats.length cs) d.seats w (HR.out.below hSw) ls) ?_
      rintro e wn ⟨v5, rfl, ho, hb⟩
      have hSn := below_next hSw hb
      obtain ⟨p5, c5, rfl⟩ := own_form ho
      exact ⟨_, rfl, hSn, (.slice p5 d.seats.length c5), (u21), (u22), (u5), by simp only [Act.put, List.setIfInBounds_toArray, List.set_cons_zero, List.set_cons_succ], hSn, fun _ _ => ⟨p5, c5, rfl, row_base ho hSw.size⟩, by rw [g11, g14]; exact fun e e2 => absurd (e.symm.trans gn11) (by decide), by rw [g12]; exact fun e => absurd (e.symm.trans gn12) (by decide), by rw [g13, g14]; exact fun e e2 => (hP13 e e2).below hb, by rw [g14]; exact fun e => absurd (e.symm.trans gn14) (by decide)⟩
    · have g5 : (L'.setIfInBounds 11 true).getD 5 false = L'.getD 5 false := by rw [up_set, if_neg (by omega)]
      have g11 : (L'.setIfInBounds 11 true).getD 11 false = true := by rw [up_set, if_pos ⟨rfl, by omega⟩]
      have g12 : (L'.setIfInBounds 11 true).getD 12 false = L'.getD 12 false := by rw [up_set, if_neg (by omega)]
      have g13 : (L'.setIfInBounds 11 true).getD 13 false = L'.getD 13 false := by rw [up_set, if_neg (by omega)]
      have g14 : (L'.setIfInBounds 11 true).getD 14 false = L'.getD 14 false := by rw [up_set, if_neg (by omega)]
      have hD5 := hP5 gd5 gn14
      refine par_call ⟨some 21, _, _, _, _, _⟩ rfl (by rfl) 19 _ _ (by rfl) _ (by rfl) Tryz.call19 (clone_seats (.slice pw d.waits.length cw) d.waits w (HW.out.below hSw) lw) ?_
      rintro e wn ⟨v11, rfl, ho, hb⟩
      have hSn := below_next hSw hb
      have hne : ∀ q, u15.ownBlock = some q → v11.ownBlock ≠ some q := fun q hq e => by have h1 := (ho.lt q e).1; obtain ⟨p5, c5, e5, ho5⟩ := hD5; have h2 := (ho5.lt q hq).2; omega
      obtain ⟨p11, c11, rfl⟩ := own_form ho
      exact ⟨_, rfl, hSn, (u15), (.slice p11 d.waits.length c11), (u22), (u5), by simp only [Act.put, List.setIfInBounds_toArray, List.set_cons_zero, List.set_cons_succ], hSn, by rw [g5, g14]; exact fun e e2 => (by obtain ⟨p, c, h1, h2⟩ := (hP5 e e2); exact ⟨p, c, h1, own_below h2 hb⟩), fun _ _ => ⟨p11, c11, rfl, row_base ho hSw.size, hne⟩, by rw [g12]; exact fun e => absurd (e.symm.trans gn12) (by decide), by rw [g13, g14]; exact fun e e2 => (hP13 e e2).below hb, by rw [g14]; exact fun e => absurd (e.symm.trans gn14) (by decide)⟩
    · have g5 : (L'.setIfInBounds 12 true).getD 5 false = L'.getD 5 false := by rw [up_set, if_neg (by omega)]
      have g11 : (L'.setIfInBounds 12 true).getD 11 false = L'.getD 11 false := by rw [up_set, if_neg (by omega)]
      have g12 : (L'.setIfInBounds 12 true).getD 12 false = true := by rw [up_set, if_pos ⟨rfl, by omega⟩]
      have g13 : (L'.setIfInBounds 12 true).getD 13 false = L'.getD 13 false := by rw [up_set, if_neg (by omega)]
      have g14 : (L'.setIfInBounds 12 true).getD 14 false = L'.getD 14 false := by rw [up_set, if_neg (by omega)]
      have hD5 := hP5 gd5 gn14
      have hD11 := hP11 gd11 gn14
      obtain ⟨p5, c5, e5, ho5⟩ := hD5
      obtain ⟨p11, c11, e11, ho11, hne⟩ := hD11
      subst e5; subst e11
      have hSn := hSw
      refine par_run ⟨some 22, _, _, _, _, _⟩ (.agg #[.slice p5 d.seats.length c5, .slice p11 d.waits.length c11]) w rfl (by rfl) (by go_simp) ?_
      exact ⟨hSn, (.slice p5 d.seats.length c5), (.slice p11 d.waits.length c11), (.agg #[.slice p5 d.seats.length c5, .slice p11 d.waits.length c11]), (u5), by simp only [Act.put, List.setIfInBounds_toArray, List.set_cons_zero, List.set_cons_succ], hSn, by rw [g5, g14]; exact hP5, by rw [g11, g14]; exact hP11, fun _ => ⟨p5, c5, p11, c11, rfl, rfl, rfl⟩, by rw [g13, g14]; exact hP13, by rw [g14]; exact fun e => absurd (e.symm.trans gn14) (by decide)⟩
    · have g5 : (L'.setIfInBounds 13 true).getD 5 false = L'.getD 5 false := by rw [up_set, if_neg (by omega)]
      have g11 : (L'.setIfInBounds 13 true).getD 11 false = L'.getD 11 false := by rw [up_set, if_neg (by omega)]
      have g12 : (L'.setIfInBounds 13 true).getD 12 false = L'.getD 12 false := by rw [up_set, if_neg (by omega)]
      have g13 : (L'.setIfInBounds 13 true).getD 13 false = true := by rw [up_set, if_pos ⟨rfl, by omega⟩]
      have g14 : (L'.setIfInBounds 13 true).getD 14 false = L'.getD 14 false := by rw [up_set, if_neg (by omega)]
      have hb : RowKit.Below w.heap.size w (w.alloc (.cells #[.slice none 0 0, .slice none 0 0] 31)) := below_alloc1 _ _
      have hSn := below_next hSw hb
      refine par_run ⟨some 5, _, _, _, _, _⟩ (.pointer (some ⟨w.heap.size, 0, none⟩)) (w.alloc (.cells #[.slice none 0 0, .slice none 0 0] 31)) rfl (by rfl) (by go_simp) ?_
      exact ⟨hSn, (u15), (u21), (u22), (.pointer (some ⟨w.heap.size, 0, none⟩)), by simp only [Act.put, List.setIfInBounds_toArray, List.set_cons_zero, List.set_cons_succ], hSn, by rw [g5, g14]; exact fun e e2 => (by obtain ⟨p, c, h1, h2⟩ := (hP5 e e2); exact ⟨p, c, h1, own_below h2 hb⟩), by rw [g11, g14]; exact fun e e2 => (by obtain ⟨p, c, h1, h2, h3⟩ := (hP11 e e2); exact ⟨p, c, h1, own_below h2 hb, h3⟩), by rw [g12]; exact hP12, fun _ _ => Laid.new w _ _ _ hSw.size, by rw [g14]; exact fun e => absurd (e.symm.trans gn14) (by decide)⟩
    · have g5 : (L'.setIfInBounds 14 true).getD 5 false = L'.getD 5 false := by rw [up_set, if_neg (by omega)]
      have g11 : (L'.setIfInBounds 14 true).getD 11 false = L'.getD 11 false := by rw [up_set, if_neg (by omega)]
      have g12 : (L'.setIfInBounds 14 true).getD 12 false = L'.getD 12 false := by rw [up_set, if_neg (by omega)]
      have g13 : (L'.setIfInBounds 14 true).getD 13 false = L'.getD 13 false := by rw [up_set, if_neg (by omega)]
      have g14 : (L'.setIfInBounds 14 true).getD 14 false = true := by rw [up_set, if_pos ⟨rfl, by omega⟩]
      have hD5 := hP5 gd5 gn14
      have hD11 := hP11 gd11 gn14
      have hD12 := hP12 gd12
      have hD13 := hP13 gd13 gn14
      obtain ⟨b13, rfl, hB13, hb13⟩ := hD13
      obtain ⟨p5, c5, p11, c11, e5, e11, e12⟩ := hD12
      subst e5; subst e11; subst e12
      obtain ⟨p5', c5', e5, ho5⟩ := hD5
      obtain ⟨p11', c11', e11, ho11, hne⟩ := hD11
      have hg := setRow_grown hb13 #[.slice p5 d.seats.length c5, .slice p11 d.waits.length c11]
      have hSn : RowKit.Below W.heap.size W (w.setRow b13 #[.slice p5 d.seats.length c5, .slice p11 d.waits.length c11]) := hSw.grown hg hSw.size (fun q hq => by obtain rfl := Option.some.inj hq; exact hB13)
      refine par_store_row ⟨none, _, _, _, _, _⟩ rfl (by rfl) 31 (.tmp 5) (.tmp 22) (by rfl) b13 #[.slice p5 d.seats.length c5, .slice p11 d.waits.length c11] (by rfl) (by rfl) _ _ hb13 (by kernel_rfl) rfl (by simp [Value.oneCell']) ?_
      exact ⟨hSn, (.slice p5 d.seats.length c5), (.slice p11 d.waits.length c11), (.agg #[.slice p5 d.seats.length c5, .slice p11 d.waits.length c11]), (.pointer (some ⟨b13, 0, none⟩)), by simp only [Act.put], hSn, by rw [g14]; exact fun _ e => absurd e (by decide), by rw [g14]; exact fun _ e => absurd e (by decide), by rw [g12]; exact hP12, by rw [g14]; exact fun _ e => absurd e (by decide), fun _ => ⟨b13, p5, c5, p11, c11, rfl, hB13, setRow_heap w b13 _ _ _ _ hb13, ho5.kept hg (own_apart' ho5 (by decide) hb13), ho11.kept hg (own_apart' ho11 (by decide) hb13), hne⟩⟩
  · intro L' a w hp hI
    obtain ⟨u15, u21, u22, u5, rfl, hSw, hP5, hP11, hP12, hP13, hP14⟩ := hI
    (try simp only [Bool.and_eq_true] at hp)
    have p14 := hp
    obtain ⟨q, p, c, p', c', rfl, hlo, hbx, ho1, ho2, hne⟩ := hP14 p14
    exact HQ.out _ _ _ q p c p' c' w hSw hlo hbx ho1 ho2 hne
  · refine par_take ⟨some 10, _, _, _, _, _⟩ ?_ rfl (by rfl) ?_ ?_
    rotate_left 1
    · intro w hSw; (try dsimp only at hSw); go_simp; (try with_reducible rfl)
    simp only [Act.put, List.setIfInBounds_toArray, List.set_cons_zero, List.set_cons_succ]
    refine par_take ⟨some 11, _, _, _, _, _⟩ (.pointer (some ⟨b, 0, none⟩)) rfl (by rfl) ?_ ?_
    · intro w hSw; go_simp
    simp only [Act.put, List.setIfInBounds_toArray, List.set_cons_zero, List.set_cons_succ]
    refine par_take ⟨some 12, _, _, _, _, _⟩ (.pointer (some ⟨b, 2, none⟩)) rfl (by rfl) ?_ ?_
    · intro w hSw; go_simp
    simp only [Act.put, List.setIfInBounds_toArray, List.set_cons_zero, List.set_cons_succ]
    refine par_take ⟨some 13, _, _, _, _, _⟩ (.pointer (some ⟨b, 2, none⟩)) rfl (by rfl) ?_ ?_
    · intro w hSw; go_simp
    simp only [Act.put, List.setIfInBounds_toArray, List.set_cons_zero, List.set_cons_succ]
    refine par_take ⟨some 14, _, _, _, _, _⟩ (.slice ps d.seats.length cs) rfl (by rfl) ?_ ?_
    · intro w hSw; have hcc : w.cell? ⟨b, 2, none⟩ = some (.slice ps d.seats.length cs) := (hSw.cell (p := ⟨b, 2, none⟩) hb2.1).trans hb2.2; go_simp
    simp only [Act.put, List.setIfInBounds_toArray, List.set_cons_zero, List.set_cons_succ]
    refine par_take ⟨some 16, _, _, _, _, _⟩ ?_ rfl (by rfl) ?_ ?_
    rotate_left 1
    · intro w hSw; (try dsimp only at hSw); go_simp; (try with_reducible rfl)
    simp only [Act.put, List.setIfInBounds_toArray, List.set_cons_zero, List.set_cons_succ]
    refine par_take ⟨some 17, _, _, _, _, _⟩ (.pointer (some ⟨b, 0, none⟩)) rfl (by rfl) ?_ ?_
    · intro w hSw; go_simp
    simp only [Act.put, List.setIfInBounds_toArray, List.set_cons_zero, List.set_cons_succ]
    refine par_take ⟨some 18, _, _, _, _, _⟩ (.pointer (some ⟨b, 2, none⟩)) rfl (by rfl) ?_ ?_
    · intro w hSw; go_simp
    simp only [Act.put, List.setIfInBounds_toArray, List.set_cons_zero, List.set_cons_succ]
    refine par_take ⟨some 19, _, _, _, _, _⟩ (.pointer (some ⟨b, 3, none⟩)) rfl (by rfl) ?_ ?_
    · intro w hSw; go_simp
    simp only [Act.put, List.setIfInBounds_toArray, List.set_cons_zero, List.set_cons_succ]
    refine par_take ⟨some 20, _, _, _, _, _⟩ (.slice pw d.waits.length cw) rfl (by rfl) ?_ ?_
    · intro w hSw; have hcc : w.cell? ⟨b, 3, none⟩ = some (.slice pw d.waits.length cw) := (hSw.cell (p := ⟨b, 3, none⟩) hb3.1).trans hb3.2; go_simp
    simp only [Act.put, List.setIfInBounds_toArray, List.set_cons_zero, List.set_cons_succ]
    exact ⟨_, _, _, _, rfl, hS0, (fun e => absurd e (by decide +kernel)), (fun e => absurd e (by decide +kernel)), (fun e => absurd e (by decide +kernel)), (fun e => absurd e (by decide +kernel)), (fun e => absurd e (by decide +kernel))⟩

/-- .. a store. -/
theorem flow_store {P : Program} {ops : Array Oper} {Q : Exit → Act → World → Prop} {S : World → Prop} {i : Nat} {σ : List (Nat × Bool)} {a : Act} {w : World} (oi : Oper) (w' : World) (hi : ops[i]? = some oi) (hw : Region.wanted oi (yielded ops a.tmps) = true) (hr : (execOp a.eval oi).run P w = .ok .skip w')
    (hS : S w') (h : wpFlow P ops Q S σ (a.put oi.dst undef) w') : wpFlow P ops Q S ((i, false) :: σ) a w :=
  flow_op oi hi hw (by unfold Oper.wp; rw [hr, Oper.upon_skip]; exact ⟨hS, h⟩)
theorem cell_grown {w w' : World} {q g : Nat} (h : w.grownBy w' (some g)) (hq : q < w.heap.size) (hne : q ≠ g) (j : Nat) : w'.cell? ⟨q, j, none⟩ = w.cell? ⟨q, j, none⟩ :=
  World.cell?_of_block (a := ⟨q, j, none⟩) (h.block q hq (fun e => hne (Option.some.inj e)))
theorem own_frozen {w : World} {base k g n c : Nat} {e : TypeId} {xs : List Value} (h : w.ownsRow base e k (.slice (some ⟨g, 0, none⟩) n c) n xs) (j : Nat) : w.frozen? ⟨g, j, none⟩ = false := by
  rcases h.2 with ⟨e, _⟩ | ⟨g', cap, cur, e, _, hg, _⟩
  · cases e
  · injection e with e1 _ _
    injection e1 with e1
    injection e1 with e1
    subst e1
    exact Lib.frozen_of_heap hg j

set_option maxHeartbeats 4000000 in
set_option maxRecDepth 100000 in
theorem tn_r6 {s0 s1 s2 s3 s4 s6 s7 s9 s10 s11 s12 s13 s14 s15 s16 s17 s18 s19 s20 s21 s22 s23 s24 s25 s26 s27 s28 s29 s30 s31 s32 s33 s34 s35 s36 s37 s38 s39 s40 s41 s42 s43 s44 s45 s46 s47 s48 s49 s50 s51 s52 s53 s54 s55 s56 s57 s58 s59 s60 s61 s62 s63 s64 s65 s66 : Value} (B q rb g c : Nat) (wv : Value) (S : List Seat) (r : Req) (W : World) (Q : Exit → Act → World → Prop) (ho : W.ownsRow B 38 2 (.slice (some ⟨g, 0, none⟩) S.length c) S.length (flatE Seat.cells S)) (lS : S.length ≤ 1000000) (hgv : giveOf r ∈ S) (hq : (q < W.heap.size ∧ ∀ j, W.cell? ⟨q, j, none⟩ = (#[.slice (some ⟨g, 0, none⟩) S.length c, wv] : Array Value)[j]?)) (hqg : q ≠ g) (hrb : (rb < W.heap.size ∧ ∀ j, W.cell? ⟨rb, j, none⟩ = (#[.int .i64 r.server, .int .i64 r.seq, .bool r.cancel, .int .i64 r.student, .int .i64 r.term, .string r.code, .string r.give, .int .i64 r.priority, .int .i64 r.day] : Array Value)[j]?)) (hrg : rb ≠ g)
    (hQ : ∀ (u36 u37 u38 u39 u40 u41 u42 u43 u44 u45 u46 u47 u48 u49 : Value) (k : Nat) (w4 : World) , k < S.length → S[k]? = some (giveOf r) → giveOf r ∉ S.take k → W.grownBy w4 (some g) → w4.ownsRow B 38 2 (.slice (some ⟨g, 0, none⟩) S.length c) S.length (flatE Seat.cells S) → Q .normal ⟨List.toArray (s0 :: s1 :: s2 :: s3 :: s4 :: .pointer (some ⟨q, 0, none⟩) :: s6 :: s7 :: .pointer (some ⟨rb, 0, none⟩) :: s9 :: s10 :: s11 :: s12 :: s13 :: s14 :: s15 :: s16 :: s17 :: s18 :: s19 :: s20 :: s21 :: s22 :: s23 :: s24 :: s25 :: s26 :: s27 :: s28 :: s29 :: s30 :: s31 :: s32 :: s33 :: s34 :: s35 :: u36 :: u37 :: u38 :: u39 :: u40 :: u41 :: u42 :: u43 :: u44 :: u45 :: u46 :: u47 :: u48 :: u49 :: s50 :: s51 :: s52 :: s53 :: s54 :: s55 :: s56 :: s57 :: s58 :: s59 :: s60 :: s61 :: s62 :: s63 :: s64 :: s65 :: s66 :: []), []⟩ (w4.setCell ⟨g, k * 2 + 1, none⟩ (.string r.code))) :
    (regionOf Tryz.f24 6).wp Tryz.prog Q ⟨List.toArray (s0 :: s1 :: s2 :: s3 :: s4 :: .pointer (some ⟨q, 0, none⟩) :: s6 :: s7 :: .pointer (some ⟨rb, 0, none⟩) :: s9 :: s10 :: s11 :: s12 :: s13 :: s14 :: s15 :: s16 :: s17 :: s18 :: s19 :: s20 :: s21 :: s22 :: s23 :: s24 :: s25 :: s26 :: s27 :: s28 :: s29 :: s30 :: s31 :: s32 :: s33 :: s34 :: s35 :: s36 :: s37 :: s38 :: s39 :: s40 :: s41 :: s42 :: s43 :: s44 :: s45 :: s46 :: s47 :: s48 :: s49 :: s50 :: s51 :: s52 :: s53 :: s54 :: s55 :: s56 :: s57 :: s58 :: s59 :: s60 :: s61 :: s62 :: s63 :: s64 :: s65 :: s66 :: []), []⟩ W := by
  refine of_onlyN (K := Q .normal) ?_ (fun _ _ h => h)
  generalize Q .normal = K at hQ ⊢
  have HQ := Lib.hid hQ; clear hQ
  conv => arg 2; whnf
  have keepS : ∀ w', W.grownBy w' (some g) → W.grownBy w' (some g) ∧ (∀ j, w'.cell? ⟨q, j, none⟩ = (#[.slice (some ⟨g, 0, none⟩) S.length c, wv] : Array Value)[j]?) ∧ (∀ j, w'.cell? ⟨rb, j, none⟩ = (#[.int .i64 r.server, .int .i64 r.seq, .bool r.cancel, .int .i64 r.student, .int .i64 r.term, .string r.code, .string r.give, .int .i64 r.priority, .int .i64 r.day] : Array Value)[j]?) := fun w' hb => ⟨hb, fun j => (cell_grown hb hq.1 hqg j).trans (hq.2 j), fun j => (cell_grown hb hrb.1 hrg j).trans (hrb.2 j)⟩
  have hS0 := keepS W.drew (below_grows (Below.refl _ _).drew)
  have HO := Lib.hid ho.drew
  clear ho
  refine wp_region_flow (S := fun w' => W.grownBy w' (some g) ∧ (∀ j, w'.cell? ⟨q, j, none⟩ = (#[.slice (some ⟨g, 0, none⟩) S.length c, wv] : Array Value)[j]?) ∧ (∀ j, w'.cell? ⟨rb, j, none⟩ = (#[.int .i64 r.server, .int .i64 r.seq, .bool r.cancel, .int .i64 r.student, .int .i64 r.term, .string r.code, .string r.give, .int .i64 r.priority, .int .i64 r.day] : Array Value)[j]?)) [(0, true), (1, true), (2, true), (3, true), (4, true), (5, true), (6, true), (7, true), (8, true), (10, true), (11, true), (9, false), (12, true), (13, true), (14, false)] (by kernel_rfl) (by kernel_rfl) (by kernel_rfl) (by decide) (hS0) ?_
  have hS := hS0
  refine flow_take ⟨some 36, _, _, _, _, _⟩ ?_ rfl (by rfl) ?_ ?_
  rotate_left 1
  · intro w hSw; (try dsimp only at hSw); go_simp; (try with_reducible rfl)
  (try simp only [Act.put, List.setIfInBounds_toArray, List.set_cons_zero, List.set_cons_succ])
  refine flow_take ⟨some 37, _, _, _, _, _⟩ ?_ rfl (by rfl) ?_ ?_
  rotate_left 1
  · intro w hSw; (try dsimp only at hSw); go_simp; (try with_reducible rfl)
  (try simp only [Act.put, List.setIfInBounds_toArray, List.set_cons_zero, List.set_cons_succ])
  refine flow_take ⟨some 38, _, _, _, _, _⟩ ?_ rfl (by rfl) ?_ ?_
  rotate_left 1
  · intro w hSw; (try dsimp only at hSw); go_simp; (try with_reducible rfl)
  (try simp only [Act.put, List.setIfInBounds_toArray, List.set_cons_zero, List.set_cons_succ])
  refine flow_take ⟨some 39, _, _, _, _, _⟩ ?_ rfl (by rfl) ?_ ?_
  rotate_left 1
  · intro w hSw; (try dsimp only at hSw); go_simp; (try with_reducible rfl)
  (try simp only [Act.put, List.setIfInBounds_toArray, List.set_cons_zero, List.set_cons_succ])
  refine flow_take ⟨some 40, _, _, _, _, _⟩ ?_ rfl (by rfl) ?_ ?_
  rotate_left 1
  · intro w hSw; (try dsimp only at hSw); go_simp; (try with_reducible rfl)
  (try simp only [Act.put, List.setIfInBounds_toArray, List.set_cons_zero, List.set_cons_succ])
  refine flow_take ⟨some 41, _, _, _, _, _⟩ ?_ rfl (by rfl) ?_ ?_
  rotate_left 1
  · intro w hSw; (try dsimp only at hSw); go_simp; (try with_reducible rfl)
  (try simp only [Act.put, List.setIfInBounds_toArray, List.set_cons_zero, List.set_cons_succ])
  refine flow_take ⟨some 42, _, _, _, _, _⟩ ?_ rfl (by rfl) ?_ ?_
  rotate_left 1
  · intro w hSw; (try dsimp only at hSw); go_simp; (try with_reducible rfl)
  (try simp only [Act.put, List.setIfInBounds_toArray, List.set_cons_zero, List.set_cons_succ])
  refine flow_take ⟨some 43, _, _, _, _, _⟩ ?_ rfl (by rfl) ?_ ?_
  rotate_left 1
  · intro w hSw; (try dsimp only at hSw); go_simp; (try with_reducible rfl)
  (try simp only [Act.put, List.setIfInBounds_toArray, List.set_cons_zero, List.set_cons_succ])
  refine flow_take ⟨some 44, _, _, _, _, _⟩ ?_ rfl (by rfl) ?_ ?_
  rotate_left 1
  · intro w hSw; (try dsimp only at hSw); go_simp; (try with_reducible rfl)
  (try simp only [Act.put, List.setIfInBounds_toArray, List.set_cons_zero, List.set_cons_succ])
  refine flow_take ⟨some 46, _, _, _, _, _⟩ ?_ rfl (by rfl) ?_ ?_
  rotate_left 1
  · intro w hSw; (try dsimp only at hSw); go_simp; (try with_reducible rfl)
  (try simp only [Act.put, List.setIfInBounds_toArray, List.set_cons_zero, List.set_cons_succ])
  refine flow_take ⟨some 47, _, _, _, _, _⟩ ?_ rfl (by rfl) ?_ ?_
  rotate_left 1
  · intro w hSw; (try dsimp only at hSw); go_simp; (try with_reducible rfl)
  (try simp only [Act.put, List.setIfInBounds_toArray, List.set_cons_zero, List.set_cons_succ])
  refine flow_call ⟨some 45, _, _, _, _, _⟩ rfl (by rfl) 41 _ _ (by rfl) _ (by rfl) Tryz.call41 (index_seats (.slice (some ⟨g, 0, none⟩) S.length c) S (giveOf r) W.drew (rowIn_own (k := 2) (fun _ => rfl) (by decide) HO.out) lS) ?_
  rintro x wn ⟨hb, ⟨hn, _⟩ | ⟨k, hk, hks, hkt, rfl⟩⟩
  · exact absurd hgv hn
  replace hS := keepS wn (below_grows (below_next (Below.refl _ _).drew hb))
  refine ⟨_, rfl, hS, ?_⟩
  have hown := own_below HO.out hb
  have hcg : wn.cell? ⟨g, k * 2 + 1, none⟩ = some (.string r.give) := by have := hown.cells (g := g) rfl (k * 2 + 1) (.string r.give) (flatE_at (enc := Seat.cells) (k := 2) (fun _ => rfl) hks rfl); rwa [add_plain, Nat.zero_add] at this
  have hfz : wn.frozen? ⟨g, k * 2 + 1, none⟩ = false := own_frozen hown _
  have i1 : (0 : Int) ≤ (k : Int) := by omega
  have i2 : (k : Int) < (S.length : Int) := by omega
  (try simp only [Act.put, List.setIfInBounds_toArray, List.set_cons_zero, List.set_cons_succ])
  refine flow_take ⟨some 48, _, _, _, _, _⟩ ?_ rfl (by rfl) ?_ ?_
  rotate_left 1
  · intro w hSw; (try dsimp only at hSw); go_simp; (try with_reducible rfl)
  (try simp only [Act.put, List.setIfInBounds_toArray, List.set_cons_zero, List.set_cons_succ])
  refine flow_take ⟨some 49, _, _, _, _, _⟩ ?_ rfl (by rfl) ?_ ?_
  rotate_left 1
  · intro w hSw; (try dsimp only at hSw); go_simp; (try with_reducible rfl)
  (try simp only [Act.put, List.setIfInBounds_toArray, List.set_cons_zero, List.set_cons_succ])
  refine flow_store ⟨none, _, _, _, _, _⟩ (wn.setCell ⟨g, k * 2 + 1, none⟩ (.string r.code)) rfl (by rfl) (by go_simp) (keepS _ (grows_trans hS.1 (Only.setCell wn g (k * 2 + 1) (.string r.code) 0))) ?_
  (try simp only [Act.put])
  simp only [wpFlow, OnlyN]
  exact HQ.out _ _ _ _ _ _ _ _ _ _ _ _ _ _ k _ hk hks hkt hS.1 hown
end Go.Proofs.YtjcogpalmgcpbaaGreat
/- swap: the deal after a circle. -/
namespace Go.Proofs.YtjcogpalmgcpbaaGreat
open Go Go.Proofs Go.RowKit Go.Maps Go.Sort Go.Lib
attribute [local go_sem] Seat.cells Req.cells

theorem own_cellSet {w : World} {base e k n g cap : Nat} {xs : List Value} (h : w.ownsRow base e k (.slice (some ⟨g, 0, none⟩) n cap) n xs) (j : Nat) (_hj : j < xs.length) (u : Value) : (w.setCell ⟨g, j, none⟩ u).ownsRow base e k (.slice (some ⟨g, 0, none⟩) n cap) n (xs.set j u) := by
  refine ⟨by rw [List.length_set]; exact h.1, ?_⟩
  rcases h.2 with ⟨h2, _⟩ | ⟨g', cap', cur, h2, hb, hg, hn, hm, hs, ht⟩
  · cases h2
  · injection h2 with e1 _ e3
    injection e1 with e1
    injection e1 with e1
    subst e1; subst e3
    refine .inr ⟨g, cap, cur.setIfInBounds j u, rfl, hb, ?_, hn, hm, by simpa using hs, ?_⟩
    · simp [World.setCell, Array.getElem?_modify, hg]
    · rw [Array.toList_setIfInBounds, List.take_set, ht]
theorem flat_setSeat {S : List Seat} {k : Nat} {x : Seat} (h : S[k]? = some x) (c : ByteArray) : (flatE Seat.cells S).set (k * 2 + 1) (.string c) = flatE Seat.cells (S.set k ⟨x.student, c⟩) := by
  obtain ⟨hk, rfl⟩ := List.getElem?_eq_some_iff.1 h
  have e : S = S.take k ++ S[k] :: S.drop (k + 1) := by rw [List.getElem_cons_drop, List.take_append_drop]
  have hl : (S.take k).length = k := by simp; omega
  have hf : (flatE Seat.cells (S.take k)).length = k * 2 := by rw [flatE_len (k := 2) (fun _ => rfl), hl]
  have e2 : S.set k ⟨S[k].student, c⟩ = S.take k ++ ⟨S[k].student, c⟩ :: S.drop (k + 1) := by
    rw [List.set_eq_take_append_cons_drop, if_pos hk]
  have e1 : flatE Seat.cells S = flatE Seat.cells (S.take k ++ S[k] :: S.drop (k + 1)) := by rw [← e]
  rw [e2, e1, flatE_app, flatE_app, List.set_append_right _ _ (by omega), hf, show k * 2 + 1 - k * 2 = 1 by omega]
  rfl
theorem replace_first {a b : Seat} : ∀ {l : List Seat} {k : Nat}, l[k]? = some a → a ∉ l.take k → l.replace a b = l.set k b
  | [], k, h, _ => by simp at h
  | y :: l, 0, h, _ => by
    simp at h
    subst h
    rw [repl_cons, if_pos rfl]; rfl
  | y :: l, k + 1, h, hn => by
    rw [List.take_succ_cons, List.mem_cons] at hn
    rw [repl_cons, if_neg (fun e => hn (.inl e)), replace_first (by simpa using h) (fun h2 => hn (.inr h2))]; rfl
theorem erase_first {a : Seat} : ∀ {l : List Seat} {k : Nat}, l[k]? = some a → a ∉ l.take k → l.erase a = l.take k ++ l.drop (k + 1)
  | [], k, h, _ => by simp at h
  | y :: l, 0, h, _ => by
    simp at h
    subst h
    simp
  | y :: l, k + 1, h, hn => by
    rw [List.take_succ_cons, List.mem_cons] at hn
    rw [List.erase_cons_tail (by simpa using fun e => hn (.inl e.symm)), erase_first (by simpa using h) (fun h2 => hn (.inr h2))]; rfl
/-- The deal under way. -/
def TnSt (B : Nat) (w0 : World) (q : Nat) (D : Deal) (w : World) : Prop := ∃ p c p' c', w.heap[q]? = some (.cells #[.slice p D.seats.length c, .slice p' D.waits.length c'] 31 (0, 0)) ∧
  w.ownsRow B 38 2 (.slice p D.seats.length c) D.seats.length (flatE Seat.cells D.seats) ∧ w.ownsRow B 38 2 (.slice p' D.waits.length c') D.waits.length (flatE Seat.cells D.waits) ∧
  (∀ x, (Value.slice p D.seats.length c).ownBlock = some x → (Value.slice p' D.waits.length c').ownBlock ≠ some x) ∧ RowKit.Below B w0 w ∧ B ≤ q
def DealRet (D : Deal) (w : World) (e : Ending) (w' : World) : Prop := ∃ p c p' c', e = .returned (.agg #[.slice p D.seats.length c, .slice p' D.waits.length c']) ∧ DealIn w' (.agg #[.slice p D.seats.length c, .slice p' D.waits.length c']) D ∧ RowKit.Below w.heap.size w w'
theorem own_nonempty {w : World} {B n c : Nat} {p : Option Addr} {xs : List Value} (h : w.ownsRow B 38 2 (.slice p n c) n xs) (hn : 0 < n) : ∃ g, p = some ⟨g, 0, none⟩ := by
  rcases h.2 with ⟨e, _⟩ | ⟨g, cap, cur, e, _⟩
  · injection e with _ e _; omega
  · injection e with e1 _ _; exact ⟨g, e1⟩
theorem turnR_step {l : List Req} {d : Deal} {c : List Nat} {k n : Nat} (h : c[k]? = some n) : turnR d ((c.take (k + 1)).map (atR l)) = turn1 (turnR d ((c.take k).map (atR l))) (atR l n) := by
  rw [take_one h, List.map_append]
  unfold turnR
  rw [List.foldl_append]; rfl
theorem ring_at {A : List Req} {l : List Req} {d : Deal} {c : List Nat} (h : Ring A d (c.map (atR l))) : ∀ k, k ≤ c.length → Ring A (turnR d ((c.take k).map (atR l))) ((c.drop k).map (atR l)) := by
  intro k hk
  induction k with
  | zero => simpa [turnR] using h
  | succ k ih =>
    have ih := ih (by omega)
    have hz := List.getElem?_eq_getElem (show k < c.length by omega)
    rw [turnR_step hz]
    rw [show c.drop k = c[k] :: c.drop (k + 1) from (List.getElem_cons_drop (by omega)).symm, List.map_cons] at ih
    exact ih.tail
set_option maxHeartbeats 8000000 in
set_option maxRecDepth 100000 in
theorem turn_any (b : Nat) (l : List Req) (can : List Nat) (d : Deal) (c : List Nat) (pv : Option Addr) (cv : Nat) (A : List Req) (w : World) (hx : ExIn w b l can d) (hc : RowIn encN w (.slice pv c.length cv) c) (hcl : ∀ n ∈ c, n < l.length) (hr : Ring A d (c.map (atR l))) (hl : c.length ≤ 1000000) :
    Calls Tryz.prog 24 #[.pointer (some ⟨b, 0, none⟩), .slice pv c.length cv] w (DealRet (turnP l d c) w) := by
  have hb0 := below_alloc1 w (.cells #[.slice none 0 0, .slice none 0 0] 31)
  have hx0 := heap_alloc_new w (.cells #[.slice none 0 0, .slice none 0 0] 31)
  have hls : w.heap.size + 1 = (w.alloc (.cells #[.slice none 0 0, .slice none 0 0] 31)).heap.size := by simp
  have HX0 := Lib.hid (hx.below hb0)
  have HC0 := Lib.hid (hc.below hb0)
  have HCL := Lib.hid hcl
  have HRG := Lib.hid hr
  clear hx hc hcl hr
  obtain ⟨DD, hDD⟩ : ∃ DD, turnP l d c = DD := ⟨_, rfl⟩
  have HDD := Lib.hid hDD
  rw [hDD]
  clear hDD
  go_enter Tryz.func24, Tryz.ntmps24
  go_upto_region 1 with fail
  generalize w.alloc _ = W at hb0 hx0 hls HX0 HC0 ⊢
  obtain ⟨⟨pl, cl, pc, cc, ps, cs, pw, cw, hxb, hL, -, hS, hWt⟩, ll, ls, lw, -, -⟩ := HX0.out
  have hbl := lt_of_heap hxb
  refine tn_r1 b ps pw cs cw d W _ ⟨hbl, Lib.cell_of_heap hxb 2⟩ ⟨hbl, Lib.cell_of_heap hxb 3⟩ hS hWt ls lw ?_
  intro u15 u21 u22 q p0 e0 p1 e1 w1 hb1 hq0 hq1 ho1 ho2 hne
  have hst : TnSt W.heap.size W q (turnR d (([] : List Nat).map (atR l))) w1 := ⟨p0, e0, p1, e1, hq1, ho1, ho2, hne, hb1, hq0⟩
  have HL := Lib.hid hL
  have HXB := Lib.hid hxb
  have lt0 : w.heap.size < W.heap.size := lt_of_heap hx0
  clear hq1 ho1 ho2 hne hb1 hS hWt hL hxb
  go_wp2_with fail
  go_loopw [25] (fun i wr => ∃ k : Nat, k ≤ c.length ∧ i = .int .i64 k ∧ TnSt W.heap.size W q (turnR d ((c.take k).map (atR l))) wr) (fun i _ => c.length - (RowKit.intOf i).toNat)
  case atStart => exact ⟨0, Nat.zero_le _, rfl, by simpa using hst⟩
  case round =>
    clear hst
    obtain ⟨k, hk, rfl, hst⟩ := hrel
    by_cases hlt : k < c.length
    · obtain ⟨gv, ov, epv, hgv, hcv⟩ := nats_at HC0.out rfl (by omega)
      subst epv
      have hz := List.getElem?_eq_getElem hlt
      have hn0 := HCL.out _ (List.getElem_mem hlt)
      have HSTEP := Lib.hid (turnR_step (l := l) (d := d) hz)
      have HCAN : Hid (CanR A (turnR d ((c.take k).map (atR l))) (atR l c[k])) := Lib.hid (by
        have := ring_at HRG.out k (by omega)
        rw [show c.drop k = c[k] :: c.drop (k + 1) from (List.getElem_cons_drop hlt).symm, List.map_cons] at this
        exact this.head)
      have hcn := hcv k _ hz
      have HLN := Lib.hid (turn_len ((c.take k).map (atR l)) d)
      have HLW : Hid ((turnR d ((c.take k).map (atR l))).waits.length ≤ d.waits.length) := Lib.hid (by
        have hring : Ring A d ((c.take k).map (atR l)) := ⟨(HRG.out.far.sublist ((List.take_sublist k c).map _)), fun r hr => HRG.out.can r (by
          obtain ⟨n, hn, rfl⟩ := List.mem_map.1 hr
          exact List.mem_map.2 ⟨n, List.mem_of_mem_take hn, rfl⟩)⟩
        have := turn_waits_len _ d hring
        omega)
      generalize turnR d ((c.take k).map (atR l)) = D at hst HSTEP HCAN HLN HLW
      generalize c[k] = n at hz hn0 HSTEP HCAN hcn
      obtain ⟨p, e, p', e', hq, ho1, ho2, hne, hb, hlo⟩ := hst
      have hcn1 : wr.cell? ⟨gv, ov + k, none⟩ = some (.int .i64 n) := (hb.cell (p := ⟨gv, ov + k, none⟩) hgv).trans hcn
      have hxb1 : wr.cell? ⟨b, 0, none⟩ = some (.slice pl l.length cl) := (hb.cell (p := ⟨b, 0, none⟩) hbl).trans (Lib.cell_of_heap HXB.out 0)
      obtain ⟨g1, o1, epl, hg1, hat⟩ := reqs_at HL.out (by omega)
      subst epl
      have hatn : wr.rangeAt g1 (o1 + n * 9) (atR l n).cells.toList := fun j v hj => (hb.cell (p := ⟨g1, o1 + n * 9 + j, none⟩) hg1).trans (hat n hn0 j v hj)
      generalize atR l n = r at HSTEP HCAN hatn
      have i1 : (n : Int) < (l.length : Int) := by omega
      have i2 : (k : Int) < (c.length : Int) := by omega
      clear hcv hcn hat hz
      have hba := below_alloc1 wr (.cells #[.int .i64 r.server, .int .i64 r.seq, .bool r.cancel, .int .i64 r.student, .int .i64 r.term, .string r.code, .string r.give, .int .i64 r.priority, .int .i64 r.day] 41)
      have hrb := heap_alloc_new wr (.cells #[.int .i64 r.server, .int .i64 r.seq, .bool r.cancel, .int .i64 r.student, .int .i64 r.term, .string r.code, .string r.give, .int .i64 r.priority, .int .i64 r.day] 41)
      go_upto_region 6 with ((with_reducible refine wpList_load_mid (op := ⟨some 35, _, _, _, _, _⟩) ?_ 41 (.tmp 34) ?_ g1 (o1 + n * 9) ?_ r.cells.toList _ ?_ Tryz.underlying41 ?_ ?_ ?_); rfl; rfl; rfl; exact hatn; rfl; kernel_rfl)
      have hq4 := (hba.block q (lt_of_heap hq)).trans hq
      have ho14 := own_below ho1 hba
      have ho24 := own_below ho2 hba
      have hb4 := below_next hb hba
      have hrlo := hb.size
      generalize wr.heap.size = rb at hrb hrlo ⊢
      generalize wr.alloc _ = w4 at hba hrb hq4 ho14 ho24 hb4 ⊢
      clear hba hq ho1 ho2 hb hcn1 hxb1 hatn
      have hsl : D.seats.length ≤ 1000000 := by rw [HLN.out]; exact ls
      have hsw : D.waits.length ≤ 1000000 := Nat.le_trans HLW.out lw
      obtain ⟨g, eg⟩ := own_nonempty ho14 (List.length_pos_of_mem HCAN.out.has)
      subst eg
      obtain ⟨gw, egw⟩ := own_nonempty ho24 (List.length_pos_of_mem HCAN.out.wait)
      subst egw
      have hgw : gw ≠ g := fun e => hne g rfl (by rw [e]; rfl)
      have hqg : q ≠ g := fun e => by subst e; exact own_apart ho14 (t := 31) (by decide) q rfl hq4
      have hqw : q ≠ gw := fun e => by subst e; exact own_apart ho24 (t := 31) (by decide) q rfl hq4
      have hrg : rb ≠ g := fun e => by subst e; exact own_apart ho14 (t := 41) (by decide) rb rfl hrb
      have hrw : rb ≠ gw := fun e => by subst e; exact own_apart ho24 (t := 41) (by decide) rb rfl hrb
      have hlg := (own_lt ho14).2
      have hlw := (own_lt ho24).2
      refine tn_r6 W.heap.size q rb g e (.slice (some ⟨gw, 0, none⟩) D.waits.length e') D.seats r w4 _ ho14 hsl HCAN.out.has ⟨lt_of_heap hq4, fun j => Lib.cell_of_heap hq4 j⟩ hqg ⟨lt_of_heap hrb, fun j => Lib.cell_of_heap hrb j⟩ hrg ?_
      intro u36 u37 u38 u39 u40 u41 u42 u43 u44 u45 u46 u47 u48 u49 kk w5 hkk hks hkt hgr5 ho15
      have hgr6 : w4.grownBy (w5.setCell ⟨g, kk * 2 + 1, none⟩ (.string r.code)) (some g) := grows_trans hgr5 (Only.setCell w5 g (kk * 2 + 1) (.string r.code) 0)
      have ho16 := own_cellSet ho15 (kk * 2 + 1) (by rw [flatE_len (k := 2) (fun _ => rfl)]; omega) (.string r.code)
      rw [flat_setSeat hks] at ho16
      have hrep : D.seats.replace (giveOf r) (seatOf r) = D.seats.set kk (seatOf r) := replace_first hks hkt
      have ho16' : (w5.setCell ⟨g, kk * 2 + 1, none⟩ (.string r.code)).ownsRow W.heap.size 38 2 (.slice (some ⟨g, 0, none⟩) D.seats.length e) D.seats.length (flatE Seat.cells (D.seats.replace (giveOf r) (seatOf r))) := by rw [hrep]; exact ho16
      generalize w5.setCell ⟨g, kk * 2 + 1, none⟩ (.string r.code) = w6 at hgr6 ho16' ⊢
      have hq6 := (hgr6.block q (lt_of_heap hq4) (fun e => hqg (Option.some.inj e))).trans hq4
      have hr6 := (hgr6.block rb (lt_of_heap hrb) (fun e => hrg (Option.some.inj e))).trans hrb
      have ho26 := ho24.kept hgr6 (.inr (fun e => hgw (by simpa [Value.ownBlock] using e)))
      have hb6 := hb4.grown hgr6 hb4.size (fun x hx => by obtain rfl := Option.some.inj hx; exact hlg.1)
      have hlg6 := hb6.size
      have HO1 := Lib.hid ho16'
      clear ho15 ho16 ho16' hgr5 ho14 ho24 hq4 hrb hb4 hgr6 hks hkt hkk hrep
      have cq0 : w6.cell? ⟨q, 0, none⟩ = some (.slice (some ⟨g, 0, none⟩) D.seats.length e) := Lib.cell_of_heap hq6 0
      have cq1 : w6.cell? ⟨q, 1, none⟩ = some (.slice (some ⟨gw, 0, none⟩) D.waits.length e') := Lib.cell_of_heap hq6 1
      have cr3 : w6.cell? ⟨rb, 3, none⟩ = some (.int .i64 r.student) := Lib.cell_of_heap hr6 3
      have cr5 : w6.cell? ⟨rb, 5, none⟩ = some (.string r.code) := Lib.cell_of_heap hr6 5
      go_wp2_with fail
      refine (index_seats (.slice (some ⟨gw, 0, none⟩) D.waits.length e') D.waits (seatOf r) w6 (rowIn_own (k := 2) (fun _ => rfl) (by decide) ho26) hsw).mono ?_
      rintro _ w7 ⟨hb7, ⟨hn, _⟩ | ⟨k2, hk2, hks2, hkt2, rfl⟩⟩
      · exact absurd HCAN.out.wait hn
      have hq7 := (hb7.block q (lt_of_heap hq6)).trans hq6
      have ho27 := own_below ho26 hb7
      have hb8 := below_next hb6 hb7
      have HO17 := Lib.hid (own_below HO1.out hb7)
      have HER : Hid (D.waits.erase (seatOf r) = D.waits.take k2 ++ D.waits.drop (k2 + 1)) := Lib.hid (erase_first hks2 hkt2)
      clear cq0 cq1 cr3 cr5 hq6 hr6 ho26 hb6 hb7 HO1 hks2 hkt2
      have cq0 : w7.cell? ⟨q, 0, none⟩ = some (.slice (some ⟨g, 0, none⟩) D.seats.length e) := Lib.cell_of_heap hq7 0
      have cq1 : w7.cell? ⟨q, 1, none⟩ = some (.slice (some ⟨gw, 0, none⟩) D.waits.length e') := Lib.cell_of_heap hq7 1
      have wk : IntKind.i64.wrap ((k2 : Int) + 1) = (k2 : Int) + 1 := IntWalk.i64_in _ (by omega)
      go_wp2_with fail
      refine (delete_seats2 W.heap.size gw e' D.waits k2 w7 ho27 hk2 hsw).mono ?_
      rintro _ w8 ⟨v', rfl, ho8, hg8, hv8⟩
      have hq8 := (hg8.block q (lt_of_heap hq7) (fun e => hqw (Option.some.inj e))).trans hq7
      have HO18 := Lib.hid (HO17.out.kept hg8 (.inr (fun e => hgw (by simpa [Value.ownBlock] using e.symm))))
      have hb9 := hb8.grown hg8 hb8.size (fun x hx => by obtain rfl := Option.some.inj hx; exact hlw.1)
      rw [← HER.out] at ho8
      obtain ⟨p8, e8, rfl⟩ := own_form ho8
      clear cq0 cq1 hq7 ho27 hb8 HO17 hg8 HER wk
      have cq0 : w8.cell? ⟨q, 0, none⟩ = some (.slice (some ⟨g, 0, none⟩) D.seats.length e) := Lib.cell_of_heap hq8 0
      have cq1 : w8.cell? ⟨q, 1, none⟩ = some (.slice (some ⟨gw, 0, none⟩) D.waits.length e') := Lib.cell_of_heap hq8 1
      have cf1 : w8.frozen? ⟨q, 1, none⟩ = false := Lib.frozen_of_heap hq8 1
      go_wp2_with fail
      have hq9 : (w8.setCell ⟨q, 1, none⟩ (.slice p8 (D.waits.erase (seatOf r)).length e8)).heap[q]? = some (.cells #[.slice (some ⟨g, 0, none⟩) D.seats.length e, .slice p8 (D.waits.erase (seatOf r)).length e8] 31 (0, 0)) := by
        simp [World.setCell, Array.getElem?_modify, hq8]
      have hgq := Only.setCell w8 q 1 (.slice p8 (D.waits.erase (seatOf r)).length e8) 0
      have ho19 := HO18.out.kept hgq (own_apart' HO18.out (by decide) hq8)
      have ho29 := ho8.kept hgq (own_apart' ho8 (by decide) hq8)
      have hb10 := hb9.grown hgq hb9.size (fun x hx => by obtain rfl := Option.some.inj hx; exact hlo)
      go_roundw
      case rel =>
        refine ⟨k + 1, by omega, by go_num, ?_⟩
        rw [HSTEP.out]
        have el : (turn1 D r).seats.length = D.seats.length := len_replace _ _ _
        refine ⟨some ⟨g, 0, none⟩, e, p8, e8, ?_, ?_, ho29, ?_, hb10, hlo⟩
        · rw [el]; exact hq9
        · rw [el]; exact ho19
        · rw [el]
          intro x hx e
          have e : some gw = some x := hv8.symm.trans e
          have : g = x := by simpa [Value.ownBlock] using hx
          exact hgw ((Option.some.inj e).trans this.symm)
      case measure => simp [RowKit.intOf]; omega
    · obtain rfl : k = c.length := by omega
      rw [List.take_length] at hst
      have hT : turnR d (c.map (atR l)) = turnP l d c := rfl
      rw [hT] at hst
      have hle : (turnP l d c).seats.length ≤ 1000000 := by
        have : (turnP l d c).seats.length = d.seats.length := turn_len _ _
        omega
      have hwe : (turnP l d c).waits.length ≤ 1000000 := by
        have := turn_waits_len (c.map (atR l)) d HRG.out
        have e : (turnR d (c.map (atR l))).waits.length = (turnP l d c).waits.length := rfl
        omega
      rw [HDD.out] at hst hle hwe
      clear hT
      obtain ⟨p, e, p', e', hq, ho1, ho2, hne, hb, hlo⟩ := hst
      have hrb := (hb.block w.heap.size lt0).trans hx0
      have hfr : ∀ j, wr.frozen? ⟨w.heap.size, j, none⟩ = false := fun j => Lib.frozen_of_heap hrb j
      have hrc : ∀ j, wr.cell? ⟨w.heap.size, j, none⟩ = (#[.slice none 0 0, .slice none 0 0] : Array Value)[j]? := fun j => Lib.cell_of_heap hrb j
      have hqc : ∀ j, wr.cell? ⟨q, j, none⟩ = (#[.slice p DD.seats.length e, .slice p' DD.waits.length e'] : Array Value)[j]? := fun j => Lib.cell_of_heap hq j
      have hqn : ¬ q = w.heap.size := by omega
      have HO1 := Lib.hid ho1
      have HO2 := Lib.hid ho2
      clear ho1 ho2 hne
      go_wp2_with fail
      have hg2 := grows_trans (Only.setCell wr w.heap.size 0 (.slice p DD.seats.length e) 0) (Only.setCell _ w.heap.size 1 (.slice p' DD.waits.length e') 0)
      have hbw : RowKit.Below w.heap.size w wr := below_next hb0 hb
      refine bodyPost_ret (v := .agg #[.slice p DD.seats.length e, .slice p' DD.waits.length e']) (results_cell_row (P := Tryz.prog) Tryz.results24 _ _ w.heap.size 31 #[.slice p DD.seats.length e, .slice p' DD.waits.length e'] (0, 0) _ rfl ?_ Tryz.underlying31 rfl (by kernel_rfl)) rfl
        ⟨p, e, p', e', rfl, ⟨⟨p, e, p', e', rfl, rowIn_own (fun _ => rfl) (by decide) (own_set (own_set HO1.out lt0 0 _) lt0 1 _), rowIn_own (fun _ => rfl) (by decide) (own_set (own_set HO2.out lt0 0 _) lt0 1 _)⟩, hle, hwe⟩, hbw.grown hg2 hbw.size (fun x hx => by obtain rfl := Option.some.inj hx; exact Nat.le_refl _)⟩
      simp [World.setCell, Array.getElem?_modify, hrb]
end Go.Proofs.YtjcogpalmgcpbaaGreat
namespace Go.Proofs.YtjcogpalmgcpbaaGreat
open Go Go.Proofs Go.RowKit Go.Maps Go.Sort Go.Lib

theorem deal_results {fn : Func} {p u : Tmp} (h : fn.results = #[.cell p 31, .tmp u]) (tmps : Array Value) (w : World) (g : Nat) (cs : Array Value) (v : Value) (hs : cs.size = 2) (hp : tmps.getD p undef = .pointer (some ⟨g, 0, none⟩)) (hv : tmps.getD u undef = v) (hg : w.heap[g]? = some (.cells cs 31 (0, 0))) :
    (results fn tmps).run Tryz.prog w = .ok (.tuple #[.agg cs, v]) w := by
  rw [results_cell_tmp h, hp, hv]
  have hz : (Tryz.prog.info? 31).map (·.size) = some 2 := by kernel_rfl
  have := run_loadVar_row (P := Tryz.prog) w g 31 31 cs (0, 0) _ hg Tryz.underlying31 rfl (by rw [hz, hs])
  simp only [asAddr, Sem.run_pure, Result.andThen_ok, this]
def TurnPost (l : List Req) (d : Deal) (c : List Nat) (w : World) (e : Ending) (w' : World) : Prop := RowKit.Below w.heap.size w w' ∧
  ((isB l (canP (actS l) d l) c = true ∧ ∃ p e1 p' e2, e = .returned (.tuple #[.agg #[.slice p (turnP l d c).seats.length e1, .slice p' (turnP l d c).waits.length e2], .bool true]) ∧ DealIn w' (.agg #[.slice p (turnP l d c).seats.length e1, .slice p' (turnP l d c).waits.length e2]) (turnP l d c)) ∨
   (isB l (canP (actS l) d l) c = false ∧ e = .returned (.tuple #[.agg #[.slice none 0 0, .slice none 0 0], .bool false])))
theorem isB_ring {A : List Req} {l : List Req} {d : Deal} {c : List Nat} (h : isB l (canP A d l) c = true) : (∀ n ∈ c, n < l.length) ∧ Ring A d (c.map (atR l)) := by
  have h3 := (isB_iff.1 h).2.2.1
  refine ⟨fun n hn => ?_, chain_ring h3⟩
  obtain ⟨i, hi⟩ := List.mem_iff_getElem?.1 hn
  exact (mem_canP.1 (h3 i n hi).1).1
set_option maxHeartbeats 4000000 in
set_option maxRecDepth 100000 in
theorem swTurn_any (dv lv : Value) (l : List Req) (d : Deal) (c : List Nat) (pv : Option Addr) (cv : Nat) (w : World) (hd : DealIn w dv d) (hl : ReqsIn w lv l) (ll : l.length ≤ 1000000) (hf : ∀ r ∈ l, r.fits) (hc : RowIn encN w (.slice pv c.length cv) c) (lc : c.length ≤ 1000000) :
    Calls Tryz.prog 14 #[dv, lv, .slice pv c.length cv] w (TurnPost l d c w) := by
  have HD0 := Lib.hid hd
  obtain ⟨ps, cs, pw, cw, rfl, hs, hw⟩ := hd.val
  have hb1 := below_alloc1 w (.cells #[.slice ps d.seats.length cs, .slice pw d.waits.length cw] 31)
  have hx1 := heap_alloc_new w (.cells #[.slice ps d.seats.length cs, .slice pw d.waits.length cw] 31)
  have hbb := hb1.alloc (by simp) (.cells #[.slice none 0 0, .slice none 0 0] 31)
  have hxa : ((w.alloc (.cells #[.slice ps d.seats.length cs, .slice pw d.waits.length cw] 31)).alloc (.cells #[.slice none 0 0, .slice none 0 0] 31)).heap[w.heap.size]? = some (.cells #[.slice ps d.seats.length cs, .slice pw d.waits.length cw] 31 (0, 0)) := by rw [(below_alloc1 _ _).block _ (by simp)]; exact hx1
  have hxr := new_two w (.cells #[.slice ps d.seats.length cs, .slice pw d.waits.length cw] 31) (.cells #[.slice none 0 0, .slice none 0 0] 31)
  have HL := Lib.hid hl
  have HC := Lib.hid hc
  clear hd hs hw hb1 hx1 hl hc
  go_enter Tryz.func14, Tryz.ntmps14
  have cd0 : ∀ j, ((w.alloc (.cells #[.slice ps d.seats.length cs, .slice pw d.waits.length cw] 31)).alloc (.cells #[.slice none 0 0, .slice none 0 0] 31)).cell? ⟨w.heap.size, j, none⟩ = (#[.slice ps d.seats.length cs, .slice pw d.waits.length cw] : Array Value)[j]? := fun j => Lib.cell_of_heap hxa j
  go_wp2_with fail
  generalize World.alloc _ _ = W at hbb hxa hxr cd0 ⊢
  refine (newEx_any lv _ l d W (HL.out.below hbb) ll hf (HD0.out.below hbb)).mono ?_
  rintro _ w1 ⟨b, rfl, hex, hb1⟩
  have hb2 := below_next hbb hb1
  have hxr1 := (hb1.block _ (lt_of_heap hxr)).trans hxr
  have HEX := Lib.hid hex
  clear cd0 hxa hxr hb1 hbb hex
  go_wp2_with fail
  refine (is_any b l _ d c pv cv w1 HEX.out (HC.out.below hb2) lc).mono ?_
  rintro _ w2 ⟨rfl, hb3⟩
  have hb4 := below_next hb2 hb3
  have hxr2 := (hb3.block _ (lt_of_heap hxr1)).trans hxr1
  have HX2 := Lib.hid (HEX.out.below hb3)
  clear hxr1 hb3 hb2 HEX
  generalize hG : isB l (canP (actS l) d l) c = G
  cases G
  · have HG := Lib.hid hG
    clear hG
    have hcr : ∀ j, w2.cell? ⟨w.heap.size + 1, j, none⟩ = (#[.slice none 0 0, .slice none 0 0] : Array Value)[j]? := fun j => Lib.cell_of_heap hxr2 j
    have hfr : ∀ j, w2.frozen? ⟨w.heap.size + 1, j, none⟩ = false := fun j => Lib.frozen_of_heap hxr2 j
    go_wp2_with fail
    have hg2 := grows_trans (Only.setCell w2 (w.heap.size + 1) 0 (.slice none 0 0) 0) (Only.setCell _ (w.heap.size + 1) 1 (.slice none 0 0) 0)
    have hbw := hb4.grown hg2 hb4.size (fun x hx => by obtain rfl := Option.some.inj hx; omega)
    refine bodyPost_ret (v := .tuple #[.agg #[.slice none 0 0, .slice none 0 0], .bool false]) ?_ rfl ⟨hbw, .inr ⟨HG.out, rfl⟩⟩
    refine deal_results Tryz.results14 _ _ (w.heap.size + 1) #[.slice none 0 0, .slice none 0 0] _ rfl rfl rfl ?_
    simp [World.setCell, Array.getElem?_modify, hxr2]
  · have hR := isB_ring hG
    have HG := Lib.hid hG
    clear hG
    go_wp2_with fail
    refine (turn_any b l _ d c pv cv (actS l) w2 HX2.out (HC.out.below hb4) hR.1 hR.2 lc).mono ?_
    rintro _ w3 ⟨p, e1, p', e2, rfl, hdl, hb5⟩
    have hb6 := below_next hb4 hb5
    have hxr3 := (hb5.block _ (lt_of_heap hxr2)).trans hxr2
    have HDL := Lib.hid hdl
    clear hb5 hb4 hxr2 hdl hR HX2
    obtain ⟨T, hT⟩ : ∃ T, turnP l d c = T := ⟨_, rfl⟩
    have HT := Lib.hid hT
    rw [hT] at HDL ⊢
    clear hT
    have hcr : ∀ j, w3.cell? ⟨w.heap.size + 1, j, none⟩ = (#[.slice none 0 0, .slice none 0 0] : Array Value)[j]? := fun j => Lib.cell_of_heap hxr3 j
    have hfr : ∀ j, w3.frozen? ⟨w.heap.size + 1, j, none⟩ = false := fun j => Lib.frozen_of_heap hxr3 j
    go_wp2_with fail
    have hg2 := grows_trans (Only.setCell w3 (w.heap.size + 1) 0 (.slice p T.seats.length e1) 0) (Only.setCell _ (w.heap.size + 1) 1 (.slice p' T.waits.length e2) 0)
    have hbw := hb6.grown hg2 hb6.size (fun x hx => by obtain rfl := Option.some.inj hx; omega)
    have hdw := HDL.out.grown hg2 (fun x hx => by obtain rfl := Option.some.inj hx; exact NoInt.deal hxr3)
    refine bodyPost_ret (v := .tuple #[.agg #[.slice p T.seats.length e1, .slice p' T.waits.length e2], .bool true]) ?_ rfl ⟨hbw, .inl ⟨HG.out, p, e1, p', e2, by rw [HT.out], by rw [HT.out]; exact hdw⟩⟩
    refine deal_results Tryz.results14 _ _ (w.heap.size + 1) #[.slice p T.seats.length e1, .slice p' T.waits.length e2] _ rfl rfl rfl ?_
    simp [World.setCell, Array.getElem?_modify, hxr3]
end Go.Proofs.YtjcogpalmgcpbaaGreat
