/- slices.SortStableFunc at requests: what its functions' drawn statements do. -/
import Derived.Test.YteopjiedjnaeiaaGreatDgap
import Derived.Test.YteopjiedjnaeiaaGreatDgay
import Derived.Test.YteopjiedjnaeiaaGreatDgaa
namespace Go.Proofs.YteopjiedjnaeiaaGreat
open Go Go.Proofs Go.RowKit Go.Maps Go.Sort Go.Lib

/-- A call of a function that a variable holds. -/
theorem wp_call_fn {P : Program} {w : World} {o : Oper} {a : Act} {K : Act → World → Prop} {Q : Exit → Act → World → Prop} (f : FuncId) (x : Operand) (args : Array Operand) (tys : Array TypeId)
    (ho : o.op = .call { callee := .value x, args := args, argTypes := tys }) (hx : a.eval x = .func (.func f) #[] #[]) (vs : List Value) (hvs : args.toList.map a.eval = vs) (hc : ∀ xs w, (callFunc f xs).run P w = .ok (.enter f xs) w) {R : Ending → World → Prop} (h : Calls P f vs.toArray w R)
    (hK : ∀ e w', R e w' → ∃ v, e = .returned v ∧ K (a.put o.dst v) w') : Oper.wp P o a w K Q := by
  obtain ⟨dst, op, type, pos, after, guard⟩ := o
  simp only at ho
  subst ho
  have h2 := wp_call (P := P) (w := w) (o := ⟨dst, .call { callee := .value (.func f), args := args, argTypes := tys }, type, pos, after, guard⟩) (a := a) (K := K) (Q := Q) f args tys rfl vs hvs hc h hK
  unfold Oper.wp at h2 ⊢
  have e : execOp a.eval ⟨dst, .call { callee := .value x, args := args, argTypes := tys }, type, pos, after, guard⟩ = execOp a.eval ⟨dst, .call { callee := .value (.func f), args := args, argTypes := tys }, type, pos, after, guard⟩ := by
    simp only [execOp, resolve, hx]
    rfl
  rw [e]; exact h2
theorem flow_call_fn {P : Program} {ops : Array Oper} {Q : Exit → Act → World → Prop} {S : World → Prop} {i : Nat} {σ : List (Nat × Bool)} {a : Act} {w : World} (oi : Oper) (hi : ops[i]? = some oi) (hw : Region.wanted oi (yielded ops a.tmps) = true) (f : FuncId) (x : Operand) (args : Array Operand) (tys : Array TypeId)
    (ho : oi.op = .call { callee := .value x, args := args, argTypes := tys }) (hx : a.eval x = .func (.func f) #[] #[]) (vs : List Value) (hvs : args.toList.map a.eval = vs) (hc : ∀ xs w, (callFunc f xs).run P w = .ok (.enter f xs) w) {R : Ending → World → Prop} (h : Calls P f vs.toArray w R)
    (hK : ∀ e w', R e w' → ∃ v, e = .returned v ∧ S w' ∧ wpFlow P ops Q S σ (a.put oi.dst v) w') : wpFlow P ops Q S ((i, false) :: σ) a w :=
  flow_op oi hi hw (wp_call_fn f x args tys ho hx vs hvs hc h fun e w' hR => let ⟨v, he, hS, h⟩ := hK e w' hR; ⟨v, he, hS, h⟩)
/-- The row while it is sorted. -/
def Row (W : World) (blk : Nat) (X : List Req) (w : World) : Prop := SWK encR 9 W blk 0 (List.toArray X) w
theorem Row.grows {W w w' : World} {blk : Nat} {X : List Req} (h : Row W blk X w) (hg : Grows w w') : Row W blk X w' := by
  obtain ⟨n, os, rfl⟩ := h
  obtain ⟨q, os', rfl⟩ := hg
  exact ⟨n + q, os ++ os', sortWorldK_grown_c encR 9 W blk 0 n q _ os os'⟩
theorem Row.at {W w : World} {blk : Nat} {X : List Req} {d0 : Array Req} (hH : HoldsK encR 9 W blk 0 d0) (hblk : blk < W.heap.size) (h : Row W blk X w) (hl : X.length = d0.size) : HoldsK encR 9 w blk 0 (List.toArray X) := SWK.holds h hblk hH (by simpa using hl)
theorem holds_row {w : World} {blk i : Nat} {X : List Req} {x : Req} (h : HoldsK encR 9 w blk 0 (List.toArray X)) (hx : X[i]? = some x) : w.rangeAt blk (i * 9) x.cells.toList := fun j u hu => by
  have hi : i < X.length := (List.getElem?_eq_some_iff.1 hx).1
  have hj : j < 9 := (List.getElem?_eq_some_iff.1 hu).1
  have h1 := (h.cell (i := i) (c := j) (by simpa using hi) hj).1
  have h2 : (List.toArray X)[i]! = x := by
    rw [getElem!_pos _ _ (by simpa using hi)]
    have := (List.getElem?_eq_some_iff.1 hx).2
    simpa using this
  rw [h2, Nat.zero_add] at h1
  rw [h1]
  show some (x.cells.toList)[j]! = some u
  rw [getElem!_pos x.cells.toList j hj]
  exact congrArg some (List.getElem?_eq_some_iff.1 hu).2
theorem holds_there {w : World} {blk i : Nat} {X : List Req} (h : HoldsK encR 9 w blk 0 (List.toArray X)) (hi : i < X.length) : w.there blk (i * 9) 9 := fun j hj => by
  have h1 := h.cell (i := i) (c := j) (by simpa using hi) hj
  rw [Nat.zero_add] at h1
  exact ⟨by rw [h1.1]; rfl, h1.2⟩

set_option maxHeartbeats 16000000 in
set_option maxRecDepth 100000 in
theorem sx_swap {s3 s4 s5 s6 s7 s8 s9 s11 s12 s13 s14 s15 s16 s17 s18 s19 s20 s21 s22 s23 s24 s25 s26 s27 s28 s29 s30 s31 s32 s33 s34 s35 s36 s37 : Value} (g n c va vb i p q : Nat) (x y : Req) (W : World) (Q : Exit → Act → World → Prop) (hyr : W.drew.rangeAt g (q * 9) y.cells.toList) (hxr : W.drew.rangeAt g (p * 9) x.cells.toList) (ht1 : W.drew.there g (p * 9) 9) (ht2 : (W.drew.setCells g (p * 9) y.cells.toList).there g (q * 9) 9) (hp : (p : Int) < (n : Int)) (hq : (q : Int) < (n : Int)) (hwp : IntKind.i64.wrap ((va : Int) + (i : Int)) = (p : Int)) (hwq : IntKind.i64.wrap ((vb : Int) + (i : Int)) = (q : Int))
    (hQ : ∀ (u29 u35 u36 u37 : Value)  (wx : World), wx = (W.drew.setCells g (p * 9) y.cells.toList).setCells g (q * 9) x.cells.toList → Q .normal ⟨List.toArray (.slice (some ⟨g, 0, none⟩) n c :: .int .i64 (va : Int) :: .int .i64 (vb : Int) :: s3 :: s4 :: s5 :: s6 :: s7 :: s8 :: s9 :: .int .i64 (i : Int) :: s11 :: s12 :: s13 :: s14 :: s15 :: .slice (some ⟨g, 0, none⟩) n c :: .int .i64 (va : Int) :: .int .i64 (i : Int) :: .int .i64 (p : Int) :: .slice (some ⟨g, 0, none⟩) n c :: .int .i64 (vb : Int) :: .int .i64 (i : Int) :: .int .i64 (q : Int) :: .slice (some ⟨g, 0, none⟩) n c :: .int .i64 (vb : Int) :: .int .i64 (i : Int) :: .int .i64 (q : Int) :: .pointer (some ⟨g, q * 9, none⟩) :: u29 :: .slice (some ⟨g, 0, none⟩) n c :: .int .i64 (va : Int) :: .int .i64 (i : Int) :: .int .i64 (p : Int) :: .pointer (some ⟨g, p * 9, none⟩) :: u35 :: u36 :: u37 :: []), []⟩ wx) :
    (regionOf Tryz.f88 3).wp Tryz.prog Q ⟨List.toArray (.slice (some ⟨g, 0, none⟩) n c :: .int .i64 (va : Int) :: .int .i64 (vb : Int) :: s3 :: s4 :: s5 :: s6 :: s7 :: s8 :: s9 :: .int .i64 (i : Int) :: s11 :: s12 :: s13 :: s14 :: s15 :: s16 :: s17 :: s18 :: s19 :: s20 :: s21 :: s22 :: s23 :: s24 :: s25 :: s26 :: s27 :: s28 :: s29 :: s30 :: s31 :: s32 :: s33 :: s34 :: s35 :: s36 :: s37 :: []), []⟩ W := by
  refine of_onlyN (K := Q .normal) ?_ (fun _ _ h => h)
  generalize Q .normal = K at hQ ⊢
  have HQ := Lib.hid hQ; clear hQ
  conv => arg 2; whnf
  refine wp_region_par (S := fun w => True) (I := fun L' a w => ∃ u29 u35 u36 u37 : Value, a = ⟨List.toArray (.slice (some ⟨g, 0, none⟩) n c :: .int .i64 (va : Int) :: .int .i64 (vb : Int) :: s3 :: s4 :: s5 :: s6 :: s7 :: s8 :: s9 :: .int .i64 (i : Int) :: s11 :: s12 :: s13 :: s14 :: s15 :: .slice (some ⟨g, 0, none⟩) n c :: .int .i64 (va : Int) :: .int .i64 (i : Int) :: .int .i64 (p : Int) :: .slice (some ⟨g, 0, none⟩) n c :: .int .i64 (vb : Int) :: .int .i64 (i : Int) :: .int .i64 (q : Int) :: .slice (some ⟨g, 0, none⟩) n c :: .int .i64 (vb : Int) :: .int .i64 (i : Int) :: .int .i64 (q : Int) :: .pointer (some ⟨g, q * 9, none⟩) :: u29 :: .slice (some ⟨g, 0, none⟩) n c :: .int .i64 (va : Int) :: .int .i64 (i : Int) :: .int .i64 (p : Int) :: .pointer (some ⟨g, p * 9, none⟩) :: u35 :: u36 :: u37 :: []), []⟩ ∧ (True) ∧ (L'.getD 13 false = true → u29 = y.val) ∧ (L'.getD 19 false = true → u35 = x.val) ∧ (L'.getD 20 false = true → u36 = .pointer (some ⟨g, p * 9, none⟩)) ∧ (L'.getD 21 false = true → L'.getD 23 false = false → w = W.drew.setCells g (p * 9) y.cells.toList) ∧ (L'.getD 22 false = true → u37 = .pointer (some ⟨g, q * 9, none⟩)) ∧ (L'.getD 23 false = true → w = (W.drew.setCells g (p * 9) y.cells.toList).setCells g (q * 9) x.cells.toList) ∧ (L'.getD 21 false = false → w = W.drew)) (pre := fun i L' => L'.size == 24 && ((i == 13 && !L'.getD 13 false && !L'.getD 21 false && !L'.getD 23 false) || (i == 19 && !L'.getD 19 false && !L'.getD 21 false && !L'.getD 23 false) || (i == 20 && L'.getD 13 false && L'.getD 19 false && !L'.getD 20 false && !L'.getD 21 false && !L'.getD 23 false) || (i == 21 && L'.getD 13 false && L'.getD 19 false && L'.getD 20 false && !L'.getD 21 false && !L'.getD 23 false) || (i == 22 && L'.getD 21 false && !L'.getD 22 false && !L'.getD 23 false) || (i == 23 && L'.getD 13 false && L'.getD 19 false && L'.getD 21 false && L'.getD 22 false && !L'.getD 23 false))) (fin := fun L' => L'.getD 23 false) [0, 1, 2, 3, 4, 5, 6, 7, 8, 9, 10, 11, 12, 14, 15, 16, 17, 18] 6 (by kernel_rfl) (by kernel_rfl) (by kernel_rfl) (by kernel_rfl) (by decide) trivial ?_ ?_ ?_
  · intro i L' a w hp hI
    obtain ⟨u29, u35, u36, u37, rfl, hSw, hP13, hP19, hP20, hP21, hP22, hP23, hN⟩ := hI
    simp only [Bool.and_eq_true, Bool.or_eq_true, beq_iff_eq, Bool.not_eq_true'] at hp
    obtain ⟨hsz, hp⟩ := hp
    rcases hp with (((((⟨⟨⟨rfl, gn13⟩, gn21⟩, gn23⟩ | ⟨⟨⟨rfl, gn19⟩, gn21⟩, gn23⟩) | ⟨⟨⟨⟨⟨rfl, gd13⟩, gd19⟩, gn20⟩, gn21⟩, gn23⟩) | ⟨⟨⟨⟨⟨rfl, gd13⟩, gd19⟩, gd20⟩, gn21⟩, gn23⟩) | ⟨⟨⟨rfl, gd21⟩, gn22⟩, gn23⟩) | ⟨⟨⟨⟨⟨rfl, gd13⟩, gd19⟩, gd21⟩, gd22⟩, gn23⟩)
    · have g13 : (L'.setIfInBounds 13 true).getD 13 false = true := by rw [up_set, if_pos ⟨rfl, by omega⟩]
      have g19 : (L'.setIfInBounds 13 true).getD 19 false = L'.getD 19 false := by rw [up_set, if_neg (by omega)]
      have g20 : (L'.setIfInBounds 13 true).getD 20 false = L'.getD 20 false := by rw [up_set, if_neg (by omega)]
      have g21 : (L'.setIfInBounds 13 true).getD 21 false = L'.getD 21 false := by rw [up_set, if_neg (by omega)]
      have g22 : (L'.setIfInBounds 13 true).getD 22 false = L'.getD 22 false := by rw [up_set, if_neg (by omega)]
      have g23 : (L'.setIfInBounds 13 true).getD 23 false = L'.getD 23 false := by rw [up_set, if_neg (by omega)]
      have hSn := hSw
      refine par_run ⟨some 29, _, _, _, _, _⟩ (y).val w rfl (by rfl) (run_load_req _ (.tmp 28) (by rfl) w g _ _ (by rw [hN gn21]; exact hyr) (by rfl)) ?_
      exact ⟨hSn, (y.val), (u35), (u36), (u37), by simp only [Act.put, List.setIfInBounds_toArray, List.set_cons_zero, List.set_cons_succ], hSn, fun _ => rfl, by rw [g19]; exact hP19, by rw [g20]; exact hP20, by rw [g21, g23]; exact fun e e2 => absurd (e.symm.trans gn21) (by decide), by rw [g22]; exact hP22, by rw [g23]; exact fun e => absurd (e.symm.trans gn23) (by decide), by rw [g21]; exact hN⟩
    · have g13 : (L'.setIfInBounds 19 true).getD 13 false = L'.getD 13 false := by rw [up_set, if_neg (by omega)]
      have g19 : (L'.setIfInBounds 19 true).getD 19 false = true := by rw [up_set, if_pos ⟨rfl, by omega⟩]
      have g20 : (L'.setIfInBounds 19 true).getD 20 false = L'.getD 20 false := by rw [up_set, if_neg (by omega)]
      have g21 : (L'.setIfInBounds 19 true).getD 21 false = L'.getD 21 false := by rw [up_set, if_neg (by omega)]
      have g22 : (L'.setIfInBounds 19 true).getD 22 false = L'.getD 22 false := by rw [up_set, if_neg (by omega)]
      have g23 : (L'.setIfInBounds 19 true).getD 23 false = L'.getD 23 false := by rw [up_set, if_neg (by omega)]
      have hSn := hSw
      refine par_run ⟨some 35, _, _, _, _, _⟩ (x).val w rfl (by rfl) (run_load_req _ (.tmp 34) (by rfl) w g _ _ (by rw [hN gn21]; exact hxr) (by rfl)) ?_
      exact ⟨hSn, (u29), (x.val), (u36), (u37), by simp only [Act.put, List.setIfInBounds_toArray, List.set_cons_zero, List.set_cons_succ], hSn, by rw [g13]; exact hP13, fun _ => rfl, by rw [g20]; exact hP20, by rw [g21, g23]; exact fun e e2 => absurd (e.symm.trans gn21) (by decide), by rw [g22]; exact hP22, by rw [g23]; exact fun e => absurd (e.symm.trans gn23) (by decide), by rw [g21]; exact hN⟩
    · have g13 : (L'.setIfInBounds 20 true).getD 13 false = L'.getD 13 false := by rw [up_set, if_neg (by omega)]
      have g19 : (L'.setIfInBounds 20 true).getD 19 false = L'.getD 19 false := by rw [up_set, if_neg (by omega)]
      have g20 : (L'.setIfInBounds 20 true).getD 20 false = true := by rw [up_set, if_pos ⟨rfl, by omega⟩]
      have g21 : (L'.setIfInBounds 20 true).getD 21 false = L'.getD 21 false := by rw [up_set, if_neg (by omega)]
      have g22 : (L'.setIfInBounds 20 true).getD 22 false = L'.getD 22 false := by rw [up_set, if_neg (by omega)]
      have g23 : (L'.setIfInBounds 20 true).getD 23 false = L'.getD 23 false := by rw [up_set, if_neg (by omega)]
      have hD13 := hP13 gd13
      have hD19 := hP19 gd19
      have hSn := hSw
      refine par_run ⟨some 36, _, _, _, _, _⟩ (.pointer (some ⟨g, p * 9, none⟩)) w rfl (by rfl) (by go_simp) ?_
      exact ⟨hSn, (u29), (u35), (.pointer (some ⟨g, p * 9, none⟩)), (u37), by simp only [Act.put, List.setIfInBounds_toArray, List.set_cons_zero, List.set_cons_succ], hSn, by rw [g13]; exact hP13, by rw [g19]; exact hP19, fun _ => rfl, by rw [g21, g23]; exact fun e e2 => absurd (e.symm.trans gn21) (by decide), by rw [g22]; exact hP22, by rw [g23]; exact fun e => absurd (e.symm.trans gn23) (by decide), by rw [g21]; exact hN⟩
    · have g13 : (L'.setIfInBounds 21 true).getD 13 false = L'.getD 13 false := by rw [up_set, if_neg (by omega)]
      have g19 : (L'.setIfInBounds 21 true).getD 19 false = L'.getD 19 false := by rw [up_set, if_neg (by omega)]
      have g20 : (L'.setIfInBounds 21 true).getD 20 false = L'.getD 20 false := by rw [up_set, if_neg (by omega)]
      have g21 : (L'.setIfInBounds 21 true).getD 21 false = true := by rw [up_set, if_pos ⟨rfl, by omega⟩]
      have g22 : (L'.setIfInBounds 21 true).getD 22 false = L'.getD 22 false := by rw [up_set, if_neg (by omega)]
      have g23 : (L'.setIfInBounds 21 true).getD 23 false = L'.getD 23 false := by rw [up_set, if_neg (by omega)]
      have hD13 := hP13 gd13
      have hD19 := hP19 gd19
      have hD20 := hP20 gd20
      subst hD13
      subst hD20
      have hSn : True := trivial
      refine par_op ⟨none, _, _, _, _, _⟩ rfl (by rfl) (wp_store_mid 39 (.tmp 36) (.tmp 29) (by rfl) g (p * 9) y.cells (by rfl) (by rfl) (by rw [hN gn21]; exact ht1) (by kernel_rfl) (req_all _) ?_)
      exact ⟨hSn, (y.val), (u35), (.pointer (some ⟨g, p * 9, none⟩)), (u37), by simp only [Act.put], hSn, by rw [g13]; exact hP13, by rw [g19]; exact hP19, by rw [g20]; exact hP20, fun _ _ => by rw [hN gn21], by rw [g22]; exact hP22, by rw [g23]; exact fun e => absurd (e.symm.trans gn23) (by decide), by rw [g21]; exact fun e => absurd e (by decide)⟩
    · have g13 : (L'.setIfInBounds 22 true).getD 13 false = L'.getD 13 false := by rw [up_set, if_neg (by omega)]
      have g19 : (L'.setIfInBounds 22 true).getD 19 false = L'.getD 19 false := by rw [up_set, if_neg (by omega)]
      have g20 : (L'.setIfInBounds 22 true).getD 20 false = L'.getD 20 false := by rw [up_set, if_neg (by omega)]
      have g21 : (L'.setIfInBounds 22 true).getD 21 false = L'.getD 21 false := by rw [up_set, if_neg (by omega)]
      have g22 : (L'.setIfInBounds 22 true).getD 22 false = true := by rw [up_set, if_pos ⟨rfl, by omega⟩]
      have g23 : (L'.setIfInBounds 22 true).getD 23 false = L'.getD 23 false := by rw [up_set, if_neg (by omega)]
      have hD21 := hP21 gd21 gn23
      have hSn := hSw
      refine par_run ⟨some 37, _, _, _, _, _⟩ (.pointer (some ⟨g, q * 9, none⟩)) w rfl (by rfl) (by go_simp) ?_
      exact ⟨hSn, (u29), (u35), (u36), (.pointer (some ⟨g, q * 9, none⟩)), by simp only [Act.put, List.setIfInBounds_toArray, List.set_cons_zero, List.set_cons_succ], hSn, by rw [g13]; exact hP13, by rw [g19]; exact hP19, by rw [g20]; exact hP20, by rw [g21, g23]; exact hP21, fun _ => rfl, by rw [g23]; exact fun e => absurd (e.symm.trans gn23) (by decide), by rw [g21]; exact hN⟩
    · have g13 : (L'.setIfInBounds 23 true).getD 13 false = L'.getD 13 false := by rw [up_set, if_neg (by omega)]
      have g19 : (L'.setIfInBounds 23 true).getD 19 false = L'.getD 19 false := by rw [up_set, if_neg (by omega)]
      have g20 : (L'.setIfInBounds 23 true).getD 20 false = L'.getD 20 false := by rw [up_set, if_neg (by omega)]
      have g21 : (L'.setIfInBounds 23 true).getD 21 false = L'.getD 21 false := by rw [up_set, if_neg (by omega)]
      have g22 : (L'.setIfInBounds 23 true).getD 22 false = L'.getD 22 false := by rw [up_set, if_neg (by omega)]
      have g23 : (L'.setIfInBounds 23 true).getD 23 false = true := by rw [up_set, if_pos ⟨rfl, by omega⟩]
      have hD13 := hP13 gd13
      have hD19 := hP19 gd19
      have hD21 := hP21 gd21 gn23
      have hD22 := hP22 gd22
      subst hD19
      subst hD22
      have hSn : True := trivial
      refine par_op ⟨none, _, _, _, _, _⟩ rfl (by rfl) (wp_store_mid 39 (.tmp 37) (.tmp 35) (by rfl) g (q * 9) x.cells (by rfl) (by rfl) (by rw [hD21]; exact ht2) (by kernel_rfl) (req_all _) ?_)
      exact ⟨hSn, (u29), (x.val), (u36), (.pointer (some ⟨g, q * 9, none⟩)), by simp only [Act.put], hSn, by rw [g13]; exact hP13, by rw [g19]; exact hP19, by rw [g20]; exact hP20, by rw [g23]; exact fun _ e => absurd e (by decide), by rw [g22]; exact hP22, fun _ => by rw [hD21], by rw [g21]; exact fun e => absurd (gd21.symm.trans e) (by decide)⟩
  · intro L' a w hp hI
    obtain ⟨u29, u35, u36, u37, rfl, hSw, hP13, hP19, hP20, hP21, hP22, hP23, hN⟩ := hI
    (try simp only [Bool.and_eq_true] at hp)
    have p23 := hp
    obtain hfin := hP23 p23
    exact HQ.out _ _ _ _ w hfin
  · refine par_take ⟨some 16, _, _, _, _, _⟩ (.slice (some ⟨g, 0, none⟩) n c) rfl (by rfl) ?_ ?_
    · intro w hSw; go_simp
    simp only [Act.put, List.setIfInBounds_toArray, List.set_cons_zero, List.set_cons_succ]
    refine par_take ⟨some 17, _, _, _, _, _⟩ (.int .i64 (va : Int)) rfl (by rfl) ?_ ?_
    · intro w hSw; go_simp
    simp only [Act.put, List.setIfInBounds_toArray, List.set_cons_zero, List.set_cons_succ]
    refine par_take ⟨some 18, _, _, _, _, _⟩ (.int .i64 (i : Int)) rfl (by rfl) ?_ ?_
    · intro w hSw; go_simp
    simp only [Act.put, List.setIfInBounds_toArray, List.set_cons_zero, List.set_cons_succ]
    refine par_take ⟨some 19, _, _, _, _, _⟩ (.int .i64 (p : Int)) rfl (by rfl) ?_ ?_
    · intro w hSw; go_simp
    simp only [Act.put, List.setIfInBounds_toArray, List.set_cons_zero, List.set_cons_succ]
    refine par_take ⟨some 20, _, _, _, _, _⟩ (.slice (some ⟨g, 0, none⟩) n c) rfl (by rfl) ?_ ?_
    · intro w hSw; go_simp
    simp only [Act.put, List.setIfInBounds_toArray, List.set_cons_zero, List.set_cons_succ]
    refine par_take ⟨some 21, _, _, _, _, _⟩ (.int .i64 (vb : Int)) rfl (by rfl) ?_ ?_
    · intro w hSw; go_simp
    simp only [Act.put, List.setIfInBounds_toArray, List.set_cons_zero, List.set_cons_succ]
    refine par_take ⟨some 22, _, _, _, _, _⟩ (.int .i64 (i : Int)) rfl (by rfl) ?_ ?_
    · intro w hSw; go_simp
    simp only [Act.put, List.setIfInBounds_toArray, List.set_cons_zero, List.set_cons_succ]
    refine par_take ⟨some 23, _, _, _, _, _⟩ (.int .i64 (q : Int)) rfl (by rfl) ?_ ?_
    · intro w hSw; go_simp
    simp only [Act.put, List.setIfInBounds_toArray, List.set_cons_zero, List.set_cons_succ]
    refine par_take ⟨some 24, _, _, _, _, _⟩ (.slice (some ⟨g, 0, none⟩) n c) rfl (by rfl) ?_ ?_
    · intro w hSw; go_simp
    simp only [Act.put, List.setIfInBounds_toArray, List.set_cons_zero, List.set_cons_succ]
    refine par_take ⟨some 25, _, _, _, _, _⟩ (.int .i64 (vb : Int)) rfl (by rfl) ?_ ?_
    · intro w hSw; go_simp
    simp only [Act.put, List.setIfInBounds_toArray, List.set_cons_zero, List.set_cons_succ]
    refine par_take ⟨some 26, _, _, _, _, _⟩ (.int .i64 (i : Int)) rfl (by rfl) ?_ ?_
    · intro w hSw; go_simp
    simp only [Act.put, List.setIfInBounds_toArray, List.set_cons_zero, List.set_cons_succ]
    refine par_take ⟨some 27, _, _, _, _, _⟩ (.int .i64 (q : Int)) rfl (by rfl) ?_ ?_
    · intro w hSw; go_simp
    simp only [Act.put, List.setIfInBounds_toArray, List.set_cons_zero, List.set_cons_succ]
    refine par_take ⟨some 28, _, _, _, _, _⟩ (.pointer (some ⟨g, q * 9, none⟩)) rfl (by rfl) ?_ ?_
    · intro w hSw; go_simp
    simp only [Act.put, List.setIfInBounds_toArray, List.set_cons_zero, List.set_cons_succ]
    refine par_take ⟨some 30, _, _, _, _, _⟩ (.slice (some ⟨g, 0, none⟩) n c) rfl (by rfl) ?_ ?_
    · intro w hSw; go_simp
    simp only [Act.put, List.setIfInBounds_toArray, List.set_cons_zero, List.set_cons_succ]
    refine par_take ⟨some 31, _, _, _, _, _⟩ (.int .i64 (va : Int)) rfl (by rfl) ?_ ?_
    · intro w hSw; go_simp
    simp only [Act.put, List.setIfInBounds_toArray, List.set_cons_zero, List.set_cons_succ]
    refine par_take ⟨some 32, _, _, _, _, _⟩ (.int .i64 (i : Int)) rfl (by rfl) ?_ ?_
    · intro w hSw; go_simp
    simp only [Act.put, List.setIfInBounds_toArray, List.set_cons_zero, List.set_cons_succ]
    refine par_take ⟨some 33, _, _, _, _, _⟩ (.int .i64 (p : Int)) rfl (by rfl) ?_ ?_
    · intro w hSw; go_simp
    simp only [Act.put, List.setIfInBounds_toArray, List.set_cons_zero, List.set_cons_succ]
    refine par_take ⟨some 34, _, _, _, _, _⟩ (.pointer (some ⟨g, p * 9, none⟩)) rfl (by rfl) ?_ ?_
    · intro w hSw; go_simp
    simp only [Act.put, List.setIfInBounds_toArray, List.set_cons_zero, List.set_cons_succ]
    exact ⟨_, _, _, _, rfl, trivial, (fun e => absurd e (by decide +kernel)), (fun e => absurd e (by decide +kernel)), (fun e => absurd e (by decide +kernel)), (fun e => absurd e (by decide +kernel)), (fun e => absurd e (by decide +kernel)), (fun e => absurd e (by decide +kernel)), (fun _ => by first | rfl | trivial)⟩

set_option maxHeartbeats 16000000 in
set_option maxRecDepth 100000 in
theorem sx_up {s1 s2 s3 s4 s5 s6 s7 s8 s9 s10 s11 s12 s14 s15 s16 s17 s18 s19 s20 s21 s22 s23 s24 s25 s26 s27 s28 s29 s30 s31 s32 s33 s34 s35 s36 s37 s38 s39 s40 s41 s42 s43 s44 s45 s46 s47 s48 s49 s50 s51 s52 s53 s54 s55 s56 s57 s58 s59 s60 s61 s62 s63 s64 s65 s66 s67 s68 s69 s70 s71 s72 s73 s74 s75 s76 s77 s78 s79 s80 s81 s82 s83 s84 s85 s86 s87 s88 s89 s90 s91 s92 s93 s94 s95 s96 s97 s98 s99 s100 s101 s102 s103 s104 s105 s106 s107 s108 s109 s110 s111 s112 s113 s114 s115 s116 s117 s118 s119 s120 s121 s122 s123 s124 s125 s126 s127 s128 s129 s130 s131 s132 s133 s134 s135 s136 s137 s138 s139 s140 s141 s142 s143 s144 s145 s146 s147 s148 s149 s150 s151 s152 s153 s154 s155 s156 s157 s158 s159 s160 s161 s162 s163 s164 s165 s166 s167 s168 s169 s170 s171 s172 s173 s174 s175 s176 s177 s178 s179 s180 s181 s182 s183 s184 s185 s186 s187 s188 s189 s190 s191 s192 s193 s194 s195 s196 s197 s198 s199 s200 s201 s202 s203 s204 s205 s206 s207 s208 s209 s210 s211 s212 s213 s214 s215 s216 s217 s218 s219 : Value} (g n c p q : Nat) (x y : Req) (W : World) (Q : Exit → Act → World → Prop) (hyr : W.drew.rangeAt g (q * 9) y.cells.toList) (hxr : W.drew.rangeAt g (p * 9) x.cells.toList) (ht1 : W.drew.there g (p * 9) 9) (ht2 : (W.drew.setCells g (p * 9) y.cells.toList).there g (q * 9) 9) (hp : (p : Int) < (n : Int)) (hq : (q : Int) < (n : Int)) (hwq : IntKind.i64.wrap ((p : Int) + 1) = (q : Int))
    (hQ : ∀ (u70 u74 u75 u76 : Value)  (wx : World), wx = (W.drew.setCells g (p * 9) y.cells.toList).setCells g (q * 9) x.cells.toList → Q .normal ⟨List.toArray (.slice (some ⟨g, 0, none⟩) n c :: s1 :: s2 :: s3 :: s4 :: s5 :: s6 :: s7 :: s8 :: s9 :: s10 :: s11 :: s12 :: .int .i64 (p : Int) :: s14 :: s15 :: s16 :: s17 :: s18 :: s19 :: s20 :: s21 :: s22 :: s23 :: s24 :: s25 :: s26 :: s27 :: s28 :: s29 :: s30 :: s31 :: s32 :: s33 :: s34 :: s35 :: s36 :: s37 :: s38 :: s39 :: s40 :: s41 :: s42 :: s43 :: s44 :: s45 :: s46 :: s47 :: s48 :: s49 :: s50 :: s51 :: s52 :: s53 :: s54 :: s55 :: s56 :: s57 :: s58 :: s59 :: s60 :: .slice (some ⟨g, 0, none⟩) n c :: .int .i64 (p : Int) :: .slice (some ⟨g, 0, none⟩) n c :: .int .i64 (p : Int) :: .int .i64 (q : Int) :: .slice (some ⟨g, 0, none⟩) n c :: .int .i64 (p : Int) :: .int .i64 (q : Int) :: .pointer (some ⟨g, q * 9, none⟩) :: u70 :: .slice (some ⟨g, 0, none⟩) n c :: .int .i64 (p : Int) :: .pointer (some ⟨g, p * 9, none⟩) :: u74 :: u75 :: u76 :: s77 :: s78 :: s79 :: s80 :: s81 :: s82 :: s83 :: s84 :: s85 :: s86 :: s87 :: s88 :: s89 :: s90 :: s91 :: s92 :: s93 :: s94 :: s95 :: s96 :: s97 :: s98 :: s99 :: s100 :: s101 :: s102 :: s103 :: s104 :: s105 :: s106 :: s107 :: s108 :: s109 :: s110 :: s111 :: s112 :: s113 :: s114 :: s115 :: s116 :: s117 :: s118 :: s119 :: s120 :: s121 :: s122 :: s123 :: s124 :: s125 :: s126 :: s127 :: s128 :: s129 :: s130 :: s131 :: s132 :: s133 :: s134 :: s135 :: s136 :: s137 :: s138 :: s139 :: s140 :: s141 :: s142 :: s143 :: s144 :: s145 :: s146 :: s147 :: s148 :: s149 :: s150 :: s151 :: s152 :: s153 :: s154 :: s155 :: s156 :: s157 :: s158 :: s159 :: s160 :: s161 :: s162 :: s163 :: s164 :: s165 :: s166 :: s167 :: s168 :: s169 :: s170 :: s171 :: s172 :: s173 :: s174 :: s175 :: s176 :: s177 :: s178 :: s179 :: s180 :: s181 :: s182 :: s183 :: s184 :: s185 :: s186 :: s187 :: s188 :: s189 :: s190 :: s191 :: s192 :: s193 :: s194 :: s195 :: s196 :: s197 :: s198 :: s199 :: s200 :: s201 :: s202 :: s203 :: s204 :: s205 :: s206 :: s207 :: s208 :: s209 :: s210 :: s211 :: s212 :: s213 :: s214 :: s215 :: s216 :: s217 :: s218 :: s219 :: []), []⟩ wx) :
    (regionOf Tryz.f66 11).wp Tryz.prog Q ⟨List.toArray (.slice (some ⟨g, 0, none⟩) n c :: s1 :: s2 :: s3 :: s4 :: s5 :: s6 :: s7 :: s8 :: s9 :: s10 :: s11 :: s12 :: .int .i64 (p : Int) :: s14 :: s15 :: s16 :: s17 :: s18 :: s19 :: s20 :: s21 :: s22 :: s23 :: s24 :: s25 :: s26 :: s27 :: s28 :: s29 :: s30 :: s31 :: s32 :: s33 :: s34 :: s35 :: s36 :: s37 :: s38 :: s39 :: s40 :: s41 :: s42 :: s43 :: s44 :: s45 :: s46 :: s47 :: s48 :: s49 :: s50 :: s51 :: s52 :: s53 :: s54 :: s55 :: s56 :: s57 :: s58 :: s59 :: s60 :: s61 :: s62 :: s63 :: s64 :: s65 :: s66 :: s67 :: s68 :: s69 :: s70 :: s71 :: s72 :: s73 :: s74 :: s75 :: s76 :: s77 :: s78 :: s79 :: s80 :: s81 :: s82 :: s83 :: s84 :: s85 :: s86 :: s87 :: s88 :: s89 :: s90 :: s91 :: s92 :: s93 :: s94 :: s95 :: s96 :: s97 :: s98 :: s99 :: s100 :: s101 :: s102 :: s103 :: s104 :: s105 :: s106 :: s107 :: s108 :: s109 :: s110 :: s111 :: s112 :: s113 :: s114 :: s115 :: s116 :: s117 :: s118 :: s119 :: s120 :: s121 :: s122 :: s123 :: s124 :: s125 :: s126 :: s127 :: s128 :: s129 :: s130 :: s131 :: s132 :: s133 :: s134 :: s135 :: s136 :: s137 :: s138 :: s139 :: s140 :: s141 :: s142 :: s143 :: s144 :: s145 :: s146 :: s147 :: s148 :: s149 :: s150 :: s151 :: s152 :: s153 :: s154 :: s155 :: s156 :: s157 :: s158 :: s159 :: s160 :: s161 :: s162 :: s163 :: s164 :: s165 :: s166 :: s167 :: s168 :: s169 :: s170 :: s171 :: s172 :: s173 :: s174 :: s175 :: s176 :: s177 :: s178 :: s179 :: s180 :: s181 :: s182 :: s183 :: s184 :: s185 :: s186 :: s187 :: s188 :: s189 :: s190 :: s191 :: s192 :: s193 :: s194 :: s195 :: s196 :: s197 :: s198 :: s199 :: s200 :: s201 :: s202 :: s203 :: s204 :: s205 :: s206 :: s207 :: s208 :: s209 :: s210 :: s211 :: s212 :: s213 :: s214 :: s215 :: s216 :: s217 :: s218 :: s219 :: []), []⟩ W := by
  refine of_onlyN (K := Q .normal) ?_ (fun _ _ h => h)
  generalize Q .normal = K at hQ ⊢
  have HQ := Lib.hid hQ; clear hQ
  conv => arg 2; whnf
  refine wp_region_par (S := fun w => True) (I := fun L' a w => ∃ u70 u74 u75 u76 : Value, a = ⟨List.toArray (.slice (some ⟨g, 0, none⟩) n c :: s1 :: s2 :: s3 :: s4 :: s5 :: s6 :: s7 :: s8 :: s9 :: s10 :: s11 :: s12 :: .int .i64 (p : Int) :: s14 :: s15 :: s16 :: s17 :: s18 :: s19 :: s20 :: s21 :: s22 :: s23 :: s24 :: s25 :: s26 :: s27 :: s28 :: s29 :: s30 :: s31 :: s32 :: s33 :: s34 :: s35 :: s36 :: s37 :: s38 :: s39 :: s40 :: s41 :: s42 :: s43 :: s44 :: s45 :: s46 :: s47 :: s48 :: s49 :: s50 :: s51 :: s52 :: s53 :: s54 :: s55 :: s56 :: s57 :: s58 :: s59 :: s60 :: .slice (some ⟨g, 0, none⟩) n c :: .int .i64 (p : Int) :: .slice (some ⟨g, 0, none⟩) n c :: .int .i64 (p : Int) :: .int .i64 (q : Int) :: .slice (some ⟨g, 0, none⟩) n c :: .int .i64 (p : Int) :: .int .i64 (q : Int) :: .pointer (some ⟨g, q * 9, none⟩) :: u70 :: .slice (some ⟨g, 0, none⟩) n c :: .int .i64 (p : Int) :: .pointer (some ⟨g, p * 9, none⟩) :: u74 :: u75 :: u76 :: s77 :: s78 :: s79 :: s80 :: s81 :: s82 :: s83 :: s84 :: s85 :: s86 :: s87 :: s88 :: s89 :: s90 :: s91 :: s92 :: s93 :: s94 :: s95 :: s96 :: s97 :: s98 :: s99 :: s100 :: s101 :: s102 :: s103 :: s104 :: s105 :: s106 :: s107 :: s108 :: s109 :: s110 :: s111 :: s112 :: s113 :: s114 :: s115 :: s116 :: s117 :: s118 :: s119 :: s120 :: s121 :: s122 :: s123 :: s124 :: s125 :: s126 :: s127 :: s128 :: s129 :: s130 :: s131 :: s132 :: s133 :: s134 :: s135 :: s136 :: s137 :: s138 :: s139 :: s140 :: s141 :: s142 :: s143 :: s144 :: s145 :: s146 :: s147 :: s148 :: s149 :: s150 :: s151 :: s152 :: s153 :: s154 :: s155 :: s156 :: s157 :: s158 :: s159 :: s160 :: s161 :: s162 :: s163 :: s164 :: s165 :: s166 :: s167 :: s168 :: s169 :: s170 :: s171 :: s172 :: s173 :: s174 :: s175 :: s176 :: s177 :: s178 :: s179 :: s180 :: s181 :: s182 :: s183 :: s184 :: s185 :: s186 :: s187 :: s188 :: s189 :: s190 :: s191 :: s192 :: s193 :: s194 :: s195 :: s196 :: s197 :: s198 :: s199 :: s200 :: s201 :: s202 :: s203 :: s204 :: s205 :: s206 :: s207 :: s208 :: s209 :: s210 :: s211 :: s212 :: s213 :: s214 :: s215 :: s216 :: s217 :: s218 :: s219 :: []), []⟩ ∧ (True) ∧ (L'.getD 9 false = true → u70 = y.val) ∧ (L'.getD 13 false = true → u74 = x.val) ∧ (L'.getD 14 false = true → u75 = .pointer (some ⟨g, p * 9, none⟩)) ∧ (L'.getD 15 false = true → L'.getD 17 false = false → w = W.drew.setCells g (p * 9) y.cells.toList) ∧ (L'.getD 16 false = true → u76 = .pointer (some ⟨g, q * 9, none⟩)) ∧ (L'.getD 17 false = true → w = (W.drew.setCells g (p * 9) y.cells.toList).setCells g (q * 9) x.cells.toList) ∧ (L'.getD 15 false = false → w = W.drew)) (pre := fun i L' => L'.size == 18 && ((i == 9 && !L'.getD 9 false && !L'.getD 15 false && !L'.getD 17 false) || (i == 13 && !L'.getD 13 false && !L'.getD 15 false && !L'.getD 17 false) || (i == 14 && L'.getD 9 false && L'.getD 13 false && !L'.getD 14 false && !L'.getD 15 false && !L'.getD 17 false) || (i == 15 && L'.getD 9 false && L'.getD 13 false && L'.getD 14 false && !L'.getD 15 false && !L'.getD 17 false) || (i == 16 && L'.getD 15 false && !L'.getD 16 false && !L'.getD 17 false) || (i == 17 && L'.getD 9 false && L'.getD 13 false && L'.getD 15 false && L'.getD 16 false && !L'.getD 17 false))) (fin := fun L' => L'.getD 17 false) [0, 1, 2, 3, 4, 5, 6, 7, 8, 10, 11, 12] 6 (by kernel_rfl) (by kernel_rfl) (by kernel_rfl) (by kernel_rfl) (by decide) trivial ?_ ?_ ?_
  · intro i L' a w hp hI
    obtain ⟨u70, u74, u75, u76, rfl, hSw, hP9, hP13, hP14, hP15, hP16, hP17, hN⟩ := hI
    simp only [Bool.and_eq_true, Bool.or_eq_true, beq_iff_eq, Bool.not_eq_true'] at hp
    obtain ⟨hsz, hp⟩ := hp
    rcases hp with (((((⟨⟨⟨rfl, gn9⟩, gn15⟩, gn17⟩ | ⟨⟨⟨rfl, gn13⟩, gn15⟩, gn17⟩) | ⟨⟨⟨⟨⟨rfl, gd9⟩, gd13⟩, gn14⟩, gn15⟩, gn17⟩) | ⟨⟨⟨⟨⟨rfl, gd9⟩, gd13⟩, gd14⟩, gn15⟩, gn17⟩) | ⟨⟨⟨rfl, gd15⟩, gn16⟩, gn17⟩) | ⟨⟨⟨⟨⟨rfl, gd9⟩, gd13⟩, gd15⟩, gd16⟩, gn17⟩)
    · have g9 : (L'.setIfInBounds 9 true).getD 9 false = true := by rw [up_set, if_pos ⟨rfl, by omega⟩]
      have g13 : (L'.setIfInBounds 9 true).getD 13 false = L'.getD 13 false := by rw [up_set, if_neg (by omega)]
      have g14 : (L'.setIfInBounds 9 true).getD 14 false = L'.getD 14 false := by rw [up_set, if_neg (by omega)]
      have g15 : (L'.setIfInBounds 9 true).getD 15 false = L'.getD 15 false := by rw [up_set, if_neg (by omega)]
      have g16 : (L'.setIfInBounds 9 true).getD 16 false = L'.getD 16 false := by rw [up_set, if_neg (by omega)]
      have g17 : (L'.setIfInBounds 9 true).getD 17 false = L'.getD 17 false := by rw [up_set, if_neg (by omega)]
      have hSn := hSw
      refine par_run ⟨some 70, _, _, _, _, _⟩ (y).val w rfl (by rfl) (run_load_req _ (.tmp 69) (by rfl) w g _ _ (by rw [hN gn15]; exact hyr) (by rfl)) ?_
      exact ⟨hSn, (y.val), (u74), (u75), (u76), by simp only [Act.put, List.setIfInBounds_toArray, List.set_cons_zero, List.set_cons_succ], hSn, fun _ => rfl, by rw [g13]; exact hP13, by rw [g14]; exact hP14, by rw [g15, g17]; exact fun e e2 => absurd (e.symm.trans gn15) (by decide), by rw [g16]; exact hP16, by rw [g17]; exact fun e => absurd (e.symm.trans gn17) (by decide), by rw [g15]; exact hN⟩
    · have g9 : (L'.setIfInBounds 13 true).getD 9 false = L'.getD 9 false := by rw [up_set, if_neg (by omega)]
      have g13 : (L'.setIfInBounds 13 true).getD 13 false = true := by rw [up_set, if_pos ⟨rfl, by omega⟩]
      have g14 : (L'.setIfInBounds 13 true).getD 14 false = L'.getD 14 false := by rw [up_set, if_neg (by omega)]
      have g15 : (L'.setIfInBounds 13 true).getD 15 false = L'.getD 15 false := by rw [up_set, if_neg (by omega)]
      have g16 : (L'.setIfInBounds 13 true).getD 16 false = L'.getD 16 false := by rw [up_set, if_neg (by omega)]
      have g17 : (L'.setIfInBounds 13 true).getD 17 false = L'.getD 17 false := by rw [up_set, if_neg (by omega)]
      have hSn := hSw
      refine par_run ⟨some 74, _, _, _, _, _⟩ (x).val w rfl (by rfl) (run_load_req _ (.tmp 73) (by rfl) w g _ _ (by rw [hN gn15]; exact hxr) (by rfl)) ?_
      exact ⟨hSn, (u70), (x.val), (u75), (u76), by simp only [Act.put, List.setIfInBounds_toArray, List.set_cons_zero, List.set_cons_succ], hSn, by rw [g9]; exact hP9, fun _ => rfl, by rw [g14]; exact hP14, by rw [g15, g17]; exact fun e e2 => absurd (e.symm.trans gn15) (by decide), by rw [g16]; exact hP16, by rw [g17]; exact fun e => absurd (e.symm.trans gn17) (by decide), by rw [g15]; exact hN⟩
    · have g9 : (L'.setIfInBounds 14 true).getD 9 false = L'.getD 9 false := by rw [up_set, if_neg (by omega)]
      have g13 : (L'.setIfInBounds 14 true).getD 13 false = L'.getD 13 false := by rw [up_set, if_neg (by omega)]
      have g14 : (L'.setIfInBounds 14 true).getD 14 false = true := by rw [up_set, if_pos ⟨rfl, by omega⟩]
      have g15 : (L'.setIfInBounds 14 true).getD 15 false = L'.getD 15 false := by rw [up_set, if_neg (by omega)]
      have g16 : (L'.setIfInBounds 14 true).getD 16 false = L'.getD 16 false := by rw [up_set, if_neg (by omega)]
      have g17 : (L'.setIfInBounds 14 true).getD 17 false = L'.getD 17 false := by rw [up_set, if_neg (by omega)]
      have hD9 := hP9 gd9
      have hD13 := hP13 gd13
      have hSn := hSw
      refine par_run ⟨some 75, _, _, _, _, _⟩ (.pointer (some ⟨g, p * 9, none⟩)) w rfl (by rfl) (by go_simp) ?_
      exact ⟨hSn, (u70), (u74), (.pointer (some ⟨g, p * 9, none⟩)), (u76), by simp only [Act.put, List.setIfInBounds_toArray, List.set_cons_zero, List.set_cons_succ], hSn, by rw [g9]; exact hP9, by rw [g13]; exact hP13, fun _ => rfl, by rw [g15, g17]; exact fun e e2 => absurd (e.symm.trans gn15) (by decide), by rw [g16]; exact hP16, by rw [g17]; exact fun e => absurd (e.symm.trans gn17) (by decide), by rw [g15]; exact hN⟩
    · have g9 : (L'.setIfInBounds 15 true).getD 9 false = L'.getD 9 false := by rw [up_set, if_neg (by omega)]
      have g13 : (L'.setIfInBounds 15 true).getD 13 false = L'.getD 13 false := by rw [up_set, if_neg (by omega)]
      have g14 : (L'.setIfInBounds 15 true).getD 14 false = L'.getD 14 false := by rw [up_set, if_neg (by omega)]
      have g15 : (L'.setIfInBounds 15 true).getD 15 false = true := by rw [up_set, if_pos ⟨rfl, by omega⟩]
      have g16 : (L'.setIfInBounds 15 true).getD 16 false = L'.getD 16 false := by rw [up_set, if_neg (by omega)]
      have g17 : (L'.setIfInBounds 15 true).getD 17 false = L'.getD 17 false := by rw [up_set, if_neg (by omega)]
      have hD9 := hP9 gd9
      have hD13 := hP13 gd13
      have hD14 := hP14 gd14
      subst hD9
      subst hD14
      have hSn : True := trivial
      refine par_op ⟨none, _, _, _, _, _⟩ rfl (by rfl) (wp_store_mid 39 (.tmp 75) (.tmp 70) (by rfl) g (p * 9) y.cells (by rfl) (by rfl) (by rw [hN gn15]; exact ht1) (by kernel_rfl) (req_all _) ?_)
      exact ⟨hSn, (y.val), (u74), (.pointer (some ⟨g, p * 9, none⟩)), (u76), by simp only [Act.put], hSn, by rw [g9]; exact hP9, by rw [g13]; exact hP13, by rw [g14]; exact hP14, fun _ _ => by rw [hN gn15], by rw [g16]; exact hP16, by rw [g17]; exact fun e => absurd (e.symm.trans gn17) (by decide), by rw [g15]; exact fun e => absurd e (by decide)⟩
    · have g9 : (L'.setIfInBounds 16 true).getD 9 false = L'.getD 9 false := by rw [up_set, if_neg (by omega)]
      have g13 : (L'.setIfInBounds 16 true).getD 13 false = L'.getD 13 false := by rw [up_set, if_neg (by omega)]
      have g14 : (L'.setIfInBounds 16 true).getD 14 false = L'.getD 14 false := by rw [up_set, if_neg (by omega)]
      have g15 : (L'.setIfInBounds 16 true).getD 15 false = L'.getD 15 false := by rw [up_set, if_neg (by omega)]
      have g16 : (L'.setIfInBounds 16 true).getD 16 false = true := by rw [up_set, if_pos ⟨rfl, by omega⟩]
      have g17 : (L'.setIfInBounds 16 true).getD 17 false = L'.getD 17 false := by rw [up_set, if_neg (by omega)]
      have hD15 := hP15 gd15 gn17
      have hSn := hSw
      refine par_run ⟨some 76, _, _, _, _, _⟩ (.pointer (some ⟨g, q * 9, none⟩)) w rfl (by rfl) (by go_simp) ?_
      exact ⟨hSn, (u70), (u74), (u75), (.pointer (some ⟨g, q * 9, none⟩)), by simp only [Act.put, List.setIfInBounds_toArray, List.set_cons_zero, List.set_cons_succ], hSn, by rw [g9]; exact hP9, by rw [g13]; exact hP13, by rw [g14]; exact hP14, by rw [g15, g17]; exact hP15, fun _ => rfl, by rw [g17]; exact fun e => absurd (e.symm.trans gn17) (by decide), by rw [g15]; exact hN⟩
    · have g9 : (L'.setIfInBounds 17 true).getD 9 false = L'.getD 9 false := by rw [up_set, if_neg (by omega)]
      have g13 : (L'.setIfInBounds 17 true).getD 13 false = L'.getD 13 false := by rw [up_set, if_neg (by omega)]
      have g14 : (L'.setIfInBounds 17 true).getD 14 false = L'.getD 14 false := by rw [up_set, if_neg (by omega)]
      have g15 : (L'.setIfInBounds 17 true).getD 15 false = L'.getD 15 false := by rw [up_set, if_neg (by omega)]
      have g16 : (L'.setIfInBounds 17 true).getD 16 false = L'.getD 16 false := by rw [up_set, if_neg (by omega)]
      have g17 : (L'.setIfInBounds 17 true).getD 17 false = true := by rw [up_set, if_pos ⟨rfl, by omega⟩]
      have hD9 := hP9 gd9
      have hD13 := hP13 gd13
      have hD15 := hP15 gd15 gn17
      have hD16 := hP16 gd16
      subst hD13
      subst hD16
      have hSn : True := trivial
      refine par_op ⟨none, _, _, _, _, _⟩ rfl (by rfl) (wp_store_mid 39 (.tmp 76) (.tmp 74) (by rfl) g (q * 9) x.cells (by rfl) (by rfl) (by rw [hD15]; exact ht2) (by kernel_rfl) (req_all _) ?_)
      exact ⟨hSn, (u70), (x.val), (u75), (.pointer (some ⟨g, q * 9, none⟩)), by simp only [Act.put], hSn, by rw [g9]; exact hP9, by rw [g13]; exact hP13, by rw [g14]; exact hP14, by rw [g17]; exact fun _ e => absurd e (by decide), by rw [g16]; exact hP16, fun _ => by rw [hD15], by rw [g15]; exact fun e => absurd (gd15.symm.trans e) (by decide)⟩
  · intro L' a w hp hI
    obtain ⟨u70, u74, u75, u76, rfl, hSw, hP9, hP13, hP14, hP15, hP16, hP17, hN⟩ := hI
    (try simp only [Bool.and_eq_true] at hp)
    have p17 := hp
    obtain hfin := hP17 p17
    exact HQ.out _ _ _ _ w hfin
  · refine par_take ⟨some 61, _, _, _, _, _⟩ (.slice (some ⟨g, 0, none⟩) n c) rfl (by rfl) ?_ ?_
    · intro w hSw; go_simp
    simp only [Act.put, List.setIfInBounds_toArray, List.set_cons_zero, List.set_cons_succ]
    refine par_take ⟨some 62, _, _, _, _, _⟩ (.int .i64 (p : Int)) rfl (by rfl) ?_ ?_
    · intro w hSw; go_simp
    simp only [Act.put, List.setIfInBounds_toArray, List.set_cons_zero, List.set_cons_succ]
    refine par_take ⟨some 63, _, _, _, _, _⟩ (.slice (some ⟨g, 0, none⟩) n c) rfl (by rfl) ?_ ?_
    · intro w hSw; go_simp
    simp only [Act.put, List.setIfInBounds_toArray, List.set_cons_zero, List.set_cons_succ]
    refine par_take ⟨some 64, _, _, _, _, _⟩ (.int .i64 (p : Int)) rfl (by rfl) ?_ ?_
    · intro w hSw; go_simp
    simp only [Act.put, List.setIfInBounds_toArray, List.set_cons_zero, List.set_cons_succ]
    refine par_take ⟨some 65, _, _, _, _, _⟩ (.int .i64 (q : Int)) rfl (by rfl) ?_ ?_
    · intro w hSw; go_simp
    simp only [Act.put, List.setIfInBounds_toArray, List.set_cons_zero, List.set_cons_succ]
    refine par_take ⟨some 66, _, _, _, _, _⟩ (.slice (some ⟨g, 0, none⟩) n c) rfl (by rfl) ?_ ?_
    · intro w hSw; go_simp
    simp only [Act.put, List.setIfInBounds_toArray, List.set_cons_zero, List.set_cons_succ]
    refine par_take ⟨some 67, _, _, _, _, _⟩ (.int .i64 (p : Int)) rfl (by rfl) ?_ ?_
    · intro w hSw; go_simp
    simp only [Act.put, List.setIfInBounds_toArray, List.set_cons_zero, List.set_cons_succ]
    refine par_take ⟨some 68, _, _, _, _, _⟩ (.int .i64 (q : Int)) rfl (by rfl) ?_ ?_
    · intro w hSw; go_simp
    simp only [Act.put, List.setIfInBounds_toArray, List.set_cons_zero, List.set_cons_succ]
    refine par_take ⟨some 69, _, _, _, _, _⟩ (.pointer (some ⟨g, q * 9, none⟩)) rfl (by rfl) ?_ ?_
    · intro w hSw; go_simp
    simp only [Act.put, List.setIfInBounds_toArray, List.set_cons_zero, List.set_cons_succ]
    refine par_take ⟨some 71, _, _, _, _, _⟩ (.slice (some ⟨g, 0, none⟩) n c) rfl (by rfl) ?_ ?_
    · intro w hSw; go_simp
    simp only [Act.put, List.setIfInBounds_toArray, List.set_cons_zero, List.set_cons_succ]
    refine par_take ⟨some 72, _, _, _, _, _⟩ (.int .i64 (p : Int)) rfl (by rfl) ?_ ?_
    · intro w hSw; go_simp
    simp only [Act.put, List.setIfInBounds_toArray, List.set_cons_zero, List.set_cons_succ]
    refine par_take ⟨some 73, _, _, _, _, _⟩ (.pointer (some ⟨g, p * 9, none⟩)) rfl (by rfl) ?_ ?_
    · intro w hSw; go_simp
    simp only [Act.put, List.setIfInBounds_toArray, List.set_cons_zero, List.set_cons_succ]
    exact ⟨_, _, _, _, rfl, trivial, (fun e => absurd e (by decide +kernel)), (fun e => absurd e (by decide +kernel)), (fun e => absurd e (by decide +kernel)), (fun e => absurd e (by decide +kernel)), (fun e => absurd e (by decide +kernel)), (fun e => absurd e (by decide +kernel)), (fun _ => by first | rfl | trivial)⟩

set_option maxHeartbeats 16000000 in
set_option maxRecDepth 100000 in
theorem sx_down {s1 s2 s3 s4 s5 s6 s7 s8 s9 s10 s11 s12 s13 s14 s15 s16 s18 s19 s20 s21 s22 s23 s24 s25 s26 s27 s28 s29 s30 s31 s32 s33 s34 s35 s36 s37 s38 s39 s40 s41 s42 s43 s44 s45 s46 s47 s48 s49 s50 s51 s52 s53 s54 s55 s56 s57 s58 s59 s60 s61 s62 s63 s64 s65 s66 s67 s68 s69 s70 s71 s72 s73 s74 s75 s76 s77 s78 s79 s80 s81 s82 s83 s84 s85 s86 s87 s88 s89 s90 s91 s92 s93 s94 s95 s96 s97 s98 s99 s100 s101 s102 s103 s104 s105 s106 s107 s108 s109 s110 s111 s112 s113 s114 s115 s116 s117 s118 s119 s120 s121 s122 s123 s124 s125 s126 s127 s128 s129 s130 s131 s132 s133 s134 s135 s136 s137 s138 s139 s140 s141 s142 s143 s144 s145 s146 s147 s148 s149 s150 s151 s152 s153 s154 s155 s156 s157 s158 s159 s160 s161 s162 s163 s164 s165 s166 s167 s168 s169 s170 s171 s172 s173 s174 s175 s176 s177 s178 s179 s180 s181 s182 s183 s184 s185 s186 s187 s188 s189 s190 s191 s192 s193 s194 s195 s196 s197 s198 s199 s200 s201 s202 s203 s204 s205 s206 s207 s208 s209 s210 s211 s212 s213 s214 s215 s216 s217 s218 s219 : Value} (g n c p q : Nat) (x y : Req) (W : World) (Q : Exit → Act → World → Prop) (hyr : W.drew.rangeAt g (q * 9) y.cells.toList) (hxr : W.drew.rangeAt g (p * 9) x.cells.toList) (ht1 : W.drew.there g (p * 9) 9) (ht2 : (W.drew.setCells g (p * 9) y.cells.toList).there g (q * 9) 9) (hp : (p : Int) < (n : Int)) (hq : (q : Int) < (n : Int)) (hwq : IntKind.i64.wrap ((p : Int) - 1) = (q : Int))
    (hQ : ∀ (u122 u126 u127 u128 : Value)  (wx : World), wx = (W.drew.setCells g (p * 9) y.cells.toList).setCells g (q * 9) x.cells.toList → Q .normal ⟨List.toArray (.slice (some ⟨g, 0, none⟩) n c :: s1 :: s2 :: s3 :: s4 :: s5 :: s6 :: s7 :: s8 :: s9 :: s10 :: s11 :: s12 :: s13 :: s14 :: s15 :: s16 :: .int .i64 (p : Int) :: s18 :: s19 :: s20 :: s21 :: s22 :: s23 :: s24 :: s25 :: s26 :: s27 :: s28 :: s29 :: s30 :: s31 :: s32 :: s33 :: s34 :: s35 :: s36 :: s37 :: s38 :: s39 :: s40 :: s41 :: s42 :: s43 :: s44 :: s45 :: s46 :: s47 :: s48 :: s49 :: s50 :: s51 :: s52 :: s53 :: s54 :: s55 :: s56 :: s57 :: s58 :: s59 :: s60 :: s61 :: s62 :: s63 :: s64 :: s65 :: s66 :: s67 :: s68 :: s69 :: s70 :: s71 :: s72 :: s73 :: s74 :: s75 :: s76 :: s77 :: s78 :: s79 :: s80 :: s81 :: s82 :: s83 :: s84 :: s85 :: s86 :: s87 :: s88 :: s89 :: s90 :: s91 :: s92 :: s93 :: s94 :: s95 :: s96 :: s97 :: s98 :: s99 :: s100 :: s101 :: s102 :: s103 :: s104 :: s105 :: s106 :: s107 :: s108 :: s109 :: s110 :: s111 :: s112 :: .slice (some ⟨g, 0, none⟩) n c :: .int .i64 (p : Int) :: .slice (some ⟨g, 0, none⟩) n c :: .int .i64 (p : Int) :: .int .i64 (q : Int) :: .slice (some ⟨g, 0, none⟩) n c :: .int .i64 (p : Int) :: .int .i64 (q : Int) :: .pointer (some ⟨g, q * 9, none⟩) :: u122 :: .slice (some ⟨g, 0, none⟩) n c :: .int .i64 (p : Int) :: .pointer (some ⟨g, p * 9, none⟩) :: u126 :: u127 :: u128 :: s129 :: s130 :: s131 :: s132 :: s133 :: s134 :: s135 :: s136 :: s137 :: s138 :: s139 :: s140 :: s141 :: s142 :: s143 :: s144 :: s145 :: s146 :: s147 :: s148 :: s149 :: s150 :: s151 :: s152 :: s153 :: s154 :: s155 :: s156 :: s157 :: s158 :: s159 :: s160 :: s161 :: s162 :: s163 :: s164 :: s165 :: s166 :: s167 :: s168 :: s169 :: s170 :: s171 :: s172 :: s173 :: s174 :: s175 :: s176 :: s177 :: s178 :: s179 :: s180 :: s181 :: s182 :: s183 :: s184 :: s185 :: s186 :: s187 :: s188 :: s189 :: s190 :: s191 :: s192 :: s193 :: s194 :: s195 :: s196 :: s197 :: s198 :: s199 :: s200 :: s201 :: s202 :: s203 :: s204 :: s205 :: s206 :: s207 :: s208 :: s209 :: s210 :: s211 :: s212 :: s213 :: s214 :: s215 :: s216 :: s217 :: s218 :: s219 :: []), []⟩ wx) :
    (regionOf Tryz.f66 23).wp Tryz.prog Q ⟨List.toArray (.slice (some ⟨g, 0, none⟩) n c :: s1 :: s2 :: s3 :: s4 :: s5 :: s6 :: s7 :: s8 :: s9 :: s10 :: s11 :: s12 :: s13 :: s14 :: s15 :: s16 :: .int .i64 (p : Int) :: s18 :: s19 :: s20 :: s21 :: s22 :: s23 :: s24 :: s25 :: s26 :: s27 :: s28 :: s29 :: s30 :: s31 :: s32 :: s33 :: s34 :: s35 :: s36 :: s37 :: s38 :: s39 :: s40 :: s41 :: s42 :: s43 :: s44 :: s45 :: s46 :: s47 :: s48 :: s49 :: s50 :: s51 :: s52 :: s53 :: s54 :: s55 :: s56 :: s57 :: s58 :: s59 :: s60 :: s61 :: s62 :: s63 :: s64 :: s65 :: s66 :: s67 :: s68 :: s69 :: s70 :: s71 :: s72 :: s73 :: s74 :: s75 :: s76 :: s77 :: s78 :: s79 :: s80 :: s81 :: s82 :: s83 :: s84 :: s85 :: s86 :: s87 :: s88 :: s89 :: s90 :: s91 :: s92 :: s93 :: s94 :: s95 :: s96 :: s97 :: s98 :: s99 :: s100 :: s101 :: s102 :: s103 :: s104 :: s105 :: s106 :: s107 :: s108 :: s109 :: s110 :: s111 :: s112 :: s113 :: s114 :: s115 :: s116 :: s117 :: s118 :: s119 :: s120 :: s121 :: s122 :: s123 :: s124 :: s125 :: s126 :: s127 :: s128 :: s129 :: s130 :: s131 :: s132 :: s133 :: s134 :: s135 :: s136 :: s137 :: s138 :: s139 :: s140 :: s141 :: s142 :: s143 :: s144 :: s145 :: s146 :: s147 :: s148 :: s149 :: s150 :: s151 :: s152 :: s153 :: s154 :: s155 :: s156 :: s157 :: s158 :: s159 :: s160 :: s161 :: s162 :: s163 :: s164 :: s165 :: s166 :: s167 :: s168 :: s169 :: s170 :: s171 :: s172 :: s173 :: s174 :: s175 :: s176 :: s177 :: s178 :: s179 :: s180 :: s181 :: s182 :: s183 :: s184 :: s185 :: s186 :: s187 :: s188 :: s189 :: s190 :: s191 :: s192 :: s193 :: s194 :: s195 :: s196 :: s197 :: s198 :: s199 :: s200 :: s201 :: s202 :: s203 :: s204 :: s205 :: s206 :: s207 :: s208 :: s209 :: s210 :: s211 :: s212 :: s213 :: s214 :: s215 :: s216 :: s217 :: s218 :: s219 :: []), []⟩ W := by
  refine of_onlyN (K := Q .normal) ?_ (fun _ _ h => h)
  generalize Q .normal = K at hQ ⊢
  have HQ := Lib.hid hQ; clear hQ
  conv => arg 2; whnf
  refine wp_region_par (S := fun w => True) (I := fun L' a w => ∃ u122 u126 u127 u128 : Value, a = ⟨List.toArray (.slice (some ⟨g, 0, none⟩) n c :: s1 :: s2 :: s3 :: s4 :: s5 :: s6 :: s7 :: s8 :: s9 :: s10 :: s11 :: s12 :: s13 :: s14 :: s15 :: s16 :: .int .i64 (p : Int) :: s18 :: s19 :: s20 :: s21 :: s22 :: s23 :: s24 :: s25 :: s26 :: s27 :: s28 :: s29 :: s30 :: s31 :: s32 :: s33 :: s34 :: s35 :: s36 :: s37 :: s38 :: s39 :: s40 :: s41 :: s42 :: s43 :: s44 :: s45 :: s46 :: s47 :: s48 :: s49 :: s50 :: s51 :: s52 :: s53 :: s54 :: s55 :: s56 :: s57 :: s58 :: s59 :: s60 :: s61 :: s62 :: s63 :: s64 :: s65 :: s66 :: s67 :: s68 :: s69 :: s70 :: s71 :: s72 :: s73 :: s74 :: s75 :: s76 :: s77 :: s78 :: s79 :: s80 :: s81 :: s82 :: s83 :: s84 :: s85 :: s86 :: s87 :: s88 :: s89 :: s90 :: s91 :: s92 :: s93 :: s94 :: s95 :: s96 :: s97 :: s98 :: s99 :: s100 :: s101 :: s102 :: s103 :: s104 :: s105 :: s106 :: s107 :: s108 :: s109 :: s110 :: s111 :: s112 :: .slice (some ⟨g, 0, none⟩) n c :: .int .i64 (p : Int) :: .slice (some ⟨g, 0, none⟩) n c :: .int .i64 (p : Int) :: .int .i64 (q : Int) :: .slice (some ⟨g, 0, none⟩) n c :: .int .i64 (p : Int) :: .int .i64 (q : Int) :: .pointer (some ⟨g, q * 9, none⟩) :: u122 :: .slice (some ⟨g, 0, none⟩) n c :: .int .i64 (p : Int) :: .pointer (some ⟨g, p * 9, none⟩) :: u126 :: u127 :: u128 :: s129 :: s130 :: s131 :: s132 :: s133 :: s134 :: s135 :: s136 :: s137 :: s138 :: s139 :: s140 :: s141 :: s142 :: s143 :: s144 :: s145 :: s146 :: s147 :: s148 :: s149 :: s150 :: s151 :: s152 :: s153 :: s154 :: s155 :: s156 :: s157 :: s158 :: s159 :: s160 :: s161 :: s162 :: s163 :: s164 :: s165 :: s166 :: s167 :: s168 :: s169 :: s170 :: s171 :: s172 :: s173 :: s174 :: s175 :: s176 :: s177 :: s178 :: s179 :: s180 :: s181 :: s182 :: s183 :: s184 :: s185 :: s186 :: s187 :: s188 :: s189 :: s190 :: s191 :: s192 :: s193 :: s194 :: s195 :: s196 :: s197 :: s198 :: s199 :: s200 :: s201 :: s202 :: s203 :: s204 :: s205 :: s206 :: s207 :: s208 :: s209 :: s210 :: s211 :: s212 :: s213 :: s214 :: s215 :: s216 :: s217 :: s218 :: s219 :: []), []⟩ ∧ (True) ∧ (L'.getD 9 false = true → u122 = y.val) ∧ (L'.getD 13 false = true → u126 = x.val) ∧ (L'.getD 14 false = true → u127 = .pointer (some ⟨g, p * 9, none⟩)) ∧ (L'.getD 15 false = true → L'.getD 17 false = false → w = W.drew.setCells g (p * 9) y.cells.toList) ∧ (L'.getD 16 false = true → u128 = .pointer (some ⟨g, q * 9, none⟩)) ∧ (L'.getD 17 false = true → w = (W.drew.setCells g (p * 9) y.cells.toList).setCells g (q * 9) x.cells.toList) ∧ (L'.getD 15 false = false → w = W.drew)) (pre := fun i L' => L'.size == 18 && ((i == 9 && !L'.getD 9 false && !L'.getD 15 false && !L'.getD 17 false) || (i == 13 && !L'.getD 13 false && !L'.getD 15 false && !L'.getD 17 false) || (i == 14 && L'.getD 9 false && L'.getD 13 false && !L'.getD 14 false && !L'.getD 15 false && !L'.getD 17 false) || (i == 15 && L'.getD 9 false && L'.getD 13 false && L'.getD 14 false && !L'.getD 15 false && !L'.getD 17 false) || (i == 16 && L'.getD 15 false && !L'.getD 16 false && !L'.getD 17 false) || (i == 17 && L'.getD 9 false && L'.getD 13 false && L'.getD 15 false && L'.getD 16 false && !L'.getD 17 false))) (fin := fun L' => L'.getD 17 false) [0, 1, 2, 3, 4, 5, 6, 7, 8, 10, 11, 12] 6 (by kernel_rfl) (by kernel_rfl) (by kernel_rfl) (by kernel_rfl) (by decide) trivial ?_ ?_ ?_
  · intro i L' a w hp hI
    obtain ⟨u122, u126, u127, u128, rfl, hSw, hP9, hP13, hP14, hP15, hP16, hP17, hN⟩ := hI
    simp only [Bool.and_eq_true, Bool.or_eq_true, beq_iff_eq, Bool.not_eq_true'] at hp
    obtain ⟨hsz, hp⟩ := hp
    rcases hp with (((((⟨⟨⟨rfl, gn9⟩, gn15⟩, gn17⟩ | ⟨⟨⟨rfl, gn13⟩, gn15⟩, gn17⟩) | ⟨⟨⟨⟨⟨rfl, gd9⟩, gd13⟩, gn14⟩, gn15⟩, gn17⟩) | ⟨⟨⟨⟨⟨rfl, gd9⟩, gd13⟩, gd14⟩, gn15⟩, gn17⟩) | ⟨⟨⟨rfl, gd15⟩, gn16⟩, gn17⟩) | ⟨⟨⟨⟨⟨rfl, gd9⟩, gd13⟩, gd15⟩, gd16⟩, gn17⟩)
    · have g9 : (L'.setIfInBounds 9 true).getD 9 false = true := by rw [up_set, if_pos ⟨rfl, by omega⟩]
      have g13 : (L'.setIfInBounds 9 true).getD 13 false = L'.getD 13 false := by rw [up_set, if_neg (by omega)]
      have g14 : (L'.setIfInBounds 9 true).getD 14 false = L'.getD 14 false := by rw [up_set, if_neg (by omega)]
      have g15 : (L'.setIfInBounds 9 true).getD 15 false = L'.getD 15 false := by rw [up_set, if_neg (by omega)]
      have g16 : (L'.setIfInBounds 9 true).getD 16 false = L'.getD 16 false := by rw [up_set, if_neg (by omega)]
      have g17 : (L'.setIfInBounds 9 true).getD 17 false = L'.getD 17 false := by rw [up_set, if_neg (by omega)]
      have hSn := hSw
      refine par_run ⟨some 122, _, _, _, _, _⟩ (y).val w rfl (by rfl) (run_load_req _ (.tmp 121) (by rfl) w g _ _ (by rw [hN gn15]; exact hyr) (by rfl)) ?_
      exact ⟨hSn, (y.val), (u126), (u127), (u128), by simp only [Act.put, List.setIfInBounds_toArray, List.set_cons_zero, List.set_cons_succ], hSn, fun _ => rfl, by rw [g13]; exact hP13, by rw [g14]; exact hP14, by rw [g15, g17]; exact fun e e2 => absurd (e.symm.trans gn15) (by decide), by rw [g16]; exact hP16, by rw [g17]; exact fun e => absurd (e.symm.trans gn17) (by decide), by rw [g15]; exact hN⟩
    · have g9 : (L'.setIfInBounds 13 true).getD 9 false = L'.getD 9 false := by rw [up_set, if_neg (by omega)]
      have g13 : (L'.setIfInBounds 13 true).getD 13 false = true := by rw [up_set, if_pos ⟨rfl, by omega⟩]
      have g14 : (L'.setIfInBounds 13 true).getD 14 false = L'.getD 14 false := by rw [up_set, if_neg (by omega)]
      have g15 : (L'.setIfInBounds 13 true).getD 15 false = L'.getD 15 false := by rw [up_set, if_neg (by omega)]
      have g16 : (L'.setIfInBounds 13 true).getD 16 false = L'.getD 16 false := by rw [up_set, if_neg (by omega)]
      have g17 : (L'.setIfInBounds 13 true).getD 17 false = L'.getD 17 false := by rw [up_set, if_neg (by omega)]
      have hSn := hSw
      refine par_run ⟨some 126, _, _, _, _, _⟩ (x).val w rfl (by rfl) (run_load_req _ (.tmp 125) (by rfl) w g _ _ (by rw [hN gn15]; exact hxr) (by rfl)) ?_
      exact ⟨hSn, (u122), (x.val), (u127), (u128), by simp only [Act.put, List.setIfInBounds_toArray, List.set_cons_zero, List.set_cons_succ], hSn, by rw [g9]; exact hP9, fun _ => rfl, by rw [g14]; exact hP14, by rw [g15, g17]; exact fun e e2 => absurd (e.symm.trans gn15) (by decide), by rw [g16]; exact hP16, by rw [g17]; exact fun e => absurd (e.symm.trans gn17) (by decide), by rw [g15]; exact hN⟩
    · have g9 : (L'.setIfInBounds 14 true).getD 9 false = L'.getD 9 false := by rw [up_set, if_neg (by omega)]
      have g13 : (L'.setIfInBounds 14 true).getD 13 false = L'.getD 13 false := by rw [up_set, if_neg (by omega)]
      have g14 : (L'.setIfInBounds 14 true).getD 14 false = true := by rw [up_set, if_pos ⟨rfl, by omega⟩]
      have g15 : (L'.setIfInBounds 14 true).getD 15 false = L'.getD 15 false := by rw [up_set, if_neg (by omega)]
      have g16 : (L'.setIfInBounds 14 true).getD 16 false = L'.getD 16 false := by rw [up_set, if_neg (by omega)]
      have g17 : (L'.setIfInBounds 14 true).getD 17 false = L'.getD 17 false := by rw [up_set, if_neg (by omega)]
      have hD9 := hP9 gd9
      have hD13 := hP13 gd13
      have hSn := hSw
      refine par_run ⟨some 127, _, _, _, _, _⟩ (.pointer (some ⟨g, p * 9, none⟩)) w rfl (by rfl) (by go_simp) ?_
      exact ⟨hSn, (u122), (u126), (.pointer (some ⟨g, p * 9, none⟩)), (u128), by simp only [Act.put, List.setIfInBounds_toArray, List.set_cons_zero, List.set_cons_succ], hSn, by rw [g9]; exact hP9, by rw [g13]; exact hP13, fun _ => rfl, by rw [g15, g17]; exact fun e e2 => absurd (e.symm.trans gn15) (by decide), by rw [g16]; exact hP16, by rw [g17]; exact fun e => absurd (e.symm.trans gn17) (by decide), by rw [g15]; exact hN⟩
    · have g9 : (L'.setIfInBounds 15 true).getD 9 false = L'.getD 9 false := by rw [up_set, if_neg (by omega)]
      have g13 : (L'.setIfInBounds 15 true).getD 13 false = L'.getD 13 false := by rw [up_set, if_neg (by omega)]
      have g14 : (L'.setIfInBounds 15 true).getD 14 false = L'.getD 14 false := by rw [up_set, if_neg (by omega)]
      have g15 : (L'.setIfInBounds 15 true).getD 15 false = true := by rw [up_set, if_pos ⟨rfl, by omega⟩]
      have g16 : (L'.setIfInBounds 15 true).getD 16 false = L'.getD 16 false := by rw [up_set, if_neg (by omega)]
      have g17 : (L'.setIfInBounds 15 true).getD 17 false = L'.getD 17 false := by rw [up_set, if_neg (by omega)]
      have hD9 := hP9 gd9
      have hD13 := hP13 gd13
      have hD14 := hP14 gd14
      subst hD9
      subst hD14
      have hSn : True := trivial
      refine par_op ⟨none, _, _, _, _, _⟩ rfl (by rfl) (wp_store_mid 39 (.tmp 127) (.tmp 122) (by rfl) g (p * 9) y.cells (by rfl) (by rfl) (by rw [hN gn15]; exact ht1) (by kernel_rfl) (req_all _) ?_)
      exact ⟨hSn, (y.val), (u126), (.pointer (some ⟨g, p * 9, none⟩)), (u128), by simp only [Act.put], hSn, by rw [g9]; exact hP9, by rw [g13]; exact hP13, by rw [g14]; exact hP14, fun _ _ => by rw [hN gn15], by rw [g16]; exact hP16, by rw [g17]; exact fun e => absurd (e.symm.trans gn17) (by decide), by rw [g15]; exact fun e => absurd e (by decide)⟩
    · have g9 : (L'.setIfInBounds 16 true).getD 9 false = L'.getD 9 false := by rw [up_set, if_neg (by omega)]
      have g13 : (L'.setIfInBounds 16 true).getD 13 false = L'.getD 13 false := by rw [up_set, if_neg (by omega)]
      have g14 : (L'.setIfInBounds 16 true).getD 14 false = L'.getD 14 false := by rw [up_set, if_neg (by omega)]
      have g15 : (L'.setIfInBounds 16 true).getD 15 false = L'.getD 15 false := by rw [up_set, if_neg (by omega)]
      have g16 : (L'.setIfInBounds 16 true).getD 16 false = true := by rw [up_set, if_pos ⟨rfl, by omega⟩]
      have g17 : (L'.setIfInBounds 16 true).getD 17 false = L'.getD 17 false := by rw [up_set, if_neg (by omega)]
      have hD15 := hP15 gd15 gn17
      have hSn := hSw
      refine par_run ⟨some 128, _, _, _, _, _⟩ (.pointer (some ⟨g, q * 9, none⟩)) w rfl (by rfl) (by go_simp) ?_
      exact ⟨hSn, (u122), (u126), (u127), (.pointer (some ⟨g, q * 9, none⟩)), by simp only [Act.put, List.setIfInBounds_toArray, List.set_cons_zero, List.set_cons_succ], hSn, by rw [g9]; exact hP9, by rw [g13]; exact hP13, by rw [g14]; exact hP14, by rw [g15, g17]; exact hP15, fun _ => rfl, by rw [g17]; exact fun e => absurd (e.symm.trans gn17) (by decide), by rw [g15]; exact hN⟩
    · have g9 : (L'.setIfInBounds 17 true).getD 9 false = L'.getD 9 false := by rw [up_set, if_neg (by omega)]
      have g13 : (L'.setIfInBounds 17 true).getD 13 false = L'.getD 13 false := by rw [up_set, if_neg (by omega)]
      have g14 : (L'.setIfInBounds 17 true).getD 14 false = L'.getD 14 false := by rw [up_set, if_neg (by omega)]
      have g15 : (L'.setIfInBounds 17 true).getD 15 false = L'.getD 15 false := by rw [up_set, if_neg (by omega)]
      have g16 : (L'.setIfInBounds 17 true).getD 16 false = L'.getD 16 false := by rw [up_set, if_neg (by omega)]
      have g17 : (L'.setIfInBounds 17 true).getD 17 false = true := by rw [up_set, if_pos ⟨rfl, by omega⟩]
      have hD9 := hP9 gd9
      have hD13 := hP13 gd13
      have hD15 := hP15 gd15 gn17
      have hD16 := hP16 gd16
      subst hD13
      subst hD16
      have hSn : True := trivial
      refine par_op ⟨none, _, _, _, _, _⟩ rfl (by rfl) (wp_store_mid 39 (.tmp 128) (.tmp 126) (by rfl) g (q * 9) x.cells (by rfl) (by rfl) (by rw [hD15]; exact ht2) (by kernel_rfl) (req_all _) ?_)
      exact ⟨hSn, (u122), (x.val), (u127), (.pointer (some ⟨g, q * 9, none⟩)), by simp only [Act.put], hSn, by rw [g9]; exact hP9, by rw [g13]; exact hP13, by rw [g14]; exact hP14, by rw [g17]; exact fun _ e => absurd e (by decide), by rw [g16]; exact hP16, fun _ => by rw [hD15], by rw [g15]; exact fun e => absurd (gd15.symm.trans e) (by decide)⟩
  · intro L' a w hp hI
    obtain ⟨u122, u126, u127, u128, rfl, hSw, hP9, hP13, hP14, hP15, hP16, hP17, hN⟩ := hI
    (try simp only [Bool.and_eq_true] at hp)
    have p17 := hp
    obtain hfin := hP17 p17
    exact HQ.out _ _ _ _ w hfin
  · refine par_take ⟨some 113, _, _, _, _, _⟩ (.slice (some ⟨g, 0, none⟩) n c) rfl (by rfl) ?_ ?_
    · intro w hSw; go_simp
    simp only [Act.put, List.setIfInBounds_toArray, List.set_cons_zero, List.set_cons_succ]
    refine par_take ⟨some 114, _, _, _, _, _⟩ (.int .i64 (p : Int)) rfl (by rfl) ?_ ?_
    · intro w hSw; go_simp
    simp only [Act.put, List.setIfInBounds_toArray, List.set_cons_zero, List.set_cons_succ]
    refine par_take ⟨some 115, _, _, _, _, _⟩ (.slice (some ⟨g, 0, none⟩) n c) rfl (by rfl) ?_ ?_
    · intro w hSw; go_simp
    simp only [Act.put, List.setIfInBounds_toArray, List.set_cons_zero, List.set_cons_succ]
    refine par_take ⟨some 116, _, _, _, _, _⟩ (.int .i64 (p : Int)) rfl (by rfl) ?_ ?_
    · intro w hSw; go_simp
    simp only [Act.put, List.setIfInBounds_toArray, List.set_cons_zero, List.set_cons_succ]
    refine par_take ⟨some 117, _, _, _, _, _⟩ (.int .i64 (q : Int)) rfl (by rfl) ?_ ?_
    · intro w hSw; go_simp
    simp only [Act.put, List.setIfInBounds_toArray, List.set_cons_zero, List.set_cons_succ]
    refine par_take ⟨some 118, _, _, _, _, _⟩ (.slice (some ⟨g, 0, none⟩) n c) rfl (by rfl) ?_ ?_
    · intro w hSw; go_simp
    simp only [Act.put, List.setIfInBounds_toArray, List.set_cons_zero, List.set_cons_succ]
    refine par_take ⟨some 119, _, _, _, _, _⟩ (.int .i64 (p : Int)) rfl (by rfl) ?_ ?_
    · intro w hSw; go_simp
    simp only [Act.put, List.setIfInBounds_toArray, List.set_cons_zero, List.set_cons_succ]
    refine par_take ⟨some 120, _, _, _, _, _⟩ (.int .i64 (q : Int)) rfl (by rfl) ?_ ?_
    · intro w hSw; go_simp
    simp only [Act.put, List.setIfInBounds_toArray, List.set_cons_zero, List.set_cons_succ]
    refine par_take ⟨some 121, _, _, _, _, _⟩ (.pointer (some ⟨g, q * 9, none⟩)) rfl (by rfl) ?_ ?_
    · intro w hSw; go_simp
    simp only [Act.put, List.setIfInBounds_toArray, List.set_cons_zero, List.set_cons_succ]
    refine par_take ⟨some 123, _, _, _, _, _⟩ (.slice (some ⟨g, 0, none⟩) n c) rfl (by rfl) ?_ ?_
    · intro w hSw; go_simp
    simp only [Act.put, List.setIfInBounds_toArray, List.set_cons_zero, List.set_cons_succ]
    refine par_take ⟨some 124, _, _, _, _, _⟩ (.int .i64 (p : Int)) rfl (by rfl) ?_ ?_
    · intro w hSw; go_simp
    simp only [Act.put, List.setIfInBounds_toArray, List.set_cons_zero, List.set_cons_succ]
    refine par_take ⟨some 125, _, _, _, _, _⟩ (.pointer (some ⟨g, p * 9, none⟩)) rfl (by rfl) ?_ ?_
    · intro w hSw; go_simp
    simp only [Act.put, List.setIfInBounds_toArray, List.set_cons_zero, List.set_cons_succ]
    exact ⟨_, _, _, _, rfl, trivial, (fun e => absurd e (by decide +kernel)), (fun e => absurd e (by decide +kernel)), (fun e => absurd e (by decide +kernel)), (fun e => absurd e (by decide +kernel)), (fun e => absurd e (by decide +kernel)), (fun e => absurd e (by decide +kernel)), (fun _ => by first | rfl | trivial)⟩

set_option maxHeartbeats 4000000 in
set_option maxRecDepth 100000 in
theorem sx_t5 {s2 s3 s5 s6 s7 s8 s9 s10 s11 s13 s14 s15 s16 s17 s18 s19 s20 s21 s22 s23 s24 s25 s26 s27 s28 s29 s30 s31 s32 s33 s34 s35 s36 s37 s38 s39 s40 s41 s42 s43 s44 s45 s46 s47 s48 s49 s50 s51 s52 s53 s54 s55 s56 s57 s58 s59 s60 s61 s62 s63 s64 s65 s66 s67 s68 s69 s70 s71 s72 s73 s74 s75 s76 s77 s78 s79 s80 s81 s82 s83 s84 s85 s86 s87 s88 s89 s90 s91 s92 s93 s94 s95 s96 s97 s98 s99 s100 s101 s102 s103 s104 s105 s106 s107 s108 s109 s110 s111 s112 s113 s114 s115 s116 s117 s118 s119 s120 s121 s122 s123 s124 s125 s126 s127 s128 s129 s130 s131 s132 s133 s134 s135 s136 s137 s138 s139 s140 s141 s142 s143 s144 s145 s146 s147 s148 s149 s150 s151 s152 s153 s154 s155 s156 s157 s158 s159 s160 s161 s162 s163 s164 s165 s166 s167 s168 s169 s170 s171 s172 s173 s174 s175 s176 s177 s178 s179 s180 s181 s182 s183 s184 s185 s186 s187 s188 s189 s190 s191 s192 s193 s194 s195 s196 s197 s198 s199 s200 s201 s202 s203 s204 s205 s206 s207 s208 s209 s210 s211 s212 s213 s214 s215 s216 s217 s218 s219 : Value} (W0 : World) (d0 : Array Req) (X : List Req) (g n c p q : Nat) (x y : Req) (W : World) (Q : Exit → Act → World → Prop) (hH : HoldsK encR 9 W0 g 0 d0) (hblk : g < W0.heap.size) (hR : Row W0 g X W) (hd : X.length = d0.size) (hn : X.length = n) (hx : X[p]? = some x) (hy : X[q]? = some y) (hp : (p : Int) < (n : Int)) (hq : (q : Int) < (n : Int))
    (hQ : ∀ (u40 u41 u42 u43 u44 u45 u46 u47 u48 u49 : Value) (wx : World), Row W0 g X wx → Q .normal ⟨List.toArray (.slice (some ⟨g, 0, none⟩) n c :: .int .i64 (q : Int) :: s2 :: s3 :: .func (.func 22) #[] #[] :: s5 :: s6 :: s7 :: s8 :: s9 :: s10 :: s11 :: .int .i64 (p : Int) :: s13 :: s14 :: s15 :: s16 :: s17 :: s18 :: s19 :: s20 :: s21 :: s22 :: s23 :: s24 :: s25 :: s26 :: s27 :: s28 :: s29 :: s30 :: s31 :: s32 :: s33 :: s34 :: s35 :: s36 :: s37 :: s38 :: s39 :: u40 :: u41 :: u42 :: u43 :: u44 :: u45 :: u46 :: u47 :: u48 :: u49 :: .bool (decide (cmpB x y < 0)) :: s51 :: s52 :: s53 :: s54 :: s55 :: s56 :: s57 :: s58 :: s59 :: s60 :: s61 :: s62 :: s63 :: s64 :: s65 :: s66 :: s67 :: s68 :: s69 :: s70 :: s71 :: s72 :: s73 :: s74 :: s75 :: s76 :: s77 :: s78 :: s79 :: s80 :: s81 :: s82 :: s83 :: s84 :: s85 :: s86 :: s87 :: s88 :: s89 :: s90 :: s91 :: s92 :: s93 :: s94 :: s95 :: s96 :: s97 :: s98 :: s99 :: s100 :: s101 :: s102 :: s103 :: s104 :: s105 :: s106 :: s107 :: s108 :: s109 :: s110 :: s111 :: s112 :: s113 :: s114 :: s115 :: s116 :: s117 :: s118 :: s119 :: s120 :: s121 :: s122 :: s123 :: s124 :: s125 :: s126 :: s127 :: s128 :: s129 :: s130 :: s131 :: s132 :: s133 :: s134 :: s135 :: s136 :: s137 :: s138 :: s139 :: s140 :: s141 :: s142 :: s143 :: s144 :: s145 :: s146 :: s147 :: s148 :: s149 :: s150 :: s151 :: s152 :: s153 :: s154 :: s155 :: s156 :: s157 :: s158 :: s159 :: s160 :: s161 :: s162 :: s163 :: s164 :: s165 :: s166 :: s167 :: s168 :: s169 :: s170 :: s171 :: s172 :: s173 :: s174 :: s175 :: s176 :: s177 :: s178 :: s179 :: s180 :: s181 :: s182 :: s183 :: s184 :: s185 :: s186 :: s187 :: s188 :: s189 :: s190 :: s191 :: s192 :: s193 :: s194 :: s195 :: s196 :: s197 :: s198 :: s199 :: s200 :: s201 :: s202 :: s203 :: s204 :: s205 :: s206 :: s207 :: s208 :: s209 :: s210 :: s211 :: s212 :: s213 :: s214 :: s215 :: s216 :: s217 :: s218 :: s219 :: []), []⟩ wx) :
    (regionOf Tryz.f66 5).wp Tryz.prog Q ⟨List.toArray (.slice (some ⟨g, 0, none⟩) n c :: .int .i64 (q : Int) :: s2 :: s3 :: .func (.func 22) #[] #[] :: s5 :: s6 :: s7 :: s8 :: s9 :: s10 :: s11 :: .int .i64 (p : Int) :: s13 :: s14 :: s15 :: s16 :: s17 :: s18 :: s19 :: s20 :: s21 :: s22 :: s23 :: s24 :: s25 :: s26 :: s27 :: s28 :: s29 :: s30 :: s31 :: s32 :: s33 :: s34 :: s35 :: s36 :: s37 :: s38 :: s39 :: s40 :: s41 :: s42 :: s43 :: s44 :: s45 :: s46 :: s47 :: s48 :: s49 :: s50 :: s51 :: s52 :: s53 :: s54 :: s55 :: s56 :: s57 :: s58 :: s59 :: s60 :: s61 :: s62 :: s63 :: s64 :: s65 :: s66 :: s67 :: s68 :: s69 :: s70 :: s71 :: s72 :: s73 :: s74 :: s75 :: s76 :: s77 :: s78 :: s79 :: s80 :: s81 :: s82 :: s83 :: s84 :: s85 :: s86 :: s87 :: s88 :: s89 :: s90 :: s91 :: s92 :: s93 :: s94 :: s95 :: s96 :: s97 :: s98 :: s99 :: s100 :: s101 :: s102 :: s103 :: s104 :: s105 :: s106 :: s107 :: s108 :: s109 :: s110 :: s111 :: s112 :: s113 :: s114 :: s115 :: s116 :: s117 :: s118 :: s119 :: s120 :: s121 :: s122 :: s123 :: s124 :: s125 :: s126 :: s127 :: s128 :: s129 :: s130 :: s131 :: s132 :: s133 :: s134 :: s135 :: s136 :: s137 :: s138 :: s139 :: s140 :: s141 :: s142 :: s143 :: s144 :: s145 :: s146 :: s147 :: s148 :: s149 :: s150 :: s151 :: s152 :: s153 :: s154 :: s155 :: s156 :: s157 :: s158 :: s159 :: s160 :: s161 :: s162 :: s163 :: s164 :: s165 :: s166 :: s167 :: s168 :: s169 :: s170 :: s171 :: s172 :: s173 :: s174 :: s175 :: s176 :: s177 :: s178 :: s179 :: s180 :: s181 :: s182 :: s183 :: s184 :: s185 :: s186 :: s187 :: s188 :: s189 :: s190 :: s191 :: s192 :: s193 :: s194 :: s195 :: s196 :: s197 :: s198 :: s199 :: s200 :: s201 :: s202 :: s203 :: s204 :: s205 :: s206 :: s207 :: s208 :: s209 :: s210 :: s211 :: s212 :: s213 :: s214 :: s215 :: s216 :: s217 :: s218 :: s219 :: []), []⟩ W := by
  refine of_onlyN (K := Q .normal) ?_ (fun _ _ h => h)
  generalize Q .normal = K at hQ ⊢
  have HQ := Lib.hid hQ; clear hQ
  conv => arg 2; whnf
  have hS0 : Row W0 g X W.drew := SWK.drewN hR 1
  have hil : X.length = n := hn
  refine of_onlyN ?_ (fun _ _ h => h)
  refine wp_region_flow (S := fun w' => Row W0 g X w') [(0, true), (1, true), (2, true), (3, true), (4, true), (5, true), (6, true), (7, true), (8, true), (9, false), (10, true)] (by kernel_rfl) (by kernel_rfl) (by kernel_rfl) (by decide) (hS0) ?_
  have hS := hS0
  refine flow_take ⟨some 40, _, _, _, _, _⟩ ?_ rfl (by rfl) ?_ ?_
  rotate_left 1
  · intro w hSw; (try dsimp only at hSw); go_simp; (try with_reducible rfl)
  simp only [Act.put, List.setIfInBounds_toArray, List.set_cons_zero, List.set_cons_succ]
  refine flow_take ⟨some 41, _, _, _, _, _⟩ ?_ rfl (by rfl) ?_ ?_
  rotate_left 1
  · intro w hSw; (try dsimp only at hSw); go_simp; (try with_reducible rfl)
  simp only [Act.put, List.setIfInBounds_toArray, List.set_cons_zero, List.set_cons_succ]
  refine flow_take ⟨some 42, _, _, _, _, _⟩ ?_ rfl (by rfl) ?_ ?_
  rotate_left 1
  · intro w hSw; (try dsimp only at hSw); go_simp; (try with_reducible rfl)
  simp only [Act.put, List.setIfInBounds_toArray, List.set_cons_zero, List.set_cons_succ]
  refine flow_take ⟨some 43, _, _, _, _, _⟩ ?_ rfl (by rfl) ?_ ?_
  rotate_left 1
  · intro w hSw; (try dsimp only at hSw); go_simp; (try with_reducible rfl)
  simp only [Act.put, List.setIfInBounds_toArray, List.set_cons_zero, List.set_cons_succ]
  refine flow_take ⟨some 44, _, _, _, _, _⟩ (x).val rfl (by rfl) (fun w hS => run_load_req _ (.tmp 43) (by rfl) w g _ _ (holds_row (Row.at hH hblk hS hd) hx) (by rfl)) ?_
  (try simp only [Act.put, List.setIfInBounds_toArray, List.set_cons_zero, List.set_cons_succ])
  refine flow_take ⟨some 45, _, _, _, _, _⟩ ?_ rfl (by rfl) ?_ ?_
  rotate_left 1
  · intro w hSw; (try dsimp only at hSw); go_simp; (try with_reducible rfl)
  simp only [Act.put, List.setIfInBounds_toArray, List.set_cons_zero, List.set_cons_succ]
  refine flow_take ⟨some 46, _, _, _, _, _⟩ ?_ rfl (by rfl) ?_ ?_
  rotate_left 1
  · intro w hSw; (try dsimp only at hSw); go_simp; (try with_reducible rfl)
  simp only [Act.put, List.setIfInBounds_toArray, List.set_cons_zero, List.set_cons_succ]
  refine flow_take ⟨some 47, _, _, _, _, _⟩ ?_ rfl (by rfl) ?_ ?_
  rotate_left 1
  · intro w hSw; (try dsimp only at hSw); go_simp; (try with_reducible rfl)
  simp only [Act.put, List.setIfInBounds_toArray, List.set_cons_zero, List.set_cons_succ]
  refine flow_take ⟨some 48, _, _, _, _, _⟩ (y).val rfl (by rfl) (fun w hS => run_load_req _ (.tmp 47) (by rfl) w g _ _ (holds_row (Row.at hH hblk hS hd) hy) (by rfl)) ?_
  (try simp only [Act.put, List.setIfInBounds_toArray, List.set_cons_zero, List.set_cons_succ])
  refine flow_call_fn ⟨some 49, _, _, _, _, _⟩ rfl (by rfl) 22 (.tmp 40) _ _ (by rfl) (by rfl) _ (by rfl) Tryz.call22 (compareB_any x y _) ?_; rintro e wn ⟨rfl, hb⟩; replace hS := hS.grows hb; refine ⟨_, rfl, hS, ?_⟩; (try clear hb)
  simp only [Act.put, List.setIfInBounds_toArray, List.set_cons_zero, List.set_cons_succ]
  refine flow_take ⟨some 50, _, _, _, _, _⟩ ?_ rfl (by rfl) ?_ ?_
  rotate_left 1
  · intro w hSw; (try dsimp only at hSw); go_simp; (try with_reducible rfl)
  simp only [Act.put, List.setIfInBounds_toArray, List.set_cons_zero, List.set_cons_succ]
  simp only [wpFlow, OnlyN]
  exact HQ.out _ _ _ _ _ _ _ _ _ _ _ hS

set_option maxHeartbeats 4000000 in
set_option maxRecDepth 100000 in
theorem sx_t17 {s1 s3 s5 s6 s7 s8 s9 s10 s11 s12 s13 s14 s15 s17 s18 s19 s20 s21 s22 s23 s24 s25 s26 s27 s28 s29 s30 s31 s32 s33 s34 s35 s36 s37 s38 s39 s40 s41 s42 s43 s44 s45 s46 s47 s48 s49 s50 s51 s52 s53 s54 s55 s56 s57 s58 s59 s60 s61 s62 s63 s64 s65 s66 s67 s68 s69 s70 s71 s72 s73 s74 s75 s76 s77 s78 s79 s80 s81 s82 s83 s84 s85 s86 s87 s88 s89 s90 s91 s92 s93 s94 s95 s96 s97 s98 s99 s100 s101 s102 s103 s104 s105 s106 s107 s108 s109 s110 s111 s112 s113 s114 s115 s116 s117 s118 s119 s120 s121 s122 s123 s124 s125 s126 s127 s128 s129 s130 s131 s132 s133 s134 s135 s136 s137 s138 s139 s140 s141 s142 s143 s144 s145 s146 s147 s148 s149 s150 s151 s152 s153 s154 s155 s156 s157 s158 s159 s160 s161 s162 s163 s164 s165 s166 s167 s168 s169 s170 s171 s172 s173 s174 s175 s176 s177 s178 s179 s180 s181 s182 s183 s184 s185 s186 s187 s188 s189 s190 s191 s192 s193 s194 s195 s196 s197 s198 s199 s200 s201 s202 s203 s204 s205 s206 s207 s208 s209 s210 s211 s212 s213 s214 s215 s216 s217 s218 s219 : Value} (W0 : World) (d0 : Array Req) (X : List Req) (g n c p q : Nat) (x y : Req) (W : World) (Q : Exit → Act → World → Prop) (hH : HoldsK encR 9 W0 g 0 d0) (hblk : g < W0.heap.size) (hR : Row W0 g X W) (hd : X.length = d0.size) (hn : X.length = n) (hx : X[p]? = some x) (hy : X[q]? = some y) (hp : (p : Int) < (n : Int)) (hq : (q : Int) < (n : Int))
    (hQ : ∀ (u92 u93 u94 u95 u96 u97 u98 u99 u100 u101 u102 : Value) (wx : World), Row W0 g X wx → Q .normal ⟨List.toArray (.slice (some ⟨g, 0, none⟩) n c :: s1 :: .int .i64 (p : Int) :: s3 :: .func (.func 22) #[] #[] :: s5 :: s6 :: s7 :: s8 :: s9 :: s10 :: s11 :: s12 :: s13 :: s14 :: s15 :: .int .i64 (q : Int) :: s17 :: s18 :: s19 :: s20 :: s21 :: s22 :: s23 :: s24 :: s25 :: s26 :: s27 :: s28 :: s29 :: s30 :: s31 :: s32 :: s33 :: s34 :: s35 :: s36 :: s37 :: s38 :: s39 :: s40 :: s41 :: s42 :: s43 :: s44 :: s45 :: s46 :: s47 :: s48 :: s49 :: s50 :: s51 :: s52 :: s53 :: s54 :: s55 :: s56 :: s57 :: s58 :: s59 :: s60 :: s61 :: s62 :: s63 :: s64 :: s65 :: s66 :: s67 :: s68 :: s69 :: s70 :: s71 :: s72 :: s73 :: s74 :: s75 :: s76 :: s77 :: s78 :: s79 :: s80 :: s81 :: s82 :: s83 :: s84 :: s85 :: s86 :: s87 :: s88 :: s89 :: s90 :: s91 :: u92 :: u93 :: u94 :: u95 :: u96 :: u97 :: u98 :: u99 :: u100 :: u101 :: u102 :: .bool (!decide (cmpB x y < 0)) :: s104 :: s105 :: s106 :: s107 :: s108 :: s109 :: s110 :: s111 :: s112 :: s113 :: s114 :: s115 :: s116 :: s117 :: s118 :: s119 :: s120 :: s121 :: s122 :: s123 :: s124 :: s125 :: s126 :: s127 :: s128 :: s129 :: s130 :: s131 :: s132 :: s133 :: s134 :: s135 :: s136 :: s137 :: s138 :: s139 :: s140 :: s141 :: s142 :: s143 :: s144 :: s145 :: s146 :: s147 :: s148 :: s149 :: s150 :: s151 :: s152 :: s153 :: s154 :: s155 :: s156 :: s157 :: s158 :: s159 :: s160 :: s161 :: s162 :: s163 :: s164 :: s165 :: s166 :: s167 :: s168 :: s169 :: s170 :: s171 :: s172 :: s173 :: s174 :: s175 :: s176 :: s177 :: s178 :: s179 :: s180 :: s181 :: s182 :: s183 :: s184 :: s185 :: s186 :: s187 :: s188 :: s189 :: s190 :: s191 :: s192 :: s193 :: s194 :: s195 :: s196 :: s197 :: s198 :: s199 :: s200 :: s201 :: s202 :: s203 :: s204 :: s205 :: s206 :: s207 :: s208 :: s209 :: s210 :: s211 :: s212 :: s213 :: s214 :: s215 :: s216 :: s217 :: s218 :: s219 :: []), []⟩ wx) :
    (regionOf Tryz.f66 17).wp Tryz.prog Q ⟨List.toArray (.slice (some ⟨g, 0, none⟩) n c :: s1 :: .int .i64 (p : Int) :: s3 :: .func (.func 22) #[] #[] :: s5 :: s6 :: s7 :: s8 :: s9 :: s10 :: s11 :: s12 :: s13 :: s14 :: s15 :: .int .i64 (q : Int) :: s17 :: s18 :: s19 :: s20 :: s21 :: s22 :: s23 :: s24 :: s25 :: s26 :: s27 :: s28 :: s29 :: s30 :: s31 :: s32 :: s33 :: s34 :: s35 :: s36 :: s37 :: s38 :: s39 :: s40 :: s41 :: s42 :: s43 :: s44 :: s45 :: s46 :: s47 :: s48 :: s49 :: s50 :: s51 :: s52 :: s53 :: s54 :: s55 :: s56 :: s57 :: s58 :: s59 :: s60 :: s61 :: s62 :: s63 :: s64 :: s65 :: s66 :: s67 :: s68 :: s69 :: s70 :: s71 :: s72 :: s73 :: s74 :: s75 :: s76 :: s77 :: s78 :: s79 :: s80 :: s81 :: s82 :: s83 :: s84 :: s85 :: s86 :: s87 :: s88 :: s89 :: s90 :: s91 :: s92 :: s93 :: s94 :: s95 :: s96 :: s97 :: s98 :: s99 :: s100 :: s101 :: s102 :: s103 :: s104 :: s105 :: s106 :: s107 :: s108 :: s109 :: s110 :: s111 :: s112 :: s113 :: s114 :: s115 :: s116 :: s117 :: s118 :: s119 :: s120 :: s121 :: s122 :: s123 :: s124 :: s125 :: s126 :: s127 :: s128 :: s129 :: s130 :: s131 :: s132 :: s133 :: s134 :: s135 :: s136 :: s137 :: s138 :: s139 :: s140 :: s141 :: s142 :: s143 :: s144 :: s145 :: s146 :: s147 :: s148 :: s149 :: s150 :: s151 :: s152 :: s153 :: s154 :: s155 :: s156 :: s157 :: s158 :: s159 :: s160 :: s161 :: s162 :: s163 :: s164 :: s165 :: s166 :: s167 :: s168 :: s169 :: s170 :: s171 :: s172 :: s173 :: s174 :: s175 :: s176 :: s177 :: s178 :: s179 :: s180 :: s181 :: s182 :: s183 :: s184 :: s185 :: s186 :: s187 :: s188 :: s189 :: s190 :: s191 :: s192 :: s193 :: s194 :: s195 :: s196 :: s197 :: s198 :: s199 :: s200 :: s201 :: s202 :: s203 :: s204 :: s205 :: s206 :: s207 :: s208 :: s209 :: s210 :: s211 :: s212 :: s213 :: s214 :: s215 :: s216 :: s217 :: s218 :: s219 :: []), []⟩ W := by
  refine of_onlyN (K := Q .normal) ?_ (fun _ _ h => h)
  generalize Q .normal = K at hQ ⊢
  have HQ := Lib.hid hQ; clear hQ
  conv => arg 2; whnf
  have hS0 : Row W0 g X W.drew := SWK.drewN hR 1
  have hil : X.length = n := hn
  refine of_onlyN ?_ (fun _ _ h => h)
  refine wp_region_flow (S := fun w' => Row W0 g X w') [(0, true), (1, true), (2, true), (3, true), (4, true), (5, true), (6, true), (7, true), (8, true), (9, false), (10, true), (11, true)] (by kernel_rfl) (by kernel_rfl) (by kernel_rfl) (by decide) (hS0) ?_
  have hS := hS0
  refine flow_take ⟨some 92, _, _, _, _, _⟩ ?_ rfl (by rfl) ?_ ?_
  rotate_left 1
  · intro w hSw; (try dsimp only at hSw); go_simp; (try with_reducible rfl)
  simp only [Act.put, List.setIfInBounds_toArray, List.set_cons_zero, List.set_cons_succ]
  refine flow_take ⟨some 93, _, _, _, _, _⟩ ?_ rfl (by rfl) ?_ ?_
  rotate_left 1
  · intro w hSw; (try dsimp only at hSw); go_simp; (try with_reducible rfl)
  simp only [Act.put, List.setIfInBounds_toArray, List.set_cons_zero, List.set_cons_succ]
  refine flow_take ⟨some 94, _, _, _, _, _⟩ ?_ rfl (by rfl) ?_ ?_
  rotate_left 1
  · intro w hSw; (try dsimp only at hSw); go_simp; (try with_reducible rfl)
  simp only [Act.put, List.setIfInBounds_toArray, List.set_cons_zero, List.set_cons_succ]
  refine flow_take ⟨some 95, _, _, _, _, _⟩ ?_ rfl (by rfl) ?_ ?_
  rotate_left 1
  · intro w hSw; (try dsimp only at hSw); go_simp; (try with_reducible rfl)
  simp only [Act.put, List.setIfInBounds_toArray, List.set_cons_zero, List.set_cons_succ]
  refine flow_take ⟨some 96, _, _, _, _, _⟩ (x).val rfl (by rfl) (fun w hS => run_load_req _ (.tmp 95) (by rfl) w g _ _ (holds_row (Row.at hH hblk hS hd) hx) (by rfl)) ?_
  (try simp only [Act.put, List.setIfInBounds_toArray, List.set_cons_zero, List.set_cons_succ])
  refine flow_take ⟨some 97, _, _, _, _, _⟩ ?_ rfl (by rfl) ?_ ?_
  rotate_left 1
  · intro w hSw; (try dsimp only at hSw); go_simp; (try with_reducible rfl)
  simp only [Act.put, List.setIfInBounds_toArray, List.set_cons_zero, List.set_cons_succ]
  refine flow_take ⟨some 98, _, _, _, _, _⟩ ?_ rfl (by rfl) ?_ ?_
  rotate_left 1
  · intro w hSw; (try dsimp only at hSw); go_simp; (try with_reducible rfl)
  simp only [Act.put, List.setIfInBounds_toArray, List.set_cons_zero, List.set_cons_succ]
  refine flow_take ⟨some 99, _, _, _, _, _⟩ ?_ rfl (by rfl) ?_ ?_
  rotate_left 1
  · intro w hSw; (try dsimp only at hSw); go_simp; (try with_reducible rfl)
  simp only [Act.put, List.setIfInBounds_toArray, List.set_cons_zero, List.set_cons_succ]
  refine flow_take ⟨some 100, _, _, _, _, _⟩ (y).val rfl (by rfl) (fun w hS => run_load_req _ (.tmp 99) (by rfl) w g _ _ (holds_row (Row.at hH hblk hS hd) hy) (by rfl)) ?_
  (try simp only [Act.put, List.setIfInBounds_toArray, List.set_cons_zero, List.set_cons_succ])
  refine flow_call_fn ⟨some 101, _, _, _, _, _⟩ rfl (by rfl) 22 (.tmp 92) _ _ (by rfl) (by rfl) _ (by rfl) Tryz.call22 (compareB_any x y _) ?_; rintro e wn ⟨rfl, hb⟩; replace hS := hS.grows hb; refine ⟨_, rfl, hS, ?_⟩; (try clear hb)
  simp only [Act.put, List.setIfInBounds_toArray, List.set_cons_zero, List.set_cons_succ]
  refine flow_take ⟨some 102, _, _, _, _, _⟩ ?_ rfl (by rfl) ?_ ?_
  rotate_left 1
  · intro w hSw; (try dsimp only at hSw); go_simp; (try with_reducible rfl)
  simp only [Act.put, List.setIfInBounds_toArray, List.set_cons_zero, List.set_cons_succ]
  refine flow_take ⟨some 103, _, _, _, _, _⟩ ?_ rfl (by rfl) ?_ ?_
  rotate_left 1
  · intro w hSw; (try dsimp only at hSw); go_simp; (try with_reducible rfl)
  simp only [Act.put, List.setIfInBounds_toArray, List.set_cons_zero, List.set_cons_succ]
  simp only [wpFlow, OnlyN]
  exact HQ.out _ _ _ _ _ _ _ _ _ _ _ _ hS

set_option maxHeartbeats 4000000 in
set_option maxRecDepth 100000 in
theorem sx_t35 {s1 s2 s3 s5 s6 s7 s8 s9 s10 s11 s12 s13 s14 s15 s16 s17 s18 s19 s20 s21 s24 s25 s26 s27 s28 s29 s30 s31 s32 s33 s34 s35 s36 s37 s38 s39 s40 s41 s42 s43 s44 s45 s46 s47 s48 s49 s50 s51 s52 s53 s54 s55 s56 s57 s58 s59 s60 s61 s62 s63 s64 s65 s66 s67 s68 s69 s70 s71 s72 s73 s74 s75 s76 s77 s78 s79 s80 s81 s82 s83 s84 s85 s86 s87 s88 s89 s90 s91 s92 s93 s94 s95 s96 s97 s98 s99 s100 s101 s102 s103 s104 s105 s106 s107 s108 s109 s110 s111 s112 s113 s114 s115 s116 s117 s118 s119 s120 s121 s122 s123 s124 s125 s126 s127 s128 s129 s130 s131 s132 s133 s134 s135 s136 s137 s138 s139 s140 s141 s142 s143 s144 s145 s146 s147 s148 s149 s150 s151 s152 s153 s154 s155 s156 s157 s158 s159 s160 s161 s162 s163 s164 s165 s166 s167 s168 s169 s170 s171 s172 s173 s174 s175 s176 s177 s178 s179 s180 s181 s182 s183 s184 s185 s186 s187 s188 s189 s190 s191 s192 s193 s194 s195 s196 s197 s198 s199 s200 s201 s202 s203 s204 s205 s206 s207 s208 s209 s210 s211 s212 s213 s214 s215 s216 s217 s218 s219 : Value} (s : Nat) (W0 : World) (d0 : Array Req) (X : List Req) (g n c p q : Nat) (x y : Req) (W : World) (Q : Exit → Act → World → Prop) (hH : HoldsK encR 9 W0 g 0 d0) (hblk : g < W0.heap.size) (hR : Row W0 g X W) (hd : X.length = d0.size) (hn : X.length = n) (hx : X[p]? = some x) (hy : X[q]? = some y) (hp : (p : Int) < (n : Int)) (hq : (q : Int) < (n : Int)) (hw : IntKind.i64.wrap ((s : Int) - (q : Int)) = (p : Int))
    (hQ : ∀ (u158 u159 u160 u161 u162 u163 u164 u165 u166 u167 u168 u169 u170 : Value) (wx : World), Row W0 g X wx → Q .normal ⟨List.toArray (.slice (some ⟨g, 0, none⟩) n c :: s1 :: s2 :: s3 :: .func (.func 22) #[] #[] :: s5 :: s6 :: s7 :: s8 :: s9 :: s10 :: s11 :: s12 :: s13 :: s14 :: s15 :: s16 :: s17 :: s18 :: s19 :: s20 :: s21 :: .int .i64 (s : Int) :: .int .i64 (q : Int) :: s24 :: s25 :: s26 :: s27 :: s28 :: s29 :: s30 :: s31 :: s32 :: s33 :: s34 :: s35 :: s36 :: s37 :: s38 :: s39 :: s40 :: s41 :: s42 :: s43 :: s44 :: s45 :: s46 :: s47 :: s48 :: s49 :: s50 :: s51 :: s52 :: s53 :: s54 :: s55 :: s56 :: s57 :: s58 :: s59 :: s60 :: s61 :: s62 :: s63 :: s64 :: s65 :: s66 :: s67 :: s68 :: s69 :: s70 :: s71 :: s72 :: s73 :: s74 :: s75 :: s76 :: s77 :: s78 :: s79 :: s80 :: s81 :: s82 :: s83 :: s84 :: s85 :: s86 :: s87 :: s88 :: s89 :: s90 :: s91 :: s92 :: s93 :: s94 :: s95 :: s96 :: s97 :: s98 :: s99 :: s100 :: s101 :: s102 :: s103 :: s104 :: s105 :: s106 :: s107 :: s108 :: s109 :: s110 :: s111 :: s112 :: s113 :: s114 :: s115 :: s116 :: s117 :: s118 :: s119 :: s120 :: s121 :: s122 :: s123 :: s124 :: s125 :: s126 :: s127 :: s128 :: s129 :: s130 :: s131 :: s132 :: s133 :: s134 :: s135 :: s136 :: s137 :: s138 :: s139 :: s140 :: s141 :: s142 :: s143 :: s144 :: s145 :: s146 :: s147 :: s148 :: s149 :: s150 :: s151 :: s152 :: s153 :: s154 :: s155 :: s156 :: s157 :: u158 :: u159 :: u160 :: u161 :: u162 :: u163 :: u164 :: u165 :: u166 :: u167 :: u168 :: u169 :: u170 :: .bool (!decide (cmpB x y < 0)) :: s172 :: s173 :: s174 :: s175 :: s176 :: s177 :: s178 :: s179 :: s180 :: s181 :: s182 :: s183 :: s184 :: s185 :: s186 :: s187 :: s188 :: s189 :: s190 :: s191 :: s192 :: s193 :: s194 :: s195 :: s196 :: s197 :: s198 :: s199 :: s200 :: s201 :: s202 :: s203 :: s204 :: s205 :: s206 :: s207 :: s208 :: s209 :: s210 :: s211 :: s212 :: s213 :: s214 :: s215 :: s216 :: s217 :: s218 :: s219 :: []), []⟩ wx) :
    (regionOf Tryz.f66 35).wp Tryz.prog Q ⟨List.toArray (.slice (some ⟨g, 0, none⟩) n c :: s1 :: s2 :: s3 :: .func (.func 22) #[] #[] :: s5 :: s6 :: s7 :: s8 :: s9 :: s10 :: s11 :: s12 :: s13 :: s14 :: s15 :: s16 :: s17 :: s18 :: s19 :: s20 :: s21 :: .int .i64 (s : Int) :: .int .i64 (q : Int) :: s24 :: s25 :: s26 :: s27 :: s28 :: s29 :: s30 :: s31 :: s32 :: s33 :: s34 :: s35 :: s36 :: s37 :: s38 :: s39 :: s40 :: s41 :: s42 :: s43 :: s44 :: s45 :: s46 :: s47 :: s48 :: s49 :: s50 :: s51 :: s52 :: s53 :: s54 :: s55 :: s56 :: s57 :: s58 :: s59 :: s60 :: s61 :: s62 :: s63 :: s64 :: s65 :: s66 :: s67 :: s68 :: s69 :: s70 :: s71 :: s72 :: s73 :: s74 :: s75 :: s76 :: s77 :: s78 :: s79 :: s80 :: s81 :: s82 :: s83 :: s84 :: s85 :: s86 :: s87 :: s88 :: s89 :: s90 :: s91 :: s92 :: s93 :: s94 :: s95 :: s96 :: s97 :: s98 :: s99 :: s100 :: s101 :: s102 :: s103 :: s104 :: s105 :: s106 :: s107 :: s108 :: s109 :: s110 :: s111 :: s112 :: s113 :: s114 :: s115 :: s116 :: s117 :: s118 :: s119 :: s120 :: s121 :: s122 :: s123 :: s124 :: s125 :: s126 :: s127 :: s128 :: s129 :: s130 :: s131 :: s132 :: s133 :: s134 :: s135 :: s136 :: s137 :: s138 :: s139 :: s140 :: s141 :: s142 :: s143 :: s144 :: s145 :: s146 :: s147 :: s148 :: s149 :: s150 :: s151 :: s152 :: s153 :: s154 :: s155 :: s156 :: s157 :: s158 :: s159 :: s160 :: s161 :: s162 :: s163 :: s164 :: s165 :: s166 :: s167 :: s168 :: s169 :: s170 :: s171 :: s172 :: s173 :: s174 :: s175 :: s176 :: s177 :: s178 :: s179 :: s180 :: s181 :: s182 :: s183 :: s184 :: s185 :: s186 :: s187 :: s188 :: s189 :: s190 :: s191 :: s192 :: s193 :: s194 :: s195 :: s196 :: s197 :: s198 :: s199 :: s200 :: s201 :: s202 :: s203 :: s204 :: s205 :: s206 :: s207 :: s208 :: s209 :: s210 :: s211 :: s212 :: s213 :: s214 :: s215 :: s216 :: s217 :: s218 :: s219 :: []), []⟩ W := by
  refine of_onlyN (K := Q .normal) ?_ (fun _ _ h => h)
  generalize Q .normal = K at hQ ⊢
  have HQ := Lib.hid hQ; clear hQ
  conv => arg 2; whnf
  have hS0 : Row W0 g X W.drew := SWK.drewN hR 1
  have hil : X.length = n := hn
  refine of_onlyN ?_ (fun _ _ h => h)
  refine wp_region_flow (S := fun w' => Row W0 g X w') [(0, true), (1, true), (2, true), (3, true), (4, true), (5, true), (6, true), (7, true), (8, true), (9, true), (10, true), (11, false), (12, true), (13, true)] (by kernel_rfl) (by kernel_rfl) (by kernel_rfl) (by decide) (hS0) ?_
  have hS := hS0
  refine flow_take ⟨some 158, _, _, _, _, _⟩ ?_ rfl (by rfl) ?_ ?_
  rotate_left 1
  · intro w hSw; (try dsimp only at hSw); go_simp; (try with_reducible rfl)
  simp only [Act.put, List.setIfInBounds_toArray, List.set_cons_zero, List.set_cons_succ]
  refine flow_take ⟨some 159, _, _, _, _, _⟩ ?_ rfl (by rfl) ?_ ?_
  rotate_left 1
  · intro w hSw; (try dsimp only at hSw); go_simp; (try with_reducible rfl)
  simp only [Act.put, List.setIfInBounds_toArray, List.set_cons_zero, List.set_cons_succ]
  refine flow_take ⟨some 160, _, _, _, _, _⟩ ?_ rfl (by rfl) ?_ ?_
  rotate_left 1
  · intro w hSw; (try dsimp only at hSw); go_simp; (try with_reducible rfl)
  simp only [Act.put, List.setIfInBounds_toArray, List.set_cons_zero, List.set_cons_succ]
  refine flow_take ⟨some 161, _, _, _, _, _⟩ ?_ rfl (by rfl) ?_ ?_
  rotate_left 1
  · intro w hSw; (try dsimp only at hSw); go_simp; (try with_reducible rfl)
  simp only [Act.put, List.setIfInBounds_toArray, List.set_cons_zero, List.set_cons_succ]
  refine flow_take ⟨some 162, _, _, _, _, _⟩ ?_ rfl (by rfl) ?_ ?_
  rotate_left 1
  · intro w hSw; (try dsimp only at hSw); go_simp; (try with_reducible rfl)
  simp only [Act.put, List.setIfInBounds_toArray, List.set_cons_zero, List.set_cons_succ]
  refine flow_take ⟨some 163, _, _, _, _, _⟩ ?_ rfl (by rfl) ?_ ?_
  rotate_left 1
  · intro w hSw; (try dsimp only at hSw); go_simp; (try with_reducible rfl)
  simp only [Act.put, List.setIfInBounds_toArray, List.set_cons_zero, List.set_cons_succ]
  refine flow_take ⟨some 164, _, _, _, _, _⟩ (x).val rfl (by rfl) (fun w hS => run_load_req _ (.tmp 163) (by rfl) w g _ _ (holds_row (Row.at hH hblk hS hd) hx) (by rfl)) ?_
  (try simp only [Act.put, List.setIfInBounds_toArray, List.set_cons_zero, List.set_cons_succ])
  refine flow_take ⟨some 165, _, _, _, _, _⟩ ?_ rfl (by rfl) ?_ ?_
  rotate_left 1
  · intro w hSw; (try dsimp only at hSw); go_simp; (try with_reducible rfl)
  simp only [Act.put, List.setIfInBounds_toArray, List.set_cons_zero, List.set_cons_succ]
  refine flow_take ⟨some 166, _, _, _, _, _⟩ ?_ rfl (by rfl) ?_ ?_
  rotate_left 1
  · intro w hSw; (try dsimp only at hSw); go_simp; (try with_reducible rfl)
  simp only [Act.put, List.setIfInBounds_toArray, List.set_cons_zero, List.set_cons_succ]
  refine flow_take ⟨some 167, _, _, _, _, _⟩ ?_ rfl (by rfl) ?_ ?_
  rotate_left 1
  · intro w hSw; (try dsimp only at hSw); go_simp; (try with_reducible rfl)
  simp only [Act.put, List.setIfInBounds_toArray, List.set_cons_zero, List.set_cons_succ]
  refine flow_take ⟨some 168, _, _, _, _, _⟩ (y).val rfl (by rfl) (fun w hS => run_load_req _ (.tmp 167) (by rfl) w g _ _ (holds_row (Row.at hH hblk hS hd) hy) (by rfl)) ?_
  (try simp only [Act.put, List.setIfInBounds_toArray, List.set_cons_zero, List.set_cons_succ])
  refine flow_call_fn ⟨some 169, _, _, _, _, _⟩ rfl (by rfl) 22 (.tmp 158) _ _ (by rfl) (by rfl) _ (by rfl) Tryz.call22 (compareB_any x y _) ?_; rintro e wn ⟨rfl, hb⟩; replace hS := hS.grows hb; refine ⟨_, rfl, hS, ?_⟩; (try clear hb)
  simp only [Act.put, List.setIfInBounds_toArray, List.set_cons_zero, List.set_cons_succ]
  refine flow_take ⟨some 170, _, _, _, _, _⟩ ?_ rfl (by rfl) ?_ ?_
  rotate_left 1
  · intro w hSw; (try dsimp only at hSw); go_simp; (try with_reducible rfl)
  simp only [Act.put, List.setIfInBounds_toArray, List.set_cons_zero, List.set_cons_succ]
  refine flow_take ⟨some 171, _, _, _, _, _⟩ ?_ rfl (by rfl) ?_ ?_
  rotate_left 1
  · intro w hSw; (try dsimp only at hSw); go_simp; (try with_reducible rfl)
  simp only [Act.put, List.setIfInBounds_toArray, List.set_cons_zero, List.set_cons_succ]
  simp only [wpFlow, OnlyN]
  exact HQ.out _ _ _ _ _ _ _ _ _ _ _ _ _ _ hS

end Go.Proofs.YteopjiedjnaeiaaGreat
