/- The reference's order of requests: the same; walked once. -/
import Derived.Test.YteopjiedjnaeiaaGreatDgab
import Derived.Test.YteopjiedjnaeiaaGreatDgaa
import Derived.Laws.EntriesVeiled
import Derived.Deep.RegionHeld3
/- request.compare and Less: each walked once. -/
namespace Go.Proofs.YteopjiedjnaeiaaGreat
open Go Go.RowKit Go.Sort Go.Lib
attribute [local go_sem] Req.cells

theorem cmp_keep {W w w' : World} {ab bb nb : Nat} {a b : Req} {u : Value} (h : Grows W w ∧ (∀ j, w.cell? ⟨ab, j, none⟩ = a.cells[j]?) ∧ (∀ j, w.cell? ⟨bb, j, none⟩ = b.cells[j]?) ∧ w.cell? ⟨nb, 0, none⟩ = some u) (hb0 : Grows w w') :
    Grows W w' ∧ (∀ j, w'.cell? ⟨ab, j, none⟩ = a.cells[j]?) ∧ (∀ j, w'.cell? ⟨bb, j, none⟩ = b.cells[j]?) ∧ w'.cell? ⟨nb, 0, none⟩ = some u := by
  have hb := hb0.toB
  have h0 : w.cell? ⟨ab, 0, none⟩ = some (.int .i64 a.server) := h.2.1 0
  have h1 : w.cell? ⟨bb, 0, none⟩ = some (.int .i64 b.server) := h.2.2.1 0
  have l0 : ab < w.heap.size := World.block_lt_of_cell? w _ h0
  have l1 : bb < w.heap.size := World.block_lt_of_cell? w _ h1
  exact ⟨h.1.trans hb0, fun j => (hb.cell (p := ⟨ab, j, none⟩) l0).trans (h.2.1 j), fun j => (hb.cell (p := ⟨bb, j, none⟩) l1).trans (h.2.2.1 j), (hb.cell (World.block_lt_of_cell? w _ h.2.2.2)).trans h.2.2.2⟩
/-- A whole request loaded out of its block. -/
theorem flow_req {ops : Array Oper} {Q : Exit → Act → World → Prop} {S : World → Prop} {i : Nat} {σ : List (Nat × Bool)} {a : Act} {w : World} (oi : Oper) (e : Req) (b : Nat) (hi : ops[i]? = some oi) (hw : Region.wanted oi (yielded ops a.tmps) = true)
    (p : Operand) (ho : oi.op = .load 39 p) (hp : a.eval p = .pointer (some ⟨b, 0, none⟩)) (hc : ∀ w, S w → ∀ j, w.cell? ⟨b, j, none⟩ = e.cells[j]?)
    (h : wpFlow Tryz.prog ops Q S σ (a.put oi.dst e.val) w) : wpFlow Tryz.prog ops Q S ((i, true) :: σ) a w :=
  flow_take oi e.val hi hw (fun w hS => by
    have hat : ReqAt w b 0 e := fun j v hv => by rw [Nat.zero_add, hc w hS j]; simpa using hv
    have hl := req_load w b 0 e hat
    unfold execOp
    simp only [ho, hp, Sem.run_bind, Sem.run_pure, hl, Result.andThen_ok]) h
/-- A call of a function value, of one argument, that comes up alone. -/
theorem flow_callv {P : Program} {ops : Array Oper} {Q : Exit → Act → World → Prop} {S : World → Prop} {i : Nat} {σ : List (Nat × Bool)} {a : Act} {w : World} (oi : Oper) (hi : ops[i]? = some oi) (hw : Region.wanted oi (yielded ops a.tmps) = true) (f : FuncId) (x y : Operand) (t : TypeId)
    (ho : oi.op = .call { callee := .value x, args := #[y], argTypes := #[t] }) (hx : a.eval x = .func (.func f) #[] #[]) (v : Value) (hy : a.eval y = v) (hc : ∀ xs w, (callFunc f xs).run P w = .ok (.enter f xs) w) {R : Ending → World → Prop} (h : Calls P f #[v] w R)
    (hK : ∀ e w', R e w' → ∃ u, e = .returned u ∧ S w' ∧ wpFlow P ops Q S σ (a.put oi.dst u) w') : wpFlow P ops Q S ((i, false) :: σ) a w := by
  refine flow_op oi hi hw ?_
  obtain ⟨dst, op, type, pos, after, guard⟩ := oi
  simp only at ho
  subst ho
  unfold Oper.wp
  have hr : ∀ ρ : Operand → Value, ρ x = .func (.func f) #[] #[] → ρ y = v → (execOp ρ ⟨dst, .call { callee := .value x, args := #[y], argTypes := #[t] }, type, pos, after, guard⟩).run P w = .ok (.enter f #[v]) w := by
    intro ρ hx hy
    unfold execOp
    simp [hx, hy, hc, go_sem]
  rw [hr _ hx hy, Oper.upon_enter]
  refine h.mono fun e w' hR => ?_
  obtain ⟨u, rfl, hk⟩ := hK e w' hR
  exact hk
set_option maxHeartbeats 4000000 in
set_option maxRecDepth 100000 in
theorem cmp_r5 {s0 s1 s4 s5 s6 s8 s9 s10 s11 s12 s13 s14 s15 s16 s17 s18 s19 s20 s21 s22 s23 s24 s25 s26 s27 s28 s29 s30 s31 s32 s33 s34 s35 s36 s37 s38 s39 s40 s41 s42 s43 s44 s45 s46 s47 s48 s49 s50 s51 s52 s53 s54 s55 : Value} (ab bb nb : Nat) (F : FuncId) (a b : Req) (x y : Int) (W : World) (Q : Exit → Act → World → Prop) (eg : ∀ xs w, (callFunc F xs).run Tryz.prog w = .ok (.enter F xs) w)
    (cx : ∀ w, Calls Tryz.prog F #[a.val] w fun e w' => e = .returned (.int .i64 x) ∧ Grows w w') (cy : ∀ w, Calls Tryz.prog F #[b.val] w fun e w' => e = .returned (.int .i64 y) ∧ Grows w w')
    (ha : ReqBox W ab a) (hb : ReqBox W bb b) (hn : W.cell? ⟨nb, 0, none⟩ = some (.func (.func F) #[] #[]))
    (hQ : ∀ (u21 u22 u23 u24 u25 u26 u27 u28 u29 : Value) (wx : World), Grows W wx → Q .normal ⟨List.toArray (s0 :: s1 :: .pointer (some ⟨ab, 0, none⟩) :: .pointer (some ⟨bb, 0, none⟩) :: s4 :: s5 :: s6 :: .pointer (some ⟨nb, 0, none⟩) :: .int .i64 (Lib.compareInt x y) :: s9 :: s10 :: s11 :: s12 :: s13 :: s14 :: s15 :: s16 :: s17 :: s18 :: s19 :: s20 :: u21 :: u22 :: u23 :: u24 :: u25 :: u26 :: u27 :: u28 :: u29 :: s30 :: s31 :: s32 :: s33 :: s34 :: s35 :: s36 :: s37 :: s38 :: s39 :: s40 :: s41 :: s42 :: s43 :: s44 :: s45 :: s46 :: s47 :: s48 :: s49 :: s50 :: s51 :: s52 :: s53 :: s54 :: s55 :: []), []⟩ wx) :
    (regionOf Tryz.f69 5).wp Tryz.prog Q ⟨List.toArray (s0 :: s1 :: .pointer (some ⟨ab, 0, none⟩) :: .pointer (some ⟨bb, 0, none⟩) :: s4 :: s5 :: s6 :: .pointer (some ⟨nb, 0, none⟩) :: s8 :: s9 :: s10 :: s11 :: s12 :: s13 :: s14 :: s15 :: s16 :: s17 :: s18 :: s19 :: s20 :: s21 :: s22 :: s23 :: s24 :: s25 :: s26 :: s27 :: s28 :: s29 :: s30 :: s31 :: s32 :: s33 :: s34 :: s35 :: s36 :: s37 :: s38 :: s39 :: s40 :: s41 :: s42 :: s43 :: s44 :: s45 :: s46 :: s47 :: s48 :: s49 :: s50 :: s51 :: s52 :: s53 :: s54 :: s55 :: []), []⟩ W := by
  refine of_onlyN (K := Q .normal) ?_ (fun _ _ h => h)
  generalize Q .normal = K at hQ ⊢
  have HQ := Lib.hid hQ; clear hQ
  conv => arg 2; whnf
  have hS0 : Grows W W.drew ∧ (∀ j, W.drew.cell? ⟨ab, j, none⟩ = a.cells[j]?) ∧ (∀ j, W.drew.cell? ⟨bb, j, none⟩ = b.cells[j]?) ∧ W.drew.cell? ⟨nb, 0, none⟩ = some (.func (.func F) #[] #[]) := ⟨(Grows.refl _).drew, ha.cell, hb.cell, hn⟩
  refine of_onlyN ?_ (fun _ _ h => h)
  refine wp_region_flow (S := fun w' => Grows W w' ∧ (∀ j, w'.cell? ⟨ab, j, none⟩ = a.cells[j]?) ∧ (∀ j, w'.cell? ⟨bb, j, none⟩ = b.cells[j]?) ∧ w'.cell? ⟨nb, 0, none⟩ = some (.func (.func F) #[] #[])) [(0, true), (1, true), (2, true), (4, true), (5, true), (6, true), (3, false), (7, false), (8, false), (9, true)] (by kernel_rfl) (by kernel_rfl) (by kernel_rfl) (by decide) (hS0) ?_
  have hS := hS0
  refine flow_take ⟨some 21, _, _, _, _, _⟩ ?_ rfl (by rfl) ?_ ?_
  rotate_left 1
  · intro w hSw; (try dsimp only at hSw); go_simp; (try with_reducible rfl)
  simp only [Act.put, List.setIfInBounds_toArray, List.set_cons_zero, List.set_cons_succ]
  refine flow_take ⟨some 22, _, _, _, _, _⟩ ?_ rfl (by rfl) ?_ ?_
  rotate_left 1
  · intro w hSw; (try dsimp only at hSw); go_simp; (try with_reducible rfl)
  simp only [Act.put, List.setIfInBounds_toArray, List.set_cons_zero, List.set_cons_succ]
  refine flow_req ⟨some 23, _, _, _, _, _⟩ a ab rfl (by rfl) _ (by rfl) (by rfl) (fun w hS => hS.2.1) ?_
  (try simp only [Act.put, List.setIfInBounds_toArray, List.set_cons_zero, List.set_cons_succ])
  refine flow_take ⟨some 25, _, _, _, _, _⟩ ?_ rfl (by rfl) ?_ ?_
  rotate_left 1
  · intro w hSw; (try dsimp only at hSw); go_simp; (try with_reducible rfl)
  simp only [Act.put, List.setIfInBounds_toArray, List.set_cons_zero, List.set_cons_succ]
  refine flow_take ⟨some 26, _, _, _, _, _⟩ ?_ rfl (by rfl) ?_ ?_
  rotate_left 1
  · intro w hSw; (try dsimp only at hSw); go_simp; (try with_reducible rfl)
  simp only [Act.put, List.setIfInBounds_toArray, List.set_cons_zero, List.set_cons_succ]
  refine flow_req ⟨some 27, _, _, _, _, _⟩ b bb rfl (by rfl) _ (by rfl) (by rfl) (fun w hS => hS.2.2.1) ?_
  (try simp only [Act.put, List.setIfInBounds_toArray, List.set_cons_zero, List.set_cons_succ])
  refine flow_callv ⟨some 24, _, _, _, _, _⟩ rfl (by rfl) F _ _ _ (by rfl) (by rfl) a.val (by rfl) eg (cx _) ?_; rintro x' wn ⟨rfl, hb1⟩; replace hS := cmp_keep hS hb1; refine ⟨_, rfl, hS, ?_⟩; clear hb1
  (try simp only [Act.put, List.setIfInBounds_toArray, List.set_cons_zero, List.set_cons_succ])
  refine flow_callv ⟨some 28, _, _, _, _, _⟩ rfl (by rfl) F _ _ _ (by rfl) (by rfl) b.val (by rfl) eg (cy _) ?_; rintro x' wn ⟨rfl, hb1⟩; replace hS := cmp_keep hS hb1; refine ⟨_, rfl, hS, ?_⟩; clear hb1
  (try simp only [Act.put, List.setIfInBounds_toArray, List.set_cons_zero, List.set_cons_succ])
  refine flow_call ⟨some 29, _, _, _, _, _⟩ rfl (by rfl) 43 _ _ (by rfl) _ (by rfl) Tryz.call43 (Tryz.cmp_Compare_int _ _ _) ?_; rintro x wn ⟨rfl, rfl⟩; refine ⟨_, rfl, hS, ?_⟩
  simp only [Act.put, List.setIfInBounds_toArray, List.set_cons_zero, List.set_cons_succ]
  refine flow_take ⟨some 8, _, _, _, _, _⟩ ?_ rfl (by rfl) ?_ ?_
  rotate_left 1
  · intro w hSw; (try dsimp only at hSw); go_simp; (try with_reducible rfl)
  simp only [Act.put, List.setIfInBounds_toArray, List.set_cons_zero, List.set_cons_succ]
  simp only [wpFlow, OnlyN]
  exact HQ.out _ _ _ _ _ _ _ _ _ _ hS.1
theorem below_al (w : World) (o : Obj) : RowKit.Below w.heap.size w (w.alloc o) := (Below.refl _ _).alloc (Nat.le_refl _) _
theorem Req_lt {w : World} {b : Nat} {o : Obj} (h : w.heap[b]? = some o) : b < w.heap.size := by
  rcases Nat.lt_or_ge b w.heap.size with h' | h'
  · exact h'
  · rw [Array.getElem?_eq_none h'] at h; cases h
/-- The five numbers that are compared first; what is compared behind them. -/
def keysR (a b : Req) : List Int := [Lib.compareInt a.server b.server, Lib.compareInt a.seq b.seq, Lib.compareInt (truthN a.cancel) (truthN b.cancel), Lib.compareInt a.student b.student, Lib.compareInt a.term b.term]
def tailR (a b : Req) : List Int := [Lib.compareBytes a.code.data.toList b.code.data.toList, Lib.compareBytes a.give.data.toList b.give.data.toList, Lib.compareInt a.priority b.priority, Lib.compareInt a.day b.day]
def cmpR (a b : Req) : Int := orL (keysR a b ++ tailR a b)
theorem orL_app : ∀ (l m : List Int), (∀ j, j < l.length → l[j]? = some 0) → orL (l ++ m) = orL m
  | [], _, _ => rfl
  | a :: l, m, h0 => by
    have ha := h0 0 (by simp)
    simp only [List.getElem?_cons_zero, Option.some.injEq] at ha
    rw [List.cons_append]
    conv => lhs; unfold orL
    rw [if_pos ha]
    exact orL_app l m (fun j hj => by have := h0 (j + 1) (by simp; omega); simpa using this)
theorem cmpR_hit (a b : Req) (k : Nat) (x : Int) (h : ∀ j, j < k → (keysR a b)[j]? = some 0) (hx : (keysR a b)[k]? = some x) (h0 : x ≠ 0) : cmpR a b = x := by
  have hk : k < (keysR a b).length := by
    rcases Nat.lt_or_ge k (keysR a b).length with h | h
    · exact h
    · rw [List.getElem?_eq_none h] at hx; cases hx
  exact orL_hit _ k x (fun j hj => by rw [List.getElem?_append_left (by omega)]; exact h j hj) (by rw [List.getElem?_append_left hk]; exact hx) h0
theorem cmpR_none (a b : Req) (h : ∀ j, j < 5 → (keysR a b)[j]? = some 0) : cmpR a b = orL (tailR a b) := orL_app _ _ h
theorem next0 {l : List Int} {k : Nat} (h : ∀ j, j < k → l[j]? = some 0) (hx : l[k]? = some 0) : ∀ j, j < k + 1 → l[j]? = some 0 := fun j hj => by
  rcases Nat.lt_or_ge j k with h' | h'
  · exact h j h'
  · obtain rfl : j = k := by omega
    exact hx
set_option maxHeartbeats 8000000 in
set_option maxRecDepth 100000 in
theorem compare_any (a b : Req) (w : World) :
    Calls Tryz.prog 69 #[a.val, b.val] w fun x w' => x = .returned (.int .i64 (cmpR a b)) ∧ Grows w w' := by
  have hH := Lib.hid (cmpR_hit a b)
  have hN := Lib.hid (cmpR_none a b)
  generalize cmpR a b = R at hH hN ⊢
  go_enter Tryz.func69, Tryz.ntmps69
  go_wp2_with fail
  have hA := ReqBox.new w a
  have hB := ReqBox.new (w.alloc (.cells a.cells 39)) b
  have hN0 := heap_alloc_new ((w.alloc (.cells a.cells 39)).alloc (.cells b.cells 39)) (.cells #[.func (.func 79) #[] #[], .func (.func 80) #[] #[], .func (.func 81) #[] #[], .func (.func 83) #[] #[], .func (.func 84) #[] #[]] 123)
  have b1 : RowKit.Below w.heap.size w (w.alloc (.cells a.cells 39)) := (Below.refl _ _).alloc (Nat.le_refl _) _
  have b2 := (Below.refl (w.alloc (.cells a.cells 39)).heap.size (w.alloc (.cells a.cells 39))).alloc (Nat.le_refl _) (.cells b.cells 39)
  have b3 := (Below.refl ((w.alloc (.cells a.cells 39)).alloc (.cells b.cells 39)).heap.size ((w.alloc (.cells a.cells 39)).alloc (.cells b.cells 39))).alloc (Nat.le_refl _) (.cells #[.func (.func 79) #[] #[], .func (.func 80) #[] #[], .func (.func 81) #[] #[], .func (.func 83) #[] #[], .func (.func 84) #[] #[]] 123)
  replace hA := (hA.below b2).below b3
  replace hB := hB.below b3
  have b4 := ((Grows.al w (.cells a.cells 39)).trans (Grows.al _ (.cells b.cells 39))).trans (Grows.al _ (.cells #[.func (.func 79) #[] #[], .func (.func 80) #[] #[], .func (.func 81) #[] #[], .func (.func 83) #[] #[], .func (.func 84) #[] #[]] 123))
  simp only [World.size_alloc] at hB hN0
  clear b1 b2 b3
  go_loopw [17] (fun i wr => ∃ k : Nat, k ≤ 5 ∧ Hid (∀ j, j < k → (keysR a b)[j]? = some 0) ∧ i = .int .i64 k ∧ Grows (((w.alloc (.cells a.cells 39)).alloc (.cells b.cells 39)).alloc (.cells #[.func (.func 79) #[] #[], .func (.func 80) #[] #[], .func (.func 81) #[] #[], .func (.func 83) #[] #[], .func (.func 84) #[] #[]] 123)) wr) (fun i _ => 5 - (intOf i).toNat)
  case atStart => exact ⟨0, Nat.zero_le _, Lib.hid (by omega), rfl, Grows.refl _⟩
  case round =>
    obtain ⟨k, hk, hz, rfl, hbr⟩ := hrel
    have hrow := (hbr.toB.block _ (Req_lt hN0)).trans hN0
    have hAr := hA.below hbr.toB
    have hBr := hB.below hbr.toB
    generalize (((w.alloc (.cells a.cells 39)).alloc (.cells b.cells 39)).alloc (.cells #[.func (.func 79) #[] #[], .func (.func 80) #[] #[], .func (.func 81) #[] #[], .func (.func 83) #[] #[], .func (.func 84) #[] #[]] 123)) = W0 at *
    by_cases hlt : k < 5
    · match k, hz, hlt, hk with
      | 0, hz, hlt, hk =>
        have hrc : wr.cell? ⟨w.heap.size + 1 + 1, 0, none⟩ = some (.func (.func 79) #[] #[]) := Lib.cell_of_heap hrow 0
        have hx : (keysR a b)[0]? = some (Lib.compareInt a.server b.server) := rfl
        have hAl := hAr.below (below_al wr (.cells #[.func (.func 79) #[] #[]] 123))
        have hBl := hBr.below (below_al wr (.cells #[.func (.func 79) #[] #[]] 123))
        have hNl := Lib.cell_of_heap (heap_alloc_new wr (.cells #[.func (.func 79) #[] #[]] 123)) 0
        have hbl := hbr.trans (Grows.al wr (.cells #[.func (.func 79) #[] #[]] 123))
        clear hrow hAr hBr
        go_wp2_with fail
        refine cmp_r5 w.heap.size (w.heap.size + 1) wr.heap.size 79 a b a.server b.server (wr.alloc (.cells #[.func (.func 79) #[] #[]] 123)) _ (enters_of Tryz.func79 (by kernel_rfl) rfl) (num1_any a) (num1_any b) hAl hBl hNl ?_
        intro u21_ u22_ u23_ u24_ u25_ u26_ u27_ u28_ u29_ wx hbx
        have hbF := hbl.trans hbx
        clear hAl hBl hNl hbl hbx hrc
        by_cases h0 : Lib.compareInt a.server b.server = 0
        · have hz2 : Hid (∀ j, j < 0 + 1 → (keysR a b)[j]? = some 0) := Lib.hid (next0 hz.out (by rw [hx, h0]))
          have hne : (Lib.compareInt a.server b.server != 0) = false := by simpa using h0
          generalize Lib.compareInt a.server b.server = c at hne
          clear hx h0
          go_wp2_with fail
          go_roundw
          case rel => exact ⟨0 + 1, by omega, hz2, by go_num, hbF⟩
          case measure => simp [intOf]
        · have hR := hH.out 0 _ hz.out hx h0
          have hne : (Lib.compareInt a.server b.server != 0) = true := by simpa using h0
          generalize Lib.compareInt a.server b.server = c at hne hR
          clear hx h0
          go_wp2_with fail
          go_ret
          exact ⟨ret_int hR.symm, b4.trans hbF⟩
      | 1, hz, hlt, hk =>
        have hrc : wr.cell? ⟨w.heap.size + 1 + 1, 1, none⟩ = some (.func (.func 80) #[] #[]) := Lib.cell_of_heap hrow 1
        have hx : (keysR a b)[1]? = some (Lib.compareInt a.seq b.seq) := rfl
        have hAl := hAr.below (below_al wr (.cells #[.func (.func 80) #[] #[]] 123))
        have hBl := hBr.below (below_al wr (.cells #[.func (.func 80) #[] #[]] 123))
        have hNl := Lib.cell_of_heap (heap_alloc_new wr (.cells #[.func (.func 80) #[] #[]] 123)) 0
        have hbl := hbr.trans (Grows.al wr (.cells #[.func (.func 80) #[] #[]] 123))
        clear hrow hAr hBr
        go_wp2_with fail
        refine cmp_r5 w.heap.size (w.heap.size + 1) wr.heap.size 80 a b a.seq b.seq (wr.alloc (.cells #[.func (.func 80) #[] #[]] 123)) _ (enters_of Tryz.func80 (by kernel_rfl) rfl) (num2_any a) (num2_any b) hAl hBl hNl ?_
        intro u21_ u22_ u23_ u24_ u25_ u26_ u27_ u28_ u29_ wx hbx
        have hbF := hbl.trans hbx
        clear hAl hBl hNl hbl hbx hrc
        by_cases h0 : Lib.compareInt a.seq b.seq = 0
        · have hz2 : Hid (∀ j, j < 1 + 1 → (keysR a b)[j]? = some 0) := Lib.hid (next0 hz.out (by rw [hx, h0]))
          have hne : (Lib.compareInt a.seq b.seq != 0) = false := by simpa using h0
          generalize Lib.compareInt a.seq b.seq = c at hne
          clear hx h0
          go_wp2_with fail
          go_roundw
          case rel => exact ⟨1 + 1, by omega, hz2, by go_num, hbF⟩
          case measure => simp [intOf]
        · have hR := hH.out 1 _ hz.out hx h0
          have hne : (Lib.compareInt a.seq b.seq != 0) = true := by simpa using h0
          generalize Lib.compareInt a.seq b.seq = c at hne hR
          clear hx h0
          go_wp2_with fail
          go_ret
          exact ⟨ret_int hR.symm, b4.trans hbF⟩
      | 2, hz, hlt, hk =>
        have hrc : wr.cell? ⟨w.heap.size + 1 + 1, 2, none⟩ = some (.func (.func 81) #[] #[]) := Lib.cell_of_heap hrow 2
        have hx : (keysR a b)[2]? = some (Lib.compareInt (truthN a.cancel) (truthN b.cancel)) := rfl
        have hAl := hAr.below (below_al wr (.cells #[.func (.func 81) #[] #[]] 123))
        have hBl := hBr.below (below_al wr (.cells #[.func (.func 81) #[] #[]] 123))
        have hNl := Lib.cell_of_heap (heap_alloc_new wr (.cells #[.func (.func 81) #[] #[]] 123)) 0
        have hbl := hbr.trans (Grows.al wr (.cells #[.func (.func 81) #[] #[]] 123))
        clear hrow hAr hBr
        go_wp2_with fail
        refine cmp_r5 w.heap.size (w.heap.size + 1) wr.heap.size 81 a b (truthN a.cancel) (truthN b.cancel) (wr.alloc (.cells #[.func (.func 81) #[] #[]] 123)) _ (enters_of Tryz.func81 (by kernel_rfl) rfl) (num3_any a) (num3_any b) hAl hBl hNl ?_
        intro u21_ u22_ u23_ u24_ u25_ u26_ u27_ u28_ u29_ wx hbx
        have hbF := hbl.trans hbx
        clear hAl hBl hNl hbl hbx hrc
        by_cases h0 : Lib.compareInt (truthN a.cancel) (truthN b.cancel) = 0
        · have hz2 : Hid (∀ j, j < 2 + 1 → (keysR a b)[j]? = some 0) := Lib.hid (next0 hz.out (by rw [hx, h0]))
          have hne : (Lib.compareInt (truthN a.cancel) (truthN b.cancel) != 0) = false := by simpa using h0
          generalize Lib.compareInt (truthN a.cancel) (truthN b.cancel) = c at hne
          clear hx h0
          go_wp2_with fail
          go_roundw
          case rel => exact ⟨2 + 1, by omega, hz2, by go_num, hbF⟩
          case measure => simp [intOf]
        · have hR := hH.out 2 _ hz.out hx h0
          have hne : (Lib.compareInt (truthN a.cancel) (truthN b.cancel) != 0) = true := by simpa using h0
          generalize Lib.compareInt (truthN a.cancel) (truthN b.cancel) = c at hne hR
          clear hx h0
          go_wp2_with fail
          go_ret
          exact ⟨ret_int hR.symm, b4.trans hbF⟩
      | 3, hz, hlt, hk =>
        have hrc : wr.cell? ⟨w.heap.size + 1 + 1, 3, none⟩ = some (.func (.func 83) #[] #[]) := Lib.cell_of_heap hrow 3
        have hx : (keysR a b)[3]? = some (Lib.compareInt a.student b.student) := rfl
        have hAl := hAr.below (below_al wr (.cells #[.func (.func 83) #[] #[]] 123))
        have hBl := hBr.below (below_al wr (.cells #[.func (.func 83) #[] #[]] 123))
        have hNl := Lib.cell_of_heap (heap_alloc_new wr (.cells #[.func (.func 83) #[] #[]] 123)) 0
        have hbl := hbr.trans (Grows.al wr (.cells #[.func (.func 83) #[] #[]] 123))
        clear hrow hAr hBr
        go_wp2_with fail
        refine cmp_r5 w.heap.size (w.heap.size + 1) wr.heap.size 83 a b a.student b.student (wr.alloc (.cells #[.func (.func 83) #[] #[]] 123)) _ (enters_of Tryz.func83 (by kernel_rfl) rfl) (num4_any a) (num4_any b) hAl hBl hNl ?_
        intro u21_ u22_ u23_ u24_ u25_ u26_ u27_ u28_ u29_ wx hbx
        have hbF := hbl.trans hbx
        clear hAl hBl hNl hbl hbx hrc
        by_cases h0 : Lib.compareInt a.student b.student = 0
        · have hz2 : Hid (∀ j, j < 3 + 1 → (keysR a b)[j]? = some 0) := Lib.hid (next0 hz.out (by rw [hx, h0]))
          have hne : (Lib.compareInt a.student b.student != 0) = false := by simpa using h0
          generalize Lib.compareInt a.student b.student = c at hne
          clear hx h0
          go_wp2_with fail
          go_roundw
          case rel => exact ⟨3 + 1, by omega, hz2, by go_num, hbF⟩
          case measure => simp [intOf]
        · have hR := hH.out 3 _ hz.out hx h0
          have hne : (Lib.compareInt a.student b.student != 0) = true := by simpa using h0
          generalize Lib.compareInt a.student b.student = c at hne hR
          clear hx h0
          go_wp2_with fail
          go_ret
          exact ⟨ret_int hR.symm, b4.trans hbF⟩
      | 4, hz, hlt, hk =>
        have hrc : wr.cell? ⟨w.heap.size + 1 + 1, 4, none⟩ = some (.func (.func 84) #[] #[]) := Lib.cell_of_heap hrow 4
        have hx : (keysR a b)[4]? = some (Lib.compareInt a.term b.term) := rfl
        have hAl := hAr.below (below_al wr (.cells #[.func (.func 84) #[] #[]] 123))
        have hBl := hBr.below (below_al wr (.cells #[.func (.func 84) #[] #[]] 123))
        have hNl := Lib.cell_of_heap (heap_alloc_new wr (.cells #[.func (.func 84) #[] #[]] 123)) 0
        have hbl := hbr.trans (Grows.al wr (.cells #[.func (.func 84) #[] #[]] 123))
        clear hrow hAr hBr
        go_wp2_with fail
        refine cmp_r5 w.heap.size (w.heap.size + 1) wr.heap.size 84 a b a.term b.term (wr.alloc (.cells #[.func (.func 84) #[] #[]] 123)) _ (enters_of Tryz.func84 (by kernel_rfl) rfl) (num5_any a) (num5_any b) hAl hBl hNl ?_
        intro u21_ u22_ u23_ u24_ u25_ u26_ u27_ u28_ u29_ wx hbx
        have hbF := hbl.trans hbx
        clear hAl hBl hNl hbl hbx hrc
        by_cases h0 : Lib.compareInt a.term b.term = 0
        · have hz2 : Hid (∀ j, j < 4 + 1 → (keysR a b)[j]? = some 0) := Lib.hid (next0 hz.out (by rw [hx, h0]))
          have hne : (Lib.compareInt a.term b.term != 0) = false := by simpa using h0
          generalize Lib.compareInt a.term b.term = c at hne
          clear hx h0
          go_wp2_with fail
          go_roundw
          case rel => exact ⟨4 + 1, by omega, hz2, by go_num, hbF⟩
          case measure => simp [intOf]
        · have hR := hH.out 4 _ hz.out hx h0
          have hne : (Lib.compareInt a.term b.term != 0) = true := by simpa using h0
          generalize Lib.compareInt a.term b.term = c at hne hR
          clear hx h0
          go_wp2_with fail
          go_ret
          exact ⟨ret_int hR.symm, b4.trans hbF⟩
    · obtain rfl : k = 5 := by omega
      have hR := hN.out hz.out
      clear hrow hA hB hN0 hH hN hz
      have hbw := b4.trans hbr
      clear hbr b4
      go_wp2_with fail
      have hor : (wr.alloc (.cells #[.int .i64 (Lib.compareBytes a.code.data.toList b.code.data.toList), .int .i64 (Lib.compareBytes a.give.data.toList b.give.data.toList), .int .i64 (Lib.compareInt a.priority b.priority), .int .i64 (Lib.compareInt a.day b.day)] 3)).drew.heap[wr.heap.size]? = some (.cells ((tailR a b).map (Value.int .i64)).toArray 3 (0, 0)) := heap_alloc_new wr _
      have hO : Calls Tryz.prog 42 #[.slice (some ⟨wr.heap.size, 0, none⟩) 4 4] (wr.alloc (.cells #[.int .i64 (Lib.compareBytes a.code.data.toList b.code.data.toList), .int .i64 (Lib.compareBytes a.give.data.toList b.give.data.toList), .int .i64 (Lib.compareInt a.priority b.priority), .int .i64 (Lib.compareInt a.day b.day)] 3)).drew fun x w' => x = .returned (.int .i64 (orL (tailR a b))) ∧ _ = w' := orL_any wr.heap.size (tailR a b) _ hor (by show 4 ≤ 1000; omega)
      have hS0 : Grows wr wr.drew ∧ (∀ j, wr.drew.cell? ⟨w.heap.size, j, none⟩ = a.cells[j]?) ∧ (∀ j, wr.drew.cell? ⟨w.heap.size + 1, j, none⟩ = b.cells[j]?) := ⟨(Grows.refl _).drew, hAr.cell, hBr.cell⟩
      have hS1 := fun o => (show Grows wr (wr.alloc o).drew ∧ (∀ j, (wr.alloc o).drew.cell? ⟨w.heap.size, j, none⟩ = a.cells[j]?) ∧ (∀ j, (wr.alloc o).drew.cell? ⟨w.heap.size + 1, j, none⟩ = b.cells[j]?) from ⟨(Grows.al wr o).drew, (hAr.below (below_al wr o)).cell, (hBr.below (below_al wr o)).cell⟩)
      go_region_held3 (fun w' => Grows wr w' ∧ (∀ j, w'.cell? ⟨w.heap.size, j, none⟩ = a.cells[j]?) ∧ (∀ j, w'.cell? ⟨w.heap.size + 1, j, none⟩ = b.cells[j]?)) (first | exact hS0 | exact hS1 _ | assumption)
        (first
          | ((with_reducible refine (Tryz.cmp_Compare_int _ _ _).mono ?_); rintro x w1 ⟨rfl, rfl⟩)
          | ((with_reducible refine (Tryz.strings_Compare _ _ _).mono ?_); rintro x w1 ⟨rfl, rfl⟩)
          | ((with_reducible refine hO.mono ?_); rintro x w1 ⟨rfl, rfl⟩))
      go_wp2_with fail
      go_ret
      exact ⟨ret_int hR.symm, hbw.trans (Grows.al wr _).drew⟩
def lessR (a b : Req) : Bool := decide (cmpR a b < 0)













end Go.Proofs.YteopjiedjnaeiaaGreat
/- The reference's Check of a request, walked once. -/
namespace Go.Proofs.YteopjiedjnaeiaaGreat
open Go Go.RowKit Go.Sort Go.Lib
attribute [local go_sem] Req.cells
attribute [local go_sem ↓] req_eql_cells req_neq_cells
set_option maxHeartbeats 4000000 in
set_option maxRecDepth 100000 in
theorem rfCheck_any (r : Req) (hgs : r.code.size ≤ 9223372036854775807) (hks : r.give.size ≤ 9223372036854775807) (w : World) :
    Calls Tryz.prog 47 #[r.val] w fun x w' => x = .returned (.int .i64 (chkR r)) ∧ RowKit.Below w.heap.size w w' := by
  obtain ⟨a, b, cc, d, f, g, k, p, q⟩ := r
  have HC := Lib.hid (chkR_eq a b cc d f g k p q)
  generalize chkR ⟨a, b, cc, d, f, g, k, p, q⟩ = R at HC ⊢
  simp only at hgs hks
  have hb0 := below_new w (.cells #[.int .i64 a, .int .i64 b, .bool cc, .int .i64 d, .int .i64 f, .string g, .string k, .int .i64 p, .int .i64 q] 39)
  have hb1 := hb0
  by_cases h0 : a < 1
  · replace HC := Lib.hid (HC.out.trans (if_pos h0))
    go_enter Tryz.func47, Tryz.ntmps47
    go_wp2_with fail
    go_ret
    exact ⟨ret_int HC.out.symm, hb1⟩
  replace HC := Lib.hid (HC.out.trans (if_neg h0))
  by_cases h1 : 8 < a
  · replace HC := Lib.hid (HC.out.trans (if_pos h1))
    go_enter Tryz.func47, Tryz.ntmps47
    go_wp2_with fail
    go_ret
    exact ⟨ret_int HC.out.symm, hb1⟩
  replace HC := Lib.hid (HC.out.trans (if_neg h1))
  by_cases h2 : b < 1
  · replace HC := Lib.hid (HC.out.trans (if_pos h2))
    go_enter Tryz.func47, Tryz.ntmps47
    go_wp2_with fail
    go_ret
    exact ⟨ret_int HC.out.symm, hb1⟩
  replace HC := Lib.hid (HC.out.trans (if_neg h2))
  by_cases h3 : eqReq ⟨a, b, cc, d, f, g, k, p, q⟩ ⟨a, b, true, 0, 0, ⟨#[]⟩, ⟨#[]⟩, 0, 0⟩ = true
  · replace HC := Lib.hid (HC.out.trans (if_pos h3))
    obtain rfl : cc = true := by have := (eqReq_iff _ _).1 h3; simpa using (congrArg Req.cancel this)
    go_enter Tryz.func47, Tryz.ntmps47
    go_wp2_with fail
    go_ret
    exact ⟨ret_int HC.out.symm, hb1⟩
  replace HC := Lib.hid (HC.out.trans (if_neg h3))
  simp only [Bool.not_eq_true] at h3
  by_cases h4 : cc = true
  · replace HC := Lib.hid (HC.out.trans (if_pos h4))
    subst h4
    go_enter Tryz.func47, Tryz.ntmps47
    go_wp2_with fail
    go_ret
    exact ⟨ret_int HC.out.symm, hb1⟩
  replace HC := Lib.hid (HC.out.trans (if_neg h4))
  simp only [Bool.not_eq_true] at h4
  subst h4
  by_cases h5 : d < 1
  · replace HC := Lib.hid (HC.out.trans (if_pos h5))
    go_enter Tryz.func47, Tryz.ntmps47
    go_wp2_with fail
    go_ret
    exact ⟨ret_int HC.out.symm, hb1⟩
  replace HC := Lib.hid (HC.out.trans (if_neg h5))
  by_cases h6 : 999999 < d
  · replace HC := Lib.hid (HC.out.trans (if_pos h6))
    go_enter Tryz.func47, Tryz.ntmps47
    go_wp2_with fail
    go_ret
    exact ⟨ret_int HC.out.symm, hb1⟩
  replace HC := Lib.hid (HC.out.trans (if_neg h6))
  by_cases h7 : f < 0
  · replace HC := Lib.hid (HC.out.trans (if_pos h7))
    go_enter Tryz.func47, Tryz.ntmps47
    go_wp2_with fail
    go_ret
    exact ⟨ret_int HC.out.symm, hb1⟩
  replace HC := Lib.hid (HC.out.trans (if_neg h7))
  by_cases h8 : 1000 < f
  · replace HC := Lib.hid (HC.out.trans (if_pos h8))
    go_enter Tryz.func47, Tryz.ntmps47
    go_wp2_with fail
    go_ret
    exact ⟨ret_int HC.out.symm, hb1⟩
  replace HC := Lib.hid (HC.out.trans (if_neg h8))
  by_cases h9 : p < 0
  · replace HC := Lib.hid (HC.out.trans (if_pos h9))
    go_enter Tryz.func47, Tryz.ntmps47
    go_wp2_with fail
    go_ret
    exact ⟨ret_int HC.out.symm, hb1⟩
  replace HC := Lib.hid (HC.out.trans (if_neg h9))
  by_cases h10 : 100 < p
  · replace HC := Lib.hid (HC.out.trans (if_pos h10))
    go_enter Tryz.func47, Tryz.ntmps47
    go_wp2_with fail
    go_ret
    exact ⟨ret_int HC.out.symm, hb1⟩
  replace HC := Lib.hid (HC.out.trans (if_neg h10))
  have c1 := fun w => refCode_any g w hgs
  have c2 := fun w => refCode_any k w hks
  have c3 := fun w => refRight_any q w
  have hbx : ReqBox (w.alloc (.cells #[.int .i64 a, .int .i64 b, .bool false, .int .i64 d, .int .i64 f, .string g, .string k, .int .i64 p, .int .i64 q] 39)) w.heap.size ⟨a, b, false, d, f, g, k, p, q⟩ := ReqBox.new w ⟨a, b, false, d, f, g, k, p, q⟩
  by_cases h11 : codeL g.data.toList = false
  · replace HC := Lib.hid (HC.out.trans (if_pos h11))
    simp only [h11] at c1
    have hkk : ∀ z : Bool, True := fun _ => trivial
    generalize hz : codeL k.data.toList = z at c2
    go_enter Tryz.func47, Tryz.ntmps47
    go_wp2_with fail
    refine (c1 _).mono ?_
    rintro x w11 ⟨rfl, rfl⟩
    go_wp2_with fail
    refine (c2 _).mono ?_
    rintro x w12 ⟨rfl, rfl⟩
    go_wp2_with fail
    go_ret
    exact ⟨ret_int HC.out.symm, hb1⟩
  replace HC := Lib.hid (HC.out.trans (if_neg h11))
  simp only [Bool.not_eq_false] at h11
  simp only [h11] at c1
  by_cases h12 : k.toList ≠ [] ∧ codeL k.data.toList = false
  · replace HC := Lib.hid (HC.out.trans (if_pos h12))
    obtain ⟨hk1, hk2⟩ := h12
    simp only [hk2] at c2
    have hk3 : (!k.toList.isEmpty) = true := by simpa using hk1
    go_enter Tryz.func47, Tryz.ntmps47
    go_wp2_with fail
    refine (c1 _).mono ?_
    rintro x w11 ⟨rfl, rfl⟩
    go_wp2_with fail
    refine (c2 _).mono ?_
    rintro x w12 ⟨rfl, rfl⟩
    go_wp2_with fail
    go_ret
    exact ⟨ret_int HC.out.symm, hb1⟩
  replace HC := Lib.hid (HC.out.trans (if_neg h12))
  by_cases hk1 : k.toList = []
  · have hk3 : (!k.toList.isEmpty) = false := by simp [hk1]
    generalize hz : codeL k.data.toList = z at c2
    clear h12
    have hge : g.toList.isEmpty = false := code_full h11
    have h13 : ¬ (k.toList == g.toList) = true := by rw [hk1]; intro h; rw [← beq_iff_eq.1 h] at hge; simp at hge
    replace HC := Lib.hid (HC.out.trans (if_neg h13))
    simp only [Bool.not_eq_true] at h13
    by_cases h14 : rightB q = false
    · replace HC := Lib.hid (HC.out.trans (if_pos h14))
      simp only [h14] at c3
      go_enter Tryz.func47, Tryz.ntmps47
      go_wp2_with fail
      refine (c1 _).mono ?_
      rintro x w11 ⟨rfl, rfl⟩
      go_wp2_with fail
      refine (c2 _).mono ?_
      rintro x w12 ⟨rfl, rfl⟩
      go_wp2_with fail
      refine (c3 _).mono ?_
      rintro x w13 ⟨rfl, rfl⟩
      go_wp2_with fail
      go_ret
      exact ⟨ret_int HC.out.symm, hb1⟩
    replace HC := Lib.hid (HC.out.trans (if_neg h14))
    simp only [Bool.not_eq_false] at h14
    simp only [h14] at c3
    go_enter Tryz.func47, Tryz.ntmps47
    go_wp2_with fail
    refine (c1 _).mono ?_
    rintro x w11 ⟨rfl, rfl⟩
    go_wp2_with fail
    refine (c2 _).mono ?_
    rintro x w12 ⟨rfl, rfl⟩
    go_wp2_with fail
    refine (c3 _).mono ?_
    rintro x w13 ⟨rfl, rfl⟩
    go_wp2_with fail
    go_ret
    exact ⟨ret_int HC.out.symm, hb1⟩
  · have hk2 : codeL k.data.toList = true := by simpa [hk1] using h12
    simp only [hk2] at c2
    have hk3 : (!k.toList.isEmpty) = true := by simpa using hk1
    clear h12
    by_cases h13 : (k.toList == g.toList) = true
    · replace HC := Lib.hid (HC.out.trans (if_pos h13))
      go_enter Tryz.func47, Tryz.ntmps47
      go_wp2_with fail
      refine (c1 _).mono ?_
      rintro x w11 ⟨rfl, rfl⟩
      go_wp2_with fail
      refine (c2 _).mono ?_
      rintro x w12 ⟨rfl, rfl⟩
      go_wp2_with fail
      go_ret
      exact ⟨ret_int HC.out.symm, hb1⟩
    replace HC := Lib.hid (HC.out.trans (if_neg h13))
    simp only [Bool.not_eq_true] at h13
    by_cases h14 : rightB q = false
    · replace HC := Lib.hid (HC.out.trans (if_pos h14))
      simp only [h14] at c3
      go_enter Tryz.func47, Tryz.ntmps47
      go_wp2_with fail
      refine (c1 _).mono ?_
      rintro x w11 ⟨rfl, rfl⟩
      go_wp2_with fail
      refine (c2 _).mono ?_
      rintro x w12 ⟨rfl, rfl⟩
      go_wp2_with fail
      refine (c3 _).mono ?_
      rintro x w13 ⟨rfl, rfl⟩
      go_wp2_with fail
      go_ret
      exact ⟨ret_int HC.out.symm, hb1⟩
    replace HC := Lib.hid (HC.out.trans (if_neg h14))
    simp only [Bool.not_eq_false] at h14
    simp only [h14] at c3
    go_enter Tryz.func47, Tryz.ntmps47
    go_wp2_with fail
    refine (c1 _).mono ?_
    rintro x w11 ⟨rfl, rfl⟩
    go_wp2_with fail
    refine (c2 _).mono ?_
    rintro x w12 ⟨rfl, rfl⟩
    go_wp2_with fail
    refine (c3 _).mono ?_
    rintro x w13 ⟨rfl, rfl⟩
    go_wp2_with fail
    go_ret
    exact ⟨ret_int HC.out.symm, hb1⟩
end Go.Proofs.YteopjiedjnaeiaaGreat
namespace Go.Proofs.YteopjiedjnaeiaaGreat
open Go Go.RowKit Go.Sort Go.Lib
attribute [local go_sem] Req.cells

theorem ci_zero (x y : Int) : Lib.compareInt x y = 0 ↔ x = y := by unfold Lib.compareInt; split <;> (try split) <;> omega
theorem ci_lt (x y : Int) : decide (Lib.compareInt x y < 0) = decide (x < y) := by unfold Lib.compareInt; split <;> (try split) <;> simp <;> omega
theorem cb_zero : ∀ (x y : List UInt8), Lib.compareBytes x y = 0 ↔ x = y
  | [], [] => by simp [Lib.compareBytes]
  | [], _ :: _ => by simp [Lib.compareBytes]
  | _ :: _, [] => by simp [Lib.compareBytes]
  | a :: x, b :: y => by
    unfold Lib.compareBytes
    by_cases h : a < b
    · rw [if_pos h]; simp; intro e; subst e; exact absurd h (by simp)
    · rw [if_neg h]
      by_cases h2 : b < a
      · rw [if_pos h2]; simp; intro e; subst e; exact absurd h2 (by simp)
      · rw [if_neg h2, cb_zero x y]
        have : a = b := by
          have h3 : ¬ a.toNat < b.toNat := h
          have h4 : ¬ b.toNat < a.toNat := h2
          exact UInt8.toNat_inj.1 (by omega)
        simp [this]
theorem cb_lt : ∀ (x y : List UInt8), decide (Lib.compareBytes x y < 0) = Op.bytesLess x y
  | [], [] => by simp [Lib.compareBytes, Op.bytesLess]
  | [], _ :: _ => by simp [Lib.compareBytes, Op.bytesLess]
  | _ :: _, [] => by simp [Lib.compareBytes, Op.bytesLess]
  | a :: x, b :: y => by
    have ih := cb_lt x y
    unfold Lib.compareBytes Op.bytesLess
    by_cases h : a < b
    · rw [if_pos h]; simp [h]
    · rw [if_neg h]
      by_cases h2 : b < a
      · have h3 : a ≠ b := by intro e; subst e; exact absurd h2 (by simp)
        rw [if_pos h2]; simp [h, h3]
      · have h3 : a = b := by
          have h3 : ¬ a.toNat < b.toNat := h
          have h4 : ¬ b.toNat < a.toNat := h2
          exact UInt8.toNat_inj.1 (by omega)
        rw [if_neg h2, ih]; simp [h3]
theorem or_neg (x : Int) (l : List Int) : decide (orL (x :: l) < 0) = if x = 0 then decide (orL l < 0) else decide (x < 0) := by
  conv => lhs; unfold orL
  split <;> rfl
theorem tr_eq (a b : Bool) : truthN a = truthN b ↔ a = b := by cases a <;> cases b <;> simp [truthN]
theorem tr_lt (a b : Bool) (h : a ≠ b) : decide (truthN a < truthN b) = b := by cases a <;> cases b <;> simp [truthN] at h ⊢
theorem list_ba {a b : ByteArray} : a.data.toList = b.data.toList ↔ a.toList = b.toList := by rw [ByteArray.toList_eq, ByteArray.toList_eq]
theorem lessR_chain (a b : Req) : lessR a b = (if a.server = b.server then (if a.seq = b.seq then (if a.cancel = b.cancel then (if a.student = b.student then (if a.term = b.term then (if a.code.toList = b.code.toList then (if a.give.toList = b.give.toList then (if a.priority = b.priority then (decide (a.day < b.day)) else decide (a.priority < b.priority)) else Op.bytesLess a.give.toList b.give.toList) else Op.bytesLess a.code.toList b.code.toList) else decide (a.term < b.term)) else decide (a.student < b.student)) else b.cancel) else decide (a.seq < b.seq)) else decide (a.server < b.server)) := by
  unfold lessR cmpR keysR tailR
  simp only [List.cons_append, List.nil_append, or_neg, ci_zero, ci_lt, cb_zero, cb_lt, tr_eq, ← ByteArray.toList_eq]
  have h0 : decide (orL [] < 0) = false := rfl
  by_cases hc : a.cancel = b.cancel
  · simp only [hc, if_true, h0]
    repeat' split
    all_goals first | rfl | (simp_all)
  · simp only [hc, if_false, tr_lt _ _ hc]
theorem lessR_lit (a0 a1 : Int) (a2 : Bool) (a3 a4 : Int) (a5 a6 : ByteArray) (a7 a8 : Int) (b0 b1 : Int) (b2 : Bool) (b3 b4 : Int) (b5 b6 : ByteArray) (b7 b8 : Int) : lessR ⟨a0, a1, a2, a3, a4, a5, a6, a7, a8⟩ ⟨b0, b1, b2, b3, b4, b5, b6, b7, b8⟩ = (if a0 = b0 then (if a1 = b1 then (if a2 = b2 then (if a3 = b3 then (if a4 = b4 then (if a5.toList = b5.toList then (if a6.toList = b6.toList then (if a7 = b7 then (decide (a8 < b8)) else decide (a7 < b7)) else Op.bytesLess a6.toList b6.toList) else Op.bytesLess a5.toList b5.toList) else decide (a4 < b4)) else decide (a3 < b3)) else b2) else decide (a1 < b1)) else decide (a0 < b0)) := lessR_chain _ _
set_option maxHeartbeats 4000000 in
set_option maxRecDepth 100000 in
theorem rfLess_any (a b : Req) (w : World) : Calls Tryz.prog 75 #[a.val, b.val] w fun x w' => x = .returned (.bool (lessR a b)) ∧ RowKit.Below w.heap.size w w' := by
  obtain ⟨a0, a1, a2, a3, a4, a5, a6, a7, a8⟩ := a
  obtain ⟨b0, b1, b2, b3, b4, b5, b6, b7, b8⟩ := b
  have HC := Lib.hid (lessR_lit a0 a1 a2 a3 a4 a5 a6 a7 a8 b0 b1 b2 b3 b4 b5 b6 b7 b8)
  generalize lessR ⟨a0, a1, a2, a3, a4, a5, a6, a7, a8⟩ ⟨b0, b1, b2, b3, b4, b5, b6, b7, b8⟩ = R at HC ⊢
  have hb2 : RowKit.Below w.heap.size w ((w.alloc (.cells #[.int .i64 a0, .int .i64 a1, .bool a2, .int .i64 a3, .int .i64 a4, .string a5, .string a6, .int .i64 a7, .int .i64 a8] 39)).alloc (.cells #[.int .i64 b0, .int .i64 b1, .bool b2, .int .i64 b3, .int .i64 b4, .string b5, .string b6, .int .i64 b7, .int .i64 b8] 39)) := ((Below.refl _ _).alloc (Nat.le_refl _) _).alloc (by simp) _
  by_cases h0 : a0 = b0
  rotate_left 1
  · replace HC := Lib.hid (HC.out.trans (if_neg h0))
    have t0 : (a0 == b0) = false := by simpa using h0
    have n0 : (a0 != b0) = true := by simpa using h0
    clear h0
    go_enter Tryz.func75, Tryz.ntmps75
    go_wp2_with fail
    go_ret
    exact ⟨ret_bool HC.out.symm, hb2⟩
  replace HC := Lib.hid (HC.out.trans (if_pos h0))
  have t0 : (a0 == b0) = true := by simpa using h0
  have n0 : (a0 != b0) = false := by simpa using h0
  clear h0
  by_cases h1 : a1 = b1
  rotate_left 1
  · replace HC := Lib.hid (HC.out.trans (if_neg h1))
    have t1 : (a1 == b1) = false := by simpa using h1
    have n1 : (a1 != b1) = true := by simpa using h1
    clear h1
    go_enter Tryz.func75, Tryz.ntmps75
    go_wp2_with fail
    go_ret
    exact ⟨ret_bool HC.out.symm, hb2⟩
  replace HC := Lib.hid (HC.out.trans (if_pos h1))
  have t1 : (a1 == b1) = true := by simpa using h1
  have n1 : (a1 != b1) = false := by simpa using h1
  clear h1
  by_cases h2 : a2 = b2
  rotate_left 1
  · replace HC := Lib.hid (HC.out.trans (if_neg h2))
    have t2 : (a2 == b2) = false := by simpa using h2
    have n2 : (a2 != b2) = true := by simpa using h2
    clear h2
    go_enter Tryz.func75, Tryz.ntmps75
    go_wp2_with fail
    go_ret
    exact ⟨ret_bool HC.out.symm, hb2⟩
  replace HC := Lib.hid (HC.out.trans (if_pos h2))
  have t2 : (a2 == b2) = true := by simpa using h2
  have n2 : (a2 != b2) = false := by simpa using h2
  clear h2
  by_cases h3 : a3 = b3
  rotate_left 1
  · replace HC := Lib.hid (HC.out.trans (if_neg h3))
    have t3 : (a3 == b3) = false := by simpa using h3
    have n3 : (a3 != b3) = true := by simpa using h3
    clear h3
    go_enter Tryz.func75, Tryz.ntmps75
    go_wp2_with fail
    go_ret
    exact ⟨ret_bool HC.out.symm, hb2⟩
  replace HC := Lib.hid (HC.out.trans (if_pos h3))
  have t3 : (a3 == b3) = true := by simpa using h3
  have n3 : (a3 != b3) = false := by simpa using h3
  clear h3
  by_cases h4 : a4 = b4
  rotate_left 1
  · replace HC := Lib.hid (HC.out.trans (if_neg h4))
    have t4 : (a4 == b4) = false := by simpa using h4
    have n4 : (a4 != b4) = true := by simpa using h4
    clear h4
    go_enter Tryz.func75, Tryz.ntmps75
    go_wp2_with fail
    go_ret
    exact ⟨ret_bool HC.out.symm, hb2⟩
  replace HC := Lib.hid (HC.out.trans (if_pos h4))
  have t4 : (a4 == b4) = true := by simpa using h4
  have n4 : (a4 != b4) = false := by simpa using h4
  clear h4
  by_cases h5 : a5.toList = b5.toList
  rotate_left 1
  · replace HC := Lib.hid (HC.out.trans (if_neg h5))
    have t5 : (a5.toList == b5.toList) = false := by simpa using h5
    have n5 : (a5.toList != b5.toList) = true := by simpa using h5
    clear h5
    go_enter Tryz.func75, Tryz.ntmps75
    go_wp2_with fail
    go_ret
    exact ⟨ret_bool HC.out.symm, hb2⟩
  replace HC := Lib.hid (HC.out.trans (if_pos h5))
  have t5 : (a5.toList == b5.toList) = true := by simpa using h5
  have n5 : (a5.toList != b5.toList) = false := by simpa using h5
  clear h5
  by_cases h6 : a6.toList = b6.toList
  rotate_left 1
  · replace HC := Lib.hid (HC.out.trans (if_neg h6))
    have t6 : (a6.toList == b6.toList) = false := by simpa using h6
    have n6 : (a6.toList != b6.toList) = true := by simpa using h6
    clear h6
    go_enter Tryz.func75, Tryz.ntmps75
    go_wp2_with fail
    go_ret
    exact ⟨ret_bool HC.out.symm, hb2⟩
  replace HC := Lib.hid (HC.out.trans (if_pos h6))
  have t6 : (a6.toList == b6.toList) = true := by simpa using h6
  have n6 : (a6.toList != b6.toList) = false := by simpa using h6
  clear h6
  by_cases h7 : a7 = b7
  rotate_left 1
  · replace HC := Lib.hid (HC.out.trans (if_neg h7))
    have t7 : (a7 == b7) = false := by simpa using h7
    have n7 : (a7 != b7) = true := by simpa using h7
    clear h7
    go_enter Tryz.func75, Tryz.ntmps75
    go_wp2_with fail
    go_ret
    exact ⟨ret_bool HC.out.symm, hb2⟩
  replace HC := Lib.hid (HC.out.trans (if_pos h7))
  have t7 : (a7 == b7) = true := by simpa using h7
  have n7 : (a7 != b7) = false := by simpa using h7
  clear h7
  go_enter Tryz.func75, Tryz.ntmps75
  go_wp2_with fail
  go_ret
  exact ⟨ret_bool HC.out.symm, hb2⟩
end Go.Proofs.YteopjiedjnaeiaaGreat
