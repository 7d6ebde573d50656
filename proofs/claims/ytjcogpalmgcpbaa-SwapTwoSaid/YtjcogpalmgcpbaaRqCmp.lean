/- request.compare and Less: each walked once. -/
import Derived.Test.YtjcogpalmgcpbaaRqNum
import Derived.Test.YtjcogpalmgcpbaaQFlow
import Derived.Laws.EntriesVeiled
import Derived.Deep.RegionHeld3
namespace Go.Proofs.Ytjcogpalmgcpbaa
open Go Go.RowKit Go.Sort Go.Lib
attribute [local go_sem] Req.cells

theorem cmp_keep {W w w' : World} {ab bb nb : Nat} {a b : Req} {u : Value} (h : Grows W w ∧ (∀ j, w.cell? ⟨ab, j, none⟩ = a.cells[j]?) ∧ (∀ j, w.cell? ⟨bb, j, none⟩ = b.cells[j]?) ∧ w.cell? ⟨nb, 0, none⟩ = some u) (hb0 : Grows w w') :
    Grows W w' ∧ (∀ j, w'.cell? ⟨ab, j, none⟩ = a.cells[j]?) ∧ (∀ j, w'.cell? ⟨bb, j, none⟩ = b.cells[j]?) ∧ w'.cell? ⟨nb, 0, none⟩ = some u := by
  have hb := hb0.toB
  have h0 : w.cell? ⟨ab, 0, none⟩ = some (.int .i64 a.server) := h.2.1 0
  have h1 : w.cell? ⟨bb, 0, none⟩ = some (.int .i64 b.server) := h.2.2.1 0
  have l0 : ab < w.heap.size := World.block_lt_of_cell? w _ h0
  have l1 : bb < w.heap.size := World.block_lt_of_cell? w _ h1
  exact ⟨h.1.trans hb0, fun j => (hb.cell (p := ⟨ab, j, none⟩) l0).trans (h.2.1 j), fun j => (hb.cell (p := ⟨bb, j, none⟩) l1).trans (h.2.2.1 j), (hb.cell (World.block_lt_of_cell? w _ h.2.2.2)).trans h.2.2.2⟩
/-- A whole request loaded out of its block. -/
theorem flow_req {ops : Array Oper} {Q : Exit → Act → World → Prop} {S : World → Prop} {i : Nat} {σ : List (Nat × Bool)} {a : Act} {w : World} (oi : Oper) (e : Req) (b : Nat) (hi : ops[i]? = some oi) (hw : Region.wanted oi (yielded ops a.tmps) = true)
    (p : Operand) (ho : oi.op = .load 37 p) (hp : a.eval p = .pointer (some ⟨b, 0, none⟩)) (hc : ∀ w, S w → ∀ j, w.cell? ⟨b, j, none⟩ = e.cells[j]?)
    (h : wpFlow Try.prog ops Q S σ (a.put oi.dst e.val) w) : wpFlow Try.prog ops Q S ((i, true) :: σ) a w :=
  flow_take oi e.val hi hw (fun w hS => by
    have hat : ReqAt w b 0 e := fun j v hv => by rw [Nat.zero_add, hc w hS j]; simpa using hv
    have hl := req_load w b 0 e hat
    unfold execOp
    simp only [ho, hp, Sem.run_bind, Sem.run_pure, hl, Result.andThen_ok]) h
/-- A call of a function value, of one argument, that comes up alone. -/
theorem flow_callv {P : Program} {ops : Array Oper} {Q : Exit → Act → World → Prop} {S : World → Prop} {i : Nat} {σ : List (Nat × Bool)} {a : Act} {w : World} (oi : Oper) (hi : ops[i]? = some oi) (hw : Region.wanted oi (yielded ops a.tmps) = true) (f : FuncId) (x y : Operand) (t : TypeId)
    (ho : oi.op = .call { callee := .value x, args := #[y], argTypes := #[t] }) (hx : a.eval x = .func (.func f) #[] #[]) (v : Value) (hy : a.eval y = v) (hc : ∀ xs w, (callFunc f xs).run P w = .ok (.enter f xs) w) {R : Ending → World → Prop} (h : Calls P f #[v] w R)
    (hK : ∀ e w', R e w' → ∃ u, e = .returned u ∧ S w' ∧ wpFlow P ops Q S σ (a.put oi.dst u) w') : wpFlow P ops Q S ((i, false) :: σ) a w := by
  refine flow_op oi hi hw ?_
  obtain ⟨dst, op, type, pos, after, guard⟩ := oi
  simp only at ho
  subst ho
  unfold Oper.wp
  have hr : ∀ ρ : Operand → Value, ρ x = .func (.func f) #[] #[] → ρ y = v → (execOp ρ ⟨dst, .call { callee := .value x, args := #[y], argTypes := #[t] }, type, pos, after, guard⟩).run P w = .ok (.enter f #[v]) w := by
    intro ρ hx hy
    unfold execOp
    simp [hx, hy, hc, go_sem]
  rw [hr _ hx hy, Oper.upon_enter]
  refine h.mono fun e w' hR => ?_
  obtain ⟨u, rfl, hk⟩ := hK e w' hR
  exact hk
set_option maxHeartbeats 4000000 in
set_option maxRecDepth 100000 in
theorem cmp_r5 {s0 s1 s4 s5 s6 s8 s9 s10 s11 s12 s13 s14 s15 s16 s17 s18 s19 s20 s21 s22 s23 s24 s25 s26 s27 s28 s29 s30 s31 s32 s33 s34 s35 s36 s37 s38 s39 s40 s41 s42 s43 s44 s45 s46 s47 s48 s49 s50 s51 s52 s53 s54 s55 : Value} (ab bb nb : Nat) (F : FuncId) (a b : Req) (x y : Int) (W : World) (Q : Exit → Act → World → Prop) (eg : ∀ xs w, (callFunc F xs).run Try.prog w = .ok (.enter F xs) w)
    (cx : ∀ w, Calls Try.prog F #[a.val] w fun e w' => e = .returned (.int .i64 x) ∧ Grows w w') (cy : ∀ w, Calls Try.prog F #[b.val] w fun e w' => e = .returned (.int .i64 y) ∧ Grows w w')
    (ha : ReqBox W ab a) (hb : ReqBox W bb b) (hn : W.cell? ⟨nb, 0, none⟩ = some (.func (.func F) #[] #[]))
    (hQ : ∀ (u21 u22 u23 u24 u25 u26 u27 u28 u29 : Value) (wx : World), Grows W wx → Q .normal ⟨List.toArray (s0 :: s1 :: .pointer (some ⟨ab, 0, none⟩) :: .pointer (some ⟨bb, 0, none⟩) :: s4 :: s5 :: s6 :: .pointer (some ⟨nb, 0, none⟩) :: .int .i64 (Lib.compareInt x y) :: s9 :: s10 :: s11 :: s12 :: s13 :: s14 :: s15 :: s16 :: s17 :: s18 :: s19 :: s20 :: u21 :: u22 :: u23 :: u24 :: u25 :: u26 :: u27 :: u28 :: u29 :: s30 :: s31 :: s32 :: s33 :: s34 :: s35 :: s36 :: s37 :: s38 :: s39 :: s40 :: s41 :: s42 :: s43 :: s44 :: s45 :: s46 :: s47 :: s48 :: s49 :: s50 :: s51 :: s52 :: s53 :: s54 :: s55 :: []), []⟩ wx) :
    (regionOf Try.f51 5).wp Try.prog Q ⟨List.toArray (s0 :: s1 :: .pointer (some ⟨ab, 0, none⟩) :: .pointer (some ⟨bb, 0, none⟩) :: s4 :: s5 :: s6 :: .pointer (some ⟨nb, 0, none⟩) :: s8 :: s9 :: s10 :: s11 :: s12 :: s13 :: s14 :: s15 :: s16 :: s17 :: s18 :: s19 :: s20 :: s21 :: s22 :: s23 :: s24 :: s25 :: s26 :: s27 :: s28 :: s29 :: s30 :: s31 :: s32 :: s33 :: s34 :: s35 :: s36 :: s37 :: s38 :: s39 :: s40 :: s41 :: s42 :: s43 :: s44 :: s45 :: s46 :: s47 :: s48 :: s49 :: s50 :: s51 :: s52 :: s53 :: s54 :: s55 :: []), []⟩ W := by
  refine of_onlyN (K := Q .normal) ?_ (fun _ _ h => h)
  generalize Q .normal = K at hQ ⊢
  have HQ := Lib.hid hQ; clear hQ
  conv => arg 2; whnf
  have hS0 : Grows W W.drew ∧ (∀ j, W.drew.cell? ⟨ab, j, none⟩ = a.cells[j]?) ∧ (∀ j, W.drew.cell? ⟨bb, j, none⟩ = b.cells[j]?) ∧ W.drew.cell? ⟨nb, 0, none⟩ = some (.func (.func F) #[] #[]) := ⟨(Grows.refl _).drew, ha.cell, hb.cell, hn⟩
  refine of_onlyN ?_ (fun _ _ h => h)
  refine wp_region_flow (S := fun w' => Grows W w' ∧ (∀ j, w'.cell? ⟨ab, j, none⟩ = a.cells[j]?) ∧ (∀ j, w'.cell? ⟨bb, j, none⟩ = b.cells[j]?) ∧ w'.cell? ⟨nb, 0, none⟩ = some (.func (.func F) #[] #[])) [(0, true), (1, true), (2, true), (4, true), (5, true), (6, true), (3, false), (7, false), (8, false), (9, true)] (by kernel_rfl) (by kernel_rfl) (by kernel_rfl) (by decide) (hS0) ?_
  have hS := hS0
  refine flow_take ⟨some 21, _, _, _, _, _⟩ ?_ rfl (by rfl) ?_ ?_
  rotate_left 1
  · intro w hSw; (try dsimp only at hSw); go_simp; (try with_reducible rfl)
  simp only [Act.put, List.setIfInBounds_toArray, List.set_cons_zero, List.set_cons_succ]
  refine flow_take ⟨some 22, _, _, _, _, _⟩ ?_ rfl (by rfl) ?_ ?_
  rotate_left 1
  · intro w hSw; (try dsimp only at hSw); go_simp; (try with_reducible rfl)
  simp only [Act.put, List.setIfInBounds_toArray, List.set_cons_zero, List.set_cons_succ]
  refine flow_req ⟨some 23, _, _, _, _, _⟩ a ab rfl (by rfl) _ (by rfl) (by rfl) (fun w hS => hS.2.1) ?_
  (try simp only [Act.put, List.setIfInBounds_toArray, List.set_cons_zero, List.set_cons_succ])
  refine flow_take ⟨some 25, _, _, _, _, _⟩ ?_ rfl (by rfl) ?_ ?_
  rotate_left 1
  · intro w hSw; (try dsimp only at hSw); go_simp; (try with_reducible rfl)
  simp only [Act.put, List.setIfInBounds_toArray, List.set_cons_zero, List.set_cons_succ]
  refine flow_take ⟨some 26, _, _, _, _, _⟩ ?_ rfl (by rfl) ?_ ?_
  rotate_left 1
  · intro w hSw; (try dsimp only at hSw); go_simp; (try with_reducible rfl)
  simp only [Act.put, List.setIfInBounds_toArray, List.set_cons_zero, List.set_cons_succ]
  refine flow_req ⟨some 27, _, _, _, _, _⟩ b bb rfl (by rfl) _ (by rfl) (by rfl) (fun w hS => hS.2.2.1) ?_
  (try simp only [Act.put, List.setIfInBounds_toArray, List.set_cons_zero, List.set_cons_succ])
  refine flow_callv ⟨some 24, _, _, _, _, _⟩ rfl (by rfl) F _ _ _ (by rfl) (by rfl) a.val (by rfl) eg (cx _) ?_; rintro x' wn ⟨rfl, hb1⟩; replace hS := cmp_keep hS hb1; refine ⟨_, rfl, hS, ?_⟩; clear hb1
  (try simp only [Act.put, List.setIfInBounds_toArray, List.set_cons_zero, List.set_cons_succ])
  refine flow_callv ⟨some 28, _, _, _, _, _⟩ rfl (by rfl) F _ _ _ (by rfl) (by rfl) b.val (by rfl) eg (cy _) ?_; rintro x' wn ⟨rfl, hb1⟩; replace hS := cmp_keep hS hb1; refine ⟨_, rfl, hS, ?_⟩; clear hb1
  (try simp only [Act.put, List.setIfInBounds_toArray, List.set_cons_zero, List.set_cons_succ])
  refine flow_call ⟨some 29, _, _, _, _, _⟩ rfl (by rfl) 64 _ _ (by rfl) _ (by rfl) Try.call64 (Try.cmp_Compare_int _ _ _) ?_; rintro x wn ⟨rfl, rfl⟩; refine ⟨_, rfl, hS, ?_⟩
  simp only [Act.put, List.setIfInBounds_toArray, List.set_cons_zero, List.set_cons_succ]
  refine flow_take ⟨some 8, _, _, _, _, _⟩ ?_ rfl (by rfl) ?_ ?_
  rotate_left 1
  · intro w hSw; (try dsimp only at hSw); go_simp; (try with_reducible rfl)
  simp only [Act.put, List.setIfInBounds_toArray, List.set_cons_zero, List.set_cons_succ]
  simp only [wpFlow, OnlyN]
  exact HQ.out _ _ _ _ _ _ _ _ _ _ hS.1
theorem below_al (w : World) (o : Obj) : RowKit.Below w.heap.size w (w.alloc o) := (Below.refl _ _).alloc (Nat.le_refl _) _
theorem Req_lt {w : World} {b : Nat} {o : Obj} (h : w.heap[b]? = some o) : b < w.heap.size := by
  rcases Nat.lt_or_ge b w.heap.size with h' | h'
  · exact h'
  · rw [Array.getElem?_eq_none h'] at h; cases h
/-- The five numbers that are compared first; what is compared behind them. -/
def keysR (a b : Req) : List Int := [Lib.compareInt a.server b.server, Lib.compareInt a.seq b.seq, Lib.compareInt (truthN a.cancel) (truthN b.cancel), Lib.compareInt a.student b.student, Lib.compareInt a.term b.term]
def tailR (a b : Req) : List Int := [Lib.compareBytes a.code.data.toList b.code.data.toList, Lib.compareBytes a.give.data.toList b.give.data.toList, Lib.compareInt a.priority b.priority, Lib.compareInt a.day b.day]
def cmpR (a b : Req) : Int := orL (keysR a b ++ tailR a b)
theorem orL_app : ∀ (l m : List Int), (∀ j, j < l.length → l[j]? = some 0) → orL (l ++ m) = orL m
  | [], _, _ => rfl
  | a :: l, m, h0 => by
    have ha := h0 0 (by simp)
    simp only [List.getElem?_cons_zero, Option.some.injEq] at ha
    rw [List.cons_append]
    conv => lhs; unfold orL
    rw [if_pos ha]
    exact orL_app l m (fun j hj => by have := h0 (j + 1) (by simp; omega); simpa using this)
theorem cmpR_hit (a b : Req) (k : Nat) (x : Int) (h : ∀ j, j < k → (keysR a b)[j]? = some 0) (hx : (keysR a b)[k]? = some x) (h0 : x ≠ 0) : cmpR a b = x := by
  have hk : k < (keysR a b).length := by
    rcases Nat.lt_or_ge k (keysR a b).length with h | h
    · exact h
    · rw [List.getElem?_eq_none h] at hx; cases hx
  exact orL_hit _ k x (fun j hj => by rw [List.getElem?_append_left (by omega)]; exact h j hj) (by rw [List.getElem?_append_left hk]; exact hx) h0
theorem cmpR_none (a b : Req) (h : ∀ j, j < 5 → (keysR a b)[j]? = some 0) : cmpR a b = orL (tailR a b) := orL_app _ _ h
theorem next0 {l : List Int} {k : Nat} (h : ∀ j, j < k → l[j]? = some 0) (hx : l[k]? = some 0) : ∀ j, j < k + 1 → l[j]? = some 0 := fun j hj => by
  rcases Nat.lt_or_ge j k with h' | h'
  · exact h j h'
  · obtain rfl : j = k := by omega
    exact hx
set_option maxHeartbeats 8000000 in
set_option maxRecDepth 100000 in
theorem compare_any (a b : Req) (w : World) :
    Calls Try.prog 51 #[a.val, b.val] w fun x w' => x = .returned (.int .i64 (cmpR a b)) ∧ Grows w w' := by
  have hH := Lib.hid (cmpR_hit a b)
  have hN := Lib.hid (cmpR_none a b)
  generalize cmpR a b = R at hH hN ⊢
  go_enter Try.func51, Try.ntmps51
  go_wp2_with fail
  have hA := ReqBox.new w a
  have hB := ReqBox.new (w.alloc (.cells a.cells 37)) b
  have hN0 := heap_alloc_new ((w.alloc (.cells a.cells 37)).alloc (.cells b.cells 37)) (.cells #[.func (.func 58) #[] #[], .func (.func 59) #[] #[], .func (.func 60) #[] #[], .func (.func 62) #[] #[], .func (.func 63) #[] #[]] 109)
  have b1 : RowKit.Below w.heap.size w (w.alloc (.cells a.cells 37)) := (Below.refl _ _).alloc (Nat.le_refl _) _
  have b2 := (Below.refl (w.alloc (.cells a.cells 37)).heap.size (w.alloc (.cells a.cells 37))).alloc (Nat.le_refl _) (.cells b.cells 37)
  have b3 := (Below.refl ((w.alloc (.cells a.cells 37)).alloc (.cells b.cells 37)).heap.size ((w.alloc (.cells a.cells 37)).alloc (.cells b.cells 37))).alloc (Nat.le_refl _) (.cells #[.func (.func 58) #[] #[], .func (.func 59) #[] #[], .func (.func 60) #[] #[], .func (.func 62) #[] #[], .func (.func 63) #[] #[]] 109)
  replace hA := (hA.below b2).below b3
  replace hB := hB.below b3
  have b4 := ((Grows.al w (.cells a.cells 37)).trans (Grows.al _ (.cells b.cells 37))).trans (Grows.al _ (.cells #[.func (.func 58) #[] #[], .func (.func 59) #[] #[], .func (.func 60) #[] #[], .func (.func 62) #[] #[], .func (.func 63) #[] #[]] 109))
  simp only [World.size_alloc] at hB hN0
  clear b1 b2 b3
  go_loopw [17] (fun i wr => ∃ k : Nat, k ≤ 5 ∧ Hid (∀ j, j < k → (keysR a b)[j]? = some 0) ∧ i = .int .i64 k ∧ Grows (((w.alloc (.cells a.cells 37)).alloc (.cells b.cells 37)).alloc (.cells #[.func (.func 58) #[] #[], .func (.func 59) #[] #[], .func (.func 60) #[] #[], .func (.func 62) #[] #[], .func (.func 63) #[] #[]] 109)) wr) (fun i _ => 5 - (intOf i).toNat)
  case atStart => exact ⟨0, Nat.zero_le _, Lib.hid (by omega), rfl, Grows.refl _⟩
  case round =>
    obtain ⟨k, hk, hz, rfl, hbr⟩ := hrel
    have hrow := (hbr.toB.block _ (Req_lt hN0)).trans hN0
    have hAr := hA.below hbr.toB
    have hBr := hB.below hbr.toB
    generalize (((w.alloc (.cells a.cells 37)).alloc (.cells b.cells 37)).alloc (.cells #[.func (.func 58) #[] #[], .func (.func 59) #[] #[], .func (.func 60) #[] #[], .func (.func 62) #[] #[], .func (.func 63) #[] #[]] 109)) = W0 at *
    by_cases hlt : k < 5
    · match k, hz, hlt, hk with
      | 0, hz, hlt, hk =>
        have hrc : wr.cell? ⟨w.heap.size + 1 + 1, 0, none⟩ = some (.func (.func 58) #[] #[]) := Lib.cell_of_heap hrow 0
        have hx : (keysR a b)[0]? = some (Lib.compareInt a.server b.server) := rfl
        have hAl := hAr.below (below_al wr (.cells #[.func (.func 58) #[] #[]] 109))
        have hBl := hBr.below (below_al wr (.cells #[.func (.func 58) #[] #[]] 109))
        have hNl := Lib.cell_of_heap (heap_alloc_new wr (.cells #[.func (.func 58) #[] #[]] 109)) 0
        have hbl := hbr.trans (Grows.al wr (.cells #[.func (.func 58) #[] #[]] 109))
        clear hrow hAr hBr
        go_wp2_with fail
        refine cmp_r5 w.heap.size (w.heap.size + 1) wr.heap.size 58 a b a.server b.server (wr.alloc (.cells #[.func (.func 58) #[] #[]] 109)) _ (enters_of Try.func58 (by kernel_rfl) rfl) (num1_any a) (num1_any b) hAl hBl hNl ?_
        intro u21_ u22_ u23_ u24_ u25_ u26_ u27_ u28_ u29_ wx hbx
        have hbF := hbl.trans hbx
        clear hAl hBl hNl hbl hbx hrc
        by_cases h0 : Lib.compareInt a.server b.server = 0
        · have hz2 : Hid (∀ j, j < 0 + 1 → (keysR a b)[j]? = some 0) := Lib.hid (next0 hz.out (by rw [hx, h0]))
          have hne : (Lib.compareInt a.server b.server != 0) = false := by simpa using h0
          generalize Lib.compareInt a.server b.server = c at hne
          clear hx h0
          go_wp2_with fail
          go_roundw
          case rel => exact ⟨0 + 1, by omega, hz2, by go_num, hbF⟩
          case measure => simp [intOf]
        · have hR := hH.out 0 _ hz.out hx h0
          have hne : (Lib.compareInt a.server b.server != 0) = true := by simpa using h0
          generalize Lib.compareInt a.server b.server = c at hne hR
          clear hx h0
          go_wp2_with fail
          go_ret
          exact ⟨ret_int hR.symm, b4.trans hbF⟩
      | 1, hz, hlt, hk =>
        have hrc : wr.cell? ⟨w.heap.size + 1 + 1, 1, none⟩ = some (.func (.func 59) #[] #[]) := Lib.cell_of_heap hrow 1
        have hx : (keysR a b)[1]? = some (Lib.compareInt a.seq b.seq) := rfl
        have hAl := hAr.below (below_al wr (.cells #[.func (.func 59) #[] #[]] 109))
        have hBl := hBr.below (below_al wr (.cells #[.func (.func 59) #[] #[]] 109))
        have hNl := Lib.cell_of_heap (heap_alloc_new wr (.cells #[.func (.func 59) #[] #[]] 109)) 0
        have hbl := hbr.trans (Grows.al wr (.cells #[.func (.func 59) #[] #[]] 109))
        clear hrow hAr hBr
        go_wp2_with fail
        refine cmp_r5 w.heap.size (w.heap.size + 1) wr.heap.size 59 a b a.seq b.seq (wr.alloc (.cells #[.func (.func 59) #[] #[]] 109)) _ (enters_of Try.func59 (by kernel_rfl) rfl) (num2_any a) (num2_any b) hAl hBl hNl ?_
        intro u21_ u22_ u23_ u24_ u25_ u26_ u27_ u28_ u29_ wx hbx
        have hbF := hbl.trans hbx
        clear hAl hBl hNl hbl hbx hrc
        by_cases h0 : Lib.compareInt a.seq b.seq = 0
        · have hz2 : Hid (∀ j, j < 1 + 1 → (keysR a b)[j]? = some 0) := Lib.hid (next0 hz.out (by rw [hx, h0]))
          have hne : (Lib.compareInt a.seq b.seq != 0) = false := by simpa using h0
          generalize Lib.compareInt a.seq b.seq = c at hne
          clear hx h0
          go_wp2_with fail
          go_roundw
          case rel => exact ⟨1 + 1, by omega, hz2, by go_num, hbF⟩
          case measure => simp [intOf]
        · have hR := hH.out 1 _ hz.out hx h0
          have hne : (Lib.compareInt a.seq b.seq != 0) = true := by simpa using h0
          generalize Lib.compareInt a.seq b.seq = c at hne hR
          clear hx h0
          go_wp2_with fail
          go_ret
          exact ⟨ret_int hR.symm, b4.trans hbF⟩
      | 2, hz, hlt, hk =>
        have hrc : wr.cell? ⟨w.heap.size + 1 + 1, 2, none⟩ = some (.func (.func 60) #[] #[]) := Lib.cell_of_heap hrow 2
        have hx : (keysR a b)[2]? = some (Lib.compareInt (truthN a.cancel) (truthN b.cancel)) := rfl
        have hAl := hAr.below (below_al wr (.cells #[.func (.func 60) #[] #[]] 109))
        have hBl := hBr.below (below_al wr (.cells #[.func (.func 60) #[] #[]] 109))
        have hNl := Lib.cell_of_heap (heap_alloc_new wr (.cells #[.func (.func 60) #[] #[]] 109)) 0
        have hbl := hbr.trans (Grows.al wr (.cells #[.func (.func 60) #[] #[]] 109))
        clear hrow hAr hBr
        go_wp2_with fail
        refine cmp_r5 w.heap.size (w.heap.size + 1) wr.heap.size 60 a b (truthN a.cancel) (truthN b.cancel) (wr.alloc (.cells #[.func (.func 60) #[] #[]] 109)) _ (enters_of Try.func60 (by kernel_rfl) rfl) (num3_any a) (num3_any b) hAl hBl hNl ?_
        intro u21_ u22_ u23_ u24_ u25_ u26_ u27_ u28_ u29_ wx hbx
        have hbF := hbl.trans hbx
        clear hAl hBl hNl hbl hbx hrc
        by_cases h0 : Lib.compareInt (truthN a.cancel) (truthN b.cancel) = 0
        · have hz2 : Hid (∀ j, j < 2 + 1 → (keysR a b)[j]? = some 0) := Lib.hid (next0 hz.out (by rw [hx, h0]))
          have hne : (Lib.compareInt (truthN a.cancel) (truthN b.cancel) != 0) = false := by simpa using h0
          generalize Lib.compareInt (truthN a.cancel) (truthN b.cancel) = c at hne
          clear hx h0
          go_wp2_with fail
          go_roundw
          case rel => exact ⟨2 + 1, by omega, hz2, by go_num, hbF⟩
          case measure => simp [intOf]
        · have hR := hH.out 2 _ hz.out hx h0
          have hne : (Lib.compareInt (truthN a.cancel) (truthN b.cancel) != 0) = true := by simpa using h0
          generalize Lib.compareInt (truthN a.cancel) (truthN b.cancel) = c at hne hR
          clear hx h0
          go_wp2_with fail
          go_ret
          exact ⟨ret_int hR.symm, b4.trans hbF⟩
      | 3, hz, hlt, hk =>
        have hrc : wr.cell? ⟨w.heap.size + 1 + 1, 3, none⟩ = some (.func (.func 62) #[] #[]) := Lib.cell_of_heap hrow 3
        have hx : (keysR a b)[3]? = some (Lib.compareInt a.student b.student) := rfl
        have hAl := hAr.below (below_al wr (.cells #[.func (.func 62) #[] #[]] 109))
        have hBl := hBr.below (below_al wr (.cells #[.func (.func 62) #[] #[]] 109))
        have hNl := Lib.cell_of_heap (heap_alloc_new wr (.cells #[.func (.func 62) #[] #[]] 109)) 0
        have hbl := hbr.trans (Grows.al wr (.cells #[.func (.func 62) #[] #[]] 109))
        clear hrow hAr hBr
        go_wp2_with fail
        refine cmp_r5 w.heap.size (w.heap.size + 1) wr.heap.size 62 a b a.student b.student (wr.alloc (.cells #[.func (.func 62) #[] #[]] 109)) _ (enters_of Try.func62 (by kernel_rfl) rfl) (num4_any a) (num4_any b) hAl hBl hNl ?_
        intro u21_ u22_ u23_ u24_ u25_ u26_ u27_ u28_ u29_ wx hbx
        have hbF := hbl.trans hbx
        clear hAl hBl hNl hbl hbx hrc
        by_cases h0 : Lib.compareInt a.student b.student = 0
        · have hz2 : Hid (∀ j, j < 3 + 1 → (keysR a b)[j]? = some 0) := Lib.hid (next0 hz.out (by rw [hx, h0]))
          have hne : (Lib.compareInt a.student b.student != 0) = false := by simpa using h0
          generalize Lib.compareInt a.student b.student = c at hne
          clear hx h0
          go_wp2_with fail
          go_roundw
          case rel => exact ⟨3 + 1, by omega, hz2, by go_num, hbF⟩
          case measure => simp [intOf]
        · have hR := hH.out 3 _ hz.out hx h0
          have hne : (Lib.compareInt a.student b.student != 0) = true := by simpa using h0
          generalize Lib.compareInt a.student b.student = c at hne hR
          clear hx h0
          go_wp2_with fail
          go_ret
          exact ⟨ret_int hR.symm, b4.trans hbF⟩
      | 4, hz, hlt, hk =>
        have hrc : wr.cell? ⟨w.heap.size + 1 + 1, 4, none⟩ = some (.func (.func 63) #[] #[]) := Lib.cell_of_heap hrow 4
        have hx : (keysR a b)[4]? = some (Lib.compareInt a.term b.term) := rfl
        have hAl := hAr.below (below_al wr (.cells #[.func (.func 63) #[] #[]] 109))
        have hBl := hBr.below (below_al wr (.cells #[.func (.func 63) #[] #[]] 109))
        have hNl := Lib.cell_of_heap (heap_alloc_new wr (.cells #[.func (.func 63) #[] #[]] 109)) 0
        have hbl := hbr.trans (Grows.al wr (.cells #[.func (.func 63) #[] #[]] 109))
        clear hrow hAr hBr
        go_wp2_with fail
        refine cmp_r5 w.heap.size (w.heap.size + 1) wr.heap.size 63 a b a.term b.term (wr.alloc (.cells #[.func (.func 63) #[] #[]] 109)) _ (enters_of Try.func63 (by kernel_rfl) rfl) (num5_any a) (num5_any b) hAl hBl hNl ?_
        intro u21_ u22_ u23_ u24_ u25_ u26_ u27_ u28_ u29_ wx hbx
        have hbF := hbl.trans hbx
        clear hAl hBl hNl hbl hbx hrc
        by_cases h0 : Lib.compareInt a.term b.term = 0
        · have hz2 : Hid (∀ j, j < 4 + 1 → (keysR a b)[j]? = some 0) := Lib.hid (next0 hz.out (by rw [hx, h0]))
          have hne : (Lib.compareInt a.term b.term != 0) = false := by simpa using h0
          generalize Lib.compareInt a.term b.term = c at hne
          clear hx h0
          go_wp2_with fail
          go_roundw
          case rel => exact ⟨4 + 1, by omega, hz2, by go_num, hbF⟩
          case measure => simp [intOf]
        · have hR := hH.out 4 _ hz.out hx h0
          have hne : (Lib.compareInt a.term b.term != 0) = true := by simpa using h0
          generalize Lib.compareInt a.term b.term = c at hne hR
          clear hx h0
          go_wp2_with fail
          go_ret
          exact ⟨ret_int hR.symm, b4.trans hbF⟩
    · obtain rfl : k = 5 := by omega
      have hR := hN.out hz.out
      clear hrow hA hB hN0 hH hN hz
      have hbw := b4.trans hbr
      clear hbr b4
      go_wp2_with fail
      have hor : (wr.alloc (.cells #[.int .i64 (Lib.compareBytes a.code.data.toList b.code.data.toList), .int .i64 (Lib.compareBytes a.give.data.toList b.give.data.toList), .int .i64 (Lib.compareInt a.priority b.priority), .int .i64 (Lib.compareInt a.day b.day)] 3)).drew.heap[wr.heap.size]? = some (.cells ((tailR a b).map (Value.int .i64)).toArray 3 (0, 0)) := heap_alloc_new wr _
      have hO : Calls Try.prog 65 #[.slice (some ⟨wr.heap.size, 0, none⟩) 4 4] (wr.alloc (.cells #[.int .i64 (Lib.compareBytes a.code.data.toList b.code.data.toList), .int .i64 (Lib.compareBytes a.give.data.toList b.give.data.toList), .int .i64 (Lib.compareInt a.priority b.priority), .int .i64 (Lib.compareInt a.day b.day)] 3)).drew fun x w' => x = .returned (.int .i64 (orL (tailR a b))) ∧ _ = w' := orL_any wr.heap.size (tailR a b) _ hor (by show 4 ≤ 1000; omega)
      have hS0 : Grows wr wr.drew ∧ (∀ j, wr.drew.cell? ⟨w.heap.size, j, none⟩ = a.cells[j]?) ∧ (∀ j, wr.drew.cell? ⟨w.heap.size + 1, j, none⟩ = b.cells[j]?) := ⟨(Grows.refl _).drew, hAr.cell, hBr.cell⟩
      have hS1 := fun o => (show Grows wr (wr.alloc o).drew ∧ (∀ j, (wr.alloc o).drew.cell? ⟨w.heap.size, j, none⟩ = a.cells[j]?) ∧ (∀ j, (wr.alloc o).drew.cell? ⟨w.heap.size + 1, j, none⟩ = b.cells[j]?) from ⟨(Grows.al wr o).drew, (hAr.below (below_al wr o)).cell, (hBr.below (below_al wr o)).cell⟩)
      go_region_held3 (fun w' => Grows wr w' ∧ (∀ j, w'.cell? ⟨w.heap.size, j, none⟩ = a.cells[j]?) ∧ (∀ j, w'.cell? ⟨w.heap.size + 1, j, none⟩ = b.cells[j]?)) (first | exact hS0 | exact hS1 _ | assumption)
        (first
          | ((with_reducible refine (Try.cmp_Compare_int _ _ _).mono ?_); rintro x w1 ⟨rfl, rfl⟩)
          | ((with_reducible refine (Try.strings_Compare _ _ _).mono ?_); rintro x w1 ⟨rfl, rfl⟩)
          | ((with_reducible refine hO.mono ?_); rintro x w1 ⟨rfl, rfl⟩))
      go_wp2_with fail
      go_ret
      exact ⟨ret_int hR.symm, hbw.trans (Grows.al wr _).drew⟩
def lessR (a b : Req) : Bool := decide (cmpR a b < 0)













end Go.Proofs.Ytjcogpalmgcpbaa
