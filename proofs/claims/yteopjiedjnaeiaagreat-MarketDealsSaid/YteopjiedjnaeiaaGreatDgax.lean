/- quadriviumlaw28.Raw.cut: a short catalog, few seats, few requests. -/
import Derived.Test.YteopjiedjnaeiaaGreatDgaw
import Derived.Test.YteopjiedjnaeiaaGreatDgat
import Derived.Test.YteopjiedjnaeiaaGreatDgaa
import Derived.Laws.Cover1
import Derived.BigRegion
namespace Go.Proofs.YteopjiedjnaeiaaGreat
open Go Go.Proofs Go.RowKit Go.Maps Go.Sort Go.Lib
attribute [local go_sem] Off.cells

/-- The head of a slice. -/
theorem run_head (t te : TypeId) (hu : Tryz.prog.underlying t = some (.slice te)) (hz : ∀ w, (sizeOf te).run Tryz.prog w = .ok (Tryz.prog.cellsOf te) w) (p : Option Addr) (n c m : Nat) (hm : m ≤ n) (hc : n ≤ c) (hp : p = none → c = 0) (w : World) : (Instr.sliceAt t (.slice p n c) none (some (.int .i64 m)) none).run Tryz.prog w = .ok (.slice p m c) w := by
  have h1 : (m : Int) ≤ (c : Int) := by omega
  have h2 : (m : Int) ≤ (n : Int) := by omega
  cases p with
  | none =>
    obtain rfl := hp rfl
    obtain rfl : n = 0 := by omega
    obtain rfl : m = 0 := by omega
    go_simp
  | some a =>
    go_simp
theorem set_heap {w : World} {g : Nat} {cs : Array Value} {t : TypeId} (h : w.heap[g]? = some (.cells cs t (0, 0))) (j : Nat) (u : Value) : (w.setCell ⟨g, j, none⟩ u).heap[g]? = some (.cells (cs.setIfInBounds j u) t (0, 0)) := by
  simp [World.setCell, Array.getElem?_modify, h]
theorem set_heap_ne {w : World} {g g' : Nat} (hne : g' ≠ g) (j : Nat) (u : Value) : (w.setCell ⟨g', j, none⟩ u).heap[g]? = w.heap[g]? := by
  simp [World.setCell, Array.getElem?_modify, hne]
/-- While a raw catalog is cut. -/
structure CutSt (w0 : World) (ob : Nat) (K : List Off) (ov : Value) (w : World) : Prop where
  keep : w0.grownBy w (some ob)
  box : w.heap[ob]? = some (.cells #[ov, .slice none 0 0, .int .i64 0, .slice none 0 0] 32 (0, 0))
  rows : w.ownsRow w0.heap.size 57 5 ov K.length (flatE Off.cells K)
  low : ob < w0.heap.size
theorem CutSt.lt {w0 w : World} {ob : Nat} {K : List Off} {ov : Value} (h : CutSt w0 ob K ov w) : ob < w.heap.size := (Array.getElem?_eq_some_iff.1 h.box).1
theorem CutSt.below {w0 w w' : World} {ob : Nat} {K : List Off} {ov : Value} (h : CutSt w0 ob K ov w) (hb : RowKit.Below w.heap.size w w') : CutSt w0 ob K ov w' :=
  ⟨grows_trans h.keep (below_grows hb), (hb.block ob h.lt).trans h.box, h.rows.kept (row := none) (below_grows hb) (by cases ov.ownBlock <;> simp), h.low⟩
theorem CutSt.after {w0 w w' : World} {ob : Nat} {K Y : List Off} {ov v' : Value} (h : CutSt w0 ob K ov w) (hA : AppT Off.cells 5 57 w w0.heap.size ov K Y v' w') : w'.heap[ob]? = some (.cells #[ov, .slice none 0 0, .int .i64 0, .slice none 0 0] 32 (0, 0)) := by
  have hov : ∀ q, ov.ownBlock = some q → w0.heap.size ≤ q := fun q hq => (own_lo h.rows hq).1
  have hlt := h.low
  exact (hA.grown.block ob h.lt (fun e => by have := hov ob e.symm; omega)).trans h.box
theorem CutSt.add {w0 w w' : World} {ob : Nat} {K : List Off} {ov v' : Value} {o : Off} (h : CutSt w0 ob K ov w) (hA : AppT Off.cells 5 57 w w0.heap.size ov K [o] v' w') : CutSt w0 ob (K ++ [o]) v' (w'.setCell ⟨ob, 0, none⟩ v') := by
  have hov : ∀ q, ov.ownBlock = some q → w0.heap.size ≤ q := fun q hq => (own_lo h.rows hq).1
  have hlt := h.low
  have hne : some ob ≠ ov.ownBlock := fun e => by have := hov ob e.symm; omega
  have hbx : w'.heap[ob]? = some (.cells #[ov, .slice none 0 0, .int .i64 0, .slice none 0 0] 32 (0, 0)) := (hA.grown.block ob h.lt (fun e => hne e)).trans h.box
  exact ⟨grows_trans (grow_keep h.keep hA.grown hov) (Only.setCell _ ob 0 _ 0), set_heap hbx 0 v', own_set hA.own hlt _ _, hlt⟩
theorem flow_head {ops : Array Oper} {Q : Exit → Act → World → Prop} {S : World → Prop} {i : Nat} {σ : List (Nat × Bool)} {a : Act} {w : World} (oi : Oper) (hi : ops[i]? = some oi) (hw : Region.wanted oi (yielded ops a.tmps) = true) (t te : TypeId) (x y : Operand) (ho : oi.op = .slice t x none (some y) none) (hu : Tryz.prog.underlying t = some (.slice te)) (hz : ∀ w, (sizeOf te).run Tryz.prog w = .ok (Tryz.prog.cellsOf te) w)
    (p : Option Addr) (n c m : Nat) (hx : a.eval x = .slice p n c) (hy : a.eval y = .int .i64 m) (hm : m ≤ n) (hc : n ≤ c) (hp : p = none → c = 0)
    (h : wpFlow Tryz.prog ops Q S σ (a.put oi.dst (.slice p m c)) w) : wpFlow Tryz.prog ops Q S ((i, true) :: σ) a w :=
  flow_take oi (.slice p m c) hi hw (fun w _ => by
    unfold execOp
    simp only [ho, hx, hy, Option.map_some, Option.map_none, Sem.run_bind, Sem.run_pure, run_head t te hu hz p n c m hm hc hp w, Result.andThen_ok]) h
/-- .. a store. -/
theorem flow_store {P : Program} {ops : Array Oper} {Q : Exit → Act → World → Prop} {S : World → Prop} {i : Nat} {σ : List (Nat × Bool)} {a : Act} {w : World} (oi : Oper) (w' : World) (hi : ops[i]? = some oi) (hw : Region.wanted oi (yielded ops a.tmps) = true) (hr : (execOp a.eval oi).run P w = .ok .skip w')
    (hS : S w') (h : wpFlow P ops Q S σ (a.put oi.dst undef) w') : wpFlow P ops Q S ((i, false) :: σ) a w :=
  flow_op oi hi hw (by unfold Oper.wp; rw [hr, Oper.upon_skip]; exact ⟨hS, h⟩)

set_option maxHeartbeats 4000000 in
set_option maxRecDepth 100000 in
theorem rc_r9 {s0 s2 s4 s5 s6 s7 s8 s9 s10 s11 s12 s13 s14 s15 s16 s17 s18 s19 s20 s21 s22 s23 s24 s25 s26 s27 s28 s29 s30 s31 s32 s33 s34 s35 s36 s37 s38 s39 s40 s41 s42 s43 s44 s45 s46 s47 s48 s49 s50 s51 s52 s53 s54 s55 s56 : Value} (g1 g3 n1 n2 c1 c2 m1 m2 : Nat) (p1 p2 : Option Addr) (N : Int) (ov ow : Value) (W : World) (Q : Exit → Act → World → Prop) (h1 : W.heap[g1]? = some (.cells #[ov, .slice p1 n1 c1, .int .i64 N, .slice p2 n2 c2] 32 (0, 0))) (h3 : W.heap[g3]? = some (.cells #[ow, .slice none 0 0, .int .i64 0, .slice none 0 0] 32 (0, 0))) (hne : g3 ≠ g1) (hc1 : n1 ≤ c1) (hc2 : n2 ≤ c2) (hm1 : m1 ≤ n1) (hm2 : m2 ≤ n2) (hp1 : p1 = none → c1 = 0) (hp2 : p2 = none → c2 = 0) (e1 : min (n1 : Int) 8 = (m1 : Int)) (e2 : min (n2 : Int) 6 = (m2 : Int))
    (hQ : ∀ (u37 u38 u39 u40 u41 u42 u43 u44 u45 u46 u47 u48 u49 u50 u51 u52 u53 u54 u55 : Value) (wx : World), wx = ((W.drew.setCell ⟨g3, 1, none⟩ (.slice p1 m1 c1)).setCell ⟨g3, 2, none⟩ (.int .i64 N)).setCell ⟨g3, 3, none⟩ (.slice p2 m2 c2) → Q .normal ⟨List.toArray (s0 :: .pointer (some ⟨g1, 0, none⟩) :: s2 :: .pointer (some ⟨g3, 0, none⟩) :: s4 :: s5 :: s6 :: s7 :: s8 :: s9 :: s10 :: s11 :: s12 :: s13 :: s14 :: s15 :: s16 :: s17 :: s18 :: s19 :: s20 :: s21 :: s22 :: s23 :: s24 :: s25 :: s26 :: s27 :: s28 :: s29 :: s30 :: s31 :: s32 :: s33 :: s34 :: s35 :: s36 :: u37 :: u38 :: u39 :: u40 :: u41 :: u42 :: u43 :: u44 :: u45 :: u46 :: u47 :: u48 :: u49 :: u50 :: u51 :: u52 :: u53 :: u54 :: u55 :: s56 :: []), []⟩ wx) :
    (regionOf Tryz.f5 9).wp Tryz.prog Q ⟨List.toArray (s0 :: .pointer (some ⟨g1, 0, none⟩) :: s2 :: .pointer (some ⟨g3, 0, none⟩) :: s4 :: s5 :: s6 :: s7 :: s8 :: s9 :: s10 :: s11 :: s12 :: s13 :: s14 :: s15 :: s16 :: s17 :: s18 :: s19 :: s20 :: s21 :: s22 :: s23 :: s24 :: s25 :: s26 :: s27 :: s28 :: s29 :: s30 :: s31 :: s32 :: s33 :: s34 :: s35 :: s36 :: s37 :: s38 :: s39 :: s40 :: s41 :: s42 :: s43 :: s44 :: s45 :: s46 :: s47 :: s48 :: s49 :: s50 :: s51 :: s52 :: s53 :: s54 :: s55 :: s56 :: []), []⟩ W := by
  refine of_onlyN (K := Q .normal) ?_ (fun _ _ h => h)
  generalize Q .normal = K at hQ ⊢
  have HQ := Lib.hid hQ; clear hQ
  conv => arg 2; whnf
  have hS0 : ∀ j, W.drew.cell? ⟨g1, j, none⟩ = (#[ov, .slice p1 n1 c1, .int .i64 N, .slice p2 n2 c2] : Array Value)[j]? := fun j => Lib.cell_of_heap h1 j
  have hx0 : W.drew.heap[g3]? = some (.cells #[ow, .slice none 0 0, .int .i64 0, .slice none 0 0] 32 (0, 0)) := h3
  have hx1 := set_heap hx0 1 (.slice p1 m1 c1)
  have hx2 := set_heap hx1 2 (.int .i64 N)
  have k1 : ∀ j, (W.drew.setCell ⟨g3, 1, none⟩ (.slice p1 m1 c1)).cell? ⟨g1, j, none⟩ = (#[ov, .slice p1 n1 c1, .int .i64 N, .slice p2 n2 c2] : Array Value)[j]? := fun j => Lib.cell_of_heap (by rw [set_heap_ne hne]; exact h1) j
  have k2 : ∀ j, ((W.drew.setCell ⟨g3, 1, none⟩ (.slice p1 m1 c1)).setCell ⟨g3, 2, none⟩ (.int .i64 N)).cell? ⟨g1, j, none⟩ = (#[ov, .slice p1 n1 c1, .int .i64 N, .slice p2 n2 c2] : Array Value)[j]? := fun j => Lib.cell_of_heap (by rw [set_heap_ne hne, set_heap_ne hne]; exact h1) j
  have k3 : ∀ j, (((W.drew.setCell ⟨g3, 1, none⟩ (.slice p1 m1 c1)).setCell ⟨g3, 2, none⟩ (.int .i64 N)).setCell ⟨g3, 3, none⟩ (.slice p2 m2 c2)).cell? ⟨g1, j, none⟩ = (#[ov, .slice p1 n1 c1, .int .i64 N, .slice p2 n2 c2] : Array Value)[j]? := fun j => Lib.cell_of_heap (by rw [set_heap_ne hne, set_heap_ne hne, set_heap_ne hne]; exact h1) j
  have fz0 := Lib.frozen_of_heap hx0 1
  have fz1 := Lib.frozen_of_heap hx1 2
  have fz2 := Lib.frozen_of_heap hx2 3
  have cc0 := Lib.cell_of_heap hx0 1
  have cc1 := Lib.cell_of_heap hx1 2
  have cc2 := Lib.cell_of_heap hx2 3
  have fw : ∀ j, W.frozen? ⟨g3, j, none⟩ = false := fun j => Lib.frozen_of_heap h3 j
  have cw : ∀ j, W.cell? ⟨g3, j, none⟩ = (#[ow, .slice none 0 0, .int .i64 0, .slice none 0 0] : Array Value)[j]? := fun j => Lib.cell_of_heap h3 j
  simp at cc0 cc1 cc2
  refine of_onlyN ?_ (fun _ _ h => h)
  refine wp_region_flow (S := fun w' => ∀ j, w'.cell? ⟨g1, j, none⟩ = (#[ov, .slice p1 n1 c1, .int .i64 N, .slice p2 n2 c2] : Array Value)[j]?) [(0, true), (1, true), (2, true), (3, true), (4, true), (5, true), (6, true), (7, true), (8, true), (9, true), (10, true), (11, true), (12, true), (13, true), (14, true), (15, true), (16, true), (17, false), (18, true), (19, false), (20, true), (21, false)] (by kernel_rfl) (by kernel_rfl) (by kernel_rfl) (by decide) (hS0) ?_
  have hS := hS0
  refine flow_take ⟨some 37, _, _, _, _, _⟩ ?_ rfl (by rfl) ?_ ?_
  rotate_left 1
  · intro w hSw; (try dsimp only at hSw); go_simp; (try with_reducible rfl)
  simp only [Act.put, List.setIfInBounds_toArray, List.set_cons_zero, List.set_cons_succ]
  refine flow_take ⟨some 38, _, _, _, _, _⟩ ?_ rfl (by rfl) ?_ ?_
  rotate_left 1
  · intro w hSw; (try dsimp only at hSw); go_simp; (try with_reducible rfl)
  simp only [Act.put, List.setIfInBounds_toArray, List.set_cons_zero, List.set_cons_succ]
  refine flow_take ⟨some 39, _, _, _, _, _⟩ ?_ rfl (by rfl) ?_ ?_
  rotate_left 1
  · intro w hSw; (try dsimp only at hSw); go_simp; (try with_reducible rfl)
  simp only [Act.put, List.setIfInBounds_toArray, List.set_cons_zero, List.set_cons_succ]
  refine flow_take ⟨some 40, _, _, _, _, _⟩ ?_ rfl (by rfl) ?_ ?_
  rotate_left 1
  · intro w hSw; (try dsimp only at hSw); go_simp; (try with_reducible rfl)
  simp only [Act.put, List.setIfInBounds_toArray, List.set_cons_zero, List.set_cons_succ]
  refine flow_take ⟨some 41, _, _, _, _, _⟩ ?_ rfl (by rfl) ?_ ?_
  rotate_left 1
  · intro w hSw; (try dsimp only at hSw); go_simp; (try with_reducible rfl)
  simp only [Act.put, List.setIfInBounds_toArray, List.set_cons_zero, List.set_cons_succ]
  refine flow_take ⟨some 42, _, _, _, _, _⟩ ?_ rfl (by rfl) ?_ ?_
  rotate_left 1
  · intro w hSw; (try dsimp only at hSw); go_simp; (try with_reducible rfl)
  simp only [Act.put, List.setIfInBounds_toArray, List.set_cons_zero, List.set_cons_succ]
  refine flow_head ⟨some 43, _, _, _, _, _⟩ rfl (by rfl) 29 53 (.tmp 38) (.tmp 42) rfl Tryz.underlying29 Tryz.sizeOf53 p1 n1 c1 m1 (by rfl) (by rfl) hm1 hc1 hp1 ?_
  (try simp only [Act.put, List.setIfInBounds_toArray, List.set_cons_zero, List.set_cons_succ])
  refine flow_take ⟨some 44, _, _, _, _, _⟩ ?_ rfl (by rfl) ?_ ?_
  rotate_left 1
  · intro w hSw; (try dsimp only at hSw); go_simp; (try with_reducible rfl)
  simp only [Act.put, List.setIfInBounds_toArray, List.set_cons_zero, List.set_cons_succ]
  refine flow_take ⟨some 45, _, _, _, _, _⟩ ?_ rfl (by rfl) ?_ ?_
  rotate_left 1
  · intro w hSw; (try dsimp only at hSw); go_simp; (try with_reducible rfl)
  simp only [Act.put, List.setIfInBounds_toArray, List.set_cons_zero, List.set_cons_succ]
  refine flow_take ⟨some 46, _, _, _, _, _⟩ ?_ rfl (by rfl) ?_ ?_
  rotate_left 1
  · intro w hSw; (try dsimp only at hSw); go_simp; (try with_reducible rfl)
  simp only [Act.put, List.setIfInBounds_toArray, List.set_cons_zero, List.set_cons_succ]
  refine flow_take ⟨some 47, _, _, _, _, _⟩ ?_ rfl (by rfl) ?_ ?_
  rotate_left 1
  · intro w hSw; (try dsimp only at hSw); go_simp; (try with_reducible rfl)
  simp only [Act.put, List.setIfInBounds_toArray, List.set_cons_zero, List.set_cons_succ]
  refine flow_take ⟨some 48, _, _, _, _, _⟩ ?_ rfl (by rfl) ?_ ?_
  rotate_left 1
  · intro w hSw; (try dsimp only at hSw); go_simp; (try with_reducible rfl)
  simp only [Act.put, List.setIfInBounds_toArray, List.set_cons_zero, List.set_cons_succ]
  refine flow_take ⟨some 49, _, _, _, _, _⟩ ?_ rfl (by rfl) ?_ ?_
  rotate_left 1
  · intro w hSw; (try dsimp only at hSw); go_simp; (try with_reducible rfl)
  simp only [Act.put, List.setIfInBounds_toArray, List.set_cons_zero, List.set_cons_succ]
  refine flow_take ⟨some 50, _, _, _, _, _⟩ ?_ rfl (by rfl) ?_ ?_
  rotate_left 1
  · intro w hSw; (try dsimp only at hSw); go_simp; (try with_reducible rfl)
  simp only [Act.put, List.setIfInBounds_toArray, List.set_cons_zero, List.set_cons_succ]
  refine flow_take ⟨some 51, _, _, _, _, _⟩ ?_ rfl (by rfl) ?_ ?_
  rotate_left 1
  · intro w hSw; (try dsimp only at hSw); go_simp; (try with_reducible rfl)
  simp only [Act.put, List.setIfInBounds_toArray, List.set_cons_zero, List.set_cons_succ]
  refine flow_head ⟨some 52, _, _, _, _, _⟩ rfl (by rfl) 30 39 (.tmp 47) (.tmp 51) rfl Tryz.underlying30 Tryz.sizeOf39 p2 n2 c2 m2 (by rfl) (by rfl) hm2 hc2 hp2 ?_
  (try simp only [Act.put, List.setIfInBounds_toArray, List.set_cons_zero, List.set_cons_succ])
  refine flow_take ⟨some 53, _, _, _, _, _⟩ ?_ rfl (by rfl) ?_ ?_
  rotate_left 1
  · intro w hSw; (try dsimp only at hSw); go_simp; (try with_reducible rfl)
  simp only [Act.put, List.setIfInBounds_toArray, List.set_cons_zero, List.set_cons_succ]
  refine flow_store ⟨none, _, _, _, _, _⟩ (W.drew.setCell ⟨g3, 1, none⟩ (.slice p1 m1 c1)) rfl (by rfl) (by go_simp) k1 ?_; replace hS := k1
  (try simp only [Act.put])
  refine flow_take ⟨some 54, _, _, _, _, _⟩ ?_ rfl (by rfl) ?_ ?_
  rotate_left 1
  · intro w hSw; (try dsimp only at hSw); go_simp; (try with_reducible rfl)
  simp only [Act.put, List.setIfInBounds_toArray, List.set_cons_zero, List.set_cons_succ]
  refine flow_store ⟨none, _, _, _, _, _⟩ ((W.drew.setCell ⟨g3, 1, none⟩ (.slice p1 m1 c1)).setCell ⟨g3, 2, none⟩ (.int .i64 N)) rfl (by rfl) (by go_simp) k2 ?_; replace hS := k2
  (try simp only [Act.put])
  refine flow_take ⟨some 55, _, _, _, _, _⟩ ?_ rfl (by rfl) ?_ ?_
  rotate_left 1
  · intro w hSw; (try dsimp only at hSw); go_simp; (try with_reducible rfl)
  simp only [Act.put, List.setIfInBounds_toArray, List.set_cons_zero, List.set_cons_succ]
  refine flow_store ⟨none, _, _, _, _, _⟩ (((W.drew.setCell ⟨g3, 1, none⟩ (.slice p1 m1 c1)).setCell ⟨g3, 2, none⟩ (.int .i64 N)).setCell ⟨g3, 3, none⟩ (.slice p2 m2 c2)) rfl (by rfl) (by go_simp) k3 ?_; replace hS := k3
  (try simp only [Act.put])
  simp only [wpFlow, OnlyN]
  exact HQ.out _ _ _ _ _ _ _ _ _ _ _ _ _ _ _ _ _ _ _ _ rfl

theorem below_set {B b j : Nat} {w w' : World} {u : Value} (h : RowKit.Below B w w') (hb : B ≤ b) (hs : B ≤ w'.heap.size) : RowKit.Below B w (w'.setCell ⟨b, j, none⟩ u) :=
  h.grown (Only.setCell w' b j u 0) hs (fun q hq => by cases hq; exact hb)
/-- A raw catalog, seats and requests, cut short. -/
structure RawC (w : World) (B : Nat) (w' : World) (v : Value) (ov sv lv : Value) (L : List Off) (M : List Seat) (n : Int) (R : List Req) : Prop where
  eq : v = .agg #[ov, sv, .int .i64 n, lv]
  offs : w'.ownsRow B 57 5 ov L.length (flatE Off.cells L)
  offG : ∀ o ∈ L, OffOk w o ∧ o.slots.length ≤ 4 ∧ o.needs = [] ∧ o.code.size ≤ maxLen
  offN : L.length ≤ 4
  seats : RowIn Seat.cells w sv M
  seatG : ∀ s ∈ M, s.wf
  seatN : M.length ≤ 8
  reqs : RowIn encR w lv R
  reqG : ∀ r ∈ R, r.wf
  reqN : R.length ≤ 6
def cutO (o : Off) : Off := ⟨o.code, o.credits, o.places, o.sp, o.sc, none, 0, o.slots.take 4, []⟩
set_option maxHeartbeats 8000000 in
set_option maxRecDepth 100000 in
theorem rawcut_any (v ov sv lv : Value) (L : List Off) (M : List Seat) (n : Int) (R : List Req) (w0 w : World) (hb0 : RowKit.Below w0.heap.size w0 w) (h : RawW w0 v ov sv lv L M n R) :
    Calls Tryz.prog 5 #[v] w fun e w' => ∃ v' ov' sv' lv' L' M' R', e = .returned v' ∧ RawC w0 w.heap.size w' v' ov' sv' lv' L' M' n R' ∧ RowKit.Below w.heap.size w w' := by
  have HR := Lib.hid h
  obtain ⟨pO, cO, rfl, lO, zO, -⟩ := h.offs
  obtain ⟨pS, cS, rfl, lS, zS, -⟩ := h.seats
  obtain ⟨pR, cR, rfl, lR, zR, -⟩ := h.reqs
  obtain rfl := h.eq
  have nO := h.offN
  unfold maxLen at nO
  clear h
  go_enter Tryz.func5, Tryz.ntmps5
  go_wp2_with fail
  obtain ⟨g1, hg1⟩ : ∃ g1, w.heap.size = g1 := ⟨_, rfl⟩
  rw [hg1]
  obtain ⟨g3, hg3⟩ : ∃ g3, g1 + 1 + 1 = g3 := ⟨_, rfl⟩
  rw [hg3]
  have hT := three_new w (.cells #[.slice pO L.length cO, .slice pS M.length cS, .int .i64 n, .slice pR R.length cR] 32) (.cells #[.slice none 0 0, .slice none 0 0, .int .i64 0, .slice none 0 0] 32) (.cells #[.slice none 0 0, .slice none 0 0, .int .i64 0, .slice none 0 0] 32)
  have hB := ((below_alloc1 w (.cells #[.slice pO L.length cO, .slice pS M.length cS, .int .i64 n, .slice pR R.length cR] 32)).alloc (by simp) (.cells #[.slice none 0 0, .slice none 0 0, .int .i64 0, .slice none 0 0] 32)).alloc (by simp <;> omega) (.cells #[.slice none 0 0, .slice none 0 0, .int .i64 0, .slice none 0 0] 32)
  have hZ : (((w.alloc (.cells #[.slice pO L.length cO, .slice pS M.length cS, .int .i64 n, .slice pR R.length cR] 32)).alloc (.cells #[.slice none 0 0, .slice none 0 0, .int .i64 0, .slice none 0 0] 32)).alloc (.cells #[.slice none 0 0, .slice none 0 0, .int .i64 0, .slice none 0 0] 32)).heap.size = g1 + 3 := by simp [hg1]
  generalize (((w.alloc (.cells #[.slice pO L.length cO, .slice pS M.length cS, .int .i64 n, .slice pR R.length cR] 32)).alloc (.cells #[.slice none 0 0, .slice none 0 0, .int .i64 0, .slice none 0 0] 32)).alloc (.cells #[.slice none 0 0, .slice none 0 0, .int .i64 0, .slice none 0 0] 32)) = W3 at hT hB hZ ⊢
  obtain ⟨hT1, hT2, hT3⟩ := hT
  rw [hg1] at hT1 hT2 hT3
  rw [hg3] at hT3
  have hZ3 : g3 < W3.heap.size := by omega
  have hst0 : CutSt W3 g3 [] (.slice none 0 0) W3 := ⟨⟨rfl, rfl, rfl, Nat.le_refl _, fun _ _ _ => rfl⟩, hT3, World.ownsRow_nil _ _ _ _, hZ3⟩
  have HB := Lib.hid hB
  have HT1 := Lib.hid hT1
  have HT2 := Lib.hid hT2
  clear hT1 hT2 hT3 hB
  go_loopw [4] (fun u wr => ∃ (k : Nat) (K : List Off) (ow : Value), k ≤ L.length ∧ k ≤ 4 ∧ u = .int .i64 k ∧ Hid (K.length = k) ∧ Hid (∀ o ∈ K, OffOk w0 o ∧ o.slots.length ≤ 4 ∧ o.needs = [] ∧ o.code.size ≤ maxLen) ∧ CutSt W3 g3 K ow wr) (fun u _ => L.length - (RowKit.intOf u).toNat)
  case atStart => exact ⟨0, [], _, Nat.zero_le _, by omega, rfl, Lib.hid rfl, Lib.hid (by simp), hst0⟩
  case round =>
    clear hst0
    obtain ⟨k, K, ow, hk, hk4, rfl, HK, HG, hst⟩ := hrel
    have hbw : RowKit.Below w.heap.size w wr := HB.out.grown hst.keep (by omega) (fun q hq => by cases hq; omega)
    have hraw : wr.heap[g1]? = some (.cells #[.slice pO L.length cO, .slice pS M.length cS, .int .i64 n, .slice pR R.length cR] 32 (0, 0)) := (hst.keep.block g1 (by omega) (fun e => by injection e with e; omega)).trans HT1.out
    have hres : wr.heap[g1 + 1]? = some (.cells #[.slice none 0 0, .slice none 0 0, .int .i64 0, .slice none 0 0] 32 (0, 0)) := (hst.keep.block (g1 + 1) (by omega) (fun e => by injection e with e; omega)).trans HT2.out
    have hc1 : ∀ j, wr.cell? ⟨g1, j, none⟩ = (#[.slice pO L.length cO, .slice pS M.length cS, .int .i64 n, .slice pR R.length cR] : Array Value)[j]? := fun j => Lib.cell_of_heap hraw j
    by_cases hlt : k < L.length
    · have hlt' : (k : Int) < (L.length : Int) := by omega
      by_cases h4 : k < 4
      · have h4' : (k : Int) < 4 := by omega
        obtain ⟨b, o, c', hv', _, hbl, hat⟩ := HR.out.offs.at_ (k := 5) (fun _ => rfl) (by omega)
        have e1 := (Value.slice.inj hv').1
        subst e1
        obtain ⟨x, hx⟩ : ∃ x, L[k]? = some x := ⟨_, List.getElem?_eq_getElem hlt⟩
        have hatk : wr.rangeAt b (o + k * 5) x.cells := fun j u hj => by rw [(below_next hb0 hbw).cell (p := ⟨b, o + k * 5 + j, none⟩) hbl]; exact hat k x hx j u hj
        have hgo := HR.out.offG x (List.mem_of_getElem? hx)
        have HX := Lib.hid hx
        clear hv' hat hx
        obtain ⟨c, cr, pl, sp, sc, np, nc, sl, ne⟩ := x
        obtain ⟨hok, hcs, hsl⟩ := hgo
        obtain ⟨ps, cs, es, ls, zs, -⟩ := hok.slots
        obtain ⟨rfl, -, rfl⟩ := Value.slice.inj es
        have hslN : sl.length ≤ 9223372036854775807 := hsl
        have hzs : sp = none → sc = 0 := zs
        have hls : sl.length ≤ sc := ls
        obtain ⟨m, hm⟩ : ∃ m, min sl.length 4 = m := ⟨_, rfl⟩
        have hmin : min (sl.length : Int) 4 = (m : Int) := by omega
        have hmc : (m : Int) ≤ (sc : Int) := by omega
        have HMK : Hid (OffOk w0 (cutO ⟨c, cr, pl, sp, sc, np, nc, sl, ne⟩) ∧ m = (sl.take 4).length) := Lib.hid ⟨⟨by
          have h1 := hok.slots.take (m := (sl.take 4).length) rfl (by simp; omega)
          have h2 : sl.take (sl.take 4).length = sl.take 4 := by rw [List.take_eq_take_iff, List.length_take]; omega
          have h3 : RowIn encI w0 (.slice sp (sl.take 4).length sc) (sl.take (sl.take 4).length) := h1
          rw [h2] at h3
          exact h3, .nil _ _⟩, by simp; omega⟩
        have hlX : (K ++ [cutO ⟨c, cr, pl, sp, sc, np, nc, sl, ne⟩]).length = k + 1 := by simp [HK.out]
        have hb6 := below_alloc1 wr (.cells #[.string c, .int .i64 cr, .int .i64 pl, .slice sp m sc, .slice none 0 0] 57)
        have hb7 := hb6.alloc hb6.size (.cells #[.string c, .int .i64 cr, .int .i64 pl, .slice sp m sc, .slice none 0 0] 57)
        have hst6 := hst.below hb6
        have hst7 := hst.below hb7
        have hown7 := hst7.rows
        have hlit := rowIn_lit (enc := Off.cells) (e := 57) (wr.alloc (.cells #[.string c, .int .i64 cr, .int .i64 pl, .slice sp m sc, .slice none 0 0] 57)) [cutO ⟨c, cr, pl, sp, sc, np, nc, sl, ne⟩] #[.string c, .int .i64 cr, .int .i64 pl, .slice sp m sc, .slice none 0 0] (wr.heap.size + 1) (by simp) (by rw [HMK.out.2]; simp [flatE, cutO, Off.cells]) 1 rfl
        have hkK : K.length + 1 ≤ 1000000 := by rw [HK.out]; omega
        have hsz7 : W3.heap.size ≤ ((wr.alloc (.cells #[.string c, .int .i64 cr, .int .i64 pl, .slice sp m sc, .slice none 0 0] 57)).alloc (.cells #[.string c, .int .i64 cr, .int .i64 pl, .slice sp m sc, .slice none 0 0] 57)).heap.size := hst7.keep.size
        have hbx6 : ∀ j, (wr.alloc (.cells #[.string c, .int .i64 cr, .int .i64 pl, .slice sp m sc, .slice none 0 0] 57)).cell? ⟨wr.heap.size, j, none⟩ = (#[.string c, .int .i64 cr, .int .i64 pl, .slice sp m sc, .slice none 0 0] : Array Value)[j]? := fun j => Lib.cell_of_heap (heap_alloc_new wr _) j
        have hc3 : ∀ j, wr.cell? ⟨g3, j, none⟩ = (#[ow, .slice none 0 0, .int .i64 0, .slice none 0 0] : Array Value)[j]? := fun j => Lib.cell_of_heap hst.box j
        have hl3 : g3 < wr.heap.size := hst.lt
        have hl1 : g1 < wr.heap.size := by omega
        cases sp with
        | none =>
          obtain rfl : sc = 0 := hzs rfl
          obtain rfl : sl = [] := List.eq_nil_of_length_eq_zero (by omega)
          obtain rfl : m = 0 := by simp at hm; omega
          obtain ⟨po, cow, how⟩ := own_form hst.rows
          subst how
          clear hraw
          go_wp2_with (first
            | ((with_reducible refine wpList_load_mid (op := ⟨some 21, _, _, _, _, _⟩) ?_ 57 (.tmp 20) ?_ b (o + k * 5) ?_ (Off.cells ⟨c, cr, pl, none, 0, np, nc, [], ne⟩) _ ?_ Tryz.underlying57 ?_ ?_ ?_); rfl; rfl; rfl; exact hatk; rfl; kernel_rfl)
            | (at_builtin; refine wpList_append_row offT rfl (.tmp 32) (.tmp 34) rfl W3.heap.size _ _ K [cutO ⟨c, cr, pl, none, 0, np, nc, [], ne⟩] rfl rfl hown7 hlit hkK hsz7 ?_; intro v9 w9 hA9; obtain ⟨p9, c9, rfl⟩ := own_form hA9.own; have hbx9 := hst7.after hA9; have hc9 : ∀ j, w9.cell? ⟨g3, j, none⟩ = (#[.slice po K.length cow, .slice none 0 0, .int .i64 0, .slice none 0 0] : Array Value)[j]? := fun j => Lib.cell_of_heap hbx9 j; have hf9 : ∀ j, w9.frozen? ⟨g3, j, none⟩ = false := fun j => Lib.frozen_of_heap hbx9 j))
          have hstF := hst7.add hA9
          rw [hlX] at hstF
          exact ⟨⟨k + 1, _, _, by omega, by omega, by go_num, Lib.hid hlX, Lib.hid (fun y hy => by
            rcases List.mem_append.1 hy with h1 | h1
            · exact HG.out y h1
            · obtain rfl := List.mem_singleton.1 h1
              exact ⟨HMK.out.1, by simp [cutO] <;> omega, rfl, hcs⟩), hstF⟩, by simp [RowKit.intOf]; omega⟩
        | some ad =>
          obtain ⟨po, cow, how⟩ := own_form hst.rows
          subst how
          clear hraw
          go_wp2_with (first
            | ((with_reducible refine wpList_load_mid (op := ⟨some 21, _, _, _, _, _⟩) ?_ 57 (.tmp 20) ?_ b (o + k * 5) ?_ (Off.cells ⟨c, cr, pl, some ad, sc, np, nc, sl, ne⟩) _ ?_ Tryz.underlying57 ?_ ?_ ?_); rfl; rfl; rfl; exact hatk; rfl; kernel_rfl)
            | (at_builtin; refine wpList_append_row offT rfl (.tmp 32) (.tmp 34) rfl W3.heap.size _ _ K [cutO ⟨c, cr, pl, some ad, sc, np, nc, sl, ne⟩] rfl rfl hown7 hlit hkK hsz7 ?_; intro v9 w9 hA9; obtain ⟨p9, c9, rfl⟩ := own_form hA9.own; have hbx9 := hst7.after hA9; have hc9 : ∀ j, w9.cell? ⟨g3, j, none⟩ = (#[.slice po K.length cow, .slice none 0 0, .int .i64 0, .slice none 0 0] : Array Value)[j]? := fun j => Lib.cell_of_heap hbx9 j; have hf9 : ∀ j, w9.frozen? ⟨g3, j, none⟩ = false := fun j => Lib.frozen_of_heap hbx9 j))
          have hstF := hst7.add hA9
          rw [hlX] at hstF
          exact ⟨⟨k + 1, _, _, by omega, by omega, by go_num, Lib.hid hlX, Lib.hid (fun y hy => by
            rcases List.mem_append.1 hy with h1 | h1
            · exact HG.out y h1
            · obtain rfl := List.mem_singleton.1 h1
              exact ⟨HMK.out.1, by simp [cutO] <;> omega, rfl, hcs⟩), hstF⟩, by simp [RowKit.intOf]; omega⟩
      · obtain rfl : k = 4 := by omega
        obtain ⟨po, cow, how⟩ := own_form hst.rows
        subst how
        go_wp2_with fail
        obtain ⟨mS, hmS⟩ : ∃ m, min M.length 8 = m := ⟨_, rfl⟩
        obtain ⟨mR, hmR⟩ : ∃ m, min R.length 6 = m := ⟨_, rfl⟩
        refine rc_r9 g1 g3 M.length R.length cS cR mS mR pS pR n _ _ wr _ hraw hst.box (by omega) lS lR (by omega) (by omega) zS zR (by omega) (by omega) ?_
        intros
        rename_i wx hwx
        have hx3 : wx.heap[g3]? = some (.cells #[.slice po K.length cow, .slice pS mS cS, .int .i64 n, .slice pR mR cR] 32 (0, 0)) := by rw [hwx]; exact set_heap (set_heap (set_heap hst.box 1 _) 2 _) 3 _
        have hx2 : wx.heap[g1 + 1]? = some (.cells #[.slice none 0 0, .slice none 0 0, .int .i64 0, .slice none 0 0] 32 (0, 0)) := by rw [hwx, set_heap_ne (by omega), set_heap_ne (by omega), set_heap_ne (by omega)]; exact hres
        have hw3 : ∀ j, wx.cell? ⟨g3, j, none⟩ = (#[.slice po K.length cow, .slice pS mS cS, .int .i64 n, .slice pR mR cR] : Array Value)[j]? := fun j => Lib.cell_of_heap hx3 j
        have hw2 : ∀ j, wx.cell? ⟨g1 + 1, j, none⟩ = (#[.slice none 0 0, .slice none 0 0, .int .i64 0, .slice none 0 0] : Array Value)[j]? := fun j => Lib.cell_of_heap hx2 j
        have hf2 : ∀ j, wx.frozen? ⟨g1 + 1, j, none⟩ = false := fun j => Lib.frozen_of_heap hx2 j
        have HWX := Lib.hid hwx
        clear hwx
        go_wp2_with fail
        obtain ⟨wz, hwz⟩ : ∃ wz, (((wx.setCell ⟨g1 + 1, 0, none⟩ (.slice po K.length cow)).setCell ⟨g1 + 1, 1, none⟩ (.slice pS mS cS)).setCell ⟨g1 + 1, 2, none⟩ (.int .i64 n)).setCell ⟨g1 + 1, 3, none⟩ (.slice pR mR cR) = wz := ⟨_, rfl⟩
        have hz2 : wz.heap[g1 + 1]? = some (.cells #[.slice po K.length cow, .slice pS mS cS, .int .i64 n, .slice pR mR cR] 32 (0, 0)) := by rw [← hwz]; exact set_heap (set_heap (set_heap (set_heap hx2 0 _) 1 _) 2 _) 3 _
        have hown : wz.ownsRow W3.heap.size 57 5 (.slice po K.length cow) K.length (flatE Off.cells K) := by
          rw [← hwz, HWX.out]
          exact own_set (own_set (own_set (own_set (own_set (own_set (own_set (hst.rows.kept (row := none) (below_grows (Below.refl _ _).drew) (by cases (Value.slice po K.length cow).ownBlock <;> simp)) (by omega) _ _) (by omega) _ _) (by omega) _ _) (by omega) _ _) (by omega) _ _) (by omega) _ _) (by omega) _ _
        have hbz : RowKit.Below w.heap.size w wz := by
          rw [← hwz, HWX.out]
          have hs := hbw.size
          exact below_set (below_set (below_set (below_set (below_set (below_set (below_set hbw.drew (by omega) hs) (by omega) (by simpa using hs)) (by omega) (by simpa using hs)) (by omega) (by simpa using hs)) (by omega) (by simpa using hs)) (by omega) (by simpa using hs)) (by omega) (by simpa using hs)
        have HP : Hid (∃ v' ov' sv' lv' L' M' R', (.returned (.agg #[.slice po K.length cow, .slice pS mS cS, .int .i64 n, .slice pR mR cR]) : Ending) = .returned v' ∧ RawC w0 w.heap.size wz v' ov' sv' lv' L' M' n R' ∧ RowKit.Below w.heap.size w wz) := Lib.hid
          ⟨_, _, _, _, K, M.take mS, R.take mR, rfl, ⟨rfl, row_base hown (by omega), HG.out, by rw [HK.out]; omega,
            HR.out.seats.take rfl (m := mS) (by omega), fun x hx => HR.out.seatG x (List.mem_of_mem_take hx), by simp; omega,
            HR.out.reqs.take rfl (m := mR) (by omega), fun x hx => HR.out.reqG x (List.mem_of_mem_take hx), by simp; omega⟩, hbz⟩
        rw [hwz]
        clear hwz hown hbz hw2 hw3 hf2 hx2 hx3
        refine bodyPost_ret (v := .agg #[.slice po K.length cow, .slice pS mS cS, .int .i64 n, .slice pR mR cR]) (results_cell_row (P := Tryz.prog) Tryz.results5 _ _ (g1 + 1) 32 #[.slice po K.length cow, .slice pS mS cS, .int .i64 n, .slice pR mR cR] (0, 0) _ rfl hz2 Tryz.underlying32 rfl (by kernel_rfl)) rfl HP.out
    · obtain rfl : k = L.length := by omega
      have hnlt : ¬ (L.length : Int) < (L.length : Int) := by omega
      obtain ⟨po, cow, how⟩ := own_form hst.rows
      subst how
      go_wp2_with fail
      obtain ⟨mS, hmS⟩ : ∃ m, min M.length 8 = m := ⟨_, rfl⟩
      obtain ⟨mR, hmR⟩ : ∃ m, min R.length 6 = m := ⟨_, rfl⟩
      refine rc_r9 g1 g3 M.length R.length cS cR mS mR pS pR n _ _ wr _ hraw hst.box (by omega) lS lR (by omega) (by omega) zS zR (by omega) (by omega) ?_
      intros
      rename_i wx hwx
      have hx3 : wx.heap[g3]? = some (.cells #[.slice po K.length cow, .slice pS mS cS, .int .i64 n, .slice pR mR cR] 32 (0, 0)) := by rw [hwx]; exact set_heap (set_heap (set_heap hst.box 1 _) 2 _) 3 _
      have hx2 : wx.heap[g1 + 1]? = some (.cells #[.slice none 0 0, .slice none 0 0, .int .i64 0, .slice none 0 0] 32 (0, 0)) := by rw [hwx, set_heap_ne (by omega), set_heap_ne (by omega), set_heap_ne (by omega)]; exact hres
      have hw3 : ∀ j, wx.cell? ⟨g3, j, none⟩ = (#[.slice po K.length cow, .slice pS mS cS, .int .i64 n, .slice pR mR cR] : Array Value)[j]? := fun j => Lib.cell_of_heap hx3 j
      have hw2 : ∀ j, wx.cell? ⟨g1 + 1, j, none⟩ = (#[.slice none 0 0, .slice none 0 0, .int .i64 0, .slice none 0 0] : Array Value)[j]? := fun j => Lib.cell_of_heap hx2 j
      have hf2 : ∀ j, wx.frozen? ⟨g1 + 1, j, none⟩ = false := fun j => Lib.frozen_of_heap hx2 j
      have HWX := Lib.hid hwx
      clear hwx
      go_wp2_with fail
      obtain ⟨wz, hwz⟩ : ∃ wz, (((wx.setCell ⟨g1 + 1, 0, none⟩ (.slice po K.length cow)).setCell ⟨g1 + 1, 1, none⟩ (.slice pS mS cS)).setCell ⟨g1 + 1, 2, none⟩ (.int .i64 n)).setCell ⟨g1 + 1, 3, none⟩ (.slice pR mR cR) = wz := ⟨_, rfl⟩
      have hz2 : wz.heap[g1 + 1]? = some (.cells #[.slice po K.length cow, .slice pS mS cS, .int .i64 n, .slice pR mR cR] 32 (0, 0)) := by rw [← hwz]; exact set_heap (set_heap (set_heap (set_heap hx2 0 _) 1 _) 2 _) 3 _
      have hown : wz.ownsRow W3.heap.size 57 5 (.slice po K.length cow) K.length (flatE Off.cells K) := by
        rw [← hwz, HWX.out]
        exact own_set (own_set (own_set (own_set (own_set (own_set (own_set (hst.rows.kept (row := none) (below_grows (Below.refl _ _).drew) (by cases (Value.slice po K.length cow).ownBlock <;> simp)) (by omega) _ _) (by omega) _ _) (by omega) _ _) (by omega) _ _) (by omega) _ _) (by omega) _ _) (by omega) _ _
      have hbz : RowKit.Below w.heap.size w wz := by
        rw [← hwz, HWX.out]
        have hs := hbw.size
        exact below_set (below_set (below_set (below_set (below_set (below_set (below_set hbw.drew (by omega) hs) (by omega) (by simpa using hs)) (by omega) (by simpa using hs)) (by omega) (by simpa using hs)) (by omega) (by simpa using hs)) (by omega) (by simpa using hs)) (by omega) (by simpa using hs)
      have HP : Hid (∃ v' ov' sv' lv' L' M' R', (.returned (.agg #[.slice po K.length cow, .slice pS mS cS, .int .i64 n, .slice pR mR cR]) : Ending) = .returned v' ∧ RawC w0 w.heap.size wz v' ov' sv' lv' L' M' n R' ∧ RowKit.Below w.heap.size w wz) := Lib.hid
        ⟨_, _, _, _, K, M.take mS, R.take mR, rfl, ⟨rfl, row_base hown (by omega), HG.out, by rw [HK.out]; omega,
          HR.out.seats.take rfl (m := mS) (by omega), fun x hx => HR.out.seatG x (List.mem_of_mem_take hx), by simp; omega,
          HR.out.reqs.take rfl (m := mR) (by omega), fun x hx => HR.out.reqG x (List.mem_of_mem_take hx), by simp; omega⟩, hbz⟩
      rw [hwz]
      clear hwz hown hbz hw2 hw3 hf2 hx2 hx3
      refine bodyPost_ret (v := .agg #[.slice po K.length cow, .slice pS mS cS, .int .i64 n, .slice pR mR cR]) (results_cell_row (P := Tryz.prog) Tryz.results5 _ _ (g1 + 1) 32 #[.slice po K.length cow, .slice pS mS cS, .int .i64 n, .slice pR mR cR] (0, 0) _ rfl hz2 Tryz.underlying32 rfl (by kernel_rfl)) rfl HP.out
end Go.Proofs.YteopjiedjnaeiaaGreat
