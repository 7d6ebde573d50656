/- quadriviumlaw10.some: its drawn region. -/
import Derived.Test.YtnkbelbalaeieaaDoorPick
import Derived.Test.YtnkbelbalaeieaaDoorOdd
import Derived.Test.YtnkbelbalaeieaaDoorPiece
import Derived.Deep.AppendLies
import Derived.Deep.RegionHeld3
import Derived.Deep.DrawnRows
namespace Go.Proofs.YtnkbelbalaeieaaDoor
open Go Go.RowKit Go.Sort Go.Lib
attribute [local go_sem] Ent.cells
attribute [local go_sem ↓] Go.wp_at_zero Go.wp_at_succ

theorem ent_inf : (Tryd.prog.info? 26).map (fun i => (i.zero, i.size, i.bytes)) = some (some (.agg #[.int .i64 0, .int .i64 0, .int .i64 0, .int .i64 0, .int .i64 0, .int .i64 0, .string ⟨#[]⟩, .int .i64 0, .int .i64 0, .int .i64 0, .int .i64 0, .int .i64 0, .int .i64 0, .int .i64 0, .string ⟨#[]⟩]), 15, 136) := by kernel_rfl

theorem bs_ent_run (W : World) (x0 x1 x2 x3 x4 x5 x7 x8 x9 x10 x11 x12 x13 : Int) (s6 s14 : ByteArray) : (Instr.buildSlice 28 1 #[(0, .agg #[.int .i64 x0, .int .i64 x1, .int .i64 x2, .int .i64 x3, .int .i64 x4, .int .i64 x5, .string s6, .int .i64 x7, .int .i64 x8, .int .i64 x9, .int .i64 x10, .int .i64 x11, .int .i64 x12, .int .i64 x13, .string s14])]).run Tryd.prog W = .ok (.slice (some ⟨W.heap.size, 0, none⟩) 1 1) (W.alloc (.cells #[.int .i64 x0, .int .i64 x1, .int .i64 x2, .int .i64 x3, .int .i64 x4, .int .i64 x5, .string s6, .int .i64 x7, .int .i64 x8, .int .i64 x9, .int .i64 x10, .int .i64 x11, .int .i64 x12, .int .i64 x13, .string s14] 26)) := by
  simp [go_sem]
theorem id_at {P : Program} {ops : Array Oper} {rest : List Oper} {o : Oper} {a : Act} {w : World} {Q : Exit → Act → World → Prop} (h : wpList P ops Q (o :: rest) a w) : wpList P ops Q (o :: rest) a w := h
theorem bs_ent {ops : Array Oper} {rest : List Oper} {o : Oper} {a : Act} {w : World} {Q : Exit → Act → World → Prop} {o0 : Operand} {x0 x1 x2 x3 x4 x5 x7 x8 x9 x10 x11 x12 x13 : Int} {s6 s14 : ByteArray} (hgd : o.guard = none) (ho : o.op = .buildSlice 28 1 #[(0, o0)]) (h0 : a.eval o0 = .agg #[.int .i64 x0, .int .i64 x1, .int .i64 x2, .int .i64 x3, .int .i64 x4, .int .i64 x5, .string s6, .int .i64 x7, .int .i64 x8, .int .i64 x9, .int .i64 x10, .int .i64 x11, .int .i64 x12, .int .i64 x13, .string s14])
    (h : wpList Tryd.prog ops Q rest (a.put o.dst (.slice (some ⟨w.heap.size, 0, none⟩) 1 1)) (w.alloc (.cells #[.int .i64 x0, .int .i64 x1, .int .i64 x2, .int .i64 x3, .int .i64 x4, .int .i64 x5, .string s6, .int .i64 x7, .int .i64 x8, .int .i64 x9, .int .i64 x10, .int .i64 x11, .int .i64 x12, .int .i64 x13, .string s14] 26))) : wpList Tryd.prog ops Q (o :: rest) a w :=
  wpList_plain hgd fun K hK => by
    have hr := bs_ent_run w x0 x1 x2 x3 x4 x5 x7 x8 x9 x10 x11 x12 x13 s6 s14
    unfold Oper.wp execOp
    simp only [ho, List.map_toArray, List.map_cons, List.map_nil, h0, Sem.run_bind, hr, Result.andThen_ok, Sem.run_pure]
    exact hK _ _ h

theorem i64_wrapK (n : Int) : I64 (IntKind.i64.wrap n) := by
  unfold I64; simp only [IntKind.wrap, IntKind.signed, IntKind.bits]; simp; omega
def three (a b c : Ent) : Array Value := (entCells [a, b, c]).toArray
theorem three_cells (a b c : Ent) : ∀ u ∈ entCells [a, b, c], u.oneCell' = true := by
  intro u hu
  simp only [entCells, List.flatMap_cons, List.flatMap_nil, List.mem_append, List.not_mem_nil, or_false] at hu
  rcases hu with hu | hu | hu <;>
  · simp [Ent.cells] at hu
    rcases hu with rfl | rfl | rfl | rfl | rfl | rfl | rfl | rfl | rfl | rfl | rfl | rfl | rfl | rfl | rfl <;> rfl
theorem below_any {W w : World} (h : Below W.heap.size W w) {b : Nat} {e : Ent} (hb : EntBox W b e) (j : Nat) : w.cell? ⟨b, j, none⟩ = e.cells[j]? := (hb.below h).cell j

theorem some_keep {W w' : World} {eb ob qb : Nat} {e e2 : Ent} {a b c d : Int} {T : TypeId} (h1 : EntBox W eb e) (h2 : EntBox W ob e2) (h3 : W.heap[qb]? = some (.cells #[.int .i64 a, .int .i64 b, .int .i64 c, .int .i64 d] T (0, 0))) (hb : RowKit.Below W.heap.size W w') :
    (∀ j, w'.cell? ⟨eb, j, none⟩ = e.cells[j]?) ∧ (∀ j, w'.cell? ⟨ob, j, none⟩ = e2.cells[j]?) ∧ w'.cell? ⟨qb, 2, none⟩ = some (.int .i64 c) ∧ w'.cell? ⟨qb, 3, none⟩ = some (.int .i64 d) := by
  have h3' : w'.heap[qb]? = some (.cells #[.int .i64 a, .int .i64 b, .int .i64 c, .int .i64 d] T (0, 0)) := by rw [hb.block _ (lt_of_heap h3)]; exact h3
  exact ⟨below_any hb h1, below_any hb h2, Lib.cell_of_heap h3' 2, Lib.cell_of_heap h3' 3⟩
theorem some_grown {W w w' : World} {v : Value} {eb ob qb : Nat} {e e2 : Ent} {a b c d : Int} {T : TypeId} (h1 : EntBox W eb e) (h2 : EntBox W ob e2) (h3 : W.heap[qb]? = some (.cells #[.int .i64 a, .int .i64 b, .int .i64 c, .int .i64 d] T (0, 0))) (hb : RowKit.Below W.heap.size W w)
    (hg : w.grownBy w' v.ownBlock) (hv : ∀ q, v.ownBlock = some q → q ≠ eb ∧ q ≠ ob ∧ q ≠ qb) :
    (∀ j, w'.cell? ⟨eb, j, none⟩ = e.cells[j]?) ∧ (∀ j, w'.cell? ⟨ob, j, none⟩ = e2.cells[j]?) ∧ w'.cell? ⟨qb, 2, none⟩ = some (.int .i64 c) ∧ w'.cell? ⟨qb, 3, none⟩ = some (.int .i64 d) := by
  obtain ⟨k1, k2, k3, k4⟩ := some_keep h1 h2 h3 hb
  have l1 := Nat.lt_of_lt_of_le (lt_of_heap h1) hb.size
  have l2 := Nat.lt_of_lt_of_le (lt_of_heap h2) hb.size
  have l3 := Nat.lt_of_lt_of_le (lt_of_heap h3) hb.size
  refine ⟨fun j => (hg.cell_far ⟨eb, j, none⟩ l1 fun h => (hv _ h.symm).1 rfl).trans (k1 j), fun j => (hg.cell_far ⟨ob, j, none⟩ l2 fun h => (hv _ h.symm).2.1 rfl).trans (k2 j), (hg.cell_far ⟨qb, 2, none⟩ l3 fun h => (hv _ h.symm).2.2 rfl).trans k3, (hg.cell_far ⟨qb, 3, none⟩ l3 fun h => (hv _ h.symm).2.2 rfl).trans k4⟩
theorem ents_three {base : Nat} {w : World} {v : Value} {out : List Ent} {e e2 e4 : Ent} (h : w.ownsRow base 26 15 v (out.length + 3) (entCells out ++ entCells [e, e2, e4])) : Ents base w v (out ++ [e, e2, e4]) := by
  unfold Ents
  have : entCells (out ++ [e, e2, e4]) = entCells out ++ entCells [e, e2, e4] := by simp [entCells]
  rw [this, List.length_append]
  exact h

set_option maxHeartbeats 2000000 in
set_option maxRecDepth 100000 in
theorem some_r6 {s0 s1 s2 s4 s9 s10 s11 s12 s13 s14 s15 s16 s17 s18 s19 s20 s21 s22 s23 s24 s25 s26 s27 s28 s29 s30 s31 s32 s33 s34 s35 s36 s37 s38 s39 s40 s41 s42 s43 s44 s45 s46 s47 s48 s49 s50 s51 s52 s53 s54 s55 : Value} (qb eb ob base k : Nat) (v : Value) (e e2 : Ent) (out : List Ent) (a b c d : Int) (W : World) (Q : Exit → Act → World → Prop)
    (hm2 : e2.Ok) (hk : k ≤ 1000) (hol : out.length ≤ 3000) (h1 : EntBox W eb e) (h2 : EntBox W ob e2) (h3 : W.heap[qb]? = some (.cells #[.int .i64 a, .int .i64 b, .int .i64 c, .int .i64 d] 24 (0, 0))) (h4 : Ents base W v out) (hbase : base ≤ W.heap.size) (hv : ∀ q, v.ownBlock = some q → q ≠ eb ∧ q ≠ ob ∧ q ≠ qb)
    (hQ : ∀ (u35 u36 u37 u38 u39 u40 u41 u42 u43 u44 u45 u46 u47 u48 u49 u50 u51 u52 u53 : Value) (g cap : Nat) (e4 : Ent) (W' : World), e4.Ok → Ents base W' (.slice (some ⟨g, 0, none⟩) (out.length + 3) cap) (out ++ [e, e2, e4]) → RowKit.Below base W W' → Q .normal ⟨List.toArray (s0 :: s1 :: s2 :: .pointer (some ⟨qb, 0, none⟩) :: s4 :: .slice (some ⟨g, 0, none⟩) (out.length + 3) cap :: .int .i64 (k : Nat) :: .pointer (some ⟨eb, 0, none⟩) :: .pointer (some ⟨ob, 0, none⟩) :: s9 :: s10 :: s11 :: s12 :: s13 :: s14 :: s15 :: s16 :: s17 :: s18 :: s19 :: s20 :: s21 :: s22 :: s23 :: s24 :: s25 :: s26 :: s27 :: s28 :: s29 :: s30 :: s31 :: s32 :: s33 :: s34 :: u35 :: u36 :: u37 :: u38 :: u39 :: u40 :: u41 :: u42 :: u43 :: u44 :: u45 :: u46 :: u47 :: u48 :: u49 :: u50 :: u51 :: u52 :: u53 :: s54 :: s55 :: []), []⟩ W') :
    (regionOf Tryd.f10 6).wp Tryd.prog Q ⟨List.toArray (s0 :: s1 :: s2 :: .pointer (some ⟨qb, 0, none⟩) :: s4 :: v :: .int .i64 (k : Nat) :: .pointer (some ⟨eb, 0, none⟩) :: .pointer (some ⟨ob, 0, none⟩) :: s9 :: s10 :: s11 :: s12 :: s13 :: s14 :: s15 :: s16 :: s17 :: s18 :: s19 :: s20 :: s21 :: s22 :: s23 :: s24 :: s25 :: s26 :: s27 :: s28 :: s29 :: s30 :: s31 :: s32 :: s33 :: s34 :: s35 :: s36 :: s37 :: s38 :: s39 :: s40 :: s41 :: s42 :: s43 :: s44 :: s45 :: s46 :: s47 :: s48 :: s49 :: s50 :: s51 :: s52 :: s53 :: s54 :: s55 :: []), []⟩ W := by
  refine of_onlyN (K := Q .normal) ?_ (fun _ _ h => h)
  generalize Q .normal = K at hQ ⊢
  conv => arg 2; whnf
  obtain ⟨i0, hi, hz0, hz1, hz2⟩ := info_parts ent_inf
  have hw3 : IntKind.i64.wrap (3 * (k : Int)) = 3 * (k : Int) := IntWalk.i64_in _ (by omega)
  have hq0 := i64_wrapK (c + 3 * (k : Int))
  have hq1 := i64_wrapK (d + (k : Int))
  have hbd : RowKit.Below W.heap.size W W.drew := (Below.refl W.heap.size W).drew
  have hS0 := some_keep h1 h2 h3 (Below.refl W.heap.size W).drew
  go_region_held3 (fun w' => (∀ j, w'.cell? ⟨eb, j, none⟩ = e.cells[j]?) ∧ (∀ j, w'.cell? ⟨ob, j, none⟩ = e2.cells[j]?) ∧ w'.cell? ⟨qb, 2, none⟩ = some (.int .i64 c) ∧ w'.cell? ⟨qb, 3, none⟩ = some (.int .i64 d) ) (first | exact hS0 | exact hS1 | exact some_grown h1 h2 h3 (hb5.trans ((below_alloc1 w4 (.cells (three e e2 e4) 26)).mono hsz)) hgrow hv | exact some_keep h1 h2 h3 (hb5.trans ((below_alloc1 _ _).mono hb5.size)))
    (first
      | ((with_reducible refine (odd_any e2 _ _ hm2 hq0 hq1 _).mono ?_); rintro x w4 ⟨e4, rfl, hm4, hb4⟩; have hb5 : RowKit.Below W.heap.size W w4 := hbd.trans (hb4.mono hbd.size); have hS1 := some_keep h1 h2 h3 hb5; have hown := (h4.below hb5).below (below_alloc1 w4 (.cells (three e e2 e4) 26)); have hsz := hb5.size)
      | (refine step_append_lies _ (by rfl) (.tmp 35) (.tmp 52) 28 (by rfl) base 26 i0 _ 15 136 Tryd.underlying28 hi hz0 hz1 hz2 rfl (by decide) v out.length (entCells out) (by rfl) hown ⟨w4.heap.size, 0, none⟩ 3 3 (entCells [e, e2, e4]) (by rfl) rfl (World.news_of_block (heap_alloc_new w4 (.cells (three e e2 e4) 26))) (three_cells e e2 e4) (by decide) (by unfold maxLen; omega) (by omega) (by simp; omega) _ rfl ?_; intro g cap w5 hown5 hgrow hat hlt))
  refine hQ _ _ _ _ _ _ _ _ _ _ _ _ _ _ _ _ _ _ _ g cap e4 w5 hm4 (ents_three hown5) ?_
  exact ((hb5.trans ((below_alloc1 w4 (.cells (three e e2 e4) 26)).mono hsz)).mono hbase).grown hgrow (by simp; omega) (fun q hq => (World.ownsRow.lt h4 q hq).1)
end Go.Proofs.YtnkbelbalaeieaaDoor
