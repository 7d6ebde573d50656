/- quadriviumref10.Odd and quadriviumlaw10.cut, each walked once. -/
import Derived.Test.YtnkbelbalaeieaaDoorSanity
import Derived.Deep.MidRow
import Derived.Laws.Tables
namespace Go.Proofs.YtnkbelbalaeieaaDoor
open Go Go.RowKit Go.Sort Go.Lib

/-- The k-th of some numbers. -/
def selI : List Int → Nat → Int
  | [], _ => 0
  | x :: _, 0 => x
  | _ :: l, k + 1 => selI l k
def selS : List ByteArray → Nat → ByteArray
  | [], _ => ⟨#[]⟩
  | x :: _, 0 => x
  | _ :: l, k + 1 => selS l k
theorem selI_ok {l : List Int} (h : ∀ x ∈ l, I64 x) (k : Nat) : I64 (selI l k) := by
  induction l generalizing k with
  | nil => unfold selI I64; omega
  | cons x l ih =>
    cases k with
    | zero => exact h x (by simp)
    | succ k => exact ih (fun y hy => h y (by simp [hy])) k
theorem selS_ok {l : List ByteArray} (h : ∀ x ∈ l, x.size ≤ 100000) (k : Nat) : (selS l k).size ≤ 100000 := by
  induction l generalizing k with
  | nil => unfold selS; decide
  | cons x l ih =>
    cases k with
    | zero => exact h x (by simp)
    | succ k => exact ih (fun y hy => h y (by simp [hy])) k
theorem selI_at (l : List Int) (k : Nat) (h : k < l.length) : (l.map (Value.int .i64))[k]? = some (.int .i64 (selI l k)) := by
  induction l generalizing k with
  | nil => simp at h
  | cons x l ih =>
    cases k with
    | zero => rfl
    | succ k => simpa [selI] using ih k (by simpa using h)
theorem selS_at (l : List ByteArray) (k : Nat) (h : k < l.length) : (l.map Value.string)[k]? = some (.string (selS l k)) := by
  induction l generalizing k with
  | nil => simp at h
  | cons x l ih =>
    cases k with
    | zero => rfl
    | succ k => simpa [selS] using ih k (by simpa using h)
theorem selI_cell (W : World) (l : List Int) (t : TypeId) (b k : Nat) (hb : W.heap.size = b) (h : k < l.length) : (W.alloc (.cells (l.map (Value.int .i64)).toArray t)).cell? ⟨b, k, none⟩ = some (.int .i64 (selI l k)) := by
  subst hb; rw [Lib.cell_of_heap (heap_alloc_new W _)]; simpa using selI_at l k h
theorem selS_cell (W : World) (l : List ByteArray) (t : TypeId) (b k : Nat) (hb : W.heap.size = b) (h : k < l.length) : (W.alloc (.cells (l.map Value.string).toArray t)).cell? ⟨b, k, none⟩ = some (.string (selS l k)) := by
  subst hb; rw [Lib.cell_of_heap (heap_alloc_new W _)]; simpa using selS_at l k h
theorem sel_i4 (W : World) (x0 x1 x2 x3 : Int) (t : TypeId) (b n : Nat) (hb : W.heap.size = b) : (W.alloc (.cells #[.int .i64 x0, .int .i64 x1, .int .i64 x2, .int .i64 x3] t)).cell? ⟨b, n % 4, none⟩ = some (.int .i64 (selI [x0, x1, x2, x3] (n % 4))) :=
  selI_cell W [x0, x1, x2, x3] t b (n % 4) hb (Nat.mod_lt _ (by decide))
theorem sel_i6 (W : World) (x0 x1 x2 x3 x4 x5 : Int) (t : TypeId) (b n : Nat) (hb : W.heap.size = b) : (W.alloc (.cells #[.int .i64 x0, .int .i64 x1, .int .i64 x2, .int .i64 x3, .int .i64 x4, .int .i64 x5] t)).cell? ⟨b, n % 6, none⟩ = some (.int .i64 (selI [x0, x1, x2, x3, x4, x5] (n % 6))) :=
  selI_cell W [x0, x1, x2, x3, x4, x5] t b (n % 6) hb (Nat.mod_lt _ (by decide))
theorem sel_s4 (W : World) (x0 x1 x2 x3 : ByteArray) (t : TypeId) (b n : Nat) (hb : W.heap.size = b) : (W.alloc (.cells #[.string x0, .string x1, .string x2, .string x3] t)).cell? ⟨b, n % 4, none⟩ = some (.string (selS [x0, x1, x2, x3] (n % 4))) :=
  selS_cell W [x0, x1, x2, x3] t b (n % 4) hb (Nat.mod_lt _ (by decide))
theorem sel_s5 (W : World) (x0 x1 x2 x3 x4 : ByteArray) (t : TypeId) (b n : Nat) (hb : W.heap.size = b) : (W.alloc (.cells #[.string x0, .string x1, .string x2, .string x3, .string x4] t)).cell? ⟨b, n % 5, none⟩ = some (.string (selS [x0, x1, x2, x3, x4] (n % 5))) :=
  selS_cell W [x0, x1, x2, x3, x4] t b (n % 5) hb (Nat.mod_lt _ (by decide))
theorem sel_l4 (x0 x1 x2 x3 : Int) (n : Nat) : [Value.int .i64 x0, .int .i64 x1, .int .i64 x2, .int .i64 x3][n % 4]? = some (.int .i64 (selI [x0, x1, x2, x3] (n % 4))) := selI_at [x0, x1, x2, x3] (n % 4) (Nat.mod_lt _ (by decide))
theorem sel_l6 (x0 x1 x2 x3 x4 x5 : Int) (n : Nat) : [Value.int .i64 x0, .int .i64 x1, .int .i64 x2, .int .i64 x3, .int .i64 x4, .int .i64 x5][n % 6]? = some (.int .i64 (selI [x0, x1, x2, x3, x4, x5] (n % 6))) := selI_at [x0, x1, x2, x3, x4, x5] (n % 6) (Nat.mod_lt _ (by decide))
theorem sel_t4 (x0 x1 x2 x3 : ByteArray) (n : Nat) : [Value.string x0, .string x1, .string x2, .string x3][n % 4]? = some (.string (selS [x0, x1, x2, x3] (n % 4))) := selS_at [x0, x1, x2, x3] (n % 4) (Nat.mod_lt _ (by decide))
theorem sel_t5 (x0 x1 x2 x3 x4 : ByteArray) (n : Nat) : [Value.string x0, .string x1, .string x2, .string x3, .string x4][n % 5]? = some (.string (selS [x0, x1, x2, x3, x4] (n % 5))) := selS_at [x0, x1, x2, x3, x4] (n % 5) (Nat.mod_lt _ (by decide))
attribute [local go_sem] sel_i4 sel_i6 sel_s4 sel_s5 sel_l4 sel_l6 sel_t4 sel_t5

theorem i64_wrap (n : Int) : I64 (wrap64 n) := by unfold I64 wrap64; omega

/-- What Odd returns: an entry, all of whose numbers are ints. -/
def EntPost (w : World) (x : Ending) (w' : World) : Prop := ∃ e : Ent, x = .returned e.val ∧ e.Ok ∧ RowKit.Below w.heap.size w w'

theorem below2 (w : World) (o o' : Obj) : RowKit.Below w.heap.size w ((w.alloc o).alloc o') := ((Below.refl _ _).alloc (Nat.le_refl _) o).alloc (by simp) o'

theorem below3 (w : World) (o o' o'' : Obj) : RowKit.Below w.heap.size w (((w.alloc o).alloc o').alloc o'') := (below2 w o o').alloc (by simp; omega) o''

theorem EntBox.setc {w : World} {b : Nat} {e e' : Ent} (h : EntBox w b e) (j : Nat) (u : Value) (he : e.cells.setIfInBounds j u = e'.cells) : EntBox (w.setCell ⟨b, j, none⟩ u) b e' := by
  unfold EntBox at *
  rw [← he]
  simp [World.setCell, Array.getElem?_modify, h]
def zeroCells : Array Value := #[.int .i64 0, .int .i64 0, .int .i64 0, .int .i64 0, .int .i64 0, .int .i64 0, .string ⟨#[]⟩, .int .i64 0, .int .i64 0, .int .i64 0, .int .i64 0, .int .i64 0, .int .i64 0, .int .i64 0, .string ⟨#[]⟩]
theorem heap3 (w : World) (o o' o'' : Obj) : (((w.alloc o).alloc o').alloc o'').heap[w.heap.size]? = some o ∧ (((w.alloc o).alloc o').alloc o'').heap[w.heap.size + 1 + 1]? = some o'' := by
  constructor
  · rw [(below_alloc1 ((w.alloc o).alloc o') o'').block _ (by simp; omega), (below_alloc1 (w.alloc o) o').block _ (by simp)]; exact heap_alloc_new _ _
  · have := heap_alloc_new ((w.alloc o).alloc o') o''
    rw [size_alloc, size_alloc] at this; exact this
theorem heap_setRow {W : World} {b : Nat} {cs : Array Value} {t : TypeId} {fz : Nat × Nat} (h : W.heap[b]? = some (.cells cs t fz)) (cs' : Array Value) : (W.setRow b cs').heap[b]? = some (.cells cs' t fz) := by
  simp [World.setRow, Array.getElem?_modify, h]
theorem below_setRow {B b : Nat} {w W : World} (h : RowKit.Below B w W) (hb : B ≤ b) (cs : Array Value) : RowKit.Below B w (W.setRow b cs) :=
  h.trans ⟨rfl, rfl, rfl, by simp [World.setRow], fun k hk => by
    show (W.heap.modify b _)[k]? = W.heap[k]?
    rw [Array.getElem?_modify, if_neg (by omega)]⟩
set_option maxHeartbeats 8000000 in
set_option maxRecDepth 100000 in
theorem odd_0 (e : Ent) (q0 q1 : Int) (h : e.Ok) (_h0 : I64 q0) (_h1 : I64 q1) (hk : q0 % 15 = 0) (w : World) :
    Calls Tryd.prog 32 #[e.val, .agg #[.int .i64 q0, .int .i64 q1]] w (EntPost w) := by
  have hm1 := fun W => mod_any q1 40 W (by omega) (by omega)
  have hm0 := fun W => mod_any q0 15 W (by omega) (by omega)
  have b1 : 0 ≤ q1 % 40 ∧ q1 % 40 < 40 := by omega
  obtain ⟨nn, hn⟩ := Int.eq_ofNat_of_zero_le b1.1
  rw [hn] at hm1 b1
  rw [hk] at hm0
  clear hn
  have hnn : nn < 40 := by omega
  have hid := h.id
  have hday := h.day
  go_enter Tryd.func32, Tryd.ntmps32
  go_wp2_with fail
  refine (hm1 _).mono ?_
  rintro x w1 ⟨rfl, rfl⟩
  go_wp2_with fail
  refine (hm0 _).mono ?_
  rintro x w1 ⟨rfl, rfl⟩
  clear hm0 hm1 b1
  have h3 := heap3 w (.cells e.cells 26) (.cells #[.int .i64 q0, .int .i64 q1] 23) (.cells zeroCells 26)
  have hbe := below3 w (.cells e.cells 26) (.cells #[.int .i64 q0, .int .i64 q1] 23) (.cells zeroCells 26)
  unfold Ent.cells zeroCells at h3 hbe
  generalize ((w.alloc _).alloc _).alloc _ = W at h3 hbe ⊢
  obtain ⟨h3, h4⟩ := h3
  have hE : EntBox W w.heap.size e := h3
  have hZ : W.heap[w.heap.size + 1 + 1]? = some (.cells zeroCells 26 (0, 0)) := h4
  clear h3 h4
  have cf : ∀ j, W.frozen? ⟨w.heap.size, j, none⟩ = false := fun j => Lib.frozen_of_heap hE j
  have hlt := lt_of_heap hE
  have cc := hE.cell 0
  simp only [Ent.cells] at cc
  have hE2 : EntBox (W.setCell ⟨w.heap.size, 0, none⟩ (.int .i64 (wrap64 (selI [0, 1, 899999, 900000] (nn % 4) + (nn : Int) / 4)))) w.heap.size { e with id := wrap64 (selI [0, 1, 899999, 900000] (nn % 4) + (nn : Int) / 4) } := hE.setc 0 _ rfl
  have hZ2 : (W.setCell ⟨w.heap.size, 0, none⟩ (.int .i64 (wrap64 (selI [0, 1, 899999, 900000] (nn % 4) + (nn : Int) / 4)))).heap[w.heap.size + 1 + 1]? = some (.cells zeroCells 26 (0, 0)) := by
    rw [Below.heap_setCell _ _ _ _ (by show w.heap.size + 1 + 1 ≠ w.heap.size; omega)]; exact hZ
  have hb2 : RowKit.Below w.heap.size w (W.setCell ⟨w.heap.size, 0, none⟩ (.int .i64 (wrap64 (selI [0, 1, 899999, 900000] (nn % 4) + (nn : Int) / 4)))) := hbe.setCell (Nat.le_refl _) _
  have hE3 : EntBox ((W.setCell ⟨w.heap.size, 0, none⟩ (.int .i64 (wrap64 (selI [0, 1, 899999, 900000] (nn % 4) + (nn : Int) / 4)))).alloc (.cells #[.int .i64 (0), .int .i64 (1), .int .i64 (899999), .int .i64 (900000)] 3)) w.heap.size { e with id := wrap64 (selI [0, 1, 899999, 900000] (nn % 4) + (nn : Int) / 4) } := hE2.below (below_alloc1 _ _)
  have hZ3 : ((W.setCell ⟨w.heap.size, 0, none⟩ (.int .i64 (wrap64 (selI [0, 1, 899999, 900000] (nn % 4) + (nn : Int) / 4)))).alloc (.cells #[.int .i64 (0), .int .i64 (1), .int .i64 (899999), .int .i64 (900000)] 3)).heap[w.heap.size + 1 + 1]? = some (.cells zeroCells 26 (0, 0)) := ((below_alloc1 _ _).block _ (lt_of_heap hZ2)).trans hZ2
  have hb3 : RowKit.Below w.heap.size w ((W.setCell ⟨w.heap.size, 0, none⟩ (.int .i64 (wrap64 (selI [0, 1, 899999, 900000] (nn % 4) + (nn : Int) / 4)))).alloc (.cells #[.int .i64 (0), .int .i64 (1), .int .i64 (899999), .int .i64 (900000)] 3)) := hb2.trans ((below_alloc1 _ _).mono hb2.size)
  have hat := hE3.at_
  clear hE hZ hbe hE2 hZ2 hb2 hE3
  go_wp2_with (first | ((with_reducible refine wpList_load_mid (op := ⟨some 130, _, _, _, _, _⟩) ?_ 26 (.tmp 2) ?_ w.heap.size 0 ?_ (Ent.cells { e with id := wrap64 (selI [0, 1, 899999, 900000] (nn % 4) + (nn : Int) / 4) }).toList _ ?_ Tryd.underlying26 ?_ ?_ ?_); rfl; rfl; rfl; exact hat; rfl; kernel_rfl) | ((with_reducible refine wpList_store_row (o := ⟨none, .store 26 (.tmp 4) (.tmp 130), _, _, _, _⟩) ?_ 26 (.tmp 4) (.tmp 130) ?_ (w.heap.size + 1 + 1) (Ent.cells { e with id := wrap64 (selI [0, 1, 899999, 900000] (nn % 4) + (nn : Int) / 4) }) ?_ ?_ 26 zeroCells ?_ ?_ ?_ ?_ ?_); rfl; rfl; rfl; rfl; exact hZ3; kernel_rfl; rfl; simp [Ent.cells, Value.oneCell']))
  refine bodyPost_ret (v := Ent.val { e with id := wrap64 (selI [0, 1, 899999, 900000] (nn % 4) + (nn : Int) / 4) }) (results_cell_row (P := Tryd.prog) Tryd.results32 _ _ (w.heap.size + 1 + 1) 26 (Ent.cells { e with id := wrap64 (selI [0, 1, 899999, 900000] (nn % 4) + (nn : Int) / 4) }) (0, 0) _ rfl ?_ Tryd.underlying26 rfl (by kernel_rfl)) rfl ⟨{ e with id := wrap64 (selI [0, 1, 899999, 900000] (nn % 4) + (nn : Int) / 4) }, rfl, { h with id := by dsimp only; first | exact i64_wrap _ | (unfold I64; omega) | (refine selI_ok (fun x hx => ?_) _; simp only [List.mem_cons, List.not_mem_nil, or_false] at hx; rcases hx with rfl | rfl | rfl | rfl | rfl | rfl; all_goals (first | exact i64_wrap _ | exact h.id | exact h.day | (unfold I64; omega))) | (refine selI_ok (fun x hx => ?_) _; simp only [List.mem_cons, List.not_mem_nil, or_false] at hx; rcases hx with rfl | rfl | rfl | rfl; all_goals (first | exact i64_wrap _ | exact h.id | exact h.day | (unfold I64; omega))) | (refine selS_ok (fun x hx => ?_) _; simp only [List.mem_cons, List.not_mem_nil, or_false] at hx; rcases hx with rfl | rfl | rfl | rfl | rfl; all_goals decide) | (refine selS_ok (fun x hx => ?_) _; simp only [List.mem_cons, List.not_mem_nil, or_false] at hx; rcases hx with rfl | rfl | rfl | rfl; all_goals decide) | (have hq : ∀ j : Fin 4, 0 ≤ selI [0, 1, 899999, 900000] j.1 ∧ selI [0, 1, 899999, 900000] j.1 ≤ 900000 := (by decide); have hq2 := hq ⟨nn % 4, Nat.mod_lt _ (by decide)⟩; unfold I64; simp only at hq2; omega) }, ?_⟩
  · exact heap_setRow hZ3 _
  · exact below_setRow hb3 (by omega) _
set_option maxHeartbeats 8000000 in
set_option maxRecDepth 100000 in
theorem odd_1 (e : Ent) (q0 q1 : Int) (h : e.Ok) (_h0 : I64 q0) (_h1 : I64 q1) (hk : q0 % 15 = 1) (w : World) :
    Calls Tryd.prog 32 #[e.val, .agg #[.int .i64 q0, .int .i64 q1]] w (EntPost w) := by
  have hm1 := fun W => mod_any q1 40 W (by omega) (by omega)
  have hm0 := fun W => mod_any q0 15 W (by omega) (by omega)
  have b1 : 0 ≤ q1 % 40 ∧ q1 % 40 < 40 := by omega
  obtain ⟨nn, hn⟩ := Int.eq_ofNat_of_zero_le b1.1
  rw [hn] at hm1 b1
  rw [hk] at hm0
  clear hn
  have hnn : nn < 40 := by omega
  have hid := h.id
  have hday := h.day
  go_enter Tryd.func32, Tryd.ntmps32
  go_wp2_with fail
  refine (hm1 _).mono ?_
  rintro x w1 ⟨rfl, rfl⟩
  go_wp2_with fail
  refine (hm0 _).mono ?_
  rintro x w1 ⟨rfl, rfl⟩
  clear hm0 hm1 b1
  have h3 := heap3 w (.cells e.cells 26) (.cells #[.int .i64 q0, .int .i64 q1] 23) (.cells zeroCells 26)
  have hbe := below3 w (.cells e.cells 26) (.cells #[.int .i64 q0, .int .i64 q1] 23) (.cells zeroCells 26)
  unfold Ent.cells zeroCells at h3 hbe
  generalize ((w.alloc _).alloc _).alloc _ = W at h3 hbe ⊢
  obtain ⟨h3, h4⟩ := h3
  have hE : EntBox W w.heap.size e := h3
  have hZ : W.heap[w.heap.size + 1 + 1]? = some (.cells zeroCells 26 (0, 0)) := h4
  clear h3 h4
  have cf : ∀ j, W.frozen? ⟨w.heap.size, j, none⟩ = false := fun j => Lib.frozen_of_heap hE j
  have cc := hE.cell 1
  simp only [Ent.cells] at cc
  have hE2 : EntBox (W.setCell ⟨w.heap.size, 1, none⟩ (.int .i64 ((nn : Int) % 11 - 1))) w.heap.size { e with school := (nn : Int) % 11 - 1 } := hE.setc 1 _ rfl
  have hZ2 : (W.setCell ⟨w.heap.size, 1, none⟩ (.int .i64 ((nn : Int) % 11 - 1))).heap[w.heap.size + 1 + 1]? = some (.cells zeroCells 26 (0, 0)) := by
    rw [Below.heap_setCell _ _ _ _ (by show w.heap.size + 1 + 1 ≠ w.heap.size; omega)]; exact hZ
  have hb2 : RowKit.Below w.heap.size w (W.setCell ⟨w.heap.size, 1, none⟩ (.int .i64 ((nn : Int) % 11 - 1))) := hbe.setCell (Nat.le_refl _) _
  have hE3 := hE2; have hZ3 := hZ2; have hb3 := hb2
  have hat := hE3.at_
  clear hE hZ hbe hE2 hZ2 hb2 hE3
  go_wp2_with (first | ((with_reducible refine wpList_load_mid (op := ⟨some 130, _, _, _, _, _⟩) ?_ 26 (.tmp 2) ?_ w.heap.size 0 ?_ (Ent.cells { e with school := (nn : Int) % 11 - 1 }).toList _ ?_ Tryd.underlying26 ?_ ?_ ?_); rfl; rfl; rfl; exact hat; rfl; kernel_rfl) | ((with_reducible refine wpList_store_row (o := ⟨none, .store 26 (.tmp 4) (.tmp 130), _, _, _, _⟩) ?_ 26 (.tmp 4) (.tmp 130) ?_ (w.heap.size + 1 + 1) (Ent.cells { e with school := (nn : Int) % 11 - 1 }) ?_ ?_ 26 zeroCells ?_ ?_ ?_ ?_ ?_); rfl; rfl; rfl; rfl; exact hZ3; kernel_rfl; rfl; simp [Ent.cells, Value.oneCell']))
  refine bodyPost_ret (v := Ent.val { e with school := (nn : Int) % 11 - 1 }) (results_cell_row (P := Tryd.prog) Tryd.results32 _ _ (w.heap.size + 1 + 1) 26 (Ent.cells { e with school := (nn : Int) % 11 - 1 }) (0, 0) _ rfl ?_ Tryd.underlying26 rfl (by kernel_rfl)) rfl ⟨{ e with school := (nn : Int) % 11 - 1 }, rfl, { h with school := by dsimp only; first | exact i64_wrap _ | (unfold I64; omega) | (refine selI_ok (fun x hx => ?_) _; simp only [List.mem_cons, List.not_mem_nil, or_false] at hx; rcases hx with rfl | rfl | rfl | rfl | rfl | rfl; all_goals (first | exact i64_wrap _ | exact h.id | exact h.day | (unfold I64; omega))) | (refine selI_ok (fun x hx => ?_) _; simp only [List.mem_cons, List.not_mem_nil, or_false] at hx; rcases hx with rfl | rfl | rfl | rfl; all_goals (first | exact i64_wrap _ | exact h.id | exact h.day | (unfold I64; omega))) | (refine selS_ok (fun x hx => ?_) _; simp only [List.mem_cons, List.not_mem_nil, or_false] at hx; rcases hx with rfl | rfl | rfl | rfl | rfl; all_goals decide) | (refine selS_ok (fun x hx => ?_) _; simp only [List.mem_cons, List.not_mem_nil, or_false] at hx; rcases hx with rfl | rfl | rfl | rfl; all_goals decide) | (have hq : ∀ j : Fin 4, 0 ≤ selI [0, 1, 899999, 900000] j.1 ∧ selI [0, 1, 899999, 900000] j.1 ≤ 900000 := (by decide); have hq2 := hq ⟨nn % 4, Nat.mod_lt _ (by decide)⟩; unfold I64; simp only at hq2; omega) }, ?_⟩
  · exact heap_setRow hZ3 _
  · exact below_setRow hb3 (by omega) _
set_option maxHeartbeats 8000000 in
set_option maxRecDepth 100000 in
theorem odd_2 (e : Ent) (q0 q1 : Int) (h : e.Ok) (_h0 : I64 q0) (_h1 : I64 q1) (hk : q0 % 15 = 2) (w : World) :
    Calls Tryd.prog 32 #[e.val, .agg #[.int .i64 q0, .int .i64 q1]] w (EntPost w) := by
  have hm1 := fun W => mod_any q1 40 W (by omega) (by omega)
  have hm0 := fun W => mod_any q0 15 W (by omega) (by omega)
  have b1 : 0 ≤ q1 % 40 ∧ q1 % 40 < 40 := by omega
  obtain ⟨nn, hn⟩ := Int.eq_ofNat_of_zero_le b1.1
  rw [hn] at hm1 b1
  rw [hk] at hm0
  clear hn
  have hnn : nn < 40 := by omega
  have hid := h.id
  have hday := h.day
  go_enter Tryd.func32, Tryd.ntmps32
  go_wp2_with fail
  refine (hm1 _).mono ?_
  rintro x w1 ⟨rfl, rfl⟩
  go_wp2_with fail
  refine (hm0 _).mono ?_
  rintro x w1 ⟨rfl, rfl⟩
  clear hm0 hm1 b1
  have h3 := heap3 w (.cells e.cells 26) (.cells #[.int .i64 q0, .int .i64 q1] 23) (.cells zeroCells 26)
  have hbe := below3 w (.cells e.cells 26) (.cells #[.int .i64 q0, .int .i64 q1] 23) (.cells zeroCells 26)
  unfold Ent.cells zeroCells at h3 hbe
  generalize ((w.alloc _).alloc _).alloc _ = W at h3 hbe ⊢
  obtain ⟨h3, h4⟩ := h3
  have hE : EntBox W w.heap.size e := h3
  have hZ : W.heap[w.heap.size + 1 + 1]? = some (.cells zeroCells 26 (0, 0)) := h4
  clear h3 h4
  have cf : ∀ j, W.frozen? ⟨w.heap.size, j, none⟩ = false := fun j => Lib.frozen_of_heap hE j
  have hlt := lt_of_heap hE
  have cc := hE.cell 2
  simp only [Ent.cells] at cc
  have hE2 : EntBox (W.setCell ⟨w.heap.size, 2, none⟩ (.int .i64 (selI [0, 999999, 1000000, 2] (nn % 4)))) w.heap.size { e with student := selI [0, 999999, 1000000, 2] (nn % 4) } := hE.setc 2 _ rfl
  have hZ2 : (W.setCell ⟨w.heap.size, 2, none⟩ (.int .i64 (selI [0, 999999, 1000000, 2] (nn % 4)))).heap[w.heap.size + 1 + 1]? = some (.cells zeroCells 26 (0, 0)) := by
    rw [Below.heap_setCell _ _ _ _ (by show w.heap.size + 1 + 1 ≠ w.heap.size; omega)]; exact hZ
  have hb2 : RowKit.Below w.heap.size w (W.setCell ⟨w.heap.size, 2, none⟩ (.int .i64 (selI [0, 999999, 1000000, 2] (nn % 4)))) := hbe.setCell (Nat.le_refl _) _
  have hE3 : EntBox ((W.setCell ⟨w.heap.size, 2, none⟩ (.int .i64 (selI [0, 999999, 1000000, 2] (nn % 4)))).alloc (.cells #[.int .i64 (0), .int .i64 (999999), .int .i64 (1000000), .int .i64 (2)] 3)) w.heap.size { e with student := selI [0, 999999, 1000000, 2] (nn % 4) } := hE2.below (below_alloc1 _ _)
  have hZ3 : ((W.setCell ⟨w.heap.size, 2, none⟩ (.int .i64 (selI [0, 999999, 1000000, 2] (nn % 4)))).alloc (.cells #[.int .i64 (0), .int .i64 (999999), .int .i64 (1000000), .int .i64 (2)] 3)).heap[w.heap.size + 1 + 1]? = some (.cells zeroCells 26 (0, 0)) := ((below_alloc1 _ _).block _ (lt_of_heap hZ2)).trans hZ2
  have hb3 : RowKit.Below w.heap.size w ((W.setCell ⟨w.heap.size, 2, none⟩ (.int .i64 (selI [0, 999999, 1000000, 2] (nn % 4)))).alloc (.cells #[.int .i64 (0), .int .i64 (999999), .int .i64 (1000000), .int .i64 (2)] 3)) := hb2.trans ((below_alloc1 _ _).mono hb2.size)
  have hat := hE3.at_
  clear hE hZ hbe hE2 hZ2 hb2 hE3
  go_wp2_with (first | ((with_reducible refine wpList_load_mid (op := ⟨some 130, _, _, _, _, _⟩) ?_ 26 (.tmp 2) ?_ w.heap.size 0 ?_ (Ent.cells { e with student := selI [0, 999999, 1000000, 2] (nn % 4) }).toList _ ?_ Tryd.underlying26 ?_ ?_ ?_); rfl; rfl; rfl; exact hat; rfl; kernel_rfl) | ((with_reducible refine wpList_store_row (o := ⟨none, .store 26 (.tmp 4) (.tmp 130), _, _, _, _⟩) ?_ 26 (.tmp 4) (.tmp 130) ?_ (w.heap.size + 1 + 1) (Ent.cells { e with student := selI [0, 999999, 1000000, 2] (nn % 4) }) ?_ ?_ 26 zeroCells ?_ ?_ ?_ ?_ ?_); rfl; rfl; rfl; rfl; exact hZ3; kernel_rfl; rfl; simp [Ent.cells, Value.oneCell']))
  refine bodyPost_ret (v := Ent.val { e with student := selI [0, 999999, 1000000, 2] (nn % 4) }) (results_cell_row (P := Tryd.prog) Tryd.results32 _ _ (w.heap.size + 1 + 1) 26 (Ent.cells { e with student := selI [0, 999999, 1000000, 2] (nn % 4) }) (0, 0) _ rfl ?_ Tryd.underlying26 rfl (by kernel_rfl)) rfl ⟨{ e with student := selI [0, 999999, 1000000, 2] (nn % 4) }, rfl, { h with student := by dsimp only; first | exact i64_wrap _ | (unfold I64; omega) | (refine selI_ok (fun x hx => ?_) _; simp only [List.mem_cons, List.not_mem_nil, or_false] at hx; rcases hx with rfl | rfl | rfl | rfl | rfl | rfl; all_goals (first | exact i64_wrap _ | exact h.id | exact h.day | (unfold I64; omega))) | (refine selI_ok (fun x hx => ?_) _; simp only [List.mem_cons, List.not_mem_nil, or_false] at hx; rcases hx with rfl | rfl | rfl | rfl; all_goals (first | exact i64_wrap _ | exact h.id | exact h.day | (unfold I64; omega))) | (refine selS_ok (fun x hx => ?_) _; simp only [List.mem_cons, List.not_mem_nil, or_false] at hx; rcases hx with rfl | rfl | rfl | rfl | rfl; all_goals decide) | (refine selS_ok (fun x hx => ?_) _; simp only [List.mem_cons, List.not_mem_nil, or_false] at hx; rcases hx with rfl | rfl | rfl | rfl; all_goals decide) | (have hq : ∀ j : Fin 4, 0 ≤ selI [0, 1, 899999, 900000] j.1 ∧ selI [0, 1, 899999, 900000] j.1 ≤ 900000 := (by decide); have hq2 := hq ⟨nn % 4, Nat.mod_lt _ (by decide)⟩; unfold I64; simp only at hq2; omega) }, ?_⟩
  · exact heap_setRow hZ3 _
  · exact below_setRow hb3 (by omega) _
set_option maxHeartbeats 8000000 in
set_option maxRecDepth 100000 in
theorem odd_3 (e : Ent) (q0 q1 : Int) (h : e.Ok) (_h0 : I64 q0) (_h1 : I64 q1) (hk : q0 % 15 = 3) (w : World) :
    Calls Tryd.prog 32 #[e.val, .agg #[.int .i64 q0, .int .i64 q1]] w (EntPost w) := by
  have hm1 := fun W => mod_any q1 40 W (by omega) (by omega)
  have hm0 := fun W => mod_any q0 15 W (by omega) (by omega)
  have b1 : 0 ≤ q1 % 40 ∧ q1 % 40 < 40 := by omega
  obtain ⟨nn, hn⟩ := Int.eq_ofNat_of_zero_le b1.1
  rw [hn] at hm1 b1
  rw [hk] at hm0
  clear hn
  have hnn : nn < 40 := by omega
  have hid := h.id
  have hday := h.day
  go_enter Tryd.func32, Tryd.ntmps32
  go_wp2_with fail
  refine (hm1 _).mono ?_
  rintro x w1 ⟨rfl, rfl⟩
  go_wp2_with fail
  refine (hm0 _).mono ?_
  rintro x w1 ⟨rfl, rfl⟩
  clear hm0 hm1 b1
  have h3 := heap3 w (.cells e.cells 26) (.cells #[.int .i64 q0, .int .i64 q1] 23) (.cells zeroCells 26)
  have hbe := below3 w (.cells e.cells 26) (.cells #[.int .i64 q0, .int .i64 q1] 23) (.cells zeroCells 26)
  unfold Ent.cells zeroCells at h3 hbe
  generalize ((w.alloc _).alloc _).alloc _ = W at h3 hbe ⊢
  obtain ⟨h3, h4⟩ := h3
  have hE : EntBox W w.heap.size e := h3
  have hZ : W.heap[w.heap.size + 1 + 1]? = some (.cells zeroCells 26 (0, 0)) := h4
  clear h3 h4
  have cf : ∀ j, W.frozen? ⟨w.heap.size, j, none⟩ = false := fun j => Lib.frozen_of_heap hE j
  have cc := hE.cell 3
  simp only [Ent.cells] at cc
  have hE2 : EntBox (W.setCell ⟨w.heap.size, 3, none⟩ (.int .i64 ((nn : Int) % 12))) w.heap.size { e with kind := (nn : Int) % 12 } := hE.setc 3 _ rfl
  have hZ2 : (W.setCell ⟨w.heap.size, 3, none⟩ (.int .i64 ((nn : Int) % 12))).heap[w.heap.size + 1 + 1]? = some (.cells zeroCells 26 (0, 0)) := by
    rw [Below.heap_setCell _ _ _ _ (by show w.heap.size + 1 + 1 ≠ w.heap.size; omega)]; exact hZ
  have hb2 : RowKit.Below w.heap.size w (W.setCell ⟨w.heap.size, 3, none⟩ (.int .i64 ((nn : Int) % 12))) := hbe.setCell (Nat.le_refl _) _
  have hE3 := hE2; have hZ3 := hZ2; have hb3 := hb2
  have hat := hE3.at_
  clear hE hZ hbe hE2 hZ2 hb2 hE3
  go_wp2_with (first | ((with_reducible refine wpList_load_mid (op := ⟨some 130, _, _, _, _, _⟩) ?_ 26 (.tmp 2) ?_ w.heap.size 0 ?_ (Ent.cells { e with kind := (nn : Int) % 12 }).toList _ ?_ Tryd.underlying26 ?_ ?_ ?_); rfl; rfl; rfl; exact hat; rfl; kernel_rfl) | ((with_reducible refine wpList_store_row (o := ⟨none, .store 26 (.tmp 4) (.tmp 130), _, _, _, _⟩) ?_ 26 (.tmp 4) (.tmp 130) ?_ (w.heap.size + 1 + 1) (Ent.cells { e with kind := (nn : Int) % 12 }) ?_ ?_ 26 zeroCells ?_ ?_ ?_ ?_ ?_); rfl; rfl; rfl; rfl; exact hZ3; kernel_rfl; rfl; simp [Ent.cells, Value.oneCell']))
  refine bodyPost_ret (v := Ent.val { e with kind := (nn : Int) % 12 }) (results_cell_row (P := Tryd.prog) Tryd.results32 _ _ (w.heap.size + 1 + 1) 26 (Ent.cells { e with kind := (nn : Int) % 12 }) (0, 0) _ rfl ?_ Tryd.underlying26 rfl (by kernel_rfl)) rfl ⟨{ e with kind := (nn : Int) % 12 }, rfl, { h with kind := by dsimp only; first | exact i64_wrap _ | (unfold I64; omega) | (refine selI_ok (fun x hx => ?_) _; simp only [List.mem_cons, List.not_mem_nil, or_false] at hx; rcases hx with rfl | rfl | rfl | rfl | rfl | rfl; all_goals (first | exact i64_wrap _ | exact h.id | exact h.day | (unfold I64; omega))) | (refine selI_ok (fun x hx => ?_) _; simp only [List.mem_cons, List.not_mem_nil, or_false] at hx; rcases hx with rfl | rfl | rfl | rfl; all_goals (first | exact i64_wrap _ | exact h.id | exact h.day | (unfold I64; omega))) | (refine selS_ok (fun x hx => ?_) _; simp only [List.mem_cons, List.not_mem_nil, or_false] at hx; rcases hx with rfl | rfl | rfl | rfl | rfl; all_goals decide) | (refine selS_ok (fun x hx => ?_) _; simp only [List.mem_cons, List.not_mem_nil, or_false] at hx; rcases hx with rfl | rfl | rfl | rfl; all_goals decide) | (have hq : ∀ j : Fin 4, 0 ≤ selI [0, 1, 899999, 900000] j.1 ∧ selI [0, 1, 899999, 900000] j.1 ≤ 900000 := (by decide); have hq2 := hq ⟨nn % 4, Nat.mod_lt _ (by decide)⟩; unfold I64; simp only at hq2; omega) }, ?_⟩
  · exact heap_setRow hZ3 _
  · exact below_setRow hb3 (by omega) _
set_option maxHeartbeats 8000000 in
set_option maxRecDepth 100000 in
theorem odd_4 (e : Ent) (q0 q1 : Int) (h : e.Ok) (_h0 : I64 q0) (_h1 : I64 q1) (hk : q0 % 15 = 4) (w : World) :
    Calls Tryd.prog 32 #[e.val, .agg #[.int .i64 q0, .int .i64 q1]] w (EntPost w) := by
  have hm1 := fun W => mod_any q1 40 W (by omega) (by omega)
  have hm0 := fun W => mod_any q0 15 W (by omega) (by omega)
  have b1 : 0 ≤ q1 % 40 ∧ q1 % 40 < 40 := by omega
  obtain ⟨nn, hn⟩ := Int.eq_ofNat_of_zero_le b1.1
  rw [hn] at hm1 b1
  rw [hk] at hm0
  clear hn
  have hnn : nn < 40 := by omega
  have hid := h.id
  have hday := h.day
  go_enter Tryd.func32, Tryd.ntmps32
  go_wp2_with fail
  refine (hm1 _).mono ?_
  rintro x w1 ⟨rfl, rfl⟩
  go_wp2_with fail
  refine (hm0 _).mono ?_
  rintro x w1 ⟨rfl, rfl⟩
  clear hm0 hm1 b1
  have h3 := heap3 w (.cells e.cells 26) (.cells #[.int .i64 q0, .int .i64 q1] 23) (.cells zeroCells 26)
  have hbe := below3 w (.cells e.cells 26) (.cells #[.int .i64 q0, .int .i64 q1] 23) (.cells zeroCells 26)
  unfold Ent.cells zeroCells at h3 hbe
  generalize ((w.alloc _).alloc _).alloc _ = W at h3 hbe ⊢
  obtain ⟨h3, h4⟩ := h3
  have hE : EntBox W w.heap.size e := h3
  have hZ : W.heap[w.heap.size + 1 + 1]? = some (.cells zeroCells 26 (0, 0)) := h4
  clear h3 h4
  have cf : ∀ j, W.frozen? ⟨w.heap.size, j, none⟩ = false := fun j => Lib.frozen_of_heap hE j
  have hlt := lt_of_heap hE
  have cc := hE.cell 4
  simp only [Ent.cells] at cc
  have hE2 : EntBox (W.setCell ⟨w.heap.size, 4, none⟩ (.int .i64 (selI [-1, 0, 100000, 100001] (nn % 4)))) w.heap.size { e with day := selI [-1, 0, 100000, 100001] (nn % 4) } := hE.setc 4 _ rfl
  have hZ2 : (W.setCell ⟨w.heap.size, 4, none⟩ (.int .i64 (selI [-1, 0, 100000, 100001] (nn % 4)))).heap[w.heap.size + 1 + 1]? = some (.cells zeroCells 26 (0, 0)) := by
    rw [Below.heap_setCell _ _ _ _ (by show w.heap.size + 1 + 1 ≠ w.heap.size; omega)]; exact hZ
  have hb2 : RowKit.Below w.heap.size w (W.setCell ⟨w.heap.size, 4, none⟩ (.int .i64 (selI [-1, 0, 100000, 100001] (nn % 4)))) := hbe.setCell (Nat.le_refl _) _
  have hE3 : EntBox ((W.setCell ⟨w.heap.size, 4, none⟩ (.int .i64 (selI [-1, 0, 100000, 100001] (nn % 4)))).alloc (.cells #[.int .i64 (-1), .int .i64 (0), .int .i64 (100000), .int .i64 (100001)] 3)) w.heap.size { e with day := selI [-1, 0, 100000, 100001] (nn % 4) } := hE2.below (below_alloc1 _ _)
  have hZ3 : ((W.setCell ⟨w.heap.size, 4, none⟩ (.int .i64 (selI [-1, 0, 100000, 100001] (nn % 4)))).alloc (.cells #[.int .i64 (-1), .int .i64 (0), .int .i64 (100000), .int .i64 (100001)] 3)).heap[w.heap.size + 1 + 1]? = some (.cells zeroCells 26 (0, 0)) := ((below_alloc1 _ _).block _ (lt_of_heap hZ2)).trans hZ2
  have hb3 : RowKit.Below w.heap.size w ((W.setCell ⟨w.heap.size, 4, none⟩ (.int .i64 (selI [-1, 0, 100000, 100001] (nn % 4)))).alloc (.cells #[.int .i64 (-1), .int .i64 (0), .int .i64 (100000), .int .i64 (100001)] 3)) := hb2.trans ((below_alloc1 _ _).mono hb2.size)
  have hat := hE3.at_
  clear hE hZ hbe hE2 hZ2 hb2 hE3
  go_wp2_with (first | ((with_reducible refine wpList_load_mid (op := ⟨some 130, _, _, _, _, _⟩) ?_ 26 (.tmp 2) ?_ w.heap.size 0 ?_ (Ent.cells { e with day := selI [-1, 0, 100000, 100001] (nn % 4) }).toList _ ?_ Tryd.underlying26 ?_ ?_ ?_); rfl; rfl; rfl; exact hat; rfl; kernel_rfl) | ((with_reducible refine wpList_store_row (o := ⟨none, .store 26 (.tmp 4) (.tmp 130), _, _, _, _⟩) ?_ 26 (.tmp 4) (.tmp 130) ?_ (w.heap.size + 1 + 1) (Ent.cells { e with day := selI [-1, 0, 100000, 100001] (nn % 4) }) ?_ ?_ 26 zeroCells ?_ ?_ ?_ ?_ ?_); rfl; rfl; rfl; rfl; exact hZ3; kernel_rfl; rfl; simp [Ent.cells, Value.oneCell']))
  refine bodyPost_ret (v := Ent.val { e with day := selI [-1, 0, 100000, 100001] (nn % 4) }) (results_cell_row (P := Tryd.prog) Tryd.results32 _ _ (w.heap.size + 1 + 1) 26 (Ent.cells { e with day := selI [-1, 0, 100000, 100001] (nn % 4) }) (0, 0) _ rfl ?_ Tryd.underlying26 rfl (by kernel_rfl)) rfl ⟨{ e with day := selI [-1, 0, 100000, 100001] (nn % 4) }, rfl, { h with day := by dsimp only; first | exact i64_wrap _ | (unfold I64; omega) | (refine selI_ok (fun x hx => ?_) _; simp only [List.mem_cons, List.not_mem_nil, or_false] at hx; rcases hx with rfl | rfl | rfl | rfl | rfl | rfl; all_goals (first | exact i64_wrap _ | exact h.id | exact h.day | (unfold I64; omega))) | (refine selI_ok (fun x hx => ?_) _; simp only [List.mem_cons, List.not_mem_nil, or_false] at hx; rcases hx with rfl | rfl | rfl | rfl; all_goals (first | exact i64_wrap _ | exact h.id | exact h.day | (unfold I64; omega))) | (refine selS_ok (fun x hx => ?_) _; simp only [List.mem_cons, List.not_mem_nil, or_false] at hx; rcases hx with rfl | rfl | rfl | rfl | rfl; all_goals decide) | (refine selS_ok (fun x hx => ?_) _; simp only [List.mem_cons, List.not_mem_nil, or_false] at hx; rcases hx with rfl | rfl | rfl | rfl; all_goals decide) | (have hq : ∀ j : Fin 4, 0 ≤ selI [0, 1, 899999, 900000] j.1 ∧ selI [0, 1, 899999, 900000] j.1 ≤ 900000 := (by decide); have hq2 := hq ⟨nn % 4, Nat.mod_lt _ (by decide)⟩; unfold I64; simp only at hq2; omega) }, ?_⟩
  · exact heap_setRow hZ3 _
  · exact below_setRow hb3 (by omega) _
set_option maxHeartbeats 8000000 in
set_option maxRecDepth 100000 in
theorem odd_5 (e : Ent) (q0 q1 : Int) (h : e.Ok) (_h0 : I64 q0) (_h1 : I64 q1) (hk : q0 % 15 = 5) (w : World) :
    Calls Tryd.prog 32 #[e.val, .agg #[.int .i64 q0, .int .i64 q1]] w (EntPost w) := by
  have hm1 := fun W => mod_any q1 40 W (by omega) (by omega)
  have hm0 := fun W => mod_any q0 15 W (by omega) (by omega)
  have b1 : 0 ≤ q1 % 40 ∧ q1 % 40 < 40 := by omega
  obtain ⟨nn, hn⟩ := Int.eq_ofNat_of_zero_le b1.1
  rw [hn] at hm1 b1
  rw [hk] at hm0
  clear hn
  have hnn : nn < 40 := by omega
  have hid := h.id
  have hday := h.day
  go_enter Tryd.func32, Tryd.ntmps32
  go_wp2_with fail
  refine (hm1 _).mono ?_
  rintro x w1 ⟨rfl, rfl⟩
  go_wp2_with fail
  refine (hm0 _).mono ?_
  rintro x w1 ⟨rfl, rfl⟩
  clear hm0 hm1 b1
  have h3 := heap3 w (.cells e.cells 26) (.cells #[.int .i64 q0, .int .i64 q1] 23) (.cells zeroCells 26)
  have hbe := below3 w (.cells e.cells 26) (.cells #[.int .i64 q0, .int .i64 q1] 23) (.cells zeroCells 26)
  unfold Ent.cells zeroCells at h3 hbe
  generalize ((w.alloc _).alloc _).alloc _ = W at h3 hbe ⊢
  obtain ⟨h3, h4⟩ := h3
  have hE : EntBox W w.heap.size e := h3
  have hZ : W.heap[w.heap.size + 1 + 1]? = some (.cells zeroCells 26 (0, 0)) := h4
  clear h3 h4
  have cf : ∀ j, W.frozen? ⟨w.heap.size, j, none⟩ = false := fun j => Lib.frozen_of_heap hE j
  have hlt := lt_of_heap hE
  have cc := hE.cell 5
  have cd := hE.cell 4
  simp only [Ent.cells] at cc cd
  have hE2 : EntBox (W.setCell ⟨w.heap.size, 5, none⟩ (.int .i64 (selI [-1, 0, e.day, wrap64 (e.day + 1)] (nn % 4)))) w.heap.size { e with on := selI [-1, 0, e.day, wrap64 (e.day + 1)] (nn % 4) } := hE.setc 5 _ rfl
  have hZ2 : (W.setCell ⟨w.heap.size, 5, none⟩ (.int .i64 (selI [-1, 0, e.day, wrap64 (e.day + 1)] (nn % 4)))).heap[w.heap.size + 1 + 1]? = some (.cells zeroCells 26 (0, 0)) := by
    rw [Below.heap_setCell _ _ _ _ (by show w.heap.size + 1 + 1 ≠ w.heap.size; omega)]; exact hZ
  have hb2 : RowKit.Below w.heap.size w (W.setCell ⟨w.heap.size, 5, none⟩ (.int .i64 (selI [-1, 0, e.day, wrap64 (e.day + 1)] (nn % 4)))) := hbe.setCell (Nat.le_refl _) _
  have hE3 : EntBox ((W.setCell ⟨w.heap.size, 5, none⟩ (.int .i64 (selI [-1, 0, e.day, wrap64 (e.day + 1)] (nn % 4)))).alloc (.cells #[.int .i64 (-1), .int .i64 (0), .int .i64 (e.day), .int .i64 (wrap64 (e.day + 1))] 3)) w.heap.size { e with on := selI [-1, 0, e.day, wrap64 (e.day + 1)] (nn % 4) } := hE2.below (below_alloc1 _ _)
  have hZ3 : ((W.setCell ⟨w.heap.size, 5, none⟩ (.int .i64 (selI [-1, 0, e.day, wrap64 (e.day + 1)] (nn % 4)))).alloc (.cells #[.int .i64 (-1), .int .i64 (0), .int .i64 (e.day), .int .i64 (wrap64 (e.day + 1))] 3)).heap[w.heap.size + 1 + 1]? = some (.cells zeroCells 26 (0, 0)) := ((below_alloc1 _ _).block _ (lt_of_heap hZ2)).trans hZ2
  have hb3 : RowKit.Below w.heap.size w ((W.setCell ⟨w.heap.size, 5, none⟩ (.int .i64 (selI [-1, 0, e.day, wrap64 (e.day + 1)] (nn % 4)))).alloc (.cells #[.int .i64 (-1), .int .i64 (0), .int .i64 (e.day), .int .i64 (wrap64 (e.day + 1))] 3)) := hb2.trans ((below_alloc1 _ _).mono hb2.size)
  have hat := hE3.at_
  clear hE hZ hbe hE2 hZ2 hb2 hE3
  go_wp2_with (first | ((with_reducible refine wpList_load_mid (op := ⟨some 130, _, _, _, _, _⟩) ?_ 26 (.tmp 2) ?_ w.heap.size 0 ?_ (Ent.cells { e with on := selI [-1, 0, e.day, wrap64 (e.day + 1)] (nn % 4) }).toList _ ?_ Tryd.underlying26 ?_ ?_ ?_); rfl; rfl; rfl; exact hat; rfl; kernel_rfl) | ((with_reducible refine wpList_store_row (o := ⟨none, .store 26 (.tmp 4) (.tmp 130), _, _, _, _⟩) ?_ 26 (.tmp 4) (.tmp 130) ?_ (w.heap.size + 1 + 1) (Ent.cells { e with on := selI [-1, 0, e.day, wrap64 (e.day + 1)] (nn % 4) }) ?_ ?_ 26 zeroCells ?_ ?_ ?_ ?_ ?_); rfl; rfl; rfl; rfl; exact hZ3; kernel_rfl; rfl; simp [Ent.cells, Value.oneCell']))
  refine bodyPost_ret (v := Ent.val { e with on := selI [-1, 0, e.day, wrap64 (e.day + 1)] (nn % 4) }) (results_cell_row (P := Tryd.prog) Tryd.results32 _ _ (w.heap.size + 1 + 1) 26 (Ent.cells { e with on := selI [-1, 0, e.day, wrap64 (e.day + 1)] (nn % 4) }) (0, 0) _ rfl ?_ Tryd.underlying26 rfl (by kernel_rfl)) rfl ⟨{ e with on := selI [-1, 0, e.day, wrap64 (e.day + 1)] (nn % 4) }, rfl, { h with on := by dsimp only; first | exact i64_wrap _ | (unfold I64; omega) | (refine selI_ok (fun x hx => ?_) _; simp only [List.mem_cons, List.not_mem_nil, or_false] at hx; rcases hx with rfl | rfl | rfl | rfl | rfl | rfl; all_goals (first | exact i64_wrap _ | exact h.id | exact h.day | (unfold I64; omega))) | (refine selI_ok (fun x hx => ?_) _; simp only [List.mem_cons, List.not_mem_nil, or_false] at hx; rcases hx with rfl | rfl | rfl | rfl; all_goals (first | exact i64_wrap _ | exact h.id | exact h.day | (unfold I64; omega))) | (refine selS_ok (fun x hx => ?_) _; simp only [List.mem_cons, List.not_mem_nil, or_false] at hx; rcases hx with rfl | rfl | rfl | rfl | rfl; all_goals decide) | (refine selS_ok (fun x hx => ?_) _; simp only [List.mem_cons, List.not_mem_nil, or_false] at hx; rcases hx with rfl | rfl | rfl | rfl; all_goals decide) | (have hq : ∀ j : Fin 4, 0 ≤ selI [0, 1, 899999, 900000] j.1 ∧ selI [0, 1, 899999, 900000] j.1 ≤ 900000 := (by decide); have hq2 := hq ⟨nn % 4, Nat.mod_lt _ (by decide)⟩; unfold I64; simp only at hq2; omega) }, ?_⟩
  · exact heap_setRow hZ3 _
  · exact below_setRow hb3 (by omega) _
set_option maxHeartbeats 8000000 in
set_option maxRecDepth 100000 in
theorem odd_6 (e : Ent) (q0 q1 : Int) (h : e.Ok) (_h0 : I64 q0) (_h1 : I64 q1) (hk : q0 % 15 = 6) (w : World) :
    Calls Tryd.prog 32 #[e.val, .agg #[.int .i64 q0, .int .i64 q1]] w (EntPost w) := by
  have hm1 := fun W => mod_any q1 40 W (by omega) (by omega)
  have hm0 := fun W => mod_any q0 15 W (by omega) (by omega)
  have b1 : 0 ≤ q1 % 40 ∧ q1 % 40 < 40 := by omega
  obtain ⟨nn, hn⟩ := Int.eq_ofNat_of_zero_le b1.1
  rw [hn] at hm1 b1
  rw [hk] at hm0
  clear hn
  have hnn : nn < 40 := by omega
  have hid := h.id
  have hday := h.day
  go_enter Tryd.func32, Tryd.ntmps32
  go_wp2_with fail
  refine (hm1 _).mono ?_
  rintro x w1 ⟨rfl, rfl⟩
  go_wp2_with fail
  refine (hm0 _).mono ?_
  rintro x w1 ⟨rfl, rfl⟩
  clear hm0 hm1 b1
  have h3 := heap3 w (.cells e.cells 26) (.cells #[.int .i64 q0, .int .i64 q1] 23) (.cells zeroCells 26)
  have hbe := below3 w (.cells e.cells 26) (.cells #[.int .i64 q0, .int .i64 q1] 23) (.cells zeroCells 26)
  unfold Ent.cells zeroCells at h3 hbe
  generalize ((w.alloc _).alloc _).alloc _ = W at h3 hbe ⊢
  obtain ⟨h3, h4⟩ := h3
  have hE : EntBox W w.heap.size e := h3
  have hZ : W.heap[w.heap.size + 1 + 1]? = some (.cells zeroCells 26 (0, 0)) := h4
  clear h3 h4
  have cf : ∀ j, W.frozen? ⟨w.heap.size, j, none⟩ = false := fun j => Lib.frozen_of_heap hE j
  have hlt := lt_of_heap hE
  have cc := hE.cell 6
  simp only [Ent.cells] at cc
  have hE2 : EntBox (W.setCell ⟨w.heap.size, 6, none⟩ (.string (selS [⟨#[]⟩, ⟨#[65, 49]⟩, ⟨#[66, 50]⟩, ⟨#[97]⟩, ⟨#[65, 66, 67, 68, 69, 70, 71, 72, 73]⟩] (nn % 5)))) w.heap.size { e with course := selS [⟨#[]⟩, ⟨#[65, 49]⟩, ⟨#[66, 50]⟩, ⟨#[97]⟩, ⟨#[65, 66, 67, 68, 69, 70, 71, 72, 73]⟩] (nn % 5) } := hE.setc 6 _ rfl
  have hZ2 : (W.setCell ⟨w.heap.size, 6, none⟩ (.string (selS [⟨#[]⟩, ⟨#[65, 49]⟩, ⟨#[66, 50]⟩, ⟨#[97]⟩, ⟨#[65, 66, 67, 68, 69, 70, 71, 72, 73]⟩] (nn % 5)))).heap[w.heap.size + 1 + 1]? = some (.cells zeroCells 26 (0, 0)) := by
    rw [Below.heap_setCell _ _ _ _ (by show w.heap.size + 1 + 1 ≠ w.heap.size; omega)]; exact hZ
  have hb2 : RowKit.Below w.heap.size w (W.setCell ⟨w.heap.size, 6, none⟩ (.string (selS [⟨#[]⟩, ⟨#[65, 49]⟩, ⟨#[66, 50]⟩, ⟨#[97]⟩, ⟨#[65, 66, 67, 68, 69, 70, 71, 72, 73]⟩] (nn % 5)))) := hbe.setCell (Nat.le_refl _) _
  have hE3 : EntBox ((W.setCell ⟨w.heap.size, 6, none⟩ (.string (selS [⟨#[]⟩, ⟨#[65, 49]⟩, ⟨#[66, 50]⟩, ⟨#[97]⟩, ⟨#[65, 66, 67, 68, 69, 70, 71, 72, 73]⟩] (nn % 5)))).alloc (.cells #[.string ⟨#[]⟩, .string ⟨#[65, 49]⟩, .string ⟨#[66, 50]⟩, .string ⟨#[97]⟩, .string ⟨#[65, 66, 67, 68, 69, 70, 71, 72, 73]⟩] 9)) w.heap.size { e with course := selS [⟨#[]⟩, ⟨#[65, 49]⟩, ⟨#[66, 50]⟩, ⟨#[97]⟩, ⟨#[65, 66, 67, 68, 69, 70, 71, 72, 73]⟩] (nn % 5) } := hE2.below (below_alloc1 _ _)
  have hZ3 : ((W.setCell ⟨w.heap.size, 6, none⟩ (.string (selS [⟨#[]⟩, ⟨#[65, 49]⟩, ⟨#[66, 50]⟩, ⟨#[97]⟩, ⟨#[65, 66, 67, 68, 69, 70, 71, 72, 73]⟩] (nn % 5)))).alloc (.cells #[.string ⟨#[]⟩, .string ⟨#[65, 49]⟩, .string ⟨#[66, 50]⟩, .string ⟨#[97]⟩, .string ⟨#[65, 66, 67, 68, 69, 70, 71, 72, 73]⟩] 9)).heap[w.heap.size + 1 + 1]? = some (.cells zeroCells 26 (0, 0)) := ((below_alloc1 _ _).block _ (lt_of_heap hZ2)).trans hZ2
  have hb3 : RowKit.Below w.heap.size w ((W.setCell ⟨w.heap.size, 6, none⟩ (.string (selS [⟨#[]⟩, ⟨#[65, 49]⟩, ⟨#[66, 50]⟩, ⟨#[97]⟩, ⟨#[65, 66, 67, 68, 69, 70, 71, 72, 73]⟩] (nn % 5)))).alloc (.cells #[.string ⟨#[]⟩, .string ⟨#[65, 49]⟩, .string ⟨#[66, 50]⟩, .string ⟨#[97]⟩, .string ⟨#[65, 66, 67, 68, 69, 70, 71, 72, 73]⟩] 9)) := hb2.trans ((below_alloc1 _ _).mono hb2.size)
  have hat := hE3.at_
  clear hE hZ hbe hE2 hZ2 hb2 hE3
  go_wp2_with (first | ((with_reducible refine wpList_load_mid (op := ⟨some 130, _, _, _, _, _⟩) ?_ 26 (.tmp 2) ?_ w.heap.size 0 ?_ (Ent.cells { e with course := selS [⟨#[]⟩, ⟨#[65, 49]⟩, ⟨#[66, 50]⟩, ⟨#[97]⟩, ⟨#[65, 66, 67, 68, 69, 70, 71, 72, 73]⟩] (nn % 5) }).toList _ ?_ Tryd.underlying26 ?_ ?_ ?_); rfl; rfl; rfl; exact hat; rfl; kernel_rfl) | ((with_reducible refine wpList_store_row (o := ⟨none, .store 26 (.tmp 4) (.tmp 130), _, _, _, _⟩) ?_ 26 (.tmp 4) (.tmp 130) ?_ (w.heap.size + 1 + 1) (Ent.cells { e with course := selS [⟨#[]⟩, ⟨#[65, 49]⟩, ⟨#[66, 50]⟩, ⟨#[97]⟩, ⟨#[65, 66, 67, 68, 69, 70, 71, 72, 73]⟩] (nn % 5) }) ?_ ?_ 26 zeroCells ?_ ?_ ?_ ?_ ?_); rfl; rfl; rfl; rfl; exact hZ3; kernel_rfl; rfl; simp [Ent.cells, Value.oneCell']))
  refine bodyPost_ret (v := Ent.val { e with course := selS [⟨#[]⟩, ⟨#[65, 49]⟩, ⟨#[66, 50]⟩, ⟨#[97]⟩, ⟨#[65, 66, 67, 68, 69, 70, 71, 72, 73]⟩] (nn % 5) }) (results_cell_row (P := Tryd.prog) Tryd.results32 _ _ (w.heap.size + 1 + 1) 26 (Ent.cells { e with course := selS [⟨#[]⟩, ⟨#[65, 49]⟩, ⟨#[66, 50]⟩, ⟨#[97]⟩, ⟨#[65, 66, 67, 68, 69, 70, 71, 72, 73]⟩] (nn % 5) }) (0, 0) _ rfl ?_ Tryd.underlying26 rfl (by kernel_rfl)) rfl ⟨{ e with course := selS [⟨#[]⟩, ⟨#[65, 49]⟩, ⟨#[66, 50]⟩, ⟨#[97]⟩, ⟨#[65, 66, 67, 68, 69, 70, 71, 72, 73]⟩] (nn % 5) }, rfl, { h with course := by dsimp only; first | exact i64_wrap _ | (unfold I64; omega) | (refine selI_ok (fun x hx => ?_) _; simp only [List.mem_cons, List.not_mem_nil, or_false] at hx; rcases hx with rfl | rfl | rfl | rfl | rfl | rfl; all_goals (first | exact i64_wrap _ | exact h.id | exact h.day | (unfold I64; omega))) | (refine selI_ok (fun x hx => ?_) _; simp only [List.mem_cons, List.not_mem_nil, or_false] at hx; rcases hx with rfl | rfl | rfl | rfl; all_goals (first | exact i64_wrap _ | exact h.id | exact h.day | (unfold I64; omega))) | (refine selS_ok (fun x hx => ?_) _; simp only [List.mem_cons, List.not_mem_nil, or_false] at hx; rcases hx with rfl | rfl | rfl | rfl | rfl; all_goals decide) | (refine selS_ok (fun x hx => ?_) _; simp only [List.mem_cons, List.not_mem_nil, or_false] at hx; rcases hx with rfl | rfl | rfl | rfl; all_goals decide) | (have hq : ∀ j : Fin 4, 0 ≤ selI [0, 1, 899999, 900000] j.1 ∧ selI [0, 1, 899999, 900000] j.1 ≤ 900000 := (by decide); have hq2 := hq ⟨nn % 4, Nat.mod_lt _ (by decide)⟩; unfold I64; simp only at hq2; omega) }, ?_⟩
  · exact heap_setRow hZ3 _
  · exact below_setRow hb3 (by omega) _
set_option maxHeartbeats 8000000 in
set_option maxRecDepth 100000 in
theorem odd_7 (e : Ent) (q0 q1 : Int) (h : e.Ok) (_h0 : I64 q0) (_h1 : I64 q1) (hk : q0 % 15 = 7) (w : World) :
    Calls Tryd.prog 32 #[e.val, .agg #[.int .i64 q0, .int .i64 q1]] w (EntPost w) := by
  have hm1 := fun W => mod_any q1 40 W (by omega) (by omega)
  have hm0 := fun W => mod_any q0 15 W (by omega) (by omega)
  have b1 : 0 ≤ q1 % 40 ∧ q1 % 40 < 40 := by omega
  obtain ⟨nn, hn⟩ := Int.eq_ofNat_of_zero_le b1.1
  rw [hn] at hm1 b1
  rw [hk] at hm0
  clear hn
  have hnn : nn < 40 := by omega
  have hid := h.id
  have hday := h.day
  go_enter Tryd.func32, Tryd.ntmps32
  go_wp2_with fail
  refine (hm1 _).mono ?_
  rintro x w1 ⟨rfl, rfl⟩
  go_wp2_with fail
  refine (hm0 _).mono ?_
  rintro x w1 ⟨rfl, rfl⟩
  clear hm0 hm1 b1
  have h3 := heap3 w (.cells e.cells 26) (.cells #[.int .i64 q0, .int .i64 q1] 23) (.cells zeroCells 26)
  have hbe := below3 w (.cells e.cells 26) (.cells #[.int .i64 q0, .int .i64 q1] 23) (.cells zeroCells 26)
  unfold Ent.cells zeroCells at h3 hbe
  generalize ((w.alloc _).alloc _).alloc _ = W at h3 hbe ⊢
  obtain ⟨h3, h4⟩ := h3
  have hE : EntBox W w.heap.size e := h3
  have hZ : W.heap[w.heap.size + 1 + 1]? = some (.cells zeroCells 26 (0, 0)) := h4
  clear h3 h4
  have cf : ∀ j, W.frozen? ⟨w.heap.size, j, none⟩ = false := fun j => Lib.frozen_of_heap hE j
  have hlt := lt_of_heap hE
  have cc := hE.cell 7
  simp only [Ent.cells] at cc
  have hE2 : EntBox (W.setCell ⟨w.heap.size, 7, none⟩ (.int .i64 (selI [0, 1, 60, 61] (nn % 4)))) w.heap.size { e with credits := selI [0, 1, 60, 61] (nn % 4) } := hE.setc 7 _ rfl
  have hZ2 : (W.setCell ⟨w.heap.size, 7, none⟩ (.int .i64 (selI [0, 1, 60, 61] (nn % 4)))).heap[w.heap.size + 1 + 1]? = some (.cells zeroCells 26 (0, 0)) := by
    rw [Below.heap_setCell _ _ _ _ (by show w.heap.size + 1 + 1 ≠ w.heap.size; omega)]; exact hZ
  have hb2 : RowKit.Below w.heap.size w (W.setCell ⟨w.heap.size, 7, none⟩ (.int .i64 (selI [0, 1, 60, 61] (nn % 4)))) := hbe.setCell (Nat.le_refl _) _
  have hE3 : EntBox ((W.setCell ⟨w.heap.size, 7, none⟩ (.int .i64 (selI [0, 1, 60, 61] (nn % 4)))).alloc (.cells #[.int .i64 (0), .int .i64 (1), .int .i64 (60), .int .i64 (61)] 3)) w.heap.size { e with credits := selI [0, 1, 60, 61] (nn % 4) } := hE2.below (below_alloc1 _ _)
  have hZ3 : ((W.setCell ⟨w.heap.size, 7, none⟩ (.int .i64 (selI [0, 1, 60, 61] (nn % 4)))).alloc (.cells #[.int .i64 (0), .int .i64 (1), .int .i64 (60), .int .i64 (61)] 3)).heap[w.heap.size + 1 + 1]? = some (.cells zeroCells 26 (0, 0)) := ((below_alloc1 _ _).block _ (lt_of_heap hZ2)).trans hZ2
  have hb3 : RowKit.Below w.heap.size w ((W.setCell ⟨w.heap.size, 7, none⟩ (.int .i64 (selI [0, 1, 60, 61] (nn % 4)))).alloc (.cells #[.int .i64 (0), .int .i64 (1), .int .i64 (60), .int .i64 (61)] 3)) := hb2.trans ((below_alloc1 _ _).mono hb2.size)
  have hat := hE3.at_
  clear hE hZ hbe hE2 hZ2 hb2 hE3
  go_wp2_with (first | ((with_reducible refine wpList_load_mid (op := ⟨some 130, _, _, _, _, _⟩) ?_ 26 (.tmp 2) ?_ w.heap.size 0 ?_ (Ent.cells { e with credits := selI [0, 1, 60, 61] (nn % 4) }).toList _ ?_ Tryd.underlying26 ?_ ?_ ?_); rfl; rfl; rfl; exact hat; rfl; kernel_rfl) | ((with_reducible refine wpList_store_row (o := ⟨none, .store 26 (.tmp 4) (.tmp 130), _, _, _, _⟩) ?_ 26 (.tmp 4) (.tmp 130) ?_ (w.heap.size + 1 + 1) (Ent.cells { e with credits := selI [0, 1, 60, 61] (nn % 4) }) ?_ ?_ 26 zeroCells ?_ ?_ ?_ ?_ ?_); rfl; rfl; rfl; rfl; exact hZ3; kernel_rfl; rfl; simp [Ent.cells, Value.oneCell']))
  refine bodyPost_ret (v := Ent.val { e with credits := selI [0, 1, 60, 61] (nn % 4) }) (results_cell_row (P := Tryd.prog) Tryd.results32 _ _ (w.heap.size + 1 + 1) 26 (Ent.cells { e with credits := selI [0, 1, 60, 61] (nn % 4) }) (0, 0) _ rfl ?_ Tryd.underlying26 rfl (by kernel_rfl)) rfl ⟨{ e with credits := selI [0, 1, 60, 61] (nn % 4) }, rfl, { h with credits := by dsimp only; first | exact i64_wrap _ | (unfold I64; omega) | (refine selI_ok (fun x hx => ?_) _; simp only [List.mem_cons, List.not_mem_nil, or_false] at hx; rcases hx with rfl | rfl | rfl | rfl | rfl | rfl; all_goals (first | exact i64_wrap _ | exact h.id | exact h.day | (unfold I64; omega))) | (refine selI_ok (fun x hx => ?_) _; simp only [List.mem_cons, List.not_mem_nil, or_false] at hx; rcases hx with rfl | rfl | rfl | rfl; all_goals (first | exact i64_wrap _ | exact h.id | exact h.day | (unfold I64; omega))) | (refine selS_ok (fun x hx => ?_) _; simp only [List.mem_cons, List.not_mem_nil, or_false] at hx; rcases hx with rfl | rfl | rfl | rfl | rfl; all_goals decide) | (refine selS_ok (fun x hx => ?_) _; simp only [List.mem_cons, List.not_mem_nil, or_false] at hx; rcases hx with rfl | rfl | rfl | rfl; all_goals decide) | (have hq : ∀ j : Fin 4, 0 ≤ selI [0, 1, 899999, 900000] j.1 ∧ selI [0, 1, 899999, 900000] j.1 ≤ 900000 := (by decide); have hq2 := hq ⟨nn % 4, Nat.mod_lt _ (by decide)⟩; unfold I64; simp only at hq2; omega) }, ?_⟩
  · exact heap_setRow hZ3 _
  · exact below_setRow hb3 (by omega) _
set_option maxHeartbeats 8000000 in
set_option maxRecDepth 100000 in
theorem odd_8 (e : Ent) (q0 q1 : Int) (h : e.Ok) (_h0 : I64 q0) (_h1 : I64 q1) (hk : q0 % 15 = 8) (w : World) :
    Calls Tryd.prog 32 #[e.val, .agg #[.int .i64 q0, .int .i64 q1]] w (EntPost w) := by
  have hm1 := fun W => mod_any q1 40 W (by omega) (by omega)
  have hm0 := fun W => mod_any q0 15 W (by omega) (by omega)
  have b1 : 0 ≤ q1 % 40 ∧ q1 % 40 < 40 := by omega
  obtain ⟨nn, hn⟩ := Int.eq_ofNat_of_zero_le b1.1
  rw [hn] at hm1 b1
  rw [hk] at hm0
  clear hn
  have hnn : nn < 40 := by omega
  have hid := h.id
  have hday := h.day
  go_enter Tryd.func32, Tryd.ntmps32
  go_wp2_with fail
  refine (hm1 _).mono ?_
  rintro x w1 ⟨rfl, rfl⟩
  go_wp2_with fail
  refine (hm0 _).mono ?_
  rintro x w1 ⟨rfl, rfl⟩
  clear hm0 hm1 b1
  have h3 := heap3 w (.cells e.cells 26) (.cells #[.int .i64 q0, .int .i64 q1] 23) (.cells zeroCells 26)
  have hbe := below3 w (.cells e.cells 26) (.cells #[.int .i64 q0, .int .i64 q1] 23) (.cells zeroCells 26)
  unfold Ent.cells zeroCells at h3 hbe
  generalize ((w.alloc _).alloc _).alloc _ = W at h3 hbe ⊢
  obtain ⟨h3, h4⟩ := h3
  have hE : EntBox W w.heap.size e := h3
  have hZ : W.heap[w.heap.size + 1 + 1]? = some (.cells zeroCells 26 (0, 0)) := h4
  clear h3 h4
  have cf : ∀ j, W.frozen? ⟨w.heap.size, j, none⟩ = false := fun j => Lib.frozen_of_heap hE j
  have hlt := lt_of_heap hE
  have cc := hE.cell 8
  simp only [Ent.cells] at cc
  have hE2 : EntBox (W.setCell ⟨w.heap.size, 8, none⟩ (.int .i64 (selI [0, -1000, -1001, 1000, 1001, 5 * (nn : Int)] (nn % 6)))) w.heap.size { e with grade := selI [0, -1000, -1001, 1000, 1001, 5 * (nn : Int)] (nn % 6) } := hE.setc 8 _ rfl
  have hZ2 : (W.setCell ⟨w.heap.size, 8, none⟩ (.int .i64 (selI [0, -1000, -1001, 1000, 1001, 5 * (nn : Int)] (nn % 6)))).heap[w.heap.size + 1 + 1]? = some (.cells zeroCells 26 (0, 0)) := by
    rw [Below.heap_setCell _ _ _ _ (by show w.heap.size + 1 + 1 ≠ w.heap.size; omega)]; exact hZ
  have hb2 : RowKit.Below w.heap.size w (W.setCell ⟨w.heap.size, 8, none⟩ (.int .i64 (selI [0, -1000, -1001, 1000, 1001, 5 * (nn : Int)] (nn % 6)))) := hbe.setCell (Nat.le_refl _) _
  have hE3 : EntBox ((W.setCell ⟨w.heap.size, 8, none⟩ (.int .i64 (selI [0, -1000, -1001, 1000, 1001, 5 * (nn : Int)] (nn % 6)))).alloc (.cells #[.int .i64 (0), .int .i64 (-1000), .int .i64 (-1001), .int .i64 (1000), .int .i64 (1001), .int .i64 (5 * (nn : Int))] 3)) w.heap.size { e with grade := selI [0, -1000, -1001, 1000, 1001, 5 * (nn : Int)] (nn % 6) } := hE2.below (below_alloc1 _ _)
  have hZ3 : ((W.setCell ⟨w.heap.size, 8, none⟩ (.int .i64 (selI [0, -1000, -1001, 1000, 1001, 5 * (nn : Int)] (nn % 6)))).alloc (.cells #[.int .i64 (0), .int .i64 (-1000), .int .i64 (-1001), .int .i64 (1000), .int .i64 (1001), .int .i64 (5 * (nn : Int))] 3)).heap[w.heap.size + 1 + 1]? = some (.cells zeroCells 26 (0, 0)) := ((below_alloc1 _ _).block _ (lt_of_heap hZ2)).trans hZ2
  have hb3 : RowKit.Below w.heap.size w ((W.setCell ⟨w.heap.size, 8, none⟩ (.int .i64 (selI [0, -1000, -1001, 1000, 1001, 5 * (nn : Int)] (nn % 6)))).alloc (.cells #[.int .i64 (0), .int .i64 (-1000), .int .i64 (-1001), .int .i64 (1000), .int .i64 (1001), .int .i64 (5 * (nn : Int))] 3)) := hb2.trans ((below_alloc1 _ _).mono hb2.size)
  have hat := hE3.at_
  clear hE hZ hbe hE2 hZ2 hb2 hE3
  go_wp2_with (first | ((with_reducible refine wpList_load_mid (op := ⟨some 130, _, _, _, _, _⟩) ?_ 26 (.tmp 2) ?_ w.heap.size 0 ?_ (Ent.cells { e with grade := selI [0, -1000, -1001, 1000, 1001, 5 * (nn : Int)] (nn % 6) }).toList _ ?_ Tryd.underlying26 ?_ ?_ ?_); rfl; rfl; rfl; exact hat; rfl; kernel_rfl) | ((with_reducible refine wpList_store_row (o := ⟨none, .store 26 (.tmp 4) (.tmp 130), _, _, _, _⟩) ?_ 26 (.tmp 4) (.tmp 130) ?_ (w.heap.size + 1 + 1) (Ent.cells { e with grade := selI [0, -1000, -1001, 1000, 1001, 5 * (nn : Int)] (nn % 6) }) ?_ ?_ 26 zeroCells ?_ ?_ ?_ ?_ ?_); rfl; rfl; rfl; rfl; exact hZ3; kernel_rfl; rfl; simp [Ent.cells, Value.oneCell']))
  refine bodyPost_ret (v := Ent.val { e with grade := selI [0, -1000, -1001, 1000, 1001, 5 * (nn : Int)] (nn % 6) }) (results_cell_row (P := Tryd.prog) Tryd.results32 _ _ (w.heap.size + 1 + 1) 26 (Ent.cells { e with grade := selI [0, -1000, -1001, 1000, 1001, 5 * (nn : Int)] (nn % 6) }) (0, 0) _ rfl ?_ Tryd.underlying26 rfl (by kernel_rfl)) rfl ⟨{ e with grade := selI [0, -1000, -1001, 1000, 1001, 5 * (nn : Int)] (nn % 6) }, rfl, { h with grade := by dsimp only; first | exact i64_wrap _ | (unfold I64; omega) | (refine selI_ok (fun x hx => ?_) _; simp only [List.mem_cons, List.not_mem_nil, or_false] at hx; rcases hx with rfl | rfl | rfl | rfl | rfl | rfl; all_goals (first | exact i64_wrap _ | exact h.id | exact h.day | (unfold I64; omega))) | (refine selI_ok (fun x hx => ?_) _; simp only [List.mem_cons, List.not_mem_nil, or_false] at hx; rcases hx with rfl | rfl | rfl | rfl; all_goals (first | exact i64_wrap _ | exact h.id | exact h.day | (unfold I64; omega))) | (refine selS_ok (fun x hx => ?_) _; simp only [List.mem_cons, List.not_mem_nil, or_false] at hx; rcases hx with rfl | rfl | rfl | rfl | rfl; all_goals decide) | (refine selS_ok (fun x hx => ?_) _; simp only [List.mem_cons, List.not_mem_nil, or_false] at hx; rcases hx with rfl | rfl | rfl | rfl; all_goals decide) | (have hq : ∀ j : Fin 4, 0 ≤ selI [0, 1, 899999, 900000] j.1 ∧ selI [0, 1, 899999, 900000] j.1 ≤ 900000 := (by decide); have hq2 := hq ⟨nn % 4, Nat.mod_lt _ (by decide)⟩; unfold I64; simp only at hq2; omega) }, ?_⟩
  · exact heap_setRow hZ3 _
  · exact below_setRow hb3 (by omega) _
set_option maxHeartbeats 8000000 in
set_option maxRecDepth 100000 in
theorem odd_9 (e : Ent) (q0 q1 : Int) (h : e.Ok) (_h0 : I64 q0) (_h1 : I64 q1) (hk : q0 % 15 = 9) (w : World) :
    Calls Tryd.prog 32 #[e.val, .agg #[.int .i64 q0, .int .i64 q1]] w (EntPost w) := by
  have hm1 := fun W => mod_any q1 40 W (by omega) (by omega)
  have hm0 := fun W => mod_any q0 15 W (by omega) (by omega)
  have b1 : 0 ≤ q1 % 40 ∧ q1 % 40 < 40 := by omega
  obtain ⟨nn, hn⟩ := Int.eq_ofNat_of_zero_le b1.1
  rw [hn] at hm1 b1
  rw [hk] at hm0
  clear hn
  have hnn : nn < 40 := by omega
  have hid := h.id
  have hday := h.day
  go_enter Tryd.func32, Tryd.ntmps32
  go_wp2_with fail
  refine (hm1 _).mono ?_
  rintro x w1 ⟨rfl, rfl⟩
  go_wp2_with fail
  refine (hm0 _).mono ?_
  rintro x w1 ⟨rfl, rfl⟩
  clear hm0 hm1 b1
  have h3 := heap3 w (.cells e.cells 26) (.cells #[.int .i64 q0, .int .i64 q1] 23) (.cells zeroCells 26)
  have hbe := below3 w (.cells e.cells 26) (.cells #[.int .i64 q0, .int .i64 q1] 23) (.cells zeroCells 26)
  unfold Ent.cells zeroCells at h3 hbe
  generalize ((w.alloc _).alloc _).alloc _ = W at h3 hbe ⊢
  obtain ⟨h3, h4⟩ := h3
  have hE : EntBox W w.heap.size e := h3
  have hZ : W.heap[w.heap.size + 1 + 1]? = some (.cells zeroCells 26 (0, 0)) := h4
  clear h3 h4
  have cf : ∀ j, W.frozen? ⟨w.heap.size, j, none⟩ = false := fun j => Lib.frozen_of_heap hE j
  have hlt := lt_of_heap hE
  have cc := hE.cell 9
  have cd := hE.cell 0
  simp only [Ent.cells] at cc cd
  have hE2 : EntBox (W.setCell ⟨w.heap.size, 9, none⟩ (.int .i64 (selI [0, e.id, 1, 899999, 900000, (nn : Int)] (nn % 6)))) w.heap.size { e with ref := selI [0, e.id, 1, 899999, 900000, (nn : Int)] (nn % 6) } := hE.setc 9 _ rfl
  have hZ2 : (W.setCell ⟨w.heap.size, 9, none⟩ (.int .i64 (selI [0, e.id, 1, 899999, 900000, (nn : Int)] (nn % 6)))).heap[w.heap.size + 1 + 1]? = some (.cells zeroCells 26 (0, 0)) := by
    rw [Below.heap_setCell _ _ _ _ (by show w.heap.size + 1 + 1 ≠ w.heap.size; omega)]; exact hZ
  have hb2 : RowKit.Below w.heap.size w (W.setCell ⟨w.heap.size, 9, none⟩ (.int .i64 (selI [0, e.id, 1, 899999, 900000, (nn : Int)] (nn % 6)))) := hbe.setCell (Nat.le_refl _) _
  have hE3 : EntBox ((W.setCell ⟨w.heap.size, 9, none⟩ (.int .i64 (selI [0, e.id, 1, 899999, 900000, (nn : Int)] (nn % 6)))).alloc (.cells #[.int .i64 (0), .int .i64 (e.id), .int .i64 (1), .int .i64 (899999), .int .i64 (900000), .int .i64 ((nn : Int))] 3)) w.heap.size { e with ref := selI [0, e.id, 1, 899999, 900000, (nn : Int)] (nn % 6) } := hE2.below (below_alloc1 _ _)
  have hZ3 : ((W.setCell ⟨w.heap.size, 9, none⟩ (.int .i64 (selI [0, e.id, 1, 899999, 900000, (nn : Int)] (nn % 6)))).alloc (.cells #[.int .i64 (0), .int .i64 (e.id), .int .i64 (1), .int .i64 (899999), .int .i64 (900000), .int .i64 ((nn : Int))] 3)).heap[w.heap.size + 1 + 1]? = some (.cells zeroCells 26 (0, 0)) := ((below_alloc1 _ _).block _ (lt_of_heap hZ2)).trans hZ2
  have hb3 : RowKit.Below w.heap.size w ((W.setCell ⟨w.heap.size, 9, none⟩ (.int .i64 (selI [0, e.id, 1, 899999, 900000, (nn : Int)] (nn % 6)))).alloc (.cells #[.int .i64 (0), .int .i64 (e.id), .int .i64 (1), .int .i64 (899999), .int .i64 (900000), .int .i64 ((nn : Int))] 3)) := hb2.trans ((below_alloc1 _ _).mono hb2.size)
  have hat := hE3.at_
  clear hE hZ hbe hE2 hZ2 hb2 hE3
  go_wp2_with (first | ((with_reducible refine wpList_load_mid (op := ⟨some 130, _, _, _, _, _⟩) ?_ 26 (.tmp 2) ?_ w.heap.size 0 ?_ (Ent.cells { e with ref := selI [0, e.id, 1, 899999, 900000, (nn : Int)] (nn % 6) }).toList _ ?_ Tryd.underlying26 ?_ ?_ ?_); rfl; rfl; rfl; exact hat; rfl; kernel_rfl) | ((with_reducible refine wpList_store_row (o := ⟨none, .store 26 (.tmp 4) (.tmp 130), _, _, _, _⟩) ?_ 26 (.tmp 4) (.tmp 130) ?_ (w.heap.size + 1 + 1) (Ent.cells { e with ref := selI [0, e.id, 1, 899999, 900000, (nn : Int)] (nn % 6) }) ?_ ?_ 26 zeroCells ?_ ?_ ?_ ?_ ?_); rfl; rfl; rfl; rfl; exact hZ3; kernel_rfl; rfl; simp [Ent.cells, Value.oneCell']))
  refine bodyPost_ret (v := Ent.val { e with ref := selI [0, e.id, 1, 899999, 900000, (nn : Int)] (nn % 6) }) (results_cell_row (P := Tryd.prog) Tryd.results32 _ _ (w.heap.size + 1 + 1) 26 (Ent.cells { e with ref := selI [0, e.id, 1, 899999, 900000, (nn : Int)] (nn % 6) }) (0, 0) _ rfl ?_ Tryd.underlying26 rfl (by kernel_rfl)) rfl ⟨{ e with ref := selI [0, e.id, 1, 899999, 900000, (nn : Int)] (nn % 6) }, rfl, { h with ref := by dsimp only; first | exact i64_wrap _ | (unfold I64; omega) | (refine selI_ok (fun x hx => ?_) _; simp only [List.mem_cons, List.not_mem_nil, or_false] at hx; rcases hx with rfl | rfl | rfl | rfl | rfl | rfl; all_goals (first | exact i64_wrap _ | exact h.id | exact h.day | (unfold I64; omega))) | (refine selI_ok (fun x hx => ?_) _; simp only [List.mem_cons, List.not_mem_nil, or_false] at hx; rcases hx with rfl | rfl | rfl | rfl; all_goals (first | exact i64_wrap _ | exact h.id | exact h.day | (unfold I64; omega))) | (refine selS_ok (fun x hx => ?_) _; simp only [List.mem_cons, List.not_mem_nil, or_false] at hx; rcases hx with rfl | rfl | rfl | rfl | rfl; all_goals decide) | (refine selS_ok (fun x hx => ?_) _; simp only [List.mem_cons, List.not_mem_nil, or_false] at hx; rcases hx with rfl | rfl | rfl | rfl; all_goals decide) | (have hq : ∀ j : Fin 4, 0 ≤ selI [0, 1, 899999, 900000] j.1 ∧ selI [0, 1, 899999, 900000] j.1 ≤ 900000 := (by decide); have hq2 := hq ⟨nn % 4, Nat.mod_lt _ (by decide)⟩; unfold I64; simp only at hq2; omega) }, ?_⟩
  · exact heap_setRow hZ3 _
  · exact below_setRow hb3 (by omega) _
set_option maxHeartbeats 8000000 in
set_option maxRecDepth 100000 in
theorem odd_10 (e : Ent) (q0 q1 : Int) (h : e.Ok) (_h0 : I64 q0) (_h1 : I64 q1) (hk : q0 % 15 = 10) (w : World) :
    Calls Tryd.prog 32 #[e.val, .agg #[.int .i64 q0, .int .i64 q1]] w (EntPost w) := by
  have hm1 := fun W => mod_any q1 40 W (by omega) (by omega)
  have hm0 := fun W => mod_any q0 15 W (by omega) (by omega)
  have b1 : 0 ≤ q1 % 40 ∧ q1 % 40 < 40 := by omega
  obtain ⟨nn, hn⟩ := Int.eq_ofNat_of_zero_le b1.1
  rw [hn] at hm1 b1
  rw [hk] at hm0
  clear hn
  have hnn : nn < 40 := by omega
  have hid := h.id
  have hday := h.day
  go_enter Tryd.func32, Tryd.ntmps32
  go_wp2_with fail
  refine (hm1 _).mono ?_
  rintro x w1 ⟨rfl, rfl⟩
  go_wp2_with fail
  refine (hm0 _).mono ?_
  rintro x w1 ⟨rfl, rfl⟩
  clear hm0 hm1 b1
  have h3 := heap3 w (.cells e.cells 26) (.cells #[.int .i64 q0, .int .i64 q1] 23) (.cells zeroCells 26)
  have hbe := below3 w (.cells e.cells 26) (.cells #[.int .i64 q0, .int .i64 q1] 23) (.cells zeroCells 26)
  unfold Ent.cells zeroCells at h3 hbe
  generalize ((w.alloc _).alloc _).alloc _ = W at h3 hbe ⊢
  obtain ⟨h3, h4⟩ := h3
  have hE : EntBox W w.heap.size e := h3
  have hZ : W.heap[w.heap.size + 1 + 1]? = some (.cells zeroCells 26 (0, 0)) := h4
  clear h3 h4
  have cf : ∀ j, W.frozen? ⟨w.heap.size, j, none⟩ = false := fun j => Lib.frozen_of_heap hE j
  have cc := hE.cell 10
  simp only [Ent.cells] at cc
  have hE2 : EntBox (W.setCell ⟨w.heap.size, 10, none⟩ (.int .i64 ((nn : Int) % 10))) w.heap.size { e with fro := (nn : Int) % 10 } := hE.setc 10 _ rfl
  have hZ2 : (W.setCell ⟨w.heap.size, 10, none⟩ (.int .i64 ((nn : Int) % 10))).heap[w.heap.size + 1 + 1]? = some (.cells zeroCells 26 (0, 0)) := by
    rw [Below.heap_setCell _ _ _ _ (by show w.heap.size + 1 + 1 ≠ w.heap.size; omega)]; exact hZ
  have hb2 : RowKit.Below w.heap.size w (W.setCell ⟨w.heap.size, 10, none⟩ (.int .i64 ((nn : Int) % 10))) := hbe.setCell (Nat.le_refl _) _
  have hE3 := hE2; have hZ3 := hZ2; have hb3 := hb2
  have hat := hE3.at_
  clear hE hZ hbe hE2 hZ2 hb2 hE3
  go_wp2_with (first | ((with_reducible refine wpList_load_mid (op := ⟨some 130, _, _, _, _, _⟩) ?_ 26 (.tmp 2) ?_ w.heap.size 0 ?_ (Ent.cells { e with fro := (nn : Int) % 10 }).toList _ ?_ Tryd.underlying26 ?_ ?_ ?_); rfl; rfl; rfl; exact hat; rfl; kernel_rfl) | ((with_reducible refine wpList_store_row (o := ⟨none, .store 26 (.tmp 4) (.tmp 130), _, _, _, _⟩) ?_ 26 (.tmp 4) (.tmp 130) ?_ (w.heap.size + 1 + 1) (Ent.cells { e with fro := (nn : Int) % 10 }) ?_ ?_ 26 zeroCells ?_ ?_ ?_ ?_ ?_); rfl; rfl; rfl; rfl; exact hZ3; kernel_rfl; rfl; simp [Ent.cells, Value.oneCell']))
  refine bodyPost_ret (v := Ent.val { e with fro := (nn : Int) % 10 }) (results_cell_row (P := Tryd.prog) Tryd.results32 _ _ (w.heap.size + 1 + 1) 26 (Ent.cells { e with fro := (nn : Int) % 10 }) (0, 0) _ rfl ?_ Tryd.underlying26 rfl (by kernel_rfl)) rfl ⟨{ e with fro := (nn : Int) % 10 }, rfl, { h with fro := by dsimp only; first | exact i64_wrap _ | (unfold I64; omega) | (refine selI_ok (fun x hx => ?_) _; simp only [List.mem_cons, List.not_mem_nil, or_false] at hx; rcases hx with rfl | rfl | rfl | rfl | rfl | rfl; all_goals (first | exact i64_wrap _ | exact h.id | exact h.day | (unfold I64; omega))) | (refine selI_ok (fun x hx => ?_) _; simp only [List.mem_cons, List.not_mem_nil, or_false] at hx; rcases hx with rfl | rfl | rfl | rfl; all_goals (first | exact i64_wrap _ | exact h.id | exact h.day | (unfold I64; omega))) | (refine selS_ok (fun x hx => ?_) _; simp only [List.mem_cons, List.not_mem_nil, or_false] at hx; rcases hx with rfl | rfl | rfl | rfl | rfl; all_goals decide) | (refine selS_ok (fun x hx => ?_) _; simp only [List.mem_cons, List.not_mem_nil, or_false] at hx; rcases hx with rfl | rfl | rfl | rfl; all_goals decide) | (have hq : ∀ j : Fin 4, 0 ≤ selI [0, 1, 899999, 900000] j.1 ∧ selI [0, 1, 899999, 900000] j.1 ≤ 900000 := (by decide); have hq2 := hq ⟨nn % 4, Nat.mod_lt _ (by decide)⟩; unfold I64; simp only at hq2; omega) }, ?_⟩
  · exact heap_setRow hZ3 _
  · exact below_setRow hb3 (by omega) _
set_option maxHeartbeats 8000000 in
set_option maxRecDepth 100000 in
theorem odd_11 (e : Ent) (q0 q1 : Int) (h : e.Ok) (_h0 : I64 q0) (_h1 : I64 q1) (hk : q0 % 15 = 11) (w : World) :
    Calls Tryd.prog 32 #[e.val, .agg #[.int .i64 q0, .int .i64 q1]] w (EntPost w) := by
  have hm1 := fun W => mod_any q1 40 W (by omega) (by omega)
  have hm0 := fun W => mod_any q0 15 W (by omega) (by omega)
  have b1 : 0 ≤ q1 % 40 ∧ q1 % 40 < 40 := by omega
  obtain ⟨nn, hn⟩ := Int.eq_ofNat_of_zero_le b1.1
  rw [hn] at hm1 b1
  rw [hk] at hm0
  clear hn
  have hnn : nn < 40 := by omega
  have hid := h.id
  have hday := h.day
  go_enter Tryd.func32, Tryd.ntmps32
  go_wp2_with fail
  refine (hm1 _).mono ?_
  rintro x w1 ⟨rfl, rfl⟩
  go_wp2_with fail
  refine (hm0 _).mono ?_
  rintro x w1 ⟨rfl, rfl⟩
  clear hm0 hm1 b1
  have h3 := heap3 w (.cells e.cells 26) (.cells #[.int .i64 q0, .int .i64 q1] 23) (.cells zeroCells 26)
  have hbe := below3 w (.cells e.cells 26) (.cells #[.int .i64 q0, .int .i64 q1] 23) (.cells zeroCells 26)
  unfold Ent.cells zeroCells at h3 hbe
  generalize ((w.alloc _).alloc _).alloc _ = W at h3 hbe ⊢
  obtain ⟨h3, h4⟩ := h3
  have hE : EntBox W w.heap.size e := h3
  have hZ : W.heap[w.heap.size + 1 + 1]? = some (.cells zeroCells 26 (0, 0)) := h4
  clear h3 h4
  have cf : ∀ j, W.frozen? ⟨w.heap.size, j, none⟩ = false := fun j => Lib.frozen_of_heap hE j
  have cc := hE.cell 11
  simp only [Ent.cells] at cc
  have hE2 : EntBox (W.setCell ⟨w.heap.size, 11, none⟩ (.int .i64 ((nn : Int) % 4 - 1))) w.heap.size { e with programme := (nn : Int) % 4 - 1 } := hE.setc 11 _ rfl
  have hZ2 : (W.setCell ⟨w.heap.size, 11, none⟩ (.int .i64 ((nn : Int) % 4 - 1))).heap[w.heap.size + 1 + 1]? = some (.cells zeroCells 26 (0, 0)) := by
    rw [Below.heap_setCell _ _ _ _ (by show w.heap.size + 1 + 1 ≠ w.heap.size; omega)]; exact hZ
  have hb2 : RowKit.Below w.heap.size w (W.setCell ⟨w.heap.size, 11, none⟩ (.int .i64 ((nn : Int) % 4 - 1))) := hbe.setCell (Nat.le_refl _) _
  have hE3 := hE2; have hZ3 := hZ2; have hb3 := hb2
  have hat := hE3.at_
  clear hE hZ hbe hE2 hZ2 hb2 hE3
  go_wp2_with (first | ((with_reducible refine wpList_load_mid (op := ⟨some 130, _, _, _, _, _⟩) ?_ 26 (.tmp 2) ?_ w.heap.size 0 ?_ (Ent.cells { e with programme := (nn : Int) % 4 - 1 }).toList _ ?_ Tryd.underlying26 ?_ ?_ ?_); rfl; rfl; rfl; exact hat; rfl; kernel_rfl) | ((with_reducible refine wpList_store_row (o := ⟨none, .store 26 (.tmp 4) (.tmp 130), _, _, _, _⟩) ?_ 26 (.tmp 4) (.tmp 130) ?_ (w.heap.size + 1 + 1) (Ent.cells { e with programme := (nn : Int) % 4 - 1 }) ?_ ?_ 26 zeroCells ?_ ?_ ?_ ?_ ?_); rfl; rfl; rfl; rfl; exact hZ3; kernel_rfl; rfl; simp [Ent.cells, Value.oneCell']))
  refine bodyPost_ret (v := Ent.val { e with programme := (nn : Int) % 4 - 1 }) (results_cell_row (P := Tryd.prog) Tryd.results32 _ _ (w.heap.size + 1 + 1) 26 (Ent.cells { e with programme := (nn : Int) % 4 - 1 }) (0, 0) _ rfl ?_ Tryd.underlying26 rfl (by kernel_rfl)) rfl ⟨{ e with programme := (nn : Int) % 4 - 1 }, rfl, { h with programme := by dsimp only; first | exact i64_wrap _ | (unfold I64; omega) | (refine selI_ok (fun x hx => ?_) _; simp only [List.mem_cons, List.not_mem_nil, or_false] at hx; rcases hx with rfl | rfl | rfl | rfl | rfl | rfl; all_goals (first | exact i64_wrap _ | exact h.id | exact h.day | (unfold I64; omega))) | (refine selI_ok (fun x hx => ?_) _; simp only [List.mem_cons, List.not_mem_nil, or_false] at hx; rcases hx with rfl | rfl | rfl | rfl; all_goals (first | exact i64_wrap _ | exact h.id | exact h.day | (unfold I64; omega))) | (refine selS_ok (fun x hx => ?_) _; simp only [List.mem_cons, List.not_mem_nil, or_false] at hx; rcases hx with rfl | rfl | rfl | rfl | rfl; all_goals decide) | (refine selS_ok (fun x hx => ?_) _; simp only [List.mem_cons, List.not_mem_nil, or_false] at hx; rcases hx with rfl | rfl | rfl | rfl; all_goals decide) | (have hq : ∀ j : Fin 4, 0 ≤ selI [0, 1, 899999, 900000] j.1 ∧ selI [0, 1, 899999, 900000] j.1 ≤ 900000 := (by decide); have hq2 := hq ⟨nn % 4, Nat.mod_lt _ (by decide)⟩; unfold I64; simp only at hq2; omega) }, ?_⟩
  · exact heap_setRow hZ3 _
  · exact below_setRow hb3 (by omega) _
set_option maxHeartbeats 8000000 in
set_option maxRecDepth 100000 in
theorem odd_12 (e : Ent) (q0 q1 : Int) (h : e.Ok) (_h0 : I64 q0) (_h1 : I64 q1) (hk : q0 % 15 = 12) (w : World) :
    Calls Tryd.prog 32 #[e.val, .agg #[.int .i64 q0, .int .i64 q1]] w (EntPost w) := by
  have hm1 := fun W => mod_any q1 40 W (by omega) (by omega)
  have hm0 := fun W => mod_any q0 15 W (by omega) (by omega)
  have b1 : 0 ≤ q1 % 40 ∧ q1 % 40 < 40 := by omega
  obtain ⟨nn, hn⟩ := Int.eq_ofNat_of_zero_le b1.1
  rw [hn] at hm1 b1
  rw [hk] at hm0
  clear hn
  have hnn : nn < 40 := by omega
  have hid := h.id
  have hday := h.day
  go_enter Tryd.func32, Tryd.ntmps32
  go_wp2_with fail
  refine (hm1 _).mono ?_
  rintro x w1 ⟨rfl, rfl⟩
  go_wp2_with fail
  refine (hm0 _).mono ?_
  rintro x w1 ⟨rfl, rfl⟩
  clear hm0 hm1 b1
  have h3 := heap3 w (.cells e.cells 26) (.cells #[.int .i64 q0, .int .i64 q1] 23) (.cells zeroCells 26)
  have hbe := below3 w (.cells e.cells 26) (.cells #[.int .i64 q0, .int .i64 q1] 23) (.cells zeroCells 26)
  unfold Ent.cells zeroCells at h3 hbe
  generalize ((w.alloc _).alloc _).alloc _ = W at h3 hbe ⊢
  obtain ⟨h3, h4⟩ := h3
  have hE : EntBox W w.heap.size e := h3
  have hZ : W.heap[w.heap.size + 1 + 1]? = some (.cells zeroCells 26 (0, 0)) := h4
  clear h3 h4
  have cf : ∀ j, W.frozen? ⟨w.heap.size, j, none⟩ = false := fun j => Lib.frozen_of_heap hE j
  have cc := hE.cell 12
  simp only [Ent.cells] at cc
  have hE2 : EntBox (W.setCell ⟨w.heap.size, 12, none⟩ (.int .i64 ((nn : Int) % 4 - 1))) w.heap.size { e with version := (nn : Int) % 4 - 1 } := hE.setc 12 _ rfl
  have hZ2 : (W.setCell ⟨w.heap.size, 12, none⟩ (.int .i64 ((nn : Int) % 4 - 1))).heap[w.heap.size + 1 + 1]? = some (.cells zeroCells 26 (0, 0)) := by
    rw [Below.heap_setCell _ _ _ _ (by show w.heap.size + 1 + 1 ≠ w.heap.size; omega)]; exact hZ
  have hb2 : RowKit.Below w.heap.size w (W.setCell ⟨w.heap.size, 12, none⟩ (.int .i64 ((nn : Int) % 4 - 1))) := hbe.setCell (Nat.le_refl _) _
  have hE3 := hE2; have hZ3 := hZ2; have hb3 := hb2
  have hat := hE3.at_
  clear hE hZ hbe hE2 hZ2 hb2 hE3
  go_wp2_with (first | ((with_reducible refine wpList_load_mid (op := ⟨some 130, _, _, _, _, _⟩) ?_ 26 (.tmp 2) ?_ w.heap.size 0 ?_ (Ent.cells { e with version := (nn : Int) % 4 - 1 }).toList _ ?_ Tryd.underlying26 ?_ ?_ ?_); rfl; rfl; rfl; exact hat; rfl; kernel_rfl) | ((with_reducible refine wpList_store_row (o := ⟨none, .store 26 (.tmp 4) (.tmp 130), _, _, _, _⟩) ?_ 26 (.tmp 4) (.tmp 130) ?_ (w.heap.size + 1 + 1) (Ent.cells { e with version := (nn : Int) % 4 - 1 }) ?_ ?_ 26 zeroCells ?_ ?_ ?_ ?_ ?_); rfl; rfl; rfl; rfl; exact hZ3; kernel_rfl; rfl; simp [Ent.cells, Value.oneCell']))
  refine bodyPost_ret (v := Ent.val { e with version := (nn : Int) % 4 - 1 }) (results_cell_row (P := Tryd.prog) Tryd.results32 _ _ (w.heap.size + 1 + 1) 26 (Ent.cells { e with version := (nn : Int) % 4 - 1 }) (0, 0) _ rfl ?_ Tryd.underlying26 rfl (by kernel_rfl)) rfl ⟨{ e with version := (nn : Int) % 4 - 1 }, rfl, { h with version := by dsimp only; first | exact i64_wrap _ | (unfold I64; omega) | (refine selI_ok (fun x hx => ?_) _; simp only [List.mem_cons, List.not_mem_nil, or_false] at hx; rcases hx with rfl | rfl | rfl | rfl | rfl | rfl; all_goals (first | exact i64_wrap _ | exact h.id | exact h.day | (unfold I64; omega))) | (refine selI_ok (fun x hx => ?_) _; simp only [List.mem_cons, List.not_mem_nil, or_false] at hx; rcases hx with rfl | rfl | rfl | rfl; all_goals (first | exact i64_wrap _ | exact h.id | exact h.day | (unfold I64; omega))) | (refine selS_ok (fun x hx => ?_) _; simp only [List.mem_cons, List.not_mem_nil, or_false] at hx; rcases hx with rfl | rfl | rfl | rfl | rfl; all_goals decide) | (refine selS_ok (fun x hx => ?_) _; simp only [List.mem_cons, List.not_mem_nil, or_false] at hx; rcases hx with rfl | rfl | rfl | rfl; all_goals decide) | (have hq : ∀ j : Fin 4, 0 ≤ selI [0, 1, 899999, 900000] j.1 ∧ selI [0, 1, 899999, 900000] j.1 ≤ 900000 := (by decide); have hq2 := hq ⟨nn % 4, Nat.mod_lt _ (by decide)⟩; unfold I64; simp only at hq2; omega) }, ?_⟩
  · exact heap_setRow hZ3 _
  · exact below_setRow hb3 (by omega) _
set_option maxHeartbeats 8000000 in
set_option maxRecDepth 100000 in
theorem odd_13 (e : Ent) (q0 q1 : Int) (h : e.Ok) (_h0 : I64 q0) (_h1 : I64 q1) (hk : q0 % 15 = 13) (w : World) :
    Calls Tryd.prog 32 #[e.val, .agg #[.int .i64 q0, .int .i64 q1]] w (EntPost w) := by
  have hm1 := fun W => mod_any q1 40 W (by omega) (by omega)
  have hm0 := fun W => mod_any q0 15 W (by omega) (by omega)
  have b1 : 0 ≤ q1 % 40 ∧ q1 % 40 < 40 := by omega
  obtain ⟨nn, hn⟩ := Int.eq_ofNat_of_zero_le b1.1
  rw [hn] at hm1 b1
  rw [hk] at hm0
  clear hn
  have hnn : nn < 40 := by omega
  have hid := h.id
  have hday := h.day
  go_enter Tryd.func32, Tryd.ntmps32
  go_wp2_with fail
  refine (hm1 _).mono ?_
  rintro x w1 ⟨rfl, rfl⟩
  go_wp2_with fail
  refine (hm0 _).mono ?_
  rintro x w1 ⟨rfl, rfl⟩
  clear hm0 hm1 b1
  have h3 := heap3 w (.cells e.cells 26) (.cells #[.int .i64 q0, .int .i64 q1] 23) (.cells zeroCells 26)
  have hbe := below3 w (.cells e.cells 26) (.cells #[.int .i64 q0, .int .i64 q1] 23) (.cells zeroCells 26)
  unfold Ent.cells zeroCells at h3 hbe
  generalize ((w.alloc _).alloc _).alloc _ = W at h3 hbe ⊢
  obtain ⟨h3, h4⟩ := h3
  have hE : EntBox W w.heap.size e := h3
  have hZ : W.heap[w.heap.size + 1 + 1]? = some (.cells zeroCells 26 (0, 0)) := h4
  clear h3 h4
  have cf : ∀ j, W.frozen? ⟨w.heap.size, j, none⟩ = false := fun j => Lib.frozen_of_heap hE j
  have cc := hE.cell 13
  simp only [Ent.cells] at cc
  have hE2 : EntBox (W.setCell ⟨w.heap.size, 13, none⟩ (.int .i64 ((nn : Int) - 3))) w.heap.size { e with key := (nn : Int) - 3 } := hE.setc 13 _ rfl
  have hZ2 : (W.setCell ⟨w.heap.size, 13, none⟩ (.int .i64 ((nn : Int) - 3))).heap[w.heap.size + 1 + 1]? = some (.cells zeroCells 26 (0, 0)) := by
    rw [Below.heap_setCell _ _ _ _ (by show w.heap.size + 1 + 1 ≠ w.heap.size; omega)]; exact hZ
  have hb2 : RowKit.Below w.heap.size w (W.setCell ⟨w.heap.size, 13, none⟩ (.int .i64 ((nn : Int) - 3))) := hbe.setCell (Nat.le_refl _) _
  have hE3 := hE2; have hZ3 := hZ2; have hb3 := hb2
  have hat := hE3.at_
  clear hE hZ hbe hE2 hZ2 hb2 hE3
  go_wp2_with (first | ((with_reducible refine wpList_load_mid (op := ⟨some 130, _, _, _, _, _⟩) ?_ 26 (.tmp 2) ?_ w.heap.size 0 ?_ (Ent.cells { e with key := (nn : Int) - 3 }).toList _ ?_ Tryd.underlying26 ?_ ?_ ?_); rfl; rfl; rfl; exact hat; rfl; kernel_rfl) | ((with_reducible refine wpList_store_row (o := ⟨none, .store 26 (.tmp 4) (.tmp 130), _, _, _, _⟩) ?_ 26 (.tmp 4) (.tmp 130) ?_ (w.heap.size + 1 + 1) (Ent.cells { e with key := (nn : Int) - 3 }) ?_ ?_ 26 zeroCells ?_ ?_ ?_ ?_ ?_); rfl; rfl; rfl; rfl; exact hZ3; kernel_rfl; rfl; simp [Ent.cells, Value.oneCell']))
  refine bodyPost_ret (v := Ent.val { e with key := (nn : Int) - 3 }) (results_cell_row (P := Tryd.prog) Tryd.results32 _ _ (w.heap.size + 1 + 1) 26 (Ent.cells { e with key := (nn : Int) - 3 }) (0, 0) _ rfl ?_ Tryd.underlying26 rfl (by kernel_rfl)) rfl ⟨{ e with key := (nn : Int) - 3 }, rfl, { h with key := by dsimp only; first | exact i64_wrap _ | (unfold I64; omega) | (refine selI_ok (fun x hx => ?_) _; simp only [List.mem_cons, List.not_mem_nil, or_false] at hx; rcases hx with rfl | rfl | rfl | rfl | rfl | rfl; all_goals (first | exact i64_wrap _ | exact h.id | exact h.day | (unfold I64; omega))) | (refine selI_ok (fun x hx => ?_) _; simp only [List.mem_cons, List.not_mem_nil, or_false] at hx; rcases hx with rfl | rfl | rfl | rfl; all_goals (first | exact i64_wrap _ | exact h.id | exact h.day | (unfold I64; omega))) | (refine selS_ok (fun x hx => ?_) _; simp only [List.mem_cons, List.not_mem_nil, or_false] at hx; rcases hx with rfl | rfl | rfl | rfl | rfl; all_goals decide) | (refine selS_ok (fun x hx => ?_) _; simp only [List.mem_cons, List.not_mem_nil, or_false] at hx; rcases hx with rfl | rfl | rfl | rfl; all_goals decide) | (have hq : ∀ j : Fin 4, 0 ≤ selI [0, 1, 899999, 900000] j.1 ∧ selI [0, 1, 899999, 900000] j.1 ≤ 900000 := (by decide); have hq2 := hq ⟨nn % 4, Nat.mod_lt _ (by decide)⟩; unfold I64; simp only at hq2; omega) }, ?_⟩
  · exact heap_setRow hZ3 _
  · exact below_setRow hb3 (by omega) _
set_option maxHeartbeats 8000000 in
set_option maxRecDepth 100000 in
theorem odd_14 (e : Ent) (q0 q1 : Int) (h : e.Ok) (_h0 : I64 q0) (_h1 : I64 q1) (hk : q0 % 15 = 14) (w : World) :
    Calls Tryd.prog 32 #[e.val, .agg #[.int .i64 q0, .int .i64 q1]] w (EntPost w) := by
  have hm1 := fun W => mod_any q1 40 W (by omega) (by omega)
  have hm0 := fun W => mod_any q0 15 W (by omega) (by omega)
  have b1 : 0 ≤ q1 % 40 ∧ q1 % 40 < 40 := by omega
  obtain ⟨nn, hn⟩ := Int.eq_ofNat_of_zero_le b1.1
  rw [hn] at hm1 b1
  rw [hk] at hm0
  clear hn
  have hnn : nn < 40 := by omega
  have hid := h.id
  have hday := h.day
  go_enter Tryd.func32, Tryd.ntmps32
  go_wp2_with fail
  refine (hm1 _).mono ?_
  rintro x w1 ⟨rfl, rfl⟩
  go_wp2_with fail
  refine (hm0 _).mono ?_
  rintro x w1 ⟨rfl, rfl⟩
  clear hm0 hm1 b1
  have h3 := heap3 w (.cells e.cells 26) (.cells #[.int .i64 q0, .int .i64 q1] 23) (.cells zeroCells 26)
  have hbe := below3 w (.cells e.cells 26) (.cells #[.int .i64 q0, .int .i64 q1] 23) (.cells zeroCells 26)
  unfold Ent.cells zeroCells at h3 hbe
  generalize ((w.alloc _).alloc _).alloc _ = W at h3 hbe ⊢
  obtain ⟨h3, h4⟩ := h3
  have hE : EntBox W w.heap.size e := h3
  have hZ : W.heap[w.heap.size + 1 + 1]? = some (.cells zeroCells 26 (0, 0)) := h4
  clear h3 h4
  have cf : ∀ j, W.frozen? ⟨w.heap.size, j, none⟩ = false := fun j => Lib.frozen_of_heap hE j
  have hlt := lt_of_heap hE
  have cc := hE.cell 14
  simp only [Ent.cells] at cc
  have hE2 : EntBox (W.setCell ⟨w.heap.size, 14, none⟩ (.string (selS [⟨#[]⟩, ⟨#[109, 97, 114, 107]⟩, ⟨#[48, 58]⟩, ⟨#[49, 50, 51, 52, 53, 54, 55, 56]⟩] (nn % 4)))) w.heap.size { e with mark := selS [⟨#[]⟩, ⟨#[109, 97, 114, 107]⟩, ⟨#[48, 58]⟩, ⟨#[49, 50, 51, 52, 53, 54, 55, 56]⟩] (nn % 4) } := hE.setc 14 _ rfl
  have hZ2 : (W.setCell ⟨w.heap.size, 14, none⟩ (.string (selS [⟨#[]⟩, ⟨#[109, 97, 114, 107]⟩, ⟨#[48, 58]⟩, ⟨#[49, 50, 51, 52, 53, 54, 55, 56]⟩] (nn % 4)))).heap[w.heap.size + 1 + 1]? = some (.cells zeroCells 26 (0, 0)) := by
    rw [Below.heap_setCell _ _ _ _ (by show w.heap.size + 1 + 1 ≠ w.heap.size; omega)]; exact hZ
  have hb2 : RowKit.Below w.heap.size w (W.setCell ⟨w.heap.size, 14, none⟩ (.string (selS [⟨#[]⟩, ⟨#[109, 97, 114, 107]⟩, ⟨#[48, 58]⟩, ⟨#[49, 50, 51, 52, 53, 54, 55, 56]⟩] (nn % 4)))) := hbe.setCell (Nat.le_refl _) _
  have hE3 : EntBox ((W.setCell ⟨w.heap.size, 14, none⟩ (.string (selS [⟨#[]⟩, ⟨#[109, 97, 114, 107]⟩, ⟨#[48, 58]⟩, ⟨#[49, 50, 51, 52, 53, 54, 55, 56]⟩] (nn % 4)))).alloc (.cells #[.string ⟨#[]⟩, .string ⟨#[109, 97, 114, 107]⟩, .string ⟨#[48, 58]⟩, .string ⟨#[49, 50, 51, 52, 53, 54, 55, 56]⟩] 9)) w.heap.size { e with mark := selS [⟨#[]⟩, ⟨#[109, 97, 114, 107]⟩, ⟨#[48, 58]⟩, ⟨#[49, 50, 51, 52, 53, 54, 55, 56]⟩] (nn % 4) } := hE2.below (below_alloc1 _ _)
  have hZ3 : ((W.setCell ⟨w.heap.size, 14, none⟩ (.string (selS [⟨#[]⟩, ⟨#[109, 97, 114, 107]⟩, ⟨#[48, 58]⟩, ⟨#[49, 50, 51, 52, 53, 54, 55, 56]⟩] (nn % 4)))).alloc (.cells #[.string ⟨#[]⟩, .string ⟨#[109, 97, 114, 107]⟩, .string ⟨#[48, 58]⟩, .string ⟨#[49, 50, 51, 52, 53, 54, 55, 56]⟩] 9)).heap[w.heap.size + 1 + 1]? = some (.cells zeroCells 26 (0, 0)) := ((below_alloc1 _ _).block _ (lt_of_heap hZ2)).trans hZ2
  have hb3 : RowKit.Below w.heap.size w ((W.setCell ⟨w.heap.size, 14, none⟩ (.string (selS [⟨#[]⟩, ⟨#[109, 97, 114, 107]⟩, ⟨#[48, 58]⟩, ⟨#[49, 50, 51, 52, 53, 54, 55, 56]⟩] (nn % 4)))).alloc (.cells #[.string ⟨#[]⟩, .string ⟨#[109, 97, 114, 107]⟩, .string ⟨#[48, 58]⟩, .string ⟨#[49, 50, 51, 52, 53, 54, 55, 56]⟩] 9)) := hb2.trans ((below_alloc1 _ _).mono hb2.size)
  have hat := hE3.at_
  clear hE hZ hbe hE2 hZ2 hb2 hE3
  go_wp2_with (first | ((with_reducible refine wpList_load_mid (op := ⟨some 130, _, _, _, _, _⟩) ?_ 26 (.tmp 2) ?_ w.heap.size 0 ?_ (Ent.cells { e with mark := selS [⟨#[]⟩, ⟨#[109, 97, 114, 107]⟩, ⟨#[48, 58]⟩, ⟨#[49, 50, 51, 52, 53, 54, 55, 56]⟩] (nn % 4) }).toList _ ?_ Tryd.underlying26 ?_ ?_ ?_); rfl; rfl; rfl; exact hat; rfl; kernel_rfl) | ((with_reducible refine wpList_store_row (o := ⟨none, .store 26 (.tmp 4) (.tmp 130), _, _, _, _⟩) ?_ 26 (.tmp 4) (.tmp 130) ?_ (w.heap.size + 1 + 1) (Ent.cells { e with mark := selS [⟨#[]⟩, ⟨#[109, 97, 114, 107]⟩, ⟨#[48, 58]⟩, ⟨#[49, 50, 51, 52, 53, 54, 55, 56]⟩] (nn % 4) }) ?_ ?_ 26 zeroCells ?_ ?_ ?_ ?_ ?_); rfl; rfl; rfl; rfl; exact hZ3; kernel_rfl; rfl; simp [Ent.cells, Value.oneCell']))
  refine bodyPost_ret (v := Ent.val { e with mark := selS [⟨#[]⟩, ⟨#[109, 97, 114, 107]⟩, ⟨#[48, 58]⟩, ⟨#[49, 50, 51, 52, 53, 54, 55, 56]⟩] (nn % 4) }) (results_cell_row (P := Tryd.prog) Tryd.results32 _ _ (w.heap.size + 1 + 1) 26 (Ent.cells { e with mark := selS [⟨#[]⟩, ⟨#[109, 97, 114, 107]⟩, ⟨#[48, 58]⟩, ⟨#[49, 50, 51, 52, 53, 54, 55, 56]⟩] (nn % 4) }) (0, 0) _ rfl ?_ Tryd.underlying26 rfl (by kernel_rfl)) rfl ⟨{ e with mark := selS [⟨#[]⟩, ⟨#[109, 97, 114, 107]⟩, ⟨#[48, 58]⟩, ⟨#[49, 50, 51, 52, 53, 54, 55, 56]⟩] (nn % 4) }, rfl, { h with mark := by dsimp only; first | exact i64_wrap _ | (unfold I64; omega) | (refine selI_ok (fun x hx => ?_) _; simp only [List.mem_cons, List.not_mem_nil, or_false] at hx; rcases hx with rfl | rfl | rfl | rfl | rfl | rfl; all_goals (first | exact i64_wrap _ | exact h.id | exact h.day | (unfold I64; omega))) | (refine selI_ok (fun x hx => ?_) _; simp only [List.mem_cons, List.not_mem_nil, or_false] at hx; rcases hx with rfl | rfl | rfl | rfl; all_goals (first | exact i64_wrap _ | exact h.id | exact h.day | (unfold I64; omega))) | (refine selS_ok (fun x hx => ?_) _; simp only [List.mem_cons, List.not_mem_nil, or_false] at hx; rcases hx with rfl | rfl | rfl | rfl | rfl; all_goals decide) | (refine selS_ok (fun x hx => ?_) _; simp only [List.mem_cons, List.not_mem_nil, or_false] at hx; rcases hx with rfl | rfl | rfl | rfl; all_goals decide) | (have hq : ∀ j : Fin 4, 0 ≤ selI [0, 1, 899999, 900000] j.1 ∧ selI [0, 1, 899999, 900000] j.1 ≤ 900000 := (by decide); have hq2 := hq ⟨nn % 4, Nat.mod_lt _ (by decide)⟩; unfold I64; simp only at hq2; omega) }, ?_⟩
  · exact heap_setRow hZ3 _
  · exact below_setRow hb3 (by omega) _
theorem odd_any (e : Ent) (q0 q1 : Int) (h : e.Ok) (h0 : I64 q0) (h1 : I64 q1) (w : World) :
    Calls Tryd.prog 32 #[e.val, .agg #[.int .i64 q0, .int .i64 q1]] w (EntPost w) := by
  have hmm : q0 % 15 = 0 ∨ q0 % 15 = 1 ∨ q0 % 15 = 2 ∨ q0 % 15 = 3 ∨ q0 % 15 = 4 ∨ q0 % 15 = 5 ∨ q0 % 15 = 6 ∨ q0 % 15 = 7 ∨ q0 % 15 = 8 ∨ q0 % 15 = 9 ∨ q0 % 15 = 10 ∨ q0 % 15 = 11 ∨ q0 % 15 = 12 ∨ q0 % 15 = 13 ∨ q0 % 15 = 14 := by omega
  rcases hmm with hk | hk | hk | hk | hk | hk | hk | hk | hk | hk | hk | hk | hk | hk | hk
  · exact odd_0 e q0 q1 h h0 h1 hk w
  · exact odd_1 e q0 q1 h h0 h1 hk w
  · exact odd_2 e q0 q1 h h0 h1 hk w
  · exact odd_3 e q0 q1 h h0 h1 hk w
  · exact odd_4 e q0 q1 h h0 h1 hk w
  · exact odd_5 e q0 q1 h h0 h1 hk w
  · exact odd_6 e q0 q1 h h0 h1 hk w
  · exact odd_7 e q0 q1 h h0 h1 hk w
  · exact odd_8 e q0 q1 h h0 h1 hk w
  · exact odd_9 e q0 q1 h h0 h1 hk w
  · exact odd_10 e q0 q1 h h0 h1 hk w
  · exact odd_11 e q0 q1 h h0 h1 hk w
  · exact odd_12 e q0 q1 h h0 h1 hk w
  · exact odd_13 e q0 q1 h h0 h1 hk w
  · exact odd_14 e q0 q1 h h0 h1 hk w
end Go.Proofs.YtnkbelbalaeieaaDoor
