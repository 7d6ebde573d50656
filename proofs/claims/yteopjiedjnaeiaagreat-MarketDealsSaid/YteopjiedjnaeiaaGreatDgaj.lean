/- quadriviumref27.Odd: a request in which something differs; a small one of a small one. -/
import Derived.Test.YteopjiedjnaeiaaGreatDgah
import Derived.Deep.MidRow
namespace Go.Proofs.YteopjiedjnaeiaaGreat
open Go Go.RowKit Go.Sort Go.Lib
attribute [local go_sem] setCell_size

theorem size_alloc (w : World) (o : Obj) : (w.alloc o).heap.size = w.heap.size + 1 := by simp
def selI : List Int → Nat → Int
  | [], _ => 0
  | x :: _, 0 => x
  | _ :: l, k + 1 => selI l k
def selS : List ByteArray → Nat → ByteArray
  | [], _ => ⟨#[]⟩
  | x :: _, 0 => x
  | _ :: l, k + 1 => selS l k
theorem selI_ok {l : List Int} (h : ∀ x ∈ l, I64 x) (k : Nat) : I64 (selI l k) := by
  induction l generalizing k with
  | nil => unfold selI I64; omega
  | cons x l ih =>
    cases k with
    | zero => exact h x (by simp)
    | succ k => exact ih (fun y hy => h y (by simp [hy])) k
theorem selS_ok {l : List ByteArray} (h : ∀ x ∈ l, x.size ≤ 100000) (k : Nat) : (selS l k).size ≤ 100000 := by
  induction l generalizing k with
  | nil => unfold selS; decide
  | cons x l ih =>
    cases k with
    | zero => exact h x (by simp)
    | succ k => exact ih (fun y hy => h y (by simp [hy])) k
theorem selI_at (l : List Int) (k : Nat) (h : k < l.length) : (l.map (Value.int .i64))[k]? = some (.int .i64 (selI l k)) := by
  induction l generalizing k with
  | nil => simp at h
  | cons x l ih =>
    cases k with
    | zero => rfl
    | succ k => simpa [selI] using ih k (by simpa using h)
theorem selS_at (l : List ByteArray) (k : Nat) (h : k < l.length) : (l.map Value.string)[k]? = some (.string (selS l k)) := by
  induction l generalizing k with
  | nil => simp at h
  | cons x l ih =>
    cases k with
    | zero => rfl
    | succ k => simpa [selS] using ih k (by simpa using h)
theorem selI_cell (W : World) (l : List Int) (t : TypeId) (b k : Nat) (hb : W.heap.size = b) (h : k < l.length) : (W.alloc (.cells (l.map (Value.int .i64)).toArray t)).cell? ⟨b, k, none⟩ = some (.int .i64 (selI l k)) := by
  subst hb; rw [Lib.cell_of_heap (heap_alloc_new W _)]; simpa using selI_at l k h
theorem selS_cell (W : World) (l : List ByteArray) (t : TypeId) (b k : Nat) (hb : W.heap.size = b) (h : k < l.length) : (W.alloc (.cells (l.map Value.string).toArray t)).cell? ⟨b, k, none⟩ = some (.string (selS l k)) := by
  subst hb; rw [Lib.cell_of_heap (heap_alloc_new W _)]; simpa using selS_at l k h
theorem sel_i4 (W : World) (x0 x1 x2 x3 : Int) (t : TypeId) (b n : Nat) (hb : W.heap.size = b) : (W.alloc (.cells #[.int .i64 x0, .int .i64 x1, .int .i64 x2, .int .i64 x3] t)).cell? ⟨b, n % 4, none⟩ = some (.int .i64 (selI [x0, x1, x2, x3] (n % 4))) :=
  selI_cell W [x0, x1, x2, x3] t b (n % 4) hb (Nat.mod_lt _ (by decide))
theorem sel_i6 (W : World) (x0 x1 x2 x3 x4 x5 : Int) (t : TypeId) (b n : Nat) (hb : W.heap.size = b) : (W.alloc (.cells #[.int .i64 x0, .int .i64 x1, .int .i64 x2, .int .i64 x3, .int .i64 x4, .int .i64 x5] t)).cell? ⟨b, n % 6, none⟩ = some (.int .i64 (selI [x0, x1, x2, x3, x4, x5] (n % 6))) :=
  selI_cell W [x0, x1, x2, x3, x4, x5] t b (n % 6) hb (Nat.mod_lt _ (by decide))
theorem sel_s4 (W : World) (x0 x1 x2 x3 : ByteArray) (t : TypeId) (b n : Nat) (hb : W.heap.size = b) : (W.alloc (.cells #[.string x0, .string x1, .string x2, .string x3] t)).cell? ⟨b, n % 4, none⟩ = some (.string (selS [x0, x1, x2, x3] (n % 4))) :=
  selS_cell W [x0, x1, x2, x3] t b (n % 4) hb (Nat.mod_lt _ (by decide))
theorem sel_s5 (W : World) (x0 x1 x2 x3 x4 : ByteArray) (t : TypeId) (b n : Nat) (hb : W.heap.size = b) : (W.alloc (.cells #[.string x0, .string x1, .string x2, .string x3, .string x4] t)).cell? ⟨b, n % 5, none⟩ = some (.string (selS [x0, x1, x2, x3, x4] (n % 5))) :=
  selS_cell W [x0, x1, x2, x3, x4] t b (n % 5) hb (Nat.mod_lt _ (by decide))
theorem sel_l4 (x0 x1 x2 x3 : Int) (n : Nat) : [Value.int .i64 x0, .int .i64 x1, .int .i64 x2, .int .i64 x3][n % 4]? = some (.int .i64 (selI [x0, x1, x2, x3] (n % 4))) := selI_at [x0, x1, x2, x3] (n % 4) (Nat.mod_lt _ (by decide))
theorem sel_l6 (x0 x1 x2 x3 x4 x5 : Int) (n : Nat) : [Value.int .i64 x0, .int .i64 x1, .int .i64 x2, .int .i64 x3, .int .i64 x4, .int .i64 x5][n % 6]? = some (.int .i64 (selI [x0, x1, x2, x3, x4, x5] (n % 6))) := selI_at [x0, x1, x2, x3, x4, x5] (n % 6) (Nat.mod_lt _ (by decide))
theorem sel_t4 (x0 x1 x2 x3 : ByteArray) (n : Nat) : [Value.string x0, .string x1, .string x2, .string x3][n % 4]? = some (.string (selS [x0, x1, x2, x3] (n % 4))) := selS_at [x0, x1, x2, x3] (n % 4) (Nat.mod_lt _ (by decide))
theorem sel_t5 (x0 x1 x2 x3 x4 : ByteArray) (n : Nat) : [Value.string x0, .string x1, .string x2, .string x3, .string x4][n % 5]? = some (.string (selS [x0, x1, x2, x3, x4] (n % 5))) := selS_at [x0, x1, x2, x3, x4] (n % 5) (Nat.mod_lt _ (by decide))
attribute [local go_sem] sel_i4 sel_i6 sel_s4 sel_s5 sel_l4 sel_l6 sel_t4 sel_t5

theorem below2 (w : World) (o o' : Obj) : RowKit.Below w.heap.size w ((w.alloc o).alloc o') := ((Below.refl _ _).alloc (Nat.le_refl _) o).alloc (by simp) o'

theorem below3 (w : World) (o o' o'' : Obj) : RowKit.Below w.heap.size w (((w.alloc o).alloc o').alloc o'') := (below2 w o o').alloc (by simp; omega) o''

def zeroCells : Array Value := #[.int .i64 0, .int .i64 0, .bool false, .int .i64 0, .int .i64 0, .string ⟨#[]⟩, .string ⟨#[]⟩, .int .i64 0, .int .i64 0]
theorem heap3 (w : World) (o o' o'' : Obj) : (((w.alloc o).alloc o').alloc o'').heap[w.heap.size]? = some o ∧ (((w.alloc o).alloc o').alloc o'').heap[w.heap.size + 1 + 1]? = some o'' := by
  constructor
  · rw [(below_alloc1 ((w.alloc o).alloc o') o'').block _ (by simp; omega), (below_alloc1 (w.alloc o) o').block _ (by simp)]; exact heap_alloc_new _ _
  · have := heap_alloc_new ((w.alloc o).alloc o') o''
    rw [size_alloc, size_alloc] at this; exact this
theorem heap_setRow {W : World} {b : Nat} {cs : Array Value} {t : TypeId} {fz : Nat × Nat} (h : W.heap[b]? = some (.cells cs t fz)) (cs' : Array Value) : (W.setRow b cs').heap[b]? = some (.cells cs' t fz) := by
  simp [World.setRow, Array.getElem?_modify, h]
theorem below_setRow {B b : Nat} {w W : World} (h : RowKit.Below B w W) (hb : B ≤ b) (cs : Array Value) : RowKit.Below B w (W.setRow b cs) :=
  h.trans ⟨rfl, rfl, rfl, by simp [World.setRow], fun k hk => by
    show (W.heap.modify b _)[k]? = W.heap[k]?
    rw [Array.getElem?_modify, if_neg (by omega)]⟩
/-- What Odd returns. -/
def ReqPost (w : World) (x : Ending) (w' : World) : Prop := ∃ r : Req, x = .returned r.val ∧ r.Small ∧ RowKit.Below w.heap.size w w'
theorem selS_small {l : List ByteArray} (h : ∀ x ∈ l, x.size ≤ 12) (k : Nat) : (selS l k).size ≤ 12 := by
  induction l generalizing k with
  | nil => unfold selS; decide
  | cons x l ih =>
    cases k with
    | zero => exact h x (by simp)
    | succ k => exact ih (fun y hy => h y (by simp [hy])) k

set_option maxHeartbeats 8000000 in
set_option maxRecDepth 100000 in
theorem odd_0 (r : Req) (q0 q1 : Int) (h : r.Small) (_h0 : I64 q0) (_h1 : I64 q1) (hk : q0 % 9 = 0) (w : World) :
    Calls Tryz.prog 8 #[r.val, .agg #[.int .i64 q0, .int .i64 q1]] w (ReqPost w) := by
  have hm1 := fun W => mod_any q1 40 W (by omega) (by omega)
  have hm0 := fun W => mod_any q0 9 W (by omega) (by omega)
  have b1 : 0 ≤ q1 % 40 ∧ q1 % 40 < 40 := by omega
  obtain ⟨nn, hn⟩ := Int.eq_ofNat_of_zero_le b1.1
  rw [hn] at hm1 b1
  rw [hk] at hm0
  clear hn
  have hnn : nn < 40 := by omega
  go_enter Tryz.func8, Tryz.ntmps8
  go_wp2_with fail
  refine (hm1 _).mono ?_
  rintro x w1 ⟨rfl, rfl⟩
  go_wp2_with fail
  refine (hm0 _).mono ?_
  rintro x w1 ⟨rfl, rfl⟩
  clear hm0 hm1 b1
  have h3 := heap3 w (.cells r.cells 39) (.cells #[.int .i64 q0, .int .i64 q1] 41) (.cells zeroCells 39)
  have hbe := below3 w (.cells r.cells 39) (.cells #[.int .i64 q0, .int .i64 q1] 41) (.cells zeroCells 39)
  unfold Req.cells zeroCells at h3 hbe
  generalize ((w.alloc _).alloc _).alloc _ = W at h3 hbe ⊢
  obtain ⟨h3, h4⟩ := h3
  have hE : ReqBox W w.heap.size r := h3
  have hZ : W.heap[w.heap.size + 1 + 1]? = some (.cells zeroCells 39 (0, 0)) := h4
  clear h3 h4
  have cf : ∀ j, W.frozen? ⟨w.heap.size, j, none⟩ = false := fun j => Lib.frozen_of_heap hE j
  have cc := hE.cell 0
  simp only [Req.cells] at cc
  have hE2 : ReqBox (W.setCell ⟨w.heap.size, 0, none⟩ (.int .i64 ((nn : Int) % 11))) w.heap.size { r with server := (nn : Int) % 11 } := hE.set 0 _ rfl
  have hZ2 : (W.setCell ⟨w.heap.size, 0, none⟩ (.int .i64 ((nn : Int) % 11))).heap[w.heap.size + 1 + 1]? = some (.cells zeroCells 39 (0, 0)) := by
    rw [Below.heap_setCell _ _ _ _ (by show w.heap.size + 1 + 1 ≠ w.heap.size; omega)]; exact hZ
  have hb2 : RowKit.Below w.heap.size w (W.setCell ⟨w.heap.size, 0, none⟩ (.int .i64 ((nn : Int) % 11))) := hbe.setCell (Nat.le_refl _) _
  have hE3 := hE2; have hZ3 := hZ2; have hb3 := hb2
  have hat := hE3.at_
  clear hE hZ hbe hE2 hZ2 hb2 hE3
  go_wp2_with (first | ((with_reducible refine wpList_load_mid (op := ⟨some 79, _, _, _, _, _⟩) ?_ 39 (.tmp 2) ?_ w.heap.size 0 ?_ (Req.cells { r with server := (nn : Int) % 11 }).toList _ ?_ Tryz.underlying39 ?_ ?_ ?_); rfl; rfl; rfl; exact hat; rfl; kernel_rfl) | ((with_reducible refine wpList_store_row (o := ⟨none, .store 39 (.tmp 4) (.tmp 79), _, _, _, _⟩) ?_ 39 (.tmp 4) (.tmp 79) ?_ (w.heap.size + 1 + 1) (Req.cells { r with server := (nn : Int) % 11 }) ?_ ?_ 39 zeroCells ?_ ?_ ?_ ?_ ?_); rfl; rfl; rfl; rfl; exact hZ3; kernel_rfl; rfl; simp [Req.cells, Value.oneCell']))
  refine bodyPost_ret (v := Req.val { r with server := (nn : Int) % 11 }) (results_cell_row (P := Tryz.prog) Tryz.results8 _ _ (w.heap.size + 1 + 1) 39 (Req.cells { r with server := (nn : Int) % 11 }) (0, 0) _ rfl ?_ Tryz.underlying39 rfl (by kernel_rfl)) rfl ⟨{ r with server := (nn : Int) % 11 }, rfl, ⟨{ h.ok with server := by dsimp only; first | (unfold I64; omega) | (refine selI_ok (fun x hx => ?_) _; simp only [List.mem_cons, List.not_mem_nil, or_false] at hx; rcases hx with rfl | rfl | rfl | rfl; all_goals (unfold I64; omega)) }, h.code, h.give⟩, ?_⟩
  · exact heap_setRow hZ3 _
  · exact below_setRow hb3 (by omega) _

set_option maxHeartbeats 8000000 in
set_option maxRecDepth 100000 in
theorem odd_1 (r : Req) (q0 q1 : Int) (h : r.Small) (_h0 : I64 q0) (_h1 : I64 q1) (hk : q0 % 9 = 1) (w : World) :
    Calls Tryz.prog 8 #[r.val, .agg #[.int .i64 q0, .int .i64 q1]] w (ReqPost w) := by
  have hm1 := fun W => mod_any q1 40 W (by omega) (by omega)
  have hm0 := fun W => mod_any q0 9 W (by omega) (by omega)
  have b1 : 0 ≤ q1 % 40 ∧ q1 % 40 < 40 := by omega
  obtain ⟨nn, hn⟩ := Int.eq_ofNat_of_zero_le b1.1
  rw [hn] at hm1 b1
  rw [hk] at hm0
  clear hn
  have hnn : nn < 40 := by omega
  go_enter Tryz.func8, Tryz.ntmps8
  go_wp2_with fail
  refine (hm1 _).mono ?_
  rintro x w1 ⟨rfl, rfl⟩
  go_wp2_with fail
  refine (hm0 _).mono ?_
  rintro x w1 ⟨rfl, rfl⟩
  clear hm0 hm1 b1
  have h3 := heap3 w (.cells r.cells 39) (.cells #[.int .i64 q0, .int .i64 q1] 41) (.cells zeroCells 39)
  have hbe := below3 w (.cells r.cells 39) (.cells #[.int .i64 q0, .int .i64 q1] 41) (.cells zeroCells 39)
  unfold Req.cells zeroCells at h3 hbe
  generalize ((w.alloc _).alloc _).alloc _ = W at h3 hbe ⊢
  obtain ⟨h3, h4⟩ := h3
  have hE : ReqBox W w.heap.size r := h3
  have hZ : W.heap[w.heap.size + 1 + 1]? = some (.cells zeroCells 39 (0, 0)) := h4
  clear h3 h4
  have cf : ∀ j, W.frozen? ⟨w.heap.size, j, none⟩ = false := fun j => Lib.frozen_of_heap hE j
  have cc := hE.cell 1
  simp only [Req.cells] at cc
  have hE2 : ReqBox (W.setCell ⟨w.heap.size, 1, none⟩ (.int .i64 ((nn : Int) % 4 - 1))) w.heap.size { r with seq := (nn : Int) % 4 - 1 } := hE.set 1 _ rfl
  have hZ2 : (W.setCell ⟨w.heap.size, 1, none⟩ (.int .i64 ((nn : Int) % 4 - 1))).heap[w.heap.size + 1 + 1]? = some (.cells zeroCells 39 (0, 0)) := by
    rw [Below.heap_setCell _ _ _ _ (by show w.heap.size + 1 + 1 ≠ w.heap.size; omega)]; exact hZ
  have hb2 : RowKit.Below w.heap.size w (W.setCell ⟨w.heap.size, 1, none⟩ (.int .i64 ((nn : Int) % 4 - 1))) := hbe.setCell (Nat.le_refl _) _
  have hE3 := hE2; have hZ3 := hZ2; have hb3 := hb2
  have hat := hE3.at_
  clear hE hZ hbe hE2 hZ2 hb2 hE3
  go_wp2_with (first | ((with_reducible refine wpList_load_mid (op := ⟨some 79, _, _, _, _, _⟩) ?_ 39 (.tmp 2) ?_ w.heap.size 0 ?_ (Req.cells { r with seq := (nn : Int) % 4 - 1 }).toList _ ?_ Tryz.underlying39 ?_ ?_ ?_); rfl; rfl; rfl; exact hat; rfl; kernel_rfl) | ((with_reducible refine wpList_store_row (o := ⟨none, .store 39 (.tmp 4) (.tmp 79), _, _, _, _⟩) ?_ 39 (.tmp 4) (.tmp 79) ?_ (w.heap.size + 1 + 1) (Req.cells { r with seq := (nn : Int) % 4 - 1 }) ?_ ?_ 39 zeroCells ?_ ?_ ?_ ?_ ?_); rfl; rfl; rfl; rfl; exact hZ3; kernel_rfl; rfl; simp [Req.cells, Value.oneCell']))
  refine bodyPost_ret (v := Req.val { r with seq := (nn : Int) % 4 - 1 }) (results_cell_row (P := Tryz.prog) Tryz.results8 _ _ (w.heap.size + 1 + 1) 39 (Req.cells { r with seq := (nn : Int) % 4 - 1 }) (0, 0) _ rfl ?_ Tryz.underlying39 rfl (by kernel_rfl)) rfl ⟨{ r with seq := (nn : Int) % 4 - 1 }, rfl, ⟨{ h.ok with seq := by dsimp only; first | (unfold I64; omega) | (refine selI_ok (fun x hx => ?_) _; simp only [List.mem_cons, List.not_mem_nil, or_false] at hx; rcases hx with rfl | rfl | rfl | rfl; all_goals (unfold I64; omega)) }, h.code, h.give⟩, ?_⟩
  · exact heap_setRow hZ3 _
  · exact below_setRow hb3 (by omega) _

set_option maxHeartbeats 8000000 in
set_option maxRecDepth 100000 in
theorem odd_2 (r : Req) (q0 q1 : Int) (h : r.Small) (_h0 : I64 q0) (_h1 : I64 q1) (hk : q0 % 9 = 2) (w : World) :
    Calls Tryz.prog 8 #[r.val, .agg #[.int .i64 q0, .int .i64 q1]] w (ReqPost w) := by
  have hm1 := fun W => mod_any q1 40 W (by omega) (by omega)
  have hm0 := fun W => mod_any q0 9 W (by omega) (by omega)
  have b1 : 0 ≤ q1 % 40 ∧ q1 % 40 < 40 := by omega
  obtain ⟨nn, hn⟩ := Int.eq_ofNat_of_zero_le b1.1
  rw [hn] at hm1 b1
  rw [hk] at hm0
  clear hn
  have hnn : nn < 40 := by omega
  go_enter Tryz.func8, Tryz.ntmps8
  go_wp2_with fail
  refine (hm1 _).mono ?_
  rintro x w1 ⟨rfl, rfl⟩
  go_wp2_with fail
  refine (hm0 _).mono ?_
  rintro x w1 ⟨rfl, rfl⟩
  clear hm0 hm1 b1
  have h3 := heap3 w (.cells r.cells 39) (.cells #[.int .i64 q0, .int .i64 q1] 41) (.cells zeroCells 39)
  have hbe := below3 w (.cells r.cells 39) (.cells #[.int .i64 q0, .int .i64 q1] 41) (.cells zeroCells 39)
  unfold Req.cells zeroCells at h3 hbe
  generalize ((w.alloc _).alloc _).alloc _ = W at h3 hbe ⊢
  obtain ⟨h3, h4⟩ := h3
  have hE : ReqBox W w.heap.size r := h3
  have hZ : W.heap[w.heap.size + 1 + 1]? = some (.cells zeroCells 39 (0, 0)) := h4
  clear h3 h4
  have cf : ∀ j, W.frozen? ⟨w.heap.size, j, none⟩ = false := fun j => Lib.frozen_of_heap hE j
  have cc := hE.cell 2
  simp only [Req.cells] at cc
  have hE2 : ReqBox (W.setCell ⟨w.heap.size, 2, none⟩ (.bool ((!r.cancel)))) w.heap.size { r with cancel := (!r.cancel) } := hE.set 2 _ rfl
  have hZ2 : (W.setCell ⟨w.heap.size, 2, none⟩ (.bool ((!r.cancel)))).heap[w.heap.size + 1 + 1]? = some (.cells zeroCells 39 (0, 0)) := by
    rw [Below.heap_setCell _ _ _ _ (by show w.heap.size + 1 + 1 ≠ w.heap.size; omega)]; exact hZ
  have hb2 : RowKit.Below w.heap.size w (W.setCell ⟨w.heap.size, 2, none⟩ (.bool ((!r.cancel)))) := hbe.setCell (Nat.le_refl _) _
  have hE3 := hE2; have hZ3 := hZ2; have hb3 := hb2
  have hat := hE3.at_
  clear hE hZ hbe hE2 hZ2 hb2 hE3
  go_wp2_with (first | ((with_reducible refine wpList_load_mid (op := ⟨some 79, _, _, _, _, _⟩) ?_ 39 (.tmp 2) ?_ w.heap.size 0 ?_ (Req.cells { r with cancel := (!r.cancel) }).toList _ ?_ Tryz.underlying39 ?_ ?_ ?_); rfl; rfl; rfl; exact hat; rfl; kernel_rfl) | ((with_reducible refine wpList_store_row (o := ⟨none, .store 39 (.tmp 4) (.tmp 79), _, _, _, _⟩) ?_ 39 (.tmp 4) (.tmp 79) ?_ (w.heap.size + 1 + 1) (Req.cells { r with cancel := (!r.cancel) }) ?_ ?_ 39 zeroCells ?_ ?_ ?_ ?_ ?_); rfl; rfl; rfl; rfl; exact hZ3; kernel_rfl; rfl; simp [Req.cells, Value.oneCell']))
  refine bodyPost_ret (v := Req.val { r with cancel := (!r.cancel) }) (results_cell_row (P := Tryz.prog) Tryz.results8 _ _ (w.heap.size + 1 + 1) 39 (Req.cells { r with cancel := (!r.cancel) }) (0, 0) _ rfl ?_ Tryz.underlying39 rfl (by kernel_rfl)) rfl ⟨{ r with cancel := (!r.cancel) }, rfl, ⟨⟨h.ok.server, h.ok.seq, h.ok.student, h.ok.term, h.ok.priority, h.ok.day, h.ok.code, h.ok.give⟩, h.code, h.give⟩, ?_⟩
  · exact heap_setRow hZ3 _
  · exact below_setRow hb3 (by omega) _

set_option maxHeartbeats 8000000 in
set_option maxRecDepth 100000 in
theorem odd_3 (r : Req) (q0 q1 : Int) (h : r.Small) (_h0 : I64 q0) (_h1 : I64 q1) (hk : q0 % 9 = 3) (w : World) :
    Calls Tryz.prog 8 #[r.val, .agg #[.int .i64 q0, .int .i64 q1]] w (ReqPost w) := by
  have hm1 := fun W => mod_any q1 40 W (by omega) (by omega)
  have hm0 := fun W => mod_any q0 9 W (by omega) (by omega)
  have b1 : 0 ≤ q1 % 40 ∧ q1 % 40 < 40 := by omega
  obtain ⟨nn, hn⟩ := Int.eq_ofNat_of_zero_le b1.1
  rw [hn] at hm1 b1
  rw [hk] at hm0
  clear hn
  have hnn : nn < 40 := by omega
  go_enter Tryz.func8, Tryz.ntmps8
  go_wp2_with fail
  refine (hm1 _).mono ?_
  rintro x w1 ⟨rfl, rfl⟩
  go_wp2_with fail
  refine (hm0 _).mono ?_
  rintro x w1 ⟨rfl, rfl⟩
  clear hm0 hm1 b1
  have h3 := heap3 w (.cells r.cells 39) (.cells #[.int .i64 q0, .int .i64 q1] 41) (.cells zeroCells 39)
  have hbe := below3 w (.cells r.cells 39) (.cells #[.int .i64 q0, .int .i64 q1] 41) (.cells zeroCells 39)
  unfold Req.cells zeroCells at h3 hbe
  generalize ((w.alloc _).alloc _).alloc _ = W at h3 hbe ⊢
  obtain ⟨h3, h4⟩ := h3
  have hE : ReqBox W w.heap.size r := h3
  have hZ : W.heap[w.heap.size + 1 + 1]? = some (.cells zeroCells 39 (0, 0)) := h4
  clear h3 h4
  have cf : ∀ j, W.frozen? ⟨w.heap.size, j, none⟩ = false := fun j => Lib.frozen_of_heap hE j
  have hlt := lt_of_heap hE
  have cc := hE.cell 3
  simp only [Req.cells] at cc
  have hE2 : ReqBox (W.setCell ⟨w.heap.size, 3, none⟩ (.int .i64 (selI [0, 1, 999999, 1000000] (nn % 4)))) w.heap.size { r with student := selI [0, 1, 999999, 1000000] (nn % 4) } := hE.set 3 _ rfl
  have hZ2 : (W.setCell ⟨w.heap.size, 3, none⟩ (.int .i64 (selI [0, 1, 999999, 1000000] (nn % 4)))).heap[w.heap.size + 1 + 1]? = some (.cells zeroCells 39 (0, 0)) := by
    rw [Below.heap_setCell _ _ _ _ (by show w.heap.size + 1 + 1 ≠ w.heap.size; omega)]; exact hZ
  have hb2 : RowKit.Below w.heap.size w (W.setCell ⟨w.heap.size, 3, none⟩ (.int .i64 (selI [0, 1, 999999, 1000000] (nn % 4)))) := hbe.setCell (Nat.le_refl _) _
  have hE3 : ReqBox ((W.setCell ⟨w.heap.size, 3, none⟩ (.int .i64 (selI [0, 1, 999999, 1000000] (nn % 4)))).alloc (.cells #[.int .i64 (0), .int .i64 (1), .int .i64 (999999), .int .i64 (1000000)] 3)) w.heap.size { r with student := selI [0, 1, 999999, 1000000] (nn % 4) } := hE2.below (below_alloc1 _ _)
  have hZ3 : ((W.setCell ⟨w.heap.size, 3, none⟩ (.int .i64 (selI [0, 1, 999999, 1000000] (nn % 4)))).alloc (.cells #[.int .i64 (0), .int .i64 (1), .int .i64 (999999), .int .i64 (1000000)] 3)).heap[w.heap.size + 1 + 1]? = some (.cells zeroCells 39 (0, 0)) := ((below_alloc1 _ _).block _ (lt_of_heap hZ2)).trans hZ2
  have hb3 : RowKit.Below w.heap.size w ((W.setCell ⟨w.heap.size, 3, none⟩ (.int .i64 (selI [0, 1, 999999, 1000000] (nn % 4)))).alloc (.cells #[.int .i64 (0), .int .i64 (1), .int .i64 (999999), .int .i64 (1000000)] 3)) := hb2.trans ((below_alloc1 _ _).mono hb2.size)
  have hat := hE3.at_
  clear hE hZ hbe hE2 hZ2 hb2 hE3
  go_wp2_with (first | ((with_reducible refine wpList_load_mid (op := ⟨some 79, _, _, _, _, _⟩) ?_ 39 (.tmp 2) ?_ w.heap.size 0 ?_ (Req.cells { r with student := selI [0, 1, 999999, 1000000] (nn % 4) }).toList _ ?_ Tryz.underlying39 ?_ ?_ ?_); rfl; rfl; rfl; exact hat; rfl; kernel_rfl) | ((with_reducible refine wpList_store_row (o := ⟨none, .store 39 (.tmp 4) (.tmp 79), _, _, _, _⟩) ?_ 39 (.tmp 4) (.tmp 79) ?_ (w.heap.size + 1 + 1) (Req.cells { r with student := selI [0, 1, 999999, 1000000] (nn % 4) }) ?_ ?_ 39 zeroCells ?_ ?_ ?_ ?_ ?_); rfl; rfl; rfl; rfl; exact hZ3; kernel_rfl; rfl; simp [Req.cells, Value.oneCell']))
  refine bodyPost_ret (v := Req.val { r with student := selI [0, 1, 999999, 1000000] (nn % 4) }) (results_cell_row (P := Tryz.prog) Tryz.results8 _ _ (w.heap.size + 1 + 1) 39 (Req.cells { r with student := selI [0, 1, 999999, 1000000] (nn % 4) }) (0, 0) _ rfl ?_ Tryz.underlying39 rfl (by kernel_rfl)) rfl ⟨{ r with student := selI [0, 1, 999999, 1000000] (nn % 4) }, rfl, ⟨{ h.ok with student := by dsimp only; first | (unfold I64; omega) | (refine selI_ok (fun x hx => ?_) _; simp only [List.mem_cons, List.not_mem_nil, or_false] at hx; rcases hx with rfl | rfl | rfl | rfl; all_goals (unfold I64; omega)) }, h.code, h.give⟩, ?_⟩
  · exact heap_setRow hZ3 _
  · exact below_setRow hb3 (by omega) _

set_option maxHeartbeats 8000000 in
set_option maxRecDepth 100000 in
theorem odd_4 (r : Req) (q0 q1 : Int) (h : r.Small) (_h0 : I64 q0) (_h1 : I64 q1) (hk : q0 % 9 = 4) (w : World) :
    Calls Tryz.prog 8 #[r.val, .agg #[.int .i64 q0, .int .i64 q1]] w (ReqPost w) := by
  have hm1 := fun W => mod_any q1 40 W (by omega) (by omega)
  have hm0 := fun W => mod_any q0 9 W (by omega) (by omega)
  have b1 : 0 ≤ q1 % 40 ∧ q1 % 40 < 40 := by omega
  obtain ⟨nn, hn⟩ := Int.eq_ofNat_of_zero_le b1.1
  rw [hn] at hm1 b1
  rw [hk] at hm0
  clear hn
  have hnn : nn < 40 := by omega
  go_enter Tryz.func8, Tryz.ntmps8
  go_wp2_with fail
  refine (hm1 _).mono ?_
  rintro x w1 ⟨rfl, rfl⟩
  go_wp2_with fail
  refine (hm0 _).mono ?_
  rintro x w1 ⟨rfl, rfl⟩
  clear hm0 hm1 b1
  have h3 := heap3 w (.cells r.cells 39) (.cells #[.int .i64 q0, .int .i64 q1] 41) (.cells zeroCells 39)
  have hbe := below3 w (.cells r.cells 39) (.cells #[.int .i64 q0, .int .i64 q1] 41) (.cells zeroCells 39)
  unfold Req.cells zeroCells at h3 hbe
  generalize ((w.alloc _).alloc _).alloc _ = W at h3 hbe ⊢
  obtain ⟨h3, h4⟩ := h3
  have hE : ReqBox W w.heap.size r := h3
  have hZ : W.heap[w.heap.size + 1 + 1]? = some (.cells zeroCells 39 (0, 0)) := h4
  clear h3 h4
  have cf : ∀ j, W.frozen? ⟨w.heap.size, j, none⟩ = false := fun j => Lib.frozen_of_heap hE j
  have hlt := lt_of_heap hE
  have cc := hE.cell 4
  simp only [Req.cells] at cc
  have hE2 : ReqBox (W.setCell ⟨w.heap.size, 4, none⟩ (.int .i64 (selI [-1, 0, 1000, 1001] (nn % 4)))) w.heap.size { r with term := selI [-1, 0, 1000, 1001] (nn % 4) } := hE.set 4 _ rfl
  have hZ2 : (W.setCell ⟨w.heap.size, 4, none⟩ (.int .i64 (selI [-1, 0, 1000, 1001] (nn % 4)))).heap[w.heap.size + 1 + 1]? = some (.cells zeroCells 39 (0, 0)) := by
    rw [Below.heap_setCell _ _ _ _ (by show w.heap.size + 1 + 1 ≠ w.heap.size; omega)]; exact hZ
  have hb2 : RowKit.Below w.heap.size w (W.setCell ⟨w.heap.size, 4, none⟩ (.int .i64 (selI [-1, 0, 1000, 1001] (nn % 4)))) := hbe.setCell (Nat.le_refl _) _
  have hE3 : ReqBox ((W.setCell ⟨w.heap.size, 4, none⟩ (.int .i64 (selI [-1, 0, 1000, 1001] (nn % 4)))).alloc (.cells #[.int .i64 (-1), .int .i64 (0), .int .i64 (1000), .int .i64 (1001)] 3)) w.heap.size { r with term := selI [-1, 0, 1000, 1001] (nn % 4) } := hE2.below (below_alloc1 _ _)
  have hZ3 : ((W.setCell ⟨w.heap.size, 4, none⟩ (.int .i64 (selI [-1, 0, 1000, 1001] (nn % 4)))).alloc (.cells #[.int .i64 (-1), .int .i64 (0), .int .i64 (1000), .int .i64 (1001)] 3)).heap[w.heap.size + 1 + 1]? = some (.cells zeroCells 39 (0, 0)) := ((below_alloc1 _ _).block _ (lt_of_heap hZ2)).trans hZ2
  have hb3 : RowKit.Below w.heap.size w ((W.setCell ⟨w.heap.size, 4, none⟩ (.int .i64 (selI [-1, 0, 1000, 1001] (nn % 4)))).alloc (.cells #[.int .i64 (-1), .int .i64 (0), .int .i64 (1000), .int .i64 (1001)] 3)) := hb2.trans ((below_alloc1 _ _).mono hb2.size)
  have hat := hE3.at_
  clear hE hZ hbe hE2 hZ2 hb2 hE3
  go_wp2_with (first | ((with_reducible refine wpList_load_mid (op := ⟨some 79, _, _, _, _, _⟩) ?_ 39 (.tmp 2) ?_ w.heap.size 0 ?_ (Req.cells { r with term := selI [-1, 0, 1000, 1001] (nn % 4) }).toList _ ?_ Tryz.underlying39 ?_ ?_ ?_); rfl; rfl; rfl; exact hat; rfl; kernel_rfl) | ((with_reducible refine wpList_store_row (o := ⟨none, .store 39 (.tmp 4) (.tmp 79), _, _, _, _⟩) ?_ 39 (.tmp 4) (.tmp 79) ?_ (w.heap.size + 1 + 1) (Req.cells { r with term := selI [-1, 0, 1000, 1001] (nn % 4) }) ?_ ?_ 39 zeroCells ?_ ?_ ?_ ?_ ?_); rfl; rfl; rfl; rfl; exact hZ3; kernel_rfl; rfl; simp [Req.cells, Value.oneCell']))
  refine bodyPost_ret (v := Req.val { r with term := selI [-1, 0, 1000, 1001] (nn % 4) }) (results_cell_row (P := Tryz.prog) Tryz.results8 _ _ (w.heap.size + 1 + 1) 39 (Req.cells { r with term := selI [-1, 0, 1000, 1001] (nn % 4) }) (0, 0) _ rfl ?_ Tryz.underlying39 rfl (by kernel_rfl)) rfl ⟨{ r with term := selI [-1, 0, 1000, 1001] (nn % 4) }, rfl, ⟨{ h.ok with term := by dsimp only; first | (unfold I64; omega) | (refine selI_ok (fun x hx => ?_) _; simp only [List.mem_cons, List.not_mem_nil, or_false] at hx; rcases hx with rfl | rfl | rfl | rfl; all_goals (unfold I64; omega)) }, h.code, h.give⟩, ?_⟩
  · exact heap_setRow hZ3 _
  · exact below_setRow hb3 (by omega) _

set_option maxHeartbeats 8000000 in
set_option maxRecDepth 100000 in
theorem odd_5 (r : Req) (q0 q1 : Int) (h : r.Small) (_h0 : I64 q0) (_h1 : I64 q1) (hk : q0 % 9 = 5) (w : World) :
    Calls Tryz.prog 8 #[r.val, .agg #[.int .i64 q0, .int .i64 q1]] w (ReqPost w) := by
  have hm1 := fun W => mod_any q1 40 W (by omega) (by omega)
  have hm0 := fun W => mod_any q0 9 W (by omega) (by omega)
  have b1 : 0 ≤ q1 % 40 ∧ q1 % 40 < 40 := by omega
  obtain ⟨nn, hn⟩ := Int.eq_ofNat_of_zero_le b1.1
  rw [hn] at hm1 b1
  rw [hk] at hm0
  clear hn
  have hnn : nn < 40 := by omega
  go_enter Tryz.func8, Tryz.ntmps8
  go_wp2_with fail
  refine (hm1 _).mono ?_
  rintro x w1 ⟨rfl, rfl⟩
  go_wp2_with fail
  refine (hm0 _).mono ?_
  rintro x w1 ⟨rfl, rfl⟩
  clear hm0 hm1 b1
  have h3 := heap3 w (.cells r.cells 39) (.cells #[.int .i64 q0, .int .i64 q1] 41) (.cells zeroCells 39)
  have hbe := below3 w (.cells r.cells 39) (.cells #[.int .i64 q0, .int .i64 q1] 41) (.cells zeroCells 39)
  unfold Req.cells zeroCells at h3 hbe
  generalize ((w.alloc _).alloc _).alloc _ = W at h3 hbe ⊢
  obtain ⟨h3, h4⟩ := h3
  have hE : ReqBox W w.heap.size r := h3
  have hZ : W.heap[w.heap.size + 1 + 1]? = some (.cells zeroCells 39 (0, 0)) := h4
  clear h3 h4
  have cf : ∀ j, W.frozen? ⟨w.heap.size, j, none⟩ = false := fun j => Lib.frozen_of_heap hE j
  have hlt := lt_of_heap hE
  have cc := hE.cell 5
  simp only [Req.cells] at cc
  have hE2 : ReqBox (W.setCell ⟨w.heap.size, 5, none⟩ (.string (selS [⟨#[]⟩, ⟨#[65, 49]⟩, ⟨#[97]⟩, ⟨#[65, 66, 67, 68, 69, 70, 71, 72, 73]⟩] (nn % 4)))) w.heap.size { r with code := selS [⟨#[]⟩, ⟨#[65, 49]⟩, ⟨#[97]⟩, ⟨#[65, 66, 67, 68, 69, 70, 71, 72, 73]⟩] (nn % 4) } := hE.set 5 _ rfl
  have hZ2 : (W.setCell ⟨w.heap.size, 5, none⟩ (.string (selS [⟨#[]⟩, ⟨#[65, 49]⟩, ⟨#[97]⟩, ⟨#[65, 66, 67, 68, 69, 70, 71, 72, 73]⟩] (nn % 4)))).heap[w.heap.size + 1 + 1]? = some (.cells zeroCells 39 (0, 0)) := by
    rw [Below.heap_setCell _ _ _ _ (by show w.heap.size + 1 + 1 ≠ w.heap.size; omega)]; exact hZ
  have hb2 : RowKit.Below w.heap.size w (W.setCell ⟨w.heap.size, 5, none⟩ (.string (selS [⟨#[]⟩, ⟨#[65, 49]⟩, ⟨#[97]⟩, ⟨#[65, 66, 67, 68, 69, 70, 71, 72, 73]⟩] (nn % 4)))) := hbe.setCell (Nat.le_refl _) _
  have hE3 : ReqBox ((W.setCell ⟨w.heap.size, 5, none⟩ (.string (selS [⟨#[]⟩, ⟨#[65, 49]⟩, ⟨#[97]⟩, ⟨#[65, 66, 67, 68, 69, 70, 71, 72, 73]⟩] (nn % 4)))).alloc (.cells #[.string ⟨#[]⟩, .string ⟨#[65, 49]⟩, .string ⟨#[97]⟩, .string ⟨#[65, 66, 67, 68, 69, 70, 71, 72, 73]⟩] 9)) w.heap.size { r with code := selS [⟨#[]⟩, ⟨#[65, 49]⟩, ⟨#[97]⟩, ⟨#[65, 66, 67, 68, 69, 70, 71, 72, 73]⟩] (nn % 4) } := hE2.below (below_alloc1 _ _)
  have hZ3 : ((W.setCell ⟨w.heap.size, 5, none⟩ (.string (selS [⟨#[]⟩, ⟨#[65, 49]⟩, ⟨#[97]⟩, ⟨#[65, 66, 67, 68, 69, 70, 71, 72, 73]⟩] (nn % 4)))).alloc (.cells #[.string ⟨#[]⟩, .string ⟨#[65, 49]⟩, .string ⟨#[97]⟩, .string ⟨#[65, 66, 67, 68, 69, 70, 71, 72, 73]⟩] 9)).heap[w.heap.size + 1 + 1]? = some (.cells zeroCells 39 (0, 0)) := ((below_alloc1 _ _).block _ (lt_of_heap hZ2)).trans hZ2
  have hb3 : RowKit.Below w.heap.size w ((W.setCell ⟨w.heap.size, 5, none⟩ (.string (selS [⟨#[]⟩, ⟨#[65, 49]⟩, ⟨#[97]⟩, ⟨#[65, 66, 67, 68, 69, 70, 71, 72, 73]⟩] (nn % 4)))).alloc (.cells #[.string ⟨#[]⟩, .string ⟨#[65, 49]⟩, .string ⟨#[97]⟩, .string ⟨#[65, 66, 67, 68, 69, 70, 71, 72, 73]⟩] 9)) := hb2.trans ((below_alloc1 _ _).mono hb2.size)
  have hat := hE3.at_
  clear hE hZ hbe hE2 hZ2 hb2 hE3
  go_wp2_with (first | ((with_reducible refine wpList_load_mid (op := ⟨some 79, _, _, _, _, _⟩) ?_ 39 (.tmp 2) ?_ w.heap.size 0 ?_ (Req.cells { r with code := selS [⟨#[]⟩, ⟨#[65, 49]⟩, ⟨#[97]⟩, ⟨#[65, 66, 67, 68, 69, 70, 71, 72, 73]⟩] (nn % 4) }).toList _ ?_ Tryz.underlying39 ?_ ?_ ?_); rfl; rfl; rfl; exact hat; rfl; kernel_rfl) | ((with_reducible refine wpList_store_row (o := ⟨none, .store 39 (.tmp 4) (.tmp 79), _, _, _, _⟩) ?_ 39 (.tmp 4) (.tmp 79) ?_ (w.heap.size + 1 + 1) (Req.cells { r with code := selS [⟨#[]⟩, ⟨#[65, 49]⟩, ⟨#[97]⟩, ⟨#[65, 66, 67, 68, 69, 70, 71, 72, 73]⟩] (nn % 4) }) ?_ ?_ 39 zeroCells ?_ ?_ ?_ ?_ ?_); rfl; rfl; rfl; rfl; exact hZ3; kernel_rfl; rfl; simp [Req.cells, Value.oneCell']))
  have hs : (selS [⟨#[]⟩, ⟨#[65, 49]⟩, ⟨#[97]⟩, ⟨#[65, 66, 67, 68, 69, 70, 71, 72, 73]⟩] (nn % 4)).size ≤ 12 := (by refine selS_small (fun x hx => ?_) _; simp only [List.mem_cons, List.not_mem_nil, or_false] at hx; rcases hx with rfl | rfl | rfl | rfl; all_goals (first | exact h.code | decide))
  refine bodyPost_ret (v := Req.val { r with code := selS [⟨#[]⟩, ⟨#[65, 49]⟩, ⟨#[97]⟩, ⟨#[65, 66, 67, 68, 69, 70, 71, 72, 73]⟩] (nn % 4) }) (results_cell_row (P := Tryz.prog) Tryz.results8 _ _ (w.heap.size + 1 + 1) 39 (Req.cells { r with code := selS [⟨#[]⟩, ⟨#[65, 49]⟩, ⟨#[97]⟩, ⟨#[65, 66, 67, 68, 69, 70, 71, 72, 73]⟩] (nn % 4) }) (0, 0) _ rfl ?_ Tryz.underlying39 rfl (by kernel_rfl)) rfl ⟨{ r with code := selS [⟨#[]⟩, ⟨#[65, 49]⟩, ⟨#[97]⟩, ⟨#[65, 66, 67, 68, 69, 70, 71, 72, 73]⟩] (nn % 4) }, rfl, ⟨{ h.ok with code := by dsimp only; omega }, hs, h.give⟩, ?_⟩
  · exact heap_setRow hZ3 _
  · exact below_setRow hb3 (by omega) _

set_option maxHeartbeats 8000000 in
set_option maxRecDepth 100000 in
theorem odd_6 (r : Req) (q0 q1 : Int) (h : r.Small) (_h0 : I64 q0) (_h1 : I64 q1) (hk : q0 % 9 = 6) (w : World) :
    Calls Tryz.prog 8 #[r.val, .agg #[.int .i64 q0, .int .i64 q1]] w (ReqPost w) := by
  have hm1 := fun W => mod_any q1 40 W (by omega) (by omega)
  have hm0 := fun W => mod_any q0 9 W (by omega) (by omega)
  have b1 : 0 ≤ q1 % 40 ∧ q1 % 40 < 40 := by omega
  obtain ⟨nn, hn⟩ := Int.eq_ofNat_of_zero_le b1.1
  rw [hn] at hm1 b1
  rw [hk] at hm0
  clear hn
  have hnn : nn < 40 := by omega
  go_enter Tryz.func8, Tryz.ntmps8
  go_wp2_with fail
  refine (hm1 _).mono ?_
  rintro x w1 ⟨rfl, rfl⟩
  go_wp2_with fail
  refine (hm0 _).mono ?_
  rintro x w1 ⟨rfl, rfl⟩
  clear hm0 hm1 b1
  have h3 := heap3 w (.cells r.cells 39) (.cells #[.int .i64 q0, .int .i64 q1] 41) (.cells zeroCells 39)
  have hbe := below3 w (.cells r.cells 39) (.cells #[.int .i64 q0, .int .i64 q1] 41) (.cells zeroCells 39)
  unfold Req.cells zeroCells at h3 hbe
  generalize ((w.alloc _).alloc _).alloc _ = W at h3 hbe ⊢
  obtain ⟨h3, h4⟩ := h3
  have hE : ReqBox W w.heap.size r := h3
  have hZ : W.heap[w.heap.size + 1 + 1]? = some (.cells zeroCells 39 (0, 0)) := h4
  clear h3 h4
  have cf : ∀ j, W.frozen? ⟨w.heap.size, j, none⟩ = false := fun j => Lib.frozen_of_heap hE j
  have hlt := lt_of_heap hE
  have cc := hE.cell 6
  have cd := hE.cell 5
  simp only [Req.cells] at cc cd
  have hE2 : ReqBox (W.setCell ⟨w.heap.size, 6, none⟩ (.string (selS [⟨#[]⟩, r.code, ⟨#[98]⟩, ⟨#[90]⟩] (nn % 4)))) w.heap.size { r with give := selS [⟨#[]⟩, r.code, ⟨#[98]⟩, ⟨#[90]⟩] (nn % 4) } := hE.set 6 _ rfl
  have hZ2 : (W.setCell ⟨w.heap.size, 6, none⟩ (.string (selS [⟨#[]⟩, r.code, ⟨#[98]⟩, ⟨#[90]⟩] (nn % 4)))).heap[w.heap.size + 1 + 1]? = some (.cells zeroCells 39 (0, 0)) := by
    rw [Below.heap_setCell _ _ _ _ (by show w.heap.size + 1 + 1 ≠ w.heap.size; omega)]; exact hZ
  have hb2 : RowKit.Below w.heap.size w (W.setCell ⟨w.heap.size, 6, none⟩ (.string (selS [⟨#[]⟩, r.code, ⟨#[98]⟩, ⟨#[90]⟩] (nn % 4)))) := hbe.setCell (Nat.le_refl _) _
  have hE3 : ReqBox ((W.setCell ⟨w.heap.size, 6, none⟩ (.string (selS [⟨#[]⟩, r.code, ⟨#[98]⟩, ⟨#[90]⟩] (nn % 4)))).alloc (.cells #[.string ⟨#[]⟩, .string (r.code), .string ⟨#[98]⟩, .string ⟨#[90]⟩] 9)) w.heap.size { r with give := selS [⟨#[]⟩, r.code, ⟨#[98]⟩, ⟨#[90]⟩] (nn % 4) } := hE2.below (below_alloc1 _ _)
  have hZ3 : ((W.setCell ⟨w.heap.size, 6, none⟩ (.string (selS [⟨#[]⟩, r.code, ⟨#[98]⟩, ⟨#[90]⟩] (nn % 4)))).alloc (.cells #[.string ⟨#[]⟩, .string (r.code), .string ⟨#[98]⟩, .string ⟨#[90]⟩] 9)).heap[w.heap.size + 1 + 1]? = some (.cells zeroCells 39 (0, 0)) := ((below_alloc1 _ _).block _ (lt_of_heap hZ2)).trans hZ2
  have hb3 : RowKit.Below w.heap.size w ((W.setCell ⟨w.heap.size, 6, none⟩ (.string (selS [⟨#[]⟩, r.code, ⟨#[98]⟩, ⟨#[90]⟩] (nn % 4)))).alloc (.cells #[.string ⟨#[]⟩, .string (r.code), .string ⟨#[98]⟩, .string ⟨#[90]⟩] 9)) := hb2.trans ((below_alloc1 _ _).mono hb2.size)
  have hat := hE3.at_
  clear hE hZ hbe hE2 hZ2 hb2 hE3
  go_wp2_with (first | ((with_reducible refine wpList_load_mid (op := ⟨some 79, _, _, _, _, _⟩) ?_ 39 (.tmp 2) ?_ w.heap.size 0 ?_ (Req.cells { r with give := selS [⟨#[]⟩, r.code, ⟨#[98]⟩, ⟨#[90]⟩] (nn % 4) }).toList _ ?_ Tryz.underlying39 ?_ ?_ ?_); rfl; rfl; rfl; exact hat; rfl; kernel_rfl) | ((with_reducible refine wpList_store_row (o := ⟨none, .store 39 (.tmp 4) (.tmp 79), _, _, _, _⟩) ?_ 39 (.tmp 4) (.tmp 79) ?_ (w.heap.size + 1 + 1) (Req.cells { r with give := selS [⟨#[]⟩, r.code, ⟨#[98]⟩, ⟨#[90]⟩] (nn % 4) }) ?_ ?_ 39 zeroCells ?_ ?_ ?_ ?_ ?_); rfl; rfl; rfl; rfl; exact hZ3; kernel_rfl; rfl; simp [Req.cells, Value.oneCell']))
  have hs : (selS [⟨#[]⟩, r.code, ⟨#[98]⟩, ⟨#[90]⟩] (nn % 4)).size ≤ 12 := (by refine selS_small (fun x hx => ?_) _; simp only [List.mem_cons, List.not_mem_nil, or_false] at hx; rcases hx with rfl | rfl | rfl | rfl; all_goals (first | exact h.code | decide))
  refine bodyPost_ret (v := Req.val { r with give := selS [⟨#[]⟩, r.code, ⟨#[98]⟩, ⟨#[90]⟩] (nn % 4) }) (results_cell_row (P := Tryz.prog) Tryz.results8 _ _ (w.heap.size + 1 + 1) 39 (Req.cells { r with give := selS [⟨#[]⟩, r.code, ⟨#[98]⟩, ⟨#[90]⟩] (nn % 4) }) (0, 0) _ rfl ?_ Tryz.underlying39 rfl (by kernel_rfl)) rfl ⟨{ r with give := selS [⟨#[]⟩, r.code, ⟨#[98]⟩, ⟨#[90]⟩] (nn % 4) }, rfl, ⟨{ h.ok with give := by dsimp only; omega }, h.code, hs⟩, ?_⟩
  · exact heap_setRow hZ3 _
  · exact below_setRow hb3 (by omega) _

set_option maxHeartbeats 8000000 in
set_option maxRecDepth 100000 in
theorem odd_7 (r : Req) (q0 q1 : Int) (h : r.Small) (_h0 : I64 q0) (_h1 : I64 q1) (hk : q0 % 9 = 7) (w : World) :
    Calls Tryz.prog 8 #[r.val, .agg #[.int .i64 q0, .int .i64 q1]] w (ReqPost w) := by
  have hm1 := fun W => mod_any q1 40 W (by omega) (by omega)
  have hm0 := fun W => mod_any q0 9 W (by omega) (by omega)
  have b1 : 0 ≤ q1 % 40 ∧ q1 % 40 < 40 := by omega
  obtain ⟨nn, hn⟩ := Int.eq_ofNat_of_zero_le b1.1
  rw [hn] at hm1 b1
  rw [hk] at hm0
  clear hn
  have hnn : nn < 40 := by omega
  go_enter Tryz.func8, Tryz.ntmps8
  go_wp2_with fail
  refine (hm1 _).mono ?_
  rintro x w1 ⟨rfl, rfl⟩
  go_wp2_with fail
  refine (hm0 _).mono ?_
  rintro x w1 ⟨rfl, rfl⟩
  clear hm0 hm1 b1
  have h3 := heap3 w (.cells r.cells 39) (.cells #[.int .i64 q0, .int .i64 q1] 41) (.cells zeroCells 39)
  have hbe := below3 w (.cells r.cells 39) (.cells #[.int .i64 q0, .int .i64 q1] 41) (.cells zeroCells 39)
  unfold Req.cells zeroCells at h3 hbe
  generalize ((w.alloc _).alloc _).alloc _ = W at h3 hbe ⊢
  obtain ⟨h3, h4⟩ := h3
  have hE : ReqBox W w.heap.size r := h3
  have hZ : W.heap[w.heap.size + 1 + 1]? = some (.cells zeroCells 39 (0, 0)) := h4
  clear h3 h4
  have cf : ∀ j, W.frozen? ⟨w.heap.size, j, none⟩ = false := fun j => Lib.frozen_of_heap hE j
  have hlt := lt_of_heap hE
  have cc := hE.cell 7
  simp only [Req.cells] at cc
  have hE2 : ReqBox (W.setCell ⟨w.heap.size, 7, none⟩ (.int .i64 (selI [-1, 0, 100, 101] (nn % 4)))) w.heap.size { r with priority := selI [-1, 0, 100, 101] (nn % 4) } := hE.set 7 _ rfl
  have hZ2 : (W.setCell ⟨w.heap.size, 7, none⟩ (.int .i64 (selI [-1, 0, 100, 101] (nn % 4)))).heap[w.heap.size + 1 + 1]? = some (.cells zeroCells 39 (0, 0)) := by
    rw [Below.heap_setCell _ _ _ _ (by show w.heap.size + 1 + 1 ≠ w.heap.size; omega)]; exact hZ
  have hb2 : RowKit.Below w.heap.size w (W.setCell ⟨w.heap.size, 7, none⟩ (.int .i64 (selI [-1, 0, 100, 101] (nn % 4)))) := hbe.setCell (Nat.le_refl _) _
  have hE3 : ReqBox ((W.setCell ⟨w.heap.size, 7, none⟩ (.int .i64 (selI [-1, 0, 100, 101] (nn % 4)))).alloc (.cells #[.int .i64 (-1), .int .i64 (0), .int .i64 (100), .int .i64 (101)] 3)) w.heap.size { r with priority := selI [-1, 0, 100, 101] (nn % 4) } := hE2.below (below_alloc1 _ _)
  have hZ3 : ((W.setCell ⟨w.heap.size, 7, none⟩ (.int .i64 (selI [-1, 0, 100, 101] (nn % 4)))).alloc (.cells #[.int .i64 (-1), .int .i64 (0), .int .i64 (100), .int .i64 (101)] 3)).heap[w.heap.size + 1 + 1]? = some (.cells zeroCells 39 (0, 0)) := ((below_alloc1 _ _).block _ (lt_of_heap hZ2)).trans hZ2
  have hb3 : RowKit.Below w.heap.size w ((W.setCell ⟨w.heap.size, 7, none⟩ (.int .i64 (selI [-1, 0, 100, 101] (nn % 4)))).alloc (.cells #[.int .i64 (-1), .int .i64 (0), .int .i64 (100), .int .i64 (101)] 3)) := hb2.trans ((below_alloc1 _ _).mono hb2.size)
  have hat := hE3.at_
  clear hE hZ hbe hE2 hZ2 hb2 hE3
  go_wp2_with (first | ((with_reducible refine wpList_load_mid (op := ⟨some 79, _, _, _, _, _⟩) ?_ 39 (.tmp 2) ?_ w.heap.size 0 ?_ (Req.cells { r with priority := selI [-1, 0, 100, 101] (nn % 4) }).toList _ ?_ Tryz.underlying39 ?_ ?_ ?_); rfl; rfl; rfl; exact hat; rfl; kernel_rfl) | ((with_reducible refine wpList_store_row (o := ⟨none, .store 39 (.tmp 4) (.tmp 79), _, _, _, _⟩) ?_ 39 (.tmp 4) (.tmp 79) ?_ (w.heap.size + 1 + 1) (Req.cells { r with priority := selI [-1, 0, 100, 101] (nn % 4) }) ?_ ?_ 39 zeroCells ?_ ?_ ?_ ?_ ?_); rfl; rfl; rfl; rfl; exact hZ3; kernel_rfl; rfl; simp [Req.cells, Value.oneCell']))
  refine bodyPost_ret (v := Req.val { r with priority := selI [-1, 0, 100, 101] (nn % 4) }) (results_cell_row (P := Tryz.prog) Tryz.results8 _ _ (w.heap.size + 1 + 1) 39 (Req.cells { r with priority := selI [-1, 0, 100, 101] (nn % 4) }) (0, 0) _ rfl ?_ Tryz.underlying39 rfl (by kernel_rfl)) rfl ⟨{ r with priority := selI [-1, 0, 100, 101] (nn % 4) }, rfl, ⟨{ h.ok with priority := by dsimp only; first | (unfold I64; omega) | (refine selI_ok (fun x hx => ?_) _; simp only [List.mem_cons, List.not_mem_nil, or_false] at hx; rcases hx with rfl | rfl | rfl | rfl; all_goals (unfold I64; omega)) }, h.code, h.give⟩, ?_⟩
  · exact heap_setRow hZ3 _
  · exact below_setRow hb3 (by omega) _

set_option maxHeartbeats 8000000 in
set_option maxRecDepth 100000 in
theorem odd_8 (r : Req) (q0 q1 : Int) (h : r.Small) (_h0 : I64 q0) (_h1 : I64 q1) (hk : q0 % 9 = 8) (w : World) :
    Calls Tryz.prog 8 #[r.val, .agg #[.int .i64 q0, .int .i64 q1]] w (ReqPost w) := by
  have hm1 := fun W => mod_any q1 40 W (by omega) (by omega)
  have hm0 := fun W => mod_any q0 9 W (by omega) (by omega)
  have b1 : 0 ≤ q1 % 40 ∧ q1 % 40 < 40 := by omega
  obtain ⟨nn, hn⟩ := Int.eq_ofNat_of_zero_le b1.1
  rw [hn] at hm1 b1
  rw [hk] at hm0
  clear hn
  have hnn : nn < 40 := by omega
  go_enter Tryz.func8, Tryz.ntmps8
  go_wp2_with fail
  refine (hm1 _).mono ?_
  rintro x w1 ⟨rfl, rfl⟩
  go_wp2_with fail
  refine (hm0 _).mono ?_
  rintro x w1 ⟨rfl, rfl⟩
  clear hm0 hm1 b1
  have h3 := heap3 w (.cells r.cells 39) (.cells #[.int .i64 q0, .int .i64 q1] 41) (.cells zeroCells 39)
  have hbe := below3 w (.cells r.cells 39) (.cells #[.int .i64 q0, .int .i64 q1] 41) (.cells zeroCells 39)
  unfold Req.cells zeroCells at h3 hbe
  generalize ((w.alloc _).alloc _).alloc _ = W at h3 hbe ⊢
  obtain ⟨h3, h4⟩ := h3
  have hE : ReqBox W w.heap.size r := h3
  have hZ : W.heap[w.heap.size + 1 + 1]? = some (.cells zeroCells 39 (0, 0)) := h4
  clear h3 h4
  have cf : ∀ j, W.frozen? ⟨w.heap.size, j, none⟩ = false := fun j => Lib.frozen_of_heap hE j
  have hlt := lt_of_heap hE
  have cc := hE.cell 8
  simp only [Req.cells] at cc
  have hE2 : ReqBox (W.setCell ⟨w.heap.size, 8, none⟩ (.int .i64 (selI [-1, 0, 100000, 100001] (nn % 4)))) w.heap.size { r with day := selI [-1, 0, 100000, 100001] (nn % 4) } := hE.set 8 _ rfl
  have hZ2 : (W.setCell ⟨w.heap.size, 8, none⟩ (.int .i64 (selI [-1, 0, 100000, 100001] (nn % 4)))).heap[w.heap.size + 1 + 1]? = some (.cells zeroCells 39 (0, 0)) := by
    rw [Below.heap_setCell _ _ _ _ (by show w.heap.size + 1 + 1 ≠ w.heap.size; omega)]; exact hZ
  have hb2 : RowKit.Below w.heap.size w (W.setCell ⟨w.heap.size, 8, none⟩ (.int .i64 (selI [-1, 0, 100000, 100001] (nn % 4)))) := hbe.setCell (Nat.le_refl _) _
  have hE3 : ReqBox ((W.setCell ⟨w.heap.size, 8, none⟩ (.int .i64 (selI [-1, 0, 100000, 100001] (nn % 4)))).alloc (.cells #[.int .i64 (-1), .int .i64 (0), .int .i64 (100000), .int .i64 (100001)] 3)) w.heap.size { r with day := selI [-1, 0, 100000, 100001] (nn % 4) } := hE2.below (below_alloc1 _ _)
  have hZ3 : ((W.setCell ⟨w.heap.size, 8, none⟩ (.int .i64 (selI [-1, 0, 100000, 100001] (nn % 4)))).alloc (.cells #[.int .i64 (-1), .int .i64 (0), .int .i64 (100000), .int .i64 (100001)] 3)).heap[w.heap.size + 1 + 1]? = some (.cells zeroCells 39 (0, 0)) := ((below_alloc1 _ _).block _ (lt_of_heap hZ2)).trans hZ2
  have hb3 : RowKit.Below w.heap.size w ((W.setCell ⟨w.heap.size, 8, none⟩ (.int .i64 (selI [-1, 0, 100000, 100001] (nn % 4)))).alloc (.cells #[.int .i64 (-1), .int .i64 (0), .int .i64 (100000), .int .i64 (100001)] 3)) := hb2.trans ((below_alloc1 _ _).mono hb2.size)
  have hat := hE3.at_
  clear hE hZ hbe hE2 hZ2 hb2 hE3
  go_wp2_with (first | ((with_reducible refine wpList_load_mid (op := ⟨some 79, _, _, _, _, _⟩) ?_ 39 (.tmp 2) ?_ w.heap.size 0 ?_ (Req.cells { r with day := selI [-1, 0, 100000, 100001] (nn % 4) }).toList _ ?_ Tryz.underlying39 ?_ ?_ ?_); rfl; rfl; rfl; exact hat; rfl; kernel_rfl) | ((with_reducible refine wpList_store_row (o := ⟨none, .store 39 (.tmp 4) (.tmp 79), _, _, _, _⟩) ?_ 39 (.tmp 4) (.tmp 79) ?_ (w.heap.size + 1 + 1) (Req.cells { r with day := selI [-1, 0, 100000, 100001] (nn % 4) }) ?_ ?_ 39 zeroCells ?_ ?_ ?_ ?_ ?_); rfl; rfl; rfl; rfl; exact hZ3; kernel_rfl; rfl; simp [Req.cells, Value.oneCell']))
  refine bodyPost_ret (v := Req.val { r with day := selI [-1, 0, 100000, 100001] (nn % 4) }) (results_cell_row (P := Tryz.prog) Tryz.results8 _ _ (w.heap.size + 1 + 1) 39 (Req.cells { r with day := selI [-1, 0, 100000, 100001] (nn % 4) }) (0, 0) _ rfl ?_ Tryz.underlying39 rfl (by kernel_rfl)) rfl ⟨{ r with day := selI [-1, 0, 100000, 100001] (nn % 4) }, rfl, ⟨{ h.ok with day := by dsimp only; first | (unfold I64; omega) | (refine selI_ok (fun x hx => ?_) _; simp only [List.mem_cons, List.not_mem_nil, or_false] at hx; rcases hx with rfl | rfl | rfl | rfl; all_goals (unfold I64; omega)) }, h.code, h.give⟩, ?_⟩
  · exact heap_setRow hZ3 _
  · exact below_setRow hb3 (by omega) _
theorem odd_any (r : Req) (q0 q1 : Int) (h : r.Small) (h0 : I64 q0) (h1 : I64 q1) (w : World) :
    Calls Tryz.prog 8 #[r.val, .agg #[.int .i64 q0, .int .i64 q1]] w (ReqPost w) := by
  have hmm : q0 % 9 = 0 ∨ q0 % 9 = 1 ∨ q0 % 9 = 2 ∨ q0 % 9 = 3 ∨ q0 % 9 = 4 ∨ q0 % 9 = 5 ∨ q0 % 9 = 6 ∨ q0 % 9 = 7 ∨ q0 % 9 = 8 := by omega
  rcases hmm with hk | hk | hk | hk | hk | hk | hk | hk | hk
  · exact odd_0 r q0 q1 h h0 h1 hk w
  · exact odd_1 r q0 q1 h h0 h1 hk w
  · exact odd_2 r q0 q1 h h0 h1 hk w
  · exact odd_3 r q0 q1 h h0 h1 hk w
  · exact odd_4 r q0 q1 h h0 h1 hk w
  · exact odd_5 r q0 q1 h h0 h1 hk w
  · exact odd_6 r q0 q1 h h0 h1 hk w
  · exact odd_7 r q0 q1 h h0 h1 hk w
  · exact odd_8 r q0 q1 h h0 h1 hk w
end Go.Proofs.YteopjiedjnaeiaaGreat
