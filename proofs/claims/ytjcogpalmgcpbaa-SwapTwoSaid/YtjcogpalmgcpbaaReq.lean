/- api.Request as a value: cells, boxes, rows, ==. -/
import Derived.Test.YtjcogpalmgcpbaaBase
import Derived.Laws.StructEq
import Derived.Deep.MidRow
namespace Go.Proofs.Ytjcogpalmgcpbaa
open Go Go.RowKit Go.Sort Go.Lib

structure Req where
  server : Int
  seq : Int
  cancel : Bool
  student : Int
  term : Int
  code : ByteArray
  give : ByteArray
  priority : Int
  day : Int
def Req.cells (e : Req) : Array Value := #[.int .i64 e.server, .int .i64 e.seq, .bool e.cancel, .int .i64 e.student, .int .i64 e.term, .string e.code, .string e.give, .int .i64 e.priority, .int .i64 e.day]
@[reducible] def Req.val (e : Req) : Value := .agg #[.int .i64 e.server, .int .i64 e.seq, .bool e.cancel, .int .i64 e.student, .int .i64 e.term, .string e.code, .string e.give, .int .i64 e.priority, .int .i64 e.day]
/-- Block b holds one. -/
def ReqBox (w : World) (b : Nat) (e : Req) : Prop := w.heap[b]? = some (.cells e.cells 37 (0, 0))
/-- One lies in block b from offset o on. -/
def ReqAt (w : World) (b o : Nat) (e : Req) : Prop := w.rangeAt b o e.cells.toList
theorem ReqBox.lt {w : World} {b : Nat} {e : Req} (h : ReqBox w b e) : b < w.heap.size := by
  rcases Nat.lt_or_ge b w.heap.size with h' | h'
  · exact h'
  · unfold ReqBox at h; rw [Array.getElem?_eq_none h'] at h; cases h
theorem ReqBox.below {w w' : World} {b : Nat} {e : Req} (h : ReqBox w b e) (hk : RowKit.Below w.heap.size w w') : ReqBox w' b e := (hk.block b h.lt).trans h
theorem ReqBox.cell {w : World} {b : Nat} {e : Req} (h : ReqBox w b e) (k : Nat) : w.cell? ⟨b, k, none⟩ = e.cells[k]? := Lib.cell_of_heap h k
theorem ReqBox.new (w : World) (e : Req) : ReqBox (w.alloc (.cells e.cells 37)) w.heap.size e := heap_alloc_new w _
theorem ReqBox.at_ {w : World} {b : Nat} {e : Req} (h : ReqBox w b e) : ReqAt w b 0 e := by
  intro j v hv
  rw [Nat.zero_add, h.cell j]; simpa using hv
theorem ReqBox.set {w : World} {b : Nat} {e e' : Req} (h : ReqBox w b e) (j : Nat) (u : Value) (he : e.cells.setIfInBounds j u = e'.cells) : ReqBox (w.setCell ⟨b, j, none⟩ u) b e' := by
  unfold ReqBox at *
  rw [← he]
  simp [World.setCell, Array.getElem?_modify, h]
theorem ReqBox.frozen {w : World} {b : Nat} {e : Req} (h : ReqBox w b e) (j : Nat) : w.frozen? ⟨b, j, none⟩ = false := Lib.frozen_of_heap h j
theorem ReqBox.far {w : World} {b b' : Nat} {e : Req} (h : ReqBox w b e) (hb : b ≠ b') (j : Nat) (u : Value) : ReqBox (w.setCell ⟨b', j, none⟩ u) b e := by
  unfold ReqBox at *
  rw [Below.heap_setCell _ _ _ _ hb]; exact h
theorem ReqAt.below {w w' : World} {B b o : Nat} {e : Req} (h : ReqAt w b o e) (hb : RowKit.Below B w w') (hB : b < B) : ReqAt w' b o e := fun j v hv => by
  rw [hb.cell (p := ⟨b, o + j, none⟩) hB]; exact h j v hv
theorem ReqAt.cell {w : World} {b o : Nat} {e : Req} (h : ReqAt w b o e) (j : Nat) {v : Value} (hv : e.cells.toList[j]? = some v) : w.cell? ⟨b, o + j, none⟩ = some v := h j v hv
theorem req_load (w : World) (b o : Nat) (e : Req) (h : ReqAt w b o e) : (Instr.loadAt 37 (.pointer (some ⟨b, o, none⟩))).run Try.prog w = .ok e.val w :=
  run_loadAt_mid w b o 37 e.cells.toList _ h Try.underlying37 rfl (by kernel_rfl)
/-- Equal as Go compares them. -/
def eqReq (a b : Req) : Bool := decide (a.server = b.server) && (decide (a.seq = b.seq) && (decide (a.cancel = b.cancel) && (decide (a.student = b.student) && (decide (a.term = b.term) && (decide (a.code.toList = b.code.toList) && (decide (a.give.toList = b.give.toList) && (decide (a.priority = b.priority) && (decide (a.day = b.day)))))))))
theorem req_ba {a b : ByteArray} : a.toList = b.toList ↔ a = b := by
  rw [ByteArray.toList_eq, ByteArray.toList_eq]
  constructor
  · intro h; cases a; cases b; simp_all
  · rintro rfl; rfl
theorem eqReq_iff (a b : Req) : eqReq a b = true ↔ a = b := by
  simp only [eqReq, Bool.and_eq_true, decide_eq_true_eq, req_ba]
  constructor
  · rintro ⟨h0, h1, h2, h3, h4, h5, h6, h7, h8⟩; cases a; cases b; simp_all
  · rintro rfl; simp
theorem req_ok_and (p : Prop) [Decidable p] (q : Bool) (w : World) : Result.ok (decide p && q) w = if p then Result.ok q w else Result.ok false w := by by_cases h : p <;> simp [h]
theorem req_ok_dec (p : Prop) [Decidable p] (w : World) : Result.ok (decide p) w = if p then Result.ok true w else Result.ok false w := by by_cases h : p <;> simp [h]
set_option maxRecDepth 100000 in
theorem req_eqIn (a b : Req) (w : World) : (Op.equalIn 10000 37 a.val b.val).run Try.prog w = .ok (eqReq a b) w := by
  have hp : Try.prog.stoodInHeld 37 = false := by kernel_rfl
  rw [show (10000 : Nat) = 9999 + 1 from rfl, run_equalIn_agg w _ _ _ _ (by kernel_rfl) hp]
  unfold Program.fieldsOf
  rw [Try.underlying37]
  go_simp
  simp only [eqReq, req_ok_and]
  rw [req_ok_dec]
theorem req_eql (a b : Req) (w : World) : (binOp .eql 37 a.val b.val).run Try.prog w = .ok (.bool (eqReq a b)) w := by
  rw [run_eql_struct, req_eqIn]; rfl
/-- .. written out. -/
theorem req_eql_cells (x0 x1 x3 x4 x7 x8 : Int) (x5 x6 : ByteArray) (x2 : Bool) (y0 y1 y3 y4 y7 y8 : Int) (y5 y6 : ByteArray) (y2 : Bool) (w : World) : (binOp .eql 37 (.agg #[.int .i64 x0, .int .i64 x1, .bool x2, .int .i64 x3, .int .i64 x4, .string x5, .string x6, .int .i64 x7, .int .i64 x8]) (.agg #[.int .i64 y0, .int .i64 y1, .bool y2, .int .i64 y3, .int .i64 y4, .string y5, .string y6, .int .i64 y7, .int .i64 y8])).run Try.prog w = .ok (.bool (eqReq ⟨x0, x1, x2, x3, x4, x5, x6, x7, x8⟩ ⟨y0, y1, y2, y3, y4, y5, y6, y7, y8⟩)) w :=
  req_eql ⟨x0, x1, x2, x3, x4, x5, x6, x7, x8⟩ ⟨y0, y1, y2, y3, y4, y5, y6, y7, y8⟩ w
theorem req_neq (a b : Req) (w : World) : (binOp .neq 37 a.val b.val).run Try.prog w = .ok (.bool (!eqReq a b)) w := by
  rw [run_neq_struct, req_eqIn]; rfl
theorem req_neq_cells (x0 x1 x3 x4 x7 x8 : Int) (x5 x6 : ByteArray) (x2 : Bool) (y0 y1 y3 y4 y7 y8 : Int) (y5 y6 : ByteArray) (y2 : Bool) (w : World) : (binOp .neq 37 (.agg #[.int .i64 x0, .int .i64 x1, .bool x2, .int .i64 x3, .int .i64 x4, .string x5, .string x6, .int .i64 x7, .int .i64 x8]) (.agg #[.int .i64 y0, .int .i64 y1, .bool y2, .int .i64 y3, .int .i64 y4, .string y5, .string y6, .int .i64 y7, .int .i64 y8])).run Try.prog w = .ok (.bool (!eqReq ⟨x0, x1, x2, x3, x4, x5, x6, x7, x8⟩ ⟨y0, y1, y2, y3, y4, y5, y6, y7, y8⟩)) w :=
  req_neq ⟨x0, x1, x2, x3, x4, x5, x6, x7, x8⟩ ⟨y0, y1, y2, y3, y4, y5, y6, y7, y8⟩ w
end Go.Proofs.Ytjcogpalmgcpbaa
