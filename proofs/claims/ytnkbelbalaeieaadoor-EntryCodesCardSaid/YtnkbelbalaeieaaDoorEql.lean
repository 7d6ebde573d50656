/- Entries compared with ==. -/
import Derived.Test.YtnkbelbalaeieaaDoorEnt
import Derived.Laws.StructEq
namespace Go.Proofs.YtnkbelbalaeieaaDoor
open Go Go.RowKit Go.Sort

/-- Equal as Go compares them. -/
def eqE (a b : Ent) : Bool := decide (a.id = b.id) && (decide (a.school = b.school) && (decide (a.student = b.student) && (decide (a.kind = b.kind) && (decide (a.day = b.day) && (decide (a.on = b.on) && (decide (a.course.toList = b.course.toList) && (decide (a.credits = b.credits) && (decide (a.grade = b.grade) && (decide (a.ref = b.ref) && (decide (a.fro = b.fro) && (decide (a.programme = b.programme) && (decide (a.version = b.version) && (decide (a.key = b.key) && (decide (a.mark.toList = b.mark.toList)))))))))))))))
theorem ba_toList {a b : ByteArray} : a.toList = b.toList ↔ a = b := by
  rw [ByteArray.toList_eq, ByteArray.toList_eq]
  constructor
  · intro h; cases a; cases b; simp_all
  · rintro rfl; rfl
theorem eqE_iff (a b : Ent) : eqE a b = true ↔ a = b := by
  simp only [eqE, Bool.and_eq_true, decide_eq_true_eq, ba_toList]
  constructor
  · rintro ⟨h1, h2, h3, h4, h5, h6, h7, h8, h9, h10, h11, h12, h13, h14, h15⟩; cases a; cases b; simp_all
  · rintro rfl; simp
theorem ok_and (p : Prop) [Decidable p] (q : Bool) (w : World) : Result.ok (decide p && q) w = if p then Result.ok q w else Result.ok false w := by by_cases h : p <;> simp [h]
theorem ok_dec (p : Prop) [Decidable p] (w : World) : Result.ok (decide p) w = if p then Result.ok true w else Result.ok false w := by by_cases h : p <;> simp [h]
set_option maxRecDepth 100000 in
theorem ent_eqIn (a b : Ent) (w : World) : (Op.equalIn 10000 26 a.val b.val).run Tryd.prog w = .ok (eqE a b) w := by
  have hp : Tryd.prog.stoodInHeld 26 = false := by kernel_rfl
  rw [show (10000 : Nat) = 9999 + 1 from rfl, run_equalIn_agg w _ _ _ _ (by kernel_rfl) hp]
  unfold Program.fieldsOf
  rw [Tryd.underlying26]
  go_simp
  simp only [eqE, ok_and]
  rw [ok_dec]
theorem ent_eql (a b : Ent) (w : World) : (binOp .eql 26 a.val b.val).run Tryd.prog w = .ok (.bool (eqE a b)) w := by
  rw [run_eql_struct, ent_eqIn]; rfl
/-- .. written out. -/
theorem ent_eql_cells (x0 x1 x2 x3 x4 x5 x7 x8 x9 x10 x11 x12 x13 y0 y1 y2 y3 y4 y5 y7 y8 y9 y10 y11 y12 y13 : Int) (x6 x14 y6 y14 : ByteArray) (w : World) : (binOp .eql 26 (.agg #[.int .i64 x0, .int .i64 x1, .int .i64 x2, .int .i64 x3, .int .i64 x4, .int .i64 x5, .string x6, .int .i64 x7, .int .i64 x8, .int .i64 x9, .int .i64 x10, .int .i64 x11, .int .i64 x12, .int .i64 x13, .string x14]) (.agg #[.int .i64 y0, .int .i64 y1, .int .i64 y2, .int .i64 y3, .int .i64 y4, .int .i64 y5, .string y6, .int .i64 y7, .int .i64 y8, .int .i64 y9, .int .i64 y10, .int .i64 y11, .int .i64 y12, .int .i64 y13, .string y14])).run Tryd.prog w = .ok (.bool (eqE ⟨x0, x1, x2, x3, x4, x5, x6, x7, x8, x9, x10, x11, x12, x13, x14⟩ ⟨y0, y1, y2, y3, y4, y5, y6, y7, y8, y9, y10, y11, y12, y13, y14⟩)) w :=
  ent_eql ⟨x0, x1, x2, x3, x4, x5, x6, x7, x8, x9, x10, x11, x12, x13, x14⟩ ⟨y0, y1, y2, y3, y4, y5, y6, y7, y8, y9, y10, y11, y12, y13, y14⟩ w
end Go.Proofs.YtnkbelbalaeieaaDoor
