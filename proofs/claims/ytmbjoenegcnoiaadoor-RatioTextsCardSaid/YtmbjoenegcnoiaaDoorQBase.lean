/- Words that all walks of the ratio seat use. -/
import Derived.Test.YtmbjoenegcnoiaaDoorBase
import Derived.Test.YtmbjoenegcnoiaaDoorQPlain
namespace Go.Proofs.YtmbjoenegcnoiaaDoor
open Go Go.RowKit Go.Sort Go.Lib
def I64 (n : Int) : Prop := -9223372036854775808 ≤ n ∧ n ≤ 9223372036854775807

/-- What the library's functions read of the world: the table of powers of ten, and the search's bound. -/
def Sane (w : World) : Prop := Tabs w ∧ ∃ m, w.cell? ⟨0, 0, none⟩ = some (.int .i64 m)
theorem Sane.below {w w' : World} (h : Sane w) (hb : RowKit.Below w.heap.size w w') : Sane w' := by
  obtain ⟨h1, m, h2⟩ := h
  exact ⟨h1.below hb, m, by rw [(bcell hb).1 _ _ (World.block_lt_of_cell? w _ h2)]; exact h2⟩

theorem i64_in {n : Int} (h : I64 n) : IntKind.i64.wrap n = n := IntWalk.i64_in _ h
theorem u64_of {n : Int} (h : I64 n) (hn : 0 ≤ n) : IntKind.u64.wrap n = n.natAbs := by
  unfold I64 at h; simp [IntKind.wrap, IntKind.signed, IntKind.bits]; omega
theorem u64_neg {n : Int} (h : I64 n) (hn : n < 0) : IntKind.u64.wrap (-IntKind.u64.wrap n) = n.natAbs := by
  unfold I64 at h; simp [IntKind.wrap, IntKind.signed, IntKind.bits]; omega
/-- A ratio as a value. -/
def Rt.val (r : Rt) : Value := .agg #[.int .i64 r.n, .int .i64 r.d]
def Rt.Ok (r : Rt) : Prop := I64 r.n ∧ I64 r.d
theorem Right.ok {r : Rt} (h : Right r) : r.Ok := by
  obtain ⟨h1, h2, h3, h4, _⟩ := h
  constructor <;> unfold I64 <;> omega
end Go.Proofs.YtmbjoenegcnoiaaDoor
