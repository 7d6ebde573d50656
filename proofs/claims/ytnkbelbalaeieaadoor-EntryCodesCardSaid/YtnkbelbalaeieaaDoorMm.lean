/- Small words that the laws' own walks share: max, min, boxes, rows of entries. -/
import Derived.Test.YtnkbelbalaeieaaDoorPick
namespace Go.Proofs.YtnkbelbalaeieaaDoor
open Go Go.RowKit Go.Sort Go.Lib

/-- max and min of two, by name. -/
def mx (x y : Int) : Int := if y > x then y else x
def mn (x y : Int) : Int := if y < x then y else x
theorem run_max_mx {P : Program} (w : World) (ts : Array TypeId) (t : TypeId) (k k' : IntKind) (x y : Int) : (Builtin.max_ ts t #[.int k x, .int k' y]).run P w = .ok (.int k (mx x y)) w := run_max_int2 w ts t k k' x y
theorem run_min_mn {P : Program} (w : World) (ts : Array TypeId) (t : TypeId) (k k' : IntKind) (x y : Int) : (Builtin.min_ ts t #[.int k x, .int k' y]).run P w = .ok (.int k (mn x y)) w := run_min_int2 w ts t k k' x y
theorem EntBox.far {w : World} {b b' : Nat} {e : Ent} (h : EntBox w b e) (hb : b ≠ b') (j : Nat) (u : Value) : EntBox (w.setCell ⟨b', j, none⟩ u) b e := by
  unfold EntBox at *
  rw [Below.heap_setCell _ _ _ _ hb]; exact h

theorem Ents.cap {base : Nat} {w : World} {es : List Ent} {a : Addr} {n cap : Nat} (h : Ents base w (.slice (some a) n cap) es) : n ≤ cap := by
  rcases h.2 with ⟨hv, _⟩ | ⟨g, cap', cur, hv, hb, hg, hn, hc, hs, htake⟩
  · cases hv
  · injection hv with h1 h2 h3; subst h2; subst h3; omega

end Go.Proofs.YtnkbelbalaeieaaDoor
