/- market.Same: whether two deals are equal. -/
import Derived.Test.YtjcogpalmgcpbaaMkEq
namespace Go.Proofs.Ytjcogpalmgcpbaa
open Go Go.Proofs Go.RowKit Go.Maps Go.Sort Go.Lib

/-- Two slices of seats side by side. -/
structure Pr where
  p : Option Addr
  c : Nat
  q : Option Addr
  e : Nat
  A : List Seat
  B : List Seat
def Pr.cells (z : Pr) : List Value := [.slice z.p z.A.length z.c, .slice z.q z.B.length z.e]
attribute [local go_sem] Pr.cells
structure PrOk (w : World) (z : Pr) : Prop where
  a : RowIn Seat.cells w (.slice z.p z.A.length z.c) z.A
  b : RowIn Seat.cells w (.slice z.q z.B.length z.e) z.B
  la : z.A.length ≤ 1000000
  lb : z.B.length ≤ 1000000
theorem PrOk.below {w w' : World} {z : Pr} (h : PrOk w z) (hb : RowKit.Below w.heap.size w w') : PrOk w' z := ⟨h.a.below hb, h.b.below hb, h.la, h.lb⟩










































































































end Go.Proofs.Ytjcogpalmgcpbaa
