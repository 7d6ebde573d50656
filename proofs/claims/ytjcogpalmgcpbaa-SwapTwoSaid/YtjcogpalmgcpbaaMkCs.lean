/- quadriviumlaw28.Case.made: a catalog, who has met what, the credits, requests. -/
import Derived.Test.YtjcogpalmgcpbaaMkMf
import Derived.Test.YtjcogpalmgcpbaaRqMade
namespace Go.Proofs.Ytjcogpalmgcpbaa
open Go Go.Proofs Go.RowKit Go.Maps Go.Sort Go.Lib

theorem ints_up {B B' : Nat} {S : Option Addr} {N : Nat} {w : World} (h : IntsIn B S N w) (hB : B ≤ B') : IntsIn B' S N w :=
  ⟨h.1, fun j hj => by
    obtain ⟨b, off, z, hA, hb, hc, hz⟩ := h.2 j hj
    exact ⟨b, off, z, hA, Nat.lt_of_lt_of_le hb hB, hc, hz⟩⟩
theorem ints_at {S : Option Addr} {N : Nat} {w w' : World} (h : IntsIn w.heap.size S N w) (hb : RowKit.Below w.heap.size w w') : IntsIn w'.heap.size S N w' := ints_up (h.below hb) hb.size
theorem intss_at {S : Option Addr} {N : Nat} {w w' : World} (h : IntssIn w.heap.size S N w) (hb : RowKit.Below w.heap.size w w') : IntssIn w'.heap.size S N w' :=
  ⟨h.1, fun j hj => by
    obtain ⟨b, off, A, n, c, hA, hB, hc, hi⟩ := (h.below hb).2 j hj
    exact ⟨b, off, A, n, c, hA, Nat.lt_of_lt_of_le hB hb.size, hc, ints_up hi hb.size⟩⟩
theorem Req.Small.fits {r : Req} (h : r.Small) : r.fits := ⟨h.wf, by have := h.code; omega, by have := h.give; omega⟩
theorem GoodL.calm {k : Nat} {L : List Off} (h : GoodL k L) : Calm L := fun o ho => ⟨(h.1 o ho).c0, by have := (h.1 o ho).c1; omega⟩
theorem codesL_small {c : ByteArray} (h : c ∈ codesL) : c.size ≤ 2 := by
  have : ∀ c ∈ codesL, c.size ≤ 2 := by decide
  exact this c h
theorem GoodL.cat {k : Nat} {w : World} {ov mv : Value} {L : List Off} {M : List Seat} (h : GoodL k L) (ho : RowIn Off.cells w ov L) (hok : ∀ o ∈ L, OffOk w o) (hm : RowIn Seat.cells w mv M) (hs : ∀ s ∈ M, s.wf) (lm : M.length ≤ 1000000) : CatIn w ov mv L M where
  off := ho
  ok o hx := ⟨hok o hx, by have := (h.1 o hx).sl; unfold Off.few; omega⟩
  code o hx := by have := codesL_small (h.1 o hx).code; unfold maxLen; omega
  met := hm
  wf := hs
  lo := by have := h.len; omega
  lm := lm
/-- What 'made' leaves. -/
structure MkCase (w' : World) (ov mv rv : Value) (L : List Off) (M : List Seat) (most : Int) (R : List Req) : Prop where
  cat : CatIn w' ov mv L M
  good : GoodL 6 L
  m0 : 0 ≤ most
  m1 : most ≤ 39
  req : ReqsIn w' rv R
  lr : R.length ≤ 16
  small : ∀ r ∈ R, r.Small
theorem MkCase.below {w w' : World} {ov mv rv : Value} {L : List Off} {M : List Seat} {most : Int} {R : List Req} (h : MkCase w ov mv rv L M most R) (hb : RowKit.Below w.heap.size w w') : MkCase w' ov mv rv L M most R :=
  ⟨h.cat.below hb, h.good, h.m0, h.m1, h.req.below hb, h.lr, h.small⟩
def MkCasePost (w : World) (x : Ending) (w' : World) : Prop := ∃ ov mv rv L M most R, x = .returned (.tuple #[ov, mv, .int .i64 most, rv]) ∧ MkCase w' ov mv rv L M most R ∧ RowKit.Below w.heap.size w w'
































end Go.Proofs.Ytjcogpalmgcpbaa
