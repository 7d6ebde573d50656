/- market.compare: the order in which requests are dealt with. -/
import Derived.Test.YtjcogpalmgcpbaaMkFt
namespace Go.Proofs.Ytjcogpalmgcpbaa
open Go Go.Proofs Go.RowKit Go.Maps Go.Sort Go.Lib
attribute [local go_sem] Req.cells

def tailB (a b : Req) : List Int := [Lib.compareInt b.priority a.priority, Lib.compareInt a.day b.day, Lib.compareInt a.server b.server, Lib.compareInt a.seq b.seq]
theorem orL_tailB (a b : Req) : orL (tailB a b) = cmpB a b := by
  unfold tailB cmpB
  simp only [orL]
  split <;> (try split) <;> (try split) <;> (try split) <;> simp_all






















end Go.Proofs.Ytjcogpalmgcpbaa
