/- The law RequestMissing, walked: it returns true. -/
import Derived.Test.YtanmmooflhomoaaGreatDoorRqSan
import Derived.Test.YtanmmooflhomoaaGreatDoorRqPut
namespace Go.Proofs.YtanmmooflhomoaaGreatDoor
open Go Go.Proofs Go.RowKit Go.Sort Go.Lib
attribute [local go_sem] Req.cells
attribute [local go_sem ↓] req_eql_cells req_neq_cells

theorem isSet_none {A W : List Req} (h : ∀ r ∈ A, r ∈ W) : IsSet [] (A.filter fun r => !W.any (eqReq r)) :=
  ⟨List.Pairwise.nil, fun r => ⟨fun hr => (List.not_mem_nil hr).elim, fun hr => absurd (h r (mem_missing.1 hr).1) (mem_missing.1 hr).2⟩⟩
/-- A list in order comes back. -/
def RetIs (L : List Req) (w : World) (x : Ending) (w' : World) : Prop := ∃ v M, x = .returned v ∧ IsSet M L ∧ M.length ≤ L.length ∧ ReqsIn w' v M ∧ RowKit.Below w.heap.size w w'
theorem join_is {A B : List Req} (hs : ∀ r ∈ A ++ B, r.Small) (hl : A.length + B.length ≤ 1000000) (a b : Value) (w : World) (ha : ReqsIn w a A) (hb : ReqsIn w b B) :
    Calls Tryz.prog 9 #[a, b] w (RetIs (A ++ B) w) := by
  refine (join_any a b A B w ha hb hl fun r hr => (hs r hr).wf).mono ?_
  rintro x w' ⟨v, M, rfl, hM, hr, hb⟩
  exact ⟨v, M, rfl, hM, put_len hM, reqsIn_own hr, hb⟩
theorem missing_is {A B : List Req} (hs : ∀ r ∈ A, r.Small) (hsb : ∀ r ∈ B, r.Small) (hl : A.length ≤ 1000000) (hlb : B.length ≤ 1000000) (a b : Value) (w : World) (ha : ReqsIn w a A) (hb : ReqsIn w b B) :
    Calls Tryz.prog 11 #[a, b] w (RetIs (A.filter fun r => !B.any (eqReq r)) w) := by
  refine (missing_any a b A B w ha hb hl hlb (fun r hr => (hs r hr).wf) (fun r hr => (hsb r hr).wf)).mono ?_
  rintro x w' ⟨v, M, rfl, hM, hr, hb⟩
  exact ⟨v, M, rfl, hM, put_len hM, reqsIn_own hr, hb⟩
theorem IsSet.small {M L : List Req} (h : IsSet M L) (hs : ∀ r ∈ L, r.Small) : ∀ r ∈ M, r.Small := fun r hr => hs r ((h.2 r).1 hr)
theorem small_app {A B : List Req} (ha : ∀ r ∈ A, r.Small) (hb : ∀ r ∈ B, r.Small) : ∀ r ∈ A ++ B, r.Small := fun r hr => by
  rcases List.mem_append.1 hr with h | h
  · exact ha r h
  · exact hb r h
theorem small_fil {A : List Req} (p : Req → Bool) (ha : ∀ r ∈ A, r.Small) : ∀ r ∈ A.filter p, r.Small := fun r hr => ha r (List.mem_filter.1 hr).1































































































































































end Go.Proofs.YtanmmooflhomoaaGreatDoor
