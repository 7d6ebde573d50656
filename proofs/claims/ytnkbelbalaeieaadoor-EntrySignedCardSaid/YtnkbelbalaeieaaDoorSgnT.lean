/- Sign of both packages, with the statements' ring. -/
import Derived.Test.YtnkbelbalaeieaaDoorSgn3
namespace Go.Proofs.YtnkbelbalaeieaaDoor
open Go Go.RowKit Go.Sort Go.Lib
theorem u16_in (id : Int) : 0 ≤ IntKind.u16.wrap id ∧ IntKind.u16.wrap id < 65536 := by
  have : IntKind.u16.wrap id = id % 65536 := by rfl
  omega
theorem ring_secret (f : Int) : ∀ k ∈ ringL f, k.secret.size ≤ 100000 := by
  intro k hk
  simp only [ringL, List.mem_cons, List.not_mem_nil, or_false] at hk
  rcases hk with rfl | rfl
  · show (5 : Nat) ≤ 100000; omega
  · show (4 : Nat) ≤ 100000; omega

theorem sign_two (g : Nat) (sc f id : Int) (e r : Ent) (m : Int) (hrn : signE (ringL f) sc id e = (r, m)) (w : World) (hk : KeysAt w g (ringL f)) (hg : g < w.heap.size) (hs : I64 sc) (hi : I64 id) (he : e.Ok) (hT : Tabs w) :
    Calls Tryd.prog 25 #[.agg #[.int .i64 sc, .slice (some ⟨g, 0, none⟩) 2 2], .int .i64 id, e.val] w fun x w' => x = .returned (.tuple #[r.val, .int .i64 m]) ∧ RowKit.Below w.heap.size w w' := by
  have h := sign_any g 2 sc (ringL f) id e w (by show (2 : Nat) ≤ 1000; omega) hk (ring_secret f) hg hs hi he hT
  unfold signV at h
  rw [hrn] at h
  exact h
theorem refSign_two (g : Nat) (sc f id : Int) (e r : Ent) (m : Int) (hrn : signE (ringL f) sc id e = (r, m)) (w : World) (hk : KeysAt w g (ringL f)) (hg : g < w.heap.size) (hs : I64 sc) (hi : I64 id) (he : e.Ok) (hT : Tabs w) :
    Calls Tryd.prog 26 #[.agg #[.int .i64 sc, .slice (some ⟨g, 0, none⟩) 2 2], .int .i64 id, e.val] w fun x w' => x = .returned (.tuple #[r.val, .int .i64 m]) ∧ RowKit.Below w.heap.size w w' := by
  have h := refSign_any g 2 sc (ringL f) id e w (by show (2 : Nat) ≤ 1000; omega) hk (ring_secret f) hg hs hi he hT
  unfold signV at h
  rw [hrn] at h
  exact h
end Go.Proofs.YtnkbelbalaeieaaDoor
