/- quadriviumref28.Met: who has met what. -/
import Derived.Test.YtjcogpalmgcpbaaMkSa
namespace Go.Proofs.Ytjcogpalmgcpbaa
open Go Go.Proofs Go.RowKit Go.Maps Go.Sort Go.Lib
attribute [local go_sem] Seat.cells

/-- All seats of the students 1 to 5. -/
def metAll : List Seat := [1, 2, 3, 4, 5].flatMap fun s => codesL.map fun c => ⟨s, c⟩
def MetOk (bits : Int) (j : Nat) (M : List Seat) : Prop := M.length ≤ j ∧ (∀ s ∈ M, s.wf) ∧ (bits = 0 → M = metAll.take j)
theorem metAll_at {s k : Nat} (h1 : 1 ≤ s) (h5 : s ≤ 5) (hk : k < 6) {c : ByteArray} (hc : codesL[k]? = some c) : metAll[6 * (s - 1) + k]? = some ⟨s, c⟩ := by
  have hs : s = 1 ∨ s = 2 ∨ s = 3 ∨ s = 4 ∨ s = 5 := by omega
  have hkk : k = 0 ∨ k = 1 ∨ k = 2 ∨ k = 3 ∨ k = 4 ∨ k = 5 := by omega
  rcases hs with rfl | rfl | rfl | rfl | rfl <;> rcases hkk with rfl | rfl | rfl | rfl | rfl | rfl <;> (simp only [codesL] at hc; injection hc with hc; subst hc; rfl)
theorem MetOk.yes {bits : Int} {s k : Nat} {M : List Seat} {c : ByteArray} (h : MetOk bits (6 * (s - 1) + k) M) (h1 : 1 ≤ s) (h5 : s ≤ 5) (hk : k < 6) (hc : codesL[k]? = some c) : MetOk bits (6 * (s - 1) + (k + 1)) (M ++ [⟨s, c⟩]) := by
  have hcl : c.size ≤ 2 := by
    have hkk : k = 0 ∨ k = 1 ∨ k = 2 ∨ k = 3 ∨ k = 4 ∨ k = 5 := by omega
    rcases hkk with rfl | rfl | rfl | rfl | rfl | rfl <;> (simp only [codesL] at hc; injection hc with hc; subst hc; decide)
  refine ⟨by simp; have := h.1; omega, fun x hx => ?_, fun hb => ?_⟩
  · rw [List.mem_append, List.mem_singleton] at hx
    rcases hx with hx | rfl
    · exact h.2.1 x hx
    · refine ⟨?_, by unfold maxLen; show c.size ≤ _; omega⟩
      have hs : s = 1 ∨ s = 2 ∨ s = 3 ∨ s = 4 ∨ s = 5 := by omega
      rcases hs with rfl | rfl | rfl | rfl | rfl <;> rfl
  · rw [h.2.2 hb, show 6 * (s - 1) + (k + 1) = 6 * (s - 1) + k + 1 by omega, take_one (metAll_at h1 h5 hk hc)]
theorem MetOk.no {bits : Int} {j : Nat} {M : List Seat} (h : MetOk bits j M) (hb : bits ≠ 0) : MetOk bits (j + 1) M := ⟨by have := h.1; omega, h.2.1, fun e => absurd e hb⟩
def MetSt (bits : Int) (w1 : World) (j : Nat) (v : Value) (wr : World) : Prop := ∃ (M : List Seat) (p : Option Addr) (c : Nat), v = .slice p M.length c ∧ MetOk bits j M ∧ wr.ownsRow w1.heap.size 32 2 (.slice p M.length c) M.length (flatE Seat.cells M) ∧ RowKit.Below w1.heap.size w1 wr





























































































end Go.Proofs.Ytjcogpalmgcpbaa
