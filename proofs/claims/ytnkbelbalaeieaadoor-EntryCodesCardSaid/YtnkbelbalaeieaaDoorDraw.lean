/- quadriviumref01.Draw.Next: a number from 0 to m - 1; the counter alone moves. -/
import Derived.Test.YtnkbelbalaeieaaDoorEnt
import Derived.Test.YtnkbelbalaeieaaDoorSmall
namespace Go.Proofs.YtnkbelbalaeieaaDoor
open Go Go.RowKit Go.Sort Go.Lib

/-- A slice of ints that came in, below block B: each place can be read. -/
def IntsIn (B : Nat) (A : Option Addr) (n : Nat) (w : World) : Prop :=
  n ≤ 1000000000000000000 ∧ ∀ j, j < n → ∃ b off z, A = some ⟨b, off, none⟩ ∧ b < B ∧ w.cell? ⟨b, off + j, none⟩ = some (.int .i64 z) ∧ I64 z
theorem IntsIn.below {B : Nat} {A : Option Addr} {n : Nat} {w w' : World} (h : IntsIn B A n w) (hb : Below B w w') : IntsIn B A n w' :=
  ⟨h.1, fun j hj => by
    obtain ⟨b, off, z, hA, hB, hc, hz⟩ := h.2 j hj
    exact ⟨b, off, z, hA, hB, (hb.cell (p := ⟨b, off + j, none⟩) hB).trans hc, hz⟩⟩

/-- Block d is a Draw over the slice A, n, c, which has given k numbers. -/
def DrawAt (w : World) (d : Nat) (A : Option Addr) (n c k : Nat) : Prop := w.heap[d]? = some (.cells #[.slice A n c, .int .i64 k] 77 (0, 0))

/-- Only block d has been written, and blocks laid. -/
def Only (d : Nat) (w w' : World) : Prop := w.grownBy w' (some d)

def NextPost (d : Nat) (A : Option Addr) (n c _k : Nat) (m : Int) (w : World) (x : Ending) (w' : World) : Prop :=
  ∃ v : Int, x = .returned (.int .i64 v) ∧ 0 ≤ v ∧ v < m ∧ (∃ k', k' ≤ n ∧ DrawAt w' d A n c k') ∧ Only d w w'

theorem Only.setCell (w : World) (d i : Nat) (u : Value) (n : Nat) : Only d w ((w.setCell ⟨d, i, none⟩ u).drewN n) :=
  ⟨rfl, rfl, rfl, by simp [World.setCell], fun k _ hk => Below.heap_setCell w _ _ _ (by simpa using hk)⟩

theorem quiet_r {P : Program} {f : FuncId} {args : Array Value} {w : World} {n : Nat} {v : Value} (h : Calls P f args (w.drewN n) fun e w' => e = .returned v ∧ w.drewN n = w') :
    Calls P f args (w.drewN n) fun e w'' => e = .returned v ∧ ∃ m, w'' = w.drewN m := h.mono fun _ _ ⟨he, hm⟩ => ⟨he, n, hm.symm⟩
theorem quiet_add_r {P : Program} {f : FuncId} {args : Array Value} {w : World} {a n : Nat} {v : Value} (h : Calls P f args (w.drewN (a + n)) fun e w' => e = .returned v ∧ w.drewN (a + n) = w') :
    Calls P f args (w.drewN (a + n)) fun e w'' => e = .returned v ∧ ∃ m, w'' = w.drewN (a + m) := h.mono fun _ _ ⟨he, hm⟩ => ⟨he, n, hm.symm⟩

set_option maxHeartbeats 2000000 in
set_option maxRecDepth 100000 in
theorem next_any (B d : Nat) (A : Option Addr) (n c k : Nat) (m : Int) (w : World) (hm : 0 < m) (hm2 : m ≤ 1000000) (hd : DrawAt w d A n c k) (hB : B ≤ d) (hk : k ≤ n) (hi : IntsIn B A n w) :
    Calls Tryd.prog 58 #[.pointer (some ⟨d, 0, none⟩), .int .i64 m] w (NextPost d A n c k m w) := by
  have hc0 : w.cell? ⟨d, 0, none⟩ = some (.slice A n c) := Lib.cell_of_heap hd 0
  have hc1 : w.cell? ⟨d, 1, none⟩ = some (.int .i64 k) := Lib.cell_of_heap hd 1
  have hf1 : w.frozen? ⟨d, 1, none⟩ = false := Lib.frozen_of_heap hd 1
  have hn := hi.1
  by_cases hlt : k < n
  · obtain ⟨b, off, z, rfl, hbB, hz, hz2⟩ := hi.2 k hlt
    have hbd : b ≠ d := by omega
    have hlt' : ¬ (n : Int) ≤ (k : Int) := by omega
    have hm' := fun W => mod_any z m W hm hm2
    go_enter Tryd.func58, Tryd.ntmps58
    go_wp2_with fail
    go_quiet (fail)
    go_wp2_with fail
    go_quiet ((go_at_call 24; exact quiet_r (hm' _)))
    go_wp2_with fail
    go_ret
    have h1 := Int.emod_nonneg z (show m ≠ 0 by omega)
    have h2 := Int.emod_lt_of_pos z hm
    refine ⟨z % m, rfl, h1, h2, ⟨k + 1, by omega, ?_⟩, ?_⟩
    · unfold DrawAt at hd ⊢
      show (((w.drewN _).setCell ⟨d, 1, none⟩ (.int .i64 (k + 1))).heap)[d]? = _
      simp [World.setCell, Array.getElem?_modify]
      exact ⟨_, hd, rfl⟩
    · exact ⟨rfl, rfl, rfl, by simp [World.setCell], fun k _ hk => Below.heap_setCell _ _ _ _ (by simpa using hk)⟩
  · have hlt' : (n : Int) ≤ (k : Int) := by omega
    go_enter Tryd.func58, Tryd.ntmps58
    go_wp2_with fail
    go_quiet (fail)
    go_wp2_with fail
    go_ret
    exact ⟨0, rfl, by omega, hm, ⟨k, by omega, hd⟩, ⟨rfl, rfl, rfl, Nat.le_refl _, fun _ _ _ => rfl⟩⟩
end Go.Proofs.YtnkbelbalaeieaaDoor
