/- The project's Text of a reader, over all readers. -/
import Derived.Test.YtanmmooflhomoaaGreatDoorVInt
namespace Go.Proofs.YtanmmooflhomoaaGreatDoor.Wr
open Go Go.RowKit Go.Sort Go.Lib

/-- The text that a text begins with, and what stands behind it. -/
def textP (s : List UInt8) : Option (List UInt8 × List UInt8) :=
  match numP s 58 with
  | some (n, r) => if n < 0 ∨ (r.length : Int) < n then none else some (r.take n.toNat, r.drop n.toNat)
  | none => none
set_option maxHeartbeats 1000000 in
theorem rdText_any (p : Nat) (hp : Past p) (s : ByteArray) (hs : s.size ≤ 100000000) (b : Bool) (w : World) (h : RdAt w p s b) (ht : Sane w) (he : ErrVars w) :
    Calls Tryz.prog 39 #[.pointer (some ⟨p, 0, none⟩)] w (Reads p (fun t => .string ⟨t.toArray⟩) (.string ⟨#[]⟩) (if b = true then none else textP s.data.toList) w) := by
  have c := number_any p hp s hs b 58 w h ht he
  have e : (if b = true then none else textP s.data.toList) = match (if b = true then none else numP s.data.toList 58) with
      | some (n, r) => if n < 0 ∨ (r.length : Int) < n then none else some (r.take n.toNat, r.drop n.toNat)
      | none => none := by cases b <;> rfl
  rw [e]
  clear e
  generalize (if b = true then none else numP s.data.toList 58) = z at c ⊢
  rcases z with _ | ⟨n, r⟩
  · unfold Reads at c ⊢
    dsimp only at c ⊢
    clear h ht he
    go_enter Tryz.func39, Tryz.ntmps39
    go_wp2_with fail
    refine c.mono ?_
    rintro x w1 ⟨rfl, hR, hB⟩
    have cf := fail_any p _ _ _ hR
    go_wp2_with fail
    refine cf.mono ?_
    rintro x w2 ⟨rfl, hR2, hB2⟩
    go_wp2_with fail
    go_ret
    exact ⟨rfl, hR2, hB.trans hB2⟩
  · have hrz : (⟨r.toArray⟩ : ByteArray).size = r.length := by simp [ByteArray.size]
    have hx : (n < 0) ∨ (0 ≤ n ∧ (r.length : Int) < n) ∨ (0 ≤ n ∧ n ≤ r.length) := by omega
    rcases hx with h1 | ⟨h1, h2⟩ | ⟨h1, h2⟩
    · have hk : n < 0 ∨ (r.length : Int) < n := .inl h1
      dsimp only
      rw [if_pos hk]
      unfold Reads at c ⊢
      dsimp only at c ⊢
      clear h ht he hk hrz
      go_enter Tryz.func39, Tryz.ntmps39
      go_wp2_with fail
      refine c.mono ?_
      rintro x w1 ⟨rfl, hR, hB⟩
      have cf := fail_any p _ _ _ hR
      obtain ⟨k0, k1, -, -⟩ := id hR
      go_wp2_with fail
      refine cf.mono ?_
      rintro x w2 ⟨rfl, hR2, hB2⟩
      go_wp2_with fail
      go_ret
      exact ⟨rfl, hR2, hB.trans hB2⟩
    · have hk : n < 0 ∨ (r.length : Int) < n := .inr h2
      dsimp only
      rw [if_pos hk]
      unfold Reads at c ⊢
      dsimp only at c ⊢
      clear h ht he hk
      go_enter Tryz.func39, Tryz.ntmps39
      go_wp2_with fail
      refine c.mono ?_
      rintro x w1 ⟨rfl, hR, hB⟩
      have cf := fail_any p _ _ _ hR
      obtain ⟨k0, k1, -, -⟩ := id hR
      go_wp2_with fail
      refine cf.mono ?_
      rintro x w2 ⟨rfl, hR2, hB2⟩
      go_wp2_with fail
      go_ret
      exact ⟨rfl, hR2, hB.trans hB2⟩
    · have hk : ¬ (n < 0 ∨ (r.length : Int) < n) := by omega
      have h3 : n ≤ (⟨r.toArray⟩ : ByteArray).size := by rw [hrz]; exact h2
      have e1 : (⟨r.toArray⟩ : ByteArray).extract 0 n.toNat = ⟨(r.take n.toNat).toArray⟩ := ba_ext (by simp [ByteArray.data_extract])
      have e2 : (⟨r.toArray⟩ : ByteArray).extract n.toNat r.length = ⟨(r.drop n.toNat).toArray⟩ := ba_ext (by simp [ByteArray.data_extract]; rw [List.take_of_length_le (by simp)])
      dsimp only
      rw [if_neg hk]
      unfold Reads at c ⊢
      dsimp only at c ⊢
      clear h ht he hk
      go_enter Tryz.func39, Tryz.ntmps39
      go_wp2_with fail
      refine c.mono ?_
      rintro x w1 ⟨rfl, hR, hB⟩
      have hS := hR.set ⟨(r.drop n.toNat).toArray⟩
      have hB2 := hB.set 0 (.string ⟨(r.drop n.toNat).toArray⟩)
      have hl := hR.lt
      obtain ⟨k0, k1, f0, f1⟩ := id hR
      clear hR
      go_wp2_with fail
      go_ret
      exact ⟨rfl, hS, hB2⟩
end Go.Proofs.YtanmmooflhomoaaGreatDoor.Wr
