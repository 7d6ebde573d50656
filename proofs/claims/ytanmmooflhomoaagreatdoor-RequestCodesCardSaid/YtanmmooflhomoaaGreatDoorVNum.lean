/- Numbers in decimal, and read again. -/
import Derived.Test.YtanmmooflhomoaaGreatDoorVBase
import Derived.Lib.AtoiAll
import Derived.Lib.IndexMore
import Derived.Lib.ItoaNum
import Derived.Lib.ItoaMem
namespace Go.Proofs.YtanmmooflhomoaaGreatDoor.Wr
open Go Go.Lib

theorem decDigits_step {m : Nat} (h : ¬ m < 10) : decDigits m = decDigits (m / 10) ++ [UInt8.ofNat (48 + m % 10)] := by rw [decDigits, dif_neg h]
theorem digit_nat (k : Nat) (h : k < 10) : (UInt8.ofNat (48 + k)).toNat = 48 + k := by
  rw [UInt8.toNat_ofNat']; omega
theorem decDigits_all (m : Nat) : ∀ c ∈ decDigits m, 48 ≤ c.toNat ∧ c.toNat ≤ 57 := by
  induction m using Nat.strongRecOn with
  | _ m ih =>
    by_cases h : m < 10
    · rw [decDigits, dif_pos h]
      intro c hc
      simp only [List.mem_singleton] at hc
      subst hc
      rw [digit_nat m h]; omega
    · rw [decDigits_step h]
      intro c hc
      rcases List.mem_append.1 hc with hc | hc
      · exact ih (m / 10) (by omega) c hc
      · simp only [List.mem_singleton] at hc
        subst hc
        rw [digit_nat _ (by omega)]; omega
theorem decDigits_ne (m : Nat) : decDigits m ≠ [] := by
  intro h
  have := decDigits_length m
  rw [h] at this
  have := nDigits_pos m
  simp at *; omega
theorem pu_snoc : ∀ (l : List UInt8) (a u : Nat) (c : UInt8), parseUint10 a l = .ok u → parseUint10 a (l ++ [c]) = parseUint10 u [c]
  | [], a, u, c, h => by simp only [parseUint10] at h; injection h with h; rw [h]; rfl
  | b :: l, a, u, c, h => by
    simp only [parseUint10, List.cons_append] at h ⊢
    split at h
    · rename_i h1
      rw [if_pos h1]
      split at h
      · cases h
      · rename_i h2
        rw [if_neg h2]
        split at h
        · cases h
        · rename_i h3
          rw [if_neg h3]
          exact pu_snoc l _ u c h
    · cases h
theorem pu_dec (m : Nat) (hm : m < 18446744073709551616) : parseUint10 0 (decDigits m) = .ok m := by
  induction m using Nat.strongRecOn with
  | _ m ih =>
    by_cases h : m < 10
    · rw [decDigits, dif_pos h]
      have e := digit_nat m h
      simp only [parseUint10]
      rw [if_pos (by omega), if_neg (by omega), if_neg (by omega), e]
      congr 1; omega
    · rw [decDigits_step h, pu_snoc _ _ _ _ (ih (m / 10) (by omega) (by omega))]
      have e := digit_nat (m % 10) (by omega)
      simp only [parseUint10]
      rw [if_pos (by omega), if_neg (by omega), if_neg (by omega), e]
      congr 1; omega
theorem dec_head (m : Nat) : ∃ c r, decDigits m = c :: r ∧ 48 ≤ c.toNat ∧ c.toNat ≤ 57 := by
  cases h : decDigits m with
  | nil => exact absurd h (decDigits_ne m)
  | cons c r => exact ⟨c, r, rfl, decDigits_all m c (by rw [h]; simp)⟩
theorem itoa_cases (n : Int) : (0 ≤ n ∧ itoa n = decDigits n.toNat) ∨ (n < 0 ∧ itoa n = 45 :: decDigits (-n).toNat) := by
  by_cases h : n < 0
  · refine .inr ⟨h, ?_⟩; unfold itoa; rw [if_pos h]; congr 2; omega
  · refine .inl ⟨by omega, ?_⟩; unfold itoa; rw [if_neg h]
theorem atoi_itoa (n : Int) (h : -9223372036854775808 ≤ n ∧ n ≤ 9223372036854775807) : atoiAll (itoa n) = .ok n := by
  rcases itoa_cases n with ⟨h0, e⟩ | ⟨h0, e⟩
  · rw [e]
    obtain ⟨c, r, hc, c1, c2⟩ := dec_head n.toNat
    have hp := pu_dec n.toNat (by omega)
    have hne := decDigits_ne n.toNat
    have hm : parseMag (decDigits n.toNat) = .ok n.toNat := by unfold parseMag; rw [if_neg hne]; exact hp
    rw [hc] at hm ⊢
    unfold atoiAll
    simp only
    rw [if_neg (by omega), hm]
    simp only
    rw [if_neg (by omega), if_neg (by omega), if_neg (by omega)]
    congr 1; omega
  · rw [e]
    have hp := pu_dec (-n).toNat (by omega)
    have hne := decDigits_ne (-n).toNat
    have hm : parseMag (decDigits (-n).toNat) = .ok (-n).toNat := by unfold parseMag; rw [if_neg hne]; exact hp
    unfold atoiAll
    simp only
    rw [if_pos (by decide), hm]
    simp only
    rw [if_neg (by simp), if_neg (by omega), if_pos (by decide)]
    congr 1; omega
end Go.Proofs.YtanmmooflhomoaaGreatDoor.Wr
