/- The plain law of ratios' texts: numbers in decimal, read again by the library's reckoning and by the reference's. -/
import Derived.Test.YtmbjoenegcnoiaaDoorQText
import Derived.Lib.AtoiAll
import Derived.Lib.IndexMore
import Derived.Lib.ItoaNum
import Derived.Lib.ItoaMem
namespace Go.Proofs.YtmbjoenegcnoiaaDoor
open Go Go.Lib

theorem decDigits_step {m : Nat} (h : ¬ m < 10) : decDigits m = decDigits (m / 10) ++ [UInt8.ofNat (48 + m % 10)] := by rw [decDigits, dif_neg h]
theorem digit_nat (k : Nat) (h : k < 10) : (UInt8.ofNat (48 + k)).toNat = 48 + k := by
  rw [UInt8.toNat_ofNat']; omega
theorem decDigits_all (m : Nat) : ∀ c ∈ decDigits m, 48 ≤ c.toNat ∧ c.toNat ≤ 57 := by
  induction m using Nat.strongRecOn with
  | _ m ih =>
    by_cases h : m < 10
    · rw [decDigits, dif_pos h]
      intro c hc
      simp only [List.mem_singleton] at hc
      subst hc
      rw [digit_nat m h]; omega
    · rw [decDigits_step h]
      intro c hc
      rcases List.mem_append.1 hc with hc | hc
      · exact ih (m / 10) (by omega) c hc
      · simp only [List.mem_singleton] at hc
        subst hc
        rw [digit_nat _ (by omega)]; omega
theorem decDigits_ne (m : Nat) : decDigits m ≠ [] := by
  intro h
  have := decDigits_length m
  rw [h] at this
  have := nDigits_pos m
  simp at *; omega
theorem pu_snoc : ∀ (l : List UInt8) (a u : Nat) (c : UInt8), parseUint10 a l = .ok u → parseUint10 a (l ++ [c]) = parseUint10 u [c]
  | [], a, u, c, h => by simp only [parseUint10] at h; injection h with h; rw [h]; rfl
  | b :: l, a, u, c, h => by
    simp only [parseUint10, List.cons_append] at h ⊢
    split at h
    · rename_i h1
      rw [if_pos h1]
      split at h
      · cases h
      · rename_i h2
        rw [if_neg h2]
        split at h
        · cases h
        · rename_i h3
          rw [if_neg h3]
          exact pu_snoc l _ u c h
    · cases h
theorem pu_dec (m : Nat) (hm : m < 18446744073709551616) : parseUint10 0 (decDigits m) = .ok m := by
  induction m using Nat.strongRecOn with
  | _ m ih =>
    by_cases h : m < 10
    · rw [decDigits, dif_pos h]
      have e := digit_nat m h
      simp only [parseUint10]
      rw [if_pos (by omega), if_neg (by omega), if_neg (by omega), e]
      congr 1; omega
    · rw [decDigits_step h, pu_snoc _ _ _ _ (ih (m / 10) (by omega) (by omega))]
      have e := digit_nat (m % 10) (by omega)
      simp only [parseUint10]
      rw [if_pos (by omega), if_neg (by omega), if_neg (by omega), e]
      congr 1; omega
theorem dec_head (m : Nat) : ∃ c r, decDigits m = c :: r ∧ 48 ≤ c.toNat ∧ c.toNat ≤ 57 := by
  cases h : decDigits m with
  | nil => exact absurd h (decDigits_ne m)
  | cons c r => exact ⟨c, r, rfl, decDigits_all m c (by rw [h]; simp)⟩
theorem itoa_cases (n : Int) : (0 ≤ n ∧ itoa n = decDigits n.toNat) ∨ (n < 0 ∧ itoa n = 45 :: decDigits (-n).toNat) := by
  by_cases h : n < 0
  · refine .inr ⟨h, ?_⟩; unfold itoa; rw [if_pos h]; congr 2; omega
  · refine .inl ⟨by omega, ?_⟩; unfold itoa; rw [if_neg h]
theorem atoi_itoa (n : Int) (h : -9223372036854775808 ≤ n ∧ n ≤ 9223372036854775807) : atoiAll (itoa n) = .ok n := by
  rcases itoa_cases n with ⟨h0, e⟩ | ⟨h0, e⟩
  · rw [e]
    obtain ⟨c, r, hc, c1, c2⟩ := dec_head n.toNat
    have hp := pu_dec n.toNat (by omega)
    have hne := decDigits_ne n.toNat
    have hm : parseMag (decDigits n.toNat) = .ok n.toNat := by unfold parseMag; rw [if_neg hne]; exact hp
    rw [hc] at hm ⊢
    unfold atoiAll
    simp only
    rw [if_neg (by omega), hm]
    simp only
    rw [if_neg (by omega), if_neg (by omega), if_neg (by omega)]
    congr 1; omega
  · rw [e]
    have hp := pu_dec (-n).toNat (by omega)
    have hne := decDigits_ne (-n).toNat
    have hm : parseMag (decDigits (-n).toNat) = .ok (-n).toNat := by unfold parseMag; rw [if_neg hne]; exact hp
    unfold atoiAll
    simp only
    rw [if_pos (by decide), hm]
    simp only
    rw [if_neg (by simp), if_neg (by omega), if_pos (by decide)]
    congr 1; omega
theorem itoa_no47 (n : Int) : ∀ c ∈ itoa n, c ≠ 47 := by
  intro c hc e
  subst e
  rcases itoa_cases n with ⟨_, e⟩ | ⟨_, e⟩ <;> rw [e] at hc
  · have := decDigits_all _ _ hc; simp at this
  · rcases List.mem_cons.1 hc with h | h
    · exact absurd h (by decide)
    · have := decDigits_all _ _ h; simp at this
theorem idx_none : ∀ (l : List UInt8), (∀ c ∈ l, c ≠ 47) → index l [47] = -1
  | [], _ => rfl
  | b :: l, h => by
    have hb : b ≠ 47 := h b (by simp)
    have := idx_none l (fun c hc => h c (by simp [hc]))
    simp only [index, this]
    rw [if_neg (by simp [List.isPrefixOf]; exact fun e => hb e.symm)]
    rfl
theorem idx_at : ∀ (l r : List UInt8), (∀ c ∈ l, c ≠ 47) → index (l ++ 47 :: r) [47] = l.length
  | [], r, _ => by simp [index, List.isPrefixOf]
  | b :: l, r, h => by
    have hb : b ≠ 47 := h b (by simp)
    have := idx_at l r (fun c hc => h c (by simp [hc]))
    simp only [List.cons_append, index, this]
    rw [if_neg (by simp [List.isPrefixOf]; exact fun e => hb e.symm), if_neg (by simp)]
    simp
theorem cut_none {l : List UInt8} (h : ∀ c ∈ l, c ≠ 47) : Lib.cut l [47] = (l, [], false) := by
  unfold Lib.cut; rw [idx_none l h]; rfl
theorem cut_at {l r : List UInt8} (h : ∀ c ∈ l, c ≠ 47) : Lib.cut (l ++ 47 :: r) [47] = (l, r, true) := by
  unfold Lib.cut; rw [idx_at l r h, if_pos (by omega)]; simp

/-- The project's Parse: the ratio that a text says, if this is its text. -/
def parseV (s : List UInt8) : Rt × Bool :=
  match atoiAll (Lib.cut s [47]).1, atoiAll (if (Lib.cut s [47]).2.2 = true then (Lib.cut s [47]).2.1 else [49]) with
  | .ok n, .ok d => if (textL ⟨n, d⟩ == s) = true then (⟨n, d⟩, true) else (⟨0, 0⟩, false)
  | _, _ => (⟨0, 0⟩, false)
theorem parse_text {r : Rt} (h : Right r) : parseV (textL r) = (r, true) := by
  obtain ⟨h1, h2, h3, h4, -⟩ := id h
  have en := atoi_itoa r.n (by omega)
  have ed := atoi_itoa r.d (by omega)
  have ht : textL r = if r.d = 1 then itoa r.n else itoa r.n ++ 47 :: itoa r.d := if_pos h
  unfold parseV
  by_cases hd : r.d = 1
  · rw [if_pos hd] at ht
    rw [ht, cut_none (itoa_no47 _)]
    simp only [en, Bool.false_eq_true, if_false]
    rw [show atoiAll [49] = .ok 1 by decide +kernel]
    simp only
    have e : (⟨r.n, 1⟩ : Rt) = r := by rw [← hd]
    rw [e, ht, if_pos (by simp)]
  · rw [if_neg hd] at ht
    rw [ht, cut_at (itoa_no47 _)]
    simp only [en, ed, if_true]
    rw [show (⟨r.n, r.d⟩ : Rt) = r from rfl, ht, if_pos (by simp)]
theorem parse_true {s : List UInt8} {r : Rt} (h : parseV s = (r, true)) : Right r ∧ textL r = s := by
  unfold parseV at h
  split at h
  · rename_i n d h1 h2
    split at h
    · rename_i h3
      obtain rfl : (⟨n, d⟩ : Rt) = r := congrArg Prod.fst h
      have h3' : textL ⟨n, d⟩ = s := by simpa using h3
      refine ⟨?_, h3'⟩
      by_cases hr : Right ⟨n, d⟩
      · exact hr
      · have : textL ⟨n, d⟩ = [] := if_neg hr
        rw [this] at h3'
        subst h3'
        simp [Lib.cut, index, atoiAll] at h1
    · cases h
  · cases h
theorem parse_false {s : List UInt8} (h : ∀ r, Right r → textL r ≠ s) : parseV s = (⟨0, 0⟩, false) := by
  rcases hp : parseV s with ⟨r, b⟩
  cases b
  · unfold parseV at hp
    split at hp
    · split at hp
      · cases hp
      · exact hp.symm
    · exact hp.symm
  · exact absurd (parse_true hp).2 (h r (parse_true hp).1)

/-- The reference's number. -/
def numStep (x : Int × Int) (c : UInt8) : Int × Int := if c.toNat = 45 then (x.1, -1) else (10 * x.1 + c.toNat - 48, x.2)
def numV (l : List UInt8) : Int := (l.foldl numStep (0, 1)).2 * (l.foldl numStep (0, 1)).1
theorem num_dec (m : Nat) (sg : Int) : (decDigits m).foldl numStep (0, sg) = ((m : Int), sg) := by
  induction m using Nat.strongRecOn with
  | _ m ih =>
    by_cases h : m < 10
    · rw [decDigits, dif_pos h]
      have e := digit_nat m h
      simp only [List.foldl_cons, List.foldl_nil, numStep, e]
      rw [if_neg (by omega)]
      exact Prod.ext (by simp; omega) rfl
    · rw [decDigits_step h, List.foldl_append, ih (m / 10) (by omega)]
      have e := digit_nat (m % 10) (by omega)
      simp only [List.foldl_cons, List.foldl_nil, numStep, e]
      rw [if_neg (by omega)]
      exact Prod.ext (by simp; omega) rfl
theorem num_itoa (n : Int) : numV (itoa n) = n := by
  unfold numV
  rcases itoa_cases n with ⟨h0, e⟩ | ⟨h0, e⟩ <;> rw [e]
  · rw [num_dec]; simp; omega
  · simp only [List.foldl_cons]
    rw [show numStep (0, 1) 45 = (0, -1) from rfl, num_dec]; simp; omega
/-- The place of the last slash; the length, if there is none. -/
def lastAt (s : List UInt8) : Nat := (s.foldl (fun (x : Nat × Nat) c => (if c = 47 then x.2 else x.1, x.2 + 1)) (s.length, 0)).1
def refParseR (s : List UInt8) : Rt := ⟨numV (s.take (min (lastAt s) 11)), if lastAt s < s.length then numV ((s.drop (lastAt s + 1)).take (min s.length (lastAt s + 12) - (lastAt s + 1))) else 1⟩
def refParseV (s : List UInt8) : Rt × Bool := if textL (refParseR s) = [] ∨ textL (refParseR s) ≠ s then (⟨0, 0⟩, false) else (refParseR s, true)
theorem last_fold : ∀ (l : List UInt8) (a k : Nat), (∀ c ∈ l, c ≠ 47) → l.foldl (fun (x : Nat × Nat) c => (if c = 47 then x.2 else x.1, x.2 + 1)) (a, k) = (a, k + l.length)
  | [], a, k, _ => rfl
  | b :: l, a, k, h => by
    rw [List.foldl_cons, if_neg (h b (by simp)), last_fold l _ _ (fun c hc => h c (by simp [hc]))]
    simp; omega
theorem last_none {l : List UInt8} (h : ∀ c ∈ l, c ≠ 47) : lastAt l = l.length := by unfold lastAt; rw [last_fold l _ _ h]
theorem last_at {l r : List UInt8} (h1 : ∀ c ∈ l, c ≠ 47) (h2 : ∀ c ∈ r, c ≠ 47) : lastAt (l ++ 47 :: r) = l.length := by
  unfold lastAt
  rw [List.foldl_append, last_fold l _ _ h1, List.foldl_cons, if_pos rfl, last_fold r _ _ h2]; simp
theorem nDigits_small (m : Nat) (h : m ≤ 1073741824) : nDigits m ≤ 10 := by
  rw [← decDigits_length]
  have key : ∀ (k m : Nat), m < 10 ^ (k + 1) → (decDigits m).length ≤ k + 1 := by
    intro k
    induction k with
    | zero => intro m h; rw [decDigits, dif_pos (by simpa using h)]; simp
    | succ k ih =>
      intro m h
      by_cases h9 : m < 10
      · rw [decDigits, dif_pos h9]; simp
      · rw [decDigits_step h9, List.length_append]
        have := ih (m / 10) (by rw [Nat.pow_succ] at h; omega)
        simp; omega
  exact key 9 m (by omega)
theorem itoa_len11 {n : Int} (h : -1073741824 ≤ n ∧ n ≤ 1073741824) : (itoa n).length ≤ 11 := by
  rcases itoa_cases n with ⟨h0, e⟩ | ⟨h0, e⟩ <;> rw [e]
  · rw [decDigits_length]; have := nDigits_small n.toNat (by omega); omega
  · rw [List.length_cons, decDigits_length]; have := nDigits_small (-n).toNat (by omega); omega
theorem refParse_text {r : Rt} (h : Right r) : refParseV (textL r) = (r, true) := by
  obtain ⟨h1, h2, h3, h4, -⟩ := id h
  have l1 := itoa_len11 (n := r.n) ⟨h3, h4⟩
  have l2 := itoa_len11 (n := r.d) ⟨by omega, h2⟩
  have ht : textL r = if r.d = 1 then itoa r.n else itoa r.n ++ 47 :: itoa r.d := if_pos h
  have hR : refParseR (textL r) = r := by
    unfold refParseR
    by_cases hd : r.d = 1
    · rw [if_pos hd] at ht
      rw [ht, last_none (itoa_no47 _), if_neg (by omega), Nat.min_eq_left l1, List.take_length, num_itoa, ← hd]
    · rw [if_neg hd] at ht
      rw [ht, last_at (itoa_no47 _) (itoa_no47 _), if_pos (by simp), Nat.min_eq_left l1, List.take_left' rfl, num_itoa]
      have e : (itoa r.n ++ 47 :: itoa r.d).drop ((itoa r.n).length + 1) = itoa r.d := by
        rw [show itoa r.n ++ 47 :: itoa r.d = (itoa r.n ++ [47]) ++ itoa r.d by simp, List.drop_left' (by simp)]
      rw [e, List.take_of_length_le (by simp; omega), num_itoa]
  unfold refParseV
  rw [hR, if_neg]
  intro hx
  rcases hx with hx | hx
  · rw [ht] at hx
    split at hx
    · rcases itoa_cases r.n with ⟨_, e⟩ | ⟨_, e⟩ <;> rw [e] at hx
      · exact decDigits_ne _ hx
      · cases hx
    · simp at hx
  · exact hx rfl
theorem refParse_true {s : List UInt8} {r : Rt} (h : refParseV s = (r, true)) : Right r ∧ textL r = s := by
  unfold refParseV at h
  split at h
  · cases h
  · rename_i hx
    obtain rfl : refParseR s = r := congrArg Prod.fst h
    have h1 : textL (refParseR s) ≠ [] := fun e => hx (.inl e)
    have h2 : textL (refParseR s) = s := Decidable.byContradiction fun e => hx (.inr e)
    refine ⟨Decidable.byContradiction fun e => h1 (if_neg e), h2⟩
theorem refParse_false {s : List UInt8} (h : ∀ r, Right r → textL r ≠ s) : refParseV s = (⟨0, 0⟩, false) := by
  rcases hp : refParseV s with ⟨r, b⟩
  cases b
  · unfold refParseV at hp
    split at hp
    · exact hp.symm
    · cases hp
  · exact absurd (refParse_true hp).2 (h r (refParse_true hp).1)
theorem parse_same (s : List UInt8) : parseV s = refParseV s := by
  by_cases h : ∃ r, Right r ∧ textL r = s
  · obtain ⟨r, hr, rfl⟩ := h
    rw [parse_text hr, refParse_text hr]
  · have h' : ∀ r, Right r → textL r ≠ s := fun r hr e => h ⟨r, hr, e⟩
    rw [parse_false h', refParse_false h']
end Go.Proofs.YtmbjoenegcnoiaaDoor
