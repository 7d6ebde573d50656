/- The plain law of the reference's number: negative digits up to a byte, checked by writing the number again. -/
import Derived.Test.YtnkbelbalaeieaaDoorVPl2
namespace Go.Proofs.YtnkbelbalaeieaaDoor.Wr
open Go Go.Lib

/-- The number that decimal digits say. -/
def vI (l : List UInt8) (a : Int) : Int := l.foldl (fun a c => 10 * a + ((c.toNat : Int) - 48)) a
theorem vI_app (l m : List UInt8) (a : Int) : vI (l ++ m) a = vI m (vI l a) := by unfold vI; rw [List.foldl_append]
theorem vI_ge : ∀ (l : List UInt8) (a : Int), 0 ≤ a → (∀ c ∈ l, 48 ≤ c.toNat) → a ≤ vI l a
  | [], _, _, _ => Int.le_refl _
  | c :: l, a, ha, h => by
    have h1 := h c (by simp)
    have h2 := vI_ge l (10 * a + ((c.toNat : Int) - 48)) (by omega) (fun d hd => h d (by simp [hd]))
    exact Int.le_trans (by omega) h2
theorem vI_dec (m : Nat) : vI (decDigits m) 0 = m := by
  induction m using Nat.strongRecOn with
  | _ m ih =>
    by_cases h : m < 10
    · rw [decDigits, dif_pos h]
      have e := digit_nat m h
      simp only [vI, List.foldl_cons, List.foldl_nil, e]; omega
    · rw [decDigits_step h, vI_app, ih (m / 10) (by omega)]
      have e := digit_nat (m % 10) (by omega)
      simp only [vI, List.foldl_cons, List.foldl_nil, e]; omega
/-- Where the digits begin. -/
def frm (u : List UInt8) : Nat := if u.head? = some 45 then 1 else 0
theorem frm_itoa {m : Int} {u : List UInt8} (h : u = itoa m) : ∃ M : Nat, u.drop (frm u) = decDigits M ∧ ((frm u = 0 ∧ m = M) ∨ (frm u = 1 ∧ m = -M ∧ m < 0)) := by
  rcases itoa_cases m with ⟨h0, e⟩ | ⟨h0, e⟩
  · obtain ⟨c, r, hc, c1, c2⟩ := dec_head m.toNat
    have hu : u = c :: r := by rw [h, e, hc]
    have hf : frm u = 0 := by
      unfold frm; rw [if_neg]; rw [hu]; simp only [List.head?_cons, Option.some.injEq]; intro k; subst k; simp at c1
    exact ⟨m.toNat, by rw [hf, List.drop_zero, h, e], .inl ⟨hf, by omega⟩⟩
  · have hf : frm u = 1 := by unfold frm; rw [if_pos]; rw [h, e]; rfl
    exact ⟨(-m).toNat, by rw [hf, h, e]; rfl, .inr ⟨hf, by omega, h0⟩⟩
/-- How far the reference's reckoning has come. -/
def Jn (u : List UInt8) (j : Nat) (n : Int) : Prop := -9223372036854775808 ≤ n ∧ n ≤ 0 ∧ ∀ m, Fits m → u = itoa m → n = -(vI ((u.drop (frm u)).take (j - frm u)) 0)
theorem Jn_start (u : List UInt8) : Jn u (frm u) 0 := ⟨by omega, by omega, fun m _ _ => by simp [vI]⟩
/-- No number of 64 bits is written so. -/
def NoInt (u : List UInt8) : Prop := ∀ m, Fits m → u ≠ itoa m
theorem Jn_step {u : List UInt8} {j : Nat} {n : Int} (h : Jn u j n) (hf : frm u ≤ j) (hj : j < u.length) :
    (((u[j].toNat : Int) - 48 < 0 ∨ 9 < (u[j].toNat : Int) - 48 ∨ n < -922337203685477580 ∨ (n = -922337203685477580 ∧ 8 < (u[j].toNat : Int) - 48)) → NoInt u) ∧
    (0 ≤ (u[j].toNat : Int) - 48 → (u[j].toNat : Int) - 48 ≤ 9 → -922337203685477580 ≤ n → (n = -922337203685477580 → (u[j].toNat : Int) - 48 ≤ 8) → Jn u (j + 1) (10 * n - ((u[j].toNat : Int) - 48))) := by
  obtain ⟨h1, h2, h3⟩ := h
  have hk : j - frm u < (u.drop (frm u)).length := by rw [List.length_drop]; omega
  have hg : (u.drop (frm u))[j - frm u] = u[j] := by rw [List.getElem_drop]; congr 1; omega
  have hs : vI ((u.drop (frm u)).take (j - frm u + 1)) 0 = 10 * vI ((u.drop (frm u)).take (j - frm u)) 0 + ((u[j].toNat : Int) - 48) := by
    rw [List.take_add_one, List.getElem?_eq_getElem hk, hg, vI_app]; rfl
  refine ⟨fun hb m hm e => ?_, fun d0 d1 d2 d3 => ⟨?_, by omega, fun m hm e => ?_⟩⟩
  · have hn := h3 m hm e
    obtain ⟨M, hM, hc⟩ := frm_itoa e
    have hd : 48 ≤ u[j].toNat ∧ u[j].toNat ≤ 57 := by
      have := decDigits_all M (u.drop (frm u))[j - frm u] (by rw [← hM]; exact List.getElem_mem hk)
      rwa [hg] at this
    have hv : vI ((u.drop (frm u)).take (j - frm u + 1)) 0 ≤ vI (u.drop (frm u)) 0 := by
      conv => rhs; rw [← List.take_append_drop (j - frm u + 1) (u.drop (frm u)), vI_app]
      refine vI_ge _ _ ?_ fun c hc => ?_
      · refine vI_ge _ 0 (Int.le_refl _) fun c hc => ?_
        exact (decDigits_all M c (by rw [← hM]; exact List.mem_of_mem_take hc)).1
      · exact (decDigits_all M c (by rw [← hM]; exact List.mem_of_mem_drop hc)).1
    rw [hM, vI_dec, ← hM, hs] at hv
    unfold Fits at hm
    omega
  · by_cases hn : n = -922337203685477580
    · have := d3 hn; omega
    · omega
  · have hn := h3 m hm e
    rw [show j + 1 - frm u = j - frm u + 1 by omega, hs]
    omega
/-- What the reference makes of the digits' number. -/
def fin (u : List UInt8) (n : Int) : Int := if frm u = 0 then -n else n
theorem Jn_end {u : List UInt8} {n : Int} (h : Jn u u.length n) : (frm u = 0 → n = -9223372036854775808 → NoInt u) ∧ ∀ m, Fits m → u = itoa m → m = fin u n := by
  obtain ⟨h1, h2, h3⟩ := h
  have key : ∀ m, Fits m → u = itoa m → m = fin u n := fun m hm e => by
    have hn := h3 m hm e
    obtain ⟨M, hM, hc⟩ := frm_itoa e
    rw [List.take_of_length_le (by rw [List.length_drop]; omega), hM, vI_dec] at hn
    unfold fin
    rcases hc with ⟨hf, hc⟩ | ⟨hf, hc, -⟩
    · rw [if_pos hf]; omega
    · rw [if_neg (by omega)]; omega
  refine ⟨fun hf hn m hm e => ?_, key⟩
  have := key m hm e
  unfold fin at this
  rw [if_pos hf] at this
  unfold Fits at hm
  omega
theorem numP_noint {u v : List UInt8} {d : UInt8} (h : ∀ c ∈ u, c ≠ d) (hn : NoInt u) : numP (u ++ d :: v) d = none := by
  rw [numP_at h]
  rcases ha : atoiAll u with n | _ | _
  · simp only
    rw [if_neg (fun e => hn n (atoi_i64 ha) e.symm)]
  · rfl
  · rfl
theorem numP_is {u v : List UInt8} {d : UInt8} {n : Int} (h : ∀ c ∈ u, c ≠ d) (hn : Fits n) (e : itoa n = u) : numP (u ++ d :: v) d = some (n, v) := by
  rw [numP_at h, ← e, atoi_itoa n hn]; simp
/-- A number is written in at most 20 bytes: where no end stands among the first 22, none is read. -/
theorem numP_far {s : List UInt8} {d : UInt8} (h : ∀ c ∈ s.take 22, c ≠ d) : numP s d = none := by
  rcases hp : numP s d with _ | ⟨n, r⟩
  · rfl
  · obtain ⟨e, hn⟩ := numP_some hp
    have hl := itoa_length_le n hn.1 hn.2
    refine absurd rfl (h d ?_)
    rw [e, List.take_append]
    refine List.mem_append_right _ ?_
    rw [show 22 - (itoa n).length = (21 - (itoa n).length) + 1 by omega]
    simp
end Go.Proofs.YtnkbelbalaeieaaDoor.Wr
