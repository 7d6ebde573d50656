/- The law RequestSets: encodings are one to one; two regions as pieces. -/
import Derived.Test.YtanmmooflhomoaaGreatDoorRqSan
import Derived.Test.YtanmmooflhomoaaGreatDoorRqPutR
import Derived.Test.YtanmmooflhomoaaGreatDoorRqLs
namespace Go.Proofs.YtanmmooflhomoaaGreatDoor
open Go Go.Proofs Go.RowKit Go.Sort Go.Lib
attribute [local go_sem] Req.cells

def dval (l : List UInt8) : Nat := l.foldl (fun a c => 10 * a + (c.toNat - 48)) 0
theorem dval_snoc (l : List UInt8) (c : UInt8) : dval (l ++ [c]) = 10 * dval l + (c.toNat - 48) := by simp [dval, List.foldl_append]
theorem u8_digit {d : Nat} (h : d < 10) : (UInt8.ofNat (48 + d)).toNat = 48 + d := by
  rw [UInt8.toNat_ofNat']; omega
theorem dval_dec (u : Nat) : dval (decDigits u) = u := by
  induction u using Nat.strongRecOn with
  | _ u ih =>
    by_cases h : u < 10
    · rw [decDigits, dif_pos h]; simp only [dval, List.foldl_cons, List.foldl_nil, u8_digit h]; omega
    · rw [decDigits, dif_neg h, dval_snoc, ih (u / 10) (by omega), u8_digit (by omega)]; omega
theorem dec_mem (u : Nat) : ∀ c ∈ decDigits u, 48 ≤ c.toNat ∧ c.toNat ≤ 57 := by
  induction u using Nat.strongRecOn with
  | _ u ih =>
    intro c hc
    by_cases h : u < 10
    · rw [decDigits, dif_pos h] at hc
      simp only [List.mem_singleton] at hc
      subst hc; rw [u8_digit h]; omega
    · rw [decDigits, dif_neg h] at hc
      rcases List.mem_append.1 hc with hc | hc
      · exact ih (u / 10) (by omega) c hc
      · simp only [List.mem_singleton] at hc
        subst hc; rw [u8_digit (by omega)]; omega
theorem itoa_mem_lt (n : Int) : ∀ c ∈ itoa n, c.toNat < 58 := by
  intro c hc
  unfold itoa at hc
  split at hc
  · rcases List.mem_cons.1 hc with rfl | hc
    · decide
    · have := dec_mem _ c hc; omega
  · have := dec_mem _ c hc; omega
theorem itoa_inj {m n : Int} (h : itoa m = itoa n) : m = n := by
  unfold itoa at h
  split at h <;> split at h
  · have := congrArg dval (List.cons.inj h).2
    rw [dval_dec, dval_dec] at this; omega
  · have hm : (45 : UInt8) ∈ decDigits n.toNat := by rw [← h]; simp
    exact absurd (dec_mem _ _ hm).1 (by decide)
  · have hm : (45 : UInt8) ∈ decDigits m.toNat := by rw [h]; simp
    exact absurd (dec_mem _ _ hm).1 (by decide)
  · have := congrArg dval h
    rw [dval_dec, dval_dec] at this; omega
/-- Two texts that each end at the first separator. -/
theorem sep_inj {c : UInt8} : ∀ {a b x y : List UInt8}, (∀ d ∈ a, d ≠ c) → (∀ d ∈ b, d ≠ c) → a ++ c :: x = b ++ c :: y → a = b ∧ x = y
  | [], [], x, y, _, _, h => ⟨rfl, (List.cons.inj h).2⟩
  | [], d :: b, x, y, _, hb, h => absurd (List.cons.inj h).1.symm (hb d (by simp))
  | d :: a, [], x, y, ha, _, h => absurd (List.cons.inj h).1 (ha d (by simp))
  | d :: a, d' :: b, x, y, ha, hb, h => by
    have h1 := List.cons.inj h
    have h2 := sep_inj (fun d hd => ha d (by simp [hd])) (fun d hd => hb d (by simp [hd])) h1.2
    exact ⟨by rw [h1.1, h2.1], h2.2⟩
theorem itoa_ne {n : Int} {c : UInt8} (hc : 58 ≤ c.toNat) : ∀ d ∈ itoa n, d ≠ c := fun d hd h => by
  have := itoa_mem_lt n d hd; rw [h] at this; omega
theorem wInt_inj {m n : Int} {x y : List UInt8} (h : wInt m ++ x = wInt n ++ y) : m = n ∧ x = y := by
  simp only [wInt, List.append_assoc, List.singleton_append] at h
  have := sep_inj (itoa_ne (by decide)) (itoa_ne (by decide)) h
  exact ⟨itoa_inj this.1, this.2⟩
theorem wText_inj {s t : ByteArray} {x y : List UInt8} (h : wText s ++ x = wText t ++ y) : s = t ∧ x = y := by
  simp only [wText, List.append_assoc, List.cons_append] at h
  have h1 := sep_inj (itoa_ne (by decide)) (itoa_ne (by decide)) h
  have h2 : s.data.toList.length = t.data.toList.length := by
    have := itoa_inj h1.1; rw [← ba_size, ← ba_size]; omega
  have h3 := List.append_inj h1.2 h2
  exact ⟨ba_ext h3.1, h3.2⟩
theorem wInts_inj : ∀ {l l' : List Int} {x y : List UInt8}, l.length = l'.length → wInts l ++ x = wInts l' ++ y → l = l' ∧ x = y
  | [], [], x, y, _, h => ⟨rfl, h⟩
  | [], _ :: _, _, _, hl, _ => by simp at hl
  | _ :: _, [], _, _, hl, _ => by simp at hl
  | a :: l, b :: l', x, y, hl, h => by
    simp only [wInts, List.flatMap_cons, List.append_assoc] at h
    have h1 := wInt_inj h
    have h2 := wInts_inj (l := l) (l' := l') (by simpa using hl) h1.2
    exact ⟨by rw [h1.1, h2.1], h2.2⟩

theorem truthN_inj {a b : Bool} (h : truthN a = truthN b) : a = b := by cases a <;> cases b <;> simp [truthN] at h ⊢
theorem encR1_inj {r r' : Req} {x y : List UInt8} (h : encR1 r ++ x = encR1 r' ++ y) : r = r' ∧ x = y := by
  simp only [encR1, List.append_assoc] at h
  obtain ⟨h1, h⟩ := wInts_inj (by rfl) h
  obtain ⟨h2, h⟩ := wText_inj h
  obtain ⟨h3, h⟩ := wText_inj h
  obtain ⟨h4, h⟩ := wInts_inj (by rfl) h
  simp only [Req.ints1, Req.ints2, List.cons.injEq, and_true] at h1 h4
  obtain ⟨a0, a1, a2, a3, a4⟩ := h1
  obtain ⟨a5, a6⟩ := h4
  refine ⟨?_, h⟩
  cases r; cases r'
  simp_all
  exact truthN_inj a2
theorem encRs_inj : ∀ {L L' : List Req} {x y : List UInt8}, L.length = L'.length → L.flatMap encR1 ++ x = L'.flatMap encR1 ++ y → L = L' ∧ x = y
  | [], [], _, _, _, h => ⟨rfl, h⟩
  | [], _ :: _, _, _, hl, _ => by simp at hl
  | _ :: _, [], _, _, hl, _ => by simp at hl
  | a :: L, b :: L', x, y, hl, h => by
    simp only [List.flatMap_cons, List.append_assoc] at h
    obtain ⟨rfl, h2⟩ := encR1_inj h
    obtain ⟨rfl, h3⟩ := encRs_inj (by simpa using hl) h2
    exact ⟨rfl, h3⟩
theorem encL_inj {L L' : List Req} (h : encL L = encL L') : L = L' := by
  unfold encL at h
  obtain ⟨h1, h2⟩ := wInt_inj h
  refine (encRs_inj (x := []) (y := []) (by omega) (by simpa using h2)).1





























































































































theorem sets_r7_form {w : World} {va : Value} {A : List Req} (h : ReqsIn w va A) : (va = .slice none 0 0 ∧ A = []) ∨ ∃ b o c, va = .slice (some ⟨b, o, none⟩) A.length c ∧ A.length ≤ c := by
  rcases h with h | ⟨b, o, c, h1, h2, _⟩
  · exact .inl h
  · exact .inr ⟨b, o, c, h1, h2⟩


















theorem row_at_o {w : World} {g o cap k : Nat} {L : List Req} {x : Req} (h : ReqsIn w (.slice (some ⟨g, o, none⟩) L.length cap) L) (hx : L[k]? = some x) : ReqAt w g (o + k * 9) x := by
  obtain ⟨b, o', c, hv, _, _, hat⟩ := h.at_ (by have := (List.getElem?_eq_some_iff.1 hx).1; omega)
  have e1 := (Value.slice.inj hv).1
  simp only [Option.some.injEq, Addr.mk.injEq, and_true] at e1
  obtain ⟨rfl, rfl⟩ := e1
  exact hat k x hx
theorem st_keep {W w w' : World} {v : Value} {L : List Req} (h : RowKit.Below W.heap.size W w ∧ ReqsIn w v L) (hb : RowKit.Below w.heap.size w w') : RowKit.Below W.heap.size W w' ∧ ReqsIn w' v L := ⟨below_next h.1 hb, h.2.below hb⟩






























































end Go.Proofs.YtanmmooflhomoaaGreatDoor
