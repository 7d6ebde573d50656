/- The plain laws of wire: what is written is read again, and what is read was written. -/
import Derived.Test.YtnkbelbalaeieaaDoorVTxt
namespace Go.Proofs.YtnkbelbalaeieaaDoor.Wr
open Go Go.Lib

/-- A byte that stands in no decimal. -/
def Off (c : UInt8) : Prop := c ≠ 45 ∧ ¬ (48 ≤ c.toNat ∧ c.toNat ≤ 57)
/-- A whole number of 64 bits. -/
def Fits (n : Int) : Prop := -9223372036854775808 ≤ n ∧ n ≤ 9223372036854775807
theorem off58 : Off 58 := by unfold Off; decide
theorem off59 : Off 59 := by unfold Off; decide
theorem itoa_off (n : Int) {c : UInt8} (h : Off c) : ∀ x ∈ itoa n, x ≠ c := by
  intro x hx e
  subst e
  rcases itoa_cases n with ⟨_, e⟩ | ⟨_, e⟩ <;> rw [e] at hx
  · exact h.2 (decDigits_all _ _ hx)
  · rcases List.mem_cons.1 hx with k | k
    · exact h.1 k
    · exact h.2 (decDigits_all _ _ k)
theorem idx_none (d : UInt8) : ∀ (l : List UInt8), (∀ c ∈ l, c ≠ d) → index l [d] = -1
  | [], _ => rfl
  | b :: l, h => by
    have hb : b ≠ d := h b (by simp)
    have := idx_none d l (fun c hc => h c (by simp [hc]))
    simp only [index, this]
    rw [if_neg (by simp [List.isPrefixOf]; exact fun e => hb e.symm)]
    rfl
theorem idx_at (d : UInt8) : ∀ (l r : List UInt8), (∀ c ∈ l, c ≠ d) → index (l ++ d :: r) [d] = l.length
  | [], r, _ => by simp [index, List.isPrefixOf]
  | b :: l, r, h => by
    have hb : b ≠ d := h b (by simp)
    have := idx_at d l r (fun c hc => h c (by simp [hc]))
    simp only [List.cons_append, index, this]
    rw [if_neg (by simp [List.isPrefixOf]; exact fun e => hb e.symm), if_neg (by simp)]
    simp
theorem cut_none {d : UInt8} {l : List UInt8} (h : ∀ c ∈ l, c ≠ d) : Lib.cut l [d] = (l, [], false) := by
  unfold Lib.cut; rw [idx_none d l h]; rfl
theorem cut_at {d : UInt8} {l r : List UInt8} (h : ∀ c ∈ l, c ≠ d) : Lib.cut (l ++ d :: r) [d] = (l, r, true) := by
  unfold Lib.cut; rw [idx_at d l r h, if_pos (by omega)]; simp
/-- A text has a byte nowhere, or a first place of it. -/
theorem split_at (d : UInt8) (s : List UInt8) : (∀ c ∈ s, c ≠ d) ∨ ∃ u v, s = u ++ d :: v ∧ ∀ c ∈ u, c ≠ d := by
  by_cases h : d ∈ s
  · obtain ⟨u, v, e, hu⟩ := List.eq_append_cons_of_mem h
    exact .inr ⟨u, v, e, fun c hc e => hu (e ▸ hc)⟩
  · exact .inl fun c hc e => h (e ▸ hc)
theorem numP_none {s : List UInt8} {d : UInt8} (h : ∀ c ∈ s, c ≠ d) : numP s d = none := by unfold numP; rw [cut_none h]; rfl
theorem numP_at {u v : List UInt8} {d : UInt8} (h : ∀ c ∈ u, c ≠ d) : numP (u ++ d :: v) d = match atoiAll u with | .ok n => if itoa n = u then some (n, v) else none | _ => none := by unfold numP; rw [cut_at h]; rfl
theorem numP_itoa {n : Int} (hn : Fits n) {d : UInt8} (hd : Off d) (r : List UInt8) : numP (itoa n ++ d :: r) d = some (n, r) := by
  rw [numP_at (itoa_off n hd), atoi_itoa n hn]; simp
theorem numP_some {s : List UInt8} {d : UInt8} {n : Int} {r : List UInt8} (h : numP s d = some (n, r)) : s = itoa n ++ d :: r ∧ Fits n := by
  rcases split_at d s with hs | ⟨u, v, rfl, hu⟩
  · rw [numP_none hs] at h; cases h
  · rw [numP_at hu] at h
    rcases ha : atoiAll u with m | _ | _
    · rw [ha] at h
      simp only at h
      split at h
      · rename_i e
        injection h with h
        injection h with h1 h2
        subst h1 h2
        exact ⟨by rw [e], atoi_i64 ha⟩
      · cases h
    · rw [ha] at h; cases h
    · rw [ha] at h; cases h
/-- The text that a text begins with, as a string. -/
def txtP (s : List UInt8) : Option (ByteArray × List UInt8) := (textP s).map fun z => (⟨z.1.toArray⟩, z.2)
theorem txtP_text {t : ByteArray} (ht : t.size ≤ 100000000) (r : List UInt8) : txtP (wText t ++ r) = some (t, r) := by
  have hz := ba_size t
  have e : wText t ++ r = itoa t.size ++ 58 :: (t.data.toList ++ r) := by simp [wText]
  unfold txtP textP
  rw [e, numP_itoa (by unfold Fits; omega) off58]
  simp only
  rw [if_neg (by simp only [List.length_append]; omega)]
  simp only [Option.map_some, Option.some.injEq, Prod.mk.injEq]
  have h1 : ((t.size : Int).toNat) = t.data.toList.length := by omega
  rw [h1]
  exact ⟨ba_ext (by simp), by simp⟩
theorem txtP_some {s : List UInt8} {t : ByteArray} {r : List UInt8} (h : txtP s = some (t, r)) : s = wText t ++ r ∧ t.size ≤ s.length := by
  unfold txtP textP at h
  rcases hn : numP s 58 with _ | ⟨n, q⟩
  · rw [hn] at h; cases h
  · rw [hn] at h
    simp only at h
    split at h
    · cases h
    · rename_i hc
      simp only [Option.map_some, Option.some.injEq, Prod.mk.injEq] at h
      obtain ⟨h1, h2⟩ := h
      subst h1 h2
      obtain ⟨e, -⟩ := numP_some hn
      have hz : (⟨(q.take n.toNat).toArray⟩ : ByteArray).size = n.toNat := by simp [ByteArray.size]; omega
      refine ⟨?_, ?_⟩
      · unfold wText
        rw [hz, show ((n.toNat : Nat) : Int) = n by omega]
        simpa using e
      · rw [hz, e]; simp only [List.length_append, List.length_cons]; omega
/-- The values that a text begins with, up to the closing byte. -/
def elemsF {α : Type} (f : List UInt8 → Option (α × List UInt8)) : Nat → List UInt8 → Option (List α × List UInt8)
  | 0, _ => none
  | _ + 1, [] => none
  | n + 1, c :: r => if c = 93 then some ([], r) else match f (c :: r) with
    | none => none
    | some (x, q) => match elemsF f n q with
      | none => none
      | some (l, z) => some (x :: l, z)
/-- The list that a text begins with. -/
def listP {α : Type} (f : List UInt8 → Option (α × List UInt8)) : List UInt8 → Option (List α × List UInt8)
  | [] => none
  | c :: r => if c = 91 then elemsF f (r.length + 1) r else none
theorem elemsF_nil {α : Type} (f : List UInt8 → Option (α × List UInt8)) (n : Nat) : elemsF f n [] = none := by cases n <;> rfl
theorem elemsF_write {α : Type} (f : List UInt8 → Option (α × List UInt8)) (enc : α → List UInt8) (G : α → Prop) (hf : ∀ x, G x → ∀ r, f (enc x ++ r) = some (x, r)) (he : ∀ x, ∃ c q, enc x = c :: q ∧ c ≠ 93) :
    ∀ (l : List α) (r : List UInt8) (n : Nat), (∀ x ∈ l, G x) → (l.flatMap enc ++ 93 :: r).length < n → elemsF f n (l.flatMap enc ++ 93 :: r) = some (l, r)
  | [], r, n, _, hn => by
    cases n with
    | zero => omega
    | succ n => simp [elemsF]
  | x :: l, r, n, hg, hn => by
    cases n with
    | zero => omega
    | succ n =>
      obtain ⟨c, q, hc, hne⟩ := he x
      have h1 := hf x (hg x (by simp)) (l.flatMap enc ++ 93 :: r)
      have h2 := elemsF_write f enc G hf he l r n (fun y hy => hg y (by simp [hy])) (by
        simp only [List.flatMap_cons, List.append_assoc, List.length_append, hc, List.length_cons] at hn ⊢; omega)
      rw [List.flatMap_cons, List.append_assoc]
      rw [hc, List.cons_append] at h1 ⊢
      simp only [elemsF, if_neg hne, h1, h2]
theorem elemsF_some {α : Type} (f : List UInt8 → Option (α × List UInt8)) (enc : α → List UInt8) (hf : ∀ s x r, f s = some (x, r) → s = enc x ++ r) :
    ∀ (n : Nat) (s : List UInt8) (l : List α) (r : List UInt8), elemsF f n s = some (l, r) → s = l.flatMap enc ++ 93 :: r
  | 0, _, _, _, h => by cases h
  | _ + 1, [], _, _, h => by cases h
  | n + 1, c :: q, l, r, h => by
    simp only [elemsF] at h
    split at h
    · rename_i hc
      injection h with h
      injection h with h1 h2
      subst h1 h2 hc
      simp
    · rcases hx : f (c :: q) with _ | ⟨x, z⟩
      · rw [hx] at h; cases h
      · rw [hx] at h
        simp only at h
        rcases hl : elemsF f n z with _ | ⟨m, y⟩
        · rw [hl] at h; cases h
        · rw [hl] at h
          simp only at h
          injection h with h
          injection h with h1 h2
          subst h1 h2
          rw [hf _ _ _ hx, elemsF_some f enc hf n z m y hl]
          simp
theorem elemsF_good {α : Type} (f : List UInt8 → Option (α × List UInt8)) (G : α → Prop) (hf : ∀ s x r, f s = some (x, r) → G x) :
    ∀ (n : Nat) (s : List UInt8) (l : List α) (r : List UInt8), elemsF f n s = some (l, r) → ∀ x ∈ l, G x
  | 0, _, _, _, h => by cases h
  | _ + 1, [], _, _, h => by cases h
  | n + 1, c :: q, l, r, h => by
    simp only [elemsF] at h
    split at h
    · injection h with h
      injection h with h1 h2
      subst h1
      simp
    · rcases hx : f (c :: q) with _ | ⟨x, z⟩
      · rw [hx] at h; cases h
      · rw [hx] at h
        simp only at h
        rcases hl : elemsF f n z with _ | ⟨m, y⟩
        · rw [hl] at h; cases h
        · rw [hl] at h
          simp only at h
          injection h with h
          injection h with h1 h2
          subst h1
          intro y hy
          rcases List.mem_cons.1 hy with k | k
          · subst k; exact hf _ _ _ hx
          · exact elemsF_good f G hf n z m _ hl y k
/-- The four ways of decoding. -/
def intP (s : List UInt8) : Option (Int × List UInt8) := numP s 59
def intsP (s : List UInt8) : Option (List Int × List UInt8) := listP intP s
def txtsP (s : List UInt8) : Option (List ByteArray × List UInt8) := listP txtP s
theorem intP_int {n : Int} (hn : Fits n) (r : List UInt8) : intP (wInt n ++ r) = some (n, r) := by
  unfold intP wInt; rw [List.append_assoc, List.singleton_append]; exact numP_itoa hn off59 r
theorem intP_some {s : List UInt8} {n : Int} {r : List UInt8} (h : intP s = some (n, r)) : s = wInt n ++ r ∧ Fits n := by
  obtain ⟨e, hn⟩ := numP_some h
  exact ⟨by unfold wInt; rw [List.append_assoc, List.singleton_append]; exact e, hn⟩
theorem itoa_head (n : Int) : ∃ c q, itoa n = c :: q ∧ c ≠ 93 := by
  rcases itoa_cases n with ⟨_, e⟩ | ⟨_, e⟩
  · obtain ⟨c, q, h, h1, h2⟩ := dec_head n.toNat
    exact ⟨c, q, e.trans h, fun k => by subst k; simp at h2⟩
  · exact ⟨45, _, e, by decide⟩
theorem wInt_head (n : Int) : ∃ c q, wInt n = c :: q ∧ c ≠ 93 := by
  obtain ⟨c, q, h, k⟩ := itoa_head n
  exact ⟨c, q ++ [59], by unfold wInt; rw [h]; rfl, k⟩
theorem wText_head (t : ByteArray) : ∃ c q, wText t = c :: q ∧ c ≠ 93 := by
  obtain ⟨c, q, h, k⟩ := itoa_head t.size
  exact ⟨c, _, by unfold wText; rw [h]; rfl, k⟩
theorem listP_write {α : Type} (f : List UInt8 → Option (α × List UInt8)) (enc : α → List UInt8) (G : α → Prop) (hf : ∀ x, G x → ∀ r, f (enc x ++ r) = some (x, r)) (he : ∀ x, ∃ c q, enc x = c :: q ∧ c ≠ 93) (l : List α) (hl : ∀ x ∈ l, G x) (r : List UInt8) :
    listP f ((91 :: (l.flatMap enc ++ [93])) ++ r) = some (l, r) := by
  have e : (91 :: (l.flatMap enc ++ [93])) ++ r = 91 :: (l.flatMap enc ++ 93 :: r) := by simp
  rw [e]
  simp only [listP, if_true]
  exact elemsF_write f enc G hf he l r _ hl (Nat.lt_succ_self _)
theorem listP_some {α : Type} {f : List UInt8 → Option (α × List UInt8)} {enc : α → List UInt8} (hf : ∀ s x r, f s = some (x, r) → s = enc x ++ r) {s : List UInt8} {l : List α} {r : List UInt8} (h : listP f s = some (l, r)) : s = (91 :: (l.flatMap enc ++ [93])) ++ r := by
  cases s with
  | nil => cases h
  | cons c q =>
    simp only [listP] at h
    split at h
    · rename_i hc
      have := elemsF_some f enc hf _ _ _ _ h
      rw [hc, this]; simp
    · cases h
theorem intsP_ints {l : List Int} (hl : ∀ x ∈ l, Fits x) (r : List UInt8) : intsP (wInts l ++ r) = some (l, r) :=
  listP_write intP wInt Fits (fun _ h r => intP_int h r) wInt_head l hl r
theorem intsP_some {s : List UInt8} {l : List Int} {r : List UInt8} (h : intsP s = some (l, r)) : s = wInts l ++ r :=
  listP_some (enc := wInt) (fun _ _ _ h => (intP_some h).1) h
theorem txtsP_txts {l : List ByteArray} (hl : ∀ x ∈ l, x.size ≤ 100000000) (r : List UInt8) : txtsP (wTexts l ++ r) = some (l, r) :=
  listP_write txtP wText (fun t => t.size ≤ 100000000) (fun _ h r => txtP_text h r) wText_head l hl r
theorem txtsP_some {s : List UInt8} {l : List ByteArray} {r : List UInt8} (h : txtsP s = some (l, r)) : s = wTexts l ++ r :=
  listP_some (enc := wText) (fun _ _ _ h => (txtP_some h).1) h
end Go.Proofs.YtnkbelbalaeieaaDoor.Wr
