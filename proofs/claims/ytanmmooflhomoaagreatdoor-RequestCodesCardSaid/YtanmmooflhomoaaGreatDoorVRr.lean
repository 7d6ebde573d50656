/- The reference's New, Int, Text, byte of a reader, over all readers. -/
import Derived.Test.YtanmmooflhomoaaGreatDoorVTxt
import Derived.Deep.DeepCutAuto
import Derived.Deep.CutBlock
/- The plain laws of wire: what is written is read again, and what is read was written. -/
namespace Go.Proofs.YtanmmooflhomoaaGreatDoor.Wr
open Go Go.Lib

/-- A byte that stands in no decimal. -/
def Off (c : UInt8) : Prop := c ≠ 45 ∧ ¬ (48 ≤ c.toNat ∧ c.toNat ≤ 57)
/-- A whole number of 64 bits. -/
def Fits (n : Int) : Prop := -9223372036854775808 ≤ n ∧ n ≤ 9223372036854775807
theorem off58 : Off 58 := by unfold Off; decide
theorem off59 : Off 59 := by unfold Off; decide
theorem itoa_off (n : Int) {c : UInt8} (h : Off c) : ∀ x ∈ itoa n, x ≠ c := by
  intro x hx e
  subst e
  rcases itoa_cases n with ⟨_, e⟩ | ⟨_, e⟩ <;> rw [e] at hx
  · exact h.2 (decDigits_all _ _ hx)
  · rcases List.mem_cons.1 hx with k | k
    · exact h.1 k
    · exact h.2 (decDigits_all _ _ k)
theorem idx_none (d : UInt8) : ∀ (l : List UInt8), (∀ c ∈ l, c ≠ d) → index l [d] = -1
  | [], _ => rfl
  | b :: l, h => by
    have hb : b ≠ d := h b (by simp)
    have := idx_none d l (fun c hc => h c (by simp [hc]))
    simp only [index, this]
    rw [if_neg (by simp [List.isPrefixOf]; exact fun e => hb e.symm)]
    rfl
theorem idx_at (d : UInt8) : ∀ (l r : List UInt8), (∀ c ∈ l, c ≠ d) → index (l ++ d :: r) [d] = l.length
  | [], r, _ => by simp [index, List.isPrefixOf]
  | b :: l, r, h => by
    have hb : b ≠ d := h b (by simp)
    have := idx_at d l r (fun c hc => h c (by simp [hc]))
    simp only [List.cons_append, index, this]
    rw [if_neg (by simp [List.isPrefixOf]; exact fun e => hb e.symm), if_neg (by simp)]
    simp
theorem cut_none {d : UInt8} {l : List UInt8} (h : ∀ c ∈ l, c ≠ d) : Lib.cut l [d] = (l, [], false) := by
  unfold Lib.cut; rw [idx_none d l h]; rfl
theorem cut_at {d : UInt8} {l r : List UInt8} (h : ∀ c ∈ l, c ≠ d) : Lib.cut (l ++ d :: r) [d] = (l, r, true) := by
  unfold Lib.cut; rw [idx_at d l r h, if_pos (by omega)]; simp
/-- A text has a byte nowhere, or a first place of it. -/
theorem split_at (d : UInt8) (s : List UInt8) : (∀ c ∈ s, c ≠ d) ∨ ∃ u v, s = u ++ d :: v ∧ ∀ c ∈ u, c ≠ d := by
  by_cases h : d ∈ s
  · obtain ⟨u, v, e, hu⟩ := List.eq_append_cons_of_mem h
    exact .inr ⟨u, v, e, fun c hc e => hu (e ▸ hc)⟩
  · exact .inl fun c hc e => h (e ▸ hc)
theorem numP_none {s : List UInt8} {d : UInt8} (h : ∀ c ∈ s, c ≠ d) : numP s d = none := by unfold numP; rw [cut_none h]; rfl
theorem numP_at {u v : List UInt8} {d : UInt8} (h : ∀ c ∈ u, c ≠ d) : numP (u ++ d :: v) d = match atoiAll u with | .ok n => if itoa n = u then some (n, v) else none | _ => none := by unfold numP; rw [cut_at h]; rfl
theorem numP_itoa {n : Int} (hn : Fits n) {d : UInt8} (hd : Off d) (r : List UInt8) : numP (itoa n ++ d :: r) d = some (n, r) := by
  rw [numP_at (itoa_off n hd), atoi_itoa n hn]; simp
theorem numP_some {s : List UInt8} {d : UInt8} {n : Int} {r : List UInt8} (h : numP s d = some (n, r)) : s = itoa n ++ d :: r ∧ Fits n := by
  rcases split_at d s with hs | ⟨u, v, rfl, hu⟩
  · rw [numP_none hs] at h; cases h
  · rw [numP_at hu] at h
    rcases ha : atoiAll u with m | _ | _
    · rw [ha] at h
      simp only at h
      split at h
      · rename_i e
        injection h with h
        injection h with h1 h2
        subst h1 h2
        exact ⟨by rw [e], atoi_i64 ha⟩
      · cases h
    · rw [ha] at h; cases h
    · rw [ha] at h; cases h
/-- The text that a text begins with, as a string. -/
def txtP (s : List UInt8) : Option (ByteArray × List UInt8) := (textP s).map fun z => (⟨z.1.toArray⟩, z.2)
theorem txtP_text {t : ByteArray} (ht : t.size ≤ 100000000) (r : List UInt8) : txtP (wText t ++ r) = some (t, r) := by
  have hz := ba_size t
  have e : wText t ++ r = itoa t.size ++ 58 :: (t.data.toList ++ r) := by simp [wText]
  unfold txtP textP
  rw [e, numP_itoa (by unfold Fits; omega) off58]
  simp only
  rw [if_neg (by simp only [List.length_append]; omega)]
  simp only [Option.map_some, Option.some.injEq, Prod.mk.injEq]
  have h1 : ((t.size : Int).toNat) = t.data.toList.length := by omega
  rw [h1]
  exact ⟨ba_ext (by simp), by simp⟩
theorem txtP_some {s : List UInt8} {t : ByteArray} {r : List UInt8} (h : txtP s = some (t, r)) : s = wText t ++ r ∧ t.size ≤ s.length := by
  unfold txtP textP at h
  rcases hn : numP s 58 with _ | ⟨n, q⟩
  · rw [hn] at h; cases h
  · rw [hn] at h
    simp only at h
    split at h
    · cases h
    · rename_i hc
      simp only [Option.map_some, Option.some.injEq, Prod.mk.injEq] at h
      obtain ⟨h1, h2⟩ := h
      subst h1 h2
      obtain ⟨e, -⟩ := numP_some hn
      have hz : (⟨(q.take n.toNat).toArray⟩ : ByteArray).size = n.toNat := by simp [ByteArray.size]; omega
      refine ⟨?_, ?_⟩
      · unfold wText
        rw [hz, show ((n.toNat : Nat) : Int) = n by omega]
        simpa using e
      · rw [hz, e]; simp only [List.length_append, List.length_cons]; omega
/-- The values that a text begins with, up to the closing byte. -/
def elemsF {α : Type} (f : List UInt8 → Option (α × List UInt8)) : Nat → List UInt8 → Option (List α × List UInt8)
  | 0, _ => none
  | _ + 1, [] => none
  | n + 1, c :: r => if c = 93 then some ([], r) else match f (c :: r) with
    | none => none
    | some (x, q) => match elemsF f n q with
      | none => none
      | some (l, z) => some (x :: l, z)
/-- The list that a text begins with. -/
def listP {α : Type} (f : List UInt8 → Option (α × List UInt8)) : List UInt8 → Option (List α × List UInt8)
  | [] => none
  | c :: r => if c = 91 then elemsF f (r.length + 1) r else none
theorem elemsF_nil {α : Type} (f : List UInt8 → Option (α × List UInt8)) (n : Nat) : elemsF f n [] = none := by cases n <;> rfl
theorem elemsF_write {α : Type} (f : List UInt8 → Option (α × List UInt8)) (enc : α → List UInt8) (G : α → Prop) (hf : ∀ x, G x → ∀ r, f (enc x ++ r) = some (x, r)) (he : ∀ x, ∃ c q, enc x = c :: q ∧ c ≠ 93) :
    ∀ (l : List α) (r : List UInt8) (n : Nat), (∀ x ∈ l, G x) → (l.flatMap enc ++ 93 :: r).length < n → elemsF f n (l.flatMap enc ++ 93 :: r) = some (l, r)
  | [], r, n, _, hn => by
    cases n with
    | zero => omega
    | succ n => simp [elemsF]
  | x :: l, r, n, hg, hn => by
    cases n with
    | zero => omega
    | succ n =>
      obtain ⟨c, q, hc, hne⟩ := he x
      have h1 := hf x (hg x (by simp)) (l.flatMap enc ++ 93 :: r)
      have h2 := elemsF_write f enc G hf he l r n (fun y hy => hg y (by simp [hy])) (by
        simp only [List.flatMap_cons, List.append_assoc, List.length_append, hc, List.length_cons] at hn ⊢; omega)
      rw [List.flatMap_cons, List.append_assoc]
      rw [hc, List.cons_append] at h1 ⊢
      simp only [elemsF, if_neg hne, h1, h2]
theorem elemsF_some {α : Type} (f : List UInt8 → Option (α × List UInt8)) (enc : α → List UInt8) (hf : ∀ s x r, f s = some (x, r) → s = enc x ++ r) :
    ∀ (n : Nat) (s : List UInt8) (l : List α) (r : List UInt8), elemsF f n s = some (l, r) → s = l.flatMap enc ++ 93 :: r
  | 0, _, _, _, h => by cases h
  | _ + 1, [], _, _, h => by cases h
  | n + 1, c :: q, l, r, h => by
    simp only [elemsF] at h
    split at h
    · rename_i hc
      injection h with h
      injection h with h1 h2
      subst h1 h2 hc
      simp
    · rcases hx : f (c :: q) with _ | ⟨x, z⟩
      · rw [hx] at h; cases h
      · rw [hx] at h
        simp only at h
        rcases hl : elemsF f n z with _ | ⟨m, y⟩
        · rw [hl] at h; cases h
        · rw [hl] at h
          simp only at h
          injection h with h
          injection h with h1 h2
          subst h1 h2
          rw [hf _ _ _ hx, elemsF_some f enc hf n z m y hl]
          simp
theorem elemsF_good {α : Type} (f : List UInt8 → Option (α × List UInt8)) (G : α → Prop) (hf : ∀ s x r, f s = some (x, r) → G x) :
    ∀ (n : Nat) (s : List UInt8) (l : List α) (r : List UInt8), elemsF f n s = some (l, r) → ∀ x ∈ l, G x
  | 0, _, _, _, h => by cases h
  | _ + 1, [], _, _, h => by cases h
  | n + 1, c :: q, l, r, h => by
    simp only [elemsF] at h
    split at h
    · injection h with h
      injection h with h1 h2
      subst h1
      simp
    · rcases hx : f (c :: q) with _ | ⟨x, z⟩
      · rw [hx] at h; cases h
      · rw [hx] at h
        simp only at h
        rcases hl : elemsF f n z with _ | ⟨m, y⟩
        · rw [hl] at h; cases h
        · rw [hl] at h
          simp only at h
          injection h with h
          injection h with h1 h2
          subst h1
          intro y hy
          rcases List.mem_cons.1 hy with k | k
          · subst k; exact hf _ _ _ hx
          · exact elemsF_good f G hf n z m _ hl y k
/-- The four ways of decoding. -/
def intP (s : List UInt8) : Option (Int × List UInt8) := numP s 59
def intsP (s : List UInt8) : Option (List Int × List UInt8) := listP intP s
def txtsP (s : List UInt8) : Option (List ByteArray × List UInt8) := listP txtP s
theorem intP_int {n : Int} (hn : Fits n) (r : List UInt8) : intP (wInt n ++ r) = some (n, r) := by
  unfold intP wInt; rw [List.append_assoc, List.singleton_append]; exact numP_itoa hn off59 r
theorem intP_some {s : List UInt8} {n : Int} {r : List UInt8} (h : intP s = some (n, r)) : s = wInt n ++ r ∧ Fits n := by
  obtain ⟨e, hn⟩ := numP_some h
  exact ⟨by unfold wInt; rw [List.append_assoc, List.singleton_append]; exact e, hn⟩
theorem itoa_head (n : Int) : ∃ c q, itoa n = c :: q ∧ c ≠ 93 := by
  rcases itoa_cases n with ⟨_, e⟩ | ⟨_, e⟩
  · obtain ⟨c, q, h, h1, h2⟩ := dec_head n.toNat
    exact ⟨c, q, e.trans h, fun k => by subst k; simp at h2⟩
  · exact ⟨45, _, e, by decide⟩
theorem wInt_head (n : Int) : ∃ c q, wInt n = c :: q ∧ c ≠ 93 := by
  obtain ⟨c, q, h, k⟩ := itoa_head n
  exact ⟨c, q ++ [59], by unfold wInt; rw [h]; rfl, k⟩
theorem wText_head (t : ByteArray) : ∃ c q, wText t = c :: q ∧ c ≠ 93 := by
  obtain ⟨c, q, h, k⟩ := itoa_head t.size
  exact ⟨c, _, by unfold wText; rw [h]; rfl, k⟩
theorem listP_write {α : Type} (f : List UInt8 → Option (α × List UInt8)) (enc : α → List UInt8) (G : α → Prop) (hf : ∀ x, G x → ∀ r, f (enc x ++ r) = some (x, r)) (he : ∀ x, ∃ c q, enc x = c :: q ∧ c ≠ 93) (l : List α) (hl : ∀ x ∈ l, G x) (r : List UInt8) :
    listP f ((91 :: (l.flatMap enc ++ [93])) ++ r) = some (l, r) := by
  have e : (91 :: (l.flatMap enc ++ [93])) ++ r = 91 :: (l.flatMap enc ++ 93 :: r) := by simp
  rw [e]
  simp only [listP, if_true]
  exact elemsF_write f enc G hf he l r _ hl (Nat.lt_succ_self _)
theorem listP_some {α : Type} {f : List UInt8 → Option (α × List UInt8)} {enc : α → List UInt8} (hf : ∀ s x r, f s = some (x, r) → s = enc x ++ r) {s : List UInt8} {l : List α} {r : List UInt8} (h : listP f s = some (l, r)) : s = (91 :: (l.flatMap enc ++ [93])) ++ r := by
  cases s with
  | nil => cases h
  | cons c q =>
    simp only [listP] at h
    split at h
    · rename_i hc
      have := elemsF_some f enc hf _ _ _ _ h
      rw [hc, this]; simp
    · cases h
theorem intsP_ints {l : List Int} (hl : ∀ x ∈ l, Fits x) (r : List UInt8) : intsP (wInts l ++ r) = some (l, r) :=
  listP_write intP wInt Fits (fun _ h r => intP_int h r) wInt_head l hl r
theorem intsP_some {s : List UInt8} {l : List Int} {r : List UInt8} (h : intsP s = some (l, r)) : s = wInts l ++ r :=
  listP_some (enc := wInt) (fun _ _ _ h => (intP_some h).1) h
theorem txtsP_txts {l : List ByteArray} (hl : ∀ x ∈ l, x.size ≤ 100000000) (r : List UInt8) : txtsP (wTexts l ++ r) = some (l, r) :=
  listP_write txtP wText (fun t => t.size ≤ 100000000) (fun _ h r => txtP_text h r) wText_head l hl r
theorem txtsP_some {s : List UInt8} {l : List ByteArray} {r : List UInt8} (h : txtsP s = some (l, r)) : s = wTexts l ++ r :=
  listP_some (enc := wText) (fun _ _ _ h => (txtP_some h).1) h
end Go.Proofs.YtanmmooflhomoaaGreatDoor.Wr
/- More plain laws of wire: how long what is read is, and of what. -/
namespace Go.Proofs.YtanmmooflhomoaaGreatDoor.Wr
open Go Go.Lib

theorem elemsF_len {α : Type} (f : List UInt8 → Option (α × List UInt8)) : ∀ (n : Nat) (s : List UInt8) (l : List α) (r : List UInt8), elemsF f n s = some (l, r) → l.length ≤ n
  | 0, _, _, _, h => by cases h
  | _ + 1, [], _, _, h => by cases h
  | n + 1, c :: q, l, r, h => by
    simp only [elemsF] at h
    split at h
    · injection h with h
      injection h with h1 h2
      subst h1
      simp
    · rcases hx : f (c :: q) with _ | ⟨x, z⟩
      · rw [hx] at h; cases h
      · rw [hx] at h
        simp only at h
        rcases hl : elemsF f n z with _ | ⟨m, y⟩
        · rw [hl] at h; cases h
        · rw [hl] at h
          simp only at h
          injection h with h
          injection h with h1 h2
          subst h1
          have := elemsF_len f n z m y hl
          simp; omega
theorem listP_len {α : Type} {f : List UInt8 → Option (α × List UInt8)} {s : List UInt8} {l : List α} {r : List UInt8} (h : listP f s = some (l, r)) : l.length ≤ s.length := by
  cases s with
  | nil => cases h
  | cons c q =>
    simp only [listP] at h
    split at h
    · have := elemsF_len f _ _ _ _ h; simpa using this
    · cases h
theorem listP_good {α : Type} {f : List UInt8 → Option (α × List UInt8)} {G : α → Prop} (hf : ∀ s x r, f s = some (x, r) → G x) {s : List UInt8} {l : List α} {r : List UInt8} (h : listP f s = some (l, r)) : ∀ x ∈ l, G x := by
  cases s with
  | nil => cases h
  | cons c q =>
    simp only [listP] at h
    split at h
    · exact elemsF_good f G hf _ _ _ _ h
    · cases h
theorem intsP_fits {s : List UInt8} {l : List Int} {r : List UInt8} (h : intsP s = some (l, r)) : ∀ x ∈ l, Fits x := listP_good (fun _ _ _ h => (intP_some h).2) h
theorem intsP_len {s : List UInt8} {l : List Int} {r : List UInt8} (h : intsP s = some (l, r)) : l.length ≤ s.length := listP_len h
theorem txtsP_len {s : List UInt8} {l : List ByteArray} {r : List UInt8} (h : txtsP s = some (l, r)) : l.length ≤ s.length := listP_len h
theorem txtsP_short {s : List UInt8} {l : List ByteArray} {r : List UInt8} (h : txtsP s = some (l, r)) : ∀ x ∈ l, x.size ≤ s.length := by
  have e := txtsP_some h
  intro x hx
  have h1 : (wText x).length ≤ (l.flatMap wText).length := by
    clear h e
    induction l with
    | nil => cases hx
    | cons y l ih =>
      rw [List.flatMap_cons, List.length_append]
      rcases List.mem_cons.1 hx with rfl | hx
      · omega
      · have := ih hx; omega
  have h2 : x.size ≤ (wText x).length := by have := ba_size x; simp [wText]; omega
  have h3 : (l.flatMap wText).length ≤ s.length := by rw [e]; simp [wTexts]; omega
  omega
end Go.Proofs.YtanmmooflhomoaaGreatDoor.Wr
/- The plain law of the reference's number: negative digits up to a byte, checked by writing the number again. -/
namespace Go.Proofs.YtanmmooflhomoaaGreatDoor.Wr
open Go Go.Lib

/-- The number that decimal digits say. -/
def vI (l : List UInt8) (a : Int) : Int := l.foldl (fun a c => 10 * a + ((c.toNat : Int) - 48)) a
theorem vI_app (l m : List UInt8) (a : Int) : vI (l ++ m) a = vI m (vI l a) := by unfold vI; rw [List.foldl_append]
theorem vI_ge : ∀ (l : List UInt8) (a : Int), 0 ≤ a → (∀ c ∈ l, 48 ≤ c.toNat) → a ≤ vI l a
  | [], _, _, _ => Int.le_refl _
  | c :: l, a, ha, h => by
    have h1 := h c (by simp)
    have h2 := vI_ge l (10 * a + ((c.toNat : Int) - 48)) (by omega) (fun d hd => h d (by simp [hd]))
    exact Int.le_trans (by omega) h2
theorem vI_dec (m : Nat) : vI (decDigits m) 0 = m := by
  induction m using Nat.strongRecOn with
  | _ m ih =>
    by_cases h : m < 10
    · rw [decDigits, dif_pos h]
      have e := digit_nat m h
      simp only [vI, List.foldl_cons, List.foldl_nil, e]; omega
    · rw [decDigits_step h, vI_app, ih (m / 10) (by omega)]
      have e := digit_nat (m % 10) (by omega)
      simp only [vI, List.foldl_cons, List.foldl_nil, e]; omega
/-- Where the digits begin. -/
def frm (u : List UInt8) : Nat := if u.head? = some 45 then 1 else 0
theorem frm_itoa {m : Int} {u : List UInt8} (h : u = itoa m) : ∃ M : Nat, u.drop (frm u) = decDigits M ∧ ((frm u = 0 ∧ m = M) ∨ (frm u = 1 ∧ m = -M ∧ m < 0)) := by
  rcases itoa_cases m with ⟨h0, e⟩ | ⟨h0, e⟩
  · obtain ⟨c, r, hc, c1, c2⟩ := dec_head m.toNat
    have hu : u = c :: r := by rw [h, e, hc]
    have hf : frm u = 0 := by
      unfold frm; rw [if_neg]; rw [hu]; simp only [List.head?_cons, Option.some.injEq]; intro k; subst k; simp at c1
    exact ⟨m.toNat, by rw [hf, List.drop_zero, h, e], .inl ⟨hf, by omega⟩⟩
  · have hf : frm u = 1 := by unfold frm; rw [if_pos]; rw [h, e]; rfl
    exact ⟨(-m).toNat, by rw [hf, h, e]; rfl, .inr ⟨hf, by omega, h0⟩⟩
/-- How far the reference's reckoning has come. -/
def Jn (u : List UInt8) (j : Nat) (n : Int) : Prop := -9223372036854775808 ≤ n ∧ n ≤ 0 ∧ ∀ m, Fits m → u = itoa m → n = -(vI ((u.drop (frm u)).take (j - frm u)) 0)
theorem Jn_start (u : List UInt8) : Jn u (frm u) 0 := ⟨by omega, by omega, fun m _ _ => by simp [vI]⟩
/-- No number of 64 bits is written so. -/
def NoInt (u : List UInt8) : Prop := ∀ m, Fits m → u ≠ itoa m
theorem Jn_step {u : List UInt8} {j : Nat} {n : Int} (h : Jn u j n) (hf : frm u ≤ j) (hj : j < u.length) :
    (((u[j].toNat : Int) - 48 < 0 ∨ 9 < (u[j].toNat : Int) - 48 ∨ n < -922337203685477580 ∨ (n = -922337203685477580 ∧ 8 < (u[j].toNat : Int) - 48)) → NoInt u) ∧
    (0 ≤ (u[j].toNat : Int) - 48 → (u[j].toNat : Int) - 48 ≤ 9 → -922337203685477580 ≤ n → (n = -922337203685477580 → (u[j].toNat : Int) - 48 ≤ 8) → Jn u (j + 1) (10 * n - ((u[j].toNat : Int) - 48))) := by
  obtain ⟨h1, h2, h3⟩ := h
  have hk : j - frm u < (u.drop (frm u)).length := by rw [List.length_drop]; omega
  have hg : (u.drop (frm u))[j - frm u] = u[j] := by rw [List.getElem_drop]; congr 1; omega
  have hs : vI ((u.drop (frm u)).take (j - frm u + 1)) 0 = 10 * vI ((u.drop (frm u)).take (j - frm u)) 0 + ((u[j].toNat : Int) - 48) := by
    rw [List.take_add_one, List.getElem?_eq_getElem hk, hg, vI_app]; rfl
  refine ⟨fun hb m hm e => ?_, fun d0 d1 d2 d3 => ⟨?_, by omega, fun m hm e => ?_⟩⟩
  · have hn := h3 m hm e
    obtain ⟨M, hM, hc⟩ := frm_itoa e
    have hd : 48 ≤ u[j].toNat ∧ u[j].toNat ≤ 57 := by
      have := decDigits_all M (u.drop (frm u))[j - frm u] (by rw [← hM]; exact List.getElem_mem hk)
      rwa [hg] at this
    have hv : vI ((u.drop (frm u)).take (j - frm u + 1)) 0 ≤ vI (u.drop (frm u)) 0 := by
      conv => rhs; rw [← List.take_append_drop (j - frm u + 1) (u.drop (frm u)), vI_app]
      refine vI_ge _ _ ?_ fun c hc => ?_
      · refine vI_ge _ 0 (Int.le_refl _) fun c hc => ?_
        exact (decDigits_all M c (by rw [← hM]; exact List.mem_of_mem_take hc)).1
      · exact (decDigits_all M c (by rw [← hM]; exact List.mem_of_mem_drop hc)).1
    rw [hM, vI_dec, ← hM, hs] at hv
    unfold Fits at hm
    omega
  · by_cases hn : n = -922337203685477580
    · have := d3 hn; omega
    · omega
  · have hn := h3 m hm e
    rw [show j + 1 - frm u = j - frm u + 1 by omega, hs]
    omega
/-- What the reference makes of the digits' number. -/
def fin (u : List UInt8) (n : Int) : Int := if frm u = 0 then -n else n
theorem Jn_end {u : List UInt8} {n : Int} (h : Jn u u.length n) : (frm u = 0 → n = -9223372036854775808 → NoInt u) ∧ ∀ m, Fits m → u = itoa m → m = fin u n := by
  obtain ⟨h1, h2, h3⟩ := h
  have key : ∀ m, Fits m → u = itoa m → m = fin u n := fun m hm e => by
    have hn := h3 m hm e
    obtain ⟨M, hM, hc⟩ := frm_itoa e
    rw [List.take_of_length_le (by rw [List.length_drop]; omega), hM, vI_dec] at hn
    unfold fin
    rcases hc with ⟨hf, hc⟩ | ⟨hf, hc, -⟩
    · rw [if_pos hf]; omega
    · rw [if_neg (by omega)]; omega
  refine ⟨fun hf hn m hm e => ?_, key⟩
  have := key m hm e
  unfold fin at this
  rw [if_pos hf] at this
  unfold Fits at hm
  omega
theorem numP_noint {u v : List UInt8} {d : UInt8} (h : ∀ c ∈ u, c ≠ d) (hn : NoInt u) : numP (u ++ d :: v) d = none := by
  rw [numP_at h]
  rcases ha : atoiAll u with n | _ | _
  · simp only
    rw [if_neg (fun e => hn n (atoi_i64 ha) e.symm)]
  · rfl
  · rfl
theorem numP_is {u v : List UInt8} {d : UInt8} {n : Int} (h : ∀ c ∈ u, c ≠ d) (hn : Fits n) (e : itoa n = u) : numP (u ++ d :: v) d = some (n, v) := by
  rw [numP_at h, ← e, atoi_itoa n hn]; simp
/-- A number is written in at most 20 bytes: where no end stands among the first 22, none is read. -/
theorem numP_far {s : List UInt8} {d : UInt8} (h : ∀ c ∈ s.take 22, c ≠ d) : numP s d = none := by
  rcases hp : numP s d with _ | ⟨n, r⟩
  · rfl
  · obtain ⟨e, hn⟩ := numP_some hp
    have hl := itoa_length_le n hn.1 hn.2
    refine absurd rfl (h d ?_)
    rw [e, List.take_append]
    refine List.mem_append_right _ ?_
    rw [show 22 - (itoa n).length = (21 - (itoa n).length) + 1 by omega]
    simp
end Go.Proofs.YtanmmooflhomoaaGreatDoor.Wr
/- The reference's readers: how they lie; New, Bad, Left, fail: each walked once. -/
namespace Go.Proofs.YtanmmooflhomoaaGreatDoor.Wr
open Go Go.RowKit Go.Sort Go.Lib

/-- A reader of the reference: its text, the place, and whether it is bad. -/
def RfAt (w : World) (p : Nat) (s : ByteArray) (k : Nat) (b : Bool) : Prop := (w.cell? ⟨p, 0, none⟩ = some (.string s) ∧ w.cell? ⟨p, 1, none⟩ = some (.int .i64 k) ∧ w.cell? ⟨p, 2, none⟩ = some (.bool b)) ∧ w.frozen? ⟨p, 0, none⟩ = false ∧ w.frozen? ⟨p, 1, none⟩ = false ∧ w.frozen? ⟨p, 2, none⟩ = false
theorem RfAt.lt {w : World} {p : Nat} {s : ByteArray} {k : Nat} {b : Bool} (h : RfAt w p s k b) : p < w.heap.size := World.block_lt_of_cell? w _ h.1.1
theorem RfAt.below {w w' : World} {p : Nat} {s : ByteArray} {k : Nat} {b : Bool} (h : RfAt w p s k b) (hb : RowKit.Below w.heap.size w w') : RfAt w' p s k b :=
  ⟨⟨mv0 hb h.1.1, mv0 hb h.1.2.1, mv0 hb h.1.2.2⟩, ((bcell hb).2 _ _ h.lt).trans h.2.1, ((bcell hb).2 _ _ h.lt).trans h.2.2.1, ((bcell hb).2 _ _ h.lt).trans h.2.2.2⟩
theorem RfAt.move {w : World} {p : Nat} {s : ByteArray} {k : Nat} {b : Bool} (h : RfAt w p s k b) (k' : Nat) : RfAt (w.setCell ⟨p, 1, none⟩ (.int .i64 k')) p s k' b := by
  obtain ⟨⟨h0, h1, h2⟩, f0, f1, f2⟩ := h
  exact ⟨⟨(World.cell?_setCell_other _ _ _ _ (by simp)).trans h0, World.cell?_setCell_same _ _ _ h1, (World.cell?_setCell_other _ _ _ _ (by simp)).trans h2⟩, by simpa using f0, by simpa using f1, by simpa using f2⟩
theorem RfAt.spoil {w : World} {p : Nat} {s : ByteArray} {k : Nat} {b : Bool} (h : RfAt w p s k b) (b' : Bool) : RfAt (w.setCell ⟨p, 2, none⟩ (.bool b')) p s k b' := by
  obtain ⟨⟨h0, h1, h2⟩, f0, f1, f2⟩ := h
  exact ⟨⟨(World.cell?_setCell_other _ _ _ _ (by simp)).trans h0, (World.cell?_setCell_other _ _ _ _ (by simp)).trans h1, World.cell?_setCell_same _ _ _ h2⟩, by simpa using f0, by simpa using f1, by simpa using f2⟩
theorem rfBad_any (p : Nat) (s : ByteArray) (k : Nat) (b : Bool) (w : World) (h : RfAt w p s k b) : Calls Tryz.prog 45 #[.pointer (some ⟨p, 0, none⟩)] w fun e w' => e = .returned (.bool b) ∧ w = w' := by
  obtain ⟨⟨h0, h1, h2⟩, -⟩ := h
  go_enter Tryz.func45, Tryz.ntmps45
  go_wp2_with fail
  go_ret
  exact ⟨rfl, rfl⟩
theorem rfLeft_any (p : Nat) (s : ByteArray) (hs : s.size ≤ 100000000) (k : Nat) (hk : k ≤ s.size) (b : Bool) (w : World) (h : RfAt w p s k b) : Calls Tryz.prog 47 #[.pointer (some ⟨p, 0, none⟩)] w fun e w' => e = .returned (.int .i64 (if b = true then 0 else (s.size : Int) - k)) ∧ RowKit.Below w.heap.size w w' := by
  obtain ⟨⟨h0, h1, h2⟩, -⟩ := h
  have hw : IntKind.i64.wrap ((s.size : Int) - k) = (s.size : Int) - k := IntWalk.i64_in _ (by omega)
  cases b
  · go_enter Tryz.func47, Tryz.ntmps47
    go_wp2_with fail
    go_quiet (fail)
    go_wp2_with fail
    go_ret
    exact ⟨rfl, below_drewN' (Below.refl _ _) _⟩
  · go_enter Tryz.func47, Tryz.ntmps47
    go_wp2_with fail
    go_ret
    exact ⟨rfl, Below.refl _ _⟩
theorem rfFail_any (p : Nat) (s : ByteArray) (k : Nat) (b : Bool) (w : World) (h : RfAt w p s k b) : Calls Tryz.prog 67 #[.pointer (some ⟨p, 0, none⟩)] w fun e w' => e = .returned (.tuple #[]) ∧ RfAt w' p s k true ∧ But p w w' := by
  have hE := h.spoil true
  have hB := (But.refl p w).set 2 (.bool true)
  have hl := h.lt
  obtain ⟨⟨h0, h1, h2⟩, f0, f1, f2⟩ := h
  go_enter Tryz.func67, Tryz.ntmps67
  go_wp2_with fail
  go_end0
  exact ⟨rfl, hE, hB⟩
end Go.Proofs.YtanmmooflhomoaaGreatDoor.Wr
/- The reference's number: walked once. -/
namespace Go.Proofs.YtanmmooflhomoaaGreatDoor.Wr
open Go Go.RowKit Go.Sort Go.Lib

@[local go_sem] theorem slice_lh {P : Program} (w : World) (t : TypeId) (s : ByteArray) (ht : P.underlying t = some .string) (kl kh : IntKind) (l h : Int) (h0 : 0 ≤ l) (h1 : l ≤ h) (h2 : h ≤ s.size) :
    (Instr.slice t (.string s) (some (.int kl l)) (some (.int kh h)) none).run P w = .ok (.string (s.extract l.toNat h.toNat)) w := by
  have h3 : 0 ≤ h := by omega
  have h4 : l.toNat ≤ h.toNat := by omega
  simp [Instr.slice, Instr.sliceBounds, Instr.sliceBound, asIntOf, run_underlying ht, h0, h2, h3]
  intro hc
  exfalso
  omega
/-- What a call of the reference's number comes to. -/
def RefNum (p : Nat) (s : ByteArray) (k : Nat) (z : Option (Int × List UInt8)) (w : World) (e : Ending) (w' : World) : Prop :=
  match z with
  | some (n, r) => e = .returned (.tuple #[.int .i64 n, .bool true]) ∧ Fits n ∧ (∃ k', k < k' ∧ k' ≤ s.size ∧ r = s.data.toList.drop k' ∧ RfAt w' p s k' false) ∧ But p w w'
  | none => e = .returned (.tuple #[.int .i64 0, .bool false]) ∧ (∃ b, RfAt w' p s k b) ∧ But p w w'
theorem rfNumber_bad (p : Nat) (s : ByteArray) (k : Nat) (c : UInt8) (w : World) (h : RfAt w p s k true) :
    Calls Tryz.prog 66 #[.pointer (some ⟨p, 0, none⟩), .int .u8 c.toNat] w (RefNum p s k none w) := by
  have hR := h
  obtain ⟨⟨h0, h1, h2⟩, -⟩ := h
  go_enter Tryz.func66, Tryz.ntmps66
  go_wp2_with fail
  (try simp only [Exit.inBlock, Exit.then]); refine bodyPost_ret (results_tmp2 rfl _ _ _) rfl ?_
  exact ⟨rfl, ⟨_, hR⟩, But.refl _ _⟩
theorem get_ba (s : ByteArray) (t : Nat) (h : t < s.size) : s[t]'h = s.data.toList[t]'(by rw [← ba_size]; exact h) := rfl
theorem u8_bne {a c : UInt8} : ((a.toNat : Int) != c.toNat) = (a != c) := by
  by_cases h : a = c
  · subst h; simp
  · have : a.toNat ≠ c.toNat := fun e => h (UInt8.toNat_inj.1 e)
    rw [bne_iff_ne.2 h, bne_iff_ne.2 (by omega)]
set_option maxHeartbeats 8000000 in
set_option maxRecDepth 100000 in
theorem rfNumber_good (p : Nat) (s : ByteArray) (hs : s.size ≤ 100000000) (k : Nat) (hk : k ≤ s.size) (c : UInt8) (w : World) (h : RfAt w p s k false) :
    Calls Tryz.prog 66 #[.pointer (some ⟨p, 0, none⟩), .int .u8 c.toNat] w (RefNum p s k (numP (s.data.toList.drop k) c) w) := by
  have hR := h
  have hpl := h.lt
  obtain ⟨⟨h0, h1, h2⟩, f0, f1, f2⟩ := h
  have HSZ := Lib.hid (ba_size s)
  have hw21 : IntKind.i64.wrap ((k : Int) + 21) = (k : Int) + 21 := IntWalk.i64_in _ (by omega)
  generalize hZ : numP (s.data.toList.drop k) c = Z
  have HZ := Lib.hid hZ
  clear hZ
  go_enter Tryz.func66, Tryz.ntmps66
  go_upto_block 0 with fail
  go_cut [6] (fun i wx => ∃ t : Nat, k ≤ t ∧ t ≤ s.size ∧ t ≤ k + 21 ∧ i = .int .i64 t ∧ Hid ((∀ j (hj : j < s.data.toList.length), k ≤ j → j < t → s.data.toList[j] ≠ c) ∧ (t = s.size ∨ t = k + 21 ∨ ∃ ht : t < s.data.toList.length, s.data.toList[t] = c)) ∧ wx = w)
  case first =>
    go_wp2_with fail
    go_loopw [6] (fun i wr => ∃ t : Nat, k ≤ t ∧ t ≤ s.size ∧ t ≤ k + 21 ∧ i = .int .i64 t ∧ Hid (∀ j (hj : j < s.data.toList.length), k ≤ j → j < t → s.data.toList[j] ≠ c) ∧ wr = w) (fun i _ => s.size - (RowKit.intOf i).toNat)
    case atStart => exact ⟨k, Nat.le_refl _, hk, by omega, rfl, Lib.hid fun j _ h1 h2 => absurd h1 (by omega), rfl⟩
    case round =>
      obtain ⟨t, hkt, hts, ht21, rfl, HN, rfl⟩ := hrel
      by_cases hend : t = s.size
      · subst hend
        have hnl : ¬ (s.size : Int) < s.size := by omega
        go_wp2_with fail
        go_meet
        case rel => exact ⟨s.size, hkt, Nat.le_refl _, ht21, rfl, Lib.hid ⟨HN.out, .inl rfl⟩, rfl⟩
      · have htl : t < s.data.toList.length := by rw [← HSZ.out]; omega
        have hti : (t : Int) < s.size := by omega
        obtain ⟨v0, hv0⟩ : ∃ v0, s.data.toList[t] = v0 := ⟨_, rfl⟩
        have hg : ∀ h : t < s.size, s[t]'h = v0 := fun h => (get_ba s t h).trans hv0
        by_cases hlt : t < k + 21
        · have hlti : (t : Int) < (k : Int) + 21 := by omega
          by_cases hc : v0 = c
          · have HC := Lib.hid (⟨htl, hv0.trans hc⟩ : ∃ ht : t < s.data.toList.length, s.data.toList[t] = c)
            have hcb : ((v0.toNat : Int) != c.toNat) = false := by rw [u8_bne, hc]; simp
            clear hv0 hc
            go_wp2_with fail
            go_meet
            case rel => exact ⟨t, hkt, hts, ht21, rfl, Lib.hid ⟨HN.out, .inr (.inr HC.out)⟩, rfl⟩
          · have hcb : ((v0.toNat : Int) != c.toNat) = true := by rw [u8_bne]; exact bne_iff_ne.2 hc
            have HC := Lib.hid (fun (ht : t < s.data.toList.length) (h : s.data.toList[t] = c) => hc (hv0.symm.trans h))
            clear hv0 hc
            go_wp2_with fail
            go_roundw
            case rel => exact ⟨t + 1, by omega, by omega, by omega, by go_num, Lib.hid fun j hj h1 h2 => by
              rcases Nat.lt_or_ge j t with h | h
              · exact HN.out j hj h1 h
              · obtain rfl : j = t := by omega
                exact HC.out hj, by first | rfl | trivial⟩
            case measure => simp [RowKit.intOf]; omega
        · have hlti : ¬ (t : Int) < (k : Int) + 21 := by omega
          clear hv0
          go_wp2_with fail
          go_meet
          case rel => exact ⟨t, hkt, hts, ht21, rfl, Lib.hid ⟨HN.out, .inr (.inl (by omega))⟩, rfl⟩
  case rest =>
    obtain ⟨t, hkt, hts, ht21, rfl, HT, rfl⟩ := hcut
    by_cases hend : t = s.size
    · have hz : Z = none := by
        rw [← HZ.out]
        refine numP_none fun x hx => ?_
        obtain ⟨j, hj, rfl⟩ := List.getElem_of_mem hx
        rw [List.getElem_drop]
        rw [List.length_drop] at hj
        have hsz := HSZ.out
        exact HT.out.1 (k + j) (by omega) (by omega) (by omega)
      subst hend
      go_wp2_with fail
      (try simp only [Exit.inBlock, Exit.then]); refine bodyPost_ret (results_tmp2 rfl _ _ _) rfl ?_
      (try rw [hz])
      exact ⟨rfl, ⟨_, hR⟩, But.refl _ _⟩
    · have htl : t < s.data.toList.length := by rw [← HSZ.out]; omega
      have hti : (t : Int) < s.size := by omega
      have hne : ((t : Int) == s.size) = false := by rw [beq_eq_false_iff_ne]; omega
      obtain ⟨v0, hv0⟩ : ∃ v0, s.data.toList[t] = v0 := ⟨_, rfl⟩
      have hg : ∀ h : t < s.size, s[t]'h = v0 := fun h => (get_ba s t h).trans hv0
      by_cases hc : v0 = c
      · have hcb : ((v0.toNat : Int) != c.toNat) = false := by rw [u8_bne, hc]; simp
        obtain ⟨u, hu⟩ : ∃ u, u = (s.data.toList.drop k).take (t - k) := ⟨_, rfl⟩
        obtain ⟨v, hv⟩ : ∃ v, v = s.data.toList.drop (t + 1) := ⟨_, rfl⟩
        have hsplit : s.data.toList.drop k = u ++ c :: v := by
          rw [hu, hv]
          conv => lhs; rw [← List.take_append_drop (t - k) (s.data.toList.drop k)]
          rw [List.drop_drop, show k + (t - k) = t by omega, List.drop_eq_getElem_cons htl, hv0, hc]
        have hun : ∀ x ∈ u, x ≠ c := fun x hx => by
          rw [hu] at hx
          obtain ⟨j, hj, rfl⟩ := List.getElem_of_mem hx
          rw [List.length_take, List.length_drop] at hj
          have hsz := HSZ.out
          rw [List.getElem_take, List.getElem_drop]
          exact HT.out.1 (k + j) (by omega) (by omega) (by omega)
        have hul : u.length = t - k := by have hsz := HSZ.out; rw [hu, List.length_take, List.length_drop]; omega
        have hext : s.extract k t = ⟨u.toArray⟩ := ba_ext (by rw [hu]; simp [ByteArray.data_extract])
        have hZn : NoInt u → Z = none := fun h => by rw [← HZ.out, hsplit]; exact numP_noint hun h
        have hZs : ∀ n, Fits n → itoa n = u → Z = some (n, v) := fun n hn e => by rw [← HZ.out, hsplit]; exact numP_is hun hn e
        have huz : (⟨u.toArray⟩ : ByteArray).size = u.length := by simp [ByteArray.size]
        have hk0i : (0 : Int) ≤ k := by omega
        have hkti : (k : Int) ≤ t := by omega
        have htsi : (t : Int) ≤ s.size := by omega
        have HV := Lib.hid hv
        have HZN := Lib.hid hZn
        have HZS := Lib.hid hZs
        clear hu hv hsplit HT hc hv0 htl HSZ HZ hZn hZs hun
        go_wp2_with fail
        go_quiet (fail)
        generalize hwd : wc.drewN nq = wd
        have hRd : RfAt wd p s k false := by rw [← hwd]; exact hR
        have hBd : But p wc wd := But.of (by rw [← hwd]; exact below_drewN' (Below.refl _ _) _)
        have hpd := hRd.lt
        obtain ⟨⟨h0, h1, h2⟩, f0, f1, f2⟩ := id hRd
        clear hwd
        go_upto_region 10 with fail
        have hff : (frm u : Int) = 0 ∨ (frm u : Int) = 1 := by unfold frm; split <;> simp
        go_cut [8, 86] (fun x cb wx => x = .int .i64 0 ∧ cb = .bool (decide (frm u = 1)) ∧ wx = wd)
        case first =>
          by_cases hz0 : u.length = 0
          · have hul0 : ¬ (0 : Int) < u.length := by omega
            have hdf : decide (frm u = 1) = false := by rw [List.eq_nil_of_length_eq_zero hz0]; rfl
            clear hz0
            go_wp2_with fail
            go_meet
            case rel => exact ⟨rfl, by rw [hdf], rfl⟩
          · have hul1 : (0 : Int) < u.length := by omega
            obtain ⟨a, ha0⟩ : ∃ a, u[0]'(by omega) = a := ⟨_, rfl⟩
            have hga : ∀ h, (⟨u.toArray⟩ : ByteArray)[0]'h = a := fun h => ha0
            have hdf : decide (frm u = 1) = ((a.toNat : Int) == 45) := by
              have hh : u.head? = some a := by rw [List.head?_eq_getElem?, List.getElem?_eq_getElem (by omega), ha0]
              unfold frm
              rw [hh]
              by_cases ha : a = 45
              · subst ha; rfl
              · rw [if_neg (by simpa using ha), beq_eq_false_iff_ne.2 (fun e => ha (UInt8.toNat_inj.1 (by rw [show (45 : UInt8).toNat = 45 from rfl]; omega)))]; rfl
            clear ha0 hz0
            go_wp2_with fail
            go_meet
            case rel => exact ⟨rfl, by rw [hdf], rfl⟩
        case rest =>
          obtain ⟨rfl, rfl, rfl⟩ := hcut
          go_upto_if 86 with fail
          go_cut [8] (fun x wx => x = .int .i64 (frm u : Nat) ∧ wx = wc)
          case first =>
            rcases hff with hf | hf
            · have hd : decide (frm u = 1) = false := decide_eq_false (by omega)
              go_wp2_with fail
              go_meet
              case rel => exact ⟨by rw [hf], rfl⟩
            · have hd : decide (frm u = 1) = true := decide_eq_true (by omega)
              go_wp2_with fail
              go_meet
              case rel => exact ⟨by rw [hf], rfl⟩
          case rest =>
            obtain ⟨rfl, rfl⟩ := hcut
            have hfu : frm u ≤ u.length := by
              unfold frm; split
              · rename_i h; cases u with
                | nil => cases h
                | cons a r => simp
              · omega
            obtain ⟨fu, hfe⟩ : ∃ fu, frm u = fu := ⟨_, rfl⟩
            rw [hfe] at hff hfu ⊢
            go_upto_block 2 with fail
            go_cut [9] (fun x wx => ∃ n : Int, x = .int .i64 n ∧ Hid (Jn u u.length n) ∧ wx = wc)
            case first =>
              go_wp2_with fail
              go_loopw [9, 10] (fun x i wr => ∃ (j : Nat) (n : Int), fu ≤ j ∧ j ≤ u.length ∧ i = .int .i64 j ∧ x = .int .i64 n ∧ Hid (Jn u j n) ∧ wr = wc) (fun _ i _ => u.length - (RowKit.intOf i).toNat)
              case atStart => exact ⟨fu, 0, Nat.le_refl _, hfu, rfl, rfl, Lib.hid (by have := Jn_start u; rwa [hfe] at this), rfl⟩
              case round =>
                obtain ⟨j, n, hj0, hj, rfl, rfl, HJ, rfl⟩ := hrel
                by_cases hjl : j < u.length
                · have hji : (j : Int) < u.length := by omega
                  obtain ⟨d0, hd0⟩ : ∃ d0, u[j] = d0 := ⟨_, rfl⟩
                  have hgu : ∀ h, (⟨u.toArray⟩ : ByteArray)[j]'h = d0 := fun h => hd0
                  obtain ⟨hno, hgo⟩ := Jn_step HJ.out (by omega) hjl
                  rw [hd0] at hno hgo
                  have hd8 := UInt8.toNat_lt d0
                  have hwe : IntKind.i64.wrap ((d0.toNat : Int) - 48) = (d0.toNat : Int) - 48 := IntWalk.i64_in _ (by omega)
                  obtain ⟨e, he⟩ : ∃ e, (d0.toNat : Int) - 48 = e := ⟨_, rfl⟩
                  rw [he] at hno hgo
                  replace hwe := hwe.trans he
                  have hnb := HJ.out.1
                  have hnu := HJ.out.2.1
                  have HNO := Lib.hid hno
                  have HGO := Lib.hid hgo
                  clear hno hgo hd0 he
                  by_cases c1 : e < 0
                  · have hz : Z = none := HZN.out (HNO.out (.inl c1))
                    go_wp2_with fail
                    (try simp only [Exit.inBlock, Exit.then]); refine bodyPost_ret (results_tmp2 rfl _ _ _) rfl ?_
                    (try rw [hz])
                    exact ⟨rfl, ⟨_, hRd⟩, hBd⟩
                  · by_cases c2 : 9 < e
                    · have hz : Z = none := HZN.out (HNO.out (.inr (.inl c2)))
                      go_wp2_with fail
                      (try simp only [Exit.inBlock, Exit.then]); refine bodyPost_ret (results_tmp2 rfl _ _ _) rfl ?_
                      (try rw [hz])
                      exact ⟨rfl, ⟨_, hRd⟩, hBd⟩
                    · by_cases c3 : n < -922337203685477580
                      · have hz : Z = none := HZN.out (HNO.out (.inr (.inr (.inl c3))))
                        go_wp2_with fail
                        (try simp only [Exit.inBlock, Exit.then]); refine bodyPost_ret (results_tmp2 rfl _ _ _) rfl ?_
                        (try rw [hz])
                        exact ⟨rfl, ⟨_, hRd⟩, hBd⟩
                      · by_cases c5 : n = -922337203685477580
                        · have c5b : (n == -922337203685477580) = true := beq_iff_eq.2 c5
                          by_cases c6 : 8 < e
                          · have hz : Z = none := HZN.out (HNO.out (.inr (.inr (.inr ⟨c5, c6⟩))))
                            clear c5
                            go_wp2_with fail
                            (try simp only [Exit.inBlock, Exit.then]); refine bodyPost_ret (results_tmp2 rfl _ _ _) rfl ?_
                            (try rw [hz])
                            exact ⟨rfl, ⟨_, hRd⟩, hBd⟩
                          · have HJ2 := Lib.hid (HGO.out (by omega) (by omega) (by omega) (fun _ => by omega))
                            have hw1 : IntKind.i64.wrap (10 * n) = 10 * n := IntWalk.i64_in _ (by omega)
                            have hw2 : IntKind.i64.wrap (10 * n - e) = 10 * n - e := IntWalk.i64_in _ (by have := HJ2.out.1; have := HJ2.out.2.1; omega)
                            clear c5
                            go_wp2_with fail
                            go_roundw
                            case rel => exact ⟨j + 1, _, by omega, by omega, by go_num, rfl, HJ2, by first | rfl | trivial⟩
                            case measure => simp [RowKit.intOf]; omega
                        · have c5b : (n == -922337203685477580) = false := beq_eq_false_iff_ne.2 c5
                          have HJ2 := Lib.hid (HGO.out (by omega) (by omega) (by omega) (fun h => absurd h c5))
                          have hw1 : IntKind.i64.wrap (10 * n) = 10 * n := IntWalk.i64_in _ (by omega)
                          have hw2 : IntKind.i64.wrap (10 * n - e) = 10 * n - e := IntWalk.i64_in _ (by have := HJ2.out.1; have := HJ2.out.2.1; omega)
                          clear c5
                          go_wp2_with fail
                          go_roundw
                          case rel => exact ⟨j + 1, _, by omega, by omega, by go_num, rfl, HJ2, by first | rfl | trivial⟩
                          case measure => simp [RowKit.intOf]; omega
                · obtain rfl : j = u.length := by omega
                  go_wp2_with fail
                  go_meet
                  case rel => exact ⟨n, rfl, HJ, rfl⟩
            case rest =>
              obtain ⟨n, rfl, HJ, rfl⟩ := hcut
              have hnb := HJ.out.1
              have hnu := HJ.out.2.1
              go_upto_if 122 with fail
              go_cut [9] (fun x wx => ∃ N : Int, x = .int .i64 N ∧ Hid (Fits N ∧ ∀ m, Fits m → u = itoa m → m = N) ∧ wx = wc)
              case first =>
                rcases hff with hf | hf
                · obtain rfl : fu = 0 := by omega
                  by_cases c7 : n = -9223372036854775808
                  · have hz : Z = none := HZN.out ((Jn_end HJ.out).1 hfe c7)
                    clear HJ
                    subst c7
                    have hwn : IntKind.i64.wrap (-(-9223372036854775808 : Int)) = -9223372036854775808 := by decide +kernel
                    have hwn2 : wrap64 9223372036854775808 = -9223372036854775808 := by unfold wrap64; omega
                    go_wp2_with fail
                    (try simp only [Exit.inBlock, Exit.then]); refine bodyPost_ret (results_tmp2 rfl _ _ _) rfl ?_
                    (try rw [hz])
                    exact ⟨rfl, ⟨_, hRd⟩, hBd⟩
                  · have hwn : IntKind.i64.wrap (-n) = -n := IntWalk.i64_in _ (by omega)
                    have hfin : fin u n = -n := by unfold fin; rw [if_pos hfe]
                    have HEND := (Jn_end HJ.out).2
                    rw [hfin] at HEND
                    have HN := Lib.hid (⟨⟨by omega, by omega⟩, HEND⟩ : Fits (-n) ∧ ∀ m, Fits m → u = itoa m → m = -n)
                    clear HEND HJ hfin
                    by_cases c8 : n = 0
                    · subst c8
                      go_wp2_with fail
                      go_meet
                      case rel => exact ⟨0, rfl, HN, rfl⟩
                    · have c9 : (n == -n) = false := beq_eq_false_iff_ne.2 (by omega)
                      have c10 : ¬ n = -n := by omega
                      clear c8 c7
                      go_wp2_with fail
                      go_meet
                      case rel => exact ⟨-n, rfl, HN, rfl⟩
                · obtain rfl : fu = 1 := by omega
                  have hfin : fin u n = n := by unfold fin; rw [if_neg (by omega)]
                  have HEND := (Jn_end HJ.out).2
                  rw [hfin] at HEND
                  have HN := Lib.hid (⟨⟨by omega, by omega⟩, HEND⟩ : Fits n ∧ ∀ m, Fits m → u = itoa m → m = n)
                  clear HEND HJ hfin
                  go_wp2_with fail
                  go_meet
                  case rel => exact ⟨n, rfl, HN, rfl⟩
              case rest =>
                obtain ⟨N, rfl, HN, rfl⟩ := hcut
                have cd := refDec_any N HN.out.1.1 HN.out.1.2 wc
                clear HJ hnb hnu hff
                by_cases hi : itoa N = u
                · have hz : Z = some (N, v) := HZS.out N HN.out.1 hi
                  have hib : (itoa N != u) = false := by rw [hi]; simp
                  have hib2 : (itoa N == u) = true := by rw [hi]; simp
                  have hk' : k < t + 1 ∧ t + 1 ≤ s.size := by omega
                  have hwt : IntKind.i64.wrap ((t : Int) + 1) = (t : Int) + 1 := IntWalk.i64_in _ (by omega)
                  go_wp2_with fail
                  refine cd.mono ?_
                  rintro _ w3 ⟨rfl, hb3⟩
                  have hR3 := (hRd.below hb3).move (t + 1)
                  have hB3 := (hBd.trans (But.of hb3)).set 1 (.int .i64 ((t + 1 : Nat) : Int))
                  obtain ⟨⟨k0, k1, k2⟩, l0, l1, l2⟩ := hRd.below hb3
                  have hpl3 := (hRd.below hb3).lt
                  clear cd h0 h1 h2 f0 f1 f2 hR
                  go_wp2_with fail
                  (try simp only [Exit.inBlock, Exit.then]); refine bodyPost_ret (results_tmp2 rfl _ _ _) rfl ?_
                  rw [hz]
                  exact ⟨rfl, HN.out.1, ⟨t + 1, hk'.1, hk'.2, HV.out, by simpa using hR3⟩, by simpa using hB3⟩
                · have hz : Z = none := HZN.out fun m hm e => hi (by rw [← HN.out.2 m hm e]; exact e.symm)
                  have hib : (itoa N != u) = true := bne_iff_ne.2 hi
                  have hib2 : (itoa N == u) = false := beq_eq_false_iff_ne.2 hi
                  go_wp2_with fail
                  refine cd.mono ?_
                  rintro _ w3 ⟨rfl, hb3⟩
                  go_wp2_with fail
                  (try simp only [Exit.inBlock, Exit.then]); refine bodyPost_ret (results_tmp2 rfl _ _ _) rfl ?_
                  (try rw [hz])
                  exact ⟨rfl, ⟨_, hRd.below hb3⟩, hBd.trans (But.of hb3)⟩
      · have hcb : ((v0.toNat : Int) != c.toNat) = true := by rw [u8_bne]; exact bne_iff_ne.2 hc
        have hz : Z = none := by
          rw [← HZ.out]
          refine numP_far fun x hx => ?_
          obtain ⟨j, hj, rfl⟩ := List.getElem_of_mem hx
          rw [List.getElem_take, List.getElem_drop]
          rw [List.length_take, List.length_drop] at hj
          have hsz := HSZ.out
          have h21 : t = k + 21 := by
            rcases HT.out.2 with h | h | ⟨ht, h⟩
            · exact absurd h hend
            · exact h
            · exact absurd (hv0.symm.trans h) hc
          rcases Nat.lt_or_ge (k + j) t with h | h
          · exact HT.out.1 (k + j) (by omega) (by omega) h
          · obtain rfl : t = k + j := by omega
            rw [hv0]; exact hc
        clear hv0 hc
        go_wp2_with fail
        (try simp only [Exit.inBlock, Exit.then]); refine bodyPost_ret (results_tmp2 rfl _ _ _) rfl ?_
        (try rw [hz])
        exact ⟨rfl, ⟨_, hR⟩, But.refl _ _⟩
end Go.Proofs.YtanmmooflhomoaaGreatDoor.Wr
namespace Go.Proofs.YtanmmooflhomoaaGreatDoor.Wr
open Go Go.RowKit Go.Sort Go.Lib

/-- What a call of a reader of the reference comes to. -/
def RefReads {α : Type} (p : Nat) (s : ByteArray) (ok : α → Value) (bad : Value) (z : Option (α × List UInt8)) (w : World) (e : Ending) (w' : World) : Prop :=
  match z with
  | some (n, r) => e = .returned (ok n) ∧ (∃ k', k' ≤ s.size ∧ r = s.data.toList.drop k' ∧ RfAt w' p s k' false) ∧ But p w w'
  | none => e = .returned bad ∧ (∃ k', k' ≤ s.size ∧ RfAt w' p s k' true) ∧ But p w w'
theorem rf_new (w : World) (s : ByteArray) (t : TypeId) : RfAt (w.alloc (.cells #[.string s, .int .i64 (0 : Nat), .bool false] t)) w.heap.size s 0 false := ⟨⟨by simp [go_sem], by simp [go_sem], by simp [go_sem]⟩, by simp [go_sem], by simp [go_sem], by simp [go_sem]⟩
theorem rfNew_any (s : ByteArray) (w : World) : Calls Tryz.prog 43 #[.string s] w fun e w' => ∃ p : Nat, e = .returned (.pointer (some ⟨p, 0, none⟩)) ∧ w.heap.size ≤ p ∧ RfAt w' p s 0 false ∧ RowKit.Below w.heap.size w w' := by
  have h := rf_new w s 103
  go_enter Tryz.func43, Tryz.ntmps43
  go_wp2_with fail
  go_ret
  exact ⟨_, rfl, Nat.le_refl _, by simpa using h, below_alloc1 _ _⟩
theorem rfNumber_any (p : Nat) (s : ByteArray) (hs : s.size ≤ 100000000) (k : Nat) (hk : k ≤ s.size) (b : Bool) (c : UInt8) (w : World) (h : RfAt w p s k b) :
    Calls Tryz.prog 66 #[.pointer (some ⟨p, 0, none⟩), .int .u8 c.toNat] w (RefNum p s k (if b = true then none else numP (s.data.toList.drop k) c) w) := by
  cases b
  · rw [if_neg (by decide)]; exact rfNumber_good p s hs k hk c w h
  · rw [if_pos rfl]; exact rfNumber_bad p s k c w h
theorem rfInt_any (p : Nat) (s : ByteArray) (hs : s.size ≤ 100000000) (k : Nat) (hk : k ≤ s.size) (b : Bool) (w : World) (h : RfAt w p s k b) :
    Calls Tryz.prog 44 #[.pointer (some ⟨p, 0, none⟩)] w (RefReads p s (fun n => .int .i64 n) (.int .i64 0) (if b = true then none else intP (s.data.toList.drop k)) w) := by
  have c := rfNumber_any p s hs k hk b 59 w h
  change Calls _ _ _ _ (RefNum p s k (if b = true then none else intP (s.data.toList.drop k)) w) at c
  generalize (if b = true then none else intP (s.data.toList.drop k)) = z at c ⊢
  rcases z with _ | ⟨n, r⟩
  · unfold RefNum at c
    unfold RefReads
    dsimp only at c ⊢
    clear h
    go_enter Tryz.func44, Tryz.ntmps44
    go_wp2_with fail
    refine c.mono ?_
    rintro x w1 ⟨rfl, ⟨b', hR⟩, hB⟩
    have cf := rfFail_any p s k b' w1 hR
    go_wp2_with fail
    refine cf.mono ?_
    rintro x w2 ⟨rfl, hR2, hB2⟩
    go_wp2_with fail
    go_ret
    exact ⟨rfl, ⟨k, hk, hR2⟩, hB.trans hB2⟩
  · unfold RefNum at c
    unfold RefReads
    dsimp only at c ⊢
    clear h
    go_enter Tryz.func44, Tryz.ntmps44
    go_wp2_with fail
    refine c.mono ?_
    rintro x w1 ⟨rfl, hF, ⟨k', h1, h2, h3, hR⟩, hB⟩
    go_wp2_with fail
    go_ret
    exact ⟨rfl, ⟨k', h2, h3, hR⟩, hB⟩
set_option maxHeartbeats 1000000 in
theorem rfText_any (p : Nat) (s : ByteArray) (hs : s.size ≤ 100000000) (k : Nat) (hk : k ≤ s.size) (b : Bool) (w : World) (h : RfAt w p s k b) :
    Calls Tryz.prog 46 #[.pointer (some ⟨p, 0, none⟩)] w (RefReads p s Value.string (.string ⟨#[]⟩) (if b = true then none else txtP (s.data.toList.drop k)) w) := by
  have c := rfNumber_any p s hs k hk b 58 w h
  have e : (if b = true then none else txtP (s.data.toList.drop k)) = match (if b = true then none else numP (s.data.toList.drop k) 58) with
      | some (n, r) => if n < 0 ∨ (r.length : Int) < n then none else some ((⟨(r.take n.toNat).toArray⟩ : ByteArray), r.drop n.toNat)
      | none => none := by
    cases b
    · simp only [Bool.false_eq_true, if_false]
      unfold txtP textP
      rcases numP (s.data.toList.drop k) 58 with _ | ⟨n, r⟩
      · rfl
      · simp only; split <;> rfl
    · rfl
  rw [e]
  clear e
  generalize (if b = true then none else numP (s.data.toList.drop k) 58) = z at c ⊢
  have HSZ := Lib.hid (ba_size s)
  rcases z with _ | ⟨n, r⟩
  · unfold RefNum at c
    unfold RefReads
    dsimp only at c ⊢
    clear h
    go_enter Tryz.func46, Tryz.ntmps46
    go_wp2_with fail
    refine c.mono ?_
    rintro x w1 ⟨rfl, ⟨b', hR⟩, hB⟩
    have cf := rfFail_any p s k b' w1 hR
    go_wp2_with fail
    refine cf.mono ?_
    rintro x w2 ⟨rfl, hR2, hB2⟩
    go_wp2_with fail
    go_ret
    exact ⟨rfl, ⟨k, hk, hR2⟩, hB.trans hB2⟩
  · by_cases h1 : n < 0
    · have hk2 : n < 0 ∨ (r.length : Int) < n := .inl h1
      dsimp only
      rw [if_pos hk2]
      unfold RefNum at c
      unfold RefReads
      dsimp only at c ⊢
      clear h hk2
      go_enter Tryz.func46, Tryz.ntmps46
      go_wp2_with fail
      refine c.mono ?_
      rintro x w1 ⟨rfl, hF, ⟨k', g1, g2, -, hR⟩, hB⟩
      have cf := rfFail_any p s k' false w1 hR
      go_wp2_with fail
      refine cf.mono ?_
      rintro x w2 ⟨rfl, hR2, hB2⟩
      go_wp2_with fail
      go_ret
      exact ⟨rfl, ⟨k', g2, hR2⟩, hB.trans hB2⟩
    · by_cases h2 : (r.length : Int) < n
      · have hk2 : n < 0 ∨ (r.length : Int) < n := .inr h2
        dsimp only
        rw [if_pos hk2]
        unfold RefNum at c
        unfold RefReads
        dsimp only at c ⊢
        clear h hk2
        go_enter Tryz.func46, Tryz.ntmps46
        go_wp2_with fail
        refine c.mono ?_
        rintro x w1 ⟨rfl, hF, ⟨k', g1, g2, g3, hR⟩, hB⟩
        have hrl : (r.length : Int) = (s.size : Int) - k' := by rw [g3, List.length_drop, ← HSZ.out]; omega
        have cl := rfLeft_any p s hs k' g2 false w1 hR
        rw [if_neg (by decide), ← hrl] at cl
        go_wp2_with fail
        refine cl.mono ?_
        rintro x w2 ⟨rfl, hb2⟩
        have cf := rfFail_any p s k' false w2 (hR.below hb2)
        clear cl g3
        go_wp2_with fail
        refine cf.mono ?_
        rintro x w3 ⟨rfl, hR2, hB2⟩
        go_wp2_with fail
        go_ret
        exact ⟨rfl, ⟨k', g2, hR2⟩, (hB.trans (But.of hb2)).trans hB2⟩
      · have hk2 : ¬ (n < 0 ∨ (r.length : Int) < n) := by omega
        dsimp only
        rw [if_neg hk2]
        unfold RefNum at c
        unfold RefReads
        dsimp only at c ⊢
        clear h hk2
        go_enter Tryz.func46, Tryz.ntmps46
        go_wp2_with fail
        refine c.mono ?_
        rintro x w1 ⟨rfl, hF, ⟨k', g1, g2, g3, hR⟩, hB⟩
        have hrl : (r.length : Int) = (s.size : Int) - k' := by rw [g3, List.length_drop, ← HSZ.out]; omega
        have cl := rfLeft_any p s hs k' g2 false w1 hR
        rw [if_neg (by decide), ← hrl] at cl
        go_wp2_with fail
        refine cl.mono ?_
        rintro x w2 ⟨rfl, hb2⟩
        replace hR := hR.below hb2
        replace hB := hB.trans (But.of hb2)
        obtain ⟨m, hm⟩ : ∃ m : Nat, n = m := ⟨n.toNat, by omega⟩
        subst hm
        have hw : IntKind.i64.wrap ((k' : Int) + m) = ((k' + m : Nat) : Int) := by rw [IntWalk.i64_in _ (by omega)]; omega
        have hi0 : (0 : Int) ≤ k' := by omega
        have hi1 : (k' : Int) ≤ ((k' + m : Nat) : Int) := by omega
        have hi2 : ((k' + m : Nat) : Int) ≤ s.size := by omega
        have hext : s.extract k' (k' + m) = ⟨(r.take m).toArray⟩ := ba_ext (by rw [g3]; simp [ByteArray.data_extract])
        have HD := Lib.hid (show r.drop m = s.data.toList.drop (k' + m) by rw [g3, List.drop_drop])
        have hpl := hR.lt
        obtain ⟨⟨k0, k1, k2⟩, l0, l1, l2⟩ := id hR
        obtain ⟨q, hq⟩ : ∃ q, k' + m = q := ⟨_, rfl⟩
        rw [hq] at hw hi1 hi2 hext HD
        clear cl g3 hrl
        go_wp2_with fail
        go_quiet (fail)
        have hRd : RfAt (w2.drewN nq) p s k' false := hR
        have hS := hRd.move q
        have hB3 := (hB.trans (But.of (below_drewN' (Below.refl _ _) nq))).set 1 (.int .i64 (q : Nat))
        go_wp2_with fail
        go_ret
        exact ⟨rfl, ⟨q, by omega, by simpa using HD.out, hS⟩, hB3⟩
end Go.Proofs.YtanmmooflhomoaaGreatDoor.Wr
