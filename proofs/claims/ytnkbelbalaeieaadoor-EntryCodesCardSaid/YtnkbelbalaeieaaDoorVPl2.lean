/- More plain laws of wire: how long what is read is, and of what. -/
import Derived.Test.YtnkbelbalaeieaaDoorVPl
namespace Go.Proofs.YtnkbelbalaeieaaDoor.Wr
open Go Go.Lib

theorem elemsF_len {α : Type} (f : List UInt8 → Option (α × List UInt8)) : ∀ (n : Nat) (s : List UInt8) (l : List α) (r : List UInt8), elemsF f n s = some (l, r) → l.length ≤ n
  | 0, _, _, _, h => by cases h
  | _ + 1, [], _, _, h => by cases h
  | n + 1, c :: q, l, r, h => by
    simp only [elemsF] at h
    split at h
    · injection h with h
      injection h with h1 h2
      subst h1
      simp
    · rcases hx : f (c :: q) with _ | ⟨x, z⟩
      · rw [hx] at h; cases h
      · rw [hx] at h
        simp only at h
        rcases hl : elemsF f n z with _ | ⟨m, y⟩
        · rw [hl] at h; cases h
        · rw [hl] at h
          simp only at h
          injection h with h
          injection h with h1 h2
          subst h1
          have := elemsF_len f n z m y hl
          simp; omega
theorem listP_len {α : Type} {f : List UInt8 → Option (α × List UInt8)} {s : List UInt8} {l : List α} {r : List UInt8} (h : listP f s = some (l, r)) : l.length ≤ s.length := by
  cases s with
  | nil => cases h
  | cons c q =>
    simp only [listP] at h
    split at h
    · have := elemsF_len f _ _ _ _ h; simpa using this
    · cases h
theorem listP_good {α : Type} {f : List UInt8 → Option (α × List UInt8)} {G : α → Prop} (hf : ∀ s x r, f s = some (x, r) → G x) {s : List UInt8} {l : List α} {r : List UInt8} (h : listP f s = some (l, r)) : ∀ x ∈ l, G x := by
  cases s with
  | nil => cases h
  | cons c q =>
    simp only [listP] at h
    split at h
    · exact elemsF_good f G hf _ _ _ _ h
    · cases h
theorem intsP_fits {s : List UInt8} {l : List Int} {r : List UInt8} (h : intsP s = some (l, r)) : ∀ x ∈ l, Fits x := listP_good (fun _ _ _ h => (intP_some h).2) h
theorem intsP_len {s : List UInt8} {l : List Int} {r : List UInt8} (h : intsP s = some (l, r)) : l.length ≤ s.length := listP_len h
theorem txtsP_len {s : List UInt8} {l : List ByteArray} {r : List UInt8} (h : txtsP s = some (l, r)) : l.length ≤ s.length := listP_len h
theorem txtsP_short {s : List UInt8} {l : List ByteArray} {r : List UInt8} (h : txtsP s = some (l, r)) : ∀ x ∈ l, x.size ≤ s.length := by
  have e := txtsP_some h
  intro x hx
  have h1 : (wText x).length ≤ (l.flatMap wText).length := by
    clear h e
    induction l with
    | nil => cases hx
    | cons y l ih =>
      rw [List.flatMap_cons, List.length_append]
      rcases List.mem_cons.1 hx with rfl | hx
      · omega
      · have := ih hx; omega
  have h2 : x.size ≤ (wText x).length := by have := ba_size x; simp [wText]; omega
  have h3 : (l.flatMap wText).length ≤ s.length := by rw [e]; simp [wTexts]; omega
  omega
end Go.Proofs.YtnkbelbalaeieaaDoor.Wr
