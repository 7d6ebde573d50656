/- The serialization of a value by its kind, and what a truncated one decodes to: nothing. -/
import Derived.Test.YtfnlihadibnnoaaDoorWArg
import Derived.Test.YtfnlihadibnnoaaDoorWPl2
namespace Go.Proofs.YtfnlihadibnnoaaDoor
open Go Go.RowKit Go.Sort Go.Lib

theorem map_add0 (A : Option Addr) : A.map (fun x => x.add 0) = A := by cases A <;> simp [add_zero]
theorem Shape.gen {v : Value} {n : Nat} (h : Shape v n) : ∃ A c, v = .slice A n c ∧ n ≤ c ∧ c ≤ 9223372036854775807 := by
  rcases h with ⟨rfl, rfl⟩ | ⟨a, c, rfl, h1, h2⟩
  · exact ⟨none, 0, rfl, Nat.le_refl _, by omega⟩
  · exact ⟨some a, c, rfl, h1, h2⟩
theorem IntsAt.take {w : World} {b o : Nat} {l : List Int} (h : IntsAt w b o l) (n : Nat) : IntsAt w b o (l.take n) := fun k hk => by
  rw [List.length_take] at hk
  rw [takeD (by omega)]
  exact h k (by omega)
theorem IntsV.take {w : World} {a : Option Addr} {c n0 : Nat} {l : List Int} (h : IntsV w (.slice a n0 c) l) (n c' : Nat) : IntsV w (.slice a (l.take n).length c') (l.take n) := by
  obtain ⟨base, c2, e, h⟩ := h
  injection e with e1 e2 e3
  subst e1
  refine ⟨_, _, rfl, fun hn => ?_⟩
  obtain ⟨b, o, e, h2⟩ := h (fun e => hn (by rw [e]; simp))
  exact ⟨b, o, e, h2.take n⟩
theorem IntsV.fits {w : World} {v : Value} {l : List Int} (h : IntsV w v l) : ∀ x ∈ l, Fits x := by
  intro x hx
  obtain ⟨base, c, rfl, h⟩ := h
  obtain ⟨b, o, rfl, h2⟩ := h (fun e => by rw [e] at hx; cases hx)
  obtain ⟨k, hk, rfl⟩ := List.getElem_of_mem hx
  have := (h2 k hk).2
  rw [List.getD_eq_getElem?_getD, List.getElem?_eq_getElem hk] at this
  exact this
/-- The serialization of a value by the function of a number. -/
def encK (k : Nat) (x : Val) : List UInt8 := match k with | 0 => wInt x.n | 1 => wText (clip x.s) | 2 => wInts (x.L.take 20) | _ => wTexts (cutL x.T)
/-- A value whose numbers fit. -/
def Val.Ok (x : Val) : Prop := Fits x.n ∧ ∀ y ∈ x.L, Fits y
theorem ValAt.ok {w : World} {c0 c1 c2 c3 c4 : Value} {x : Val} (h : ValAt w c0 c1 c2 c3 c4 x) : x.Ok := ⟨h.2.2.1, h.2.2.2.2.1.1.fits⟩
theorem row4_at (w : World) (s0 s1 s2 s3 : ByteArray) (T : TypeId) {k : Nat} (hk : k ≤ 3) : (w.alloc (.cells #[.string s0, .string s1, .string s2, .string s3] T)).cell? ⟨w.heap.size, k, none⟩ = some (.string (match k with | 0 => s0 | 1 => s1 | 2 => s2 | _ => s3)) := by
  obtain rfl | rfl | rfl | rfl : k = 0 ∨ k = 1 ∨ k = 2 ∨ k = 3 := by omega
  · exact Lib.cell_of_heap (heap_alloc_new w _) 0
  · exact Lib.cell_of_heap (heap_alloc_new w _) 1
  · exact Lib.cell_of_heap (heap_alloc_new w _) 2
  · exact Lib.cell_of_heap (heap_alloc_new w _) 3
theorem enc_at (w : World) (x : Val) (T : TypeId) {k : Nat} (hk : k ≤ 3) : (w.alloc (.cells #[.string ⟨(wInt x.n).toArray⟩, .string ⟨(wText (clip x.s)).toArray⟩, .string ⟨(wInts (x.L.take 20)).toArray⟩, .string ⟨(wTexts (cutL x.T)).toArray⟩] T)).cell? ⟨w.heap.size, k, none⟩ = some (.string ⟨(encK k x).toArray⟩) := by
  rw [row4_at w _ _ _ _ T hk]
  obtain rfl | rfl | rfl | rfl : k = 0 ∨ k = 1 ∨ k = 2 ∨ k = 3 := by omega
  all_goals rfl
theorem flat_le {α : Type} (f : α → List UInt8) (n : Nat) (l : List α) (h : ∀ x ∈ l, (f x).length ≤ n) (m : Nat) (hm : l.length ≤ m) : (l.flatMap f).length ≤ m * n :=
  Nat.le_trans (flat_len f n l h) (Nat.mul_le_mul_right n hm)
theorem encK_len (k : Nat) (x : Val) (hx : x.Ok) : 0 < (encK k x).length ∧ (encK k x).length ≤ 5000 := by
  unfold encK
  split
  · have := wInt_len x.n hx.1.1 hx.1.2
    exact ⟨by simp [wInt], by omega⟩
  · have h1 := clip_size x.s
    have := wText_len (clip x.s) (by omega)
    exact ⟨by simp [wText]; omega, by omega⟩
  · have := flat_le wInt 22 (x.L.take 20) (fun y hy => by have := hx.2 y (List.mem_of_mem_take hy); exact wInt_len y this.1 this.2) 20 (by rw [List.length_take]; omega)
    exact ⟨by simp [wInts], by simp only [wInts, List.length_cons, List.length_append, List.length_nil]; omega⟩
  · have := flat_le wText 122 (cutL x.T) (fun y hy => by have h1 := cutL_short _ y hy; have := wText_len y (by omega); omega) 20 (cutL_len _)
    exact ⟨by simp [wTexts], by simp only [wTexts, List.length_cons, List.length_append, List.length_nil]; omega⟩
/-- A decoder that reads what was written, and reads nothing else, reads nothing of a part. -/
theorem part_none {α : Type} {P : List UInt8 → Option (α × List UInt8)} {enc : α → List UInt8} {G : α → Prop} (hw : ∀ x, G x → ∀ r, P (enc x ++ r) = some (x, r)) {s q : List UInt8} (hs : ∀ x r, P s = some (x, r) → s = enc x ++ r ∧ G x) {x : α} (hx : G x) (h : enc x = s ++ q) (hq : q ≠ []) : P s = none := by
  rcases hp : P s with _ | ⟨y, r⟩
  · rfl
  · obtain ⟨e, hy⟩ := hs y r hp
    have h1 := hw x hx []
    rw [List.append_nil, h, e, List.append_assoc, hw y hy] at h1
    injection h1 with h1
    injection h1 with h1 h2
    exact absurd (List.append_eq_nil_iff.1 h2).2 hq
theorem trunc_none {k : Nat} {x : Val} (hx : x.Ok) {s q : List UInt8} (h : encK k x = s ++ q) (hq : q ≠ []) : decN k s := by
  have hl : s.length ≤ 5000 := by have := (encK_len k x hx).2; rw [h, List.length_append] at this; omega
  unfold decN
  unfold encK at h
  split at h
  · exact part_none (fun _ h r => intP_int h r) (fun _ _ h => intP_some h) hx.1 h hq
  · exact part_none (G := fun t => t.size ≤ 100000000) (fun _ h r => txtP_text h r) (fun _ _ h => ⟨(txtP_some h).1, by have := (txtP_some h).2; omega⟩) (by have := clip_size x.s; omega) h hq
  · exact part_none (G := fun l => ∀ y ∈ l, Fits y) (fun _ h r => intsP_ints h r) (fun _ _ h => ⟨intsP_some h, listP_good (fun _ _ _ h => (intP_some h).2) h⟩) (fun y hy => hx.2 y (List.mem_of_mem_take hy)) h hq
  · rename_i h0 h1 h2
    have e : decN k s = (txtsP s = none) := by
      unfold decN
      split
      · exact absurd rfl h0
      · exact absurd rfl h1
      · exact absurd rfl h2
      · rfl
    have hp := part_none (P := txtsP) (G := fun l => ∀ y ∈ l, y.size ≤ 100000000) (fun _ h r => txtsP_txts h r) (fun _ _ h => ⟨txtsP_some h, fun y hy => by have := txtsP_short h y hy; omega⟩) (fun y hy => by have := cutL_short _ y hy; omega) h hq
    rw [← e] at hp
    exact hp
end Go.Proofs.YtfnlihadibnnoaaDoor
