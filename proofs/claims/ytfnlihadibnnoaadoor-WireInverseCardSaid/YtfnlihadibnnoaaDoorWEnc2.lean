/- Two serializations are equal where the values are, and none is the other's beginning. -/
import Derived.Test.YtfnlihadibnnoaaDoorWEnc
namespace Go.Proofs.YtfnlihadibnnoaaDoor
open Go Go.RowKit Go.Sort Go.Lib

theorem pre_eq {α : Type} {P : List UInt8 → Option (α × List UInt8)} {enc : α → List UInt8} {G : α → Prop} (hw : ∀ x, G x → ∀ r, P (enc x ++ r) = some (x, r)) {x y : α} (hx : G x) (hy : G y) {q : List UInt8} (h : enc y = enc x ++ q) : x = y := by
  have h1 := hw y hy []
  rw [List.append_nil, h, hw x hx] at h1
  injection h1 with h1
  injection h1 with h1 h2
theorem same_of {α : Type} [DecidableEq α] {P : List UInt8 → Option (α × List UInt8)} {enc : α → List UInt8} {G : α → Prop} (hw : ∀ x, G x → ∀ r, P (enc x ++ r) = some (x, r)) {x y : α} (hx : G x) (hy : G y) :
    (enc x == enc y) = decide (x = y) ∧ ((enc x).take (min (enc x).length (enc y).length) == (enc y).take (min (enc x).length (enc y).length)) = decide (x = y) := by
  by_cases h : x = y
  · subst h; simp
  · rw [decide_eq_false h, beq_eq_false_iff_ne, beq_eq_false_iff_ne]
    refine ⟨fun e => h (pre_eq hw hx hy (q := []) (by rw [e, List.append_nil])), fun e => h ?_⟩
    rcases Nat.le_total (enc x).length (enc y).length with hl | hl
    · rw [Nat.min_eq_left hl, List.take_length] at e
      exact pre_eq hw hx hy (q := (enc y).drop (enc x).length) (by
        conv => lhs; rw [← List.take_append_drop (enc x).length (enc y)]
        rw [← e])
    · rw [Nat.min_eq_right hl, List.take_length] at e
      exact (pre_eq hw hy hx (q := (enc x).drop (enc y).length) (by
        conv => lhs; rw [← List.take_append_drop (enc y).length (enc x)]
        rw [e])).symm
/-- Two values are the same, by the function of a number. -/
def sameK (k : Nat) (x y : Val) : Bool := match k with | 0 => decide (x.n = y.n) | 1 => decide (clip x.s = clip y.s) | 2 => decide (x.L.take 20 = y.L.take 20) | _ => decide (cutL x.T = cutL y.T)
theorem encK_same (k : Nat) {x y : Val} (hx : x.Ok) (hy : y.Ok) : (encK k x == encK k y) = sameK k x y ∧ ((encK k x).take (min (encK k x).length (encK k y).length) == (encK k y).take (min (encK k x).length (encK k y).length)) = sameK k x y := by
  rcases k with _ | _ | _ | k
  · exact same_of (fun _ h r => intP_int h r) hx.1 hy.1
  · exact same_of (G := fun t => t.size ≤ 100000000) (fun _ h r => txtP_text h r) (by have := clip_size x.s; omega) (by have := clip_size y.s; omega)
  · exact same_of (G := fun l => ∀ y ∈ l, Fits y) (fun _ h r => intsP_ints h r) (fun z hz => hx.2 z (List.mem_of_mem_take hz)) (fun z hz => hy.2 z (List.mem_of_mem_take hz))
  · exact same_of (x := cutL x.T) (y := cutL y.T) (G := fun l => ∀ y ∈ l, y.size ≤ 100000000) (fun _ h r => txtsP_txts h r) (fun z hz => by have := cutL_short x.T z hz; omega) (fun z hz => by have := cutL_short y.T z hz; omega)
end Go.Proofs.YtfnlihadibnnoaaDoor
