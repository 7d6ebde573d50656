/- SameInts and SameTexts of the reference: walked once. -/
import Derived.Test.YtfnlihadibnnoaaDoorWRef
namespace Go.Proofs.YtfnlihadibnnoaaDoor
open Go Go.RowKit Go.Sort Go.Lib

theorem below_drawn {B : Nat} {a w : World} (h : RowKit.Below B a w) (n : Nat) : RowKit.Below B a (w.drewN n) := ⟨h.os, h.tape, h.output, h.size, h.block⟩
theorem sameInts_row (b1 o1 c1 : Nat) (l1 : List Int) (h1 : l1.length ≤ 100000) (b2 o2 c2 : Nat) (l2 : List Int) (h2 : l2.length = l1.length) (w : World) (hA : IntsAt w b1 o1 l1) (hB : IntsAt w b2 o2 l2) (he : ∀ k, k < l1.length → l1.getD k 0 = l2.getD k 0) :
    Calls Tryd.prog 26 #[.slice (some ⟨b1, o1, none⟩) l1.length c1, .slice (some ⟨b2, o2, none⟩) l2.length c2] w fun e w' => e = .returned (.bool true) ∧ RowKit.Below w.heap.size w w' := by
  have HA := Lib.hid hA
  have HB := Lib.hid hB
  have HE := Lib.hid he
  rw [h2]
  clear hA hB he
  go_enter Tryd.func26, Tryd.ntmps26
  go_wp2_with fail
  go_loopw [5] (fun i wr => ∃ k : Nat, k ≤ l1.length ∧ i = .int .i64 k ∧ RowKit.Below w.heap.size w wr) (fun i _ => l1.length - (RowKit.intOf i).toNat)
  case atStart => exact ⟨0, Nat.zero_le _, rfl, Below.refl _ _⟩
  case round =>
    obtain ⟨k, hk, rfl, hbr⟩ := hrel
    by_cases hlt : k < l1.length
    · obtain ⟨x1, -⟩ := (HA.out.below hbr) k hlt
      obtain ⟨x2, -⟩ := (HB.out.below hbr) k (by omega)
      rw [← HE.out k hlt] at x2
      generalize l1.getD k 0 = n at x1 x2
      go_wp2_with fail
      go_quiet (fail)
      go_wp2_with fail
      exact ⟨⟨k + 1, by omega, by go_num, below_drawn hbr _⟩, by simp [RowKit.intOf]; omega⟩
    · obtain rfl : k = l1.length := by omega
      go_wp2_with fail
      go_ret
      exact ⟨rfl, hbr⟩
theorem sameTexts_row (b1 o1 c1 : Nat) (l1 : List ByteArray) (h1 : l1.length ≤ 100000) (b2 o2 c2 : Nat) (l2 : List ByteArray) (h2 : l2.length = l1.length) (w : World) (hA : TxtsAt w b1 o1 l1) (hB : TxtsAt w b2 o2 l2) (he : ∀ k, k < l1.length → l1.getD k ⟨#[]⟩ = l2.getD k ⟨#[]⟩) :
    Calls Tryd.prog 29 #[.slice (some ⟨b1, o1, none⟩) l1.length c1, .slice (some ⟨b2, o2, none⟩) l2.length c2] w fun e w' => e = .returned (.bool true) ∧ RowKit.Below w.heap.size w w' := by
  have HA := Lib.hid hA
  have HB := Lib.hid hB
  have HE := Lib.hid he
  rw [h2]
  clear hA hB he
  go_enter Tryd.func29, Tryd.ntmps29
  go_wp2_with fail
  go_loopw [5] (fun i wr => ∃ k : Nat, k ≤ l1.length ∧ i = .int .i64 k ∧ RowKit.Below w.heap.size w wr) (fun i _ => l1.length - (RowKit.intOf i).toNat)
  case atStart => exact ⟨0, Nat.zero_le _, rfl, Below.refl _ _⟩
  case round =>
    obtain ⟨k, hk, rfl, hbr⟩ := hrel
    by_cases hlt : k < l1.length
    · obtain ⟨x1, -⟩ := (HA.out.below hbr) k hlt
      obtain ⟨x2, -⟩ := (HB.out.below hbr) k (by omega)
      rw [← HE.out k hlt] at x2
      generalize l1.getD k ⟨#[]⟩ = n at x1 x2
      go_wp2_with fail
      go_quiet (fail)
      go_wp2_with fail
      exact ⟨⟨k + 1, by omega, by go_num, below_drawn hbr _⟩, by simp [RowKit.intOf]; omega⟩
    · obtain rfl : k = l1.length := by omega
      go_wp2_with fail
      go_ret
      exact ⟨rfl, hbr⟩
end Go.Proofs.YtfnlihadibnnoaaDoor
