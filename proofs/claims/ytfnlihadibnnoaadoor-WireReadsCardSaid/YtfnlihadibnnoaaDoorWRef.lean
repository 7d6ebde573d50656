/- Ints and Texts of the reference, and list of the project: each walked once. -/
import Derived.Test.YtfnlihadibnnoaaDoorWDec
namespace Go.Proofs.YtfnlihadibnnoaaDoor
open Go Go.RowKit Go.Sort Go.Lib

theorem wInt_len' (n : Int) (h : -9223372036854775808 ≤ n ∧ n ≤ 9223372036854775807) : (wInt n).length ≤ 22 := wInt_len n h.1 h.2
set_option maxHeartbeats 1000000 in
theorem refInts_row (b o c : Nat) (l : List Int) (hl : l.length ≤ 100000) (w : World) (hI : IntsAt w b o l) :
    Calls Tryd.prog 17 #[.slice (some ⟨b, o, none⟩) l.length c] w fun e w' => e = .returned (.string ⟨(wInts l).toArray⟩) ∧ RowKit.Below w.heap.size w w' := by
  go_enter Tryd.func17, Tryd.ntmps17
  go_wp2_with fail
  go_loopw [3, 4] (fun x i wr => ∃ (k : Nat) (L : List UInt8), k ≤ l.length ∧ i = .int .i64 k ∧ x = .string ⟨L.toArray⟩ ∧ Hid (L = 91 :: (l.take k).flatMap wInt) ∧ L.length ≤ 1 + k * 22 ∧ RowKit.Below w.heap.size w wr) (fun _ i _ => l.length - (RowKit.intOf i).toNat)
  case atStart => exact ⟨0, [91], Nat.zero_le _, rfl, rfl, Lib.hid (by simp), by simp, Below.refl _ _⟩
  case round =>
    obtain ⟨k, L, hk, rfl, rfl, HL, hL, hbr⟩ := hrel
    by_cases hlt : k < l.length
    · obtain ⟨hc, hn⟩ := (hI.below hbr) k hlt
      have cc := fun w => refInt_any (l.getD k 0) hn.1 hn.2 w
      have HN := Lib.hid (flat_snoc wInt 0 l k hlt)
      generalize l.getD k 0 = n at hc hn cc HN
      have hq : (wInt n).length ≤ 22 := wInt_len _ hn.1 hn.2
      have hz : ¬ 9223372036854775807 < L.length + (wInt n).length := by omega
      have HN2 : Hid (L ++ wInt n = 91 :: (l.take (k + 1)).flatMap wInt) := Lib.hid (by rw [HN.out, HL.out]; simp)
      have hNl : (L ++ wInt n).length ≤ 1 + (k + 1) * 22 := by rw [List.length_append]; omega
      clear HN HL hn
      go_wp2_with fail
      refine (cc _).mono ?_
      rintro x w1 ⟨rfl, hb⟩
      go_wp2_with fail
      exact ⟨⟨k + 1, _, by omega, by go_num, rfl, HN2, hNl, below_next hbr hb⟩, by simp [RowKit.intOf]; omega⟩
    · obtain rfl : k = l.length := by omega
      have HV : Hid (L ++ [93] = wInts l) := Lib.hid (by rw [HL.out, List.take_length]; rfl)
      have hz : ¬ 9223372036854775807 < L.length + 1 := by omega
      clear HL
      go_wp2_with fail
      go_ret
      exact ⟨ret_str (by rw [← HV.out]; exact ba_ext (by simp)), hbr⟩
theorem refInts_nil (w : World) :
    Calls Tryd.prog 17 #[.slice none 0 0] w fun e w' => e = .returned (.string ⟨(wInts []).toArray⟩) ∧ RowKit.Below w.heap.size w w' := by
  go_enter Tryd.func17, Tryd.ntmps17
  go_wp2_with fail
  refine wp_loop_rounds 1 ?_
  rw [rounds_succ]
  go_wp2_with fail
  go_ret
  exact ⟨ret_str (ba_ext (by simp [wInts])), Below.refl _ _⟩
set_option maxHeartbeats 1000000 in
theorem refTexts_row (b o c : Nat) (l : List ByteArray) (hl : l.length ≤ 100000) (w : World) (hI : TxtsAt w b o l) :
    Calls Tryd.prog 19 #[.slice (some ⟨b, o, none⟩) l.length c] w fun e w' => e = .returned (.string ⟨(wTexts l).toArray⟩) ∧ RowKit.Below w.heap.size w w' := by
  go_enter Tryd.func19, Tryd.ntmps19
  go_wp2_with fail
  go_loopw [3, 4] (fun x i wr => ∃ (k : Nat) (L : List UInt8), k ≤ l.length ∧ i = .int .i64 k ∧ x = .string ⟨L.toArray⟩ ∧ Hid (L = 91 :: (l.take k).flatMap wText) ∧ L.length ≤ 1 + k * 1000022 ∧ RowKit.Below w.heap.size w wr) (fun _ i _ => l.length - (RowKit.intOf i).toNat)
  case atStart => exact ⟨0, [91], Nat.zero_le _, rfl, rfl, Lib.hid (by simp), by simp, Below.refl _ _⟩
  case round =>
    obtain ⟨k, L, hk, rfl, rfl, HL, hL, hbr⟩ := hrel
    by_cases hlt : k < l.length
    · obtain ⟨hc, hn⟩ := (hI.below hbr) k hlt
      have cc := fun w => refText_any (l.getD k ⟨#[]⟩) hn w
      have HN := Lib.hid (flat_snoc wText ⟨#[]⟩ l k hlt)
      generalize l.getD k ⟨#[]⟩ = n at hc hn cc HN
      have hq : (wText n).length ≤ 1000022 := by have := wText_len _ hn; omega
      have hz : ¬ 9223372036854775807 < L.length + (wText n).length := by omega
      have HN2 : Hid (L ++ wText n = 91 :: (l.take (k + 1)).flatMap wText) := Lib.hid (by rw [HN.out, HL.out]; simp)
      have hNl : (L ++ wText n).length ≤ 1 + (k + 1) * 1000022 := by rw [List.length_append]; omega
      clear HN HL hn
      go_wp2_with fail
      refine (cc _).mono ?_
      rintro x w1 ⟨rfl, hb⟩
      go_wp2_with fail
      exact ⟨⟨k + 1, _, by omega, by go_num, rfl, HN2, hNl, below_next hbr hb⟩, by simp [RowKit.intOf]; omega⟩
    · obtain rfl : k = l.length := by omega
      have HV : Hid (L ++ [93] = wTexts l) := Lib.hid (by rw [HL.out, List.take_length]; rfl)
      have hz : ¬ 9223372036854775807 < L.length + 1 := by omega
      clear HL
      go_wp2_with fail
      go_ret
      exact ⟨ret_str (by rw [← HV.out]; exact ba_ext (by simp)), hbr⟩
theorem refTexts_nil (w : World) :
    Calls Tryd.prog 19 #[.slice none 0 0] w fun e w' => e = .returned (.string ⟨(wTexts []).toArray⟩) ∧ RowKit.Below w.heap.size w w' := by
  go_enter Tryd.func19, Tryd.ntmps19
  go_wp2_with fail
  refine wp_loop_rounds 1 ?_
  rw [rounds_succ]
  go_wp2_with fail
  go_ret
  exact ⟨ret_str (ba_ext (by simp [wTexts])), Below.refl _ _⟩
end Go.Proofs.YtfnlihadibnnoaaDoor
