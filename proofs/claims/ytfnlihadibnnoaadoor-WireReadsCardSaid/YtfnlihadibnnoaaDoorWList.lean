/- Ints and Texts of the project: list, walked once for each. -/
import Derived.Test.YtfnlihadibnnoaaDoorWRef
namespace Go.Proofs.YtfnlihadibnnoaaDoor
open Go Go.RowKit Go.Sort Go.Lib

theorem byteCells_snoc (l : List UInt8) (c : UInt8) : Lib.byteCells l ++ [.int .u8 c.toNat] = Lib.byteCells (l ++ [c]) := by simp [Lib.byteCells]
/-- Builder.WriteByte. -/
theorem bld_byte (B b : Nat) (l : List UInt8) (c : UInt8) (w : World) (h : Bld B b l w) (hlen : l.length + 1 ≤ 140000000000000) :
    Calls Tryd.prog 50 #[.pointer (some ⟨b, 0, none⟩), .int .u8 c.toNat] w fun e w' => e = .returned .nilIface ∧ Bld B b (l ++ [c]) w' ∧ RowKit.Below B w w' :=
  (Tryd.Builder_WriteByte_k B b (Lib.byteCells l) c.toNat w h.1 (by rw [Lib.byteCells_length]; omega) h.2).mono fun _ _ ⟨he, hb, hl, _⟩ => ⟨he, ⟨.inr (by rw [← byteCells_snoc]; exact hb), Nat.le_trans h.2 hl.size⟩, hl⟩
theorem bld_str (B b : Nat) (l m : List UInt8) (w : World) (h : Bld B b l w) (hlen : l.length + m.length ≤ 140000000000000) :
    Calls Tryd.prog 51 #[.pointer (some ⟨b, 0, none⟩), .string ⟨m.toArray⟩] w fun e w' => e = .returned (.tuple #[.int .i64 m.length, .nilIface]) ∧ Bld B b (l ++ m) w' ∧ RowKit.Below B w w' := by
  have h1 : (⟨m.toArray⟩ : ByteArray).size = m.length := by simp [ByteArray.size]
  have := Tryd.Builder_WriteString_k B b (Lib.byteCells l) ⟨m.toArray⟩ w h.1 (by rw [Lib.byteCells_length, h1]; omega) h.2
  rw [h1] at this
  exact this.mono fun e w' ⟨he, hb, hl, _⟩ => ⟨he, ⟨.inr (by rw [← byteCells_app]; exact hb), Nat.le_trans h.2 hl.size⟩, hl⟩
set_option maxHeartbeats 1000000 in
theorem listInt_row (b o c : Nat) (l : List Int) (hl : l.length ≤ 100000) (w : World) (hI : IntsAt w b o l) (ht : Tabs w) :
    Calls Tryd.prog 40 #[.slice (some ⟨b, o, none⟩) l.length c, .func (Fn.func 12) #[] #[]] w fun e w' => e = .returned (.string ⟨(wInts l).toArray⟩) ∧ RowKit.Below w.heap.size w w' := by
  have hb0 := below_alloc1 w (.cells #[.pointer none, .slice none 0 0] 67)
  have hB0 := Bld.new w
  go_enter Tryd.func40, Tryd.ntmps40
  go_wp2_with fail
  refine (bld_byte _ _ _ 91 _ hB0 (by simp)).mono ?_
  rintro x w1 ⟨rfl, hB1, hb1⟩
  replace hb1 := hb0.trans hb1
  clear hB0 hb0
  go_wp2_with fail
  go_loopw [11] (fun i wr => ∃ (k : Nat) (L : List UInt8), k ≤ l.length ∧ i = .int .i64 k ∧ Hid (L = 91 :: (l.take k).flatMap wInt) ∧ L.length ≤ 1 + k * 22 ∧ Bld w.heap.size w.heap.size L wr ∧ RowKit.Below w.heap.size w wr) (fun i _ => l.length - (RowKit.intOf i).toNat)
  case atStart => exact ⟨0, [91], Nat.zero_le _, rfl, Lib.hid (by simp), by simp, hB1, hb1⟩
  case round =>
    obtain ⟨k, L, hk, rfl, HL, hL, hB, hbr⟩ := hrel
    by_cases hlt : k < l.length
    · obtain ⟨hc, hn⟩ := (hI.below hbr) k hlt
      have cc := fun w ht => wireInt_any (l.getD k 0) w hn.1 hn.2 ht
      have HN := Lib.hid (flat_snoc wInt 0 l k hlt)
      generalize l.getD k 0 = n at hc hn cc HN
      have hq : (wInt n).length ≤ 22 := wInt_len _ hn.1 hn.2
      have HN2 : Hid (L ++ wInt n = 91 :: (l.take (k + 1)).flatMap wInt) := Lib.hid (by rw [HN.out, HL.out]; simp)
      have hNl : (L ++ wInt n).length ≤ 1 + (k + 1) * 22 := by rw [List.length_append]; omega
      clear HN HL hn hB1 hb1
      go_wp2_with fail
      refine (cc _ (ht.below hbr)).mono ?_
      rintro x w2 ⟨rfl, hb2⟩
      replace hB := hB.below hb2
      replace hbr := below_next hbr hb2
      clear hb2 hc
      go_wp2_with fail
      refine (bld_str _ _ _ _ _ hB (by omega)).mono ?_
      rintro x w3 ⟨rfl, hB3, hb3⟩
      replace hbr := hbr.trans hb3
      clear hb3 hB
      go_wp2_with fail
      exact ⟨⟨k + 1, _, by omega, by go_num, HN2, hNl, hB3, hbr⟩, by simp [RowKit.intOf]; omega⟩
    · obtain rfl : k = l.length := by omega
      have HV : Hid (L ++ [93] = wInts l) := Lib.hid (by rw [HL.out, List.take_length]; rfl)
      clear HL hB1 hb1
      go_wp2_with fail
      refine (bld_byte _ _ _ 93 _ hB (by omega)).mono ?_
      rintro x w3 ⟨rfl, hB3, hb3⟩
      replace hbr := hbr.trans hb3
      go_wp2_with fail
      refine (bld_string _ _ _ _ hB3).mono ?_
      rintro x w4 ⟨rfl, _, hb4, _⟩
      replace hbr := hbr.trans hb4
      go_wp2_with fail
      go_ret
      exact ⟨ret_str (by rw [HV.out]), hbr⟩
theorem listInt_nil (w : World) :
    Calls Tryd.prog 40 #[.slice none 0 0, .func (Fn.func 12) #[] #[]] w fun e w' => e = .returned (.string ⟨(wInts []).toArray⟩) ∧ RowKit.Below w.heap.size w w' := by
  have hb0 := below_alloc1 w (.cells #[.pointer none, .slice none 0 0] 67)
  have hB0 := Bld.new w
  go_enter Tryd.func40, Tryd.ntmps40
  go_wp2_with fail
  refine (bld_byte _ _ _ 91 _ hB0 (by simp)).mono ?_
  rintro x w1 ⟨rfl, hB1, hb1⟩
  replace hb1 := hb0.trans hb1
  clear hB0 hb0
  go_wp2_with fail
  refine wp_loop_rounds 1 ?_
  rw [rounds_succ]
  go_wp2_with fail
  refine (bld_byte _ _ _ 93 _ hB1 (by simp)).mono ?_
  rintro x w3 ⟨rfl, hB3, hb3⟩
  go_wp2_with fail
  refine (bld_string _ _ _ _ hB3).mono ?_
  rintro x w4 ⟨rfl, _, hb4, _⟩
  go_wp2_with fail
  go_ret
  exact ⟨ret_str (ba_ext (by simp [wInts])), (hb1.trans hb3).trans hb4⟩
theorem wireInts_row (b o c : Nat) (l : List Int) (hl : l.length ≤ 100000) (w : World) (hI : IntsAt w b o l) (ht : Tabs w) :
    Calls Tryd.prog 16 #[.slice (some ⟨b, o, none⟩) l.length c] w fun e w' => e = .returned (.string ⟨(wInts l).toArray⟩) ∧ RowKit.Below w.heap.size w w' := by
  go_enter Tryd.func16, Tryd.ntmps16
  go_wp2_with fail
  refine (listInt_row b o c l hl _ hI ht).mono ?_
  rintro x w1 ⟨rfl, hb⟩
  go_wp2_with fail
  go_ret
  exact ⟨rfl, hb⟩
theorem wireInts_nil (w : World) :
    Calls Tryd.prog 16 #[.slice none 0 0] w fun e w' => e = .returned (.string ⟨(wInts []).toArray⟩) ∧ RowKit.Below w.heap.size w w' := by
  go_enter Tryd.func16, Tryd.ntmps16
  go_wp2_with fail
  refine (listInt_nil _).mono ?_
  rintro x w1 ⟨rfl, hb⟩
  go_wp2_with fail
  go_ret
  exact ⟨rfl, hb⟩
set_option maxHeartbeats 1000000 in
theorem listText_row (b o c : Nat) (l : List ByteArray) (hl : l.length ≤ 100000) (w : World) (hI : TxtsAt w b o l) (ht : Tabs w) :
    Calls Tryd.prog 41 #[.slice (some ⟨b, o, none⟩) l.length c, .func (Fn.func 14) #[] #[]] w fun e w' => e = .returned (.string ⟨(wTexts l).toArray⟩) ∧ RowKit.Below w.heap.size w w' := by
  have hb0 := below_alloc1 w (.cells #[.pointer none, .slice none 0 0] 67)
  have hB0 := Bld.new w
  go_enter Tryd.func41, Tryd.ntmps41
  go_wp2_with fail
  refine (bld_byte _ _ _ 91 _ hB0 (by simp)).mono ?_
  rintro x w1 ⟨rfl, hB1, hb1⟩
  replace hb1 := hb0.trans hb1
  clear hB0 hb0
  go_wp2_with fail
  go_loopw [11] (fun i wr => ∃ (k : Nat) (L : List UInt8), k ≤ l.length ∧ i = .int .i64 k ∧ Hid (L = 91 :: (l.take k).flatMap wText) ∧ L.length ≤ 1 + k * 1000022 ∧ Bld w.heap.size w.heap.size L wr ∧ RowKit.Below w.heap.size w wr) (fun i _ => l.length - (RowKit.intOf i).toNat)
  case atStart => exact ⟨0, [91], Nat.zero_le _, rfl, Lib.hid (by simp), by simp, hB1, hb1⟩
  case round =>
    obtain ⟨k, L, hk, rfl, HL, hL, hB, hbr⟩ := hrel
    by_cases hlt : k < l.length
    · obtain ⟨hc, hn⟩ := (hI.below hbr) k hlt
      have cc := fun w ht => wireText_any (l.getD k ⟨#[]⟩) w hn ht
      have HN := Lib.hid (flat_snoc wText ⟨#[]⟩ l k hlt)
      generalize l.getD k ⟨#[]⟩ = n at hc hn cc HN
      have hq : (wText n).length ≤ 1000022 := by have := wText_len _ hn; omega
      have HN2 : Hid (L ++ wText n = 91 :: (l.take (k + 1)).flatMap wText) := Lib.hid (by rw [HN.out, HL.out]; simp)
      have hNl : (L ++ wText n).length ≤ 1 + (k + 1) * 1000022 := by rw [List.length_append]; omega
      clear HN HL hn hB1 hb1
      go_wp2_with fail
      refine (cc _ (ht.below hbr)).mono ?_
      rintro x w2 ⟨rfl, hb2⟩
      replace hB := hB.below hb2
      replace hbr := below_next hbr hb2
      clear hb2 hc
      go_wp2_with fail
      refine (bld_str _ _ _ _ _ hB (by omega)).mono ?_
      rintro x w3 ⟨rfl, hB3, hb3⟩
      replace hbr := hbr.trans hb3
      clear hb3 hB
      go_wp2_with fail
      exact ⟨⟨k + 1, _, by omega, by go_num, HN2, hNl, hB3, hbr⟩, by simp [RowKit.intOf]; omega⟩
    · obtain rfl : k = l.length := by omega
      have HV : Hid (L ++ [93] = wTexts l) := Lib.hid (by rw [HL.out, List.take_length]; rfl)
      clear HL hB1 hb1
      go_wp2_with fail
      refine (bld_byte _ _ _ 93 _ hB (by omega)).mono ?_
      rintro x w3 ⟨rfl, hB3, hb3⟩
      replace hbr := hbr.trans hb3
      go_wp2_with fail
      refine (bld_string _ _ _ _ hB3).mono ?_
      rintro x w4 ⟨rfl, _, hb4, _⟩
      replace hbr := hbr.trans hb4
      go_wp2_with fail
      go_ret
      exact ⟨ret_str (by rw [HV.out]), hbr⟩
theorem listText_nil (w : World) :
    Calls Tryd.prog 41 #[.slice none 0 0, .func (Fn.func 14) #[] #[]] w fun e w' => e = .returned (.string ⟨(wTexts []).toArray⟩) ∧ RowKit.Below w.heap.size w w' := by
  have hb0 := below_alloc1 w (.cells #[.pointer none, .slice none 0 0] 67)
  have hB0 := Bld.new w
  go_enter Tryd.func41, Tryd.ntmps41
  go_wp2_with fail
  refine (bld_byte _ _ _ 91 _ hB0 (by simp)).mono ?_
  rintro x w1 ⟨rfl, hB1, hb1⟩
  replace hb1 := hb0.trans hb1
  clear hB0 hb0
  go_wp2_with fail
  refine wp_loop_rounds 1 ?_
  rw [rounds_succ]
  go_wp2_with fail
  refine (bld_byte _ _ _ 93 _ hB1 (by simp)).mono ?_
  rintro x w3 ⟨rfl, hB3, hb3⟩
  go_wp2_with fail
  refine (bld_string _ _ _ _ hB3).mono ?_
  rintro x w4 ⟨rfl, _, hb4, _⟩
  go_wp2_with fail
  go_ret
  exact ⟨ret_str (ba_ext (by simp [wTexts])), (hb1.trans hb3).trans hb4⟩
theorem wireTexts_row (b o c : Nat) (l : List ByteArray) (hl : l.length ≤ 100000) (w : World) (hI : TxtsAt w b o l) (ht : Tabs w) :
    Calls Tryd.prog 18 #[.slice (some ⟨b, o, none⟩) l.length c] w fun e w' => e = .returned (.string ⟨(wTexts l).toArray⟩) ∧ RowKit.Below w.heap.size w w' := by
  go_enter Tryd.func18, Tryd.ntmps18
  go_wp2_with fail
  refine (listText_row b o c l hl _ hI ht).mono ?_
  rintro x w1 ⟨rfl, hb⟩
  go_wp2_with fail
  go_ret
  exact ⟨rfl, hb⟩
theorem wireTexts_nil (w : World) :
    Calls Tryd.prog 18 #[.slice none 0 0] w fun e w' => e = .returned (.string ⟨(wTexts []).toArray⟩) ∧ RowKit.Below w.heap.size w w' := by
  go_enter Tryd.func18, Tryd.ntmps18
  go_wp2_with fail
  refine (listText_nil _).mono ?_
  rintro x w1 ⟨rfl, hb⟩
  go_wp2_with fail
  go_ret
  exact ⟨rfl, hb⟩
end Go.Proofs.YtfnlihadibnnoaaDoor
