/- SameInts and SameTexts of the reference, over all rows: walked once. -/
import Derived.Test.YtfnlihadibnnoaaDoorWEl
import Derived.Test.YtfnlihadibnnoaaDoorWSame
namespace Go.Proofs.YtfnlihadibnnoaaDoor
open Go Go.RowKit Go.Sort Go.Lib

theorem list_ext {α : Type} (d : α) {l m : List α} (h : m.length = l.length) (he : ∀ k, k < l.length → l.getD k d = m.getD k d) : l = m := by
  refine List.ext_getElem h.symm fun k h1 h2 => ?_
  have := he k h1
  rwa [List.getD_eq_getElem?_getD, List.getD_eq_getElem?_getD, List.getElem?_eq_getElem h1, List.getElem?_eq_getElem h2] at this
/-- A value that is a row of Ints, or has none. -/
def IntsV (w : World) (v : Value) (l : List Int) : Prop := ∃ base c, v = .slice base l.length c ∧ (l ≠ [] → ∃ b o, base = some ⟨b, o, none⟩ ∧ IntsAt w b o l)
theorem IntsV.below {w w' : World} {v : Value} {l : List Int} (h : IntsV w v l) (hb : RowKit.Below w.heap.size w w') : IntsV w' v l := by
  obtain ⟨base, c, rfl, h⟩ := h
  refine ⟨base, c, rfl, fun hl => ?_⟩
  obtain ⟨b, o, rfl, h2⟩ := h hl
  exact ⟨b, o, rfl, h2.below hb⟩
set_option maxHeartbeats 1000000 in
theorem sameInts_any (v1 v2 : Value) (l1 l2 : List Int) (h1 : l1.length ≤ 100000000) (w : World) (hA : IntsV w v1 l1) (hB : IntsV w v2 l2) (h2 : l2.length ≤ 100000000) :
    Calls Tryd.prog 26 #[v1, v2] w fun e w' => e = .returned (.bool (decide (l1 = l2))) ∧ RowKit.Below w.heap.size w w' := by
  obtain ⟨a1, c1, rfl, hA⟩ := hA
  obtain ⟨a2, c2, rfl, hB⟩ := hB
  by_cases hl : l1.length = l2.length
  · by_cases he : l1 = []
    · subst he
      obtain rfl : l2 = [] := List.eq_nil_of_length_eq_zero hl.symm
      simp only [List.length_nil, decide_true]
      go_enter Tryd.func26, Tryd.ntmps26
      go_wp2_with fail
      refine wp_loop_rounds 1 ?_
      rw [rounds_succ]
      go_wp2_with fail
      go_ret
      exact ⟨rfl, Below.refl _ _⟩
    · obtain ⟨b1, o1, rfl, hA1⟩ := hA he
      obtain ⟨b2, o2, rfl, hB1⟩ := hB (fun e => he (by rw [e] at hl; exact List.eq_nil_of_length_eq_zero hl))
      have HA := Lib.hid hA1
      have HB := Lib.hid hB1
      have H2 := Lib.hid hl
      rw [← hl]
      clear hA hB hA1 hB1 hl he
      go_enter Tryd.func26, Tryd.ntmps26
      go_wp2_with fail
      go_loopw [5] (fun i wr => ∃ k : Nat, k ≤ l1.length ∧ i = .int .i64 k ∧ RowKit.Below w.heap.size w wr ∧ Hid (∀ j, j < k → l1.getD j 0 = l2.getD j 0)) (fun i _ => l1.length - (RowKit.intOf i).toNat)
      case atStart => exact ⟨0, Nat.zero_le _, rfl, Below.refl _ _, Lib.hid fun j hj => absurd hj (Nat.not_lt_zero j)⟩
      case round =>
        obtain ⟨k, hk, rfl, hbr, HK⟩ := hrel
        by_cases hlt : k < l1.length
        · obtain ⟨x1, -⟩ := (HA.out.below hbr) k hlt
          obtain ⟨x2, -⟩ := (HB.out.below hbr) k (by rw [← H2.out]; exact hlt)
          by_cases hE : l1.getD k 0 = l2.getD k 0
          · have HN : Hid (∀ j, j < k + 1 → l1.getD j 0 = l2.getD j 0) := Lib.hid fun j hj => by
              rcases Nat.lt_or_ge j k with hx | hx
              · exact HK.out j hx
              · obtain rfl : j = k := by omega
                exact hE
            rw [← hE] at x2
            clear hE HK
            generalize l1.getD k 0 = n at x1 x2
            go_wp2_with fail
            go_quiet (fail)
            go_wp2_with fail
            exact ⟨⟨k + 1, by omega, by go_num, below_drawn hbr _, HN⟩, by simp [RowKit.intOf]; omega⟩
          · have HF : Hid (decide (l1 = l2) = false) := Lib.hid (decide_eq_false fun e => hE (by rw [e]))
            clear HK
            generalize l1.getD k 0 = n at x1 hE
            generalize l2.getD k 0 = m at x2 hE
            go_wp2_with fail
            go_quiet (fail)
            go_wp2_with fail
            go_ret
            exact ⟨ret_bool HF.out.symm, below_drawn hbr _⟩
        · obtain rfl : k = l1.length := by omega
          have HF : Hid (decide (l1 = l2) = true) := Lib.hid (decide_eq_true (list_ext 0 H2.out.symm HK.out))
          go_wp2_with fail
          go_ret
          exact ⟨ret_bool HF.out.symm, hbr⟩
  · have HF : Hid (decide (l1 = l2) = false) := Lib.hid (decide_eq_false fun e => hl (by rw [e]))
    have hne : (l1.length : Int) ≠ l2.length := by omega
    go_enter Tryd.func26, Tryd.ntmps26
    go_wp2_with fail
    go_ret
    exact ⟨ret_bool HF.out.symm, Below.refl _ _⟩
/-- A value that is a row of Texts, or has none. -/
def TextsV (w : World) (v : Value) (l : List ByteArray) : Prop := ∃ base c, v = .slice base l.length c ∧ (l ≠ [] → ∃ b o, base = some ⟨b, o, none⟩ ∧ TxtsAt w b o l)
theorem TextsV.below {w w' : World} {v : Value} {l : List ByteArray} (h : TextsV w v l) (hb : RowKit.Below w.heap.size w w') : TextsV w' v l := by
  obtain ⟨base, c, rfl, h⟩ := h
  refine ⟨base, c, rfl, fun hl => ?_⟩
  obtain ⟨b, o, rfl, h2⟩ := h hl
  exact ⟨b, o, rfl, h2.below hb⟩
set_option maxHeartbeats 1000000 in
theorem sameTexts_any (v1 v2 : Value) (l1 l2 : List ByteArray) (h1 : l1.length ≤ 100000000) (w : World) (hA : TextsV w v1 l1) (hB : TextsV w v2 l2) (h2 : l2.length ≤ 100000000) :
    Calls Tryd.prog 29 #[v1, v2] w fun e w' => e = .returned (.bool (decide (l1 = l2))) ∧ RowKit.Below w.heap.size w w' := by
  obtain ⟨a1, c1, rfl, hA⟩ := hA
  obtain ⟨a2, c2, rfl, hB⟩ := hB
  by_cases hl : l1.length = l2.length
  · by_cases he : l1 = []
    · subst he
      obtain rfl : l2 = [] := List.eq_nil_of_length_eq_zero hl.symm
      simp only [List.length_nil, decide_true]
      go_enter Tryd.func29, Tryd.ntmps29
      go_wp2_with fail
      refine wp_loop_rounds 1 ?_
      rw [rounds_succ]
      go_wp2_with fail
      go_ret
      exact ⟨rfl, Below.refl _ _⟩
    · obtain ⟨b1, o1, rfl, hA1⟩ := hA he
      obtain ⟨b2, o2, rfl, hB1⟩ := hB (fun e => he (by rw [e] at hl; exact List.eq_nil_of_length_eq_zero hl))
      have HA := Lib.hid hA1
      have HB := Lib.hid hB1
      have H2 := Lib.hid hl
      rw [← hl]
      clear hA hB hA1 hB1 hl he
      go_enter Tryd.func29, Tryd.ntmps29
      go_wp2_with fail
      go_loopw [5] (fun i wr => ∃ k : Nat, k ≤ l1.length ∧ i = .int .i64 k ∧ RowKit.Below w.heap.size w wr ∧ Hid (∀ j, j < k → l1.getD j ⟨#[]⟩ = l2.getD j ⟨#[]⟩)) (fun i _ => l1.length - (RowKit.intOf i).toNat)
      case atStart => exact ⟨0, Nat.zero_le _, rfl, Below.refl _ _, Lib.hid fun j hj => absurd hj (Nat.not_lt_zero j)⟩
      case round =>
        obtain ⟨k, hk, rfl, hbr, HK⟩ := hrel
        by_cases hlt : k < l1.length
        · obtain ⟨x1, -⟩ := (HA.out.below hbr) k hlt
          obtain ⟨x2, -⟩ := (HB.out.below hbr) k (by rw [← H2.out]; exact hlt)
          by_cases hE : l1.getD k ⟨#[]⟩ = l2.getD k ⟨#[]⟩
          · have HN : Hid (∀ j, j < k + 1 → l1.getD j ⟨#[]⟩ = l2.getD j ⟨#[]⟩) := Lib.hid fun j hj => by
              rcases Nat.lt_or_ge j k with hx | hx
              · exact HK.out j hx
              · obtain rfl : j = k := by omega
                exact hE
            rw [← hE] at x2
            clear hE HK
            generalize l1.getD k ⟨#[]⟩ = n at x1 x2
            go_wp2_with fail
            go_quiet (fail)
            go_wp2_with fail
            exact ⟨⟨k + 1, by omega, by go_num, below_drawn hbr _, HN⟩, by simp [RowKit.intOf]; omega⟩
          · have HF : Hid (decide (l1 = l2) = false) := Lib.hid (decide_eq_false fun e => hE (by rw [e]))
            clear HK
            generalize l1.getD k ⟨#[]⟩ = n at x1 hE
            generalize l2.getD k ⟨#[]⟩ = m at x2 hE
            have hE2 : (n.toList == m.toList) = false := beq_eq_false_iff_ne.2 fun e => hE (ba_ext (by rwa [ByteArray.toList_eq, ByteArray.toList_eq] at e))
            go_wp2_with fail
            go_quiet (fail)
            go_wp2_with fail
            go_ret
            exact ⟨ret_bool HF.out.symm, below_drawn hbr _⟩
        · obtain rfl : k = l1.length := by omega
          have HF : Hid (decide (l1 = l2) = true) := Lib.hid (decide_eq_true (list_ext ⟨#[]⟩ H2.out.symm HK.out))
          go_wp2_with fail
          go_ret
          exact ⟨ret_bool HF.out.symm, hbr⟩
  · have HF : Hid (decide (l1 = l2) = false) := Lib.hid (decide_eq_false fun e => hl (by rw [e]))
    have hne : (l1.length : Int) ≠ l2.length := by omega
    go_enter Tryd.func29, Tryd.ntmps29
    go_wp2_with fail
    go_ret
    exact ⟨ret_bool HF.out.symm, Below.refl _ _⟩
end Go.Proofs.YtfnlihadibnnoaaDoor
