/- Ints and Texts of both packages, over every value that is a row. -/
import Derived.Test.YtfnlihadibnnoaaDoorWSan2
namespace Go.Proofs.YtfnlihadibnnoaaDoor
open Go Go.RowKit Go.Sort Go.Lib

theorem listInt_empty (base : Option Addr) (c : Nat) (w : World) :
    Calls Tryd.prog 40 #[.slice base 0 c, .func (Fn.func 12) #[] #[]] w fun e w' => e = .returned (.string ⟨(wInts []).toArray⟩) ∧ RowKit.Below w.heap.size w w' := by
  have hb0 := below_alloc1 w (.cells #[.pointer none, .slice none 0 0] 67)
  have hB0 := Bld.new w
  go_enter Tryd.func40, Tryd.ntmps40
  go_wp2_with fail
  refine (bld_byte _ _ _ 91 _ hB0 (by simp)).mono ?_
  rintro x w1 ⟨rfl, hB1, hb1⟩
  replace hb1 := hb0.trans hb1
  clear hB0 hb0
  go_wp2_with fail
  refine wp_loop_rounds 1 ?_
  rw [rounds_succ]
  go_wp2_with fail
  refine (bld_byte _ _ _ 93 _ hB1 (by simp)).mono ?_
  rintro x w3 ⟨rfl, hB3, hb3⟩
  go_wp2_with fail
  refine (bld_string _ _ _ _ hB3).mono ?_
  rintro x w4 ⟨rfl, _, hb4, _⟩
  go_wp2_with fail
  go_ret
  exact ⟨ret_str (ba_ext (by simp [wInts])), (hb1.trans hb3).trans hb4⟩
theorem wireIntsV_any (v : Value) (l : List Int) (hl : l.length ≤ 100000) (w : World) (hV : IntsV w v l) (ht : Tabs w) :
    Calls Tryd.prog 16 #[v] w fun e w' => e = .returned (.string ⟨(wInts l).toArray⟩) ∧ RowKit.Below w.heap.size w w' := by
  obtain ⟨base, c, rfl, hV⟩ := hV
  by_cases hn : l = []
  · subst hn
    go_enter Tryd.func16, Tryd.ntmps16
    go_wp2_with fail
    refine (listInt_empty _ _ _).mono ?_
    rintro x w1 ⟨rfl, hb⟩
    go_wp2_with fail
    go_ret
    exact ⟨rfl, hb⟩
  · obtain ⟨b, o, rfl, h⟩ := hV hn
    exact wireInts_row b o c l hl w h ht
theorem refInts_empty (base : Option Addr) (c : Nat) (w : World) :
    Calls Tryd.prog 17 #[.slice base 0 c] w fun e w' => e = .returned (.string ⟨(wInts []).toArray⟩) ∧ RowKit.Below w.heap.size w w' := by
  go_enter Tryd.func17, Tryd.ntmps17
  go_wp2_with fail
  refine wp_loop_rounds 1 ?_
  rw [rounds_succ]
  go_wp2_with fail
  go_ret
  exact ⟨ret_str (ba_ext (by simp [wInts])), Below.refl _ _⟩
theorem refIntsV_any (v : Value) (l : List Int) (hl : l.length ≤ 100000) (w : World) (hV : IntsV w v l) :
    Calls Tryd.prog 17 #[v] w fun e w' => e = .returned (.string ⟨(wInts l).toArray⟩) ∧ RowKit.Below w.heap.size w w' := by
  obtain ⟨base, c, rfl, hV⟩ := hV
  by_cases hn : l = []
  · subst hn
    exact refInts_empty _ _ _
  · obtain ⟨b, o, rfl, h⟩ := hV hn
    exact refInts_row b o c l hl w h
theorem listText_empty (base : Option Addr) (c : Nat) (w : World) :
    Calls Tryd.prog 41 #[.slice base 0 c, .func (Fn.func 14) #[] #[]] w fun e w' => e = .returned (.string ⟨(wTexts []).toArray⟩) ∧ RowKit.Below w.heap.size w w' := by
  have hb0 := below_alloc1 w (.cells #[.pointer none, .slice none 0 0] 67)
  have hB0 := Bld.new w
  go_enter Tryd.func41, Tryd.ntmps41
  go_wp2_with fail
  refine (bld_byte _ _ _ 91 _ hB0 (by simp)).mono ?_
  rintro x w1 ⟨rfl, hB1, hb1⟩
  replace hb1 := hb0.trans hb1
  clear hB0 hb0
  go_wp2_with fail
  refine wp_loop_rounds 1 ?_
  rw [rounds_succ]
  go_wp2_with fail
  refine (bld_byte _ _ _ 93 _ hB1 (by simp)).mono ?_
  rintro x w3 ⟨rfl, hB3, hb3⟩
  go_wp2_with fail
  refine (bld_string _ _ _ _ hB3).mono ?_
  rintro x w4 ⟨rfl, _, hb4, _⟩
  go_wp2_with fail
  go_ret
  exact ⟨ret_str (ba_ext (by simp [wTexts])), (hb1.trans hb3).trans hb4⟩
theorem wireTextsV_any (v : Value) (l : List ByteArray) (hl : l.length ≤ 100000) (w : World) (hV : TextsV w v l) (ht : Tabs w) :
    Calls Tryd.prog 18 #[v] w fun e w' => e = .returned (.string ⟨(wTexts l).toArray⟩) ∧ RowKit.Below w.heap.size w w' := by
  obtain ⟨base, c, rfl, hV⟩ := hV
  by_cases hn : l = []
  · subst hn
    go_enter Tryd.func18, Tryd.ntmps18
    go_wp2_with fail
    refine (listText_empty _ _ _).mono ?_
    rintro x w1 ⟨rfl, hb⟩
    go_wp2_with fail
    go_ret
    exact ⟨rfl, hb⟩
  · obtain ⟨b, o, rfl, h⟩ := hV hn
    exact wireTexts_row b o c l hl w h ht
theorem refTexts_empty (base : Option Addr) (c : Nat) (w : World) :
    Calls Tryd.prog 19 #[.slice base 0 c] w fun e w' => e = .returned (.string ⟨(wTexts []).toArray⟩) ∧ RowKit.Below w.heap.size w w' := by
  go_enter Tryd.func19, Tryd.ntmps19
  go_wp2_with fail
  refine wp_loop_rounds 1 ?_
  rw [rounds_succ]
  go_wp2_with fail
  go_ret
  exact ⟨ret_str (ba_ext (by simp [wTexts])), Below.refl _ _⟩
theorem refTextsV_any (v : Value) (l : List ByteArray) (hl : l.length ≤ 100000) (w : World) (hV : TextsV w v l) :
    Calls Tryd.prog 19 #[v] w fun e w' => e = .returned (.string ⟨(wTexts l).toArray⟩) ∧ RowKit.Below w.heap.size w w' := by
  obtain ⟨base, c, rfl, hV⟩ := hV
  by_cases hn : l = []
  · subst hn
    exact refTexts_empty _ _ _
  · obtain ⟨b, o, rfl, h⟩ := hV hn
    exact refTexts_row b o c l hl w h
end Go.Proofs.YtfnlihadibnnoaaDoor
