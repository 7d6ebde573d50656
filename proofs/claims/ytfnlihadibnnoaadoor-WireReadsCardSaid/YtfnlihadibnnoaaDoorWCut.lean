/- cut of the laws of wire: walked once. -/
import Derived.Test.YtfnlihadibnnoaaDoorWLv
import Derived.Test.YtfnlihadibnnoaaDoorPiece
import Derived.Deep.AppendLies
import Derived.Deep.RegionHeld3
import Derived.Deep.DrawnRows
namespace Go.Proofs.YtfnlihadibnnoaaDoor
open Go Go.RowKit Go.Sort Go.Lib

/-- A text's first 100 bytes. -/
def clip (s : ByteArray) : ByteArray := s.extract 0 (min (s.size : Int) 100).toNat
/-- What cut leaves of a list. -/
def cutL (l : List ByteArray) : List ByteArray := (l.take 20).map clip
theorem clip_size (s : ByteArray) : (clip s).size ≤ 100 := by unfold clip; rw [ByteArray.size_extract]; omega
theorem cutL_short (l : List ByteArray) : ∀ x ∈ cutL l, x.size ≤ 100 := by
  intro x hx
  obtain ⟨y, _, rfl⟩ := List.mem_map.1 hx
  exact clip_size y
theorem cutL_len (l : List ByteArray) : (cutL l).length ≤ 20 := by unfold cutL; rw [List.length_map, List.length_take]; omega
/-- A value that is a row of texts of any length, or has none. -/
def StrsV (w : World) (v : Value) (l : List ByteArray) : Prop := ∃ base c, v = .slice base l.length c ∧ l.length ≤ 9223372036854775807 ∧ (l ≠ [] → ∃ b o, base = some ⟨b, o, none⟩ ∧ ∀ k, k < l.length → w.cell? ⟨b, o + k, none⟩ = some (.string (l.getD k ⟨#[]⟩)) ∧ (l.getD k ⟨#[]⟩).size ≤ 9223372036854775807)
theorem StrsV.below {w w' : World} {v : Value} {l : List ByteArray} (h : StrsV w v l) (hb : RowKit.Below w.heap.size w w') : StrsV w' v l := by
  obtain ⟨base, c, rfl, hm, h⟩ := h
  refine ⟨base, c, rfl, hm, fun hl => ?_⟩
  obtain ⟨b, o, rfl, h2⟩ := h hl
  exact ⟨b, o, rfl, fun k hk => ⟨mv0 hb (h2 k hk).1, (h2 k hk).2⟩⟩
theorem clip_snoc (l : List ByteArray) (k : Nat) (h : k < l.length) : (l.take (k + 1)).map clip = (l.take k).map clip ++ [clip (l.getD k ⟨#[]⟩)] := by
  rw [List.take_succ_eq_append_getElem h, List.map_append]; simp [List.getElem?_eq_getElem h]
set_option maxHeartbeats 2000000 in
set_option maxRecDepth 100000 in
theorem cut_law (v : Value) (l : List ByteArray) (w : World) (hV : StrsV w v l) :
    Calls Tryd.prog 11 #[v] w fun e w' => ∃ u, e = .returned u ∧ w'.ownsRow w.heap.size 9 1 u (cutL l).length ((cutL l).map Value.string) ∧ RowKit.Below w.heap.size w w' := by
  obtain ⟨base, c, rfl, hm, hV⟩ := hV
  have HV := Lib.hid hV
  clear hV
  obtain ⟨i0, hi, hz0, hz1, hz2⟩ := info_parts str_info
  go_enter Tryd.func11, Tryd.ntmps11
  go_wp2_with fail
  go_loopw [3, 4] (fun u i wr => ∃ k : Nat, k ≤ l.length ∧ k ≤ 20 ∧ i = .int .i64 k ∧ wr.ownsRow w.heap.size 9 1 u k (((l.take k).map clip).map Value.string) ∧ RowKit.Below w.heap.size w wr) (fun _ i _ => 20 - (RowKit.intOf i).toNat)
  case atStart => exact ⟨0, Nat.zero_le _, by omega, rfl, World.ownsRow_nil _ _ _ _, Below.refl _ _⟩
  case round =>
    obtain ⟨k, hk, hk2, rfl, hown, hB⟩ := hrel
    by_cases hlt : k < l.length
    · by_cases hl2 : k < 20
      · obtain ⟨b, o, rfl, hc⟩ := HV.out (fun e => by rw [e] at hlt; simp at hlt)
        obtain ⟨hc, hz⟩ := hc k hlt
        have HS := Lib.hid (clip_snoc l k hlt)
        unfold clip at HS
        generalize l.getD k ⟨#[]⟩ = x at hc hz HS
        have hbl := World.block_lt_of_cell? w _ hc
        have hrow : some b ≠ u3.ownBlock := fun e => by have := (hown.lt b e.symm).1; simp only at hbl; omega
        replace hc := mv0 hB hc
        have hx : (x.extract 0 (min (x.size : Int) 100).toNat) = clip x := rfl
        clear HV
        have hownA := hown.alloc (.cells #[.string (clip x)] 9)
        have hown1 : (wr.alloc (.cells #[.string (clip x)] 9)).drew.ownsRow w.heap.size 9 1 u3 k (((l.take k).map clip).map Value.string) := hownA
        have hS1 : (wr.alloc (.cells #[.string (clip x)] 9)).drew.cell? ⟨b, o + k, none⟩ = some (.string x) := mv0 (below_alloc1 wr (.cells #[.string (clip x)] 9)).drew hc
        have hb0 : (0 : Int) ≤ min (x.size : Int) 100 := by omega
        have hb1 : min (x.size : Int) 100 ≤ x.size := by omega
        have hS0 : wr.drew.cell? ⟨b, o + k, none⟩ = some (.string x) := hc
        have hle := hB.size
        have hol := fun q hq => (hown.lt q hq).1
        go_wp2_with fail
        refine of_onlyN ?_ (fun _ _ h => h)
        conv => arg 2; whnf
        go_region_held3 (fun w' => w'.cell? ⟨b, o + k, none⟩ = some (.string x)) (first | exact hS0 | exact hS1 | exact World.grownBy.cell hgrow hS1 hrow)
          (first
            | (refine step_append_lies _ (by rfl) (.tmp 15) (.tmp 27) 23 (by rfl) w.heap.size 9 i0 _ 1 16 Tryd.underlying23 hi hz0 hz1 hz2 rfl (by decide) u3 k _ (by rfl) hown1 ⟨wr.heap.size, 0, none⟩ 1 1 [.string (clip x)] (by rfl) rfl (World.news_of_block (heap_alloc_new wr _)) (by simp [Value.oneCell']) (by decide) (by unfold maxLen; omega) (by omega) (by simp; omega) _ rfl ?_; intro g cap w5 hown5 hgrow hat hlt))
        change Exit.inBlock 1 _ Exit.normal _ _
        have hown6 : w5.ownsRow w.heap.size 9 1 (.slice (some ⟨g, 0, none⟩) (k + 1) cap) (k + 1) (((l.take (k + 1)).map clip).map Value.string) := by
          rw [show (l.take (k + 1)).map clip = (l.take k).map clip ++ [clip x] from HS.out, List.map_append]
          exact hown5
        have hB5 : RowKit.Below w.heap.size w w5 := ((hB.alloc hB.size _).drew).grown hgrow (by simp; omega) hol
        clear hown hown1 hownA hS1 hS0 hgrow hat HS hown5
        go_wp2_with fail
        go_roundw
        case rel => exact ⟨k + 1, by omega, by omega, by go_num, hown6, hB5⟩
        case measure => simp [RowKit.intOf]; omega
      · obtain rfl : k = 20 := by omega
        have HE : Hid ((l.take 20).map clip = cutL l) := Lib.hid rfl
        go_wp2_with fail
        go_ret
        refine ⟨_, rfl, ?_, hB⟩
        rw [← HE.out, List.length_map, List.length_take, Nat.min_eq_left hk]
        exact hown
    · obtain rfl : k = l.length := by omega
      have HE : Hid ((l.take l.length).map clip = cutL l) := Lib.hid (by unfold cutL; rw [List.take_length, List.take_of_length_le hk2])
      go_wp2_with fail
      go_ret
      refine ⟨_, rfl, ?_, hB⟩
      rw [← HE.out, List.length_map, List.take_length]
      rw [List.take_length] at hown
      exact hown
end Go.Proofs.YtfnlihadibnnoaaDoor
