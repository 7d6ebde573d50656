/- The reference's Body and Encode: each walked once. -/
import Derived.Test.YtnkbelbalaeieaaDoorRefW
import Derived.LoopTactic
namespace Go.Proofs.YtnkbelbalaeieaaDoor
open Go Go.RowKit Go.Sort
attribute [local go_sem] Ent.cells

theorem ba_cat (a b : List UInt8) : (⟨a.toArray⟩ : ByteArray) ++ ⟨b.toArray⟩ = ⟨(a ++ b).toArray⟩ := ba_ext (by simp)

set_option maxHeartbeats 2000000 in
set_option maxRecDepth 100000 in
theorem refBody_any (e : Ent) (h : e.Ok) (w : World) :
    Calls Tryd.prog 18 #[e.val] w fun x w' => x = .returned (.string ⟨e.body.toArray⟩) ∧ Below w.heap.size w w' := by
  have hl1 := wInts_len e.ints1 h.ints1
  have hl2 := wText_len e.course (by have := h.course; omega)
  have hl3 : e.ints1.length = 6 := rfl
  have hcs := h.course
  go_enter Tryd.func18, Tryd.ntmps18
  go_wp2_with fail
  go_loopw [3, 5] (fun s i wr => ∃ k : Nat, k ≤ 6 ∧ i = .int .i64 k ∧ s = .string ⟨(wInts (e.ints1.take k)).toArray⟩ ∧ Below w.heap.size w wr ∧ EntBox wr w.heap.size e ∧ IntRow wr (w.heap.size + 1) e.ints1) (fun _ i _ => 6 - (intOf i).toNat)
  case atStart =>
    refine ⟨0, by omega, rfl, rfl, ?_, ?_, ?_⟩
    · exact ((Below.refl _ _).alloc (Nat.le_refl _) _).alloc (by simp) _
    · exact (EntBox.new w e).below (below_alloc1 _ _)
    · have := IntRow.new (w.alloc (.cells e.cells 26)) e.ints1
      rw [size_alloc] at this
      exact this
  case round =>
    obtain ⟨k, hk, rfl, rfl, hbe, hbox, hrow⟩ := hrel
    by_cases hlt : k < 6
    · have hc := hrow.cell (k := k) (by simpa [Ent.ints1] using hlt)
      have hi := h.ints1 _ (getD_mem (l := e.ints1) (k := k) (by simpa [Ent.ints1] using hlt))
      have hlen := wInts_len (e.ints1.take k) (fun n hn => h.ints1 n (List.mem_of_mem_take hn))
      have hlen2 : (e.ints1.take k).length ≤ 6 := by simp [Ent.ints1]; omega
      have H := Lib.hid (wInts_take e.ints1 k (by simpa [Ent.ints1] using hlt))
      generalize e.ints1.getD k 0 = n at hc hi H
      have hwl := wInt_len n hi.1 hi.2
      generalize wInts (e.ints1.take k) = acc at hlen H
      go_wp2_with fail
      refine (refInt_any n _ hi).mono ?_
      rintro x w1 ⟨rfl, hb1⟩
      go_wp2_with fail
      go_roundw
      case rel => exact ⟨k + 1, by omega, by go_num, by rw [H.out, ba_cat], hbe.trans (hb1.mono hbe.size), hbox.below hb1, hrow.below hb1⟩
      case measure => simp [intOf]; omega
    · obtain rfl : k = 6 := by omega
      have e6 : e.ints1.take 6 = e.ints1 := rfl
      rw [e6]
      clear hlt hk e6
      generalize hI1 : wInts e.ints1 = i1 at hl1
      have HI := Lib.hid hI1
      clear hI1
      have hc6 : wr.cell? ⟨w.heap.size, 6, none⟩ = some (.string e.course) := hbox.cell 6
      go_wp2_with fail
      refine (refText_any e.course _ (by omega)).mono ?_
      rintro x w1 ⟨rfl, hb1⟩
      have hbe2 := hbe.trans (hb1.mono hbe.size)
      have hbox2 := hbox.below hb1
      clear hb1 hbe hbox hrow hc6
      have hcc := hbox2.cell
      generalize hT : wText e.course = tx at hl2
      have HT := Lib.hid hT
      clear hT
      go_wp2_with fail
      clear hcc
      go_loopw [3, 7] (fun s i wr => ∃ k : Nat, k ≤ 7 ∧ i = .int .i64 k ∧ s = .string ⟨(i1 ++ tx ++ wInts (e.ints2.take k)).toArray⟩ ∧ Below w.heap.size w wr ∧ IntRow wr w1.heap.size e.ints2) (fun _ i _ => 7 - (intOf i).toNat)
      case atStart =>
        exact ⟨0, by omega, rfl, by rw [ba_cat]; simp [wInts], hbe2.trans ((below_alloc1 _ _).mono hbe2.size), IntRow.new w1 e.ints2⟩
      case round =>
        clear hbe2 hbox2
        obtain ⟨k, hk, rfl, rfl, hbe, hrow⟩ := hrel
        have hl4 : e.ints2.length = 7 := rfl
        by_cases hlt : k < 7
        · have hc := hrow.cell (k := k) (by simpa [Ent.ints2] using hlt)
          have hi := h.ints2 _ (getD_mem (l := e.ints2) (k := k) (by simpa [Ent.ints2] using hlt))
          have hlen := wInts_len (e.ints2.take k) (fun n hn => h.ints2 n (List.mem_of_mem_take hn))
          have hlen2 : (e.ints2.take k).length ≤ 7 := by simp [Ent.ints2]; omega
          have H := Lib.hid (wInts_take e.ints2 k (by simpa [Ent.ints2] using hlt))
          generalize e.ints2.getD k 0 = n at hc hi H
          have hwl := wInt_len n hi.1 hi.2
          have hal : (i1 ++ tx ++ wInts (e.ints2.take k)).length ≤ 1000000 := by simp only [List.length_append]; omega
          have HA := Lib.hid (show i1 ++ tx ++ wInts (e.ints2.take (k + 1)) = i1 ++ tx ++ wInts (e.ints2.take k) ++ wInt n by rw [H.out]; simp only [List.append_assoc])
          generalize i1 ++ tx ++ wInts (e.ints2.take k) = acc at hal HA
          go_wp2_with fail
          refine (refInt_any n _ hi).mono ?_
          rintro x w2 ⟨rfl, hb2⟩
          go_wp2_with fail
          go_roundw
          case rel => exact ⟨k + 1, by omega, by go_num, by rw [HA.out, ba_cat], hbe.trans (hb2.mono hbe.size), hrow.below hb2⟩
          case measure => simp [intOf]; omega
        · obtain rfl : k = 7 := by omega
          have e7 : e.ints2.take 7 = e.ints2 := rfl
          rw [e7]
          clear hlt hk e7 hrow
          have HA := Lib.hid (show i1 ++ tx ++ wInts e.ints2 = e.body by rw [← HI.out, ← HT.out]; rfl)
          generalize i1 ++ tx ++ wInts e.ints2 = acc at HA
          go_wp2_with fail
          go_ret
          exact ⟨ret_str (by rw [HA.out]), hbe⟩

theorem refEncode_any (e : Ent) (h : e.Ok) (w : World) :
    Calls Tryd.prog 19 #[e.val] w fun x w' => x = .returned (.string ⟨e.code.toArray⟩) ∧ Below w.heap.size w w' := by
  have hl := body_len e h
  have hc := h.course
  have hm := h.mark
  have hl2 := wText_len e.mark (by have := h.mark; omega)
  have hnc : ¬ 9223372036854775807 < e.body.length + (wText e.mark).length := by omega
  go_enter Tryd.func19, Tryd.ntmps19
  go_wp2_with fail
  have hb0 := below_alloc1 w (.cells e.cells 26)
  have hbx := fun j => (EntBox.new w e).cell j
  go_region_held3 (fun w' => Below w.heap.size w w' ∧ ∀ j, w'.cell? ⟨w.heap.size, j, none⟩ = e.cells[j]?) (first | exact ⟨hb0.drew, hbx⟩ | assumption)
    (first
      | (go_at_call 18; refine (refBody_any e h _).mono ?_; rintro x w1 ⟨rfl, hb1⟩; have hS1 := EntBox.of_cells (e := e) (by assumption) hb1)
      | (go_at_call 56; refine (refText_any e.mark _ (by omega)).mono ?_; rintro x w2 ⟨rfl, hb2⟩; have hS2 := EntBox.of_cells (e := e) (by assumption) hb2))
  go_wp2_with fail
  go_ret
  exact ⟨ret_str (ba_ext (by simp [Ent.code])), hS2.1⟩
end Go.Proofs.YtnkbelbalaeieaaDoor
