/- Text and Parse of the project (Parse where both parts are numbers): each walked once. -/
import Derived.Test.YtmbjoenegcnoiaaDoorQRndR
import Derived.Lib.SmallJoins
import Derived.Lib.ItoaLen
namespace Go.Proofs.YtmbjoenegcnoiaaDoor
open Go Go.RowKit Go.Sort Go.Lib

/-- A ratio's text. -/
def textL (r : Rt) : List UInt8 := if Right r then (if r.d = 1 then Lib.itoa r.n else Lib.itoa r.n ++ 47 :: Lib.itoa r.d) else []
theorem Right.len {r : Rt} (h : Right r) : (Lib.itoa r.n).length ≤ 21 ∧ (Lib.itoa r.d).length ≤ 21 := by
  obtain ⟨h1, h2, h3, h4, _⟩ := h
  exact ⟨Lib.itoa_length_le r.n (by omega) (by omega), Lib.itoa_length_le r.d (by omega) (by omega)⟩
theorem textL_len (r : Rt) : (textL r).length ≤ 43 := by
  unfold textL
  split
  · rename_i h
    have := h.len
    split
    · omega
    · simp; omega
  · simp
set_option maxHeartbeats 1000000 in
theorem text_any (r : Rt) (h : r.Ok) (w : World) (ht : Tabs w) :
    Calls Tryd.prog 15 #[r.val] w fun e w' => e = .returned (.string ⟨(textL r).toArray⟩) ∧ RowKit.Below w.heap.size w w' := by
  have ra := fun w => right_any r h w
  unfold Rt.val at *
  by_cases h1 : Right r
  · rw [decide_eq_true h1] at ra
    obtain ⟨p1, p2, p3, p4, -⟩ := id h1
    have hl := h1.len
    have cn := fun w ht => itoa_any r.n w (by omega) (by omega) ht
    have cd := fun w ht => itoa_any r.d w (by omega) (by omega) ht
    by_cases hd : r.d = 1
    · have HV := Lib.hid (show textL r = Lib.itoa r.n by unfold textL; rw [if_pos h1, if_pos hd])
      have hd1 : (r.d == 1) = true := by simpa using hd
      clear h1 h hd hl cd
      go_enter Tryd.func15, Tryd.ntmps15
      go_wp2_with fail
      refine (ra _).mono ?_
      rintro x w1 ⟨rfl, hb1⟩
      obtain ⟨hc1, hf1⟩ := bcell hb1
      have k0 : w1.cell? ⟨w.heap.size, 0, none⟩ = some (.int .i64 r.n) := (hc1 _ _ (by simp)).trans (by simp [go_sem])
      have k1 : w1.cell? ⟨w.heap.size, 1, none⟩ = some (.int .i64 r.d) := (hc1 _ _ (by simp)).trans (by simp [go_sem])
      have hbw : RowKit.Below w.heap.size w w1 := (below_alloc1 _ _).trans (hb1.mono (by simp))
      have ht1 := ht.below hbw
      clear hb1 hc1 hf1 ra
      go_wp2_with fail
      refine (cn _ ht1).mono ?_
      rintro x w2 ⟨rfl, hb2⟩
      go_wp2_with fail
      go_ret
      exact ⟨ret_str (by rw [HV.out]), below_next hbw hb2⟩
    · have HV := Lib.hid (show textL r = Lib.itoa r.n ++ 47 :: Lib.itoa r.d by unfold textL; rw [if_pos h1, if_neg hd])
      have hd1 : (r.d == 1) = false := by simpa using hd
      clear h1 h hd
      obtain ⟨hl1, hl2⟩ := hl
      have hn1 : ¬ 9223372036854775807 < (Lib.itoa r.n).length + 1 := by omega
      have hn2 : ¬ 9223372036854775807 < (Lib.itoa r.n).length + 1 + (Lib.itoa r.d).length := by omega
      go_enter Tryd.func15, Tryd.ntmps15
      go_wp2_with fail
      refine (ra _).mono ?_
      rintro x w1 ⟨rfl, hb1⟩
      have hr := RatAt.below (RatAt.new w r 24) hb1
      have hbw : RowKit.Below w.heap.size w w1 := (below_alloc1 _ _).trans (hb1.mono (by simp))
      have ht1 := ht.below hbw
      obtain ⟨k0, k1⟩ := id hr
      clear hb1 ra
      go_wp2_with fail
      have hS0 := rat_drew hr
      clear k0 k1
      refine of_onlyN ?_ (fun _ _ h => h)
      refine wp_region_flow (S := fun w' => RowKit.Below w1.heap.size w1 w' ∧ w'.cell? ⟨w.heap.size, 0, none⟩ = some (.int .i64 r.n) ∧ w'.cell? ⟨w.heap.size, 1, none⟩ = some (.int .i64 r.d)) [(0, true), (1, true), (4, true), (5, true), (2, false), (3, true), (6, false), (7, true), (8, true)] (by kernel_rfl) (by kernel_rfl) (by kernel_rfl) (by decide) (hS0) ?_
      have hS := hS0
      refine flow_take ⟨some 14, _, _, _, _, _⟩ ?_ rfl (by rfl) ?_ ?_
      rotate_left 1
      · intro w hSw; (try dsimp only at hSw); go_simp; (try with_reducible rfl)
      simp only [Act.put, List.setIfInBounds_toArray, List.set_cons_zero, List.set_cons_succ]
      refine flow_take ⟨some 15, _, _, _, _, _⟩ ?_ rfl (by rfl) ?_ ?_
      rotate_left 1
      · intro w hSw; (try dsimp only at hSw); go_simp; (try with_reducible rfl)
      simp only [Act.put, List.setIfInBounds_toArray, List.set_cons_zero, List.set_cons_succ]
      refine flow_take ⟨some 18, _, _, _, _, _⟩ ?_ rfl (by rfl) ?_ ?_
      rotate_left 1
      · intro w hSw; (try dsimp only at hSw); go_simp; (try with_reducible rfl)
      simp only [Act.put, List.setIfInBounds_toArray, List.set_cons_zero, List.set_cons_succ]
      refine flow_take ⟨some 19, _, _, _, _, _⟩ ?_ rfl (by rfl) ?_ ?_
      rotate_left 1
      · intro w hSw; (try dsimp only at hSw); go_simp; (try with_reducible rfl)
      simp only [Act.put, List.setIfInBounds_toArray, List.set_cons_zero, List.set_cons_succ]
      (first | (refine flow_call ⟨some 16, _, _, _, _, _⟩ rfl (by rfl) 40 _ _ (by rfl) _ (by rfl) Tryd.call40 (cn _ (ht1.below hS.1)) ?_; rintro x wn ⟨rfl, hb⟩; replace hS := rat_next hS hb; refine ⟨_, rfl, hS, ?_⟩; (try clear hb)) | (refine flow_call ⟨some 16, _, _, _, _, _⟩ rfl (by rfl) 40 _ _ (by rfl) _ (by rfl) Tryd.call40 (cd _ (ht1.below hS.1)) ?_; rintro x wn ⟨rfl, hb⟩; replace hS := rat_next hS hb; refine ⟨_, rfl, hS, ?_⟩; (try clear hb)))
      simp only [Act.put, List.setIfInBounds_toArray, List.set_cons_zero, List.set_cons_succ]
      refine flow_take ⟨some 17, _, _, _, _, _⟩ ?_ rfl (by rfl) ?_ ?_
      rotate_left 1
      · intro w hSw; (try dsimp only at hSw); go_simp; (try with_reducible rfl)
      simp only [Act.put, List.setIfInBounds_toArray, List.set_cons_zero, List.set_cons_succ]
      (first | (refine flow_call ⟨some 20, _, _, _, _, _⟩ rfl (by rfl) 40 _ _ (by rfl) _ (by rfl) Tryd.call40 (cn _ (ht1.below hS.1)) ?_; rintro x wn ⟨rfl, hb⟩; replace hS := rat_next hS hb; refine ⟨_, rfl, hS, ?_⟩; (try clear hb)) | (refine flow_call ⟨some 20, _, _, _, _, _⟩ rfl (by rfl) 40 _ _ (by rfl) _ (by rfl) Tryd.call40 (cd _ (ht1.below hS.1)) ?_; rintro x wn ⟨rfl, hb⟩; replace hS := rat_next hS hb; refine ⟨_, rfl, hS, ?_⟩; (try clear hb)))
      simp only [Act.put, List.setIfInBounds_toArray, List.set_cons_zero, List.set_cons_succ]
      refine flow_take ⟨some 21, _, _, _, _, _⟩ ?_ rfl (by rfl) ?_ ?_
      rotate_left 1
      · intro w hSw; (try dsimp only at hSw); go_simp; (try with_reducible rfl)
      simp only [Act.put, List.setIfInBounds_toArray, List.set_cons_zero, List.set_cons_succ]
      refine flow_take ⟨some 2, _, _, _, _, _⟩ ?_ rfl (by rfl) ?_ ?_
      rotate_left 1
      · intro w hSw; (try dsimp only at hSw); go_simp; (try with_reducible rfl)
      simp only [Act.put, List.setIfInBounds_toArray, List.set_cons_zero, List.set_cons_succ]
      simp only [wpFlow, OnlyN]
      go_wp2_with fail
      go_ret
      exact ⟨ret_str (ba_ext (by rw [HV.out]; simp)), hbw.trans (hS.1.mono hbw.size)⟩
  · rw [decide_eq_false h1] at ra
    have HV := Lib.hid (show textL r = [] by unfold textL; rw [if_neg h1])
    clear h1 h
    go_enter Tryd.func15, Tryd.ntmps15
    go_wp2_with fail
    refine (ra _).mono ?_
    rintro x w1 ⟨rfl, hb1⟩
    go_wp2_with fail
    go_ret
    exact ⟨ret_str (by rw [HV.out]), below_next (below_alloc1 _ _) hb1⟩
end Go.Proofs.YtmbjoenegcnoiaaDoor
