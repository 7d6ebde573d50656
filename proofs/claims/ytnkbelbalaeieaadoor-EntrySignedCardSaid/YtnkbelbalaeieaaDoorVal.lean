/- digest.Check and key.Valid, where they accept: each walked once. -/
import Derived.Test.YtnkbelbalaeieaaDoorSgn
namespace Go.Proofs.YtnkbelbalaeieaaDoor
open Go Go.RowKit Go.Sort Go.Lib
attribute [local go_sem] Ent.cells

theorem dcheck_ok (key msg : ByteArray) (hk : key.size ≤ 100000000) (hm : msg.size ≤ 100000000) (hn : key.toList.isEmpty = false) (w : World) :
    Calls Tryd.prog 65 #[.string key, .string msg, .string ⟨(dg (markOf key msg)).toArray⟩] w fun x w' => x = .returned (.bool true) ∧ RowKit.Below w.heap.size w w' := by
  have hn2 : (!key.toList.isEmpty) = true := by rw [hn]; rfl
  have hn3 : key.toList ≠ [] := by intro h; rw [h] at hn; simp at hn
  have hM := mark_any key msg hk hm w
  generalize dg (markOf key msg) = d at hM ⊢
  go_enter Tryd.func65, Tryd.ntmps65
  go_wp2_with fail
  refine hM.mono ?_
  rintro x w1 ⟨rfl, hb⟩
  go_wp2_with fail
  go_ret
  exact ⟨rfl, hb⟩

set_option maxHeartbeats 2000000 in
set_option maxRecDepth 100000 in
theorem valid_ok (g c : Nat) (sc : Int) (l : List KeyE) (id : Int) (t : ByteArray) (day seen : Int) (e : KeyE) (w : World) (hl : l.length ≤ 1000) (hk : KeysAt w g l) (hE : l[keyIdx l id]? = some e) (hsk : e.secret.size ≤ 100000) (hn : e.secret.toList.isEmpty = false) (hfd : e.fro ≤ day) (hst : e.stolen = 0) (hg : g < w.heap.size) (hs : I64 sc) (hi : I64 id) (ht : t.size ≤ 1000000) (hT : Tabs w) :
    Calls Tryd.prog 27 #[.agg #[.int .i64 sc, .slice (some ⟨g, 0, none⟩) l.length c], .int .i64 id, .string t, .string (sigOf e sc id t), .int .i64 day, .int .i64 seen] w
      fun x w' => x = .returned (.int .i64 0) ∧ RowKit.Below w.heap.size w w' := by
  have hb0 := below_alloc1 w (.cells #[.int .i64 sc, .slice (some ⟨g, 0, none⟩) l.length c] 40)
  have hbA := hb0.trans ((below_alloc1 _ (.cells #[.int .i64 sc, .slice (some ⟨g, 0, none⟩) l.length c] 87)).mono hb0.size)
  have hr := heap_alloc_new (w.alloc (.cells #[.int .i64 sc, .slice (some ⟨g, 0, none⟩) l.length c] 40)) (.cells #[.int .i64 sc, .slice (some ⟨g, 0, none⟩) l.length c] 87)
  rw [size_alloc] at hr
  have hF := find_any (w.heap.size + 1) g c sc l id _ hl (hk.below hbA hg) (by simp; omega) hr
  have hT1 := (hT.alloc (.cells #[.int .i64 sc, .slice (some ⟨g, 0, none⟩) l.length c] 40)).alloc (.cells #[.int .i64 sc, .slice (some ⟨g, 0, none⟩) l.length c] 87)
  have hcs := Lib.cell_of_heap hr 0
  have h : keyIdx l id < l.length := by
    rcases Nat.lt_or_ge (keyIdx l id) l.length with h | h
    · exact h
    · rw [List.getElem?_eq_none h] at hE; cases hE
  unfold keyPtr at hF
  have hat := (hk _ _ hE).below hbA hg
  have hcm : (World.alloc (w.alloc (.cells #[.int .i64 sc, .slice (some ⟨g, 0, none⟩) l.length c] 40)) (.cells #[.int .i64 sc, .slice (some ⟨g, 0, none⟩) l.length c] 87)).cell? ⟨g, keyIdx l id * 4 + 1, none⟩ = some (.string e.secret) := hat.cell 1 rfl
  have hcf : (World.alloc (w.alloc (.cells #[.int .i64 sc, .slice (some ⟨g, 0, none⟩) l.length c] 40)) (.cells #[.int .i64 sc, .slice (some ⟨g, 0, none⟩) l.length c] 87)).cell? ⟨g, keyIdx l id * 4 + 2, none⟩ = some (.int .i64 e.fro) := hat.cell 2 rfl
  have hct : (World.alloc (w.alloc (.cells #[.int .i64 sc, .slice (some ⟨g, 0, none⟩) l.length c] 40)) (.cells #[.int .i64 sc, .slice (some ⟨g, 0, none⟩) l.length c] 87)).cell? ⟨g, keyIdx l id * 4 + 3, none⟩ = some (.int .i64 e.stolen) := hat.cell 3 rfl
  rw [hst] at hct
  rw [if_pos h] at hF
  have hms := msg_size sc id t hs hi
  have hDC := dcheck_ok e.secret ⟨(msgOf sc id t).toArray⟩ (by omega) (by omega) hn
  unfold sigOf
  generalize dg (markOf e.secret ⟨(msgOf sc id t).toArray⟩) = d at hDC
  have hlt : ¬ day < e.fro := by omega
  clear hE hat hr hk hst hn hfd hms
  generalize keyIdx l id = I at *
  go_enter Tryd.func27, Tryd.ntmps27
  go_wp2_with fail
  refine hF.mono ?_
  rintro x w1 ⟨rfl, hb1⟩
  have hbw := hbA.trans (hb1.mono hbA.size)
  have hcs1 := (hb1.cell (World.block_lt_of_cell? _ _ hcs)).trans hcs
  have hcm1 := (hb1.cell (World.block_lt_of_cell? _ _ hcm)).trans hcm
  have hcf1 := (hb1.cell (World.block_lt_of_cell? _ _ hcf)).trans hcf
  have hct1 := (hb1.cell (World.block_lt_of_cell? _ _ hct)).trans hct
  have hT2 := hT1.below hb1
  clear hb1 hbA hcs hcm hcf hct hF hb0
  go_wp2_with fail
  have hS0 : RowKit.Below w1.heap.size w1 w1.drew ∧ w1.drew.cell? ⟨w.heap.size + 1, 0, none⟩ = some (.int .i64 sc) ∧ w1.drew.cell? ⟨g, I * 4 + 1, none⟩ = some (.string e.secret) ∧ w1.drew.cell? ⟨g, I * 4 + 3, none⟩ = some (.int .i64 0) := ⟨(Below.refl _ _).drew, hcs1, hcm1, hct1⟩
  refine of_onlyN ?_ (fun _ _ h => h)
  refine wp_region_flow (S := fun w' => RowKit.Below w1.heap.size w1 w' ∧ w'.cell? ⟨w.heap.size + 1, 0, none⟩ = some (.int .i64 sc) ∧ w'.cell? ⟨g, I * 4 + 1, none⟩ = some (.string e.secret) ∧ w'.cell? ⟨g, I * 4 + 3, none⟩ = some (.int .i64 0)) [(0, true), (1, true), (2, true), (3, true), (4, true), (5, true), (6, true), (8, true), (7, false), (9, false), (10, true), (11, true)] (by kernel_rfl) (by kernel_rfl) (by kernel_rfl) (by decide) (hS0) ?_
  have hS := hS0
  refine flow_take ⟨some 32, _, _, _, _, _⟩ ?_ rfl (by rfl) ?_ ?_
  rotate_left 1
  · intro w hSw; (try dsimp only at hSw); go_simp; (try with_reducible rfl)
  simp only [Act.put, List.setIfInBounds_toArray, List.set_cons_zero, List.set_cons_succ]
  refine flow_take ⟨some 33, _, _, _, _, _⟩ ?_ rfl (by rfl) ?_ ?_
  rotate_left 1
  · intro w hSw; (try dsimp only at hSw); go_simp; (try with_reducible rfl)
  simp only [Act.put, List.setIfInBounds_toArray, List.set_cons_zero, List.set_cons_succ]
  refine flow_take ⟨some 34, _, _, _, _, _⟩ ?_ rfl (by rfl) ?_ ?_
  rotate_left 1
  · intro w hSw; (try dsimp only at hSw); go_simp; (try with_reducible rfl)
  simp only [Act.put, List.setIfInBounds_toArray, List.set_cons_zero, List.set_cons_succ]
  refine flow_take ⟨some 35, _, _, _, _, _⟩ ?_ rfl (by rfl) ?_ ?_
  rotate_left 1
  · intro w hSw; (try dsimp only at hSw); go_simp; (try with_reducible rfl)
  simp only [Act.put, List.setIfInBounds_toArray, List.set_cons_zero, List.set_cons_succ]
  refine flow_take ⟨some 36, _, _, _, _, _⟩ ?_ rfl (by rfl) ?_ ?_
  rotate_left 1
  · intro w hSw; (try dsimp only at hSw); go_simp; (try with_reducible rfl)
  simp only [Act.put, List.setIfInBounds_toArray, List.set_cons_zero, List.set_cons_succ]
  refine flow_take ⟨some 37, _, _, _, _, _⟩ ?_ rfl (by rfl) ?_ ?_
  rotate_left 1
  · intro w hSw; (try dsimp only at hSw); go_simp; (try with_reducible rfl)
  simp only [Act.put, List.setIfInBounds_toArray, List.set_cons_zero, List.set_cons_succ]
  refine flow_take ⟨some 38, _, _, _, _, _⟩ ?_ rfl (by rfl) ?_ ?_
  rotate_left 1
  · intro w hSw; (try dsimp only at hSw); go_simp; (try with_reducible rfl)
  simp only [Act.put, List.setIfInBounds_toArray, List.set_cons_zero, List.set_cons_succ]
  refine flow_take ⟨some 40, _, _, _, _, _⟩ ?_ rfl (by rfl) ?_ ?_
  rotate_left 1
  · intro w hSw; (try dsimp only at hSw); go_simp; (try with_reducible rfl)
  simp only [Act.put, List.setIfInBounds_toArray, List.set_cons_zero, List.set_cons_succ]
  refine flow_call ⟨some 39, _, _, _, _, _⟩ rfl (by rfl) 66 _ _ (by rfl) _ (by rfl) Tryd.call66 (message_any (w.heap.size + 1) sc id t hs hi ht _ hS.2.1 (hT2.below hS.1)) ?_; rintro x wn ⟨rfl, hb⟩; replace hS := three_keep hS hb; refine ⟨_, rfl, hS, ?_⟩; (try clear hb)
  simp only [Act.put, List.setIfInBounds_toArray, List.set_cons_zero, List.set_cons_succ]
  refine flow_call ⟨some 41, _, _, _, _, _⟩ rfl (by rfl) 65 _ _ (by rfl) _ (by rfl) Tryd.call65 (hDC _) ?_; rintro x wn ⟨rfl, hb⟩; replace hS := three_keep hS hb; refine ⟨_, rfl, hS, ?_⟩; (try clear hb)
  simp only [Act.put, List.setIfInBounds_toArray, List.set_cons_zero, List.set_cons_succ]
  refine flow_take ⟨some 42, _, _, _, _, _⟩ ?_ rfl (by rfl) ?_ ?_
  rotate_left 1
  · intro w hSw; (try dsimp only at hSw); go_simp; (try with_reducible rfl)
  simp only [Act.put, List.setIfInBounds_toArray, List.set_cons_zero, List.set_cons_succ]
  refine flow_take ⟨some 31, _, _, _, _, _⟩ ?_ rfl (by rfl) ?_ ?_
  rotate_left 1
  · intro w hSw; (try dsimp only at hSw); go_simp; (try with_reducible rfl)
  simp only [Act.put, List.setIfInBounds_toArray, List.set_cons_zero, List.set_cons_succ]
  simp only [wpFlow, OnlyN]
  have hct2 := hS.2.2.2
  have hbF := hbw.trans (hS.1.mono hbw.size)
  clear hS hS0 hcs1 hcm1 hcf1 hct1
  go_wp2_with fail
  go_ret
  exact ⟨rfl, hbF⟩
end Go.Proofs.YtnkbelbalaeieaaDoor
