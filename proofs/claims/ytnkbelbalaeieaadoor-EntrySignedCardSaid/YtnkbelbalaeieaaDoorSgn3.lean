/- The reference's Sign of an entry, walked once. -/
import Derived.Test.YtnkbelbalaeieaaDoorSgn2
import Derived.Test.YtnkbelbalaeieaaDoorRefK
namespace Go.Proofs.YtnkbelbalaeieaaDoor
open Go Go.RowKit Go.Sort Go.Lib
attribute [local go_sem] Ent.cells
set_option maxHeartbeats 4000000 in
set_option maxRecDepth 100000 in
theorem refSign_any (g c : Nat) (sc : Int) (l : List KeyE) (id : Int) (e : Ent) (w : World) (hl : l.length ≤ 1000) (hk : KeysAt w g l) (hsz : ∀ k ∈ l, k.secret.size ≤ 100000) (hg : g < w.heap.size) (hs : I64 sc) (hi : I64 id) (he : e.Ok) (hT : Tabs w) :
    Calls Tryd.prog 26 #[.agg #[.int .i64 sc, .slice (some ⟨g, 0, none⟩) l.length c], .int .i64 id, e.val] w
      fun x w' => x = .returned (signV l sc id e) ∧ RowKit.Below w.heap.size w w' := by
  obtain ⟨hb0, hr0, he0, hz0⟩ := three_new (w := w) (.cells #[.int .i64 sc, .slice (some ⟨g, 0, none⟩) l.length c] 40) (.cells e.cells 26) (.cells entZ.cells 26)
  have hC := refCheck_any e he (((w.alloc (.cells #[.int .i64 sc, .slice (some ⟨g, 0, none⟩) l.length c] 40)).alloc (.cells e.cells 26)).alloc (.cells entZ.cells 26))
  have HV := Lib.hid (show signV l sc id e = .tuple #[(signE l sc id e).1.val, .int .i64 (signE l sc id e).2] from rfl)
  have HE := Lib.hid (signE_eq l sc id e)
  by_cases hc : chkV e = 0
  rotate_left 1
  · have HE1 := Lib.hid (HE.out.trans (if_pos hc))
    have hcb : (chkV e != 0) = true := by simpa using hc
    clear HE hc
    generalize chkV e = cv at *
    go_enter Tryd.func26, Tryd.ntmps26
    go_wp2_with fail
    refine hC.mono ?_
    rintro x w1 ⟨rfl, hb1⟩
    have hbw := hb0.trans (hb1.mono hb0.size)
    have hzb : EntBox w1 (w.heap.size + 1 + 1) entZ := (hb1.block _ (lt_of_heap hz0)).trans hz0
    clear hC hr0 he0 hz0 hb1
    go_wp2_with ((with_reducible refine wpList_store_row (o := ⟨none, .store 26 (.tmp 6) (.tmp 14), _, _, _, _⟩) ?_ 26 (.tmp 6) (.tmp 14) ?_ (w.heap.size + 1 + 1) (Ent.cells entZ) ?_ ?_ 26 (Ent.cells entZ) ?_ ?_ ?_ ?_ ?_); rfl; rfl; rfl; rfl; exact hzb; kernel_rfl; rfl; simp [Ent.cells, entZ, Value.oneCell'])
    (try simp only [Exit.inBlock, Exit.then]); refine bodyPost_ret (sgn_results Tryd.results26 _ _ (w.heap.size + 1 + 1) entZ rfl (heap_setRow hzb _)) rfl ⟨?_, ?_⟩
    · rw [HV.out, HE1.out]; rfl
    · exact below_setRow hbw (by omega) _
  rw [hc] at hC
  by_cases hq : e.school = sc
  rotate_left 1
  · have HE1 := Lib.hid ((HE.out.trans (if_neg (by simp [hc]))).trans (if_pos hq))
    have hqb : (e.school != sc) = true := by simpa using hq
    have hcb : (chkV e != 0) = false := by simpa using hc
    clear HE hc hq
    go_enter Tryd.func26, Tryd.ntmps26
    go_wp2_with fail
    refine hC.mono ?_
    rintro x w1 ⟨rfl, hb1⟩
    have hbw := hb0.trans (hb1.mono hb0.size)
    have hzb : EntBox w1 (w.heap.size + 1 + 1) entZ := (hb1.block _ (lt_of_heap hz0)).trans hz0
    have hc1 := Lib.cell_of_heap ((hb1.block _ (lt_of_heap he0)).trans he0) 1
    have hc2 := Lib.cell_of_heap ((hb1.block _ (lt_of_heap hr0)).trans hr0) 0
    clear hC hr0 he0 hz0 hb1
    go_wp2_with ((with_reducible refine wpList_store_row (o := ⟨none, .store 26 (.tmp 6) (.tmp 21), _, _, _, _⟩) ?_ 26 (.tmp 6) (.tmp 21) ?_ (w.heap.size + 1 + 1) (Ent.cells entZ) ?_ ?_ 26 (Ent.cells entZ) ?_ ?_ ?_ ?_ ?_); rfl; rfl; rfl; rfl; exact hzb; kernel_rfl; rfl; simp [Ent.cells, entZ, Value.oneCell'])
    (try simp only [Exit.inBlock, Exit.then]); refine bodyPost_ret (sgn_results Tryd.results26 _ _ (w.heap.size + 1 + 1) entZ rfl (heap_setRow hzb _)) rfl ⟨?_, ?_⟩
    · rw [HV.out, HE1.out]; rfl
    · exact below_setRow hbw (by omega) _
  have HE1 := Lib.hid ((HE.out.trans (if_neg (by simp [hc]))).trans (if_neg (by simp [hq])))
  have hok : ({ e with key := id } : Ent).Ok := ⟨he.id, he.school, he.student, he.kind, he.day, he.on, he.credits, he.grade, he.ref, he.fro, he.programme, he.version, hi, he.course, he.mark⟩
  have hB := fun w (_ : Tabs w) => refBody_any { e with key := id } hok w
  have hbl := body_len { e with key := id } hok
  have hcs := he.course
  have hK := fun w hk hg (_ : Tabs w) => refKeySign_any g c sc l id ⟨({ e with key := id } : Ent).body.toArray⟩ w hl hk hsz hg hs hi (by show ({ e with key := id } : Ent).body.length ≤ _; have := hbl; simp only at this; omega)
  generalize hbd : (⟨({ e with key := id } : Ent).body.toArray⟩ : ByteArray) = bd at HE1 hB hK
  obtain ⟨m, n, hmn, hn⟩ := keySig_two l sc id bd
  rw [hmn] at HE1 hK
  have hqb : (e.school != sc) = false := by simpa using hq
  clear HE hbl hcs hbd hmn
  generalize hk1 : ({ e with key := id } : Ent) = e1 at hB hok HE1
  have hset : Hid (e.cells.setIfInBounds 13 (.int .i64 id) = e1.cells) := Lib.hid (by rw [← hk1]; rfl)
  have hset2 : Hid (e1.cells.setIfInBounds 14 (.string m) = ({ e with key := id, mark := m } : Ent).cells) := Lib.hid (by rw [← hk1]; rfl)
  have HE2 := Lib.hid (show signE l sc id e = (if (n : Int) ≠ 0 then (entZ, n) else ({ e with key := id, mark := m }, 0)) from HE1.out)
  generalize ({ e with key := id, mark := m } : Ent) = e2 at hset2 HE2
  clear hc HE1 hk1 hq
  rcases hn with rfl | rfl
  · replace HE2 := Lib.hid (HE2.out.trans (if_neg (by decide)))
    go_enter Tryd.func26, Tryd.ntmps26
    go_wp2_with fail
    refine hC.mono ?_
    rintro x w1 ⟨rfl, hb1⟩
    have hbw := hb0.trans (hb1.mono hb0.size)
    have hzb : EntBox w1 (w.heap.size + 1 + 1) entZ := (hb1.block _ (lt_of_heap hz0)).trans hz0
    have heb : EntBox w1 (w.heap.size + 1) e := (hb1.block _ (lt_of_heap he0)).trans he0
    have hrb := (hb1.block _ (lt_of_heap hr0)).trans hr0
    have hc1 := heb.cell 1
    have hc2 := Lib.cell_of_heap hrb 0
    have hc3 := Lib.cell_of_heap hrb 1
    have hT1 := hT.below hbw
    have hk1 := hk.below hbw hg
    have hg1 : g < w1.heap.size := by have := hbw.size; omega
    have hfr := heb.frozen 13
    have hc13 : w1.cell? ⟨w.heap.size + 1, 13, none⟩ = some (.int .i64 e.key) := heb.cell 13
    clear hC hr0 he0 hz0 hb1 hb0
    go_wp2_with fail
    have hzb2 := hzb.far2 (b' := w.heap.size + 1) (by omega) 13 (.int .i64 id)
    have heb2 := heb.set 13 (.int .i64 id) hset.out
    have hbw2 := hbw.setCell (p := ⟨w.heap.size + 1, 13, none⟩) (by show w.heap.size ≤ w.heap.size + 1; omega) (.int .i64 id)
    have hrb2 := (Below.heap_setCell w1 ⟨w.heap.size + 1, 13, none⟩ (.int .i64 id) w.heap.size (by show w.heap.size ≠ w.heap.size + 1; omega)).trans hrb
    clear hzb heb hc1 hc2 hc3 hrb hfr hT1 hk1 hg1 hc13
    generalize w1.setCell ⟨w.heap.size + 1, 13, none⟩ (.int .i64 id) = W at *
    have hTW := hT.below hbw2
    have hkW := hk.below hbw2 hg
    have hgW : g < W.heap.size := by have := hbw2.size; omega
    have hS0 : RowKit.Below W.heap.size W W.drew ∧ (∀ j, W.drew.cell? ⟨w.heap.size + 1, j, none⟩ = e1.cells[j]?) ∧ W.drew.cell? ⟨w.heap.size, 0, none⟩ = some (.int .i64 sc) ∧ W.drew.cell? ⟨w.heap.size, 1, none⟩ = some (.slice (some ⟨g, 0, none⟩) l.length c) := ⟨(Below.refl _ _).drew, heb2.cell, Lib.cell_of_heap hrb2 0, Lib.cell_of_heap hrb2 1⟩
    refine of_onlyN ?_ (fun _ _ h => h)
    refine wp_region_flow (S := fun w' => RowKit.Below W.heap.size W w' ∧ (∀ j, w'.cell? ⟨w.heap.size + 1, j, none⟩ = e1.cells[j]?) ∧ w'.cell? ⟨w.heap.size, 0, none⟩ = some (.int .i64 sc) ∧ w'.cell? ⟨w.heap.size, 1, none⟩ = some (.slice (some ⟨g, 0, none⟩) l.length c)) [(0, true), (1, true), (2, true), (3, false), (4, false), (5, true), (6, true), (7, true), (8, true), (9, true)] (by kernel_rfl) (by kernel_rfl) (by kernel_rfl) (by decide) (hS0) ?_
    have hS := hS0
    refine flow_take ⟨some 25, _, _, _, _, _⟩ ?_ rfl (by rfl) ?_ ?_
    rotate_left 1
    · intro w hSw; (try dsimp only at hSw); go_simp; (try with_reducible rfl)
    simp only [Act.put, List.setIfInBounds_toArray, List.set_cons_zero, List.set_cons_succ]
    refine flow_take ⟨some 26, _, _, _, _, _⟩ ?_ rfl (by rfl) ?_ ?_
    rotate_left 1
    · intro w hSw; (try dsimp only at hSw); go_simp; (try with_reducible rfl)
    simp only [Act.put, List.setIfInBounds_toArray, List.set_cons_zero, List.set_cons_succ]
    refine flow_load ⟨some 27, _, _, _, _, _⟩ e1 (w.heap.size + 1) rfl (by rfl) _ (by rfl) (by rfl) (fun w hS => hS.2.1) ?_
    (try simp only [Act.put, List.setIfInBounds_toArray, List.set_cons_zero, List.set_cons_succ])
    refine flow_call ⟨some 28, _, _, _, _, _⟩ rfl (by rfl) 18 _ _ (by rfl) _ (by rfl) Tryd.call18 (hB _ (hTW.below hS.1)) ?_; rintro x wn ⟨rfl, hb⟩; replace hS := sgn_keep hS hb; refine ⟨_, rfl, hS, ?_⟩; (try clear hb)
    simp only [Act.put, List.setIfInBounds_toArray, List.set_cons_zero, List.set_cons_succ]
    refine flow_call ⟨some 29, _, _, _, _, _⟩ rfl (by rfl) 63 _ _ (by rfl) _ (by rfl) Tryd.call63 (hK _ (hkW.below hS.1 hgW) (by have := hS.1.size; omega) (hTW.below hS.1)) ?_; rintro x wn ⟨rfl, hb⟩; replace hS := sgn_keep hS hb; refine ⟨_, rfl, hS, ?_⟩; (try clear hb)
    simp only [Act.put, List.setIfInBounds_toArray, List.set_cons_zero, List.set_cons_succ]
    refine flow_take ⟨some 24, _, _, _, _, _⟩ ?_ rfl (by rfl) ?_ ?_
    rotate_left 1
    · intro w hSw; (try dsimp only at hSw); go_simp; (try with_reducible rfl)
    simp only [Act.put, List.setIfInBounds_toArray, List.set_cons_zero, List.set_cons_succ]
    refine flow_take ⟨some 30, _, _, _, _, _⟩ ?_ rfl (by rfl) ?_ ?_
    rotate_left 1
    · intro w hSw; (try dsimp only at hSw); go_simp; (try with_reducible rfl)
    simp only [Act.put, List.setIfInBounds_toArray, List.set_cons_zero, List.set_cons_succ]
    refine flow_take ⟨some 31, _, _, _, _, _⟩ ?_ rfl (by rfl) ?_ ?_
    rotate_left 1
    · intro w hSw; (try dsimp only at hSw); go_simp; (try with_reducible rfl)
    simp only [Act.put, List.setIfInBounds_toArray, List.set_cons_zero, List.set_cons_succ]
    refine flow_take ⟨some 9, _, _, _, _, _⟩ ?_ rfl (by rfl) ?_ ?_
    rotate_left 1
    · intro w hSw; (try dsimp only at hSw); go_simp; (try with_reducible rfl)
    simp only [Act.put, List.setIfInBounds_toArray, List.set_cons_zero, List.set_cons_succ]
    refine flow_take ⟨some 8, _, _, _, _, _⟩ ?_ rfl (by rfl) ?_ ?_
    rotate_left 1
    · intro w hSw; (try dsimp only at hSw); go_simp; (try with_reducible rfl)
    simp only [Act.put, List.setIfInBounds_toArray, List.set_cons_zero, List.set_cons_succ]
    simp only [wpFlow, OnlyN]
    have hbw3 := hbw2.trans (hS.1.mono hbw2.size)
    have hzb := hzb2.below hS.1
    have heb3 := heb2.below hS.1
    clear hS hS0 hkW hTW hrb2 hzb2 heb2 hB hK hk
    have hfr := heb3.frozen 14
    have hc14 : wn.cell? ⟨w.heap.size + 1, 14, none⟩ = some (.string e1.mark) := heb3.cell 14
    have hat := (heb3.set 14 (.string m) hset2.out).at_
    replace hzb := hzb.far2 (b' := w.heap.size + 1) (by omega) 14 (.string m)
    have hbw4 := hbw3.setCell (p := ⟨w.heap.size + 1, 14, none⟩) (by show w.heap.size ≤ w.heap.size + 1; omega) (.string m)
    clear hbw hbw2 hbw3 heb3 hset2 hset
    go_wp2_with (first
      | ((with_reducible refine wpList_load_mid (op := ⟨some 38, _, _, _, _, _⟩) ?_ 26 (.tmp 5) ?_ (w.heap.size + 1) 0 ?_ (Ent.cells e2).toList _ ?_ Tryd.underlying26 ?_ ?_ ?_); rfl; rfl; rfl; exact hat; rfl; kernel_rfl)
      | ((with_reducible refine wpList_store_row (o := ⟨none, .store 26 (.tmp 6) (.tmp 38), _, _, _, _⟩) ?_ 26 (.tmp 6) (.tmp 38) ?_ (w.heap.size + 1 + 1) (Ent.cells e2) ?_ ?_ 26 (Ent.cells entZ) ?_ ?_ ?_ ?_ ?_); rfl; rfl; rfl; rfl; exact hzb; kernel_rfl; rfl; simp [Ent.cells, Value.oneCell']))
    (try simp only [Exit.inBlock, Exit.then]); refine bodyPost_ret (sgn_results Tryd.results26 _ _ (w.heap.size + 1 + 1) e2 rfl (heap_setRow hzb _)) rfl ⟨?_, ?_⟩
    · rw [HV.out, HE2.out]; rfl
    · exact below_setRow hbw4 (by omega) _
  · replace HE2 := Lib.hid (HE2.out.trans (if_pos (by decide)))
    go_enter Tryd.func26, Tryd.ntmps26
    go_wp2_with fail
    refine hC.mono ?_
    rintro x w1 ⟨rfl, hb1⟩
    have hbw := hb0.trans (hb1.mono hb0.size)
    have hzb : EntBox w1 (w.heap.size + 1 + 1) entZ := (hb1.block _ (lt_of_heap hz0)).trans hz0
    have heb : EntBox w1 (w.heap.size + 1) e := (hb1.block _ (lt_of_heap he0)).trans he0
    have hrb := (hb1.block _ (lt_of_heap hr0)).trans hr0
    have hc1 := heb.cell 1
    have hc2 := Lib.cell_of_heap hrb 0
    have hc3 := Lib.cell_of_heap hrb 1
    have hT1 := hT.below hbw
    have hk1 := hk.below hbw hg
    have hg1 : g < w1.heap.size := by have := hbw.size; omega
    have hfr := heb.frozen 13
    have hc13 : w1.cell? ⟨w.heap.size + 1, 13, none⟩ = some (.int .i64 e.key) := heb.cell 13
    clear hC hr0 he0 hz0 hb1 hb0
    go_wp2_with fail
    have hzb2 := hzb.far2 (b' := w.heap.size + 1) (by omega) 13 (.int .i64 id)
    have heb2 := heb.set 13 (.int .i64 id) hset.out
    have hbw2 := hbw.setCell (p := ⟨w.heap.size + 1, 13, none⟩) (by show w.heap.size ≤ w.heap.size + 1; omega) (.int .i64 id)
    have hrb2 := (Below.heap_setCell w1 ⟨w.heap.size + 1, 13, none⟩ (.int .i64 id) w.heap.size (by show w.heap.size ≠ w.heap.size + 1; omega)).trans hrb
    clear hzb heb hc1 hc2 hc3 hrb hfr hT1 hk1 hg1 hc13
    generalize w1.setCell ⟨w.heap.size + 1, 13, none⟩ (.int .i64 id) = W at *
    have hTW := hT.below hbw2
    have hkW := hk.below hbw2 hg
    have hgW : g < W.heap.size := by have := hbw2.size; omega
    have hS0 : RowKit.Below W.heap.size W W.drew ∧ (∀ j, W.drew.cell? ⟨w.heap.size + 1, j, none⟩ = e1.cells[j]?) ∧ W.drew.cell? ⟨w.heap.size, 0, none⟩ = some (.int .i64 sc) ∧ W.drew.cell? ⟨w.heap.size, 1, none⟩ = some (.slice (some ⟨g, 0, none⟩) l.length c) := ⟨(Below.refl _ _).drew, heb2.cell, Lib.cell_of_heap hrb2 0, Lib.cell_of_heap hrb2 1⟩
    refine of_onlyN ?_ (fun _ _ h => h)
    refine wp_region_flow (S := fun w' => RowKit.Below W.heap.size W w' ∧ (∀ j, w'.cell? ⟨w.heap.size + 1, j, none⟩ = e1.cells[j]?) ∧ w'.cell? ⟨w.heap.size, 0, none⟩ = some (.int .i64 sc) ∧ w'.cell? ⟨w.heap.size, 1, none⟩ = some (.slice (some ⟨g, 0, none⟩) l.length c)) [(0, true), (1, true), (2, true), (3, false), (4, false), (5, true), (6, true), (7, true), (8, true), (9, true)] (by kernel_rfl) (by kernel_rfl) (by kernel_rfl) (by decide) (hS0) ?_
    have hS := hS0
    refine flow_take ⟨some 25, _, _, _, _, _⟩ ?_ rfl (by rfl) ?_ ?_
    rotate_left 1
    · intro w hSw; (try dsimp only at hSw); go_simp; (try with_reducible rfl)
    simp only [Act.put, List.setIfInBounds_toArray, List.set_cons_zero, List.set_cons_succ]
    refine flow_take ⟨some 26, _, _, _, _, _⟩ ?_ rfl (by rfl) ?_ ?_
    rotate_left 1
    · intro w hSw; (try dsimp only at hSw); go_simp; (try with_reducible rfl)
    simp only [Act.put, List.setIfInBounds_toArray, List.set_cons_zero, List.set_cons_succ]
    refine flow_load ⟨some 27, _, _, _, _, _⟩ e1 (w.heap.size + 1) rfl (by rfl) _ (by rfl) (by rfl) (fun w hS => hS.2.1) ?_
    (try simp only [Act.put, List.setIfInBounds_toArray, List.set_cons_zero, List.set_cons_succ])
    refine flow_call ⟨some 28, _, _, _, _, _⟩ rfl (by rfl) 18 _ _ (by rfl) _ (by rfl) Tryd.call18 (hB _ (hTW.below hS.1)) ?_; rintro x wn ⟨rfl, hb⟩; replace hS := sgn_keep hS hb; refine ⟨_, rfl, hS, ?_⟩; (try clear hb)
    simp only [Act.put, List.setIfInBounds_toArray, List.set_cons_zero, List.set_cons_succ]
    refine flow_call ⟨some 29, _, _, _, _, _⟩ rfl (by rfl) 63 _ _ (by rfl) _ (by rfl) Tryd.call63 (hK _ (hkW.below hS.1 hgW) (by have := hS.1.size; omega) (hTW.below hS.1)) ?_; rintro x wn ⟨rfl, hb⟩; replace hS := sgn_keep hS hb; refine ⟨_, rfl, hS, ?_⟩; (try clear hb)
    simp only [Act.put, List.setIfInBounds_toArray, List.set_cons_zero, List.set_cons_succ]
    refine flow_take ⟨some 24, _, _, _, _, _⟩ ?_ rfl (by rfl) ?_ ?_
    rotate_left 1
    · intro w hSw; (try dsimp only at hSw); go_simp; (try with_reducible rfl)
    simp only [Act.put, List.setIfInBounds_toArray, List.set_cons_zero, List.set_cons_succ]
    refine flow_take ⟨some 30, _, _, _, _, _⟩ ?_ rfl (by rfl) ?_ ?_
    rotate_left 1
    · intro w hSw; (try dsimp only at hSw); go_simp; (try with_reducible rfl)
    simp only [Act.put, List.setIfInBounds_toArray, List.set_cons_zero, List.set_cons_succ]
    refine flow_take ⟨some 31, _, _, _, _, _⟩ ?_ rfl (by rfl) ?_ ?_
    rotate_left 1
    · intro w hSw; (try dsimp only at hSw); go_simp; (try with_reducible rfl)
    simp only [Act.put, List.setIfInBounds_toArray, List.set_cons_zero, List.set_cons_succ]
    refine flow_take ⟨some 9, _, _, _, _, _⟩ ?_ rfl (by rfl) ?_ ?_
    rotate_left 1
    · intro w hSw; (try dsimp only at hSw); go_simp; (try with_reducible rfl)
    simp only [Act.put, List.setIfInBounds_toArray, List.set_cons_zero, List.set_cons_succ]
    refine flow_take ⟨some 8, _, _, _, _, _⟩ ?_ rfl (by rfl) ?_ ?_
    rotate_left 1
    · intro w hSw; (try dsimp only at hSw); go_simp; (try with_reducible rfl)
    simp only [Act.put, List.setIfInBounds_toArray, List.set_cons_zero, List.set_cons_succ]
    simp only [wpFlow, OnlyN]
    have hbw3 := hbw2.trans (hS.1.mono hbw2.size)
    have hzb := hzb2.below hS.1
    have heb3 := heb2.below hS.1
    clear hS hS0 hkW hTW hrb2 hzb2 heb2 hB hK hk
    go_wp2_with ((with_reducible refine wpList_store_row (o := ⟨none, .store 26 (.tmp 6) (.tmp 34), _, _, _, _⟩) ?_ 26 (.tmp 6) (.tmp 34) ?_ (w.heap.size + 1 + 1) (Ent.cells entZ) ?_ ?_ 26 (Ent.cells entZ) ?_ ?_ ?_ ?_ ?_); rfl; rfl; rfl; rfl; exact hzb; kernel_rfl; rfl; simp [Ent.cells, entZ, Value.oneCell'])
    (try simp only [Exit.inBlock, Exit.then]); refine bodyPost_ret (sgn_results Tryd.results26 _ _ (w.heap.size + 1 + 1) entZ rfl (heap_setRow hzb _)) rfl ⟨?_, ?_⟩
    · rw [HV.out, HE2.out]; rfl
    · exact below_setRow hbw3 (by omega) _

end Go.Proofs.YtnkbelbalaeieaaDoor
