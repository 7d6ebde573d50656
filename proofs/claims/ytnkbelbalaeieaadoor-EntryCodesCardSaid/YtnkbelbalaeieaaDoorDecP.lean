/- entry.Decode, walked once. -/
import Derived.Test.YtnkbelbalaeieaaDoorDecD
import Derived.LoopN
namespace Go.Proofs.YtnkbelbalaeieaaDoor
open Go Go.RowKit Go.Sort Go.Lib
attribute [local go_sem] Ent.cells
set_option maxHeartbeats 8000000 in
set_option maxRecDepth 100000 in
theorem decode_any (s : ByteArray) (hsz : s.size ≤ 1000000) (w : World) (ht : Wr.Ready w) :
    Calls Tryd.prog 28 #[.string s] w fun x w' => x = .returned (decV s.data.toList) ∧ RowKit.Below w.heap.size w w' := by
  have hs := ba_size s
  by_cases hbig : 262144 < s.size
  · have HV := Lib.hid (decV_many (s := s.data.toList) (by omega))
    have hgt : (262144 : Int) < (s.size : Int) := by omega
    have hzb := EntBox.new w entZ
    have hb0 := below_alloc1 w (.cells entZ.cells 26)
    clear hbig hs
    go_enter Tryd.func28, Tryd.ntmps28
    go_wp2_with ((with_reducible refine wpList_store_row (o := ⟨none, .store 26 (.tmp 2) (.tmp 13), _, _, _, _⟩) ?_ 26 (.tmp 2) (.tmp 13) ?_ (w.heap.size) (Ent.cells entZ) ?_ ?_ 26 (Ent.cells entZ) ?_ ?_ ?_ ?_ ?_); rfl; rfl; rfl; rfl; exact hzb; kernel_rfl; rfl; simp [Ent.cells, entZ, Value.oneCell'])
    (try simp only [Exit.inBlock, Exit.then]); refine bodyPost_ret (sgn_results Tryd.results28 _ _ (w.heap.size) entZ rfl (heap_setRow hzb _)) rfl ⟨?_, ?_⟩
    · rw [HV.out]; rfl
    · exact below_setRow hb0 (Nat.le_refl _) _
  have hbl := Lib.hid (show ¬ 262144 < s.data.toList.length by omega)
  clear hs
  have hgt : ¬ (262144 : Int) < (s.size : Int) := by omega
  go_enter Tryd.func28, Tryd.ntmps28
  go_wp2_with fail
  have hb0 := below_alloc1 w (.cells entZ.cells 26)
  refine (Wr.new_any s _).mono ?_
  rintro x w1 ⟨p, rfl, hp0, hR, hb1⟩
  rw [size_alloc] at hp0
  have hpl := hR.lt
  have hb2 := hb0.trans (hb1.mono hb0.size)
  have hb3 := below2 w1 (.cells entZ.cells 26) (.cells #[.pointer (some ⟨w1.heap.size, 0, none⟩), .pointer (some ⟨w1.heap.size, 1, none⟩), .pointer (some ⟨w1.heap.size, 2, none⟩), .pointer (some ⟨w1.heap.size, 3, none⟩), .pointer (some ⟨w1.heap.size, 4, none⟩), .pointer (some ⟨w1.heap.size, 5, none⟩)] 94)
  have hbx := below_alloc1 (w1.alloc (.cells entZ.cells 26)) (.cells #[.pointer (some ⟨w1.heap.size, 0, none⟩), .pointer (some ⟨w1.heap.size, 1, none⟩), .pointer (some ⟨w1.heap.size, 2, none⟩), .pointer (some ⟨w1.heap.size, 3, none⟩), .pointer (some ⟨w1.heap.size, 4, none⟩), .pointer (some ⟨w1.heap.size, 5, none⟩)] 94)
  have D : DIn w ((w1.alloc (.cells entZ.cells 26)).alloc (.cells #[.pointer (some ⟨w1.heap.size, 0, none⟩), .pointer (some ⟨w1.heap.size, 1, none⟩), .pointer (some ⟨w1.heap.size, 2, none⟩), .pointer (some ⟨w1.heap.size, 3, none⟩), .pointer (some ⟨w1.heap.size, 4, none⟩), .pointer (some ⟨w1.heap.size, 5, none⟩)] 94)) w.heap.size w1.heap.size entZ := ⟨hb2.trans (hb3.mono hb2.size), ((EntBox.new w entZ).below hb1).below hb3, (EntBox.new w1 entZ).below hbx⟩
  have R : RdSt ((w1.alloc (.cells entZ.cells 26)).alloc (.cells #[.pointer (some ⟨w1.heap.size, 0, none⟩), .pointer (some ⟨w1.heap.size, 1, none⟩), .pointer (some ⟨w1.heap.size, 2, none⟩), .pointer (some ⟨w1.heap.size, 3, none⟩), .pointer (some ⟨w1.heap.size, 4, none⟩), .pointer (some ⟨w1.heap.size, 5, none⟩)] 94)) p (some s.data.toList) := ⟨hR.below hb3, by have := hbl.out; omega⟩
  have hP := heap_alloc_new (w1.alloc (.cells entZ.cells 26)) (.cells #[.pointer (some ⟨w1.heap.size, 0, none⟩), .pointer (some ⟨w1.heap.size, 1, none⟩), .pointer (some ⟨w1.heap.size, 2, none⟩), .pointer (some ⟨w1.heap.size, 3, none⟩), .pointer (some ⟨w1.heap.size, 4, none⟩), .pointer (some ⟨w1.heap.size, 5, none⟩)] 94)
  rw [size_alloc] at hP
  have hlt := hb2.size
  have hEZ : entZ.cells = #[.int .i64 0, .int .i64 0, .int .i64 0, .int .i64 0, .int .i64 0, .int .i64 0, .string ⟨#[]⟩, .int .i64 0, .int .i64 0, .int .i64 0, .int .i64 0, .int .i64 0, .int .i64 0, .int .i64 0, .string ⟨#[]⟩] := rfl
  have hpa := ht.past (p := p) (by omega)
  rw [hEZ] at D R hP
  clear hb0 hb1 hb2 hb3 hbx hR hEZ
  go_wp2_with fail
  generalize (w1.alloc (.cells #[.int .i64 0, .int .i64 0, .int .i64 0, .int .i64 0, .int .i64 0, .int .i64 0, .string ⟨#[]⟩, .int .i64 0, .int .i64 0, .int .i64 0, .int .i64 0, .int .i64 0, .int .i64 0, .int .i64 0, .string ⟨#[]⟩] 26)).alloc (.cells #[.pointer (some ⟨w1.heap.size, 0, none⟩), .pointer (some ⟨w1.heap.size, 1, none⟩), .pointer (some ⟨w1.heap.size, 2, none⟩), .pointer (some ⟨w1.heap.size, 3, none⟩), .pointer (some ⟨w1.heap.size, 4, none⟩), .pointer (some ⟨w1.heap.size, 5, none⟩)] 94) = W at D R hP ⊢
  generalize heb : w1.heap.size = eb at D hP hpl hlt ⊢
  clear heb
  refine wp_loop_rounds 7 ?_
  obtain ⟨n1, t1, h1⟩ : ∃ n t, stI (some s.data.toList) = (n, t) := ⟨_, _, rfl⟩
  have c := stInt_any p hpa (some s.data.toList) W R ((ready_below ht D.below).sane) ((ready_below ht D.below).errs)
  rw [h1] at c
  replace h1 := Lib.hid h1
  have hr : W.cell? ⟨eb + 1, 0, none⟩ = some (.pointer (some ⟨eb, 0, none⟩)) := Lib.cell_of_heap hP 0
  rw [rounds_succ]; go_wp2_with fail
  refine c.mono ?_
  rintro x W1 ⟨rfl, R1, B⟩
  replace D := D.call B (by omega) (by omega) (by omega)
  have hc : W1.cell? ⟨eb, 0, none⟩ = some (.int .i64 0) := D.box.cell 0
  have hf := D.box.frozen 0
  have hP1 := (B.block _ (lt_of_heap hP) (by omega)).trans hP
  clear R B c hr
  go_wp2_with fail
  replace D := D.set ⟨n1, 0, 0, 0, 0, 0, ⟨#[]⟩, 0, 0, 0, 0, 0, 0, 0, ⟨#[]⟩⟩ 0 (.int .i64 n1) rfl (by omega) (by omega)
  have R := R1.far (eb := eb) (by omega) 0 (.int .i64 n1)
  replace hP := (Below.heap_setCell W1 ⟨eb, 0, none⟩ (.int .i64 n1) (eb + 1) (by show eb + 1 ≠ eb; omega)).trans hP1
  clear hc hf R1 hP1
  generalize W1.setCell ⟨eb, 0, none⟩ (.int .i64 n1) = W at D R hP ⊢
  obtain ⟨n2, t2, h2⟩ : ∃ n t, stI t1 = (n, t) := ⟨_, _, rfl⟩
  have c := stInt_any p hpa t1 W R ((ready_below ht D.below).sane) ((ready_below ht D.below).errs)
  rw [h2] at c
  replace h2 := Lib.hid h2
  have hr : W.cell? ⟨eb + 1, 1, none⟩ = some (.pointer (some ⟨eb, 1, none⟩)) := Lib.cell_of_heap hP 1
  rw [rounds_succ]; go_wp2_with fail
  refine c.mono ?_
  rintro x W1 ⟨rfl, R1, B⟩
  replace D := D.call B (by omega) (by omega) (by omega)
  have hc : W1.cell? ⟨eb, 1, none⟩ = some (.int .i64 0) := D.box.cell 1
  have hf := D.box.frozen 1
  have hP1 := (B.block _ (lt_of_heap hP) (by omega)).trans hP
  clear R B c hr
  go_wp2_with fail
  replace D := D.set ⟨n1, n2, 0, 0, 0, 0, ⟨#[]⟩, 0, 0, 0, 0, 0, 0, 0, ⟨#[]⟩⟩ 1 (.int .i64 n2) rfl (by omega) (by omega)
  have R := R1.far (eb := eb) (by omega) 1 (.int .i64 n2)
  replace hP := (Below.heap_setCell W1 ⟨eb, 1, none⟩ (.int .i64 n2) (eb + 1) (by show eb + 1 ≠ eb; omega)).trans hP1
  clear hc hf R1 hP1
  generalize W1.setCell ⟨eb, 1, none⟩ (.int .i64 n2) = W at D R hP ⊢
  obtain ⟨n3, t3, h3⟩ : ∃ n t, stI t2 = (n, t) := ⟨_, _, rfl⟩
  have c := stInt_any p hpa t2 W R ((ready_below ht D.below).sane) ((ready_below ht D.below).errs)
  rw [h3] at c
  replace h3 := Lib.hid h3
  have hr : W.cell? ⟨eb + 1, 2, none⟩ = some (.pointer (some ⟨eb, 2, none⟩)) := Lib.cell_of_heap hP 2
  rw [rounds_succ]; go_wp2_with fail
  refine c.mono ?_
  rintro x W1 ⟨rfl, R1, B⟩
  replace D := D.call B (by omega) (by omega) (by omega)
  have hc : W1.cell? ⟨eb, 2, none⟩ = some (.int .i64 0) := D.box.cell 2
  have hf := D.box.frozen 2
  have hP1 := (B.block _ (lt_of_heap hP) (by omega)).trans hP
  clear R B c hr
  go_wp2_with fail
  replace D := D.set ⟨n1, n2, n3, 0, 0, 0, ⟨#[]⟩, 0, 0, 0, 0, 0, 0, 0, ⟨#[]⟩⟩ 2 (.int .i64 n3) rfl (by omega) (by omega)
  have R := R1.far (eb := eb) (by omega) 2 (.int .i64 n3)
  replace hP := (Below.heap_setCell W1 ⟨eb, 2, none⟩ (.int .i64 n3) (eb + 1) (by show eb + 1 ≠ eb; omega)).trans hP1
  clear hc hf R1 hP1
  generalize W1.setCell ⟨eb, 2, none⟩ (.int .i64 n3) = W at D R hP ⊢
  obtain ⟨n4, t4, h4⟩ : ∃ n t, stI t3 = (n, t) := ⟨_, _, rfl⟩
  have c := stInt_any p hpa t3 W R ((ready_below ht D.below).sane) ((ready_below ht D.below).errs)
  rw [h4] at c
  replace h4 := Lib.hid h4
  have hr : W.cell? ⟨eb + 1, 3, none⟩ = some (.pointer (some ⟨eb, 3, none⟩)) := Lib.cell_of_heap hP 3
  rw [rounds_succ]; go_wp2_with fail
  refine c.mono ?_
  rintro x W1 ⟨rfl, R1, B⟩
  replace D := D.call B (by omega) (by omega) (by omega)
  have hc : W1.cell? ⟨eb, 3, none⟩ = some (.int .i64 0) := D.box.cell 3
  have hf := D.box.frozen 3
  have hP1 := (B.block _ (lt_of_heap hP) (by omega)).trans hP
  clear R B c hr
  go_wp2_with fail
  replace D := D.set ⟨n1, n2, n3, n4, 0, 0, ⟨#[]⟩, 0, 0, 0, 0, 0, 0, 0, ⟨#[]⟩⟩ 3 (.int .i64 n4) rfl (by omega) (by omega)
  have R := R1.far (eb := eb) (by omega) 3 (.int .i64 n4)
  replace hP := (Below.heap_setCell W1 ⟨eb, 3, none⟩ (.int .i64 n4) (eb + 1) (by show eb + 1 ≠ eb; omega)).trans hP1
  clear hc hf R1 hP1
  generalize W1.setCell ⟨eb, 3, none⟩ (.int .i64 n4) = W at D R hP ⊢
  obtain ⟨n5, t5, h5⟩ : ∃ n t, stI t4 = (n, t) := ⟨_, _, rfl⟩
  have c := stInt_any p hpa t4 W R ((ready_below ht D.below).sane) ((ready_below ht D.below).errs)
  rw [h5] at c
  replace h5 := Lib.hid h5
  have hr : W.cell? ⟨eb + 1, 4, none⟩ = some (.pointer (some ⟨eb, 4, none⟩)) := Lib.cell_of_heap hP 4
  rw [rounds_succ]; go_wp2_with fail
  refine c.mono ?_
  rintro x W1 ⟨rfl, R1, B⟩
  replace D := D.call B (by omega) (by omega) (by omega)
  have hc : W1.cell? ⟨eb, 4, none⟩ = some (.int .i64 0) := D.box.cell 4
  have hf := D.box.frozen 4
  have hP1 := (B.block _ (lt_of_heap hP) (by omega)).trans hP
  clear R B c hr
  go_wp2_with fail
  replace D := D.set ⟨n1, n2, n3, n4, n5, 0, ⟨#[]⟩, 0, 0, 0, 0, 0, 0, 0, ⟨#[]⟩⟩ 4 (.int .i64 n5) rfl (by omega) (by omega)
  have R := R1.far (eb := eb) (by omega) 4 (.int .i64 n5)
  replace hP := (Below.heap_setCell W1 ⟨eb, 4, none⟩ (.int .i64 n5) (eb + 1) (by show eb + 1 ≠ eb; omega)).trans hP1
  clear hc hf R1 hP1
  generalize W1.setCell ⟨eb, 4, none⟩ (.int .i64 n5) = W at D R hP ⊢
  obtain ⟨n6, t6, h6⟩ : ∃ n t, stI t5 = (n, t) := ⟨_, _, rfl⟩
  have c := stInt_any p hpa t5 W R ((ready_below ht D.below).sane) ((ready_below ht D.below).errs)
  rw [h6] at c
  replace h6 := Lib.hid h6
  have hr : W.cell? ⟨eb + 1, 5, none⟩ = some (.pointer (some ⟨eb, 5, none⟩)) := Lib.cell_of_heap hP 5
  rw [rounds_succ]; go_wp2_with fail
  refine c.mono ?_
  rintro x W1 ⟨rfl, R1, B⟩
  replace D := D.call B (by omega) (by omega) (by omega)
  have hc : W1.cell? ⟨eb, 5, none⟩ = some (.int .i64 0) := D.box.cell 5
  have hf := D.box.frozen 5
  have hP1 := (B.block _ (lt_of_heap hP) (by omega)).trans hP
  clear R B c hr
  go_wp2_with fail
  replace D := D.set ⟨n1, n2, n3, n4, n5, n6, ⟨#[]⟩, 0, 0, 0, 0, 0, 0, 0, ⟨#[]⟩⟩ 5 (.int .i64 n6) rfl (by omega) (by omega)
  have R := R1.far (eb := eb) (by omega) 5 (.int .i64 n6)
  replace hP := (Below.heap_setCell W1 ⟨eb, 5, none⟩ (.int .i64 n6) (eb + 1) (by show eb + 1 ≠ eb; omega)).trans hP1
  clear hc hf R1 hP1
  generalize W1.setCell ⟨eb, 5, none⟩ (.int .i64 n6) = W at D R hP ⊢
  obtain ⟨n7, t7, h7⟩ : ∃ n t, stT t6 = (n, t) := ⟨_, _, rfl⟩
  have c := stText_any p hpa t6 W R ((ready_below ht D.below).sane) ((ready_below ht D.below).errs)
  rw [h7] at c
  replace h7 := Lib.hid h7
  rw [rounds_succ]; go_wp2_with fail
  refine c.mono ?_
  rintro x W1 ⟨rfl, R1, B⟩
  replace D := D.call B (by omega) (by omega) (by omega)
  have hc : W1.cell? ⟨eb, 6, none⟩ = some (.string ⟨#[]⟩) := D.box.cell 6
  have hf := D.box.frozen 6
  clear R B c
  have hset := D.set ⟨n1, n2, n3, n4, n5, n6, n7, 0, 0, 0, 0, 0, 0, 0, ⟨#[]⟩⟩ 6 (.string n7) rfl (by omega) (by omega)
  have hRs := R1.far (eb := eb) (by omega) 6 (.string n7)
  have hszx : (W1.setCell ⟨eb, 6, none⟩ (.string n7)).heap.size = W1.heap.size := by simp [World.setCell]
  have hel : eb < W1.heap.size := lt_of_heap D.box
  have hplw : p < W1.heap.size := by omega
  have hbx := below_alloc1 (W1.setCell ⟨eb, 6, none⟩ (.string n7)) (.cells #[.pointer (some ⟨eb, 7, none⟩), .pointer (some ⟨eb, 8, none⟩), .pointer (some ⟨eb, 9, none⟩), .pointer (some ⟨eb, 10, none⟩), .pointer (some ⟨eb, 11, none⟩), .pointer (some ⟨eb, 12, none⟩), .pointer (some ⟨eb, 13, none⟩)] 94)
  have D2 := hset.go hbx
  have R2 := hRs.below hbx
  have hP2 := heap_alloc_new (W1.setCell ⟨eb, 6, none⟩ (.string n7)) (.cells #[.pointer (some ⟨eb, 7, none⟩), .pointer (some ⟨eb, 8, none⟩), .pointer (some ⟨eb, 9, none⟩), .pointer (some ⟨eb, 10, none⟩), .pointer (some ⟨eb, 11, none⟩), .pointer (some ⟨eb, 12, none⟩), .pointer (some ⟨eb, 13, none⟩)] 94)
  rw [hszx] at hP2
  clear D R1 hset hRs hP hbx
  go_wp2_with fail
  clear hc hf
  have D := D2; have R := R2
  generalize (W1.setCell ⟨eb, 6, none⟩ (.string n7)).alloc (.cells #[.pointer (some ⟨eb, 7, none⟩), .pointer (some ⟨eb, 8, none⟩), .pointer (some ⟨eb, 9, none⟩), .pointer (some ⟨eb, 10, none⟩), .pointer (some ⟨eb, 11, none⟩), .pointer (some ⟨eb, 12, none⟩), .pointer (some ⟨eb, 13, none⟩)] 94) = W at D R hP2 ⊢
  generalize hrb : W1.heap.size = rb at hel hplw hP2 ⊢
  clear D2 R2 hszx hrb
  refine wp_loop_rounds 8 ?_
  obtain ⟨n8, t8, h8⟩ : ∃ n t, stI t7 = (n, t) := ⟨_, _, rfl⟩
  have c := stInt_any p hpa t7 W R ((ready_below ht D.below).sane) ((ready_below ht D.below).errs)
  rw [h8] at c
  replace h8 := Lib.hid h8
  have hr : W.cell? ⟨rb, 0, none⟩ = some (.pointer (some ⟨eb, 7, none⟩)) := Lib.cell_of_heap hP2 0
  rw [rounds_succ]; go_wp2_with fail
  refine c.mono ?_
  rintro x W1 ⟨rfl, R1, B⟩
  replace D := D.call B (by omega) (by omega) (by omega)
  have hc : W1.cell? ⟨eb, 7, none⟩ = some (.int .i64 0) := D.box.cell 7
  have hf := D.box.frozen 7
  have hP1 := (B.block _ (lt_of_heap hP2) (by omega)).trans hP2
  clear R B c hr
  go_wp2_with fail
  replace D := D.set ⟨n1, n2, n3, n4, n5, n6, n7, n8, 0, 0, 0, 0, 0, 0, ⟨#[]⟩⟩ 7 (.int .i64 n8) rfl (by omega) (by omega)
  have R := R1.far (eb := eb) (by omega) 7 (.int .i64 n8)
  replace hP2 := (Below.heap_setCell W1 ⟨eb, 7, none⟩ (.int .i64 n8) (rb) (by show rb ≠ eb; omega)).trans hP1
  clear hc hf R1 hP1
  generalize W1.setCell ⟨eb, 7, none⟩ (.int .i64 n8) = W at D R hP2 ⊢
  obtain ⟨n9, t9, h9⟩ : ∃ n t, stI t8 = (n, t) := ⟨_, _, rfl⟩
  have c := stInt_any p hpa t8 W R ((ready_below ht D.below).sane) ((ready_below ht D.below).errs)
  rw [h9] at c
  replace h9 := Lib.hid h9
  have hr : W.cell? ⟨rb, 1, none⟩ = some (.pointer (some ⟨eb, 8, none⟩)) := Lib.cell_of_heap hP2 1
  rw [rounds_succ]; go_wp2_with fail
  refine c.mono ?_
  rintro x W1 ⟨rfl, R1, B⟩
  replace D := D.call B (by omega) (by omega) (by omega)
  have hc : W1.cell? ⟨eb, 8, none⟩ = some (.int .i64 0) := D.box.cell 8
  have hf := D.box.frozen 8
  have hP1 := (B.block _ (lt_of_heap hP2) (by omega)).trans hP2
  clear R B c hr
  go_wp2_with fail
  replace D := D.set ⟨n1, n2, n3, n4, n5, n6, n7, n8, n9, 0, 0, 0, 0, 0, ⟨#[]⟩⟩ 8 (.int .i64 n9) rfl (by omega) (by omega)
  have R := R1.far (eb := eb) (by omega) 8 (.int .i64 n9)
  replace hP2 := (Below.heap_setCell W1 ⟨eb, 8, none⟩ (.int .i64 n9) (rb) (by show rb ≠ eb; omega)).trans hP1
  clear hc hf R1 hP1
  generalize W1.setCell ⟨eb, 8, none⟩ (.int .i64 n9) = W at D R hP2 ⊢
  obtain ⟨n10, t10, h10⟩ : ∃ n t, stI t9 = (n, t) := ⟨_, _, rfl⟩
  have c := stInt_any p hpa t9 W R ((ready_below ht D.below).sane) ((ready_below ht D.below).errs)
  rw [h10] at c
  replace h10 := Lib.hid h10
  have hr : W.cell? ⟨rb, 2, none⟩ = some (.pointer (some ⟨eb, 9, none⟩)) := Lib.cell_of_heap hP2 2
  rw [rounds_succ]; go_wp2_with fail
  refine c.mono ?_
  rintro x W1 ⟨rfl, R1, B⟩
  replace D := D.call B (by omega) (by omega) (by omega)
  have hc : W1.cell? ⟨eb, 9, none⟩ = some (.int .i64 0) := D.box.cell 9
  have hf := D.box.frozen 9
  have hP1 := (B.block _ (lt_of_heap hP2) (by omega)).trans hP2
  clear R B c hr
  go_wp2_with fail
  replace D := D.set ⟨n1, n2, n3, n4, n5, n6, n7, n8, n9, n10, 0, 0, 0, 0, ⟨#[]⟩⟩ 9 (.int .i64 n10) rfl (by omega) (by omega)
  have R := R1.far (eb := eb) (by omega) 9 (.int .i64 n10)
  replace hP2 := (Below.heap_setCell W1 ⟨eb, 9, none⟩ (.int .i64 n10) (rb) (by show rb ≠ eb; omega)).trans hP1
  clear hc hf R1 hP1
  generalize W1.setCell ⟨eb, 9, none⟩ (.int .i64 n10) = W at D R hP2 ⊢
  obtain ⟨n11, t11, h11⟩ : ∃ n t, stI t10 = (n, t) := ⟨_, _, rfl⟩
  have c := stInt_any p hpa t10 W R ((ready_below ht D.below).sane) ((ready_below ht D.below).errs)
  rw [h11] at c
  replace h11 := Lib.hid h11
  have hr : W.cell? ⟨rb, 3, none⟩ = some (.pointer (some ⟨eb, 10, none⟩)) := Lib.cell_of_heap hP2 3
  rw [rounds_succ]; go_wp2_with fail
  refine c.mono ?_
  rintro x W1 ⟨rfl, R1, B⟩
  replace D := D.call B (by omega) (by omega) (by omega)
  have hc : W1.cell? ⟨eb, 10, none⟩ = some (.int .i64 0) := D.box.cell 10
  have hf := D.box.frozen 10
  have hP1 := (B.block _ (lt_of_heap hP2) (by omega)).trans hP2
  clear R B c hr
  go_wp2_with fail
  replace D := D.set ⟨n1, n2, n3, n4, n5, n6, n7, n8, n9, n10, n11, 0, 0, 0, ⟨#[]⟩⟩ 10 (.int .i64 n11) rfl (by omega) (by omega)
  have R := R1.far (eb := eb) (by omega) 10 (.int .i64 n11)
  replace hP2 := (Below.heap_setCell W1 ⟨eb, 10, none⟩ (.int .i64 n11) (rb) (by show rb ≠ eb; omega)).trans hP1
  clear hc hf R1 hP1
  generalize W1.setCell ⟨eb, 10, none⟩ (.int .i64 n11) = W at D R hP2 ⊢
  obtain ⟨n12, t12, h12⟩ : ∃ n t, stI t11 = (n, t) := ⟨_, _, rfl⟩
  have c := stInt_any p hpa t11 W R ((ready_below ht D.below).sane) ((ready_below ht D.below).errs)
  rw [h12] at c
  replace h12 := Lib.hid h12
  have hr : W.cell? ⟨rb, 4, none⟩ = some (.pointer (some ⟨eb, 11, none⟩)) := Lib.cell_of_heap hP2 4
  rw [rounds_succ]; go_wp2_with fail
  refine c.mono ?_
  rintro x W1 ⟨rfl, R1, B⟩
  replace D := D.call B (by omega) (by omega) (by omega)
  have hc : W1.cell? ⟨eb, 11, none⟩ = some (.int .i64 0) := D.box.cell 11
  have hf := D.box.frozen 11
  have hP1 := (B.block _ (lt_of_heap hP2) (by omega)).trans hP2
  clear R B c hr
  go_wp2_with fail
  replace D := D.set ⟨n1, n2, n3, n4, n5, n6, n7, n8, n9, n10, n11, n12, 0, 0, ⟨#[]⟩⟩ 11 (.int .i64 n12) rfl (by omega) (by omega)
  have R := R1.far (eb := eb) (by omega) 11 (.int .i64 n12)
  replace hP2 := (Below.heap_setCell W1 ⟨eb, 11, none⟩ (.int .i64 n12) (rb) (by show rb ≠ eb; omega)).trans hP1
  clear hc hf R1 hP1
  generalize W1.setCell ⟨eb, 11, none⟩ (.int .i64 n12) = W at D R hP2 ⊢
  obtain ⟨n13, t13, h13⟩ : ∃ n t, stI t12 = (n, t) := ⟨_, _, rfl⟩
  have c := stInt_any p hpa t12 W R ((ready_below ht D.below).sane) ((ready_below ht D.below).errs)
  rw [h13] at c
  replace h13 := Lib.hid h13
  have hr : W.cell? ⟨rb, 5, none⟩ = some (.pointer (some ⟨eb, 12, none⟩)) := Lib.cell_of_heap hP2 5
  rw [rounds_succ]; go_wp2_with fail
  refine c.mono ?_
  rintro x W1 ⟨rfl, R1, B⟩
  replace D := D.call B (by omega) (by omega) (by omega)
  have hc : W1.cell? ⟨eb, 12, none⟩ = some (.int .i64 0) := D.box.cell 12
  have hf := D.box.frozen 12
  have hP1 := (B.block _ (lt_of_heap hP2) (by omega)).trans hP2
  clear R B c hr
  go_wp2_with fail
  replace D := D.set ⟨n1, n2, n3, n4, n5, n6, n7, n8, n9, n10, n11, n12, n13, 0, ⟨#[]⟩⟩ 12 (.int .i64 n13) rfl (by omega) (by omega)
  have R := R1.far (eb := eb) (by omega) 12 (.int .i64 n13)
  replace hP2 := (Below.heap_setCell W1 ⟨eb, 12, none⟩ (.int .i64 n13) (rb) (by show rb ≠ eb; omega)).trans hP1
  clear hc hf R1 hP1
  generalize W1.setCell ⟨eb, 12, none⟩ (.int .i64 n13) = W at D R hP2 ⊢
  obtain ⟨n14, t14, h14⟩ : ∃ n t, stI t13 = (n, t) := ⟨_, _, rfl⟩
  have c := stInt_any p hpa t13 W R ((ready_below ht D.below).sane) ((ready_below ht D.below).errs)
  rw [h14] at c
  replace h14 := Lib.hid h14
  have hr : W.cell? ⟨rb, 6, none⟩ = some (.pointer (some ⟨eb, 13, none⟩)) := Lib.cell_of_heap hP2 6
  rw [rounds_succ]; go_wp2_with fail
  refine c.mono ?_
  rintro x W1 ⟨rfl, R1, B⟩
  replace D := D.call B (by omega) (by omega) (by omega)
  have hc : W1.cell? ⟨eb, 13, none⟩ = some (.int .i64 0) := D.box.cell 13
  have hf := D.box.frozen 13
  have hP1 := (B.block _ (lt_of_heap hP2) (by omega)).trans hP2
  clear R B c hr
  go_wp2_with fail
  replace D := D.set ⟨n1, n2, n3, n4, n5, n6, n7, n8, n9, n10, n11, n12, n13, n14, ⟨#[]⟩⟩ 13 (.int .i64 n14) rfl (by omega) (by omega)
  have R := R1.far (eb := eb) (by omega) 13 (.int .i64 n14)
  replace hP2 := (Below.heap_setCell W1 ⟨eb, 13, none⟩ (.int .i64 n14) (rb) (by show rb ≠ eb; omega)).trans hP1
  clear hc hf R1 hP1
  generalize W1.setCell ⟨eb, 13, none⟩ (.int .i64 n14) = W at D R hP2 ⊢
  obtain ⟨n15, t15, h15⟩ : ∃ n t, stT t14 = (n, t) := ⟨_, _, rfl⟩
  have c := stText_any p hpa t14 W R ((ready_below ht D.below).sane) ((ready_below ht D.below).errs)
  rw [h15] at c
  replace h15 := Lib.hid h15
  rw [rounds_succ]; go_wp2_with fail
  refine c.mono ?_
  rintro x W1 ⟨rfl, R1, B⟩
  replace D := D.call B (by omega) (by omega) (by omega)
  have hc : W1.cell? ⟨eb, 14, none⟩ = some (.string ⟨#[]⟩) := D.box.cell 14
  have hf := D.box.frozen 14
  clear R B c
  go_wp2_with fail
  replace D := D.set ⟨n1, n2, n3, n4, n5, n6, n7, n8, n9, n10, n11, n12, n13, n14, n15⟩ 14 (.string n15) rfl (by omega) (by omega)
  have R := R1.far (eb := eb) (by omega) 14 (.string n15)
  clear hc hf R1
  generalize W1.setCell ⟨eb, 14, none⟩ (.string n15) = W at D R ⊢
  have HD := Lib.hid (decE_steps h1.out h2.out h3.out h4.out h5.out h6.out h7.out h8.out h9.out h10.out h11.out h12.out h13.out h14.out h15.out)
  clear h1 h2 h3 h4 h5 h6 h7 h8 h9 h10 h11 h12 h13 h14 h15
  refine (stBad_any p _ _ R).mono ?_
  rintro x W1 ⟨rfl, rfl⟩
  have hzb := D.zero
  have hat := D.box.at_
  have hbw := D.below
  cases t15 with
  | none =>
    have HV := Lib.hid (decV_bad hbl.out HD.out (by simp))
    have hn : (none : Option (List UInt8)).isNone = true := rfl
    go_wp2_with ((with_reducible refine wpList_store_row (o := ⟨none, .store 26 (.tmp 2) (.tmp 64), _, _, _, _⟩) ?_ 26 (.tmp 2) (.tmp 64) ?_ (w.heap.size) (Ent.cells entZ) ?_ ?_ 26 (Ent.cells entZ) ?_ ?_ ?_ ?_ ?_); rfl; rfl; rfl; rfl; exact hzb; kernel_rfl; rfl; simp [Ent.cells, entZ, Value.oneCell'])
    (try simp only [Exit.inBlock, Exit.then]); refine bodyPost_ret (sgn_results Tryd.results28 _ _ (w.heap.size) entZ rfl (heap_setRow hzb _)) rfl ⟨?_, ?_⟩
    · rw [HV.out]; rfl
    · exact below_setRow hbw (Nat.le_refl _) _
  | some r =>
    have hn : (some r).isNone = false := rfl
    go_wp2_with fail
    refine (stLeft_any p _ _ R).mono ?_
    cases r with
    | nil =>
      rintro x W2 ⟨rfl, rfl⟩
      have HV := Lib.hid (decV_good hbl.out HD.out)
      have hl : leftN (some []) = 0 := rfl
      generalize hfe : (⟨n1, n2, n3, n4, n5, n6, n7, n8, n9, n10, n11, n12, n13, n14, n15⟩ : Ent) = fe at HV hat
      clear hfe HD D
      go_wp2_with (first
        | ((with_reducible refine wpList_load_mid (op := ⟨some 65, _, _, _, _, _⟩) ?_ 26 (.tmp 5) ?_ eb 0 ?_ (Ent.cells fe).toList _ ?_ Tryd.underlying26 ?_ ?_ ?_); rfl; rfl; rfl; exact hat; rfl; kernel_rfl)
        | ((with_reducible refine wpList_store_row (o := ⟨none, .store 26 (.tmp 2) (.tmp 65), _, _, _, _⟩) ?_ 26 (.tmp 2) (.tmp 65) ?_ (w.heap.size) (Ent.cells fe) ?_ ?_ 26 (Ent.cells entZ) ?_ ?_ ?_ ?_ ?_); rfl; rfl; rfl; rfl; exact hzb; kernel_rfl; rfl; simp [Ent.cells, Value.oneCell']))
      (try simp only [Exit.inBlock, Exit.then]); refine bodyPost_ret (sgn_results Tryd.results28 _ _ (w.heap.size) fe rfl (heap_setRow hzb _)) rfl ⟨?_, ?_⟩
      · rw [HV.out]; rfl
      · exact below_setRow hbw (Nat.le_refl _) _
    | cons c r =>
      rintro x W2 ⟨rfl, rfl⟩
      have HV := Lib.hid (decV_bad hbl.out HD.out (by simp))
      have hl : (0 : Int) < leftN (some (c :: r)) := by show (0 : Int) < ((c :: r).length : Int); rw [List.length_cons]; omega
      generalize leftN (some (c :: r)) = ln at hl
      go_wp2_with ((with_reducible refine wpList_store_row (o := ⟨none, .store 26 (.tmp 2) (.tmp 64), _, _, _, _⟩) ?_ 26 (.tmp 2) (.tmp 64) ?_ (w.heap.size) (Ent.cells entZ) ?_ ?_ 26 (Ent.cells entZ) ?_ ?_ ?_ ?_ ?_); rfl; rfl; rfl; rfl; exact hzb; kernel_rfl; rfl; simp [Ent.cells, entZ, Value.oneCell'])
      (try simp only [Exit.inBlock, Exit.then]); refine bodyPost_ret (sgn_results Tryd.results28 _ _ (w.heap.size) entZ rfl (heap_setRow hzb _)) rfl ⟨?_, ?_⟩
      · rw [HV.out]; rfl
      · exact below_setRow hbw (Nat.le_refl _) _
end Go.Proofs.YtnkbelbalaeieaaDoor
