/- quadriviumlaw10.EntrySigned, walked. -/
import Derived.Test.YtnkbelbalaeieaaDoorSgdR
import Derived.Test.YtnkbelbalaeieaaDoorChks0
namespace Go.Proofs.YtnkbelbalaeieaaDoor
open Go Go.RowKit Go.Sort Go.Lib
attribute [local go_sem] Ent.cells
attribute [local go_sem ↓] ent_eql_cells

/-- What stays while a round of the statement goes on. -/
theorem sgd_keep {W w w' : World} {ab eb kb : Nat} {e p : Ent} {u v : Value} (h : RowKit.Below W.heap.size W w ∧ (∀ j, w.cell? ⟨ab, j, none⟩ = p.cells[j]?) ∧ (∀ j, w.cell? ⟨eb, j, none⟩ = e.cells[j]?) ∧ w.cell? ⟨kb, 0, none⟩ = some u ∧ w.cell? ⟨kb, 1, none⟩ = some v) (hb : RowKit.Below w.heap.size w w') :
    RowKit.Below W.heap.size W w' ∧ (∀ j, w'.cell? ⟨ab, j, none⟩ = p.cells[j]?) ∧ (∀ j, w'.cell? ⟨eb, j, none⟩ = e.cells[j]?) ∧ w'.cell? ⟨kb, 0, none⟩ = some u ∧ w'.cell? ⟨kb, 1, none⟩ = some v := by
  have h0 : w.cell? ⟨ab, 0, none⟩ = some (.int .i64 p.id) := h.2.1 0
  have h1 : w.cell? ⟨eb, 0, none⟩ = some (.int .i64 e.id) := h.2.2.1 0
  have l0 : ab < w.heap.size := World.block_lt_of_cell? w _ h0
  have l1 : eb < w.heap.size := World.block_lt_of_cell? w _ h1
  exact ⟨h.1.trans (hb.mono h.1.size), fun j => (hb.cell (p := ⟨ab, j, none⟩) l0).trans (h.2.1 j), fun j => (hb.cell (p := ⟨eb, j, none⟩) l1).trans (h.2.2.1 j), (hb.cell (World.block_lt_of_cell? w _ h.2.2.2.1)).trans h.2.2.2.1, (hb.cell (World.block_lt_of_cell? w _ h.2.2.2.2)).trans h.2.2.2.2⟩

set_option maxHeartbeats 8000000 in
set_option maxRecDepth 100000 in
theorem signed_any (A : Option Addr) (n c : Nat) (school from_ : Int) (w : World) (hsch : 0 ≤ school ∧ school < 256) (hfr : 0 ≤ from_ ∧ from_ < 65536) (hi : IntsIn w.heap.size A n w) (ht : Tabs w) :
    Calls Tryd.prog 7 #[.slice A n c, .int .u8 school, .int .u16 from_] w fun x w' => x = .returned (.bool true) ∧ RowKit.Below w.heap.size w w' := by
  have hm8 : Int.tmod school 8 = school % 8 := Int.tmod_eq_emod_of_nonneg hsch.1
  have hb8 : 0 ≤ school % 8 ∧ school % 8 < 8 := by omega
  have hwr : IntKind.i64.wrap (1 + school % 8) = 1 + school % 8 := IntWalk.i64_in _ (by omega)
  obtain ⟨sc, hsc⟩ : ∃ sc, 1 + school % 8 = sc := ⟨_, rfl⟩
  have hscb : 1 ≤ sc ∧ sc ≤ 8 := by omega
  have hscI : I64 sc := by unfold I64; omega
  have hI1 : I64 1 := by unfold I64; omega
  have hI4 : I64 4 := by unfold I64; omega
  go_enter Tryd.func7, Tryd.ntmps7
  go_wp2_with fail
  refine (sanity_any _ ht).mono ?_
  rintro x w1 ⟨rfl, hb1⟩
  go_wp2_with fail
  refine (ring_any sc from_ _ hfr).mono ?_
  rintro x w2 ⟨g, rfl, hg0, hg1, hks, hb2⟩
  clear hwr hsc hm8 hb8
  generalize from_ % 1000 = f at hks
  have hb3 := hb1.trans ((hb2.trans ((below_alloc1 w2 (.cells #[.int .i64 sc, .slice (some ⟨g, 0, none⟩) 2 2] 40)).mono hb2.size)).mono hb1.size)
  have hr3 := heap_alloc_new w2 (.cells #[.int .i64 sc, .slice (some ⟨g, 0, none⟩) 2 2] 40)
  have hks3 := hks.below (below_alloc1 w2 (.cells #[.int .i64 sc, .slice (some ⟨g, 0, none⟩) 2 2] 40)) hg1
  have hg3 : g < (w2.alloc (.cells #[.int .i64 sc, .slice (some ⟨g, 0, none⟩) 2 2] 40)).heap.size := by rw [size_alloc]; omega
  have hI3 := (hi.below hb3).mono hb3.size
  clear hks hb1 hb2 hg0 hg1
  go_wp2_with fail
  refine (made_any A n c sc _ (by omega) hI3).mono ?_
  rintro x w4 ⟨v2, es, rfl, hok2, hes, hb4⟩
  have hb5 := hb3.trans (hb4.mono hb3.size)
  have hr4 := (hb4.block _ (lt_of_heap hr3)).trans hr3
  have hks4 := hks3.below hb4 hg3
  have hg4 : g < w4.heap.size := by have := hb4.size; omega
  obtain ⟨A2, cp2, rfl, hA3⟩ := hes.form
  obtain ⟨N2, hN2⟩ : ∃ N2, es.length = N2 := ⟨_, rfl⟩
  have hlen2 := hok2.len
  rw [hN2] at hA3 hlen2 ⊢
  have hT4 := ht.below hb5
  clear hes hI3 hb3 hb4 hr3 hks3 hg3 hi ht
  go_wp2_with fail
  go_loopw [31] (fun i wr => ∃ k : Nat, k ≤ N2 ∧ i = .int .i64 k ∧ RowKit.Below w4.heap.size w4 wr) (fun i _ => N2 - (intOf i).toNat)
  case atStart => exact ⟨0, Nat.zero_le _, rfl, Below.refl _ _⟩
  case round =>
    obtain ⟨j, hj, rfl, hbr⟩ := hrel
    by_cases hlt : j < N2
    · obtain ⟨g2, rfl, hg20, hg21, hat4⟩ := hA3 (by omega)
      have hmj : j < es.length := by omega
      have hej : es[j]? = some es[j] := List.getElem?_eq_getElem hmj
      have hgood := hok2.good _ (List.getElem_mem hmj)
      generalize es[j] = e at hej hgood
      have hok := hgood.ok (by omega)
      have hch := good_rightN hgood hscb
      have hday := hgood.day.1
      obtain ⟨m1, m4, hm1s, hs1, hs4, hs14, hch1, hmk⟩ := ring_signs f sc e hch hgood.school
      have hke := hgood.key
      have hme := hgood.mark
      have hat5 : EntAt wr g2 (j * 15) e := (show EntAt w4 g2 (j * 15) e from hat4 j e hej).below hbr hg21
      have hq5 := (hbr.block _ (lt_of_heap hr4)).trans hr4
      have hT5 := hT4.below hbr
      have hks5 := hks4.below hbr hg4
      have hg5 : g < wr.heap.size := by have := hbr.size; omega
      have hqlt : w2.heap.size < wr.heap.size := lt_of_heap hq5
      generalize haq : ({ e with key := 1, mark := m1 } : Ent) = a at hs1 hs14 hch1 hmk
      generalize ({ e with key := 4, mark := m4 } : Ent) = b at hs4 hs14
      have hok1 : a.Ok := by rw [← haq]; exact ⟨hok.id, hok.school, hok.student, hok.kind, hok.day, hok.on, hok.credits, hok.grade, hok.ref, hok.fro, hok.programme, hok.version, hI1, hok.course, by show m1.size ≤ _; omega⟩
      have hplain : Hid (({ a with key := e.key, mark := e.mark } : Ent) = e) := Lib.hid (by rw [← haq])
      have hkey1 : a.key = 1 := by rw [← haq]
      have hmark1 : a.mark = m1 := by rw [← haq]
      have hacs : a.course.size ≤ 100000 := hok1.course
      have hbody := fun w hT => body_any a hok1 w hT
      have hcheck := fun w => check_any a hok1 w
      rw [hch1] at hcheck
      have hbsz := body_len a hok1
      have hbd1 : (⟨a.body.toArray⟩ : ByteArray).size ≤ 1000000 := by show a.body.length ≤ _; omega
      have hvalid : ∀ w, KeysAt w g (ringL f) → g < w.heap.size → Tabs w → Calls Tryd.prog 27 #[.agg #[.int .i64 sc, .slice (some ⟨g, 0, none⟩) 2 2], .int .i64 a.key, .string ⟨a.body.toArray⟩, .string a.mark, .int .i64 e.day, .int .i64 e.day] w fun x w' => x = .returned (.int .i64 0) ∧ RowKit.Below w.heap.size w w' := fun w hk hg hT => by
        have h := valid_ok g 2 sc (ringL f) 1 ⟨a.body.toArray⟩ e.day e.day ⟨1, ⟨#[113, 117, 105, 108, 108]⟩, 0, 0⟩ w (by show (2 : Nat) ≤ 1000; omega) hk rfl (by show (5 : Nat) ≤ 100000; omega) (by rw [ByteArray.toList_eq]; rfl) hday rfl hg hscI hI1 hbd1 hT
        rw [← hmk] at h
        rw [hkey1, hmark1]
        exact h
      have s1 := fun w hk hg hT => sign_two g sc f 1 e _ _ hs1 w hk hg hscI hI1 hok hT
      have s4 := fun w hk hg hT => sign_two g sc f 4 e _ _ hs4 w hk hg hscI hI4 hok hT
      have s14 := fun w hk hg hT => sign_two g sc f 4 _ _ _ hs14 w hk hg hscI hI4 hok1 hT
      generalize (⟨a.body.toArray⟩ : ByteArray) = bd at hbody hvalid
      have HK1 := Lib.hid hkey1
      clear hkey1
      have hab6 := EntBox.new wr e
      have hat6 := hab6.at_
      have c0 : wr.cell? ⟨w2.heap.size, 0, none⟩ = some (.int .i64 sc) := Lib.cell_of_heap hq5 0
      have c1 : wr.cell? ⟨w2.heap.size, 1, none⟩ = some (.slice (some ⟨g, 0, none⟩) 2 2) := Lib.cell_of_heap hq5 1
      have hb6 := below_alloc1 wr (.cells e.cells 26)
      have s1' := s1 _ (hks5.below hb6 hg5) (by rw [size_alloc]; omega) (hT5.below hb6)
      clear haq hs1 hs4 hs14 hch1 hmk hbd1 hacs hmark1 hej hmj hgood hch hday hke hme hok hok1 hm1s s1 hbsz hat4 hA3
      go_wp2_with (first
        | ((with_reducible refine wpList_load_mid (op := ⟨some 34, _, _, _, _, _⟩) ?_ 26 (.tmp 33) ?_ g2 (j * 15) ?_ (Ent.cells e).toList _ ?_ Tryd.underlying26 ?_ ?_ ?_); rfl; rfl; rfl; exact hat5; rfl; kernel_rfl)
        | ((with_reducible refine wpList_load_mid (op := ⟨some 37, _, _, _, _, _⟩) ?_ 26 (.tmp 11) ?_ wr.heap.size 0 ?_ (Ent.cells e).toList _ ?_ Tryd.underlying26 ?_ ?_ ?_); rfl; rfl; rfl; exact hat6; rfl; kernel_rfl))
      refine s1'.mono ?_
      rintro x w7 ⟨rfl, hb7⟩
      have hb7' := hb6.trans (hb7.mono hb6.size)
      have hq7 := (hb7'.block _ hqlt).trans hq5
      have d0 : w7.cell? ⟨w2.heap.size, 0, none⟩ = some (.int .i64 sc) := Lib.cell_of_heap hq7 0
      have d1 : w7.cell? ⟨w2.heap.size, 1, none⟩ = some (.slice (some ⟨g, 0, none⟩) 2 2) := Lib.cell_of_heap hq7 1
      have hqlt7 : w2.heap.size < w7.heap.size := lt_of_heap hq7
      have hb8 := hb7'.trans ((below_alloc1 w7 (.cells a.cells 26)).mono hb7'.size)
      have hab8 := (hab6.below hb7).below (below_alloc1 w7 (.cells a.cells 26))
      have haa8 := EntBox.new w7 a
      have hat8 := hab8.at_
      have s4' := s4 _ (hks5.below hb8 hg5) (by have := hb8.size; omega) (hT5.below hb8)
      clear s1' s4 c0 c1 hat6 hat5 hab6
      go_wp2_with ((with_reducible refine wpList_load_mid (op := ⟨some 43, _, _, _, _, _⟩) ?_ 26 (.tmp 11) ?_ wr.heap.size 0 ?_ (Ent.cells e).toList _ ?_ Tryd.underlying26 ?_ ?_ ?_); rfl; rfl; rfl; exact hat8; rfl; kernel_rfl)
      refine s4'.mono ?_
      rintro x w9 ⟨rfl, hb9⟩
      have hb9' := hb8.trans (hb9.mono hb8.size)
      have hq9 := (hb9'.block _ hqlt).trans hq5
      have c0 : w9.cell? ⟨w2.heap.size, 0, none⟩ = some (.int .i64 sc) := Lib.cell_of_heap hq9 0
      have c1 : w9.cell? ⟨w2.heap.size, 1, none⟩ = some (.slice (some ⟨g, 0, none⟩) 2 2) := Lib.cell_of_heap hq9 1
      have hqlt9 : w2.heap.size < w9.heap.size := lt_of_heap hq9
      have hA9 := below_alloc1 w9 (.cells b.cells 26)
      have hb10 := hb9'.trans (hA9.mono hb9'.size)
      have hab10 := (hab8.below hb9).below hA9
      have haa10 := (haa8.below hb9).below hA9
      have hbb10 := EntBox.new w9 b
      have hat10 := haa10.at_
      have s14' := s14 _ (hks5.below hb10 hg5) (by have := hb10.size; omega) (hT5.below hb10)
      clear s4' s14 d0 d1 hat8 hab8 haa8 hb7 hb7' hq7 hqlt7 hb8 hb9
      go_wp2_with ((with_reducible refine wpList_load_mid (op := ⟨some 49, _, _, _, _, _⟩) ?_ 26 (.tmp 12) ?_ w7.heap.size 0 ?_ (Ent.cells a).toList _ ?_ Tryd.underlying26 ?_ ?_ ?_); rfl; rfl; rfl; exact hat10; rfl; kernel_rfl)
      refine s14'.mono ?_
      rintro x w11 ⟨rfl, hb11⟩
      have hb11' := hb10.trans (hb11.mono hb10.size)
      have hA11 := below_alloc1 w11 (.cells b.cells 26)
      have hb12 := hb11'.trans (hA11.mono hb11'.size)
      have hab12 := (hab10.below hb11).below hA11
      have haa12 := (haa10.below hb11).below hA11
      have hbb12 := (hbb10.below hb11).below hA11
      have hat12a := haa12.at_
      have hat12b := hbb12.at_
      have hat12c := (EntBox.new w11 b).at_
      have hcheck' := hcheck (w11.alloc (.cells b.cells 26))
      clear s14' c0 c1 hat10 hab10 haa10 hbb10 hcheck hb9' hq9 hqlt9 hb10 hb11 hA9 hb11' hbb12
      go_wp2_with (first
        | ((with_reducible refine wpList_load_g (op := ⟨some 63, _, _, _, _, _⟩) ?_ 26 (.tmp 14) ?_ w9.heap.size 0 ?_ (Ent.cells b).toList _ ?_ Tryd.underlying26 ?_ ?_ ?_); rfl; rfl; rfl; exact hat12b; rfl; kernel_rfl)
        | ((with_reducible refine wpList_load_g (op := ⟨some 64, _, _, _, _, _⟩) ?_ 26 (.tmp 16) ?_ w11.heap.size 0 ?_ (Ent.cells b).toList _ ?_ Tryd.underlying26 ?_ ?_ ?_); rfl; rfl; rfl; exact hat12c; rfl; kernel_rfl)
        | ((with_reducible refine wpList_load_g (op := ⟨some 68, _, _, _, _, _⟩) ?_ 26 (.tmp 12) ?_ w7.heap.size 0 ?_ (Ent.cells a).toList _ ?_ Tryd.underlying26 ?_ ?_ ?_); rfl; rfl; rfl; exact hat12a; rfl; kernel_rfl))
      refine hcheck'.mono ?_
      rintro x w13 ⟨rfl, hb13⟩
      have hb14 := hb12.trans (hb13.mono hb12.size)
      have hab14 := hab12.below hb13
      have haa14 := haa12.below hb13
      have hk13 : w13.cell? ⟨w7.heap.size, 13, none⟩ = some (.int .i64 1) := by rw [← HK1.out]; exact haa14.cell 13
      have hq14 := (hb14.block _ hqlt).trans hq5
      have hks14 := hks5.below hb14 hg5
      have hg14 : g < w13.heap.size := by have := hb14.size; omega
      have hT14 := hT5.below hb14
      clear hcheck' hat12a hat12b hat12c hab12 haa12 hb12 hb13 hA11 HK1
      go_wp2_with fail
      have hS0 : RowKit.Below w13.heap.size w13 w13.drew ∧ (∀ j, w13.drew.cell? ⟨w7.heap.size, j, none⟩ = a.cells[j]?) ∧ (∀ j, w13.drew.cell? ⟨wr.heap.size, j, none⟩ = e.cells[j]?) ∧ w13.drew.cell? ⟨w2.heap.size, 0, none⟩ = some (.int .i64 sc) ∧ w13.drew.cell? ⟨w2.heap.size, 1, none⟩ = some (.slice (some ⟨g, 0, none⟩) 2 2) := ⟨(Below.refl _ _).drew, haa14.cell, hab14.cell, Lib.cell_of_heap hq14 0, Lib.cell_of_heap hq14 1⟩
      clear hk13
      refine of_onlyN ?_ (fun _ _ h => h)
      refine wp_region_flow (S := fun w' => RowKit.Below w13.heap.size w13 w' ∧ (∀ j, w'.cell? ⟨w7.heap.size, j, none⟩ = a.cells[j]?) ∧ (∀ j, w'.cell? ⟨wr.heap.size, j, none⟩ = e.cells[j]?) ∧ w'.cell? ⟨w2.heap.size, 0, none⟩ = some (.int .i64 sc) ∧ w'.cell? ⟨w2.heap.size, 1, none⟩ = some (.slice (some ⟨g, 0, none⟩) 2 2)) [(0, true), (1, true), (2, true), (3, true), (5, true), (6, true), (7, true), (8, true), (9, true), (10, true), (4, false), (11, false), (12, true)] (by kernel_rfl) (by kernel_rfl) (by kernel_rfl) (by decide) (hS0) ?_
      have hS := hS0
      refine flow_take ⟨some 77, _, _, _, _, _⟩ ?_ rfl (by rfl) ?_ ?_
      rotate_left 1
      · intro w hSw; (try dsimp only at hSw); go_simp; (try with_reducible rfl)
      simp only [Act.put, List.setIfInBounds_toArray, List.set_cons_zero, List.set_cons_succ]
      refine flow_take ⟨some 78, _, _, _, _, _⟩ ?_ rfl (by rfl) ?_ ?_
      rotate_left 1
      · intro w hSw; (try dsimp only at hSw); go_simp; (try with_reducible rfl)
      simp only [Act.put, List.setIfInBounds_toArray, List.set_cons_zero, List.set_cons_succ]
      refine flow_take ⟨some 79, _, _, _, _, _⟩ ?_ rfl (by rfl) ?_ ?_
      rotate_left 1
      · intro w hSw; (try dsimp only at hSw); go_simp; (try with_reducible rfl)
      simp only [Act.put, List.setIfInBounds_toArray, List.set_cons_zero, List.set_cons_succ]
      refine flow_load ⟨some 80, _, _, _, _, _⟩ a w7.heap.size rfl (by rfl) _ (by rfl) (by rfl) (fun w hS => hS.2.1) ?_
      (try simp only [Act.put, List.setIfInBounds_toArray, List.set_cons_zero, List.set_cons_succ])
      refine flow_take ⟨some 82, _, _, _, _, _⟩ ?_ rfl (by rfl) ?_ ?_
      rotate_left 1
      · intro w hSw; (try dsimp only at hSw); go_simp; (try with_reducible rfl)
      simp only [Act.put, List.setIfInBounds_toArray, List.set_cons_zero, List.set_cons_succ]
      refine flow_take ⟨some 83, _, _, _, _, _⟩ ?_ rfl (by rfl) ?_ ?_
      rotate_left 1
      · intro w hSw; (try dsimp only at hSw); go_simp; (try with_reducible rfl)
      simp only [Act.put, List.setIfInBounds_toArray, List.set_cons_zero, List.set_cons_succ]
      refine flow_take ⟨some 84, _, _, _, _, _⟩ ?_ rfl (by rfl) ?_ ?_
      rotate_left 1
      · intro w hSw; (try dsimp only at hSw); go_simp; (try with_reducible rfl)
      simp only [Act.put, List.setIfInBounds_toArray, List.set_cons_zero, List.set_cons_succ]
      refine flow_take ⟨some 85, _, _, _, _, _⟩ ?_ rfl (by rfl) ?_ ?_
      rotate_left 1
      · intro w hSw; (try dsimp only at hSw); go_simp; (try with_reducible rfl)
      simp only [Act.put, List.setIfInBounds_toArray, List.set_cons_zero, List.set_cons_succ]
      refine flow_take ⟨some 86, _, _, _, _, _⟩ ?_ rfl (by rfl) ?_ ?_
      rotate_left 1
      · intro w hSw; (try dsimp only at hSw); go_simp; (try with_reducible rfl)
      simp only [Act.put, List.setIfInBounds_toArray, List.set_cons_zero, List.set_cons_succ]
      refine flow_take ⟨some 87, _, _, _, _, _⟩ ?_ rfl (by rfl) ?_ ?_
      rotate_left 1
      · intro w hSw; (try dsimp only at hSw); go_simp; (try with_reducible rfl)
      simp only [Act.put, List.setIfInBounds_toArray, List.set_cons_zero, List.set_cons_succ]
      refine flow_call ⟨some 81, _, _, _, _, _⟩ rfl (by rfl) 12 _ _ (by rfl) _ (by rfl) Tryd.call12 (hbody _ (hT14.below hS.1)) ?_; rintro x wn ⟨rfl, hb⟩; replace hS := sgd_keep hS hb; refine ⟨_, rfl, hS, ?_⟩; (try clear hb)
      simp only [Act.put, List.setIfInBounds_toArray, List.set_cons_zero, List.set_cons_succ]
      refine flow_call ⟨some 88, _, _, _, _, _⟩ rfl (by rfl) 27 _ _ (by rfl) _ (by rfl) Tryd.call27 (hvalid _ (hks14.below hS.1 hg14) (by have := hS.1.size; omega) (hT14.below hS.1)) ?_; rintro x wn ⟨rfl, hb⟩; replace hS := sgd_keep hS hb; refine ⟨_, rfl, hS, ?_⟩; (try clear hb)
      simp only [Act.put, List.setIfInBounds_toArray, List.set_cons_zero, List.set_cons_succ]
      refine flow_take ⟨some 89, _, _, _, _, _⟩ ?_ rfl (by rfl) ?_ ?_
      rotate_left 1
      · intro w hSw; (try dsimp only at hSw); go_simp; (try with_reducible rfl)
      simp only [Act.put, List.setIfInBounds_toArray, List.set_cons_zero, List.set_cons_succ]
      simp only [wpFlow, OnlyN]
      have hbS := hS.1
      clear hS hS0 hq14 hks14 hT14 hbody hvalid
      have haa15 := haa14.below hbS
      have hab15 := hab14.below hbS
      have hb15 := hb14.trans (hbS.mono hb14.size)
      have hat15 := haa15.at_
      generalize wn = w15 at *
      have hab16 := hab15.below (below_alloc1 w15 (.cells a.cells 26))
      have haa16 := EntBox.new w15 a
      have hne16 : wr.heap.size ≠ w15.heap.size := Nat.ne_of_lt (lt_of_heap hab15)
      have hb16 := hb15.trans ((below_alloc1 w15 (.cells a.cells 26)).mono hb15.size)
      clear hab14 haa14 hb14 hbS haa15 hg14
      go_wp2_with ((with_reducible refine wpList_load_mid (op := ⟨some 90, _, _, _, _, _⟩) ?_ 26 (.tmp 12) ?_ w7.heap.size 0 ?_ (Ent.cells a).toList _ ?_ Tryd.underlying26 ?_ ?_ ?_); rfl; rfl; rfl; exact hat15; rfl; kernel_rfl)
      refine sgd_r15 wr.heap.size w15.heap.size e a (w15.alloc (.cells a.cells 26)) _ hab16 haa16 hne16 ?_
      intro u91 u92 u93 u94 u95 u96 wx hEx hPx hbx
      rw [hplain.out] at hPx
      have hbF : RowKit.Below w4.heap.size w4 wx := hbr.trans ((hb15.trans (((below_alloc1 w15 (.cells a.cells 26)).trans (hbx.mono (Nat.le_refl _))).mono hb15.size)).mono hbr.size)
      have hate := hEx.at_
      have hatp := hPx.at_
      clear hab16 haa16 hne16 hb16 hb15 hbx hEx hPx hat15 hab15
      go_wp2_with (first
        | ((with_reducible refine wpList_load_mid (op := ⟨some 97, _, _, _, _, _⟩) ?_ 26 (.tmp 18) ?_ w15.heap.size 0 ?_ (Ent.cells e).toList _ ?_ Tryd.underlying26 ?_ ?_ ?_); rfl; rfl; rfl; exact hatp; rfl; kernel_rfl)
        | ((with_reducible refine wpList_load_mid (op := ⟨some 98, _, _, _, _, _⟩) ?_ 26 (.tmp 11) ?_ wr.heap.size 0 ?_ (Ent.cells e).toList _ ?_ Tryd.underlying26 ?_ ?_ ?_); rfl; rfl; rfl; exact hate; rfl; kernel_rfl))
      go_roundw
      case rel => exact ⟨j + 1, by omega, by go_num, hbF⟩
      case measure => simp [intOf]; omega
    · obtain rfl : j = N2 := by omega
      go_wp2_with fail
      go_ret
      exact ⟨rfl, hb5.trans (hbr.mono hb5.size)⟩
end Go.Proofs.YtnkbelbalaeieaaDoor
