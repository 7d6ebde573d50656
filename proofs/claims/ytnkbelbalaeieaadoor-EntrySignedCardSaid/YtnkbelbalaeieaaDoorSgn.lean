/- key.Sign and the reference's; entry.Sign and the reference's: each walked once. -/
import Derived.Test.YtnkbelbalaeieaaDoorKmsg
import Derived.Test.YtnkbelbalaeieaaDoorDgr
import Derived.Test.YtnkbelbalaeieaaDoorRing
import Derived.Test.YtnkbelbalaeieaaDoorFlow
import Derived.Test.YtnkbelbalaeieaaDoorRefB
import Derived.Laws.ResultCell
namespace Go.Proofs.YtnkbelbalaeieaaDoor
open Go Go.RowKit Go.Sort Go.Lib
attribute [local go_sem] Ent.cells

/-- What a key signs. -/
def sigOf (k : KeyE) (sc id : Int) (t : ByteArray) : ByteArray := ⟨(dg (markOf k.secret ⟨(msgOf sc id t).toArray⟩)).toArray⟩
/-- What key.Sign returns. -/
def keySig (l : List KeyE) (sc id : Int) (t : ByteArray) : ByteArray × Int := match l[keyIdx l id]? with
  | some k => (sigOf k sc id t, 0)
  | none => (⟨#[]⟩, 5)
theorem keySig_some {l : List KeyE} {sc id : Int} {t : ByteArray} {k : KeyE} (h : l[keyIdx l id]? = some k) : keySig l sc id t = (sigOf k sc id t, 0) := by unfold keySig; rw [h]
theorem keySig_none {l : List KeyE} {sc id : Int} {t : ByteArray} (h : ¬ keyIdx l id < l.length) : keySig l sc id t = (⟨#[]⟩, 5) := by unfold keySig; rw [List.getElem?_eq_none (by omega)]
theorem msg_size (sc id : Int) (t : ByteArray) (hs : I64 sc) (hi : I64 id) : (⟨(msgOf sc id t).toArray⟩ : ByteArray).size ≤ t.size + 100 := by
  have l1 := Lib.itoa_length_le sc hs.1 hs.2
  have l2 := Lib.itoa_length_le id hi.1 hi.2
  have l3 := ba_size t
  have h : (⟨(msgOf sc id t).toArray⟩ : ByteArray).size = (msgOf sc id t).length := rfl
  rw [h]
  simp only [msgOf, List.length_append, List.length_cons]
  omega
/-- Two cells that stay. -/
theorem two_keep {W w w' : World} {p q : Addr} {u v : Value} (h : RowKit.Below W.heap.size W w ∧ w.cell? p = some u ∧ w.cell? q = some v) (hb : RowKit.Below w.heap.size w w') :
    RowKit.Below W.heap.size W w' ∧ w'.cell? p = some u ∧ w'.cell? q = some v :=
  ⟨h.1.trans (hb.mono h.1.size), (hb.cell (World.block_lt_of_cell? w _ h.2.1)).trans h.2.1, (hb.cell (World.block_lt_of_cell? w _ h.2.2)).trans h.2.2⟩
theorem three_keep {W w w' : World} {p q r : Addr} {u v x : Value} (h : RowKit.Below W.heap.size W w ∧ w.cell? p = some u ∧ w.cell? q = some v ∧ w.cell? r = some x) (hb : RowKit.Below w.heap.size w w') :
    RowKit.Below W.heap.size W w' ∧ w'.cell? p = some u ∧ w'.cell? q = some v ∧ w'.cell? r = some x :=
  ⟨h.1.trans (hb.mono h.1.size), (hb.cell (World.block_lt_of_cell? w _ h.2.1)).trans h.2.1, (hb.cell (World.block_lt_of_cell? w _ h.2.2.1)).trans h.2.2.1, (hb.cell (World.block_lt_of_cell? w _ h.2.2.2)).trans h.2.2.2⟩

set_option maxHeartbeats 2000000 in
set_option maxRecDepth 100000 in
theorem keySign_any (g c : Nat) (sc : Int) (l : List KeyE) (id : Int) (t : ByteArray) (w : World) (hl : l.length ≤ 1000) (hk : KeysAt w g l) (hsz : ∀ k ∈ l, k.secret.size ≤ 100000) (hg : g < w.heap.size) (hs : I64 sc) (hi : I64 id) (ht : t.size ≤ 1000000) (hT : Tabs w) :
    Calls Tryd.prog 62 #[.agg #[.int .i64 sc, .slice (some ⟨g, 0, none⟩) l.length c], .int .i64 id, .string t] w
      fun x w' => x = .returned (.tuple #[.string (keySig l sc id t).1, .int .i64 (keySig l sc id t).2]) ∧ RowKit.Below w.heap.size w w' := by
  have hb0 := below_alloc1 w (.cells #[.int .i64 sc, .slice (some ⟨g, 0, none⟩) l.length c] 40)
  have hbA := hb0.trans ((below_alloc1 _ (.cells #[.int .i64 sc, .slice (some ⟨g, 0, none⟩) l.length c] 87)).mono hb0.size)
  have hr := heap_alloc_new (w.alloc (.cells #[.int .i64 sc, .slice (some ⟨g, 0, none⟩) l.length c] 40)) (.cells #[.int .i64 sc, .slice (some ⟨g, 0, none⟩) l.length c] 87)
  rw [size_alloc] at hr
  have hF := find_any (w.heap.size + 1) g c sc l id _ hl (hk.below hbA hg) (by simp; omega) hr
  have hT1 := (hT.alloc (.cells #[.int .i64 sc, .slice (some ⟨g, 0, none⟩) l.length c] 40)).alloc (.cells #[.int .i64 sc, .slice (some ⟨g, 0, none⟩) l.length c] 87)
  have hcs := Lib.cell_of_heap hr 0
  unfold keyPtr at hF
  by_cases h : keyIdx l id < l.length
  · have hE := List.getElem?_eq_getElem h
    have hsk := hsz _ (List.getElem_mem h)
    generalize l[keyIdx l id] = e at hE hsk
    have HV := Lib.hid (keySig_some (sc := sc) (t := t) hE)
    have hat := (hk _ _ hE).below hbA hg
    have hcm : (World.alloc (w.alloc (.cells #[.int .i64 sc, .slice (some ⟨g, 0, none⟩) l.length c] 40)) (.cells #[.int .i64 sc, .slice (some ⟨g, 0, none⟩) l.length c] 87)).cell? ⟨g, keyIdx l id * 4 + 1, none⟩ = some (.string e.secret) := hat.cell 1 rfl
    rw [if_pos h] at hF
    clear hE hat hr hk
    generalize keyIdx l id = I at *
    go_enter Tryd.func62, Tryd.ntmps62
    go_wp2_with fail
    refine hF.mono ?_
    rintro x w1 ⟨rfl, hb1⟩
    have hbw := hbA.trans (hb1.mono hbA.size)
    have hcs1 := (hb1.cell (World.block_lt_of_cell? _ _ hcs)).trans hcs
    have hcm1 := (hb1.cell (World.block_lt_of_cell? _ _ hcm)).trans hcm
    have hT2 := hT1.below hb1
    clear hb1 hbA hcs hcm hF hb0
    go_wp2_with fail
    have hM := fun w hc hT => message_any (w.heap.size + 1) sc id t hs hi ht w hc hT
    have hms := msg_size sc id t hs hi
    have hS0 : RowKit.Below w1.heap.size w1 w1.drew ∧ w1.drew.cell? ⟨w.heap.size + 1, 0, none⟩ = some (.int .i64 sc) ∧ w1.drew.cell? ⟨g, I * 4 + 1, none⟩ = some (.string e.secret) := ⟨(Below.refl _ _).drew, hcs1, hcm1⟩
    refine of_onlyN ?_ (fun _ _ h => h)
    refine wp_region_flow (S := fun w' => RowKit.Below w1.heap.size w1 w' ∧ w'.cell? ⟨w.heap.size + 1, 0, none⟩ = some (.int .i64 sc) ∧ w'.cell? ⟨g, I * 4 + 1, none⟩ = some (.string e.secret)) [(0, true), (1, true), (2, true), (3, true), (4, true), (5, true), (6, true), (7, false), (8, false), (9, true), (10, true)] (by kernel_rfl) (by kernel_rfl) (by kernel_rfl) (by decide) (hS0) ?_
    have hS := hS0
    refine flow_take ⟨some 18, _, _, _, _, _⟩ ?_ rfl (by rfl) ?_ ?_
    rotate_left 1
    · intro w hSw; (try dsimp only at hSw); go_simp; (try with_reducible rfl)
    simp only [Act.put, List.setIfInBounds_toArray, List.set_cons_zero, List.set_cons_succ]
    refine flow_take ⟨some 19, _, _, _, _, _⟩ ?_ rfl (by rfl) ?_ ?_
    rotate_left 1
    · intro w hSw; (try dsimp only at hSw); go_simp; (try with_reducible rfl)
    simp only [Act.put, List.setIfInBounds_toArray, List.set_cons_zero, List.set_cons_succ]
    refine flow_take ⟨some 20, _, _, _, _, _⟩ ?_ rfl (by rfl) ?_ ?_
    rotate_left 1
    · intro w hSw; (try dsimp only at hSw); go_simp; (try with_reducible rfl)
    simp only [Act.put, List.setIfInBounds_toArray, List.set_cons_zero, List.set_cons_succ]
    refine flow_take ⟨some 21, _, _, _, _, _⟩ ?_ rfl (by rfl) ?_ ?_
    rotate_left 1
    · intro w hSw; (try dsimp only at hSw); go_simp; (try with_reducible rfl)
    simp only [Act.put, List.setIfInBounds_toArray, List.set_cons_zero, List.set_cons_succ]
    refine flow_take ⟨some 22, _, _, _, _, _⟩ ?_ rfl (by rfl) ?_ ?_
    rotate_left 1
    · intro w hSw; (try dsimp only at hSw); go_simp; (try with_reducible rfl)
    simp only [Act.put, List.setIfInBounds_toArray, List.set_cons_zero, List.set_cons_succ]
    refine flow_take ⟨some 23, _, _, _, _, _⟩ ?_ rfl (by rfl) ?_ ?_
    rotate_left 1
    · intro w hSw; (try dsimp only at hSw); go_simp; (try with_reducible rfl)
    simp only [Act.put, List.setIfInBounds_toArray, List.set_cons_zero, List.set_cons_succ]
    refine flow_take ⟨some 24, _, _, _, _, _⟩ ?_ rfl (by rfl) ?_ ?_
    rotate_left 1
    · intro w hSw; (try dsimp only at hSw); go_simp; (try with_reducible rfl)
    simp only [Act.put, List.setIfInBounds_toArray, List.set_cons_zero, List.set_cons_succ]
    refine flow_call ⟨some 25, _, _, _, _, _⟩ rfl (by rfl) 66 _ _ (by rfl) _ (by rfl) Tryd.call66 (message_any (w.heap.size + 1) sc id t hs hi ht _ hS.2.1 (hT2.below hS.1)) ?_; rintro x wn ⟨rfl, hb⟩; replace hS := two_keep hS hb; refine ⟨_, rfl, hS, ?_⟩; (try clear hb)
    simp only [Act.put, List.setIfInBounds_toArray, List.set_cons_zero, List.set_cons_succ]
    refine flow_call ⟨some 26, _, _, _, _, _⟩ rfl (by rfl) 85 _ _ (by rfl) _ (by rfl) Tryd.call85 (mark_any e.secret ⟨(msgOf sc id t).toArray⟩ (by omega) (by omega) _) ?_; rintro x wn ⟨rfl, hb⟩; replace hS := two_keep hS hb; refine ⟨_, rfl, hS, ?_⟩; (try clear hb)
    simp only [Act.put, List.setIfInBounds_toArray, List.set_cons_zero, List.set_cons_succ]
    refine flow_take ⟨some 6, _, _, _, _, _⟩ ?_ rfl (by rfl) ?_ ?_
    rotate_left 1
    · intro w hSw; (try dsimp only at hSw); go_simp; (try with_reducible rfl)
    simp only [Act.put, List.setIfInBounds_toArray, List.set_cons_zero, List.set_cons_succ]
    refine flow_take ⟨some 7, _, _, _, _, _⟩ ?_ rfl (by rfl) ?_ ?_
    rotate_left 1
    · intro w hSw; (try dsimp only at hSw); go_simp; (try with_reducible rfl)
    simp only [Act.put, List.setIfInBounds_toArray, List.set_cons_zero, List.set_cons_succ]
    simp only [wpFlow, OnlyN]
    go_wp2_with fail
    refine bodyPost_ret (results_tmp2 rfl _ _ _) rfl ?_
    exact ⟨by rw [HV.out]; rfl, hbw.trans (hS.1.mono hbw.size)⟩
  · have HV := Lib.hid (keySig_none (sc := sc) (t := t) h)
    rw [if_neg h] at hF
    clear hr hk
    generalize keyIdx l id = I at *
    go_enter Tryd.func62, Tryd.ntmps62
    go_wp2_with fail
    refine hF.mono ?_
    rintro x w1 ⟨rfl, hb1⟩
    have hbw := hbA.trans (hb1.mono hbA.size)
    clear hb1 hbA hF hb0 hcs
    go_wp2_with fail
    refine bodyPost_ret (results_tmp2 rfl _ _ _) rfl ?_
    exact ⟨by rw [HV.out]; rfl, hbw⟩

set_option maxHeartbeats 2000000 in
set_option maxRecDepth 100000 in
theorem refKeySign_any (g c : Nat) (sc : Int) (l : List KeyE) (id : Int) (t : ByteArray) (w : World) (hl : l.length ≤ 1000) (hk : KeysAt w g l) (hsz : ∀ k ∈ l, k.secret.size ≤ 100000) (hg : g < w.heap.size) (hs : I64 sc) (hi : I64 id) (ht : t.size ≤ 1000000) :
    Calls Tryd.prog 63 #[.agg #[.int .i64 sc, .slice (some ⟨g, 0, none⟩) l.length c], .int .i64 id, .string t] w
      fun x w' => x = .returned (.tuple #[.string (keySig l sc id t).1, .int .i64 (keySig l sc id t).2]) ∧ RowKit.Below w.heap.size w w' := by
  have hb0 := below_alloc1 w (.cells #[.int .i64 sc, .slice (some ⟨g, 0, none⟩) l.length c] 40)
  have hr := heap_alloc_new w (.cells #[.int .i64 sc, .slice (some ⟨g, 0, none⟩) l.length c] 40)
  have hF := refFind_any g c sc l id _ hl (hk.below hb0 hg) (by simp; omega)
  have hc0 := Lib.cell_of_heap hr 0
  have hc1 := Lib.cell_of_heap hr 1
  by_cases h : keyIdx l id < l.length
  · have hE := List.getElem?_eq_getElem h
    have hsk := hsz _ (List.getElem_mem h)
    generalize l[keyIdx l id] = e at hE hsk
    have HV := Lib.hid (keySig_some (sc := sc) (t := t) hE)
    have hat := (hk _ _ hE).below hb0 hg
    have hcm : (World.alloc w (.cells #[.int .i64 sc, .slice (some ⟨g, 0, none⟩) l.length c] 40)).cell? ⟨g, keyIdx l id * 4 + 1, none⟩ = some (.string e.secret) := hat.cell 1 rfl
    rw [if_pos h] at hF
    clear hE hat hr hk
    generalize keyIdx l id = I at *
    go_enter Tryd.func63, Tryd.ntmps63
    go_wp2_with fail
    refine hF.mono ?_
    rintro x w1 ⟨rfl, hb1⟩
    have hbw := hb0.trans (hb1.mono hb0.size)
    have hd0 := (hb1.cell (World.block_lt_of_cell? _ _ hc0)).trans hc0
    have hd1 := (hb1.cell (World.block_lt_of_cell? _ _ hc1)).trans hc1
    have hcm1 := (hb1.cell (World.block_lt_of_cell? _ _ hcm)).trans hcm
    clear hb1 hc0 hc1 hcm hF hb0
    go_wp2_with fail
    have hms := msg_size sc id t hs hi
    have hS0 : RowKit.Below w1.heap.size w1 w1.drew ∧ w1.drew.cell? ⟨w.heap.size, 0, none⟩ = some (.int .i64 sc) ∧ w1.drew.cell? ⟨w.heap.size, 1, none⟩ = some (.slice (some ⟨g, 0, none⟩) l.length c) ∧ w1.drew.cell? ⟨g, I * 4 + 1, none⟩ = some (.string e.secret) := ⟨(Below.refl _ _).drew, hd0, hd1, hcm1⟩
    refine of_onlyN ?_ (fun _ _ h => h)
    refine wp_region_flow (S := fun w' => RowKit.Below w1.heap.size w1 w' ∧ w'.cell? ⟨w.heap.size, 0, none⟩ = some (.int .i64 sc) ∧ w'.cell? ⟨w.heap.size, 1, none⟩ = some (.slice (some ⟨g, 0, none⟩) l.length c) ∧ w'.cell? ⟨g, I * 4 + 1, none⟩ = some (.string e.secret)) [(0, true), (1, true), (2, true), (3, true), (4, true), (5, true), (6, true), (7, true), (8, true), (9, false), (10, false), (11, true), (12, true)] (by kernel_rfl) (by kernel_rfl) (by kernel_rfl) (by decide) (hS0) ?_
    have hS := hS0
    refine flow_take ⟨some 14, _, _, _, _, _⟩ ?_ rfl (by rfl) ?_ ?_
    rotate_left 1
    · intro w hSw; (try dsimp only at hSw); go_simp; (try with_reducible rfl)
    simp only [Act.put, List.setIfInBounds_toArray, List.set_cons_zero, List.set_cons_succ]
    refine flow_take ⟨some 15, _, _, _, _, _⟩ ?_ rfl (by rfl) ?_ ?_
    rotate_left 1
    · intro w hSw; (try dsimp only at hSw); go_simp; (try with_reducible rfl)
    simp only [Act.put, List.setIfInBounds_toArray, List.set_cons_zero, List.set_cons_succ]
    refine flow_take ⟨some 16, _, _, _, _, _⟩ ?_ rfl (by rfl) ?_ ?_
    rotate_left 1
    · intro w hSw; (try dsimp only at hSw); go_simp; (try with_reducible rfl)
    simp only [Act.put, List.setIfInBounds_toArray, List.set_cons_zero, List.set_cons_succ]
    refine flow_take ⟨some 17, _, _, _, _, _⟩ ?_ rfl (by rfl) ?_ ?_
    rotate_left 1
    · intro w hSw; (try dsimp only at hSw); go_simp; (try with_reducible rfl)
    simp only [Act.put, List.setIfInBounds_toArray, List.set_cons_zero, List.set_cons_succ]
    refine flow_take ⟨some 18, _, _, _, _, _⟩ ?_ rfl (by rfl) ?_ ?_
    rotate_left 1
    · intro w hSw; (try dsimp only at hSw); go_simp; (try with_reducible rfl)
    simp only [Act.put, List.setIfInBounds_toArray, List.set_cons_zero, List.set_cons_succ]
    refine flow_take ⟨some 19, _, _, _, _, _⟩ ?_ rfl (by rfl) ?_ ?_
    rotate_left 1
    · intro w hSw; (try dsimp only at hSw); go_simp; (try with_reducible rfl)
    simp only [Act.put, List.setIfInBounds_toArray, List.set_cons_zero, List.set_cons_succ]
    refine flow_take ⟨some 20, _, _, _, _, _⟩ ?_ rfl (by rfl) ?_ ?_
    rotate_left 1
    · intro w hSw; (try dsimp only at hSw); go_simp; (try with_reducible rfl)
    simp only [Act.put, List.setIfInBounds_toArray, List.set_cons_zero, List.set_cons_succ]
    refine flow_take ⟨some 21, _, _, _, _, _⟩ ?_ rfl (by rfl) ?_ ?_
    rotate_left 1
    · intro w hSw; (try dsimp only at hSw); go_simp; (try with_reducible rfl)
    simp only [Act.put, List.setIfInBounds_toArray, List.set_cons_zero, List.set_cons_succ]
    refine flow_take ⟨some 22, _, _, _, _, _⟩ ?_ rfl (by rfl) ?_ ?_
    rotate_left 1
    · intro w hSw; (try dsimp only at hSw); go_simp; (try with_reducible rfl)
    simp only [Act.put, List.setIfInBounds_toArray, List.set_cons_zero, List.set_cons_succ]
    refine flow_call ⟨some 23, _, _, _, _, _⟩ rfl (by rfl) 88 _ _ (by rfl) _ (by rfl) Tryd.call88 (whole_any sc id _ t hs hi ht _) ?_; rintro x wn ⟨rfl, hb⟩; replace hS := three_keep hS hb; refine ⟨_, rfl, hS, ?_⟩; (try clear hb)
    simp only [Act.put, List.setIfInBounds_toArray, List.set_cons_zero, List.set_cons_succ]
    refine flow_call ⟨some 24, _, _, _, _, _⟩ rfl (by rfl) 87 _ _ (by rfl) _ (by rfl) Tryd.call87 (refMark_any e.secret ⟨(msgOf sc id t).toArray⟩ (by omega) (by omega) _) ?_; rintro x wn ⟨rfl, hb⟩; replace hS := three_keep hS hb; refine ⟨_, rfl, hS, ?_⟩; (try clear hb)
    simp only [Act.put, List.setIfInBounds_toArray, List.set_cons_zero, List.set_cons_succ]
    refine flow_take ⟨some 6, _, _, _, _, _⟩ ?_ rfl (by rfl) ?_ ?_
    rotate_left 1
    · intro w hSw; (try dsimp only at hSw); go_simp; (try with_reducible rfl)
    simp only [Act.put, List.setIfInBounds_toArray, List.set_cons_zero, List.set_cons_succ]
    refine flow_take ⟨some 7, _, _, _, _, _⟩ ?_ rfl (by rfl) ?_ ?_
    rotate_left 1
    · intro w hSw; (try dsimp only at hSw); go_simp; (try with_reducible rfl)
    simp only [Act.put, List.setIfInBounds_toArray, List.set_cons_zero, List.set_cons_succ]
    simp only [wpFlow, OnlyN]
    go_wp2_with fail
    refine bodyPost_ret (results_tmp2 rfl _ _ _) rfl ?_
    exact ⟨by rw [HV.out]; rfl, hbw.trans (hS.1.mono hbw.size)⟩
  · have HV := Lib.hid (keySig_none (sc := sc) (t := t) h)
    rw [if_neg h] at hF
    clear hr hk
    generalize keyIdx l id = I at *
    go_enter Tryd.func63, Tryd.ntmps63
    go_wp2_with fail
    refine hF.mono ?_
    rintro x w1 ⟨rfl, hb1⟩
    have hbw := hb0.trans (hb1.mono hb0.size)
    clear hb1 hF hb0 hc0 hc1
    go_wp2_with fail
    refine bodyPost_ret (results_tmp2 rfl _ _ _) rfl ?_
    exact ⟨by rw [HV.out]; rfl, hbw⟩
end Go.Proofs.YtnkbelbalaeieaaDoor
