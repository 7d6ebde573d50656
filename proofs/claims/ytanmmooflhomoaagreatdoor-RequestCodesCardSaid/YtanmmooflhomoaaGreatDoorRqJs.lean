/- The reference's has, Missing, Encode, Digest. -/
import Derived.Test.YtanmmooflhomoaaGreatDoorRqRJ
import Derived.Test.YtanmmooflhomoaaGreatDoorRqMis
import Derived.Test.YtanmmooflhomoaaGreatDoorRqDgr
import Derived.Test.YtanmmooflhomoaaGreatDoorVDec
import Derived.Test.YtanmmooflhomoaaGreatDoorQFlow
namespace Go.Proofs.YtanmmooflhomoaaGreatDoor
open Go Go.Proofs Go.RowKit Go.Sort Go.Lib
attribute [local go_sem] Req.cells
attribute [local go_sem ↓] req_eql_cells req_neq_cells

theorem one_keep {W w w' : World} {eb : Nat} {cs : Array Value} (hl : eb < W.heap.size) (h : RowKit.Below W.heap.size W w ∧ ∀ j, w.cell? ⟨eb, j, none⟩ = cs[j]?) (hb : RowKit.Below w.heap.size w w') : RowKit.Below W.heap.size W w' ∧ ∀ j, w'.cell? ⟨eb, j, none⟩ = cs[j]? :=
  ⟨below_next h.1 hb, old_keep (Nat.lt_of_lt_of_le hl h.1.size) hb h.2⟩

set_option maxHeartbeats 4000000 in
set_option maxRecDepth 100000 in
theorem refEnc_r9 {s0 s1 s2 s4 s7 s8 s9 s10 s11 s12 s13 s14 s15 s16 s17 s18 s19 s20 s21 s22 s23 s24 s25 s26 s27 s28 s29 s30 s31 s32 s33 s34 s35 s36 s37 s38 s39 s40 s41 s42 s43 s44 s45 s46 s47 s48 s49 s50 s51 s52 s53 s54 s55 s56 s57 s58 : Value} (eb : Nat) (x : Req) (S : ByteArray) (W : World) (Q : Exit → Act → World → Prop) (hbox : ReqBox W eb x) (hs : x.Ok) (hS : S.size ≤ 2000000)
    (hQ : ∀ (u3 u22 u23 u24 u25 u26 u27 u28 u29 u30 u31 u32 u33 u34 u35 u36 u37 u38 u39 u40 u41 u42 u43 u44 u45 u46 u47 u48 u49 u50 u51 u52 u53 u54 u55 u56 u57 : Value) (wx : World), RowKit.Below W.heap.size W wx → u3 = .string ⟨(S.data.toList ++ encR1 x).toArray⟩ → Q .normal ⟨List.toArray (s0 :: s1 :: s2 :: u3 :: s4 :: .pointer (some ⟨eb, 0, none⟩) :: .int .i64 (truthN x.cancel) :: s7 :: s8 :: s9 :: s10 :: s11 :: s12 :: s13 :: s14 :: s15 :: s16 :: s17 :: s18 :: s19 :: s20 :: s21 :: u22 :: u23 :: u24 :: u25 :: u26 :: u27 :: u28 :: u29 :: u30 :: u31 :: u32 :: u33 :: u34 :: u35 :: u36 :: u37 :: u38 :: u39 :: u40 :: u41 :: u42 :: u43 :: u44 :: u45 :: u46 :: u47 :: u48 :: u49 :: u50 :: u51 :: u52 :: u53 :: u54 :: u55 :: u56 :: u57 :: s58 :: []), []⟩ wx) :
    (regionOf Tryz.f17 9).wp Tryz.prog Q ⟨List.toArray (s0 :: s1 :: s2 :: .string S :: s4 :: .pointer (some ⟨eb, 0, none⟩) :: .int .i64 (truthN x.cancel) :: s7 :: s8 :: s9 :: s10 :: s11 :: s12 :: s13 :: s14 :: s15 :: s16 :: s17 :: s18 :: s19 :: s20 :: s21 :: s22 :: s23 :: s24 :: s25 :: s26 :: s27 :: s28 :: s29 :: s30 :: s31 :: s32 :: s33 :: s34 :: s35 :: s36 :: s37 :: s38 :: s39 :: s40 :: s41 :: s42 :: s43 :: s44 :: s45 :: s46 :: s47 :: s48 :: s49 :: s50 :: s51 :: s52 :: s53 :: s54 :: s55 :: s56 :: s57 :: s58 :: []), []⟩ W := by
  refine of_onlyN (K := Q .normal) ?_ (fun _ _ h => h)
  generalize Q .normal = K at hQ ⊢
  have HQ := Lib.hid hQ; clear hQ
  conv => arg 2; whnf
  have hok := hs
  obtain ⟨t0, ht0⟩ : ∃ t : ByteArray, t = ⟨(wInt x.server).toArray⟩ := ⟨_, rfl⟩
  have z0 : t0.size ≤ 22 := by rw [ht0, ba_size]; have := wInt_len x.server hok.server.1 hok.server.2; simpa using this
  have c0 := fun w => Wr.refInt_any x.server hok.server.1 hok.server.2 w
  rw [← ht0] at c0
  have T0 := Lib.hid ht0
  clear ht0
  obtain ⟨t1, ht1⟩ : ∃ t : ByteArray, t = ⟨(wInt x.seq).toArray⟩ := ⟨_, rfl⟩
  have z1 : t1.size ≤ 22 := by rw [ht1, ba_size]; have := wInt_len x.seq hok.seq.1 hok.seq.2; simpa using this
  have c1 := fun w => Wr.refInt_any x.seq hok.seq.1 hok.seq.2 w
  rw [← ht1] at c1
  have T1 := Lib.hid ht1
  clear ht1
  obtain ⟨t2, ht2⟩ : ∃ t : ByteArray, t = ⟨(wInt (truthN x.cancel)).toArray⟩ := ⟨_, rfl⟩
  have z2 : t2.size ≤ 22 := by rw [ht2, ba_size]; have := wInt_len (truthN x.cancel) (by unfold truthN; split <;> omega) (by unfold truthN; split <;> omega); simpa using this
  have c2 := fun w => Wr.refInt_any (truthN x.cancel) (by unfold truthN; split <;> omega) (by unfold truthN; split <;> omega) w
  rw [← ht2] at c2
  have T2 := Lib.hid ht2
  clear ht2
  obtain ⟨t3, ht3⟩ : ∃ t : ByteArray, t = ⟨(wInt x.student).toArray⟩ := ⟨_, rfl⟩
  have z3 : t3.size ≤ 22 := by rw [ht3, ba_size]; have := wInt_len x.student hok.student.1 hok.student.2; simpa using this
  have c3 := fun w => Wr.refInt_any x.student hok.student.1 hok.student.2 w
  rw [← ht3] at c3
  have T3 := Lib.hid ht3
  clear ht3
  obtain ⟨t4, ht4⟩ : ∃ t : ByteArray, t = ⟨(wInt x.term).toArray⟩ := ⟨_, rfl⟩
  have z4 : t4.size ≤ 22 := by rw [ht4, ba_size]; have := wInt_len x.term hok.term.1 hok.term.2; simpa using this
  have c4 := fun w => Wr.refInt_any x.term hok.term.1 hok.term.2 w
  rw [← ht4] at c4
  have T4 := Lib.hid ht4
  clear ht4
  obtain ⟨t5, ht5⟩ : ∃ t : ByteArray, t = ⟨(wText x.code).toArray⟩ := ⟨_, rfl⟩
  have z5 : t5.size ≤ 100040 := by rw [ht5, ba_size]; have := wText_len x.code (by have := hs.code; omega); have := hs.code; simp; omega
  have c5 := fun w => Wr.refText_any x.code (by have := hs.code; omega) w
  rw [← ht5] at c5
  have T5 := Lib.hid ht5
  clear ht5
  obtain ⟨t6, ht6⟩ : ∃ t : ByteArray, t = ⟨(wText x.give).toArray⟩ := ⟨_, rfl⟩
  have z6 : t6.size ≤ 100040 := by rw [ht6, ba_size]; have := wText_len x.give (by have := hs.give; omega); have := hs.give; simp; omega
  have c6 := fun w => Wr.refText_any x.give (by have := hs.give; omega) w
  rw [← ht6] at c6
  have T6 := Lib.hid ht6
  clear ht6
  obtain ⟨t7, ht7⟩ : ∃ t : ByteArray, t = ⟨(wInt x.priority).toArray⟩ := ⟨_, rfl⟩
  have z7 : t7.size ≤ 22 := by rw [ht7, ba_size]; have := wInt_len x.priority hok.priority.1 hok.priority.2; simpa using this
  have c7 := fun w => Wr.refInt_any x.priority hok.priority.1 hok.priority.2 w
  rw [← ht7] at c7
  have T7 := Lib.hid ht7
  clear ht7
  obtain ⟨t8, ht8⟩ : ∃ t : ByteArray, t = ⟨(wInt x.day).toArray⟩ := ⟨_, rfl⟩
  have z8 : t8.size ≤ 22 := by rw [ht8, ba_size]; have := wInt_len x.day hok.day.1 hok.day.2; simpa using this
  have c8 := fun w => Wr.refInt_any x.day hok.day.1 hok.day.2 w
  rw [← ht8] at c8
  have T8 := Lib.hid ht8
  clear ht8
  have n0 : ¬ 9223372036854775807 < S.size + t0.size := by omega
  have n1 : ¬ 9223372036854775807 < S.size + t0.size + t1.size := by omega
  have n2 : ¬ 9223372036854775807 < S.size + t0.size + t1.size + t2.size := by omega
  have n3 : ¬ 9223372036854775807 < S.size + t0.size + t1.size + t2.size + t3.size := by omega
  have n4 : ¬ 9223372036854775807 < S.size + t0.size + t1.size + t2.size + t3.size + t4.size := by omega
  have n5 : ¬ 9223372036854775807 < S.size + t0.size + t1.size + t2.size + t3.size + t4.size + t5.size := by omega
  have n6 : ¬ 9223372036854775807 < S.size + t0.size + t1.size + t2.size + t3.size + t4.size + t5.size + t6.size := by omega
  have n7 : ¬ 9223372036854775807 < S.size + t0.size + t1.size + t2.size + t3.size + t4.size + t5.size + t6.size + t7.size := by omega
  have n8 : ¬ 9223372036854775807 < S.size + t0.size + t1.size + t2.size + t3.size + t4.size + t5.size + t6.size + t7.size + t8.size := by omega
  clear z0 z1 z2 z3 z4 z5 z6 z7 z8 hS hok
  have hl := hbox.lt
  have hS0 : RowKit.Below W.heap.size W W.drew ∧ ∀ j, W.drew.cell? ⟨eb, j, none⟩ = x.cells[j]? := ⟨(Below.refl _ _).drew, hbox.cell⟩
  simp only [Req.cells] at hS0
  refine of_onlyN ?_ (fun _ _ h => h)
  refine wp_region_flow (S := fun w' => RowKit.Below W.heap.size W w' ∧ ∀ j, w'.cell? ⟨eb, j, none⟩ = (#[.int .i64 x.server, .int .i64 x.seq, .bool x.cancel, .int .i64 x.student, .int .i64 x.term, .string x.code, .string x.give, .int .i64 x.priority, .int .i64 x.day] : Array Value)[j]?) [(0, true), (1, true), (2, true), (5, true), (6, true), (9, true), (12, true), (13, true), (16, true), (17, true), (20, true), (21, true), (24, true), (25, true), (28, true), (29, true), (32, true), (33, true), (3, false), (4, true), (7, false), (8, true), (10, false), (11, true), (14, false), (15, true), (18, false), (19, true), (22, false), (23, true), (26, false), (27, true), (30, false), (31, true), (34, false), (35, true), (36, true)] (by kernel_rfl) (by kernel_rfl) (by kernel_rfl) (by decide) (hS0) ?_
  have hS := hS0
  refine flow_take ⟨some 22, _, _, _, _, _⟩ ?_ rfl (by rfl) ?_ ?_
  rotate_left 1
  · intro w hSw; (try dsimp only at hSw); go_simp; (try with_reducible rfl)
  simp only [Act.put, List.setIfInBounds_toArray, List.set_cons_zero, List.set_cons_succ]
  refine flow_take ⟨some 23, _, _, _, _, _⟩ ?_ rfl (by rfl) ?_ ?_
  rotate_left 1
  · intro w hSw; (try dsimp only at hSw); go_simp; (try with_reducible rfl)
  simp only [Act.put, List.setIfInBounds_toArray, List.set_cons_zero, List.set_cons_succ]
  refine flow_take ⟨some 24, _, _, _, _, _⟩ ?_ rfl (by rfl) ?_ ?_
  rotate_left 1
  · intro w hSw; (try dsimp only at hSw); go_simp; (try with_reducible rfl)
  simp only [Act.put, List.setIfInBounds_toArray, List.set_cons_zero, List.set_cons_succ]
  refine flow_take ⟨some 27, _, _, _, _, _⟩ ?_ rfl (by rfl) ?_ ?_
  rotate_left 1
  · intro w hSw; (try dsimp only at hSw); go_simp; (try with_reducible rfl)
  simp only [Act.put, List.setIfInBounds_toArray, List.set_cons_zero, List.set_cons_succ]
  refine flow_take ⟨some 28, _, _, _, _, _⟩ ?_ rfl (by rfl) ?_ ?_
  rotate_left 1
  · intro w hSw; (try dsimp only at hSw); go_simp; (try with_reducible rfl)
  simp only [Act.put, List.setIfInBounds_toArray, List.set_cons_zero, List.set_cons_succ]
  refine flow_take ⟨some 31, _, _, _, _, _⟩ ?_ rfl (by rfl) ?_ ?_
  rotate_left 1
  · intro w hSw; (try dsimp only at hSw); go_simp; (try with_reducible rfl)
  simp only [Act.put, List.setIfInBounds_toArray, List.set_cons_zero, List.set_cons_succ]
  refine flow_take ⟨some 34, _, _, _, _, _⟩ ?_ rfl (by rfl) ?_ ?_
  rotate_left 1
  · intro w hSw; (try dsimp only at hSw); go_simp; (try with_reducible rfl)
  simp only [Act.put, List.setIfInBounds_toArray, List.set_cons_zero, List.set_cons_succ]
  refine flow_take ⟨some 35, _, _, _, _, _⟩ ?_ rfl (by rfl) ?_ ?_
  rotate_left 1
  · intro w hSw; (try dsimp only at hSw); go_simp; (try with_reducible rfl)
  simp only [Act.put, List.setIfInBounds_toArray, List.set_cons_zero, List.set_cons_succ]
  refine flow_take ⟨some 38, _, _, _, _, _⟩ ?_ rfl (by rfl) ?_ ?_
  rotate_left 1
  · intro w hSw; (try dsimp only at hSw); go_simp; (try with_reducible rfl)
  simp only [Act.put, List.setIfInBounds_toArray, List.set_cons_zero, List.set_cons_succ]
  refine flow_take ⟨some 39, _, _, _, _, _⟩ ?_ rfl (by rfl) ?_ ?_
  rotate_left 1
  · intro w hSw; (try dsimp only at hSw); go_simp; (try with_reducible rfl)
  simp only [Act.put, List.setIfInBounds_toArray, List.set_cons_zero, List.set_cons_succ]
  refine flow_take ⟨some 42, _, _, _, _, _⟩ ?_ rfl (by rfl) ?_ ?_
  rotate_left 1
  · intro w hSw; (try dsimp only at hSw); go_simp; (try with_reducible rfl)
  simp only [Act.put, List.setIfInBounds_toArray, List.set_cons_zero, List.set_cons_succ]
  refine flow_take ⟨some 43, _, _, _, _, _⟩ ?_ rfl (by rfl) ?_ ?_
  rotate_left 1
  · intro w hSw; (try dsimp only at hSw); go_simp; (try with_reducible rfl)
  simp only [Act.put, List.setIfInBounds_toArray, List.set_cons_zero, List.set_cons_succ]
  refine flow_take ⟨some 46, _, _, _, _, _⟩ ?_ rfl (by rfl) ?_ ?_
  rotate_left 1
  · intro w hSw; (try dsimp only at hSw); go_simp; (try with_reducible rfl)
  simp only [Act.put, List.setIfInBounds_toArray, List.set_cons_zero, List.set_cons_succ]
  refine flow_take ⟨some 47, _, _, _, _, _⟩ ?_ rfl (by rfl) ?_ ?_
  rotate_left 1
  · intro w hSw; (try dsimp only at hSw); go_simp; (try with_reducible rfl)
  simp only [Act.put, List.setIfInBounds_toArray, List.set_cons_zero, List.set_cons_succ]
  refine flow_take ⟨some 50, _, _, _, _, _⟩ ?_ rfl (by rfl) ?_ ?_
  rotate_left 1
  · intro w hSw; (try dsimp only at hSw); go_simp; (try with_reducible rfl)
  simp only [Act.put, List.setIfInBounds_toArray, List.set_cons_zero, List.set_cons_succ]
  refine flow_take ⟨some 51, _, _, _, _, _⟩ ?_ rfl (by rfl) ?_ ?_
  rotate_left 1
  · intro w hSw; (try dsimp only at hSw); go_simp; (try with_reducible rfl)
  simp only [Act.put, List.setIfInBounds_toArray, List.set_cons_zero, List.set_cons_succ]
  refine flow_take ⟨some 54, _, _, _, _, _⟩ ?_ rfl (by rfl) ?_ ?_
  rotate_left 1
  · intro w hSw; (try dsimp only at hSw); go_simp; (try with_reducible rfl)
  simp only [Act.put, List.setIfInBounds_toArray, List.set_cons_zero, List.set_cons_succ]
  refine flow_take ⟨some 55, _, _, _, _, _⟩ ?_ rfl (by rfl) ?_ ?_
  rotate_left 1
  · intro w hSw; (try dsimp only at hSw); go_simp; (try with_reducible rfl)
  simp only [Act.put, List.setIfInBounds_toArray, List.set_cons_zero, List.set_cons_succ]
  (first | (refine flow_call ⟨some 25, _, _, _, _, _⟩ rfl (by rfl) 41 _ _ (by rfl) _ (by rfl) Tryz.call41 (c0 _) ?_; rintro x wn ⟨rfl, hb⟩; replace hS := one_keep hl hS hb; refine ⟨_, rfl, hS, ?_⟩; (try clear hb)) | (refine flow_call ⟨some 25, _, _, _, _, _⟩ rfl (by rfl) 41 _ _ (by rfl) _ (by rfl) Tryz.call41 (c1 _) ?_; rintro x wn ⟨rfl, hb⟩; replace hS := one_keep hl hS hb; refine ⟨_, rfl, hS, ?_⟩; (try clear hb)) | (refine flow_call ⟨some 25, _, _, _, _, _⟩ rfl (by rfl) 41 _ _ (by rfl) _ (by rfl) Tryz.call41 (c2 _) ?_; rintro x wn ⟨rfl, hb⟩; replace hS := one_keep hl hS hb; refine ⟨_, rfl, hS, ?_⟩; (try clear hb)) | (refine flow_call ⟨some 25, _, _, _, _, _⟩ rfl (by rfl) 41 _ _ (by rfl) _ (by rfl) Tryz.call41 (c3 _) ?_; rintro x wn ⟨rfl, hb⟩; replace hS := one_keep hl hS hb; refine ⟨_, rfl, hS, ?_⟩; (try clear hb)) | (refine flow_call ⟨some 25, _, _, _, _, _⟩ rfl (by rfl) 41 _ _ (by rfl) _ (by rfl) Tryz.call41 (c4 _) ?_; rintro x wn ⟨rfl, hb⟩; replace hS := one_keep hl hS hb; refine ⟨_, rfl, hS, ?_⟩; (try clear hb)) | (refine flow_call ⟨some 25, _, _, _, _, _⟩ rfl (by rfl) 41 _ _ (by rfl) _ (by rfl) Tryz.call41 (c7 _) ?_; rintro x wn ⟨rfl, hb⟩; replace hS := one_keep hl hS hb; refine ⟨_, rfl, hS, ?_⟩; (try clear hb)) | (refine flow_call ⟨some 25, _, _, _, _, _⟩ rfl (by rfl) 41 _ _ (by rfl) _ (by rfl) Tryz.call41 (c8 _) ?_; rintro x wn ⟨rfl, hb⟩; replace hS := one_keep hl hS hb; refine ⟨_, rfl, hS, ?_⟩; (try clear hb)))
  simp only [Act.put, List.setIfInBounds_toArray, List.set_cons_zero, List.set_cons_succ]
  refine flow_take ⟨some 26, _, _, _, _, _⟩ ?_ rfl (by rfl) ?_ ?_
  rotate_left 1
  · intro w hSw; (try dsimp only at hSw); go_simp; (try with_reducible rfl)
  simp only [Act.put, List.setIfInBounds_toArray, List.set_cons_zero, List.set_cons_succ]
  (first | (refine flow_call ⟨some 29, _, _, _, _, _⟩ rfl (by rfl) 41 _ _ (by rfl) _ (by rfl) Tryz.call41 (c0 _) ?_; rintro x wn ⟨rfl, hb⟩; replace hS := one_keep hl hS hb; refine ⟨_, rfl, hS, ?_⟩; (try clear hb)) | (refine flow_call ⟨some 29, _, _, _, _, _⟩ rfl (by rfl) 41 _ _ (by rfl) _ (by rfl) Tryz.call41 (c1 _) ?_; rintro x wn ⟨rfl, hb⟩; replace hS := one_keep hl hS hb; refine ⟨_, rfl, hS, ?_⟩; (try clear hb)) | (refine flow_call ⟨some 29, _, _, _, _, _⟩ rfl (by rfl) 41 _ _ (by rfl) _ (by rfl) Tryz.call41 (c2 _) ?_; rintro x wn ⟨rfl, hb⟩; replace hS := one_keep hl hS hb; refine ⟨_, rfl, hS, ?_⟩; (try clear hb)) | (refine flow_call ⟨some 29, _, _, _, _, _⟩ rfl (by rfl) 41 _ _ (by rfl) _ (by rfl) Tryz.call41 (c3 _) ?_; rintro x wn ⟨rfl, hb⟩; replace hS := one_keep hl hS hb; refine ⟨_, rfl, hS, ?_⟩; (try clear hb)) | (refine flow_call ⟨some 29, _, _, _, _, _⟩ rfl (by rfl) 41 _ _ (by rfl) _ (by rfl) Tryz.call41 (c4 _) ?_; rintro x wn ⟨rfl, hb⟩; replace hS := one_keep hl hS hb; refine ⟨_, rfl, hS, ?_⟩; (try clear hb)) | (refine flow_call ⟨some 29, _, _, _, _, _⟩ rfl (by rfl) 41 _ _ (by rfl) _ (by rfl) Tryz.call41 (c7 _) ?_; rintro x wn ⟨rfl, hb⟩; replace hS := one_keep hl hS hb; refine ⟨_, rfl, hS, ?_⟩; (try clear hb)) | (refine flow_call ⟨some 29, _, _, _, _, _⟩ rfl (by rfl) 41 _ _ (by rfl) _ (by rfl) Tryz.call41 (c8 _) ?_; rintro x wn ⟨rfl, hb⟩; replace hS := one_keep hl hS hb; refine ⟨_, rfl, hS, ?_⟩; (try clear hb)))
  simp only [Act.put, List.setIfInBounds_toArray, List.set_cons_zero, List.set_cons_succ]
  refine flow_take ⟨some 30, _, _, _, _, _⟩ ?_ rfl (by rfl) ?_ ?_
  rotate_left 1
  · intro w hSw; (try dsimp only at hSw); go_simp; (try with_reducible rfl)
  simp only [Act.put, List.setIfInBounds_toArray, List.set_cons_zero, List.set_cons_succ]
  (first | (refine flow_call ⟨some 32, _, _, _, _, _⟩ rfl (by rfl) 41 _ _ (by rfl) _ (by rfl) Tryz.call41 (c0 _) ?_; rintro x wn ⟨rfl, hb⟩; replace hS := one_keep hl hS hb; refine ⟨_, rfl, hS, ?_⟩; (try clear hb)) | (refine flow_call ⟨some 32, _, _, _, _, _⟩ rfl (by rfl) 41 _ _ (by rfl) _ (by rfl) Tryz.call41 (c1 _) ?_; rintro x wn ⟨rfl, hb⟩; replace hS := one_keep hl hS hb; refine ⟨_, rfl, hS, ?_⟩; (try clear hb)) | (refine flow_call ⟨some 32, _, _, _, _, _⟩ rfl (by rfl) 41 _ _ (by rfl) _ (by rfl) Tryz.call41 (c2 _) ?_; rintro x wn ⟨rfl, hb⟩; replace hS := one_keep hl hS hb; refine ⟨_, rfl, hS, ?_⟩; (try clear hb)) | (refine flow_call ⟨some 32, _, _, _, _, _⟩ rfl (by rfl) 41 _ _ (by rfl) _ (by rfl) Tryz.call41 (c3 _) ?_; rintro x wn ⟨rfl, hb⟩; replace hS := one_keep hl hS hb; refine ⟨_, rfl, hS, ?_⟩; (try clear hb)) | (refine flow_call ⟨some 32, _, _, _, _, _⟩ rfl (by rfl) 41 _ _ (by rfl) _ (by rfl) Tryz.call41 (c4 _) ?_; rintro x wn ⟨rfl, hb⟩; replace hS := one_keep hl hS hb; refine ⟨_, rfl, hS, ?_⟩; (try clear hb)) | (refine flow_call ⟨some 32, _, _, _, _, _⟩ rfl (by rfl) 41 _ _ (by rfl) _ (by rfl) Tryz.call41 (c7 _) ?_; rintro x wn ⟨rfl, hb⟩; replace hS := one_keep hl hS hb; refine ⟨_, rfl, hS, ?_⟩; (try clear hb)) | (refine flow_call ⟨some 32, _, _, _, _, _⟩ rfl (by rfl) 41 _ _ (by rfl) _ (by rfl) Tryz.call41 (c8 _) ?_; rintro x wn ⟨rfl, hb⟩; replace hS := one_keep hl hS hb; refine ⟨_, rfl, hS, ?_⟩; (try clear hb)))
  simp only [Act.put, List.setIfInBounds_toArray, List.set_cons_zero, List.set_cons_succ]
  refine flow_take ⟨some 33, _, _, _, _, _⟩ ?_ rfl (by rfl) ?_ ?_
  rotate_left 1
  · intro w hSw; (try dsimp only at hSw); go_simp; (try with_reducible rfl)
  simp only [Act.put, List.setIfInBounds_toArray, List.set_cons_zero, List.set_cons_succ]
  (first | (refine flow_call ⟨some 36, _, _, _, _, _⟩ rfl (by rfl) 41 _ _ (by rfl) _ (by rfl) Tryz.call41 (c0 _) ?_; rintro x wn ⟨rfl, hb⟩; replace hS := one_keep hl hS hb; refine ⟨_, rfl, hS, ?_⟩; (try clear hb)) | (refine flow_call ⟨some 36, _, _, _, _, _⟩ rfl (by rfl) 41 _ _ (by rfl) _ (by rfl) Tryz.call41 (c1 _) ?_; rintro x wn ⟨rfl, hb⟩; replace hS := one_keep hl hS hb; refine ⟨_, rfl, hS, ?_⟩; (try clear hb)) | (refine flow_call ⟨some 36, _, _, _, _, _⟩ rfl (by rfl) 41 _ _ (by rfl) _ (by rfl) Tryz.call41 (c2 _) ?_; rintro x wn ⟨rfl, hb⟩; replace hS := one_keep hl hS hb; refine ⟨_, rfl, hS, ?_⟩; (try clear hb)) | (refine flow_call ⟨some 36, _, _, _, _, _⟩ rfl (by rfl) 41 _ _ (by rfl) _ (by rfl) Tryz.call41 (c3 _) ?_; rintro x wn ⟨rfl, hb⟩; replace hS := one_keep hl hS hb; refine ⟨_, rfl, hS, ?_⟩; (try clear hb)) | (refine flow_call ⟨some 36, _, _, _, _, _⟩ rfl (by rfl) 41 _ _ (by rfl) _ (by rfl) Tryz.call41 (c4 _) ?_; rintro x wn ⟨rfl, hb⟩; replace hS := one_keep hl hS hb; refine ⟨_, rfl, hS, ?_⟩; (try clear hb)) | (refine flow_call ⟨some 36, _, _, _, _, _⟩ rfl (by rfl) 41 _ _ (by rfl) _ (by rfl) Tryz.call41 (c7 _) ?_; rintro x wn ⟨rfl, hb⟩; replace hS := one_keep hl hS hb; refine ⟨_, rfl, hS, ?_⟩; (try clear hb)) | (refine flow_call ⟨some 36, _, _, _, _, _⟩ rfl (by rfl) 41 _ _ (by rfl) _ (by rfl) Tryz.call41 (c8 _) ?_; rintro x wn ⟨rfl, hb⟩; replace hS := one_keep hl hS hb; refine ⟨_, rfl, hS, ?_⟩; (try clear hb)))
  simp only [Act.put, List.setIfInBounds_toArray, List.set_cons_zero, List.set_cons_succ]
  refine flow_take ⟨some 37, _, _, _, _, _⟩ ?_ rfl (by rfl) ?_ ?_
  rotate_left 1
  · intro w hSw; (try dsimp only at hSw); go_simp; (try with_reducible rfl)
  simp only [Act.put, List.setIfInBounds_toArray, List.set_cons_zero, List.set_cons_succ]
  (first | (refine flow_call ⟨some 40, _, _, _, _, _⟩ rfl (by rfl) 41 _ _ (by rfl) _ (by rfl) Tryz.call41 (c0 _) ?_; rintro x wn ⟨rfl, hb⟩; replace hS := one_keep hl hS hb; refine ⟨_, rfl, hS, ?_⟩; (try clear hb)) | (refine flow_call ⟨some 40, _, _, _, _, _⟩ rfl (by rfl) 41 _ _ (by rfl) _ (by rfl) Tryz.call41 (c1 _) ?_; rintro x wn ⟨rfl, hb⟩; replace hS := one_keep hl hS hb; refine ⟨_, rfl, hS, ?_⟩; (try clear hb)) | (refine flow_call ⟨some 40, _, _, _, _, _⟩ rfl (by rfl) 41 _ _ (by rfl) _ (by rfl) Tryz.call41 (c2 _) ?_; rintro x wn ⟨rfl, hb⟩; replace hS := one_keep hl hS hb; refine ⟨_, rfl, hS, ?_⟩; (try clear hb)) | (refine flow_call ⟨some 40, _, _, _, _, _⟩ rfl (by rfl) 41 _ _ (by rfl) _ (by rfl) Tryz.call41 (c3 _) ?_; rintro x wn ⟨rfl, hb⟩; replace hS := one_keep hl hS hb; refine ⟨_, rfl, hS, ?_⟩; (try clear hb)) | (refine flow_call ⟨some 40, _, _, _, _, _⟩ rfl (by rfl) 41 _ _ (by rfl) _ (by rfl) Tryz.call41 (c4 _) ?_; rintro x wn ⟨rfl, hb⟩; replace hS := one_keep hl hS hb; refine ⟨_, rfl, hS, ?_⟩; (try clear hb)) | (refine flow_call ⟨some 40, _, _, _, _, _⟩ rfl (by rfl) 41 _ _ (by rfl) _ (by rfl) Tryz.call41 (c7 _) ?_; rintro x wn ⟨rfl, hb⟩; replace hS := one_keep hl hS hb; refine ⟨_, rfl, hS, ?_⟩; (try clear hb)) | (refine flow_call ⟨some 40, _, _, _, _, _⟩ rfl (by rfl) 41 _ _ (by rfl) _ (by rfl) Tryz.call41 (c8 _) ?_; rintro x wn ⟨rfl, hb⟩; replace hS := one_keep hl hS hb; refine ⟨_, rfl, hS, ?_⟩; (try clear hb)))
  simp only [Act.put, List.setIfInBounds_toArray, List.set_cons_zero, List.set_cons_succ]
  refine flow_take ⟨some 41, _, _, _, _, _⟩ ?_ rfl (by rfl) ?_ ?_
  rotate_left 1
  · intro w hSw; (try dsimp only at hSw); go_simp; (try with_reducible rfl)
  simp only [Act.put, List.setIfInBounds_toArray, List.set_cons_zero, List.set_cons_succ]
  (first | (refine flow_call ⟨some 44, _, _, _, _, _⟩ rfl (by rfl) 42 _ _ (by rfl) _ (by rfl) Tryz.call42 (c5 _) ?_; rintro x wn ⟨rfl, hb⟩; replace hS := one_keep hl hS hb; refine ⟨_, rfl, hS, ?_⟩; (try clear hb)) | (refine flow_call ⟨some 44, _, _, _, _, _⟩ rfl (by rfl) 42 _ _ (by rfl) _ (by rfl) Tryz.call42 (c6 _) ?_; rintro x wn ⟨rfl, hb⟩; replace hS := one_keep hl hS hb; refine ⟨_, rfl, hS, ?_⟩; (try clear hb)))
  simp only [Act.put, List.setIfInBounds_toArray, List.set_cons_zero, List.set_cons_succ]
  refine flow_take ⟨some 45, _, _, _, _, _⟩ ?_ rfl (by rfl) ?_ ?_
  rotate_left 1
  · intro w hSw; (try dsimp only at hSw); go_simp; (try with_reducible rfl)
  simp only [Act.put, List.setIfInBounds_toArray, List.set_cons_zero, List.set_cons_succ]
  (first | (refine flow_call ⟨some 48, _, _, _, _, _⟩ rfl (by rfl) 42 _ _ (by rfl) _ (by rfl) Tryz.call42 (c5 _) ?_; rintro x wn ⟨rfl, hb⟩; replace hS := one_keep hl hS hb; refine ⟨_, rfl, hS, ?_⟩; (try clear hb)) | (refine flow_call ⟨some 48, _, _, _, _, _⟩ rfl (by rfl) 42 _ _ (by rfl) _ (by rfl) Tryz.call42 (c6 _) ?_; rintro x wn ⟨rfl, hb⟩; replace hS := one_keep hl hS hb; refine ⟨_, rfl, hS, ?_⟩; (try clear hb)))
  simp only [Act.put, List.setIfInBounds_toArray, List.set_cons_zero, List.set_cons_succ]
  refine flow_take ⟨some 49, _, _, _, _, _⟩ ?_ rfl (by rfl) ?_ ?_
  rotate_left 1
  · intro w hSw; (try dsimp only at hSw); go_simp; (try with_reducible rfl)
  simp only [Act.put, List.setIfInBounds_toArray, List.set_cons_zero, List.set_cons_succ]
  (first | (refine flow_call ⟨some 52, _, _, _, _, _⟩ rfl (by rfl) 41 _ _ (by rfl) _ (by rfl) Tryz.call41 (c0 _) ?_; rintro x wn ⟨rfl, hb⟩; replace hS := one_keep hl hS hb; refine ⟨_, rfl, hS, ?_⟩; (try clear hb)) | (refine flow_call ⟨some 52, _, _, _, _, _⟩ rfl (by rfl) 41 _ _ (by rfl) _ (by rfl) Tryz.call41 (c1 _) ?_; rintro x wn ⟨rfl, hb⟩; replace hS := one_keep hl hS hb; refine ⟨_, rfl, hS, ?_⟩; (try clear hb)) | (refine flow_call ⟨some 52, _, _, _, _, _⟩ rfl (by rfl) 41 _ _ (by rfl) _ (by rfl) Tryz.call41 (c2 _) ?_; rintro x wn ⟨rfl, hb⟩; replace hS := one_keep hl hS hb; refine ⟨_, rfl, hS, ?_⟩; (try clear hb)) | (refine flow_call ⟨some 52, _, _, _, _, _⟩ rfl (by rfl) 41 _ _ (by rfl) _ (by rfl) Tryz.call41 (c3 _) ?_; rintro x wn ⟨rfl, hb⟩; replace hS := one_keep hl hS hb; refine ⟨_, rfl, hS, ?_⟩; (try clear hb)) | (refine flow_call ⟨some 52, _, _, _, _, _⟩ rfl (by rfl) 41 _ _ (by rfl) _ (by rfl) Tryz.call41 (c4 _) ?_; rintro x wn ⟨rfl, hb⟩; replace hS := one_keep hl hS hb; refine ⟨_, rfl, hS, ?_⟩; (try clear hb)) | (refine flow_call ⟨some 52, _, _, _, _, _⟩ rfl (by rfl) 41 _ _ (by rfl) _ (by rfl) Tryz.call41 (c7 _) ?_; rintro x wn ⟨rfl, hb⟩; replace hS := one_keep hl hS hb; refine ⟨_, rfl, hS, ?_⟩; (try clear hb)) | (refine flow_call ⟨some 52, _, _, _, _, _⟩ rfl (by rfl) 41 _ _ (by rfl) _ (by rfl) Tryz.call41 (c8 _) ?_; rintro x wn ⟨rfl, hb⟩; replace hS := one_keep hl hS hb; refine ⟨_, rfl, hS, ?_⟩; (try clear hb)))
  simp only [Act.put, List.setIfInBounds_toArray, List.set_cons_zero, List.set_cons_succ]
  refine flow_take ⟨some 53, _, _, _, _, _⟩ ?_ rfl (by rfl) ?_ ?_
  rotate_left 1
  · intro w hSw; (try dsimp only at hSw); go_simp; (try with_reducible rfl)
  simp only [Act.put, List.setIfInBounds_toArray, List.set_cons_zero, List.set_cons_succ]
  (first | (refine flow_call ⟨some 56, _, _, _, _, _⟩ rfl (by rfl) 41 _ _ (by rfl) _ (by rfl) Tryz.call41 (c0 _) ?_; rintro x wn ⟨rfl, hb⟩; replace hS := one_keep hl hS hb; refine ⟨_, rfl, hS, ?_⟩; (try clear hb)) | (refine flow_call ⟨some 56, _, _, _, _, _⟩ rfl (by rfl) 41 _ _ (by rfl) _ (by rfl) Tryz.call41 (c1 _) ?_; rintro x wn ⟨rfl, hb⟩; replace hS := one_keep hl hS hb; refine ⟨_, rfl, hS, ?_⟩; (try clear hb)) | (refine flow_call ⟨some 56, _, _, _, _, _⟩ rfl (by rfl) 41 _ _ (by rfl) _ (by rfl) Tryz.call41 (c2 _) ?_; rintro x wn ⟨rfl, hb⟩; replace hS := one_keep hl hS hb; refine ⟨_, rfl, hS, ?_⟩; (try clear hb)) | (refine flow_call ⟨some 56, _, _, _, _, _⟩ rfl (by rfl) 41 _ _ (by rfl) _ (by rfl) Tryz.call41 (c3 _) ?_; rintro x wn ⟨rfl, hb⟩; replace hS := one_keep hl hS hb; refine ⟨_, rfl, hS, ?_⟩; (try clear hb)) | (refine flow_call ⟨some 56, _, _, _, _, _⟩ rfl (by rfl) 41 _ _ (by rfl) _ (by rfl) Tryz.call41 (c4 _) ?_; rintro x wn ⟨rfl, hb⟩; replace hS := one_keep hl hS hb; refine ⟨_, rfl, hS, ?_⟩; (try clear hb)) | (refine flow_call ⟨some 56, _, _, _, _, _⟩ rfl (by rfl) 41 _ _ (by rfl) _ (by rfl) Tryz.call41 (c7 _) ?_; rintro x wn ⟨rfl, hb⟩; replace hS := one_keep hl hS hb; refine ⟨_, rfl, hS, ?_⟩; (try clear hb)) | (refine flow_call ⟨some 56, _, _, _, _, _⟩ rfl (by rfl) 41 _ _ (by rfl) _ (by rfl) Tryz.call41 (c8 _) ?_; rintro x wn ⟨rfl, hb⟩; replace hS := one_keep hl hS hb; refine ⟨_, rfl, hS, ?_⟩; (try clear hb)))
  simp only [Act.put, List.setIfInBounds_toArray, List.set_cons_zero, List.set_cons_succ]
  refine flow_take ⟨some 57, _, _, _, _, _⟩ ?_ rfl (by rfl) ?_ ?_
  rotate_left 1
  · intro w hSw; (try dsimp only at hSw); go_simp; (try with_reducible rfl)
  simp only [Act.put, List.setIfInBounds_toArray, List.set_cons_zero, List.set_cons_succ]
  refine flow_take ⟨some 3, _, _, _, _, _⟩ ?_ rfl (by rfl) ?_ ?_
  rotate_left 1
  · intro w hSw; (try dsimp only at hSw); go_simp; (try with_reducible rfl)
  simp only [Act.put, List.setIfInBounds_toArray, List.set_cons_zero, List.set_cons_succ]
  simp only [wpFlow, OnlyN]
  exact HQ.out _ _ _ _ _ _ _ _ _ _ _ _ _ _ _ _ _ _ _ _ _ _ _ _ _ _ _ _ _ _ _ _ _ _ _ _ _ _ hS.1 (congrArg Value.string (ba_ext (by simp only [ByteArray.data_append, Array.toList_append, T0.out, T1.out, T2.out, T3.out, T4.out, T5.out, T6.out, T7.out, T8.out, encR1, wInts, Req.ints1, Req.ints2, List.flatMap_cons, List.flatMap_nil, List.append_nil, List.append_assoc])))

/-- What has answers. -/
def HasPost (L : List Req) (r : Req) (w : World) (e : Ending) (w' : World) : Prop := ∃ t : Bool, e = .returned (.bool t) ∧ (t = true ↔ r ∈ L) ∧ RowKit.Below w.heap.size w w'
set_option maxHeartbeats 4000000 in
set_option maxRecDepth 100000 in
theorem has_any (v : Value) (L : List Req) (r : Req) (w : World) (hv : ReqsIn w v L) (hl : L.length ≤ 1000000) :
    Calls Tryz.prog 27 #[v, r.val] w (HasPost L r w) := by
  obtain ⟨sv, cv, rfl, _⟩ := hv.form
  have HV := Lib.hid hv
  clear hv
  have hbx0 : ReqBox (w.alloc (.cells r.cells 46)) w.heap.size r := ReqBox.new w r
  have hb0 : RowKit.Below w.heap.size w (w.alloc (.cells r.cells 46)) := below_alloc1 _ _
  go_enter Tryz.func27, Tryz.ntmps27
  go_wp2_with fail
  go_loopw [5] (fun i wr => ∃ k : Nat, k ≤ L.length ∧ i = .int .i64 k ∧ Hid (r ∉ L.take k) ∧ ReqBox wr w.heap.size r ∧ RowKit.Below w.heap.size w wr) (fun i _ => L.length - (RowKit.intOf i).toNat)
  case atStart => exact ⟨0, Nat.zero_le _, rfl, Lib.hid (by simp), hbx0, hb0⟩
  case round =>
    clear hbx0 hb0
    obtain ⟨k, hk, rfl, HN, hbx, hbr⟩ := hrel
    by_cases hlt : k < L.length
    · obtain ⟨b, o, c', hva, _, hgl, hat⟩ := HV.out.at_ (by omega)
      have e1 := (Value.slice.inj hva).1
      subst e1
      have hy := List.getElem?_eq_getElem hlt
      generalize L[k] = y at hy
      have haty := (hat k y hy).below hbr hgl
      have HY := Lib.hid hy
      have hkl : (k : Int) < (L.length : Int) := by omega
      have cy0 : wr.cell? ⟨b, o + k * 9, none⟩ = some (.int .i64 y.server) := haty.cell 0 rfl
      have cy1 : wr.cell? ⟨b, o + k * 9 + 1, none⟩ = some (.int .i64 y.seq) := haty.cell 1 rfl
      have cy2 : wr.cell? ⟨b, o + k * 9 + 2, none⟩ = some (.bool y.cancel) := haty.cell 2 rfl
      have cy3 : wr.cell? ⟨b, o + k * 9 + 3, none⟩ = some (.int .i64 y.student) := haty.cell 3 rfl
      have cy4 : wr.cell? ⟨b, o + k * 9 + 4, none⟩ = some (.int .i64 y.term) := haty.cell 4 rfl
      have cy5 : wr.cell? ⟨b, o + k * 9 + 5, none⟩ = some (.string y.code) := haty.cell 5 rfl
      have cy6 : wr.cell? ⟨b, o + k * 9 + 6, none⟩ = some (.string y.give) := haty.cell 6 rfl
      have cy7 : wr.cell? ⟨b, o + k * 9 + 7, none⟩ = some (.int .i64 y.priority) := haty.cell 7 rfl
      have cy8 : wr.cell? ⟨b, o + k * 9 + 8, none⟩ = some (.int .i64 y.day) := haty.cell 8 rfl
      have cr0 : wr.cell? ⟨w.heap.size, 0, none⟩ = some (.int .i64 r.server) := hbx.cell 0
      have cr1 : wr.cell? ⟨w.heap.size, 1, none⟩ = some (.int .i64 r.seq) := hbx.cell 1
      have cr2 : wr.cell? ⟨w.heap.size, 2, none⟩ = some (.bool r.cancel) := hbx.cell 2
      have cr3 : wr.cell? ⟨w.heap.size, 3, none⟩ = some (.int .i64 r.student) := hbx.cell 3
      have cr4 : wr.cell? ⟨w.heap.size, 4, none⟩ = some (.int .i64 r.term) := hbx.cell 4
      have cr5 : wr.cell? ⟨w.heap.size, 5, none⟩ = some (.string r.code) := hbx.cell 5
      have cr6 : wr.cell? ⟨w.heap.size, 6, none⟩ = some (.string r.give) := hbx.cell 6
      have cr7 : wr.cell? ⟨w.heap.size, 7, none⟩ = some (.int .i64 r.priority) := hbx.cell 7
      have cr8 : wr.cell? ⟨w.heap.size, 8, none⟩ = some (.int .i64 r.day) := hbx.cell 8
      have HQ : Hid (eqReq ⟨y.server, y.seq, y.cancel, y.student, y.term, y.code, y.give, y.priority, y.day⟩ ⟨r.server, r.seq, r.cancel, r.student, r.term, r.code, r.give, r.priority, r.day⟩ = true ↔ y = r) := Lib.hid (eqReq_iff y r)
      clear hva hat hy haty
      go_wp2_with fail
      go_quiet (fail)
      generalize eqReq ⟨y.server, y.seq, y.cancel, y.student, y.term, y.code, y.give, y.priority, y.day⟩ ⟨r.server, r.seq, r.cancel, r.student, r.term, r.code, r.give, r.priority, r.day⟩ = q at HQ ⊢
      have hbx2 : ReqBox (wr.drewN nq) w.heap.size r := hbx
      have hb2 : RowKit.Below w.heap.size w (wr.drewN nq) := hbr.trans ⟨rfl, rfl, rfl, Nat.le_refl _, fun _ _ => rfl⟩
      cases q
      · have HN2 : Hid (r ∉ L.take (k + 1)) := Lib.hid (by
          rw [take_snoc HY.out, List.mem_append, List.mem_singleton]
          rintro (h | h)
          · exact HN.out h
          · exact absurd (HQ.out.2 h.symm) (by simp))
        go_wp2_with fail
        go_roundw
        case rel => exact ⟨k + 1, by omega, by go_num, HN2, hbx2, hb2⟩
        case measure => simp [RowKit.intOf]; omega
      · go_wp2_with fail
        go_ret
        have e := HQ.out.1 (by first | trivial | rfl)
        subst e
        exact ⟨true, rfl, by simpa using List.mem_of_getElem? HY.out, hb2⟩
    · obtain rfl : k = L.length := by omega
      go_wp2_with fail
      go_ret
      exact ⟨false, rfl, by have := HN.out; rw [List.take_length] at this; simpa using this, hbr⟩
set_option maxHeartbeats 4000000 in
set_option maxRecDepth 100000 in
theorem refMissing_any (a b : Value) (A B : List Req) (w : World) (ha : ReqsIn w a A) (hb : ReqsIn w b B) (hl : A.length ≤ 900) (hlb : B.length ≤ 1000000) :
    Calls Tryz.prog 12 #[a, b] w (RetSet (A.filter fun r => !B.any (eqReq r)) w) := by
  obtain ⟨sa, ca, rfl, _⟩ := ha.form
  have HA := Lib.hid ha
  have HB := Lib.hid hb
  clear ha hb
  go_enter Tryz.func12, Tryz.ntmps12
  go_wp2_with fail
  go_loopw [5, 6] (fun v i wr => ∃ (k : Nat) (M : List Req), k ≤ A.length ∧ i = .int .i64 k ∧ Hid (IsSet M ((A.take k).filter fun r => !B.any (eqReq r))) ∧ ReqsIn wr v M ∧ RowKit.Below w.heap.size w wr) (fun _ i _ => A.length - (RowKit.intOf i).toNat)
  case atStart => exact ⟨0, [], Nat.zero_le _, rfl, Lib.hid isSet_nil, .inl ⟨rfl, rfl⟩, Below.refl _ _⟩
  case round =>
    obtain ⟨k, M, hk, rfl, HM, hv, hbr⟩ := hrel
    by_cases hlt : k < A.length
    · obtain ⟨ga, oa, ca', hva, _, hgl, hat⟩ := HA.out.at_ (by omega)
      have e1 := (Value.slice.inj hva).1
      subst e1
      have hx := List.getElem?_eq_getElem hlt
      generalize A[k] = x at hx
      have haty := (hat k x hx).below hbr hgl
      have hml := put_len HM.out
      have hml2 : M.length ≤ 1000 := by have := List.length_filter_le (fun r => !B.any (eqReq r)) (A.take k); simp at this; omega
      have HX := Lib.hid hx
      have hfs : (A.take (k + 1)).filter (fun r => !B.any (eqReq r)) = (A.take k).filter (fun r => !B.any (eqReq r)) ++ [x].filter (fun r => !B.any (eqReq r)) := by rw [take_snoc hx, List.filter_append]
      have HFS := Lib.hid hfs
      clear hva hat hml hx hfs
      go_wp2_with ((with_reducible refine wpList_load_mid (op := ⟨some 17, _, _, _, _, _⟩) ?_ 46 (.tmp 16) ?_ ga (oa + k * 9) ?_ (Req.cells x).toList _ ?_ Tryz.underlying46 ?_ ?_ ?_); rfl; rfl; rfl; exact haty; rfl; kernel_rfl)
      refine (has_any b B x _ (HB.out.below hbr) hlb).mono ?_
      rintro _ w2 ⟨t, rfl, ht, hb⟩
      have haty2 := haty.below hb (Nat.lt_of_lt_of_le hgl hbr.size)
      have hv2 := hv.below hb
      have hb2 := below_next hbr hb
      have HTT := Lib.hid ht
      clear hb haty hv hbr ht
      cases t
      · have hnx : x ∉ B := fun h => absurd (HTT.out.2 h) (by simp)
        have HF2 : Hid ((A.take (k + 1)).filter (fun r => !B.any (eqReq r)) = (A.take k).filter (fun r => !B.any (eqReq r)) ++ [x]) := Lib.hid (by rw [HFS.out]; congr 1; simp only [List.filter_cons, List.filter_nil]; rw [if_pos]; simp only [Bool.not_eq_true', List.any_eq_false, eqReq_iff]; exact fun z hz e => hnx (e ▸ hz))
        have cp := put_any _ M _ x w2 hv2 HM.out hml2
        clear hnx
        go_wp2_with ((with_reducible refine wpList_load_mid (op := ⟨some 24, _, _, _, _, _⟩) ?_ 46 (.tmp 23) ?_ ga (oa + k * 9) ?_ (Req.cells x).toList _ ?_ Tryz.underlying46 ?_ ?_ ?_); rfl; rfl; rfl; exact haty2; rfl; kernel_rfl)
        refine cp.mono ?_
        rintro _ w3 ⟨v', M', rfl, hM', _, hr, hb⟩
        have HM' : Hid (IsSet M' ((A.take (k + 1)).filter fun r => !B.any (eqReq r))) := Lib.hid (by rw [HF2.out]; exact hM')
        clear hM' cp haty2
        go_wp2_with fail
        go_roundw
        case rel => exact ⟨k + 1, M', by omega, by go_num, HM', hr, below_next hb2 hb⟩
        case measure => simp [RowKit.intOf]; omega
      · have HF2 : Hid ((A.take (k + 1)).filter (fun r => !B.any (eqReq r)) = (A.take k).filter (fun r => !B.any (eqReq r))) := Lib.hid (by rw [HFS.out]; simp only [List.filter_cons, List.filter_nil]; rw [if_neg, List.append_nil]; simp only [Bool.not_eq_true', List.any_eq_false, eqReq_iff]; exact fun h => h x (HTT.out.1 rfl) rfl)
        go_wp2_with fail
        go_roundw
        case rel => exact ⟨k + 1, M, by omega, by go_num, Lib.hid (by rw [HF2.out]; exact HM.out), hv2, hb2⟩
        case measure => simp [RowKit.intOf]; omega
    · obtain rfl : k = A.length := by omega
      go_wp2_with fail
      go_ret
      exact ⟨_, M, rfl, by have := HM.out; rwa [List.take_length] at this, hv, hbr⟩
theorem encs_small (L : List Req) (h : ∀ r ∈ L, r.Small) : (L.flatMap encR1).length ≤ 222 * L.length := by
  induction L with
  | nil => simp
  | cons r L ih =>
    have hr := h r (by simp)
    have h1 := wInts_len r.ints1 (req_ints1 hr.ok)
    have h2 := wInts_len r.ints2 (req_ints2 hr.ok)
    have h3 := wText_len r.code (by have := hr.code; omega)
    have h4 := wText_len r.give (by have := hr.give; omega)
    have e1 : r.ints1.length = 5 := rfl
    have e2 : r.ints2.length = 2 := rfl
    have h5 := ih (fun x hx => h x (by simp [hx]))
    have := hr.code
    have := hr.give
    simp only [List.flatMap_cons, encR1, List.length_append, List.length_cons] at h5 ⊢
    omega
set_option maxHeartbeats 4000000 in
set_option maxRecDepth 100000 in
theorem refEncode_all (v : Value) (L : List Req) (w : World) (hv : ReqsIn w v L) (hl : L.length ≤ 1000000) (hs : ∀ r ∈ L, r.Ok) (hz : (L.flatMap encR1).length ≤ 1000000) :
    Calls Tryz.prog 17 #[v] w fun e w' => e = .returned (.string ⟨(encL L).toArray⟩) ∧ RowKit.Below w.heap.size w w' := by
  obtain ⟨sv, cv, rfl, _⟩ := hv.form
  have HV := Lib.hid hv
  have HS := Lib.hid hs
  have HZ := Lib.hid hz
  clear hv hs hz
  have c0 := fun w => Wr.refInt_any (L.length : Int) (by omega) (by omega) w
  obtain ⟨T0, hT0⟩ : ∃ t : ByteArray, t = ⟨(wInt L.length).toArray⟩ := ⟨_, rfl⟩
  rw [← hT0] at c0
  have HT0 := Lib.hid hT0
  clear hT0
  go_enter Tryz.func17, Tryz.ntmps17
  go_wp2_with fail
  refine (c0 _).mono ?_
  rintro _ w1 ⟨rfl, hb1⟩
  clear c0
  go_wp2_with fail
  go_loopw [3, 4] (fun s i wr => ∃ (k : Nat) (S : ByteArray), k ≤ L.length ∧ i = .int .i64 k ∧ s = .string S ∧ Hid (S.data.toList = wInt L.length ++ (L.take k).flatMap encR1) ∧ RowKit.Below w.heap.size w wr) (fun _ i _ => L.length - (RowKit.intOf i).toNat)
  case atStart => exact ⟨0, T0, Nat.zero_le _, rfl, rfl, Lib.hid (by rw [HT0.out]; simp), hb1⟩
  case round =>
    clear hb1
    obtain ⟨k, S, hk, rfl, rfl, HSS, hbr⟩ := hrel
    by_cases hlt : k < L.length
    · obtain ⟨b, o, c', hva, _, hgl, hat⟩ := HV.out.at_ (by omega)
      have e1 := (Value.slice.inj hva).1
      subst e1
      have hx := List.getElem?_eq_getElem hlt
      have hxs := HS.out _ (List.getElem_mem hlt)
      generalize L[k] = x at hx hxs
      have haty := (hat k x hx).below hbr hgl
      have HX := Lib.hid hx
      have hsz : S.size ≤ 2000000 := by
        have h1 : L.flatMap encR1 = (L.take k).flatMap encR1 ++ (L.drop k).flatMap encR1 := by rw [← List.flatMap_append, List.take_append_drop]
        have h2 := wInt_len (L.length : Int) (by omega) (by omega)
        have h3 := HZ.out
        rw [h1, List.length_append] at h3
        rw [ba_size, HSS.out, List.length_append]
        omega
      have hbx0 : ReqBox (wr.alloc (.cells (Req.cells x) 46)) wr.heap.size x := ReqBox.new wr x
      have hb0 : RowKit.Below w.heap.size w (wr.alloc (.cells (Req.cells x) 46)) := hbr.alloc hbr.size _
      clear hva hat hx
      obtain ⟨x0, x1, x2, x3, x4, x5, x6, x7, x8⟩ := x
      cases x2
      · go_wp2_with ((with_reducible refine wpList_load_mid (op := ⟨some 19, _, _, _, _, _⟩) ?_ 46 (.tmp 18) ?_ b (o + k * 9) ?_ (Req.cells ⟨x0, x1, false, x3, x4, x5, x6, x7, x8⟩).toList _ ?_ Tryz.underlying46 ?_ ?_ ?_); rfl; rfl; rfl; exact haty; rfl; kernel_rfl)
        refine refEnc_r9 wr.heap.size ⟨x0, x1, false, x3, x4, x5, x6, x7, x8⟩ S _ _ hbx0 hxs hsz ?_
        intro u3 u22 u23 u24 u25 u26 u27 u28 u29 u30 u31 u32 u33 u34 u35 u36 u37 u38 u39 u40 u41 u42 u43 u44 u45 u46 u47 u48 u49 u50 u51 u52 u53 u54 u55 u56 u57 wx hb h3
        subst h3
        have hb3 := below_next hb0 hb
        clear hb hbx0 hb0 haty
        go_wp2_with fail
        go_roundw
        case rel => exact ⟨k + 1, _, by omega, by go_num, rfl, Lib.hid (by rw [take_snoc HX.out, List.flatMap_append, ← List.append_assoc, ← HSS.out]; simp), hb3⟩
        case measure => simp [RowKit.intOf]; omega
      · go_wp2_with ((with_reducible refine wpList_load_mid (op := ⟨some 19, _, _, _, _, _⟩) ?_ 46 (.tmp 18) ?_ b (o + k * 9) ?_ (Req.cells ⟨x0, x1, true, x3, x4, x5, x6, x7, x8⟩).toList _ ?_ Tryz.underlying46 ?_ ?_ ?_); rfl; rfl; rfl; exact haty; rfl; kernel_rfl)
        refine refEnc_r9 wr.heap.size ⟨x0, x1, true, x3, x4, x5, x6, x7, x8⟩ S _ _ hbx0 hxs hsz ?_
        intro u3 u22 u23 u24 u25 u26 u27 u28 u29 u30 u31 u32 u33 u34 u35 u36 u37 u38 u39 u40 u41 u42 u43 u44 u45 u46 u47 u48 u49 u50 u51 u52 u53 u54 u55 u56 u57 wx hb h3
        subst h3
        have hb3 := below_next hb0 hb
        clear hb hbx0 hb0 haty
        go_wp2_with fail
        go_roundw
        case rel => exact ⟨k + 1, _, by omega, by go_num, rfl, Lib.hid (by rw [take_snoc HX.out, List.flatMap_append, ← List.append_assoc, ← HSS.out]; simp), hb3⟩
        case measure => simp [RowKit.intOf]; omega
    · obtain rfl : k = L.length := by omega
      go_wp2_with fail
      go_ret
      exact ⟨ret_str (ba_ext (by rw [HSS.out, List.take_length]; simp [encL])), hbr⟩
theorem refEncode_any (v : Value) (L : List Req) (w : World) (hv : ReqsIn w v L) (hl : L.length ≤ 100) (hs : ∀ r ∈ L, r.Small) :
    Calls Tryz.prog 17 #[v] w fun e w' => e = .returned (.string ⟨(encL L).toArray⟩) ∧ RowKit.Below w.heap.size w w' :=
  refEncode_all v L w hv (by omega) (fun r hr => (hs r hr).ok) (by have := encs_small L hs; omega)
def DigPost (L : List Req) (w : World) (e : Ending) (w' : World) : Prop := ∃ M, IsSet M L ∧ e = .returned (.string ⟨(dg (encL M)).toArray⟩) ∧ RowKit.Below w.heap.size w w'
set_option maxHeartbeats 4000000 in
set_option maxRecDepth 100000 in
theorem refDigest_any (v : Value) (L : List Req) (w : World) (hv : ReqsIn w v L) (hl : L.length ≤ 100) (hs : ∀ r ∈ L, r.Small) :
    Calls Tryz.prog 14 #[v] w (DigPost L w) := by
  have cj := refJoin_any v (.slice none 0 0) L [] w hv (.inl ⟨rfl, rfl⟩) (by simp; omega)
  rw [List.append_nil] at cj
  have HS := Lib.hid hs
  clear hs hv
  go_enter Tryz.func14, Tryz.ntmps14
  go_wp2_with fail
  refine cj.mono ?_
  rintro _ w1 ⟨v4, M, rfl, hM, r4, hb1⟩
  have hml := put_len hM
  have hms : ∀ r ∈ M, r.Small := fun r hr => HS.out r ((hM.2 r).1 hr)
  have hz := encs_small M hms
  have HM := Lib.hid hM
  clear cj hM
  obtain ⟨S, hS⟩ : ∃ S : ByteArray, S = ⟨(encL M).toArray⟩ := ⟨_, rfl⟩
  have hsz : S.size ≤ 1000000000 := by
    have h1 := wInt_len (M.length : Int) (by omega) (by omega)
    have h2 : (encL M).length ≤ 1000000000 := by simp only [encL, List.length_append]; omega
    rw [hS, ba_size]
    simpa using h2
  have ce := refEncode_any v4 M w1 r4 (by omega) hms
  rw [← hS] at ce
  have HSS := Lib.hid hS
  clear hS hms hz
  go_wp2_with fail
  refine ce.mono ?_
  rintro _ w2 ⟨rfl, hb2⟩
  clear ce
  go_wp2_with fail
  refine (refOf_any S hsz _).mono ?_
  rintro _ w3 ⟨rfl, hb3⟩
  go_wp2_with fail
  go_ret
  exact ⟨M, HM.out, ret_str (by rw [HSS.out]), below_next (below_next hb1 hb2) hb3⟩
end Go.Proofs.YtanmmooflhomoaaGreatDoor
