/- The chapter's examples: sanity returns true. -/
import Derived.Test.YtanmmooflhomoaaGreatDoorRqSan8
import Derived.Test.YtanmmooflhomoaaGreatDoorRqSan9
import Derived.Deep.DeepCutAuto
namespace Go.Proofs.YtanmmooflhomoaaGreatDoor
open Go Go.Proofs Go.RowKit Go.Sort Go.Lib
attribute [local go_sem] Req.cells

/-- The six variables. -/
structure SixR (g1 g2 g3 b0 b1 b2 : Nat) (w : World) : Prop where
  x0 : ReqBox w g1 ⟨1, 1, false, 5, 4, ⟨#[65, 49]⟩, ⟨#[]⟩, 2, 400⟩
  x1 : ReqBox w g2 ⟨1, 2, false, 5, 4, ⟨#[66, 49]⟩, ⟨#[65, 49]⟩, 2, 400⟩
  x2 : ReqBox w g3 ⟨1, 1, true, 0, 0, ⟨#[]⟩, ⟨#[]⟩, 0, 0⟩
  x3 : ReqBox w b0 ⟨1, 1, false, 5, 4, ⟨#[65, 49]⟩, ⟨#[65, 49]⟩, 2, 400⟩
  x4 : ReqBox w b1 ⟨1, 0, false, 5, 4, ⟨#[65, 49]⟩, ⟨#[]⟩, 2, 400⟩
  x5 : ReqBox w b2 ⟨1, 1, true, 5, 0, ⟨#[]⟩, ⟨#[]⟩, 0, 0⟩
theorem reqs_laid_at (w : World) (L : List Req) (b : Nat) (h : w.heap.size = b) : ReqsIn (w.alloc (.cells (reqCells L).toArray 46)) (.slice (some ⟨b, 0, none⟩) L.length L.length) L := by
  subst h; exact reqs_laid w L
theorem SixR.below {g1 g2 g3 b0 b1 b2 : Nat} {w w' : World} (h : SixR g1 g2 g3 b0 b1 b2 w) (hb : RowKit.Below w.heap.size w w') : SixR g1 g2 g3 b0 b1 b2 w' := ⟨h.x0.below hb, h.x1.below hb, h.x2.below hb, h.x3.below hb, h.x4.below hb, h.x5.below hb⟩
set_option maxHeartbeats 8000000 in
set_option maxRecDepth 100000 in
theorem sanity_any (w : World) (ht : Tabs w) :
    Calls Tryz.prog 5 #[] w fun x w' => x = .returned (.bool true) ∧ RowKit.Below w.heap.size w w' := by
  have HT := Lib.hid ht
  clear ht
  go_enter Tryz.func5, Tryz.ntmps5
  go_wp2_with fail
  have hb3 : RowKit.Below w.heap.size w (((w.alloc (.cells #[.int .i64 1, .int .i64 1, .bool false, .int .i64 5, .int .i64 4, .string ⟨#[65, 49]⟩, .string ⟨#[]⟩, .int .i64 2, .int .i64 400] 46)).alloc (.cells #[.int .i64 1, .int .i64 2, .bool false, .int .i64 5, .int .i64 4, .string ⟨#[66, 49]⟩, .string ⟨#[65, 49]⟩, .int .i64 2, .int .i64 400] 46)).alloc (.cells #[.int .i64 1, .int .i64 1, .bool true, .int .i64 0, .int .i64 0, .string ⟨#[]⟩, .string ⟨#[]⟩, .int .i64 0, .int .i64 0] 46)) := below3 w _ _ _
  have x1 : ReqBox (((w.alloc (.cells #[.int .i64 1, .int .i64 1, .bool false, .int .i64 5, .int .i64 4, .string ⟨#[65, 49]⟩, .string ⟨#[]⟩, .int .i64 2, .int .i64 400] 46)).alloc (.cells #[.int .i64 1, .int .i64 2, .bool false, .int .i64 5, .int .i64 4, .string ⟨#[66, 49]⟩, .string ⟨#[65, 49]⟩, .int .i64 2, .int .i64 400] 46)).alloc (.cells #[.int .i64 1, .int .i64 1, .bool true, .int .i64 0, .int .i64 0, .string ⟨#[]⟩, .string ⟨#[]⟩, .int .i64 0, .int .i64 0] 46)) w.heap.size ⟨1, 1, false, 5, 4, ⟨#[65, 49]⟩, ⟨#[]⟩, 2, 400⟩ := ((ReqBox.new w ⟨1, 1, false, 5, 4, ⟨#[65, 49]⟩, ⟨#[]⟩, 2, 400⟩).below (below_alloc1 _ _)).below (below_alloc1 _ _)
  have x2 : ReqBox (((w.alloc (.cells #[.int .i64 1, .int .i64 1, .bool false, .int .i64 5, .int .i64 4, .string ⟨#[65, 49]⟩, .string ⟨#[]⟩, .int .i64 2, .int .i64 400] 46)).alloc (.cells #[.int .i64 1, .int .i64 2, .bool false, .int .i64 5, .int .i64 4, .string ⟨#[66, 49]⟩, .string ⟨#[65, 49]⟩, .int .i64 2, .int .i64 400] 46)).alloc (.cells #[.int .i64 1, .int .i64 1, .bool true, .int .i64 0, .int .i64 0, .string ⟨#[]⟩, .string ⟨#[]⟩, .int .i64 0, .int .i64 0] 46)) (w.heap.size + 1) ⟨1, 2, false, 5, 4, ⟨#[66, 49]⟩, ⟨#[65, 49]⟩, 2, 400⟩ := (show ReqBox ((w.alloc (.cells #[.int .i64 1, .int .i64 1, .bool false, .int .i64 5, .int .i64 4, .string ⟨#[65, 49]⟩, .string ⟨#[]⟩, .int .i64 2, .int .i64 400] 46)).alloc (.cells #[.int .i64 1, .int .i64 2, .bool false, .int .i64 5, .int .i64 4, .string ⟨#[66, 49]⟩, .string ⟨#[65, 49]⟩, .int .i64 2, .int .i64 400] 46)) (w.heap.size + 1) ⟨1, 2, false, 5, 4, ⟨#[66, 49]⟩, ⟨#[65, 49]⟩, 2, 400⟩ by have := ReqBox.new (w.alloc (.cells #[.int .i64 1, .int .i64 1, .bool false, .int .i64 5, .int .i64 4, .string ⟨#[65, 49]⟩, .string ⟨#[]⟩, .int .i64 2, .int .i64 400] 46)) ⟨1, 2, false, 5, 4, ⟨#[66, 49]⟩, ⟨#[65, 49]⟩, 2, 400⟩; rw [size_alloc] at this; exact this).below (below_alloc1 _ _)
  have x3 : ReqBox (((w.alloc (.cells #[.int .i64 1, .int .i64 1, .bool false, .int .i64 5, .int .i64 4, .string ⟨#[65, 49]⟩, .string ⟨#[]⟩, .int .i64 2, .int .i64 400] 46)).alloc (.cells #[.int .i64 1, .int .i64 2, .bool false, .int .i64 5, .int .i64 4, .string ⟨#[66, 49]⟩, .string ⟨#[65, 49]⟩, .int .i64 2, .int .i64 400] 46)).alloc (.cells #[.int .i64 1, .int .i64 1, .bool true, .int .i64 0, .int .i64 0, .string ⟨#[]⟩, .string ⟨#[]⟩, .int .i64 0, .int .i64 0] 46)) (w.heap.size + 1 + 1) ⟨1, 1, true, 0, 0, ⟨#[]⟩, ⟨#[]⟩, 0, 0⟩ := by have := ReqBox.new ((w.alloc (.cells #[.int .i64 1, .int .i64 1, .bool false, .int .i64 5, .int .i64 4, .string ⟨#[65, 49]⟩, .string ⟨#[]⟩, .int .i64 2, .int .i64 400] 46)).alloc (.cells #[.int .i64 1, .int .i64 2, .bool false, .int .i64 5, .int .i64 4, .string ⟨#[66, 49]⟩, .string ⟨#[65, 49]⟩, .int .i64 2, .int .i64 400] 46)) ⟨1, 1, true, 0, 0, ⟨#[]⟩, ⟨#[]⟩, 0, 0⟩; rw [size_alloc, size_alloc] at this; exact this
  generalize (((w.alloc (.cells #[.int .i64 1, .int .i64 1, .bool false, .int .i64 5, .int .i64 4, .string ⟨#[65, 49]⟩, .string ⟨#[]⟩, .int .i64 2, .int .i64 400] 46)).alloc (.cells #[.int .i64 1, .int .i64 2, .bool false, .int .i64 5, .int .i64 4, .string ⟨#[66, 49]⟩, .string ⟨#[65, 49]⟩, .int .i64 2, .int .i64 400] 46)).alloc (.cells #[.int .i64 1, .int .i64 1, .bool true, .int .i64 0, .int .i64 0, .string ⟨#[]⟩, .string ⟨#[]⟩, .int .i64 0, .int .i64 0] 46)) = W at hb3 x1 x2 x3 ⊢
  generalize w.heap.size + 1 + 1 = g3 at x3 ⊢
  generalize w.heap.size + 1 = g2 at x2 ⊢
  obtain ⟨g1, hg1⟩ : ∃ g1, g1 = w.heap.size := ⟨_, rfl⟩
  rw [← hg1] at x1 hb3
  try rw [← hg1]
  refine san_r4 g1 g3 W _ x1 x3 ?_
  intro b0 b1 b2 wx n01 n02 n12 hbx hB0 hB1 hB2 y0 y1 y2
  have l1 := x1.lt
  have l2 := x2.lt
  have l3 := x3.lt
  replace x1 := x1.below hbx
  replace x2 := x2.below hbx
  replace x3 := x3.below hbx
  have f0 : wx.frozen? ⟨b0, 6, none⟩ = false := y0.frozen 6
  have f1 : wx.frozen? ⟨b1, 1, none⟩ = false := y1.frozen 1
  have f2 : wx.frozen? ⟨b2, 3, none⟩ = false := y2.frozen 3
  have k0 : wx.cell? ⟨b0, 6, none⟩ = some (.string ⟨#[]⟩) := y0.cell 6
  have k1 : wx.cell? ⟨b1, 1, none⟩ = some (.int .i64 1) := y1.cell 1
  have k2 : wx.cell? ⟨b2, 3, none⟩ = some (.int .i64 0) := y2.cell 3
  go_upto_region 6 with fail
  have hS : SixR g1 g2 g3 b0 b1 b2 (((wx.setCell ⟨b0, 6, none⟩ (.string ⟨#[65, 49]⟩)).setCell ⟨b1, 1, none⟩ (.int .i64 0)).setCell ⟨b2, 3, none⟩ (.int .i64 5)) :=
    ⟨((x1.far (by omega) 6 _).far (by omega) 1 _).far (by omega) 3 _, ((x2.far (by omega) 6 _).far (by omega) 1 _).far (by omega) 3 _, ((x3.far (by omega) 6 _).far (by omega) 1 _).far (by omega) 3 _,
     (((y0.set (e' := ⟨1, 1, false, 5, 4, ⟨#[65, 49]⟩, ⟨#[65, 49]⟩, 2, 400⟩) 6 (.string ⟨#[65, 49]⟩) rfl).far n01 1 _).far n02 3 _), (((y1.far (Ne.symm n01) 6 _).set (e' := ⟨1, 0, false, 5, 4, ⟨#[65, 49]⟩, ⟨#[]⟩, 2, 400⟩) 1 (.int .i64 0) rfl).far n12 3 _), (((y2.far (Ne.symm n02) 6 _).far (Ne.symm n12) 1 _).set (e' := ⟨1, 1, true, 5, 0, ⟨#[]⟩, ⟨#[]⟩, 0, 0⟩) 3 (.int .i64 5) rfl)⟩
  have hb6 : RowKit.Below g1 w (((wx.setCell ⟨b0, 6, none⟩ (.string ⟨#[65, 49]⟩)).setCell ⟨b1, 1, none⟩ (.int .i64 0)).setCell ⟨b2, 3, none⟩ (.int .i64 5)) := (((hb3.trans (hbx.mono (Nat.le_of_lt l1))).setCell (show g1 ≤ b0 by omega) _).setCell (show g1 ≤ b1 by omega) _).setCell (show g1 ≤ b2 by omega) _
  generalize ((wx.setCell ⟨b0, 6, none⟩ (.string ⟨#[65, 49]⟩)).setCell ⟨b1, 1, none⟩ (.int .i64 0)).setCell ⟨b2, 3, none⟩ (.int .i64 5) = W6 at hS hb6 ⊢
  clear f0 f1 f2 k0 k1 k2 y0 y1 y2 x1 x2 x3 hbx hb3
  subst hg1
  have cc : ∀ j, W6.cell? ⟨w.heap.size, j, none⟩ = (#[.int .i64 1, .int .i64 1, .bool false, .int .i64 5, .int .i64 4, .string ⟨#[65, 49]⟩, .string ⟨#[]⟩, .int .i64 2, .int .i64 400] : Array Value)[j]? := hS.x0.cell
  go_wp2_with fail
  refine (ck_a _).mono ?_
  rintro _ v0 ⟨rfl, hb⟩
  clear cc
  replace hS := hS.below hb
  replace hb6 := below_next hb6 hb
  clear hb
  have cc : ∀ j, v0.cell? ⟨b0, j, none⟩ = (#[.int .i64 1, .int .i64 1, .bool false, .int .i64 5, .int .i64 4, .string ⟨#[65, 49]⟩, .string ⟨#[65, 49]⟩, .int .i64 2, .int .i64 400] : Array Value)[j]? := hS.x3.cell
  go_wp2_with fail
  refine (ck_g _).mono ?_
  rintro _ v1 ⟨rfl, hb⟩
  clear cc
  replace hS := hS.below hb
  replace hb6 := below_next hb6 hb
  clear hb
  have cc : ∀ j, v1.cell? ⟨b1, j, none⟩ = (#[.int .i64 1, .int .i64 0, .bool false, .int .i64 5, .int .i64 4, .string ⟨#[65, 49]⟩, .string ⟨#[]⟩, .int .i64 2, .int .i64 400] : Array Value)[j]? := hS.x4.cell
  go_wp2_with fail
  refine (ck_s _).mono ?_
  rintro _ v2 ⟨rfl, hb⟩
  clear cc
  replace hS := hS.below hb
  replace hb6 := below_next hb6 hb
  clear hb
  have cc : ∀ j, v2.cell? ⟨g3, j, none⟩ = (#[.int .i64 1, .int .i64 1, .bool true, .int .i64 0, .int .i64 0, .string ⟨#[]⟩, .string ⟨#[]⟩, .int .i64 0, .int .i64 0] : Array Value)[j]? := hS.x2.cell
  go_wp2_with fail
  refine (ck_c _).mono ?_
  rintro _ v3 ⟨rfl, hb⟩
  clear cc
  replace hS := hS.below hb
  replace hb6 := below_next hb6 hb
  clear hb
  have cc : ∀ j, v3.cell? ⟨b2, j, none⟩ = (#[.int .i64 1, .int .i64 1, .bool true, .int .i64 5, .int .i64 0, .string ⟨#[]⟩, .string ⟨#[]⟩, .int .i64 0, .int .i64 0] : Array Value)[j]? := hS.x5.cell
  go_wp2_with fail
  refine (ck_k _).mono ?_
  rintro _ v4 ⟨rfl, hb⟩
  clear cc
  replace hS := hS.below hb
  replace hb6 := below_next hb6 hb
  clear hb
  have cA : ∀ j, v4.cell? ⟨w.heap.size, j, none⟩ = (#[.int .i64 1, .int .i64 1, .bool false, .int .i64 5, .int .i64 4, .string ⟨#[65, 49]⟩, .string ⟨#[]⟩, .int .i64 2, .int .i64 400] : Array Value)[j]? := hS.x0.cell
  have cB : ∀ j, v4.cell? ⟨g2, j, none⟩ = (#[.int .i64 1, .int .i64 2, .bool false, .int .i64 5, .int .i64 4, .string ⟨#[66, 49]⟩, .string ⟨#[65, 49]⟩, .int .i64 2, .int .i64 400] : Array Value)[j]? := hS.x1.cell
  have cC : ∀ j, v4.cell? ⟨g3, j, none⟩ = (#[.int .i64 1, .int .i64 1, .bool true, .int .i64 0, .int .i64 0, .string ⟨#[]⟩, .string ⟨#[]⟩, .int .i64 0, .int .i64 0] : Array Value)[j]? := hS.x2.cell
  have z1 := hS.x0.lt
  have z2 := hS.x1.lt
  have z3 := hS.x2.lt
  go_wp2_with fail
  refine (join_at set_acb sm_caba (by simp) _ _ _ ((reqs_laid v4 [⟨1, 1, true, 0, 0, ⟨#[]⟩, ⟨#[]⟩, 0, 0⟩, ⟨1, 1, false, 5, 4, ⟨#[65, 49]⟩, ⟨#[]⟩, 2, 400⟩]).below (below_alloc1 _ _)) (reqs_laid_at (v4.alloc (.cells #[.int .i64 1, .int .i64 1, .bool true, .int .i64 0, .int .i64 0, .string ⟨#[]⟩, .string ⟨#[]⟩, .int .i64 0, .int .i64 0, .int .i64 1, .int .i64 1, .bool false, .int .i64 5, .int .i64 4, .string ⟨#[65, 49]⟩, .string ⟨#[]⟩, .int .i64 2, .int .i64 400] 46)) [⟨1, 2, false, 5, 4, ⟨#[66, 49]⟩, ⟨#[65, 49]⟩, 2, 400⟩, ⟨1, 1, false, 5, 4, ⟨#[65, 49]⟩, ⟨#[]⟩, 2, 400⟩] (v4.heap.size + 1) (size_alloc _ _))).mono ?_
  rintro _ w7 ⟨v8, rfl, hV, hb⟩
  clear cA cB cC
  replace hS := ((hS.below (below_alloc1 _ _)).below (below_alloc1 _ _)).below hb
  replace hb6 := below_next (below_next (below_next hb6 (below_alloc1 _ _)) (below_alloc1 _ _)) hb
  clear hb
  go_wp2_with fail
  refine san_r8 w.heap.size g2 g3 v8 w7 _ hS.x0 hS.x1 hS.x2 hV ?_
  intro u53 u54 u55 u56 u57 u58 u59 u60 u61 u62 u63 u64 u65 u66 u67 u68 u69 u70 u71 u9 wy hb h9
  subst h9
  replace hS := hS.below hb
  replace hV := hV.below hb
  replace hb6 := below_next hb6 hb
  clear hb
  go_wp2_with fail
  refine san_r9 w.heap.size g2 g3 v8 wy _ hS.x0 hS.x1 hS.x2 hV (HT.out.below hb6) ?_
  intro u79 u82 u83 u85 u86 u87 u88 u89 u90 u91 u92 u93 u0 wz hb h0
  subst h0
  replace hb6 := below_next hb6 hb
  go_wp2_with fail
  go_ret
  exact ⟨rfl, hb6⟩
end Go.Proofs.YtanmmooflhomoaaGreatDoor
