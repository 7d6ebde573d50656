/- The examples of the chapter: quadriviumlaw28.sanity returns true. -/
import Derived.Test.YteopjiedjnaeiaaGreatDgar
namespace Go.Proofs.YteopjiedjnaeiaaGreat
open Go Go.Proofs Go.RowKit Go.Maps Go.Sort Go.Lib
attribute [local go_sem] Seat.cells Asked.cells

instance fitsDec (r : Req) : Decidable r.fits := by unfold Req.fits Req.wf; infer_instance
theorem ord_is {R O : List Req} (h1 : ∀ r ∈ R, chkR r = 0 ∧ r.cancel = false) (h2 : R.Pairwise fun a b => numR a ≠ numR b) (h3 : IsOrd O R) : ∀ O', ActOrd R O' → O' = O :=
  fun _ h => (h.whole h1 h2).same h3 fun _ => Iff.rfl
set_option maxRecDepth 100000 in
theorem ex1 (lv sv wv : Value) (w : World) (hl : RowIn Asked.cells w lv [⟨1, ⟨#[65, 49]⟩, ⟨#[]⟩, 0⟩, ⟨2, ⟨#[65, 49]⟩, ⟨#[]⟩, 1⟩]) (hs : RowIn Seat.cells w sv [⟨2, ⟨#[65, 49]⟩⟩]) (hw : RowIn Seat.cells w wv [⟨1, ⟨#[65, 49]⟩⟩]) :
    Calls Tryz.prog 12 #[lv, sv, wv] w fun e w' => e = .returned (.bool true) ∧ RowKit.Below w.heap.size w w' :=
  deals_true lv sv wv [⟨1, ⟨#[65, 49]⟩, ⟨#[]⟩, 0⟩, ⟨2, ⟨#[65, 49]⟩, ⟨#[]⟩, 1⟩] [⟨2, ⟨#[65, 49]⟩⟩] [⟨1, ⟨#[65, 49]⟩⟩] [askR 1 ⟨2, ⟨#[65, 49]⟩, ⟨#[]⟩, 1⟩, askR 0 ⟨1, ⟨#[65, 49]⟩, ⟨#[]⟩, 0⟩] w hl hs hw (by decide) (by decide) (by decide) (by decide +kernel)
    (ord_is (by decide +kernel) (by decide +kernel) ⟨List.Perm.swap _ _ _, by decide +kernel⟩) (fun x y => by kernel_rfl)
set_option maxRecDepth 100000 in
theorem ex2 (lv sv wv : Value) (w : World) (hl : RowIn Asked.cells w lv [⟨1, ⟨#[65, 49]⟩, ⟨#[]⟩, 0⟩, ⟨1, ⟨#[66, 49]⟩, ⟨#[]⟩, 0⟩, ⟨1, ⟨#[67, 49]⟩, ⟨#[]⟩, 0⟩]) (hs : RowIn Seat.cells w sv [⟨1, ⟨#[65, 49]⟩⟩, ⟨1, ⟨#[67, 49]⟩⟩]) (hw : RowIn Seat.cells w wv [⟨1, ⟨#[66, 49]⟩⟩]) :
    Calls Tryz.prog 12 #[lv, sv, wv] w fun e w' => e = .returned (.bool true) ∧ RowKit.Below w.heap.size w w' :=
  deals_true lv sv wv [⟨1, ⟨#[65, 49]⟩, ⟨#[]⟩, 0⟩, ⟨1, ⟨#[66, 49]⟩, ⟨#[]⟩, 0⟩, ⟨1, ⟨#[67, 49]⟩, ⟨#[]⟩, 0⟩] [⟨1, ⟨#[65, 49]⟩⟩, ⟨1, ⟨#[67, 49]⟩⟩] [⟨1, ⟨#[66, 49]⟩⟩] [askR 0 ⟨1, ⟨#[65, 49]⟩, ⟨#[]⟩, 0⟩, askR 1 ⟨1, ⟨#[66, 49]⟩, ⟨#[]⟩, 0⟩, askR 2 ⟨1, ⟨#[67, 49]⟩, ⟨#[]⟩, 0⟩] w hl hs hw (by decide) (by decide) (by decide) (by decide +kernel)
    (ord_is (by decide +kernel) (by decide +kernel) ⟨List.Perm.refl _, by decide +kernel⟩) (fun x y => by kernel_rfl)
set_option maxRecDepth 100000 in
theorem ex3 (lv sv wv : Value) (w : World) (hl : RowIn Asked.cells w lv [⟨1, ⟨#[66, 49]⟩, ⟨#[]⟩, 0⟩, ⟨1, ⟨#[67, 49]⟩, ⟨#[]⟩, 0⟩]) (hs : RowIn Seat.cells w sv [⟨1, ⟨#[66, 49]⟩⟩]) (hw : RowIn Seat.cells w wv [⟨1, ⟨#[67, 49]⟩⟩]) :
    Calls Tryz.prog 12 #[lv, sv, wv] w fun e w' => e = .returned (.bool true) ∧ RowKit.Below w.heap.size w w' :=
  deals_true lv sv wv [⟨1, ⟨#[66, 49]⟩, ⟨#[]⟩, 0⟩, ⟨1, ⟨#[67, 49]⟩, ⟨#[]⟩, 0⟩] [⟨1, ⟨#[66, 49]⟩⟩] [⟨1, ⟨#[67, 49]⟩⟩] [askR 0 ⟨1, ⟨#[66, 49]⟩, ⟨#[]⟩, 0⟩, askR 1 ⟨1, ⟨#[67, 49]⟩, ⟨#[]⟩, 0⟩] w hl hs hw (by decide) (by decide) (by decide) (by decide +kernel)
    (ord_is (by decide +kernel) (by decide +kernel) ⟨List.Perm.refl _, by decide +kernel⟩) (fun x y => by kernel_rfl)
set_option maxRecDepth 100000 in
theorem ex4 (lv sv wv : Value) (w : World) (hl : RowIn Asked.cells w lv [⟨1, ⟨#[65, 49]⟩, ⟨#[]⟩, 0⟩, ⟨1, ⟨#[66, 49]⟩, ⟨#[65, 49]⟩, 0⟩, ⟨2, ⟨#[65, 49]⟩, ⟨#[]⟩, 0⟩]) (hs : RowIn Seat.cells w sv [⟨1, ⟨#[66, 49]⟩⟩, ⟨2, ⟨#[65, 49]⟩⟩]) (hw : RowIn Seat.cells w wv []) :
    Calls Tryz.prog 12 #[lv, sv, wv] w fun e w' => e = .returned (.bool true) ∧ RowKit.Below w.heap.size w w' :=
  deals_true lv sv wv [⟨1, ⟨#[65, 49]⟩, ⟨#[]⟩, 0⟩, ⟨1, ⟨#[66, 49]⟩, ⟨#[65, 49]⟩, 0⟩, ⟨2, ⟨#[65, 49]⟩, ⟨#[]⟩, 0⟩] [⟨1, ⟨#[66, 49]⟩⟩, ⟨2, ⟨#[65, 49]⟩⟩] [] [askR 0 ⟨1, ⟨#[65, 49]⟩, ⟨#[]⟩, 0⟩, askR 1 ⟨1, ⟨#[66, 49]⟩, ⟨#[65, 49]⟩, 0⟩, askR 2 ⟨2, ⟨#[65, 49]⟩, ⟨#[]⟩, 0⟩] w hl hs hw (by decide) (by decide) (by decide) (by decide +kernel)
    (ord_is (by decide +kernel) (by decide +kernel) ⟨List.Perm.refl _, by decide +kernel⟩) (fun x y => by kernel_rfl)
set_option maxRecDepth 100000 in
theorem ex5 (lv sv wv : Value) (w : World) (hl : RowIn Asked.cells w lv [⟨1, ⟨#[66, 49]⟩, ⟨#[65, 49]⟩, 0⟩]) (hs : RowIn Seat.cells w sv []) (hw : RowIn Seat.cells w wv [⟨1, ⟨#[66, 49]⟩⟩]) :
    Calls Tryz.prog 12 #[lv, sv, wv] w fun e w' => e = .returned (.bool true) ∧ RowKit.Below w.heap.size w w' :=
  deals_true lv sv wv [⟨1, ⟨#[66, 49]⟩, ⟨#[65, 49]⟩, 0⟩] [] [⟨1, ⟨#[66, 49]⟩⟩] [askR 0 ⟨1, ⟨#[66, 49]⟩, ⟨#[65, 49]⟩, 0⟩] w hl hs hw (by decide) (by decide) (by decide) (by decide +kernel)
    (ord_is (by decide +kernel) (by decide +kernel) ⟨List.Perm.refl _, by decide +kernel⟩) (fun x y => by kernel_rfl)
set_option maxHeartbeats 4000000 in
set_option maxRecDepth 100000 in
theorem mk_sanity_any (w : World) : Calls Tryz.prog 4 #[] w fun e w' => e = .returned (.bool true) ∧ RowKit.Below w.heap.size w w' := by
  go_enter Tryz.func4, Tryz.ntmps4
  have hb0 : RowKit.Below w.heap.size w w := Below.refl _ _
  have hL := rowIn_lit (enc := Asked.cells) (e := 50) w [⟨1, ⟨#[65, 49]⟩, ⟨#[]⟩, 0⟩, ⟨2, ⟨#[65, 49]⟩, ⟨#[]⟩, 1⟩] #[.int .i64 1, .string ⟨#[65, 49]⟩, .string ⟨#[]⟩, .int .i64 0, .int .i64 2, .string ⟨#[65, 49]⟩, .string ⟨#[]⟩, .int .i64 1] w.heap.size rfl rfl 2 rfl
  replace hb0 := below_next hb0 (below_alloc1 w (.cells #[.int .i64 1, .string ⟨#[65, 49]⟩, .string ⟨#[]⟩, .int .i64 0, .int .i64 2, .string ⟨#[65, 49]⟩, .string ⟨#[]⟩, .int .i64 1] 50))
  go_wp2_with fail
  refine (seat_any 2 ⟨#[65, 49]⟩ _).mono ?_
  rintro _ u1 ⟨rfl, hb⟩
  replace hL := hL.below hb
  replace hb0 := below_next hb0 hb
  clear hb
  have hS := rowIn_lit (enc := Seat.cells) (e := 53) u1 [⟨2, ⟨#[65, 49]⟩⟩] #[.int .i64 2, .string ⟨#[65, 49]⟩] u1.heap.size rfl rfl 1 rfl
  have hb := below_alloc1 u1 (.cells #[.int .i64 2, .string ⟨#[65, 49]⟩] 53)
  replace hL := hL.below hb
  replace hb0 := below_next hb0 hb
  clear hb
  go_wp2_with fail
  refine (seat_any 1 ⟨#[65, 49]⟩ _).mono ?_
  rintro _ u2 ⟨rfl, hb⟩
  replace hL := hL.below hb
  replace hS := hS.below hb
  replace hb0 := below_next hb0 hb
  clear hb
  have hW := rowIn_lit (enc := Seat.cells) (e := 53) u2 [⟨1, ⟨#[65, 49]⟩⟩] #[.int .i64 1, .string ⟨#[65, 49]⟩] u2.heap.size rfl rfl 1 rfl
  have hb := below_alloc1 u2 (.cells #[.int .i64 1, .string ⟨#[65, 49]⟩] 53)
  replace hL := hL.below hb
  replace hS := hS.below hb
  replace hb0 := below_next hb0 hb
  clear hb
  go_wp2_with fail
  refine (ex1 _ _ _ _ hL hS hW).mono ?_
  rintro _ u3 ⟨rfl, hb⟩
  replace hb0 := below_next hb0 hb
  clear hb hL hS hW
  have hL := rowIn_lit (enc := Asked.cells) (e := 50) u3 [⟨1, ⟨#[65, 49]⟩, ⟨#[]⟩, 0⟩, ⟨1, ⟨#[66, 49]⟩, ⟨#[]⟩, 0⟩, ⟨1, ⟨#[67, 49]⟩, ⟨#[]⟩, 0⟩] #[.int .i64 1, .string ⟨#[65, 49]⟩, .string ⟨#[]⟩, .int .i64 0, .int .i64 1, .string ⟨#[66, 49]⟩, .string ⟨#[]⟩, .int .i64 0, .int .i64 1, .string ⟨#[67, 49]⟩, .string ⟨#[]⟩, .int .i64 0] u3.heap.size rfl rfl 3 rfl
  replace hb0 := below_next hb0 (below_alloc1 u3 (.cells #[.int .i64 1, .string ⟨#[65, 49]⟩, .string ⟨#[]⟩, .int .i64 0, .int .i64 1, .string ⟨#[66, 49]⟩, .string ⟨#[]⟩, .int .i64 0, .int .i64 1, .string ⟨#[67, 49]⟩, .string ⟨#[]⟩, .int .i64 0] 50))
  go_wp2_with fail
  refine (seat_any 1 ⟨#[65, 49]⟩ _).mono ?_
  rintro _ u4 ⟨rfl, hb⟩
  replace hL := hL.below hb
  replace hb0 := below_next hb0 hb
  clear hb
  go_wp2_with fail
  refine (seat_any 1 ⟨#[67, 49]⟩ _).mono ?_
  rintro _ u5 ⟨rfl, hb⟩
  replace hL := hL.below hb
  replace hb0 := below_next hb0 hb
  clear hb
  have hS := rowIn_lit (enc := Seat.cells) (e := 53) u5 [⟨1, ⟨#[65, 49]⟩⟩, ⟨1, ⟨#[67, 49]⟩⟩] #[.int .i64 1, .string ⟨#[65, 49]⟩, .int .i64 1, .string ⟨#[67, 49]⟩] u5.heap.size rfl rfl 2 rfl
  have hb := below_alloc1 u5 (.cells #[.int .i64 1, .string ⟨#[65, 49]⟩, .int .i64 1, .string ⟨#[67, 49]⟩] 53)
  replace hL := hL.below hb
  replace hb0 := below_next hb0 hb
  clear hb
  go_wp2_with fail
  refine (seat_any 1 ⟨#[66, 49]⟩ _).mono ?_
  rintro _ u6 ⟨rfl, hb⟩
  replace hL := hL.below hb
  replace hS := hS.below hb
  replace hb0 := below_next hb0 hb
  clear hb
  have hW := rowIn_lit (enc := Seat.cells) (e := 53) u6 [⟨1, ⟨#[66, 49]⟩⟩] #[.int .i64 1, .string ⟨#[66, 49]⟩] u6.heap.size rfl rfl 1 rfl
  have hb := below_alloc1 u6 (.cells #[.int .i64 1, .string ⟨#[66, 49]⟩] 53)
  replace hL := hL.below hb
  replace hS := hS.below hb
  replace hb0 := below_next hb0 hb
  clear hb
  go_wp2_with fail
  refine (ex2 _ _ _ _ hL hS hW).mono ?_
  rintro _ u7 ⟨rfl, hb⟩
  replace hb0 := below_next hb0 hb
  clear hb hL hS hW
  have hL := rowIn_lit (enc := Asked.cells) (e := 50) u7 [⟨1, ⟨#[66, 49]⟩, ⟨#[]⟩, 0⟩, ⟨1, ⟨#[67, 49]⟩, ⟨#[]⟩, 0⟩] #[.int .i64 1, .string ⟨#[66, 49]⟩, .string ⟨#[]⟩, .int .i64 0, .int .i64 1, .string ⟨#[67, 49]⟩, .string ⟨#[]⟩, .int .i64 0] u7.heap.size rfl rfl 2 rfl
  replace hb0 := below_next hb0 (below_alloc1 u7 (.cells #[.int .i64 1, .string ⟨#[66, 49]⟩, .string ⟨#[]⟩, .int .i64 0, .int .i64 1, .string ⟨#[67, 49]⟩, .string ⟨#[]⟩, .int .i64 0] 50))
  go_wp2_with fail
  refine (seat_any 1 ⟨#[66, 49]⟩ _).mono ?_
  rintro _ u8 ⟨rfl, hb⟩
  replace hL := hL.below hb
  replace hb0 := below_next hb0 hb
  clear hb
  have hS := rowIn_lit (enc := Seat.cells) (e := 53) u8 [⟨1, ⟨#[66, 49]⟩⟩] #[.int .i64 1, .string ⟨#[66, 49]⟩] u8.heap.size rfl rfl 1 rfl
  have hb := below_alloc1 u8 (.cells #[.int .i64 1, .string ⟨#[66, 49]⟩] 53)
  replace hL := hL.below hb
  replace hb0 := below_next hb0 hb
  clear hb
  go_wp2_with fail
  refine (seat_any 1 ⟨#[67, 49]⟩ _).mono ?_
  rintro _ u9 ⟨rfl, hb⟩
  replace hL := hL.below hb
  replace hS := hS.below hb
  replace hb0 := below_next hb0 hb
  clear hb
  have hW := rowIn_lit (enc := Seat.cells) (e := 53) u9 [⟨1, ⟨#[67, 49]⟩⟩] #[.int .i64 1, .string ⟨#[67, 49]⟩] u9.heap.size rfl rfl 1 rfl
  have hb := below_alloc1 u9 (.cells #[.int .i64 1, .string ⟨#[67, 49]⟩] 53)
  replace hL := hL.below hb
  replace hS := hS.below hb
  replace hb0 := below_next hb0 hb
  clear hb
  go_wp2_with fail
  refine (ex3 _ _ _ _ hL hS hW).mono ?_
  rintro _ u10 ⟨rfl, hb⟩
  replace hb0 := below_next hb0 hb
  clear hb hL hS hW
  have hL := rowIn_lit (enc := Asked.cells) (e := 50) u10 [⟨1, ⟨#[65, 49]⟩, ⟨#[]⟩, 0⟩, ⟨1, ⟨#[66, 49]⟩, ⟨#[65, 49]⟩, 0⟩, ⟨2, ⟨#[65, 49]⟩, ⟨#[]⟩, 0⟩] #[.int .i64 1, .string ⟨#[65, 49]⟩, .string ⟨#[]⟩, .int .i64 0, .int .i64 1, .string ⟨#[66, 49]⟩, .string ⟨#[65, 49]⟩, .int .i64 0, .int .i64 2, .string ⟨#[65, 49]⟩, .string ⟨#[]⟩, .int .i64 0] u10.heap.size rfl rfl 3 rfl
  replace hb0 := below_next hb0 (below_alloc1 u10 (.cells #[.int .i64 1, .string ⟨#[65, 49]⟩, .string ⟨#[]⟩, .int .i64 0, .int .i64 1, .string ⟨#[66, 49]⟩, .string ⟨#[65, 49]⟩, .int .i64 0, .int .i64 2, .string ⟨#[65, 49]⟩, .string ⟨#[]⟩, .int .i64 0] 50))
  go_wp2_with fail
  refine (seat_any 1 ⟨#[66, 49]⟩ _).mono ?_
  rintro _ u11 ⟨rfl, hb⟩
  replace hL := hL.below hb
  replace hb0 := below_next hb0 hb
  clear hb
  go_wp2_with fail
  refine (seat_any 2 ⟨#[65, 49]⟩ _).mono ?_
  rintro _ u12 ⟨rfl, hb⟩
  replace hL := hL.below hb
  replace hb0 := below_next hb0 hb
  clear hb
  have hS := rowIn_lit (enc := Seat.cells) (e := 53) u12 [⟨1, ⟨#[66, 49]⟩⟩, ⟨2, ⟨#[65, 49]⟩⟩] #[.int .i64 1, .string ⟨#[66, 49]⟩, .int .i64 2, .string ⟨#[65, 49]⟩] u12.heap.size rfl rfl 2 rfl
  have hb := below_alloc1 u12 (.cells #[.int .i64 1, .string ⟨#[66, 49]⟩, .int .i64 2, .string ⟨#[65, 49]⟩] 53)
  replace hL := hL.below hb
  replace hb0 := below_next hb0 hb
  clear hb
  go_wp2_with fail
  have hW := RowIn.nil Seat.cells w
  refine (ex4 _ _ _ _ hL hS (RowIn.nil _ _)).mono ?_
  rintro _ u13 ⟨rfl, hb⟩
  replace hb0 := below_next hb0 hb
  clear hb hL hS hW
  have hL := rowIn_lit (enc := Asked.cells) (e := 50) u13 [⟨1, ⟨#[66, 49]⟩, ⟨#[65, 49]⟩, 0⟩] #[.int .i64 1, .string ⟨#[66, 49]⟩, .string ⟨#[65, 49]⟩, .int .i64 0] u13.heap.size rfl rfl 1 rfl
  replace hb0 := below_next hb0 (below_alloc1 u13 (.cells #[.int .i64 1, .string ⟨#[66, 49]⟩, .string ⟨#[65, 49]⟩, .int .i64 0] 50))
  go_wp2_with fail
  have hS := RowIn.nil Seat.cells w
  refine (seat_any 1 ⟨#[66, 49]⟩ _).mono ?_
  rintro _ u14 ⟨rfl, hb⟩
  replace hL := hL.below hb
  replace hb0 := below_next hb0 hb
  clear hb
  have hW := rowIn_lit (enc := Seat.cells) (e := 53) u14 [⟨1, ⟨#[66, 49]⟩⟩] #[.int .i64 1, .string ⟨#[66, 49]⟩] u14.heap.size rfl rfl 1 rfl
  have hb := below_alloc1 u14 (.cells #[.int .i64 1, .string ⟨#[66, 49]⟩] 53)
  replace hL := hL.below hb
  replace hb0 := below_next hb0 hb
  clear hb
  go_wp2_with fail
  refine (ex5 _ _ _ _ hL (RowIn.nil _ _) hW).mono ?_
  rintro _ u15 ⟨rfl, hb⟩
  replace hb0 := below_next hb0 hb
  clear hb hL hS hW
  go_wp2_with fail
  go_ret
  exact ⟨rfl, hb0⟩
end Go.Proofs.YteopjiedjnaeiaaGreat
