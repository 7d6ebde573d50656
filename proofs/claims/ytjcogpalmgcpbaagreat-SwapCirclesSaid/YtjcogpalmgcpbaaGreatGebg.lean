/- The law SwapCircles: a circle that is found closes, and is as short as possible. -/
import Derived.Test.YtjcogpalmgcpbaaGreatGebf
namespace Go.Proofs.YtjcogpalmgcpbaaGreat
open Go Go.Proofs Go.RowKit Go.Maps Go.Sort Go.Lib
attribute [local go_sem] Req.cells


set_option maxHeartbeats 4000000 in
set_option maxRecDepth 100000 in
theorem sc_r14 {s0 s1 s2 s3 s4 s5 s6 s8 s10 s12 s13 s16 s17 s18 s19 s20 s21 s22 s23 s24 s25 s26 s27 s28 s29 s30 s31 s32 s33 s34 s35 s36 s37 s38 s39 s40 s41 s42 s43 s44 s45 s46 s47 s48 s49 s50 s51 s52 s53 s54 s55 s56 s57 s58 s59 s60 s61 s62 s63 s64 s65 s66 s67 s68 s69 s70 s71 s72 s73 s74 s75 s76 s77 s78 s79 s80 s81 s82 s83 s84 s85 s86 s87 s88 s89 s90 s91 s92 s93 s94 s95 s96 s97 s98 s99 s100 s101 s102 s103 s104 s105 s106 s107 s108 s109 s110 s111 s112 s113 s114 s115 s116 s117 s118 s119 s120 s121 s122 s123 s124 s125 s126 s127 s128 s129 s130 s131 s132 s133 s134 s135 s136 s137 s138 s139 s140 s141 s142 s143 s144 s145 s146 s147 s148 s149 s150 s151 s152 s153 s154 s155 s156 s157 s158 s159 s160 s161 s162 s163 s164 s165 s166 s167 s168 s169 s170 s171 s172 s173 s174 s175 s176 s177 s178 s179 s180 s181 s182 s183 s184 s185 s186 s187 s188 s189 s190 s191 s192 s193 s194 s195 s196 s197 s198 s199 : Value} (b11 g of gc oc n nx f ll cl lc cv cd : Nat) (pd : Option Addr) (D : Deal) (r : Req) (W : World) (Q : Exit → Act → World → Prop) (hc0 : gc < W.heap.size ∧ W.cell? ⟨gc, oc, none⟩ = some (.int .i64 f)) (hg : g < W.heap.size) (h3 : W.cell? ⟨g, of + n * 9 + 3, none⟩ = some (.int .i64 r.student)) (h5 : W.cell? ⟨g, of + n * 9 + 5, none⟩ = some (.string r.code)) (h6 : W.cell? ⟨g, of + n * 9 + 6, none⟩ = some (.string r.give)) (hx6 : W.cell? ⟨g, of + nx * 9 + 6, none⟩ = some (.string r.code)) (h11 : b11 < W.heap.size ∧ W.cell? ⟨b11, 0, none⟩ = some (.slice pd D.seats.length cd)) (hr : RowIn Seat.cells W (.slice pd D.seats.length cd) D.seats) (lD : D.seats.length ≤ 1000000) (hfn : f ≤ n) (hn : n < ll) (hnx : nx < ll) (hcl : 0 < lc) (hin : seatOf r ∈ D.seats) (hout : giveOf r ∉ D.seats)
    (hQ : ∀ (u95 u96 u97 u98 u99 u100 u101 u102 u103 u104 u105 u106 u107 u108 u109 u110 u111 u112 u113 u114 u115 u116 u117 u118 u119 u120 u121 u122 u123 u124 u125 u126 u127 u128 u129 u130 u131 u132 u133 u134 u135 u136 u137 u138 u139 u140 u141 u142 u143 u144 u145 u146 u147 u148 u149 u150 u151 u152 u153 u154 u155 u156 u157 u158 u159 u160 : Value) (wx : World), RowKit.Below W.heap.size W wx → Q .normal ⟨List.toArray (s0 :: s1 :: s2 :: s3 :: s4 :: s5 :: s6 :: .slice (some ⟨g, of, none⟩) ll cl :: s8 :: .slice (some ⟨gc, oc, none⟩) lc cv :: s10 :: .pointer (some ⟨b11, 0, none⟩) :: s12 :: s13 :: .int .i64 (n : Int) :: .int .i64 (nx : Int) :: s16 :: s17 :: s18 :: s19 :: s20 :: s21 :: s22 :: s23 :: s24 :: s25 :: s26 :: s27 :: s28 :: s29 :: s30 :: s31 :: s32 :: s33 :: s34 :: s35 :: s36 :: s37 :: s38 :: s39 :: s40 :: s41 :: s42 :: s43 :: s44 :: s45 :: s46 :: s47 :: s48 :: s49 :: s50 :: s51 :: s52 :: s53 :: s54 :: s55 :: s56 :: s57 :: s58 :: s59 :: s60 :: s61 :: s62 :: s63 :: s64 :: s65 :: s66 :: s67 :: s68 :: s69 :: s70 :: s71 :: s72 :: s73 :: s74 :: s75 :: s76 :: s77 :: s78 :: s79 :: s80 :: s81 :: s82 :: s83 :: s84 :: s85 :: s86 :: s87 :: s88 :: s89 :: s90 :: s91 :: s92 :: s93 :: s94 :: u95 :: u96 :: u97 :: u98 :: u99 :: u100 :: u101 :: u102 :: u103 :: u104 :: u105 :: u106 :: u107 :: u108 :: u109 :: u110 :: u111 :: u112 :: u113 :: u114 :: u115 :: u116 :: u117 :: u118 :: u119 :: u120 :: u121 :: u122 :: u123 :: u124 :: u125 :: u126 :: u127 :: u128 :: u129 :: u130 :: u131 :: u132 :: u133 :: u134 :: u135 :: u136 :: u137 :: u138 :: u139 :: u140 :: u141 :: u142 :: u143 :: u144 :: u145 :: u146 :: u147 :: u148 :: u149 :: u150 :: u151 :: u152 :: u153 :: u154 :: u155 :: u156 :: u157 :: u158 :: u159 :: u160 :: .bool false :: s162 :: s163 :: s164 :: s165 :: s166 :: s167 :: s168 :: s169 :: s170 :: s171 :: s172 :: s173 :: s174 :: s175 :: s176 :: s177 :: s178 :: s179 :: s180 :: s181 :: s182 :: s183 :: s184 :: s185 :: s186 :: s187 :: s188 :: s189 :: s190 :: s191 :: s192 :: s193 :: s194 :: s195 :: s196 :: s197 :: s198 :: s199 :: []), []⟩ wx) :
    (regionOf Tryz.f5 14).wp Tryz.prog Q ⟨List.toArray (s0 :: s1 :: s2 :: s3 :: s4 :: s5 :: s6 :: .slice (some ⟨g, of, none⟩) ll cl :: s8 :: .slice (some ⟨gc, oc, none⟩) lc cv :: s10 :: .pointer (some ⟨b11, 0, none⟩) :: s12 :: s13 :: .int .i64 (n : Int) :: .int .i64 (nx : Int) :: s16 :: s17 :: s18 :: s19 :: s20 :: s21 :: s22 :: s23 :: s24 :: s25 :: s26 :: s27 :: s28 :: s29 :: s30 :: s31 :: s32 :: s33 :: s34 :: s35 :: s36 :: s37 :: s38 :: s39 :: s40 :: s41 :: s42 :: s43 :: s44 :: s45 :: s46 :: s47 :: s48 :: s49 :: s50 :: s51 :: s52 :: s53 :: s54 :: s55 :: s56 :: s57 :: s58 :: s59 :: s60 :: s61 :: s62 :: s63 :: s64 :: s65 :: s66 :: s67 :: s68 :: s69 :: s70 :: s71 :: s72 :: s73 :: s74 :: s75 :: s76 :: s77 :: s78 :: s79 :: s80 :: s81 :: s82 :: s83 :: s84 :: s85 :: s86 :: s87 :: s88 :: s89 :: s90 :: s91 :: s92 :: s93 :: s94 :: s95 :: s96 :: s97 :: s98 :: s99 :: s100 :: s101 :: s102 :: s103 :: s104 :: s105 :: s106 :: s107 :: s108 :: s109 :: s110 :: s111 :: s112 :: s113 :: s114 :: s115 :: s116 :: s117 :: s118 :: s119 :: s120 :: s121 :: s122 :: s123 :: s124 :: s125 :: s126 :: s127 :: s128 :: s129 :: s130 :: s131 :: s132 :: s133 :: s134 :: s135 :: s136 :: s137 :: s138 :: s139 :: s140 :: s141 :: s142 :: s143 :: s144 :: s145 :: s146 :: s147 :: s148 :: s149 :: s150 :: s151 :: s152 :: s153 :: s154 :: s155 :: s156 :: s157 :: s158 :: s159 :: s160 :: s161 :: s162 :: s163 :: s164 :: s165 :: s166 :: s167 :: s168 :: s169 :: s170 :: s171 :: s172 :: s173 :: s174 :: s175 :: s176 :: s177 :: s178 :: s179 :: s180 :: s181 :: s182 :: s183 :: s184 :: s185 :: s186 :: s187 :: s188 :: s189 :: s190 :: s191 :: s192 :: s193 :: s194 :: s195 :: s196 :: s197 :: s198 :: s199 :: []), []⟩ W := by
  refine of_onlyN (K := Q .normal) ?_ (fun _ _ h => h)
  generalize Q .normal = K at hQ ⊢
  have HQ := Lib.hid hQ; clear hQ
  conv => arg 2; whnf
  have KP : ∀ w1 w2 : World, (fun w' => RowKit.Below W.heap.size W w' ∧ w'.cell? ⟨gc, oc, none⟩ = some (.int .i64 f) ∧ w'.cell? ⟨g, of + n * 9 + 3, none⟩ = some (.int .i64 r.student) ∧ w'.cell? ⟨g, of + n * 9 + 5, none⟩ = some (.string r.code) ∧ w'.cell? ⟨g, of + n * 9 + 6, none⟩ = some (.string r.give) ∧ w'.cell? ⟨g, of + nx * 9 + 6, none⟩ = some (.string r.code) ∧ w'.cell? ⟨b11, 0, none⟩ = some (.slice pd D.seats.length cd)) w1 → RowKit.Below w1.heap.size w1 w2 → (fun w' => RowKit.Below W.heap.size W w' ∧ w'.cell? ⟨gc, oc, none⟩ = some (.int .i64 f) ∧ w'.cell? ⟨g, of + n * 9 + 3, none⟩ = some (.int .i64 r.student) ∧ w'.cell? ⟨g, of + n * 9 + 5, none⟩ = some (.string r.code) ∧ w'.cell? ⟨g, of + n * 9 + 6, none⟩ = some (.string r.give) ∧ w'.cell? ⟨g, of + nx * 9 + 6, none⟩ = some (.string r.code) ∧ w'.cell? ⟨b11, 0, none⟩ = some (.slice pd D.seats.length cd)) w2 := fun w1 w2 h hb => by
    have hb2 := below_next h.1 hb
    exact ⟨hb2, (hb2.cell (p := ⟨gc, oc, none⟩) hc0.1).trans hc0.2, (hb2.cell (p := ⟨g, of + n * 9 + 3, none⟩) hg).trans h3, (hb2.cell (p := ⟨g, of + n * 9 + 5, none⟩) hg).trans h5, (hb2.cell (p := ⟨g, of + n * 9 + 6, none⟩) hg).trans h6, (hb2.cell (p := ⟨g, of + nx * 9 + 6, none⟩) hg).trans hx6, (hb2.cell (p := ⟨b11, 0, none⟩) h11.1).trans h11.2⟩
  have hS0 : (fun w' => RowKit.Below W.heap.size W w' ∧ w'.cell? ⟨gc, oc, none⟩ = some (.int .i64 f) ∧ w'.cell? ⟨g, of + n * 9 + 3, none⟩ = some (.int .i64 r.student) ∧ w'.cell? ⟨g, of + n * 9 + 5, none⟩ = some (.string r.code) ∧ w'.cell? ⟨g, of + n * 9 + 6, none⟩ = some (.string r.give) ∧ w'.cell? ⟨g, of + nx * 9 + 6, none⟩ = some (.string r.code) ∧ w'.cell? ⟨b11, 0, none⟩ = some (.slice pd D.seats.length cd)) W.drew := KP W W.drew ⟨Below.refl _ _, hc0.2, h3, h5, h6, hx6, h11.2⟩ (Below.refl _ _).drew
  have i1 : (n : Int) < (ll : Int) := by omega
  have i2 : (nx : Int) < (ll : Int) := by omega
  have i3 : (0 : Int) < (lc : Int) := by omega
  have d1 : decide ((n : Int) < (f : Int)) = false := decide_eq_false (by omega)
  have d1b : decide (n < f) = false := decide_eq_false (by omega)
  have d2 : decide ((ll : Int) ≤ (n : Int)) = false := decide_eq_false (by omega)
  have d2b : decide (ll ≤ n) = false := decide_eq_false (by omega)
  have d3 : decide ((nx : Int) < 0) = false := decide_eq_false (by omega)
  have d4 : decide ((ll : Int) ≤ (nx : Int)) = false := decide_eq_false (by omega)
  have d4b : decide (ll ≤ nx) = false := decide_eq_false (by omega)
  have C1 : Hid (∀ w', RowKit.Below W.heap.size W w' → Calls Tryz.prog 11 #[.slice pd D.seats.length cd, .agg #[.int .i64 r.student, .string r.code]] w' fun e w'' => e = .returned (.bool true) ∧ RowKit.Below w'.heap.size w' w'') := Lib.hid fun w' hb => by
    have := has29_any _ D.seats (seatOf r) w' (hr.below hb) lD
    rwa [decide_eq_true hin] at this
  have C2 : Hid (∀ w', RowKit.Below W.heap.size W w' → Calls Tryz.prog 11 #[.slice pd D.seats.length cd, .agg #[.int .i64 r.student, .string r.give]] w' fun e w'' => e = .returned (.bool false) ∧ RowKit.Below w'.heap.size w' w'') := Lib.hid fun w' hb => by
    have := has29_any _ D.seats (giveOf r) w' (hr.below hb) lD
    rwa [decide_eq_false hout] at this
  clear hr hc0 hg h3 h5 h6 hx6 h11 hin hout
  refine of_onlyN ?_ (fun _ _ h => h)
  refine wp_region_flow (S := fun w' => RowKit.Below W.heap.size W w' ∧ w'.cell? ⟨gc, oc, none⟩ = some (.int .i64 f) ∧ w'.cell? ⟨g, of + n * 9 + 3, none⟩ = some (.int .i64 r.student) ∧ w'.cell? ⟨g, of + n * 9 + 5, none⟩ = some (.string r.code) ∧ w'.cell? ⟨g, of + n * 9 + 6, none⟩ = some (.string r.give) ∧ w'.cell? ⟨g, of + nx * 9 + 6, none⟩ = some (.string r.code) ∧ w'.cell? ⟨b11, 0, none⟩ = some (.slice pd D.seats.length cd)) [(0, true), (1, true), (2, true), (3, true), (4, true), (5, true), (6, true), (7, true), (8, true), (9, true), (10, true), (11, true), (12, true), (13, true), (14, true), (15, true), (16, true), (17, true), (18, true), (19, true), (20, true), (21, true), (22, true), (23, true), (24, true), (25, true), (26, true), (27, true), (28, true), (29, true), (30, true), (31, true), (32, true), (33, true), (34, true), (35, true), (36, true), (37, true), (38, true), (39, true), (40, true), (41, true), (42, true), (43, true), (44, true), (45, true), (46, true), (47, true), (48, false), (49, true), (50, true), (51, true), (52, true), (53, true), (54, true), (55, true), (56, true), (57, true), (58, true), (59, true), (60, true), (61, true), (62, true), (63, true), (64, true), (65, false), (66, true)] (by kernel_rfl) (by kernel_rfl) (by kernel_rfl) (by decide) (hS0) ?_
  have hS := hS0
  refine flow_take ⟨some 95, _, _, _, _, _⟩ ?_ rfl (by rfl) ?_ ?_
  rotate_left 1
  · intro w hSw; (try dsimp only at hSw); go_simp; (try with_reducible rfl)
  simp only [Act.put, List.setIfInBounds_toArray, List.set_cons_zero, List.set_cons_succ]
  refine flow_take ⟨some 96, _, _, _, _, _⟩ ?_ rfl (by rfl) ?_ ?_
  rotate_left 1
  · intro w hSw; (try dsimp only at hSw); go_simp; (try with_reducible rfl)
  simp only [Act.put, List.setIfInBounds_toArray, List.set_cons_zero, List.set_cons_succ]
  refine flow_take ⟨some 97, _, _, _, _, _⟩ ?_ rfl (by rfl) ?_ ?_
  rotate_left 1
  · intro w hSw; (try dsimp only at hSw); go_simp; (try with_reducible rfl)
  simp only [Act.put, List.setIfInBounds_toArray, List.set_cons_zero, List.set_cons_succ]
  refine flow_take ⟨some 98, _, _, _, _, _⟩ ?_ rfl (by rfl) ?_ ?_
  rotate_left 1
  · intro w hSw; (try dsimp only at hSw); go_simp; (try with_reducible rfl)
  simp only [Act.put, List.setIfInBounds_toArray, List.set_cons_zero, List.set_cons_succ]
  refine flow_take ⟨some 99, _, _, _, _, _⟩ ?_ rfl (by rfl) ?_ ?_
  rotate_left 1
  · intro w hSw; (try dsimp only at hSw); go_simp; (try with_reducible rfl)
  simp only [Act.put, List.setIfInBounds_toArray, List.set_cons_zero, List.set_cons_succ]
  refine flow_take ⟨some 100, _, _, _, _, _⟩ ?_ rfl (by rfl) ?_ ?_
  rotate_left 1
  · intro w hSw; (try dsimp only at hSw); go_simp; (try with_reducible rfl)
  simp only [Act.put, List.setIfInBounds_toArray, List.set_cons_zero, List.set_cons_succ]
  refine flow_take ⟨some 101, _, _, _, _, _⟩ ?_ rfl (by rfl) ?_ ?_
  rotate_left 1
  · intro w hSw; (try dsimp only at hSw); go_simp; (try with_reducible rfl)
  simp only [Act.put, List.setIfInBounds_toArray, List.set_cons_zero, List.set_cons_succ]
  refine flow_take ⟨some 102, _, _, _, _, _⟩ ?_ rfl (by rfl) ?_ ?_
  rotate_left 1
  · intro w hSw; (try dsimp only at hSw); go_simp; (try with_reducible rfl)
  simp only [Act.put, List.setIfInBounds_toArray, List.set_cons_zero, List.set_cons_succ]
  refine flow_take ⟨some 103, _, _, _, _, _⟩ ?_ rfl (by rfl) ?_ ?_
  rotate_left 1
  · intro w hSw; (try dsimp only at hSw); go_simp; (try with_reducible rfl)
  simp only [Act.put, List.setIfInBounds_toArray, List.set_cons_zero, List.set_cons_succ]
  refine flow_take ⟨some 104, _, _, _, _, _⟩ ?_ rfl (by rfl) ?_ ?_
  rotate_left 1
  · intro w hSw; (try dsimp only at hSw); go_simp; (try with_reducible rfl)
  simp only [Act.put, List.setIfInBounds_toArray, List.set_cons_zero, List.set_cons_succ]
  refine flow_take ⟨some 105, _, _, _, _, _⟩ ?_ rfl (by rfl) ?_ ?_
  rotate_left 1
  · intro w hSw; (try dsimp only at hSw); go_simp; (try with_reducible rfl)
  simp only [Act.put, List.setIfInBounds_toArray, List.set_cons_zero, List.set_cons_succ]
  refine flow_take ⟨some 106, _, _, _, _, _⟩ ?_ rfl (by rfl) ?_ ?_
  rotate_left 1
  · intro w hSw; (try dsimp only at hSw); go_simp; (try with_reducible rfl)
  simp only [Act.put, List.setIfInBounds_toArray, List.set_cons_zero, List.set_cons_succ]
  refine flow_take ⟨some 107, _, _, _, _, _⟩ ?_ rfl (by rfl) ?_ ?_
  rotate_left 1
  · intro w hSw; (try dsimp only at hSw); go_simp; (try with_reducible rfl)
  simp only [Act.put, List.setIfInBounds_toArray, List.set_cons_zero, List.set_cons_succ]
  refine flow_take ⟨some 108, _, _, _, _, _⟩ ?_ rfl (by rfl) ?_ ?_
  rotate_left 1
  · intro w hSw; (try dsimp only at hSw); go_simp; (try with_reducible rfl)
  simp only [Act.put, List.setIfInBounds_toArray, List.set_cons_zero, List.set_cons_succ]
  refine flow_take ⟨some 109, _, _, _, _, _⟩ ?_ rfl (by rfl) ?_ ?_
  rotate_left 1
  · intro w hSw; (try dsimp only at hSw); go_simp; (try with_reducible rfl)
  simp only [Act.put, List.setIfInBounds_toArray, List.set_cons_zero, List.set_cons_succ]
  refine flow_take ⟨some 110, _, _, _, _, _⟩ ?_ rfl (by rfl) ?_ ?_
  rotate_left 1
  · intro w hSw; (try dsimp only at hSw); go_simp; (try with_reducible rfl)
  simp only [Act.put, List.setIfInBounds_toArray, List.set_cons_zero, List.set_cons_succ]
  refine flow_take ⟨some 111, _, _, _, _, _⟩ ?_ rfl (by rfl) ?_ ?_
  rotate_left 1
  · intro w hSw; (try dsimp only at hSw); go_simp; (try with_reducible rfl)
  simp only [Act.put, List.setIfInBounds_toArray, List.set_cons_zero, List.set_cons_succ]
  refine flow_take ⟨some 112, _, _, _, _, _⟩ ?_ rfl (by rfl) ?_ ?_
  rotate_left 1
  · intro w hSw; (try dsimp only at hSw); go_simp; (try with_reducible rfl)
  simp only [Act.put, List.setIfInBounds_toArray, List.set_cons_zero, List.set_cons_succ]
  refine flow_take ⟨some 113, _, _, _, _, _⟩ ?_ rfl (by rfl) ?_ ?_
  rotate_left 1
  · intro w hSw; (try dsimp only at hSw); go_simp; (try with_reducible rfl)
  simp only [Act.put, List.setIfInBounds_toArray, List.set_cons_zero, List.set_cons_succ]
  refine flow_take ⟨some 114, _, _, _, _, _⟩ ?_ rfl (by rfl) ?_ ?_
  rotate_left 1
  · intro w hSw; (try dsimp only at hSw); go_simp; (try with_reducible rfl)
  simp only [Act.put, List.setIfInBounds_toArray, List.set_cons_zero, List.set_cons_succ]
  refine flow_take ⟨some 115, _, _, _, _, _⟩ ?_ rfl (by rfl) ?_ ?_
  rotate_left 1
  · intro w hSw; (try dsimp only at hSw); go_simp; (try with_reducible rfl)
  simp only [Act.put, List.setIfInBounds_toArray, List.set_cons_zero, List.set_cons_succ]
  refine flow_take ⟨some 116, _, _, _, _, _⟩ ?_ rfl (by rfl) ?_ ?_
  rotate_left 1
  · intro w hSw; (try dsimp only at hSw); go_simp; (try with_reducible rfl)
  simp only [Act.put, List.setIfInBounds_toArray, List.set_cons_zero, List.set_cons_succ]
  refine flow_take ⟨some 117, _, _, _, _, _⟩ ?_ rfl (by rfl) ?_ ?_
  rotate_left 1
  · intro w hSw; (try dsimp only at hSw); go_simp; (try with_reducible rfl)
  simp only [Act.put, List.setIfInBounds_toArray, List.set_cons_zero, List.set_cons_succ]
  refine flow_take ⟨some 118, _, _, _, _, _⟩ ?_ rfl (by rfl) ?_ ?_
  rotate_left 1
  · intro w hSw; (try dsimp only at hSw); go_simp; (try with_reducible rfl)
  simp only [Act.put, List.setIfInBounds_toArray, List.set_cons_zero, List.set_cons_succ]
  refine flow_take ⟨some 119, _, _, _, _, _⟩ ?_ rfl (by rfl) ?_ ?_
  rotate_left 1
  · intro w hSw; (try dsimp only at hSw); go_simp; (try with_reducible rfl)
  simp only [Act.put, List.setIfInBounds_toArray, List.set_cons_zero, List.set_cons_succ]
  refine flow_take ⟨some 120, _, _, _, _, _⟩ ?_ rfl (by rfl) ?_ ?_
  rotate_left 1
  · intro w hSw; (try dsimp only at hSw); go_simp; (try with_reducible rfl)
  simp only [Act.put, List.setIfInBounds_toArray, List.set_cons_zero, List.set_cons_succ]
  refine flow_take ⟨some 121, _, _, _, _, _⟩ ?_ rfl (by rfl) ?_ ?_
  rotate_left 1
  · intro w hSw; (try dsimp only at hSw); go_simp; (try with_reducible rfl)
  simp only [Act.put, List.setIfInBounds_toArray, List.set_cons_zero, List.set_cons_succ]
  refine flow_take ⟨some 122, _, _, _, _, _⟩ ?_ rfl (by rfl) ?_ ?_
  rotate_left 1
  · intro w hSw; (try dsimp only at hSw); go_simp; (try with_reducible rfl)
  simp only [Act.put, List.setIfInBounds_toArray, List.set_cons_zero, List.set_cons_succ]
  refine flow_take ⟨some 123, _, _, _, _, _⟩ ?_ rfl (by rfl) ?_ ?_
  rotate_left 1
  · intro w hSw; (try dsimp only at hSw); go_simp; (try with_reducible rfl)
  simp only [Act.put, List.setIfInBounds_toArray, List.set_cons_zero, List.set_cons_succ]
  refine flow_take ⟨some 124, _, _, _, _, _⟩ ?_ rfl (by rfl) ?_ ?_
  rotate_left 1
  · intro w hSw; (try dsimp only at hSw); go_simp; (try with_reducible rfl)
  simp only [Act.put, List.setIfInBounds_toArray, List.set_cons_zero, List.set_cons_succ]
  refine flow_take ⟨some 125, _, _, _, _, _⟩ ?_ rfl (by rfl) ?_ ?_
  rotate_left 1
  · intro w hSw; (try dsimp only at hSw); go_simp; (try with_reducible rfl)
  simp only [Act.put, List.setIfInBounds_toArray, List.set_cons_zero, List.set_cons_succ]
  refine flow_take ⟨some 126, _, _, _, _, _⟩ ?_ rfl (by rfl) ?_ ?_
  rotate_left 1
  · intro w hSw; (try dsimp only at hSw); go_simp; (try with_reducible rfl)
  simp only [Act.put, List.setIfInBounds_toArray, List.set_cons_zero, List.set_cons_succ]
  refine flow_take ⟨some 127, _, _, _, _, _⟩ ?_ rfl (by rfl) ?_ ?_
  rotate_left 1
  · intro w hSw; (try dsimp only at hSw); go_simp; (try with_reducible rfl)
  simp only [Act.put, List.setIfInBounds_toArray, List.set_cons_zero, List.set_cons_succ]
  refine flow_take ⟨some 128, _, _, _, _, _⟩ ?_ rfl (by rfl) ?_ ?_
  rotate_left 1
  · intro w hSw; (try dsimp only at hSw); go_simp; (try with_reducible rfl)
  simp only [Act.put, List.setIfInBounds_toArray, List.set_cons_zero, List.set_cons_succ]
  refine flow_take ⟨some 129, _, _, _, _, _⟩ ?_ rfl (by rfl) ?_ ?_
  rotate_left 1
  · intro w hSw; (try dsimp only at hSw); go_simp; (try with_reducible rfl)
  simp only [Act.put, List.setIfInBounds_toArray, List.set_cons_zero, List.set_cons_succ]
  refine flow_take ⟨some 130, _, _, _, _, _⟩ ?_ rfl (by rfl) ?_ ?_
  rotate_left 1
  · intro w hSw; (try dsimp only at hSw); go_simp; (try with_reducible rfl)
  simp only [Act.put, List.setIfInBounds_toArray, List.set_cons_zero, List.set_cons_succ]
  refine flow_take ⟨some 131, _, _, _, _, _⟩ ?_ rfl (by rfl) ?_ ?_
  rotate_left 1
  · intro w hSw; (try dsimp only at hSw); go_simp; (try with_reducible rfl)
  simp only [Act.put, List.setIfInBounds_toArray, List.set_cons_zero, List.set_cons_succ]
  refine flow_take ⟨some 132, _, _, _, _, _⟩ ?_ rfl (by rfl) ?_ ?_
  rotate_left 1
  · intro w hSw; (try dsimp only at hSw); go_simp; (try with_reducible rfl)
  simp only [Act.put, List.setIfInBounds_toArray, List.set_cons_zero, List.set_cons_succ]
  refine flow_take ⟨some 133, _, _, _, _, _⟩ ?_ rfl (by rfl) ?_ ?_
  rotate_left 1
  · intro w hSw; (try dsimp only at hSw); go_simp; (try with_reducible rfl)
  simp only [Act.put, List.setIfInBounds_toArray, List.set_cons_zero, List.set_cons_succ]
  refine flow_take ⟨some 134, _, _, _, _, _⟩ ?_ rfl (by rfl) ?_ ?_
  rotate_left 1
  · intro w hSw; (try dsimp only at hSw); go_simp; (try with_reducible rfl)
  simp only [Act.put, List.setIfInBounds_toArray, List.set_cons_zero, List.set_cons_succ]
  refine flow_take ⟨some 135, _, _, _, _, _⟩ ?_ rfl (by rfl) ?_ ?_
  rotate_left 1
  · intro w hSw; (try dsimp only at hSw); go_simp; (try with_reducible rfl)
  simp only [Act.put, List.setIfInBounds_toArray, List.set_cons_zero, List.set_cons_succ]
  refine flow_take ⟨some 136, _, _, _, _, _⟩ ?_ rfl (by rfl) ?_ ?_
  rotate_left 1
  · intro w hSw; (try dsimp only at hSw); go_simp; (try with_reducible rfl)
  simp only [Act.put, List.setIfInBounds_toArray, List.set_cons_zero, List.set_cons_succ]
  refine flow_take ⟨some 137, _, _, _, _, _⟩ ?_ rfl (by rfl) ?_ ?_
  rotate_left 1
  · intro w hSw; (try dsimp only at hSw); go_simp; (try with_reducible rfl)
  simp only [Act.put, List.setIfInBounds_toArray, List.set_cons_zero, List.set_cons_succ]
  refine flow_take ⟨some 138, _, _, _, _, _⟩ ?_ rfl (by rfl) ?_ ?_
  rotate_left 1
  · intro w hSw; (try dsimp only at hSw); go_simp; (try with_reducible rfl)
  simp only [Act.put, List.setIfInBounds_toArray, List.set_cons_zero, List.set_cons_succ]
  refine flow_take ⟨some 139, _, _, _, _, _⟩ ?_ rfl (by rfl) ?_ ?_
  rotate_left 1
  · intro w hSw; (try dsimp only at hSw); go_simp; (try with_reducible rfl)
  simp only [Act.put, List.setIfInBounds_toArray, List.set_cons_zero, List.set_cons_succ]
  refine flow_take ⟨some 140, _, _, _, _, _⟩ ?_ rfl (by rfl) ?_ ?_
  rotate_left 1
  · intro w hSw; (try dsimp only at hSw); go_simp; (try with_reducible rfl)
  simp only [Act.put, List.setIfInBounds_toArray, List.set_cons_zero, List.set_cons_succ]
  refine flow_take ⟨some 141, _, _, _, _, _⟩ ?_ rfl (by rfl) ?_ ?_
  rotate_left 1
  · intro w hSw; (try dsimp only at hSw); go_simp; (try with_reducible rfl)
  simp only [Act.put, List.setIfInBounds_toArray, List.set_cons_zero, List.set_cons_succ]
  refine flow_take ⟨some 142, _, _, _, _, _⟩ ?_ rfl (by rfl) ?_ ?_
  rotate_left 1
  · intro w hSw; (try dsimp only at hSw); go_simp; (try with_reducible rfl)
  simp only [Act.put, List.setIfInBounds_toArray, List.set_cons_zero, List.set_cons_succ]
  (first | (refine flow_call ⟨some 143, _, _, _, _, _⟩ rfl (by rfl) 11 _ _ (by rfl) _ (by rfl) Tryz.call11 (C1.out _ hS.1) ?_; rintro x wn ⟨rfl, hb⟩; replace hS := KP _ _ hS hb; refine ⟨_, rfl, hS, ?_⟩; (try clear hb)) | (refine flow_call ⟨some 143, _, _, _, _, _⟩ rfl (by rfl) 11 _ _ (by rfl) _ (by rfl) Tryz.call11 (C2.out _ hS.1) ?_; rintro x wn ⟨rfl, hb⟩; replace hS := KP _ _ hS hb; refine ⟨_, rfl, hS, ?_⟩; (try clear hb)))
  simp only [Act.put, List.setIfInBounds_toArray, List.set_cons_zero, List.set_cons_succ]
  refine flow_take ⟨some 144, _, _, _, _, _⟩ ?_ rfl (by rfl) ?_ ?_
  rotate_left 1
  · intro w hSw; (try dsimp only at hSw); go_simp; (try with_reducible rfl)
  simp only [Act.put, List.setIfInBounds_toArray, List.set_cons_zero, List.set_cons_succ]
  refine flow_take ⟨some 145, _, _, _, _, _⟩ ?_ rfl (by rfl) ?_ ?_
  rotate_left 1
  · intro w hSw; (try dsimp only at hSw); go_simp; (try with_reducible rfl)
  simp only [Act.put, List.setIfInBounds_toArray, List.set_cons_zero, List.set_cons_succ]
  refine flow_take ⟨some 146, _, _, _, _, _⟩ ?_ rfl (by rfl) ?_ ?_
  rotate_left 1
  · intro w hSw; (try dsimp only at hSw); go_simp; (try with_reducible rfl)
  simp only [Act.put, List.setIfInBounds_toArray, List.set_cons_zero, List.set_cons_succ]
  refine flow_take ⟨some 147, _, _, _, _, _⟩ ?_ rfl (by rfl) ?_ ?_
  rotate_left 1
  · intro w hSw; (try dsimp only at hSw); go_simp; (try with_reducible rfl)
  simp only [Act.put, List.setIfInBounds_toArray, List.set_cons_zero, List.set_cons_succ]
  refine flow_take ⟨some 148, _, _, _, _, _⟩ ?_ rfl (by rfl) ?_ ?_
  rotate_left 1
  · intro w hSw; (try dsimp only at hSw); go_simp; (try with_reducible rfl)
  simp only [Act.put, List.setIfInBounds_toArray, List.set_cons_zero, List.set_cons_succ]
  refine flow_take ⟨some 149, _, _, _, _, _⟩ ?_ rfl (by rfl) ?_ ?_
  rotate_left 1
  · intro w hSw; (try dsimp only at hSw); go_simp; (try with_reducible rfl)
  simp only [Act.put, List.setIfInBounds_toArray, List.set_cons_zero, List.set_cons_succ]
  refine flow_take ⟨some 150, _, _, _, _, _⟩ ?_ rfl (by rfl) ?_ ?_
  rotate_left 1
  · intro w hSw; (try dsimp only at hSw); go_simp; (try with_reducible rfl)
  simp only [Act.put, List.setIfInBounds_toArray, List.set_cons_zero, List.set_cons_succ]
  refine flow_take ⟨some 151, _, _, _, _, _⟩ ?_ rfl (by rfl) ?_ ?_
  rotate_left 1
  · intro w hSw; (try dsimp only at hSw); go_simp; (try with_reducible rfl)
  simp only [Act.put, List.setIfInBounds_toArray, List.set_cons_zero, List.set_cons_succ]
  refine flow_take ⟨some 152, _, _, _, _, _⟩ ?_ rfl (by rfl) ?_ ?_
  rotate_left 1
  · intro w hSw; (try dsimp only at hSw); go_simp; (try with_reducible rfl)
  simp only [Act.put, List.setIfInBounds_toArray, List.set_cons_zero, List.set_cons_succ]
  refine flow_take ⟨some 153, _, _, _, _, _⟩ ?_ rfl (by rfl) ?_ ?_
  rotate_left 1
  · intro w hSw; (try dsimp only at hSw); go_simp; (try with_reducible rfl)
  simp only [Act.put, List.setIfInBounds_toArray, List.set_cons_zero, List.set_cons_succ]
  refine flow_take ⟨some 154, _, _, _, _, _⟩ ?_ rfl (by rfl) ?_ ?_
  rotate_left 1
  · intro w hSw; (try dsimp only at hSw); go_simp; (try with_reducible rfl)
  simp only [Act.put, List.setIfInBounds_toArray, List.set_cons_zero, List.set_cons_succ]
  refine flow_take ⟨some 155, _, _, _, _, _⟩ ?_ rfl (by rfl) ?_ ?_
  rotate_left 1
  · intro w hSw; (try dsimp only at hSw); go_simp; (try with_reducible rfl)
  simp only [Act.put, List.setIfInBounds_toArray, List.set_cons_zero, List.set_cons_succ]
  refine flow_take ⟨some 156, _, _, _, _, _⟩ ?_ rfl (by rfl) ?_ ?_
  rotate_left 1
  · intro w hSw; (try dsimp only at hSw); go_simp; (try with_reducible rfl)
  simp only [Act.put, List.setIfInBounds_toArray, List.set_cons_zero, List.set_cons_succ]
  refine flow_take ⟨some 157, _, _, _, _, _⟩ ?_ rfl (by rfl) ?_ ?_
  rotate_left 1
  · intro w hSw; (try dsimp only at hSw); go_simp; (try with_reducible rfl)
  simp only [Act.put, List.setIfInBounds_toArray, List.set_cons_zero, List.set_cons_succ]
  refine flow_take ⟨some 158, _, _, _, _, _⟩ ?_ rfl (by rfl) ?_ ?_
  rotate_left 1
  · intro w hSw; (try dsimp only at hSw); go_simp; (try with_reducible rfl)
  simp only [Act.put, List.setIfInBounds_toArray, List.set_cons_zero, List.set_cons_succ]
  refine flow_take ⟨some 159, _, _, _, _, _⟩ ?_ rfl (by rfl) ?_ ?_
  rotate_left 1
  · intro w hSw; (try dsimp only at hSw); go_simp; (try with_reducible rfl)
  simp only [Act.put, List.setIfInBounds_toArray, List.set_cons_zero, List.set_cons_succ]
  (first | (refine flow_call ⟨some 160, _, _, _, _, _⟩ rfl (by rfl) 11 _ _ (by rfl) _ (by rfl) Tryz.call11 (C1.out _ hS.1) ?_; rintro x wn ⟨rfl, hb⟩; replace hS := KP _ _ hS hb; refine ⟨_, rfl, hS, ?_⟩; (try clear hb)) | (refine flow_call ⟨some 160, _, _, _, _, _⟩ rfl (by rfl) 11 _ _ (by rfl) _ (by rfl) Tryz.call11 (C2.out _ hS.1) ?_; rintro x wn ⟨rfl, hb⟩; replace hS := KP _ _ hS hb; refine ⟨_, rfl, hS, ?_⟩; (try clear hb)))
  simp only [Act.put, List.setIfInBounds_toArray, List.set_cons_zero, List.set_cons_succ]
  refine flow_take ⟨some 161, _, _, _, _, _⟩ ?_ rfl (by rfl) ?_ ?_
  rotate_left 1
  · intro w hSw; (try dsimp only at hSw); go_simp; (try with_reducible rfl)
  simp only [Act.put, List.setIfInBounds_toArray, List.set_cons_zero, List.set_cons_succ]
  simp only [wpFlow, OnlyN]
  exact HQ.out _ _ _ _ _ _ _ _ _ _ _ _ _ _ _ _ _ _ _ _ _ _ _ _ _ _ _ _ _ _ _ _ _ _ _ _ _ _ _ _ _ _ _ _ _ _ _ _ _ _ _ _ _ _ _ _ _ _ _ _ _ _ _ _ _ _ _ hS.1

set_option maxHeartbeats 8000000 in
set_option maxRecDepth 100000 in
theorem circles_law (A0 A1 A2 : Option Addr) (n0 n1 n2 c0 c1 c2 : Nat) (m : Int) (w : World) (h0 : IntsIn w.heap.size A0 n0 w) (h1 : IntsIn w.heap.size A1 n1 w) (h2 : IntssIn w.heap.size A2 n2 w) (hc : n2 ≤ c2) (hm0 : 0 ≤ m) (hm1 : m ≤ 255) :
    Calls Tryz.prog 5 #[.agg #[.slice A0 n0 c0, .slice A1 n1 c1, .slice A2 n2 c2, .int .u8 m]] w fun e w' => e = .returned (.bool true) ∧ RowKit.Below w.heap.size w w' := by
  have hb0 := below_alloc1 w (.cells #[.slice A0 n0 c0, .slice A1 n1 c1, .slice A2 n2 c2, .int .u8 m] 25)
  have hx0 := heap_alloc_new w (.cells #[.slice A0 n0 c0, .slice A1 n1 c1, .slice A2 n2 c2, .int .u8 m] 25)
  have H0 := Lib.hid h0
  have H1 := Lib.hid h1
  have H2 := Lib.hid h2
  clear h0 h1 h2
  go_enter Tryz.func5, Tryz.ntmps5
  go_wp2_with fail
  generalize w.alloc _ = W at hb0 hx0 ⊢
  refine (sw_sanity_any W).mono ?_
  rintro _ w1 ⟨rfl, hb1⟩
  have hx1 := (hb1.block _ (lt_of_heap hx0)).trans hx0
  have HB1 := Lib.hid (below_next hb0 hb1)
  have hcb : ∀ j, w1.cell? ⟨w.heap.size, j, none⟩ = (#[.slice A0 n0 c0, .slice A1 n1 c1, .slice A2 n2 c2, .int .u8 m] : Array Value)[j]? := fun j => Lib.cell_of_heap hx1 j
  clear hb0 hb1 hx0 hx1
  go_wp2_with fail
  refine (sw_case_any A0 A1 A2 n0 n1 n2 c0 c1 c2 m w1 (ints_at H0.out HB1.out) (ints_at H1.out HB1.out) (intss_at H2.out HB1.out) hc hm0 hm1).mono ?_
  rintro _ w2 ⟨ov, mv, lv, dv, L, M, most, l, d, rfl, hS, hb2⟩
  have HD0 := Lib.hid hS.deal
  obtain ⟨pd, cd, qd, ed, rfl, _, _⟩ := hS.deal.val
  have hb3 := below_alloc1 w2 (.cells #[.slice pd d.seats.length cd, .slice qd d.waits.length ed] 31)
  have hx8 := heap_alloc_new w2 (.cells #[.slice pd d.seats.length cd, .slice qd d.waits.length ed] 31)
  have HS3 := Lib.hid (hS.below hb3)
  have HB3 := Lib.hid (below_next (below_next HB1.out hb2) hb3)
  have hls : d.seats.length ≤ 10 := hS.ls
  have hlw : d.waits.length ≤ 10 := hS.lw
  have hll : l.length ≤ 10 := hS.made.lr
  have HFI : Hid (∀ r ∈ l, r.fits) := Lib.hid fun r hr => (hS.made.small r hr).fits
  have HRW : Hid (∀ r ∈ l, (seatOf r).wf) := Lib.hid fun r hr => by
    have h := (hS.made.small r hr).wf
    exact ⟨h.2.2.1, h.2.2.2.2.1⟩
  clear hS hb2 hb3 hcb H0 H1 H2 HB1 HD0 hc hm0 hm1
  go_upto_region 3 with fail
  obtain ⟨b8, hb8⟩ : ∃ b, w2.heap.size = b := ⟨_, rfl⟩
  rw [hb8] at hx8 ⊢
  generalize w2.alloc _ = w3 at HS3 HB3 hx8 ⊢
  clear hb8
  have hc8 : ∀ j, w3.cell? ⟨b8, j, none⟩ = (#[.slice pd d.seats.length cd, .slice qd d.waits.length ed] : Array Value)[j]? := fun j => Lib.cell_of_heap hx8 j
  go_wp2_with fail
  refine (circle_any ov mv lv L M most l d _ w3 HS3.out.made.cat HS3.out.made.req (by omega) HFI.out HS3.out.deal HS3.out.wf).mono ?_
  rintro _ w4 ⟨hb4, ⟨_, rfl⟩ | ⟨c, pv, cv, hcir, rfl, hrc⟩⟩
  · have hbF := below_next HB3.out hb4
    clear hc8
    go_wp2_with fail
    go_ret
    exact ⟨ret_bool rfl, hbF⟩
  have HCI := Lib.hid hcir
  have hB := (circle_ok hcir).1
  have hlc2 : 2 ≤ c.length := (isB_iff.1 hB).1
  have hlc4 : c.length ≤ 4 := (isB_iff.1 hB).2.1
  have HRC := Lib.hid hrc
  have hc84 : ∀ j, w4.cell? ⟨b8, j, none⟩ = (#[.slice pd d.seats.length cd, .slice qd d.waits.length ed] : Array Value)[j]? := fun j => Lib.cell_of_heap ((hb4.block _ (lt_of_heap hx8)).trans hx8) j
  have ctu := turn_ok (D := turnP l d c) (HS3.out.deal.below hb4) (HS3.out.made.req.below hb4) (by omega) HFI.out hrc rfl (by omega) hB rfl
  obtain ⟨D, hD⟩ : ∃ D, turnP l d c = D := ⟨_, rfl⟩
  have HDE := Lib.hid hD
  have HWL : Hid (D.waits.length + c.length = d.waits.length) := Lib.hid (by
    have := turn_waits_len _ _ (circle_ring hcir)
    rw [List.length_map] at this
    rw [← hD]; exact this)
  have HSL : Hid (D.seats.length = d.seats.length) := Lib.hid (by rw [← hD]; exact turn_len _ _)
  rw [hD] at ctu
  clear hcir hB hrc hD hc8
  go_wp2_with fail
  refine ctu.mono ?_
  rintro _ w5 ⟨p8, e8, q8, f8, rfl, hd8, hb5⟩
  have hb6 := below_alloc1 w5 (.cells #[.slice p8 D.seats.length e8, .slice q8 D.waits.length f8] 31)
  have hx11 := heap_alloc_new w5 (.cells #[.slice p8 D.seats.length e8, .slice q8 D.waits.length f8] 31)
  have hbb := below_next (below_next hb4 hb5) hb6
  have HD8 := Lib.hid (hd8.below hb6)
  have HS6 := Lib.hid (HS3.out.below hbb)
  have HB6 := Lib.hid (below_next HB3.out hbb)
  have HRC6 := Lib.hid ((HRC.out.below hb5).below hb6)
  have hx86 := (hbb.block _ (lt_of_heap hx8)).trans hx8
  clear hb4 hb5 hb6 hd8 hbb hc84 ctu HS3 HB3 HRC hx8
  go_upto_region 7 with fail
  obtain ⟨b11, hb11⟩ : ∃ b, w5.heap.size = b := ⟨_, rfl⟩
  rw [hb11] at hx11 ⊢
  generalize w5.alloc _ = w6 at HD8 HS6 HB6 HRC6 hx86 hx11 ⊢
  clear hb11
  have hc8 : ∀ j, w6.cell? ⟨b8, j, none⟩ = (#[.slice pd d.seats.length cd, .slice qd d.waits.length ed] : Array Value)[j]? := fun j => Lib.cell_of_heap hx86 j
  have hc11 : ∀ j, w6.cell? ⟨b11, j, none⟩ = (#[.slice p8 D.seats.length e8, .slice q8 D.waits.length f8] : Array Value)[j]? := fun j => Lib.cell_of_heap hx11 j
  have g1 : decide ((c.length : Int) < 2) = false := decide_eq_false (by omega)
  have g2 : decide ((4 : Int) < (c.length : Int)) = false := decide_eq_false (by omega)
  have g3 : IntKind.i64.wrap ((d.waits.length : Int) - (c.length : Int)) = (D.waits.length : Int) := by rw [IntWalk.i64_in _ (by omega)]; have := HWL.out; omega
  have g1b : decide (c.length < 2) = false := decide_eq_false (by omega)
  have g2b : decide (4 < c.length) = false := decide_eq_false (by omega)
  have g4 : ((D.waits.length : Int) != (D.waits.length : Int)) = false := by simp
  go_upto_region 9 with fail
  clear g1 g2 g3 g4 g1b g2b hc8 hc11
  obtain ⟨pl, cl, rfl, _⟩ := HS6.out.made.req.form
  go_wp2_with fail
  go_loopw [13] (fun i wr => ∃ k : Nat, k ≤ c.length ∧ i = .int .i64 k ∧ RowKit.Below w6.heap.size w6 wr) (fun i _ => c.length - (RowKit.intOf i).toNat)
  case atStart => exact ⟨0, Nat.zero_le _, rfl, Below.refl _ _⟩
  case round =>
    obtain ⟨k, hk, rfl, hbr⟩ := hrel
    by_cases hlt : k < c.length
    · obtain ⟨gc, oc, rfl, hgc, hcat⟩ := nats_at HRC6.out rfl (by omega)
      obtain ⟨gr, gof, cr, hv, _, hgr, hx⟩ := HS6.out.made.req.at_ (by have h1 := isB_lt (circle_ok HCI.out).1 (List.getElem_mem hlt); have := (mem_canP.1 h1).1; omega)
      have e1 := (Value.slice.inj hv).1
      subst e1
      obtain ⟨j, hj⟩ : ∃ j, (k + 1) % c.length = j := ⟨_, rfl⟩
      have hjl : j < c.length := by rw [← hj]; exact Nat.mod_lt _ (by omega)
      have hgd : ∀ q, q < c.length → c[q]? = some (c.getD q 0) := fun q hq => by rw [List.getD_eq_getElem?_getD, List.getElem?_eq_getElem hq]; rfl
      have hcn : ∀ q, q < c.length → c.getD q 0 < l.length ∧ CanR (actS l) d (atR l (c.getD q 0)) := fun q hq => mem_canP.1 (isB_lt (circle_ok HCI.out).1 (List.mem_of_getElem? (hgd q hq)))
      have hat := isB_at (circle_ok HCI.out).1 hlt
      rw [hj] at hat
      have hring := circle_ring HCI.out
      have hmem : atR l (c.getD k 0) ∈ c.map (atR l) := List.mem_map.2 ⟨_, List.mem_of_getElem? (hgd k hlt), rfl⟩
      have HIN : Hid (seatOf (atR l (c.getD k 0)) ∈ D.seats) := Lib.hid (by rw [← HDE.out]; exact turn_gets _ _ hring _ hmem)
      have HOUT : Hid (giveOf (atR l (c.getD k 0)) ∉ D.seats) := Lib.hid (by rw [← HDE.out]; exact turn_gives _ _ hring HS6.out.nd _ hmem)
      have hn := (hcn k hlt).1
      have hnx := (hcn j hjl).1
      have y0 : wr.cell? ⟨gc, oc, none⟩ = some (.int .i64 (c.getD 0 0)) := (hbr.cell (p := ⟨gc, oc, none⟩) hgc).trans (hcat 0 _ (hgd 0 (by omega)))
      have yk : wr.cell? ⟨gc, oc + k, none⟩ = some (.int .i64 (c.getD k 0)) := (hbr.cell (p := ⟨gc, oc + k, none⟩) hgc).trans (hcat k _ (hgd k hlt))
      have yj : wr.cell? ⟨gc, oc + j, none⟩ = some (.int .i64 (c.getD j 0)) := (hbr.cell (p := ⟨gc, oc + j, none⟩) hgc).trans (hcat j _ (hgd j hjl))
      have hgl : ∀ q, q < l.length → l[q]? = some (atR l q) := fun q hq => by rw [List.getElem?_eq_getElem hq, atR_get (List.getElem?_eq_getElem hq)]
      have hrc : ∀ q, q < l.length → ∀ i u, (atR l q).cells.toList[i]? = some u → wr.cell? ⟨gr, gof + q * 9 + i, none⟩ = some u := fun q hq i u hu => (hbr.cell (p := ⟨gr, gof + q * 9 + i, none⟩) hgr).trans (hx q _ (hgl q hq) i u hu)
      generalize c.getD 0 0 = f0 at hat y0
      generalize c.getD k 0 = n at hat yk hn HIN HOUT
      generalize c.getD j 0 = nx at hat yj hnx
      have c3 : wr.cell? ⟨gr, gof + n * 9 + 3, none⟩ = some (.int .i64 (atR l n).student) := hrc n hn 3 _ rfl
      have c5 : wr.cell? ⟨gr, gof + n * 9 + 5, none⟩ = some (.string (atR l n).code) := hrc n hn 5 _ rfl
      have c6 : wr.cell? ⟨gr, gof + n * 9 + 6, none⟩ = some (.string (atR l n).give) := hrc n hn 6 _ rfl
      have cx : wr.cell? ⟨gr, gof + nx * 9 + 6, none⟩ = some (.string (atR l n).code) := by rw [hat.2]; exact hrc nx hnx 6 _ rfl
      obtain ⟨hf, _⟩ := hat
      have hm1 : ((k : Int) + 1).tmod (c.length : Int) = (j : Int) := by
        rw [Int.tmod_eq_emod_of_nonneg (by omega), ← hj]; norm_cast
      have hm2 : ((k : Int) + 1) % (c.length : Int) = (j : Int) := by rw [← hj]; norm_cast
      have hji : (j : Int) < (c.length : Int) := by omega
      have hki : (k : Int) < (c.length : Int) := by omega
      have hc0 : ¬ (c.length : Int) = 0 := by omega
      have H3 := Lib.hid c3
      have H5 := Lib.hid c5
      have H6 := Lib.hid c6
      have HX := Lib.hid cx
      have HY0 := Lib.hid y0
      clear hv hx hcat hgd hcn hring hmem hgl hrc c3 c5 c6 cx y0
      go_wp2_with fail
      refine sc_r14 b11 gr gof gc oc n nx f0 l.length cl c.length cv e8 p8 D (atR l n) wr _ ⟨Nat.lt_of_lt_of_le hgc hbr.size, HY0.out⟩ (Nat.lt_of_lt_of_le hgr hbr.size) H3.out H5.out H6.out HX.out ⟨lt_of_heap ((hbr.block _ (lt_of_heap hx11)).trans hx11), Lib.cell_of_heap ((hbr.block _ (lt_of_heap hx11)).trans hx11) 0⟩ ((dealIn_rows HD8.out).1.below hbr) (by have := HSL.out; omega) hf hn hnx (by omega) HIN.out HOUT.out ?_
      intros
      rename_i wx hwx
      have hbx := below_next hbr hwx
      clear yk yj hf hm1 hm2 hji hki hc0 hn hnx hj hjl
      go_wp2_with fail
      go_roundw
      case rel => exact ⟨k + 1, by omega, by go_num, hbx⟩
      case measure => simp [RowKit.intOf]; omega
    · have hlt' : decide ((k : Int) < (c.length : Int)) = false := decide_eq_false (by omega)
      have hl0 : 0 < l.length := by
        have h0 : c.getD 0 0 ∈ c := by rw [List.getD_eq_getElem?_getD, List.getElem?_eq_getElem (show 0 < c.length by omega)]; exact List.getElem_mem _
        have := (mem_canP.1 (isB_lt (circle_ok HCI.out).1 h0)).1
        omega
      go_upto_region 16 with fail
      clear hlt' hlt hk
      go_wp2_with fail
      go_loopw [16] (fun i wr => ∃ a : Nat, a ≤ l.length ∧ i = .int .i64 a ∧ RowKit.Below w6.heap.size w6 wr) (fun i _ => l.length - (RowKit.intOf i).toNat)
      case atStart => exact ⟨0, Nat.zero_le _, rfl, hbr⟩
      case round =>
        clear hbr
        obtain ⟨a, ha, rfl, hbr⟩ := hrel
        by_cases hal : a < l.length
        · have i1 : decide ((a : Int) < (l.length : Int)) = true := decide_eq_true (by omega)
          by_cases h2 : 2 < c.length
          · have i2 : decide ((2 : Int) < (c.length : Int)) = true := decide_eq_true (by omega)
            have i2b : decide (2 < c.length) = true := decide_eq_true h2
            go_upto_region 19 with fail
            clear i1 i2 i2b
            have ha1 : a + 1 ≤ 10 := by omega
            go_wp2_with fail
            go_loopw [17] (fun i wr => ∃ b : Nat, b ≤ l.length ∧ i = .int .i64 b ∧ RowKit.Below w6.heap.size w6 wr) (fun i _ => l.length - (RowKit.intOf i).toNat)
            case atStart => exact ⟨a + 1, by omega, by go_num, hbr⟩
            case round =>
              clear hbr
              obtain ⟨b, hb, rfl, hbr⟩ := hrel
              by_cases hbl : b < l.length
              · have hc8 : ∀ j, wr.cell? ⟨b8, j, none⟩ = (#[.slice pd d.seats.length cd, .slice qd d.waits.length ed] : Array Value)[j]? := fun j => Lib.cell_of_heap ((hbr.block _ (lt_of_heap hx86)).trans hx86) j
                have hrow := rowIn_lit (enc := encN) (e := 3) wr [a, b] #[.int .i64 a, .int .i64 b] wr.heap.size rfl rfl 2 rfl
                have hb1 := below_alloc1 wr (.cells #[.int .i64 a, .int .i64 b] 3)
                have hbr1 := below_next hbr hb1
                have hc81 : ∀ j, (wr.alloc (.cells #[.int .i64 a, .int .i64 b] 3)).cell? ⟨b8, j, none⟩ = (#[.slice pd d.seats.length cd, .slice qd d.waits.length ed] : Array Value)[j]? := fun j => Lib.cell_of_heap ((hbr1.block _ (lt_of_heap hx86)).trans hx86) j
                by_cases hB : isB l (canP (actS l) d l) [a, b] = true
                · have ct := turn_ok (D := turnP l d [a, b]) (HS6.out.deal.below hbr1) (HS6.out.made.req.below hbr1) (by omega) HFI.out hrow rfl (by simp) hB rfl
                  have HSH := Lib.hid (circle_short HCI.out h2 hB)
                  have HW2 : Hid (∀ x ∈ (turnP l d [a, b]).seats, x.wf) := Lib.hid (ring_wf (A := []) _ _ (fun r hr => by
                    obtain ⟨n, hn, rfl⟩ := List.mem_map.1 hr
                    exact HRW.out _ (atR_mem (mem_canP.1 (isB_lt hB hn)).1)) HS6.out.wf)
                  generalize turnP l d [a, b] = D2 at ct HSH HW2
                  clear hB hrow hb1
                  go_wp2_with fail
                  refine ct.mono ?_
                  rintro _ wt ⟨p9, e9, q9, f9, rfl, hd9, hbt⟩
                  have hbt2 := below_alloc1 wt (.cells #[.slice p9 D2.seats.length e9, .slice q9 D2.waits.length f9] 31)
                  have hbr3 := below_next (below_next hbr1 hbt) hbt2
                  have hxt := heap_alloc_new wt (.cells #[.slice p9 D2.seats.length e9, .slice q9 D2.waits.length f9] 31)
                  have HD9 := Lib.hid (hd9.below hbt2)
                  have hls9 := hd9.ls
                  clear ct hc8 hc81 hbr1 hbr hd9 hbt hbt2
                  go_upto_region 23 with fail
                  obtain ⟨b18, hb18⟩ : ∃ b, wt.heap.size = b := ⟨_, rfl⟩
                  rw [hb18] at hxt ⊢
                  generalize wt.alloc _ = wu at hxt hbr3 HD9 ⊢
                  clear hb18
                  have hc18 : ∀ j, wu.cell? ⟨b18, j, none⟩ = (#[.slice p9 D2.seats.length e9, .slice q9 D2.waits.length f9] : Array Value)[j]? := fun j => Lib.cell_of_heap hxt j
                  have hck := check_any ov mv (.slice p9 D2.seats.length e9) (.slice q9 D2.waits.length f9) L M most D2.seats D2.waits wu (HS6.out.made.cat.below hbr3) (dealIn_rows HD9.out).1 (dealIn_rows HD9.out).2 hls9 HW2.out
                  have hne : ¬ checkP L M most D2.seats D2.seats.length = 0 := fun h => HSH.out (checkP_ok.1 h)
                  generalize checkP L M most D2.seats D2.seats.length = e at hck hne
                  have hne2 : (e == 0) = false := by simpa using hne
                  clear hne hls9
                  go_wp2_with fail
                  refine hck.mono ?_
                  rintro _ wv ⟨rfl, hbv⟩
                  have hbF := below_next hbr3 hbv
                  clear hck hc18 hxt
                  go_wp2_with fail
                  go_roundw
                  case rel => exact ⟨b + 1, by omega, by go_num, hbF⟩
                  case measure => simp [RowKit.intOf]; omega
                · have ct := turn_no (HS6.out.deal.below hbr1) (HS6.out.made.req.below hbr1) (by omega) HFI.out hrow rfl (by simp) (by simpa using hB)
                  clear hB hrow hb1
                  go_wp2_with fail
                  refine ct.mono ?_
                  rintro _ wt ⟨rfl, hbt⟩
                  have hbF := (below_next hbr1 hbt).alloc (below_next hbr1 hbt).size (.cells #[.slice none 0 0, .slice none 0 0] 31)
                  clear ct hc8 hc81 hbr1 hbr hbt
                  go_wp2_with fail
                  go_roundw
                  case rel => exact ⟨b + 1, by omega, by go_num, hbF⟩
                  case measure => simp [RowKit.intOf]; omega
              · have hbl' : decide ((b : Int) < (l.length : Int)) = false := decide_eq_false (by omega)
                go_wp2_with fail
                go_roundw
                case rel => exact ⟨a + 1, by omega, by go_num, hbr⟩
                case measure => simp [RowKit.intOf]; omega
          · have i2 : decide ((2 : Int) < (c.length : Int)) = false := decide_eq_false (by omega)
            have i2b : decide (2 < c.length) = false := decide_eq_false h2
            go_wp2_with fail
            go_ret
            exact ⟨ret_bool rfl, below_next HB6.out hbr⟩
        · have i1 : decide ((a : Int) < (l.length : Int)) = false := decide_eq_false (by omega)
          go_wp2_with fail
          go_ret
          exact ⟨ret_bool rfl, below_next HB6.out hbr⟩
end Go.Proofs.YtjcogpalmgcpbaaGreat
