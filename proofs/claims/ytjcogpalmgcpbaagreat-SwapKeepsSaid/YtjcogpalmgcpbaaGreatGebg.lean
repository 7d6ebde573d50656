/- The law SwapKeeps: a swap is fair. -/
import Derived.Test.YtjcogpalmgcpbaaGreatGebf
namespace Go.Proofs.YtjcogpalmgcpbaaGreat
open Go Go.Proofs Go.RowKit Go.Maps Go.Sort Go.Lib
attribute [local go_sem] Req.cells
attribute [local go_sem ↓] seat_load

theorem sw_check_ok {w : World} {ov mv sv wv : Value} {L : List Off} {M : List Seat} {most : Int} {l W : List Seat} (hc : CatIn w ov mv L M) (hs : RowIn Seat.cells w sv l) (hw : RowIn Seat.cells w wv W) (hl : l.length ≤ 1000000) (hwf : ∀ x ∈ l, x.wf) (hok : OkS L M most l) :
    Calls Tryz.prog 9 #[ov, mv, .int .i64 most, .agg #[sv, wv]] w fun e w' => e = .returned (.int .i64 0) ∧ RowKit.Below w.heap.size w w' := by
  have := check_any ov mv sv wv L M most l W w hc hs hw hl hwf
  rwa [checkP_ok.2 hok] at this
/-- .. asks for a place in exchange. -/
def asksB (x : Seat) (r : Req) : Bool := decide (r.student = x.student) && (decide (r.code = x.code) && !decide (r.give.size = 0))

set_option maxHeartbeats 4000000 in
set_option maxRecDepth 100000 in
theorem kp_r10 {s0 s1 s2 s3 s4 s5 s6 s7 s12 s13 s14 s15 s16 s17 s18 s19 s20 s21 s22 s23 s24 s25 s26 s27 s28 s29 s30 s31 s32 s33 s34 s35 s36 s37 s38 s39 s40 s41 s42 s43 s44 s45 s46 s47 s48 s49 s50 s51 s52 s53 s54 s55 s56 s57 s58 s59 s60 s61 s62 s63 s64 s65 s66 s67 s68 s69 s70 s71 s72 s73 s74 s75 s76 s77 s78 s79 s80 s81 s82 s83 s84 s85 s86 s87 s88 s89 s90 s91 s92 s93 s94 s95 s96 s97 s98 s99 s100 s101 s102 s103 s104 s105 s106 s107 s108 s109 s110 s111 s112 s113 s114 s115 s116 s117 s118 s119 s120 s121 s122 s123 s124 s125 s126 s127 s128 s129 s130 s131 s132 s133 s134 s135 s136 s137 s138 s139 s140 s141 s142 s143 s144 s145 s146 s147 s148 s149 s150 s151 s152 s153 s154 s155 s156 s157 s158 s159 s160 s161 s162 s163 s164 s165 s166 s167 s168 s169 s170 s171 s172 s173 s174 s175 s176 s177 s178 s179 s180 s181 s182 s183 : Value} (b8 b9 b11 g of i ct cd : Nat) (pd : Option Addr) (d T : Deal) (x : Seat) (W : World) (Q : Exit → Act → World → Prop) (h9 : b9 < W.heap.size ∧ W.cell? ⟨b9, 0, none⟩ = some (.slice (some ⟨g, of, none⟩) T.seats.length ct)) (h8 : b8 < W.heap.size ∧ W.cell? ⟨b8, 0, none⟩ = some (.slice pd d.seats.length cd)) (h11 : b11 < W.heap.size ∧ W.cell? ⟨b11, 0, none⟩ = some (.int .i64 x.student) ∧ W.cell? ⟨b11, 1, none⟩ = some (.string x.code)) (hg : g < W.heap.size ∧ W.cell? ⟨g, of + i * 2, none⟩ = some (.int .i64 x.student)) (hr8 : RowIn Seat.cells W (.slice pd d.seats.length cd) d.seats) (hr9 : RowIn Seat.cells W (.slice (some ⟨g, of, none⟩) T.seats.length ct) T.seats) (ld : d.seats.length ≤ 1000000) (lT : T.seats.length ≤ 1000000) (hi : i < T.seats.length) (q1 : cntF T.seats x.student ⟨#[]⟩ = cntF d.seats x.student ⟨#[]⟩) (q2 : cntF T.seats 0 x.code = cntF d.seats 0 x.code)
    (hQ : ∀ (u76 u77 u78 u79 u80 u81 u82 u83 u84 u85 u86 u87 u88 u89 u90 u91 u92 u93 u94 u95 u96 u97 u98 u99 u100 u101 u102 u103 u104 u105 u106 u107 u108 u109 : Value) (wx : World), RowKit.Below W.heap.size W wx → Q .normal ⟨List.toArray (s0 :: s1 :: s2 :: s3 :: s4 :: s5 :: s6 :: s7 :: .pointer (some ⟨b8, 0, none⟩) :: .pointer (some ⟨b9, 0, none⟩) :: .int .i64 (i : Int) :: .pointer (some ⟨b11, 0, none⟩) :: s12 :: s13 :: s14 :: s15 :: s16 :: s17 :: s18 :: s19 :: s20 :: s21 :: s22 :: s23 :: s24 :: s25 :: s26 :: s27 :: s28 :: s29 :: s30 :: s31 :: s32 :: s33 :: s34 :: s35 :: s36 :: s37 :: s38 :: s39 :: s40 :: s41 :: s42 :: s43 :: s44 :: s45 :: s46 :: s47 :: s48 :: s49 :: s50 :: s51 :: s52 :: s53 :: s54 :: s55 :: s56 :: s57 :: s58 :: s59 :: s60 :: s61 :: s62 :: s63 :: s64 :: s65 :: s66 :: s67 :: s68 :: s69 :: s70 :: s71 :: s72 :: s73 :: s74 :: s75 :: u76 :: u77 :: u78 :: u79 :: u80 :: u81 :: u82 :: u83 :: u84 :: u85 :: u86 :: u87 :: u88 :: u89 :: u90 :: u91 :: u92 :: u93 :: u94 :: u95 :: u96 :: u97 :: u98 :: u99 :: u100 :: u101 :: u102 :: u103 :: u104 :: u105 :: u106 :: u107 :: u108 :: u109 :: .bool false :: s111 :: s112 :: s113 :: s114 :: s115 :: s116 :: s117 :: s118 :: s119 :: s120 :: s121 :: s122 :: s123 :: s124 :: s125 :: s126 :: s127 :: s128 :: s129 :: s130 :: s131 :: s132 :: s133 :: s134 :: s135 :: s136 :: s137 :: s138 :: s139 :: s140 :: s141 :: s142 :: s143 :: s144 :: s145 :: s146 :: s147 :: s148 :: s149 :: s150 :: s151 :: s152 :: s153 :: s154 :: s155 :: s156 :: s157 :: s158 :: s159 :: s160 :: s161 :: s162 :: s163 :: s164 :: s165 :: s166 :: s167 :: s168 :: s169 :: s170 :: s171 :: s172 :: s173 :: s174 :: s175 :: s176 :: s177 :: s178 :: s179 :: s180 :: s181 :: s182 :: s183 :: []), []⟩ wx) :
    (regionOf Tryz.f3 10).wp Tryz.prog Q ⟨List.toArray (s0 :: s1 :: s2 :: s3 :: s4 :: s5 :: s6 :: s7 :: .pointer (some ⟨b8, 0, none⟩) :: .pointer (some ⟨b9, 0, none⟩) :: .int .i64 (i : Int) :: .pointer (some ⟨b11, 0, none⟩) :: s12 :: s13 :: s14 :: s15 :: s16 :: s17 :: s18 :: s19 :: s20 :: s21 :: s22 :: s23 :: s24 :: s25 :: s26 :: s27 :: s28 :: s29 :: s30 :: s31 :: s32 :: s33 :: s34 :: s35 :: s36 :: s37 :: s38 :: s39 :: s40 :: s41 :: s42 :: s43 :: s44 :: s45 :: s46 :: s47 :: s48 :: s49 :: s50 :: s51 :: s52 :: s53 :: s54 :: s55 :: s56 :: s57 :: s58 :: s59 :: s60 :: s61 :: s62 :: s63 :: s64 :: s65 :: s66 :: s67 :: s68 :: s69 :: s70 :: s71 :: s72 :: s73 :: s74 :: s75 :: s76 :: s77 :: s78 :: s79 :: s80 :: s81 :: s82 :: s83 :: s84 :: s85 :: s86 :: s87 :: s88 :: s89 :: s90 :: s91 :: s92 :: s93 :: s94 :: s95 :: s96 :: s97 :: s98 :: s99 :: s100 :: s101 :: s102 :: s103 :: s104 :: s105 :: s106 :: s107 :: s108 :: s109 :: s110 :: s111 :: s112 :: s113 :: s114 :: s115 :: s116 :: s117 :: s118 :: s119 :: s120 :: s121 :: s122 :: s123 :: s124 :: s125 :: s126 :: s127 :: s128 :: s129 :: s130 :: s131 :: s132 :: s133 :: s134 :: s135 :: s136 :: s137 :: s138 :: s139 :: s140 :: s141 :: s142 :: s143 :: s144 :: s145 :: s146 :: s147 :: s148 :: s149 :: s150 :: s151 :: s152 :: s153 :: s154 :: s155 :: s156 :: s157 :: s158 :: s159 :: s160 :: s161 :: s162 :: s163 :: s164 :: s165 :: s166 :: s167 :: s168 :: s169 :: s170 :: s171 :: s172 :: s173 :: s174 :: s175 :: s176 :: s177 :: s178 :: s179 :: s180 :: s181 :: s182 :: s183 :: []), []⟩ W := by
  refine of_onlyN (K := Q .normal) ?_ (fun _ _ h => h)
  generalize Q .normal = K at hQ ⊢
  have HQ := Lib.hid hQ; clear hQ
  conv => arg 2; whnf
  have KP : ∀ w1 w2 : World, (fun w' => RowKit.Below W.heap.size W w' ∧ w'.cell? ⟨b9, 0, none⟩ = some (.slice (some ⟨g, of, none⟩) T.seats.length ct) ∧ w'.cell? ⟨b8, 0, none⟩ = some (.slice pd d.seats.length cd) ∧ w'.cell? ⟨b11, 0, none⟩ = some (.int .i64 x.student) ∧ w'.cell? ⟨b11, 1, none⟩ = some (.string x.code) ∧ w'.cell? ⟨g, of + i * 2, none⟩ = some (.int .i64 x.student)) w1 → RowKit.Below w1.heap.size w1 w2 → (fun w' => RowKit.Below W.heap.size W w' ∧ w'.cell? ⟨b9, 0, none⟩ = some (.slice (some ⟨g, of, none⟩) T.seats.length ct) ∧ w'.cell? ⟨b8, 0, none⟩ = some (.slice pd d.seats.length cd) ∧ w'.cell? ⟨b11, 0, none⟩ = some (.int .i64 x.student) ∧ w'.cell? ⟨b11, 1, none⟩ = some (.string x.code) ∧ w'.cell? ⟨g, of + i * 2, none⟩ = some (.int .i64 x.student)) w2 := fun w1 w2 h hb => by
    have hb2 := below_next h.1 hb
    exact ⟨hb2, (hb2.cell (p := ⟨b9, 0, none⟩) h9.1).trans h9.2, (hb2.cell (p := ⟨b8, 0, none⟩) h8.1).trans h8.2, (hb2.cell (p := ⟨b11, 0, none⟩) h11.1).trans h11.2.1, (hb2.cell (p := ⟨b11, 1, none⟩) h11.1).trans h11.2.2, (hb2.cell (p := ⟨g, of + i * 2, none⟩) hg.1).trans hg.2⟩
  have hS0 : (fun w' => RowKit.Below W.heap.size W w' ∧ w'.cell? ⟨b9, 0, none⟩ = some (.slice (some ⟨g, of, none⟩) T.seats.length ct) ∧ w'.cell? ⟨b8, 0, none⟩ = some (.slice pd d.seats.length cd) ∧ w'.cell? ⟨b11, 0, none⟩ = some (.int .i64 x.student) ∧ w'.cell? ⟨b11, 1, none⟩ = some (.string x.code) ∧ w'.cell? ⟨g, of + i * 2, none⟩ = some (.int .i64 x.student)) W.drew := KP W W.drew ⟨Below.refl _ _, h9.2, h8.2, h11.2.1, h11.2.2, hg.2⟩ (Below.refl _ _).drew
  have hil : (i : Int) < (T.seats.length : Int) := by omega
  obtain ⟨n1, hn1⟩ : ∃ n, cntF d.seats x.student ⟨#[]⟩ = n := ⟨_, rfl⟩
  obtain ⟨n2, hn2⟩ : ∃ n, cntF d.seats 0 x.code = n := ⟨_, rfl⟩
  have C1 : Hid (∀ w', RowKit.Below W.heap.size W w' → Calls Tryz.prog 10 #[.slice (some ⟨g, of, none⟩) T.seats.length ct, .int .i64 x.student, .string ⟨#[]⟩] w' fun e w'' => e = .returned (.int .i64 (n1 : Nat)) ∧ RowKit.Below w'.heap.size w' w'') := Lib.hid fun w' hb => by
    rw [← hn1, ← q1]; exact count_any _ T.seats x.student ⟨#[]⟩ w' (hr9.below hb) lT
  have C2 : Hid (∀ w', RowKit.Below W.heap.size W w' → Calls Tryz.prog 10 #[.slice pd d.seats.length cd, .int .i64 x.student, .string ⟨#[]⟩] w' fun e w'' => e = .returned (.int .i64 (n1 : Nat)) ∧ RowKit.Below w'.heap.size w' w'') := Lib.hid fun w' hb => by
    rw [← hn1]; exact count_any _ d.seats x.student ⟨#[]⟩ w' (hr8.below hb) ld
  have C3 : Hid (∀ w', RowKit.Below W.heap.size W w' → Calls Tryz.prog 10 #[.slice (some ⟨g, of, none⟩) T.seats.length ct, .int .i64 0, .string x.code] w' fun e w'' => e = .returned (.int .i64 (n2 : Nat)) ∧ RowKit.Below w'.heap.size w' w'') := Lib.hid fun w' hb => by
    rw [← hn2, ← q2]; exact count_any _ T.seats 0 x.code w' (hr9.below hb) lT
  have C4 : Hid (∀ w', RowKit.Below W.heap.size W w' → Calls Tryz.prog 10 #[.slice pd d.seats.length cd, .int .i64 0, .string x.code] w' fun e w'' => e = .returned (.int .i64 (n2 : Nat)) ∧ RowKit.Below w'.heap.size w' w'') := Lib.hid fun w' hb => by
    rw [← hn2]; exact count_any _ d.seats 0 x.code w' (hr8.below hb) ld
  clear hn1 hn2 q1 q2 hr8 hr9 h8 h9 h11 hg
  refine of_onlyN ?_ (fun _ _ h => h)
  refine wp_region_flow (S := fun w' => RowKit.Below W.heap.size W w' ∧ w'.cell? ⟨b9, 0, none⟩ = some (.slice (some ⟨g, of, none⟩) T.seats.length ct) ∧ w'.cell? ⟨b8, 0, none⟩ = some (.slice pd d.seats.length cd) ∧ w'.cell? ⟨b11, 0, none⟩ = some (.int .i64 x.student) ∧ w'.cell? ⟨b11, 1, none⟩ = some (.string x.code) ∧ w'.cell? ⟨g, of + i * 2, none⟩ = some (.int .i64 x.student)) [(0, true), (1, true), (2, true), (3, true), (5, true), (6, true), (7, true), (8, true), (4, false), (9, false), (10, true), (11, true), (12, true), (13, true), (14, true), (15, true), (17, true), (18, true), (19, true), (20, true), (16, false), (21, false), (22, true), (23, true), (24, true), (25, true), (26, true), (27, true), (28, true), (29, true), (30, true), (31, true), (32, true), (33, true), (34, true)] (by kernel_rfl) (by kernel_rfl) (by kernel_rfl) (by decide) (hS0) ?_
  have hS := hS0
  refine flow_take ⟨some 76, _, _, _, _, _⟩ ?_ rfl (by rfl) ?_ ?_
  rotate_left 1
  · intro w hSw; (try dsimp only at hSw); go_simp; (try with_reducible rfl)
  simp only [Act.put, List.setIfInBounds_toArray, List.set_cons_zero, List.set_cons_succ]
  refine flow_take ⟨some 77, _, _, _, _, _⟩ ?_ rfl (by rfl) ?_ ?_
  rotate_left 1
  · intro w hSw; (try dsimp only at hSw); go_simp; (try with_reducible rfl)
  simp only [Act.put, List.setIfInBounds_toArray, List.set_cons_zero, List.set_cons_succ]
  refine flow_take ⟨some 78, _, _, _, _, _⟩ ?_ rfl (by rfl) ?_ ?_
  rotate_left 1
  · intro w hSw; (try dsimp only at hSw); go_simp; (try with_reducible rfl)
  simp only [Act.put, List.setIfInBounds_toArray, List.set_cons_zero, List.set_cons_succ]
  refine flow_take ⟨some 79, _, _, _, _, _⟩ ?_ rfl (by rfl) ?_ ?_
  rotate_left 1
  · intro w hSw; (try dsimp only at hSw); go_simp; (try with_reducible rfl)
  simp only [Act.put, List.setIfInBounds_toArray, List.set_cons_zero, List.set_cons_succ]
  refine flow_take ⟨some 81, _, _, _, _, _⟩ ?_ rfl (by rfl) ?_ ?_
  rotate_left 1
  · intro w hSw; (try dsimp only at hSw); go_simp; (try with_reducible rfl)
  simp only [Act.put, List.setIfInBounds_toArray, List.set_cons_zero, List.set_cons_succ]
  refine flow_take ⟨some 82, _, _, _, _, _⟩ ?_ rfl (by rfl) ?_ ?_
  rotate_left 1
  · intro w hSw; (try dsimp only at hSw); go_simp; (try with_reducible rfl)
  simp only [Act.put, List.setIfInBounds_toArray, List.set_cons_zero, List.set_cons_succ]
  refine flow_take ⟨some 83, _, _, _, _, _⟩ ?_ rfl (by rfl) ?_ ?_
  rotate_left 1
  · intro w hSw; (try dsimp only at hSw); go_simp; (try with_reducible rfl)
  simp only [Act.put, List.setIfInBounds_toArray, List.set_cons_zero, List.set_cons_succ]
  refine flow_take ⟨some 84, _, _, _, _, _⟩ ?_ rfl (by rfl) ?_ ?_
  rotate_left 1
  · intro w hSw; (try dsimp only at hSw); go_simp; (try with_reducible rfl)
  simp only [Act.put, List.setIfInBounds_toArray, List.set_cons_zero, List.set_cons_succ]
  (first | (refine flow_call ⟨some 80, _, _, _, _, _⟩ rfl (by rfl) 10 _ _ (by rfl) _ (by rfl) Tryz.call10 (C1.out _ hS.1) ?_; rintro x wn ⟨rfl, hb⟩; replace hS := KP _ _ hS hb; refine ⟨_, rfl, hS, ?_⟩; (try clear hb)) | (refine flow_call ⟨some 80, _, _, _, _, _⟩ rfl (by rfl) 10 _ _ (by rfl) _ (by rfl) Tryz.call10 (C2.out _ hS.1) ?_; rintro x wn ⟨rfl, hb⟩; replace hS := KP _ _ hS hb; refine ⟨_, rfl, hS, ?_⟩; (try clear hb)) | (refine flow_call ⟨some 80, _, _, _, _, _⟩ rfl (by rfl) 10 _ _ (by rfl) _ (by rfl) Tryz.call10 (C3.out _ hS.1) ?_; rintro x wn ⟨rfl, hb⟩; replace hS := KP _ _ hS hb; refine ⟨_, rfl, hS, ?_⟩; (try clear hb)) | (refine flow_call ⟨some 80, _, _, _, _, _⟩ rfl (by rfl) 10 _ _ (by rfl) _ (by rfl) Tryz.call10 (C4.out _ hS.1) ?_; rintro x wn ⟨rfl, hb⟩; replace hS := KP _ _ hS hb; refine ⟨_, rfl, hS, ?_⟩; (try clear hb)))
  simp only [Act.put, List.setIfInBounds_toArray, List.set_cons_zero, List.set_cons_succ]
  (first | (refine flow_call ⟨some 85, _, _, _, _, _⟩ rfl (by rfl) 10 _ _ (by rfl) _ (by rfl) Tryz.call10 (C1.out _ hS.1) ?_; rintro x wn ⟨rfl, hb⟩; replace hS := KP _ _ hS hb; refine ⟨_, rfl, hS, ?_⟩; (try clear hb)) | (refine flow_call ⟨some 85, _, _, _, _, _⟩ rfl (by rfl) 10 _ _ (by rfl) _ (by rfl) Tryz.call10 (C2.out _ hS.1) ?_; rintro x wn ⟨rfl, hb⟩; replace hS := KP _ _ hS hb; refine ⟨_, rfl, hS, ?_⟩; (try clear hb)) | (refine flow_call ⟨some 85, _, _, _, _, _⟩ rfl (by rfl) 10 _ _ (by rfl) _ (by rfl) Tryz.call10 (C3.out _ hS.1) ?_; rintro x wn ⟨rfl, hb⟩; replace hS := KP _ _ hS hb; refine ⟨_, rfl, hS, ?_⟩; (try clear hb)) | (refine flow_call ⟨some 85, _, _, _, _, _⟩ rfl (by rfl) 10 _ _ (by rfl) _ (by rfl) Tryz.call10 (C4.out _ hS.1) ?_; rintro x wn ⟨rfl, hb⟩; replace hS := KP _ _ hS hb; refine ⟨_, rfl, hS, ?_⟩; (try clear hb)))
  simp only [Act.put, List.setIfInBounds_toArray, List.set_cons_zero, List.set_cons_succ]
  refine flow_take ⟨some 86, _, _, _, _, _⟩ ?_ rfl (by rfl) ?_ ?_
  rotate_left 1
  · intro w hSw; (try dsimp only at hSw); go_simp; (try with_reducible rfl)
  simp only [Act.put, List.setIfInBounds_toArray, List.set_cons_zero, List.set_cons_succ]
  refine flow_take ⟨some 87, _, _, _, _, _⟩ ?_ rfl (by rfl) ?_ ?_
  rotate_left 1
  · intro w hSw; (try dsimp only at hSw); go_simp; (try with_reducible rfl)
  simp only [Act.put, List.setIfInBounds_toArray, List.set_cons_zero, List.set_cons_succ]
  refine flow_take ⟨some 88, _, _, _, _, _⟩ ?_ rfl (by rfl) ?_ ?_
  rotate_left 1
  · intro w hSw; (try dsimp only at hSw); go_simp; (try with_reducible rfl)
  simp only [Act.put, List.setIfInBounds_toArray, List.set_cons_zero, List.set_cons_succ]
  refine flow_take ⟨some 89, _, _, _, _, _⟩ ?_ rfl (by rfl) ?_ ?_
  rotate_left 1
  · intro w hSw; (try dsimp only at hSw); go_simp; (try with_reducible rfl)
  simp only [Act.put, List.setIfInBounds_toArray, List.set_cons_zero, List.set_cons_succ]
  refine flow_take ⟨some 90, _, _, _, _, _⟩ ?_ rfl (by rfl) ?_ ?_
  rotate_left 1
  · intro w hSw; (try dsimp only at hSw); go_simp; (try with_reducible rfl)
  simp only [Act.put, List.setIfInBounds_toArray, List.set_cons_zero, List.set_cons_succ]
  refine flow_take ⟨some 91, _, _, _, _, _⟩ ?_ rfl (by rfl) ?_ ?_
  rotate_left 1
  · intro w hSw; (try dsimp only at hSw); go_simp; (try with_reducible rfl)
  simp only [Act.put, List.setIfInBounds_toArray, List.set_cons_zero, List.set_cons_succ]
  refine flow_take ⟨some 93, _, _, _, _, _⟩ ?_ rfl (by rfl) ?_ ?_
  rotate_left 1
  · intro w hSw; (try dsimp only at hSw); go_simp; (try with_reducible rfl)
  simp only [Act.put, List.setIfInBounds_toArray, List.set_cons_zero, List.set_cons_succ]
  refine flow_take ⟨some 94, _, _, _, _, _⟩ ?_ rfl (by rfl) ?_ ?_
  rotate_left 1
  · intro w hSw; (try dsimp only at hSw); go_simp; (try with_reducible rfl)
  simp only [Act.put, List.setIfInBounds_toArray, List.set_cons_zero, List.set_cons_succ]
  refine flow_take ⟨some 95, _, _, _, _, _⟩ ?_ rfl (by rfl) ?_ ?_
  rotate_left 1
  · intro w hSw; (try dsimp only at hSw); go_simp; (try with_reducible rfl)
  simp only [Act.put, List.setIfInBounds_toArray, List.set_cons_zero, List.set_cons_succ]
  refine flow_take ⟨some 96, _, _, _, _, _⟩ ?_ rfl (by rfl) ?_ ?_
  rotate_left 1
  · intro w hSw; (try dsimp only at hSw); go_simp; (try with_reducible rfl)
  simp only [Act.put, List.setIfInBounds_toArray, List.set_cons_zero, List.set_cons_succ]
  (first | (refine flow_call ⟨some 92, _, _, _, _, _⟩ rfl (by rfl) 10 _ _ (by rfl) _ (by rfl) Tryz.call10 (C1.out _ hS.1) ?_; rintro x wn ⟨rfl, hb⟩; replace hS := KP _ _ hS hb; refine ⟨_, rfl, hS, ?_⟩; (try clear hb)) | (refine flow_call ⟨some 92, _, _, _, _, _⟩ rfl (by rfl) 10 _ _ (by rfl) _ (by rfl) Tryz.call10 (C2.out _ hS.1) ?_; rintro x wn ⟨rfl, hb⟩; replace hS := KP _ _ hS hb; refine ⟨_, rfl, hS, ?_⟩; (try clear hb)) | (refine flow_call ⟨some 92, _, _, _, _, _⟩ rfl (by rfl) 10 _ _ (by rfl) _ (by rfl) Tryz.call10 (C3.out _ hS.1) ?_; rintro x wn ⟨rfl, hb⟩; replace hS := KP _ _ hS hb; refine ⟨_, rfl, hS, ?_⟩; (try clear hb)) | (refine flow_call ⟨some 92, _, _, _, _, _⟩ rfl (by rfl) 10 _ _ (by rfl) _ (by rfl) Tryz.call10 (C4.out _ hS.1) ?_; rintro x wn ⟨rfl, hb⟩; replace hS := KP _ _ hS hb; refine ⟨_, rfl, hS, ?_⟩; (try clear hb)))
  simp only [Act.put, List.setIfInBounds_toArray, List.set_cons_zero, List.set_cons_succ]
  (first | (refine flow_call ⟨some 97, _, _, _, _, _⟩ rfl (by rfl) 10 _ _ (by rfl) _ (by rfl) Tryz.call10 (C1.out _ hS.1) ?_; rintro x wn ⟨rfl, hb⟩; replace hS := KP _ _ hS hb; refine ⟨_, rfl, hS, ?_⟩; (try clear hb)) | (refine flow_call ⟨some 97, _, _, _, _, _⟩ rfl (by rfl) 10 _ _ (by rfl) _ (by rfl) Tryz.call10 (C2.out _ hS.1) ?_; rintro x wn ⟨rfl, hb⟩; replace hS := KP _ _ hS hb; refine ⟨_, rfl, hS, ?_⟩; (try clear hb)) | (refine flow_call ⟨some 97, _, _, _, _, _⟩ rfl (by rfl) 10 _ _ (by rfl) _ (by rfl) Tryz.call10 (C3.out _ hS.1) ?_; rintro x wn ⟨rfl, hb⟩; replace hS := KP _ _ hS hb; refine ⟨_, rfl, hS, ?_⟩; (try clear hb)) | (refine flow_call ⟨some 97, _, _, _, _, _⟩ rfl (by rfl) 10 _ _ (by rfl) _ (by rfl) Tryz.call10 (C4.out _ hS.1) ?_; rintro x wn ⟨rfl, hb⟩; replace hS := KP _ _ hS hb; refine ⟨_, rfl, hS, ?_⟩; (try clear hb)))
  simp only [Act.put, List.setIfInBounds_toArray, List.set_cons_zero, List.set_cons_succ]
  refine flow_take ⟨some 98, _, _, _, _, _⟩ ?_ rfl (by rfl) ?_ ?_
  rotate_left 1
  · intro w hSw; (try dsimp only at hSw); go_simp; (try with_reducible rfl)
  simp only [Act.put, List.setIfInBounds_toArray, List.set_cons_zero, List.set_cons_succ]
  refine flow_take ⟨some 99, _, _, _, _, _⟩ ?_ rfl (by rfl) ?_ ?_
  rotate_left 1
  · intro w hSw; (try dsimp only at hSw); go_simp; (try with_reducible rfl)
  simp only [Act.put, List.setIfInBounds_toArray, List.set_cons_zero, List.set_cons_succ]
  refine flow_take ⟨some 100, _, _, _, _, _⟩ ?_ rfl (by rfl) ?_ ?_
  rotate_left 1
  · intro w hSw; (try dsimp only at hSw); go_simp; (try with_reducible rfl)
  simp only [Act.put, List.setIfInBounds_toArray, List.set_cons_zero, List.set_cons_succ]
  refine flow_take ⟨some 101, _, _, _, _, _⟩ ?_ rfl (by rfl) ?_ ?_
  rotate_left 1
  · intro w hSw; (try dsimp only at hSw); go_simp; (try with_reducible rfl)
  simp only [Act.put, List.setIfInBounds_toArray, List.set_cons_zero, List.set_cons_succ]
  refine flow_take ⟨some 102, _, _, _, _, _⟩ ?_ rfl (by rfl) ?_ ?_
  rotate_left 1
  · intro w hSw; (try dsimp only at hSw); go_simp; (try with_reducible rfl)
  simp only [Act.put, List.setIfInBounds_toArray, List.set_cons_zero, List.set_cons_succ]
  refine flow_take ⟨some 103, _, _, _, _, _⟩ ?_ rfl (by rfl) ?_ ?_
  rotate_left 1
  · intro w hSw; (try dsimp only at hSw); go_simp; (try with_reducible rfl)
  simp only [Act.put, List.setIfInBounds_toArray, List.set_cons_zero, List.set_cons_succ]
  refine flow_take ⟨some 104, _, _, _, _, _⟩ ?_ rfl (by rfl) ?_ ?_
  rotate_left 1
  · intro w hSw; (try dsimp only at hSw); go_simp; (try with_reducible rfl)
  simp only [Act.put, List.setIfInBounds_toArray, List.set_cons_zero, List.set_cons_succ]
  refine flow_take ⟨some 105, _, _, _, _, _⟩ ?_ rfl (by rfl) ?_ ?_
  rotate_left 1
  · intro w hSw; (try dsimp only at hSw); go_simp; (try with_reducible rfl)
  simp only [Act.put, List.setIfInBounds_toArray, List.set_cons_zero, List.set_cons_succ]
  refine flow_take ⟨some 106, _, _, _, _, _⟩ ?_ rfl (by rfl) ?_ ?_
  rotate_left 1
  · intro w hSw; (try dsimp only at hSw); go_simp; (try with_reducible rfl)
  simp only [Act.put, List.setIfInBounds_toArray, List.set_cons_zero, List.set_cons_succ]
  refine flow_take ⟨some 107, _, _, _, _, _⟩ ?_ rfl (by rfl) ?_ ?_
  rotate_left 1
  · intro w hSw; (try dsimp only at hSw); go_simp; (try with_reducible rfl)
  simp only [Act.put, List.setIfInBounds_toArray, List.set_cons_zero, List.set_cons_succ]
  refine flow_take ⟨some 108, _, _, _, _, _⟩ ?_ rfl (by rfl) ?_ ?_
  rotate_left 1
  · intro w hSw; (try dsimp only at hSw); go_simp; (try with_reducible rfl)
  simp only [Act.put, List.setIfInBounds_toArray, List.set_cons_zero, List.set_cons_succ]
  refine flow_take ⟨some 109, _, _, _, _, _⟩ ?_ rfl (by rfl) ?_ ?_
  rotate_left 1
  · intro w hSw; (try dsimp only at hSw); go_simp; (try with_reducible rfl)
  simp only [Act.put, List.setIfInBounds_toArray, List.set_cons_zero, List.set_cons_succ]
  refine flow_take ⟨some 110, _, _, _, _, _⟩ ?_ rfl (by rfl) ?_ ?_
  rotate_left 1
  · intro w hSw; (try dsimp only at hSw); go_simp; (try with_reducible rfl)
  simp only [Act.put, List.setIfInBounds_toArray, List.set_cons_zero, List.set_cons_succ]
  simp only [wpFlow, OnlyN]
  exact HQ.out _ _ _ _ _ _ _ _ _ _ _ _ _ _ _ _ _ _ _ _ _ _ _ _ _ _ _ _ _ _ _ _ _ _ _ hS.1

set_option maxHeartbeats 4000000 in
set_option maxRecDepth 100000 in
theorem kp_r26 {s0 s1 s2 s3 s4 s5 s6 s7 s10 s11 s12 s13 s14 s15 s17 s18 s19 s20 s21 s22 s23 s24 s25 s26 s27 s28 s29 s30 s31 s32 s33 s34 s35 s36 s37 s38 s39 s40 s41 s42 s43 s44 s45 s46 s47 s48 s49 s50 s51 s52 s53 s54 s55 s56 s57 s58 s59 s60 s61 s62 s63 s64 s65 s66 s67 s68 s69 s70 s71 s72 s73 s74 s75 s76 s77 s78 s79 s80 s81 s82 s83 s84 s85 s86 s87 s88 s89 s90 s91 s92 s93 s94 s95 s96 s97 s98 s99 s100 s101 s102 s103 s104 s105 s106 s107 s108 s109 s110 s111 s112 s113 s114 s115 s116 s117 s118 s119 s120 s121 s122 s123 s124 s125 s126 s127 s128 s129 s130 s131 s132 s133 s134 s135 s136 s137 s138 s139 s140 s141 s142 s143 s144 s145 s146 s147 s148 s149 s150 s151 s152 s153 s154 s155 s156 s157 s158 s159 s160 s161 s162 s163 s164 s165 s166 s167 s168 s169 s170 s171 s172 s173 s174 s175 s176 s177 s178 s179 s180 s181 s182 s183 : Value} (b8 b9 g of i et ed : Nat) (qd : Option Addr) (d T : Deal) (x : Seat) (W : World) (Q : Exit → Act → World → Prop) (h9 : b9 < W.heap.size ∧ W.cell? ⟨b9, 1, none⟩ = some (.slice (some ⟨g, of, none⟩) T.waits.length et)) (h8 : b8 < W.heap.size ∧ W.cell? ⟨b8, 1, none⟩ = some (.slice qd d.waits.length ed)) (hg : g < W.heap.size ∧ W.cell? ⟨g, of + i * 2, none⟩ = some (.int .i64 x.student) ∧ W.cell? ⟨g, of + i * 2 + 1, none⟩ = some (.string x.code)) (hr8 : RowIn Seat.cells W (.slice qd d.waits.length ed) d.waits) (ld : d.waits.length ≤ 1000000) (hi : i < T.waits.length) (hx : x ∈ d.waits)
    (hQ : ∀ (u174 u175 u176 u177 u178 u179 u180 u181 : Value) (wx : World), RowKit.Below W.heap.size W wx → Q .normal ⟨List.toArray (s0 :: s1 :: s2 :: s3 :: s4 :: s5 :: s6 :: s7 :: .pointer (some ⟨b8, 0, none⟩) :: .pointer (some ⟨b9, 0, none⟩) :: s10 :: s11 :: s12 :: s13 :: s14 :: s15 :: .int .i64 (i : Int) :: s17 :: s18 :: s19 :: s20 :: s21 :: s22 :: s23 :: s24 :: s25 :: s26 :: s27 :: s28 :: s29 :: s30 :: s31 :: s32 :: s33 :: s34 :: s35 :: s36 :: s37 :: s38 :: s39 :: s40 :: s41 :: s42 :: s43 :: s44 :: s45 :: s46 :: s47 :: s48 :: s49 :: s50 :: s51 :: s52 :: s53 :: s54 :: s55 :: s56 :: s57 :: s58 :: s59 :: s60 :: s61 :: s62 :: s63 :: s64 :: s65 :: s66 :: s67 :: s68 :: s69 :: s70 :: s71 :: s72 :: s73 :: s74 :: s75 :: s76 :: s77 :: s78 :: s79 :: s80 :: s81 :: s82 :: s83 :: s84 :: s85 :: s86 :: s87 :: s88 :: s89 :: s90 :: s91 :: s92 :: s93 :: s94 :: s95 :: s96 :: s97 :: s98 :: s99 :: s100 :: s101 :: s102 :: s103 :: s104 :: s105 :: s106 :: s107 :: s108 :: s109 :: s110 :: s111 :: s112 :: s113 :: s114 :: s115 :: s116 :: s117 :: s118 :: s119 :: s120 :: s121 :: s122 :: s123 :: s124 :: s125 :: s126 :: s127 :: s128 :: s129 :: s130 :: s131 :: s132 :: s133 :: s134 :: s135 :: s136 :: s137 :: s138 :: s139 :: s140 :: s141 :: s142 :: s143 :: s144 :: s145 :: s146 :: s147 :: s148 :: s149 :: s150 :: s151 :: s152 :: s153 :: s154 :: s155 :: s156 :: s157 :: s158 :: s159 :: s160 :: s161 :: s162 :: s163 :: s164 :: s165 :: s166 :: s167 :: s168 :: s169 :: s170 :: s171 :: s172 :: s173 :: u174 :: u175 :: u176 :: u177 :: u178 :: u179 :: u180 :: u181 :: .bool false :: s183 :: []), []⟩ wx) :
    (regionOf Tryz.f3 26).wp Tryz.prog Q ⟨List.toArray (s0 :: s1 :: s2 :: s3 :: s4 :: s5 :: s6 :: s7 :: .pointer (some ⟨b8, 0, none⟩) :: .pointer (some ⟨b9, 0, none⟩) :: s10 :: s11 :: s12 :: s13 :: s14 :: s15 :: .int .i64 (i : Int) :: s17 :: s18 :: s19 :: s20 :: s21 :: s22 :: s23 :: s24 :: s25 :: s26 :: s27 :: s28 :: s29 :: s30 :: s31 :: s32 :: s33 :: s34 :: s35 :: s36 :: s37 :: s38 :: s39 :: s40 :: s41 :: s42 :: s43 :: s44 :: s45 :: s46 :: s47 :: s48 :: s49 :: s50 :: s51 :: s52 :: s53 :: s54 :: s55 :: s56 :: s57 :: s58 :: s59 :: s60 :: s61 :: s62 :: s63 :: s64 :: s65 :: s66 :: s67 :: s68 :: s69 :: s70 :: s71 :: s72 :: s73 :: s74 :: s75 :: s76 :: s77 :: s78 :: s79 :: s80 :: s81 :: s82 :: s83 :: s84 :: s85 :: s86 :: s87 :: s88 :: s89 :: s90 :: s91 :: s92 :: s93 :: s94 :: s95 :: s96 :: s97 :: s98 :: s99 :: s100 :: s101 :: s102 :: s103 :: s104 :: s105 :: s106 :: s107 :: s108 :: s109 :: s110 :: s111 :: s112 :: s113 :: s114 :: s115 :: s116 :: s117 :: s118 :: s119 :: s120 :: s121 :: s122 :: s123 :: s124 :: s125 :: s126 :: s127 :: s128 :: s129 :: s130 :: s131 :: s132 :: s133 :: s134 :: s135 :: s136 :: s137 :: s138 :: s139 :: s140 :: s141 :: s142 :: s143 :: s144 :: s145 :: s146 :: s147 :: s148 :: s149 :: s150 :: s151 :: s152 :: s153 :: s154 :: s155 :: s156 :: s157 :: s158 :: s159 :: s160 :: s161 :: s162 :: s163 :: s164 :: s165 :: s166 :: s167 :: s168 :: s169 :: s170 :: s171 :: s172 :: s173 :: s174 :: s175 :: s176 :: s177 :: s178 :: s179 :: s180 :: s181 :: s182 :: s183 :: []), []⟩ W := by
  refine of_onlyN (K := Q .normal) ?_ (fun _ _ h => h)
  generalize Q .normal = K at hQ ⊢
  have HQ := Lib.hid hQ; clear hQ
  conv => arg 2; whnf
  have KP : ∀ w1 w2 : World, (fun w' => RowKit.Below W.heap.size W w' ∧ w'.cell? ⟨b9, 1, none⟩ = some (.slice (some ⟨g, of, none⟩) T.waits.length et) ∧ w'.cell? ⟨b8, 1, none⟩ = some (.slice qd d.waits.length ed) ∧ w'.cell? ⟨g, of + i * 2, none⟩ = some (.int .i64 x.student) ∧ w'.cell? ⟨g, of + i * 2 + 1, none⟩ = some (.string x.code)) w1 → RowKit.Below w1.heap.size w1 w2 → (fun w' => RowKit.Below W.heap.size W w' ∧ w'.cell? ⟨b9, 1, none⟩ = some (.slice (some ⟨g, of, none⟩) T.waits.length et) ∧ w'.cell? ⟨b8, 1, none⟩ = some (.slice qd d.waits.length ed) ∧ w'.cell? ⟨g, of + i * 2, none⟩ = some (.int .i64 x.student) ∧ w'.cell? ⟨g, of + i * 2 + 1, none⟩ = some (.string x.code)) w2 := fun w1 w2 h hb => by
    have hb2 := below_next h.1 hb
    exact ⟨hb2, (hb2.cell (p := ⟨b9, 1, none⟩) h9.1).trans h9.2, (hb2.cell (p := ⟨b8, 1, none⟩) h8.1).trans h8.2, (hb2.cell (p := ⟨g, of + i * 2, none⟩) hg.1).trans hg.2.1, (hb2.cell (p := ⟨g, of + i * 2 + 1, none⟩) hg.1).trans hg.2.2⟩
  have hS0 : (fun w' => RowKit.Below W.heap.size W w' ∧ w'.cell? ⟨b9, 1, none⟩ = some (.slice (some ⟨g, of, none⟩) T.waits.length et) ∧ w'.cell? ⟨b8, 1, none⟩ = some (.slice qd d.waits.length ed) ∧ w'.cell? ⟨g, of + i * 2, none⟩ = some (.int .i64 x.student) ∧ w'.cell? ⟨g, of + i * 2 + 1, none⟩ = some (.string x.code)) W.drew := KP W W.drew ⟨Below.refl _ _, h9.2, h8.2, hg.2.1, hg.2.2⟩ (Below.refl _ _).drew
  have hil : (i : Int) < (T.waits.length : Int) := by omega
  have CH : Hid (∀ w', RowKit.Below W.heap.size W w' → Calls Tryz.prog 11 #[.slice qd d.waits.length ed, .agg #[.int .i64 x.student, .string x.code]] w' fun e w'' => e = .returned (.bool true) ∧ RowKit.Below w'.heap.size w' w'') := Lib.hid fun w' hb => by
    have := has29_any _ d.waits x w' (hr8.below hb) ld
    rwa [decide_eq_true hx] at this
  clear hr8 h8 h9 hg hx
  refine of_onlyN ?_ (fun _ _ h => h)
  refine wp_region_flow (S := fun w' => RowKit.Below W.heap.size W w' ∧ w'.cell? ⟨b9, 1, none⟩ = some (.slice (some ⟨g, of, none⟩) T.waits.length et) ∧ w'.cell? ⟨b8, 1, none⟩ = some (.slice qd d.waits.length ed) ∧ w'.cell? ⟨g, of + i * 2, none⟩ = some (.int .i64 x.student) ∧ w'.cell? ⟨g, of + i * 2 + 1, none⟩ = some (.string x.code)) [(0, true), (1, true), (2, true), (3, true), (4, true), (5, true), (6, true), (7, false), (8, true)] (by kernel_rfl) (by kernel_rfl) (by kernel_rfl) (by decide) (hS0) ?_
  have hS := hS0
  refine flow_take ⟨some 174, _, _, _, _, _⟩ ?_ rfl (by rfl) ?_ ?_
  rotate_left 1
  · intro w hSw; (try dsimp only at hSw); go_simp; (try with_reducible rfl)
  simp only [Act.put, List.setIfInBounds_toArray, List.set_cons_zero, List.set_cons_succ]
  refine flow_take ⟨some 175, _, _, _, _, _⟩ ?_ rfl (by rfl) ?_ ?_
  rotate_left 1
  · intro w hSw; (try dsimp only at hSw); go_simp; (try with_reducible rfl)
  simp only [Act.put, List.setIfInBounds_toArray, List.set_cons_zero, List.set_cons_succ]
  refine flow_take ⟨some 176, _, _, _, _, _⟩ ?_ rfl (by rfl) ?_ ?_
  rotate_left 1
  · intro w hSw; (try dsimp only at hSw); go_simp; (try with_reducible rfl)
  simp only [Act.put, List.setIfInBounds_toArray, List.set_cons_zero, List.set_cons_succ]
  refine flow_take ⟨some 177, _, _, _, _, _⟩ ?_ rfl (by rfl) ?_ ?_
  rotate_left 1
  · intro w hSw; (try dsimp only at hSw); go_simp; (try with_reducible rfl)
  simp only [Act.put, List.setIfInBounds_toArray, List.set_cons_zero, List.set_cons_succ]
  refine flow_take ⟨some 178, _, _, _, _, _⟩ ?_ rfl (by rfl) ?_ ?_
  rotate_left 1
  · intro w hSw; (try dsimp only at hSw); go_simp; (try with_reducible rfl)
  simp only [Act.put, List.setIfInBounds_toArray, List.set_cons_zero, List.set_cons_succ]
  refine flow_take ⟨some 179, _, _, _, _, _⟩ ?_ rfl (by rfl) ?_ ?_
  rotate_left 1
  · intro w hSw; (try dsimp only at hSw); go_simp; (try with_reducible rfl)
  simp only [Act.put, List.setIfInBounds_toArray, List.set_cons_zero, List.set_cons_succ]
  refine flow_take ⟨some 180, _, _, _, _, _⟩ ?_ rfl (by rfl) ?_ ?_
  rotate_left 1
  · intro w hSw; (try dsimp only at hSw); go_simp; (try with_reducible rfl)
  simp only [Act.put, List.setIfInBounds_toArray, List.set_cons_zero, List.set_cons_succ]
  refine flow_call ⟨some 181, _, _, _, _, _⟩ rfl (by rfl) 11 _ _ (by rfl) _ (by rfl) Tryz.call11 (CH.out _ hS.1) ?_; rintro x wn ⟨rfl, hb⟩; replace hS := KP _ _ hS hb; refine ⟨_, rfl, hS, ?_⟩; (try clear hb)
  simp only [Act.put, List.setIfInBounds_toArray, List.set_cons_zero, List.set_cons_succ]
  refine flow_take ⟨some 182, _, _, _, _, _⟩ ?_ rfl (by rfl) ?_ ?_
  rotate_left 1
  · intro w hSw; (try dsimp only at hSw); go_simp; (try with_reducible rfl)
  simp only [Act.put, List.setIfInBounds_toArray, List.set_cons_zero, List.set_cons_succ]
  simp only [wpFlow, OnlyN]
  exact HQ.out _ _ _ _ _ _ _ _ _ hS.1

set_option maxHeartbeats 8000000 in
set_option maxRecDepth 100000 in
theorem keeps_law (A0 A1 A2 : Option Addr) (n0 n1 n2 c0 c1 c2 : Nat) (m : Int) (w : World) (h0 : IntsIn w.heap.size A0 n0 w) (h1 : IntsIn w.heap.size A1 n1 w) (h2 : IntssIn w.heap.size A2 n2 w) (hc : n2 ≤ c2) (hm0 : 0 ≤ m) (hm1 : m ≤ 255) :
    Calls Tryz.prog 3 #[.agg #[.slice A0 n0 c0, .slice A1 n1 c1, .slice A2 n2 c2, .int .u8 m]] w fun e w' => e = .returned (.bool true) ∧ RowKit.Below w.heap.size w w' := by
  have hb0 := below_alloc1 w (.cells #[.slice A0 n0 c0, .slice A1 n1 c1, .slice A2 n2 c2, .int .u8 m] 25)
  have hx0 := heap_alloc_new w (.cells #[.slice A0 n0 c0, .slice A1 n1 c1, .slice A2 n2 c2, .int .u8 m] 25)
  have H0 := Lib.hid h0
  have H1 := Lib.hid h1
  have H2 := Lib.hid h2
  clear h0 h1 h2
  go_enter Tryz.func3, Tryz.ntmps3
  go_wp2_with fail
  generalize w.alloc _ = W at hb0 hx0 ⊢
  refine (sw_sanity_any W).mono ?_
  rintro _ w1 ⟨rfl, hb1⟩
  have hx1 := (hb1.block _ (lt_of_heap hx0)).trans hx0
  have HB1 := Lib.hid (below_next hb0 hb1)
  have hcb : ∀ j, w1.cell? ⟨w.heap.size, j, none⟩ = (#[.slice A0 n0 c0, .slice A1 n1 c1, .slice A2 n2 c2, .int .u8 m] : Array Value)[j]? := fun j => Lib.cell_of_heap hx1 j
  clear hb0 hb1 hx0 hx1
  go_wp2_with fail
  refine (sw_case_any A0 A1 A2 n0 n1 n2 c0 c1 c2 m w1 (ints_at H0.out HB1.out) (ints_at H1.out HB1.out) (intss_at H2.out HB1.out) hc hm0 hm1).mono ?_
  rintro _ w2 ⟨ov, mv, lv, dv, L, M, most, l, d, rfl, hS, hb2⟩
  have HD0 := Lib.hid hS.deal
  obtain ⟨pd, cd, qd, ed, rfl, _, _⟩ := hS.deal.val
  have hb3 := below_alloc1 w2 (.cells #[.slice pd d.seats.length cd, .slice qd d.waits.length ed] 31)
  have hx8 := heap_alloc_new w2 (.cells #[.slice pd d.seats.length cd, .slice qd d.waits.length ed] 31)
  have HS3 := Lib.hid (hS.below hb3)
  have HB3 := Lib.hid (below_next (below_next HB1.out hb2) hb3)
  have hls : d.seats.length ≤ 10 := hS.ls
  have hlw : d.waits.length ≤ 10 := hS.lw
  have hll : l.length ≤ 10 := hS.made.lr
  have HFI : Hid (∀ r ∈ l, r.fits) := Lib.hid fun r hr => (hS.made.small r hr).fits
  have HRW : Hid (∀ r ∈ l, (seatOf r).wf) := Lib.hid fun r hr => by
    have h := (hS.made.small r hr).wf
    exact ⟨h.2.2.1, h.2.2.2.2.1⟩
  clear hS hb2 hb3 hcb H0 H1 H2 HB1 HD0 hc hm0 hm1
  go_upto_region 3 with fail
  obtain ⟨b8, hb8⟩ : ∃ b, w2.heap.size = b := ⟨_, rfl⟩
  rw [hb8] at hx8 ⊢
  generalize w2.alloc _ = w3 at HS3 HB3 hx8 ⊢
  clear hb8
  have hc8 : ∀ j, w3.cell? ⟨b8, j, none⟩ = (#[.slice pd d.seats.length cd, .slice qd d.waits.length ed] : Array Value)[j]? := fun j => Lib.cell_of_heap hx8 j
  go_wp2_with fail
  refine (trade_any ov mv lv L M most l d _ w3 HS3.out.made.cat HS3.out.made.req (by omega) HFI.out HS3.out.deal HS3.out.wf).mono ?_
  rintro _ w4 ⟨T, pt, ct, qt, et, rfl, hT, hre, hno, hb4⟩
  have HRE := Lib.hid hre
  have HNO := Lib.hid hno
  have hb5 := below_alloc1 w4 (.cells #[.slice pt T.seats.length ct, .slice qt T.waits.length et] 31)
  have hx9 := heap_alloc_new w4 (.cells #[.slice pt T.seats.length ct, .slice qt T.waits.length et] 31)
  have HT := Lib.hid (hT.below hb5)
  have hbb := below_next hb4 hb5
  have HS5 := Lib.hid (HS3.out.below hbb)
  have HB5 := Lib.hid (below_next HB3.out hbb)
  have hx85 := (hbb.block _ (lt_of_heap hx8)).trans hx8
  have HTW : Hid (∀ x ∈ T.seats, x.wf) := Lib.hid (reach_wf hre HRW.out HS3.out.wf)
  have HTL : Hid (T.seats.length = d.seats.length) := Lib.hid (reach_len hre)
  have htw : T.waits.length ≤ d.waits.length := reach_waits_len hre
  clear hre hno hb4 hb5 hT hbb hc8 HS3 HB3 hx8
  go_upto_region 4 with fail
  obtain ⟨b9, hb9⟩ : ∃ b, w4.heap.size = b := ⟨_, rfl⟩
  rw [hb9] at hx9 ⊢
  generalize w4.alloc _ = w5 at HT HS5 HB5 hx9 hx85 ⊢
  clear hb9
  have hc9 : ∀ j, w5.cell? ⟨b9, j, none⟩ = (#[.slice pt T.seats.length ct, .slice qt T.waits.length et] : Array Value)[j]? := fun j => Lib.cell_of_heap hx9 j
  have hc8 : ∀ j, w5.cell? ⟨b8, j, none⟩ = (#[.slice pd d.seats.length cd, .slice qd d.waits.length ed] : Array Value)[j]? := fun j => Lib.cell_of_heap hx85 j
  obtain ⟨hrd, hrdw⟩ := dealIn_rows HS5.out.deal
  obtain ⟨hrt, hrtw⟩ := dealIn_rows HT.out
  have hck := sw_check_ok HS5.out.made.cat hrd hrdw (by omega) HS5.out.wf HS5.out.ok
  have HRD := Lib.hid hrd
  have HRDW := Lib.hid hrdw
  have HRT := Lib.hid hrt
  have HRTW := Lib.hid hrtw
  clear hrd hrdw hrt hrtw
  go_wp2_with fail
  refine hck.mono ?_
  rintro _ w6 ⟨rfl, hb6⟩
  have hc96 : ∀ j, w6.cell? ⟨b9, j, none⟩ = (#[.slice pt T.seats.length ct, .slice qt T.waits.length et] : Array Value)[j]? := fun j => Lib.cell_of_heap ((hb6.block _ (lt_of_heap hx9)).trans hx9) j
  have hck2 := sw_check_ok (HS5.out.made.cat.below hb6) (HRT.out.below hb6) (HRTW.out.below hb6) (by have := HTL.out; omega) HTW.out (reach_ok HRE.out HS5.out.ok)
  clear hck hc8 hc9
  go_wp2_with fail
  refine hck2.mono ?_
  rintro _ w7 ⟨rfl, hb7⟩
  have hb57 := below_next hb6 hb7
  have hx87 := (hb57.block _ (lt_of_heap hx85)).trans hx85
  have hx97 := (hb57.block _ (lt_of_heap hx9)).trans hx9
  have hc8 : ∀ j, w7.cell? ⟨b8, j, none⟩ = (#[.slice pd d.seats.length cd, .slice qd d.waits.length ed] : Array Value)[j]? := fun j => Lib.cell_of_heap hx87 j
  have hc9 : ∀ j, w7.cell? ⟨b9, j, none⟩ = (#[.slice pt T.seats.length ct, .slice qt T.waits.length et] : Array Value)[j]? := fun j => Lib.cell_of_heap hx97 j
  have hne : ((T.seats.length : Int) != (d.seats.length : Int)) = false := by rw [HTL.out]; simp
  have hgt : decide ((d.waits.length : Int) < (T.waits.length : Int)) = false := decide_eq_false (by omega)
  have hgt2 : decide (d.waits.length < T.waits.length) = false := decide_eq_false (by omega)
  have HRD7 := Lib.hid (HRD.out.below hb57)
  have HRDW7 := Lib.hid (HRDW.out.below hb57)
  have HRT7 := Lib.hid (HRT.out.below hb57)
  have HRTW7 := Lib.hid (HRTW.out.below hb57)
  have HL7 := Lib.hid (HS5.out.made.req.below hb57)
  have HB7 := Lib.hid (below_next HB5.out hb57)
  obtain ⟨pl, cl, rfl, _⟩ := HL7.out.form
  have HLT : Hid (T.seats.length ≤ 10) := Lib.hid (by have := HTL.out; omega)
  clear hck2 hc96 hb6 hb7 hb57 HRD HRDW HRT HRTW HB5 hx85 hx9 HT HS5 HTW
  go_upto_region 6 with fail
  clear hne hgt hgt2
  go_wp2_with fail
  go_loopw [10] (fun i wr => ∃ k : Nat, k ≤ d.seats.length ∧ i = .int .i64 k ∧ RowKit.Below w7.heap.size w7 wr) (fun i _ => d.seats.length - (RowKit.intOf i).toNat)
  case atStart => exact ⟨0, Nat.zero_le _, rfl, Below.refl _ _⟩
  case round =>
    clear hc8 hc9
    obtain ⟨k, hk, rfl, hbr⟩ := hrel
    have hc8 : ∀ j, wr.cell? ⟨b8, j, none⟩ = (#[.slice pd d.seats.length cd, .slice qd d.waits.length ed] : Array Value)[j]? := fun j => Lib.cell_of_heap ((hbr.block _ (lt_of_heap hx87)).trans hx87) j
    by_cases hlt : k < d.seats.length
    · obtain ⟨g, of, c', hv, _, hgl, hx⟩ := HRD7.out.at_ (k := 2) (fun _ => rfl) (by omega)
      have e1 := (Value.slice.inj hv).1
      subst e1
      have hz := List.getElem?_eq_getElem hlt
      have hat := hx k _ hz
      have hkt : k < T.seats.length := by have := HTL.out; omega
      obtain ⟨g9, of9, c9', hv9, _, hgl9, hx9⟩ := HRT7.out.at_ (k := 2) (fun _ => rfl) (by omega)
      have e9 := (Value.slice.inj hv9).1
      subst e9
      have hz9 := List.getElem?_eq_getElem hkt
      have hat9 := hx9 k _ hz9
      have hst : T.seats[k].student = d.seats[k].student := by
        have h1 := reach_students HRE.out
        have h2 := congrArg (fun l => l[k]?) h1
        simp only [List.getElem?_map, hz, hz9, Option.map_some] at h2
        exact Option.some.inj h2
      generalize T.seats[k] = y at hz9 hat9 hst
      generalize d.seats[k] = x at hz hat hst
      have h0 : wr.cell? ⟨g, of + k * 2, none⟩ = some (.int .i64 x.student) := by rw [hbr.cell (p := ⟨g, of + k * 2, none⟩) hgl]; exact hat 0 _ rfl
      have h1 : wr.cell? ⟨g, of + k * 2 + 1, none⟩ = some (.string x.code) := by rw [hbr.cell (p := ⟨g, of + k * 2 + 1, none⟩) hgl]; exact hat 1 _ rfl
      have hy0 : wr.cell? ⟨g9, of9 + k * 2, none⟩ = some (.int .i64 x.student) := by rw [hbr.cell (p := ⟨g9, of9 + k * 2, none⟩) hgl9, ← hst]; exact hat9 0 _ rfl
      have hb1 := below_alloc1 wr (.cells #[.int .i64 x.student, .string x.code] 38)
      have hxx := heap_alloc_new wr (.cells #[.int .i64 x.student, .string x.code] 38)
      have hbr1 := below_next hbr hb1
      have hY := Lib.hid ((hb1.cell (p := ⟨g9, of9 + k * 2, none⟩) (Nat.lt_of_lt_of_le hgl9 hbr.size)).trans hy0)
      have hszr := hbr.size
      clear hv hx hz hat hv9 hx9 hz9 hat9 hst hy0
      go_upto_region 10 with fail
      obtain ⟨b11, hb11⟩ : ∃ b, wr.heap.size = b := ⟨_, rfl⟩
      rw [hb11] at hxx ⊢
      generalize wr.alloc _ = wa at hbr1 hxx hY ⊢
      clear hb11 h0 h1 hc8 hb1
      refine kp_r10 b8 b9 b11 g9 of9 k ct cd _ d T x wa _ ⟨lt_of_heap ((hbr1.block _ (lt_of_heap hx97)).trans hx97), Lib.cell_of_heap ((hbr1.block _ (lt_of_heap hx97)).trans hx97) 0⟩ ⟨lt_of_heap ((hbr1.block _ (lt_of_heap hx87)).trans hx87), Lib.cell_of_heap ((hbr1.block _ (lt_of_heap hx87)).trans hx87) 0⟩ ⟨lt_of_heap hxx, Lib.cell_of_heap hxx 0, Lib.cell_of_heap hxx 1⟩ ⟨Nat.lt_of_lt_of_le hgl9 hbr1.size, hY.out⟩ (HRD7.out.below hbr1) (HRT7.out.below hbr1) (by omega) (by have := HLT.out; omega) hkt (reach_cnt_student HRE.out x.student) (reach_cnt_code HRE.out x.code) ?_
      intros
      rename_i wx hwx
      have hbx := below_next hbr1 hwx
      clear hxx hY
      go_wp2_with fail
      go_roundw
      case rel => exact ⟨k + 1, by omega, by go_num, hbx⟩
      case measure => simp [RowKit.intOf]; omega
    · have hlt' : decide ((k : Int) < (d.seats.length : Int)) = false := decide_eq_false (by omega)
      go_upto_region 12 with fail
      clear hlt' hlt hk hc8
      go_wp2_with fail
      go_loopw [12] (fun i wr => ∃ k : Nat, k ≤ d.waits.length ∧ i = .int .i64 k ∧ RowKit.Below w7.heap.size w7 wr) (fun i _ => d.waits.length - (RowKit.intOf i).toNat)
      case atStart => exact ⟨0, Nat.zero_le _, rfl, hbr⟩
      case round =>
        clear hbr
        obtain ⟨k, hk, rfl, hbr⟩ := hrel
        have hc8 : ∀ j, wr.cell? ⟨b8, j, none⟩ = (#[.slice pd d.seats.length cd, .slice qd d.waits.length ed] : Array Value)[j]? := fun j => Lib.cell_of_heap ((hbr.block _ (lt_of_heap hx87)).trans hx87) j
        by_cases hlt : k < d.waits.length
        · obtain ⟨g, of, c', hv, _, hgl, hx⟩ := HRDW7.out.at_ (k := 2) (fun _ => rfl) (by omega)
          have e1 := (Value.slice.inj hv).1
          subst e1
          have hz := List.getElem?_eq_getElem hlt
          have hat := hx k _ hz
          have HIN := Lib.hid (List.getElem_mem hlt)
          generalize d.waits[k] = x at hz hat HIN
          have h0 : wr.cell? ⟨g, of + k * 2, none⟩ = some (.int .i64 x.student) := by rw [hbr.cell (p := ⟨g, of + k * 2, none⟩) hgl]; exact hat 0 _ rfl
          have h1 : wr.cell? ⟨g, of + k * 2 + 1, none⟩ = some (.string x.code) := by rw [hbr.cell (p := ⟨g, of + k * 2 + 1, none⟩) hgl]; exact hat 1 _ rfl
          have hb1 := below_alloc1 wr (.cells #[.int .i64 x.student, .string x.code] 38)
          have hxx := heap_alloc_new wr (.cells #[.int .i64 x.student, .string x.code] 38)
          have hbr1 := below_next hbr hb1
          clear hv hx hz hat
          go_upto_region 16 with fail
          obtain ⟨b13, hb13⟩ : ∃ b, wr.heap.size = b := ⟨_, rfl⟩
          rw [hb13] at hxx ⊢
          generalize wr.alloc _ = wa at hbr1 hxx ⊢
          clear hb13 h0 h1 hc8 hb1 hbr
          go_wp2_with fail
          go_loopw [14, 15] (fun a i wr => ∃ (j : Nat) (b : Bool), j ≤ l.length ∧ i = .int .i64 j ∧ a = .bool b ∧ Hid (b = (l.take j).any (asksB x)) ∧ RowKit.Below w7.heap.size w7 wr ∧ (∀ q, wr.cell? ⟨b13, q, none⟩ = (#[.int .i64 x.student, .string x.code] : Array Value)[q]?)) (fun _ i _ => l.length - (RowKit.intOf i).toNat)
          case atStart => exact ⟨0, false, Nat.zero_le _, rfl, rfl, Lib.hid (by simp), hbr1, fun q => Lib.cell_of_heap hxx q⟩
          case round =>
            clear hbr1 hxx
            obtain ⟨j, bb, hj, rfl, rfl, HA, hbj, hcx⟩ := hrel
            by_cases hjl : j < l.length
            · obtain ⟨gr, gof, cr, hv, _, hgr, hx⟩ := HL7.out.at_ (by omega)
              have e1 := (Value.slice.inj hv).1
              subst e1
              have hz := List.getElem?_eq_getElem hjl
              have HAN : Hid ((l.take (j + 1)).any (asksB x) = (bb || asksB x l[j])) := Lib.hid (by rw [List.take_add_one, hz, Option.toList_some, List.any_append, ← HA.out]; simp)
              have hcl : ∀ q u, l[j].cells.toList[q]? = some u → wr.cell? ⟨gr, gof + j * 9 + q, none⟩ = some u := fun q u hu => (hbj.cell (p := ⟨gr, gof + j * 9 + q, none⟩) hgr).trans (hx j _ hz q u hu)
              generalize l[j] = r at HAN hcl
              have x3 : wr.cell? ⟨gr, gof + j * 9 + 3, none⟩ = some (.int .i64 r.student) := hcl 3 _ rfl
              have x5 : wr.cell? ⟨gr, gof + j * 9 + 5, none⟩ = some (.string r.code) := hcl 5 _ rfl
              have x6 : wr.cell? ⟨gr, gof + j * 9 + 6, none⟩ = some (.string r.give) := hcl 6 _ rfl
              clear hv hx hz hcl HA
              have hjl' : (j : Int) < (l.length : Int) := by omega
              cases bb
              · by_cases h1 : r.student = x.student
                · have t1 : (r.student == x.student) = true := by simpa using h1
                  by_cases h2 : r.code = x.code
                  · have t2 : (r.code.toList == x.code.toList) = true := by rw [h2]; simp
                    by_cases h3 : r.give.size = 0
                    · have t3 : r.give.toList.isEmpty = true := by have := give_test r.give; rw [decide_eq_true h3] at this; simpa using this
                      have HN : Hid (false = (l.take (j + 1)).any (asksB x)) := Lib.hid (by rw [HAN.out]; simp [asksB, h3])
                      clear h1 h2 h3 HAN
                      go_wp2_with fail
                      go_quiet (fail)
                      go_wp2_with fail
                      go_roundw
                      case rel => exact ⟨j + 1, false, by omega, by go_num, rfl, HN, blw_drewN hbj _, hcx⟩
                      case measure => simp [RowKit.intOf]; omega
                    · have t3 : r.give.toList.isEmpty = false := by have := give_test r.give; rw [decide_eq_false h3] at this; simpa using this
                      have HN : Hid (true = (l.take (j + 1)).any (asksB x)) := Lib.hid (by rw [HAN.out]; simp [asksB, h1, h2, h3])
                      clear h1 h2 h3 HAN
                      go_wp2_with fail
                      go_quiet (fail)
                      go_wp2_with fail
                      go_roundw
                      case rel => exact ⟨j + 1, true, by omega, by go_num, rfl, HN, blw_drewN hbj _, hcx⟩
                      case measure => simp [RowKit.intOf]; omega
                  · have t2 : (r.code.toList == x.code.toList) = false := by simp [req_ba, h2]
                    have HN : Hid (false = (l.take (j + 1)).any (asksB x)) := Lib.hid (by rw [HAN.out]; simp [asksB, h2])
                    clear h1 h2 HAN
                    go_wp2_with fail
                    go_quiet (fail)
                    go_wp2_with fail
                    go_roundw
                    case rel => exact ⟨j + 1, false, by omega, by go_num, rfl, HN, blw_drewN hbj _, hcx⟩
                    case measure => simp [RowKit.intOf]; omega
                · have t1 : (r.student == x.student) = false := by simpa using h1
                  have HN : Hid (false = (l.take (j + 1)).any (asksB x)) := Lib.hid (by rw [HAN.out]; simp [asksB, h1])
                  clear h1 HAN
                  go_wp2_with fail
                  go_quiet (fail)
                  go_wp2_with fail
                  go_roundw
                  case rel => exact ⟨j + 1, false, by omega, by go_num, rfl, HN, blw_drewN hbj _, hcx⟩
                  case measure => simp [RowKit.intOf]; omega
              · have HN : Hid (true = (l.take (j + 1)).any (asksB x)) := Lib.hid (by rw [HAN.out]; rfl)
                clear HAN
                go_wp2_with fail
                go_quiet (fail)
                go_wp2_with fail
                go_roundw
                case rel => exact ⟨j + 1, true, by omega, by go_num, rfl, HN, blw_drewN hbj _, hcx⟩
                case measure => simp [RowKit.intOf]; omega
            · obtain rfl : j = l.length := by omega
              have hjl' : decide ((l.length : Int) < (l.length : Int)) = false := decide_eq_false (by omega)
              have hc9 : ∀ j, wr.cell? ⟨b9, j, none⟩ = (#[.slice pt T.seats.length ct, .slice qt T.waits.length et] : Array Value)[j]? := fun j => Lib.cell_of_heap ((hbj.block _ (lt_of_heap hx97)).trans hx97) j
              have chs := has29_any (.slice qt T.waits.length et) T.waits x wr (HRTW7.out.below hbj) (by omega)
              go_wp2_with fail
              refine chs.mono ?_
              rintro _ wh ⟨rfl, hb⟩
              have hbh := below_next hbj hb
              clear chs hc9 hb hbj hcx
              by_cases hin : x ∈ T.waits
              · rw [decide_eq_true hin]
                clear hin
                go_wp2_with fail
                go_roundw
                case rel => exact ⟨k + 1, by omega, by go_num, hbh⟩
                case measure => simp [RowKit.intOf]; omega
              · have hbb : bb = true := by
                  rw [HA.out, List.take_length]
                  rcases reach_waits_out HRE.out HIN.out with h | ⟨n, hn, hs, hg⟩
                  · exact absurd h hin
                  · refine List.any_eq_true.2 ⟨atR l n, atR_mem hn, ?_⟩
                    unfold asksB
                    rw [← hs]
                    simp [seatOf, hg]
                subst hbb
                rw [decide_eq_false hin]
                clear hin HA
                go_wp2_with fail
                go_roundw
                case rel => exact ⟨k + 1, by omega, by go_num, hbh⟩
                case measure => simp [RowKit.intOf]; omega
        · have hlt' : decide ((k : Int) < (d.waits.length : Int)) = false := decide_eq_false (by omega)
          go_upto_region 23 with fail
          clear hlt' hlt hk hc8
          go_wp2_with fail
          go_loopw [16] (fun i wr => ∃ k : Nat, k ≤ T.waits.length ∧ i = .int .i64 k ∧ RowKit.Below w7.heap.size w7 wr) (fun i _ => T.waits.length - (RowKit.intOf i).toNat)
          case atStart => exact ⟨0, Nat.zero_le _, rfl, hbr⟩
          case round =>
            clear hbr
            obtain ⟨k, hk, rfl, hbr⟩ := hrel
            have hc9 : ∀ j, wr.cell? ⟨b9, j, none⟩ = (#[.slice pt T.seats.length ct, .slice qt T.waits.length et] : Array Value)[j]? := fun j => Lib.cell_of_heap ((hbr.block _ (lt_of_heap hx97)).trans hx97) j
            by_cases hlt : k < T.waits.length
            · obtain ⟨g, of, c', hv, _, hgl, hx⟩ := HRTW7.out.at_ (k := 2) (fun _ => rfl) (by omega)
              have e1 := (Value.slice.inj hv).1
              subst e1
              have hz := List.getElem?_eq_getElem hlt
              have hat := hx k _ hz
              have hin := reach_waits_sub HRE.out (List.getElem_mem hlt)
              generalize T.waits[k] = x at hz hat hin
              have h0 : wr.cell? ⟨g, of + k * 2, none⟩ = some (.int .i64 x.student) := by rw [hbr.cell (p := ⟨g, of + k * 2, none⟩) hgl]; exact hat 0 _ rfl
              have h1 : wr.cell? ⟨g, of + k * 2 + 1, none⟩ = some (.string x.code) := by rw [hbr.cell (p := ⟨g, of + k * 2 + 1, none⟩) hgl]; exact hat 1 _ rfl
              have HX := Lib.hid hin
              have HC0 := Lib.hid h0
              have HC1 := Lib.hid h1
              clear hv hx hz hat hin h0 h1
              go_wp2_with fail
              refine kp_r26 b8 b9 g of k et ed _ d T x wr _ ⟨lt_of_heap ((hbr.block _ (lt_of_heap hx97)).trans hx97), Lib.cell_of_heap ((hbr.block _ (lt_of_heap hx97)).trans hx97) 1⟩ ⟨lt_of_heap ((hbr.block _ (lt_of_heap hx87)).trans hx87), Lib.cell_of_heap ((hbr.block _ (lt_of_heap hx87)).trans hx87) 1⟩ ⟨Nat.lt_of_lt_of_le hgl hbr.size, HC0.out, HC1.out⟩ (HRDW7.out.below hbr) (by omega) hlt HX.out ?_
              intros
              rename_i wx hwx
              have hbx := below_next hbr hwx
              clear hc9
              go_wp2_with fail
              go_roundw
              case rel => exact ⟨k + 1, by omega, by go_num, hbx⟩
              case measure => simp [RowKit.intOf]; omega
            · have hlt' : decide ((k : Int) < (T.waits.length : Int)) = false := decide_eq_false (by omega)
              go_wp2_with fail
              go_ret
              exact ⟨ret_bool rfl, below_next HB7.out hbr⟩
end Go.Proofs.YtjcogpalmgcpbaaGreat
