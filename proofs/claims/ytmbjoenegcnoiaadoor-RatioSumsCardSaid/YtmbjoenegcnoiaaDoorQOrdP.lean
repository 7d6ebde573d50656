/- Pieces of the law RatioOrder: its tests. -/
import Derived.Test.YtmbjoenegcnoiaaDoorQPcs
namespace Go.Proofs.YtmbjoenegcnoiaaDoor
open Go Go.RowKit Go.Sort Go.Lib

set_option maxHeartbeats 4000000 in
set_option maxRecDepth 100000 in
theorem ord_r10 {s0 s1 s2 s3 s5 s6 s7 s9 s10 s11 s12 s13 s14 s17 s18 s19 s20 s21 s22 s23 s24 s25 s26 s27 s28 s29 s30 s31 s32 s33 s34 s35 s36 s37 s38 s39 s40 s41 s42 s43 s44 s45 s46 s47 s48 s49 s50 s51 s52 s53 s54 s55 s56 s57 s58 s59 s60 s61 s62 s63 s64 s65 s66 s67 s68 s69 s70 s71 s72 s73 s74 s75 s76 s77 s78 s79 s80 s81 s82 s83 s84 s85 s86 s87 s88 s89 s90 s91 s92 s93 s94 s95 s96 s97 s98 s99 s100 s101 s102 s103 s104 s105 s106 s107 s108 s109 s110 s111 s112 s113 s114 s115 s116 s117 s118 s119 s120 s121 s122 s123 s124 s125 s126 s127 s128 s129 s130 s131 s132 s133 s134 s135 s136 s137 s138 s139 s140 s141 s142 s143 s144 s145 s146 s147 s148 s149 s150 s151 s152 s153 s154 s155 s156 s157 s158 s159 s160 s161 s162 s163 s164 s165 s166 s167 s168 s169 s170 s171 s172 s173 s174 : Value} (yb b0 : Nat) (xe ye yn yd an ad : Int) (W : World) (Q : Exit → Act → World → Prop) (h : xe = 0 → ye = 0 ∧ yn = an ∧ yd = ad) (fY0 : W.cell? ⟨yb, 0, none⟩ = some (.int .i64 yn)) (fY1 : W.cell? ⟨yb, 1, none⟩ = some (.int .i64 yd)) (fA0 : W.cell? ⟨b0, 0, none⟩ = some (.int .i64 an)) (fA1 : W.cell? ⟨b0, 1, none⟩ = some (.int .i64 ad))
    (hQ : ∀ (u92 u93 u94 u95 u96 u97 u98 u99 u100 u101 : Value), Q .normal ⟨List.toArray (s0 :: s1 :: s2 :: s3 :: .pointer (some ⟨b0, 0, none⟩) :: s5 :: s6 :: s7 :: .int .i64 xe :: s9 :: s10 :: s11 :: s12 :: s13 :: s14 :: .pointer (some ⟨yb, 0, none⟩) :: .int .i64 ye :: s17 :: s18 :: s19 :: s20 :: s21 :: s22 :: s23 :: s24 :: s25 :: s26 :: s27 :: s28 :: s29 :: s30 :: s31 :: s32 :: s33 :: s34 :: s35 :: s36 :: s37 :: s38 :: s39 :: s40 :: s41 :: s42 :: s43 :: s44 :: s45 :: s46 :: s47 :: s48 :: s49 :: s50 :: s51 :: s52 :: s53 :: s54 :: s55 :: s56 :: s57 :: s58 :: s59 :: s60 :: s61 :: s62 :: s63 :: s64 :: s65 :: s66 :: s67 :: s68 :: s69 :: s70 :: s71 :: s72 :: s73 :: s74 :: s75 :: s76 :: s77 :: s78 :: s79 :: s80 :: s81 :: s82 :: s83 :: s84 :: s85 :: s86 :: s87 :: s88 :: s89 :: s90 :: s91 :: u92 :: u93 :: u94 :: u95 :: u96 :: u97 :: u98 :: u99 :: u100 :: u101 :: .bool false :: s103 :: s104 :: s105 :: s106 :: s107 :: s108 :: s109 :: s110 :: s111 :: s112 :: s113 :: s114 :: s115 :: s116 :: s117 :: s118 :: s119 :: s120 :: s121 :: s122 :: s123 :: s124 :: s125 :: s126 :: s127 :: s128 :: s129 :: s130 :: s131 :: s132 :: s133 :: s134 :: s135 :: s136 :: s137 :: s138 :: s139 :: s140 :: s141 :: s142 :: s143 :: s144 :: s145 :: s146 :: s147 :: s148 :: s149 :: s150 :: s151 :: s152 :: s153 :: s154 :: s155 :: s156 :: s157 :: s158 :: s159 :: s160 :: s161 :: s162 :: s163 :: s164 :: s165 :: s166 :: s167 :: s168 :: s169 :: s170 :: s171 :: s172 :: s173 :: s174 :: []), []⟩ W) :
    (regionOf Tryd.f7 10).wp Tryd.prog Q ⟨List.toArray (s0 :: s1 :: s2 :: s3 :: .pointer (some ⟨b0, 0, none⟩) :: s5 :: s6 :: s7 :: .int .i64 xe :: s9 :: s10 :: s11 :: s12 :: s13 :: s14 :: .pointer (some ⟨yb, 0, none⟩) :: .int .i64 ye :: s17 :: s18 :: s19 :: s20 :: s21 :: s22 :: s23 :: s24 :: s25 :: s26 :: s27 :: s28 :: s29 :: s30 :: s31 :: s32 :: s33 :: s34 :: s35 :: s36 :: s37 :: s38 :: s39 :: s40 :: s41 :: s42 :: s43 :: s44 :: s45 :: s46 :: s47 :: s48 :: s49 :: s50 :: s51 :: s52 :: s53 :: s54 :: s55 :: s56 :: s57 :: s58 :: s59 :: s60 :: s61 :: s62 :: s63 :: s64 :: s65 :: s66 :: s67 :: s68 :: s69 :: s70 :: s71 :: s72 :: s73 :: s74 :: s75 :: s76 :: s77 :: s78 :: s79 :: s80 :: s81 :: s82 :: s83 :: s84 :: s85 :: s86 :: s87 :: s88 :: s89 :: s90 :: s91 :: s92 :: s93 :: s94 :: s95 :: s96 :: s97 :: s98 :: s99 :: s100 :: s101 :: s102 :: s103 :: s104 :: s105 :: s106 :: s107 :: s108 :: s109 :: s110 :: s111 :: s112 :: s113 :: s114 :: s115 :: s116 :: s117 :: s118 :: s119 :: s120 :: s121 :: s122 :: s123 :: s124 :: s125 :: s126 :: s127 :: s128 :: s129 :: s130 :: s131 :: s132 :: s133 :: s134 :: s135 :: s136 :: s137 :: s138 :: s139 :: s140 :: s141 :: s142 :: s143 :: s144 :: s145 :: s146 :: s147 :: s148 :: s149 :: s150 :: s151 :: s152 :: s153 :: s154 :: s155 :: s156 :: s157 :: s158 :: s159 :: s160 :: s161 :: s162 :: s163 :: s164 :: s165 :: s166 :: s167 :: s168 :: s169 :: s170 :: s171 :: s172 :: s173 :: s174 :: []), []⟩ W := by
  refine of_onlyN (K := Q .normal) ?_ (fun _ _ h => h)
  generalize Q .normal = K at hQ ⊢
  have HQ := Lib.hid hQ; clear hQ
  conv => arg 2; whnf
  by_cases hx : xe = 0
  · obtain ⟨rfl, rfl, rfl⟩ := h hx
    subst hx
    clear h
    go_wp2_with fail
    exact HQ.out _ _ _ _ _ _ _ _ _ _
  · have hx' : (xe == 0) = false := by simpa using hx
    clear h hx
    go_wp2_with fail
    exact HQ.out _ _ _ _ _ _ _ _ _ _

theorem six_next {W w w' : World} {a b c : Nat} {x0 x1 y0 y1 z0 z1 : Value} (h : RowKit.Below W.heap.size W w ∧ w.cell? ⟨a, 0, none⟩ = some x0 ∧ w.cell? ⟨a, 1, none⟩ = some x1 ∧ w.cell? ⟨b, 0, none⟩ = some y0 ∧ w.cell? ⟨b, 1, none⟩ = some y1 ∧ w.cell? ⟨c, 0, none⟩ = some z0 ∧ w.cell? ⟨c, 1, none⟩ = some z1) (hb : RowKit.Below w.heap.size w w') :
    RowKit.Below W.heap.size W w' ∧ w'.cell? ⟨a, 0, none⟩ = some x0 ∧ w'.cell? ⟨a, 1, none⟩ = some x1 ∧ w'.cell? ⟨b, 0, none⟩ = some y0 ∧ w'.cell? ⟨b, 1, none⟩ = some y1 ∧ w'.cell? ⟨c, 0, none⟩ = some z0 ∧ w'.cell? ⟨c, 1, none⟩ = some z1 :=
  ⟨h.1.trans (hb.mono h.1.size), mv0 hb h.2.1, mv0 hb h.2.2.1, mv0 hb h.2.2.2.1, mv0 hb h.2.2.2.2.1, mv0 hb h.2.2.2.2.2.1, mv0 hb h.2.2.2.2.2.2⟩

set_option maxHeartbeats 4000000 in
set_option maxRecDepth 100000 in
theorem ord_r13 {s0 s1 s2 s3 s6 s7 s8 s9 s10 s11 s12 s13 s14 s15 s16 s19 s20 s21 s22 s23 s24 s25 s26 s27 s28 s29 s30 s31 s32 s33 s34 s35 s36 s37 s38 s39 s40 s41 s42 s43 s44 s45 s46 s47 s48 s49 s50 s51 s52 s53 s54 s55 s56 s57 s58 s59 s60 s61 s62 s63 s64 s65 s66 s67 s68 s69 s70 s71 s72 s73 s74 s75 s76 s77 s78 s79 s80 s81 s82 s83 s84 s85 s86 s87 s88 s89 s90 s91 s92 s93 s94 s95 s96 s97 s98 s99 s100 s101 s102 s103 s104 s105 s106 s107 s108 s109 s110 s111 s112 s113 s114 s115 s116 s117 s118 s119 s120 s121 s122 s123 s124 s125 s126 s127 s128 s129 s130 s131 s132 s133 s134 s135 s136 s137 s138 s139 s140 s141 s142 s143 s144 s145 s146 s147 s148 s149 s150 s151 s152 s153 s154 s155 s156 s157 s158 s159 s160 s161 s162 s163 s164 s165 s166 s167 s168 s169 s170 s171 s172 s173 s174 : Value} (db b0 b1 : Nat) (de dn dd an ad bn bd cD o : Int) (W : World) (Q : Exit → Act → World → Prop) (h : de = 0 → cD = o) (e7 : ∀ w, Calls Tryd.prog 24 #[.agg #[.int .i64 dn, .int .i64 dd], .agg #[.int .i64 0, .int .i64 1]] w fun e w' => e = .returned (.int .i64 (cD)) ∧ RowKit.Below w.heap.size w w') (e8 : ∀ w, Calls Tryd.prog 24 #[.agg #[.int .i64 an, .int .i64 ad], .agg #[.int .i64 bn, .int .i64 bd]] w fun e w' => e = .returned (.int .i64 (o)) ∧ RowKit.Below w.heap.size w w') (fD0 : W.cell? ⟨db, 0, none⟩ = some (.int .i64 dn)) (fD1 : W.cell? ⟨db, 1, none⟩ = some (.int .i64 dd)) (fA0 : W.cell? ⟨b0, 0, none⟩ = some (.int .i64 an)) (fA1 : W.cell? ⟨b0, 1, none⟩ = some (.int .i64 ad)) (fB0 : W.cell? ⟨b1, 0, none⟩ = some (.int .i64 bn)) (fB1 : W.cell? ⟨b1, 1, none⟩ = some (.int .i64 bd))
    (hQ : ∀ (u109 u110 u111 u112 u113 u114 u115 u116 u117 u118 : Value) (wx : World), RowKit.Below W.heap.size W wx → Q .normal ⟨List.toArray (s0 :: s1 :: s2 :: s3 :: .pointer (some ⟨b0, 0, none⟩) :: .pointer (some ⟨b1, 0, none⟩) :: s6 :: s7 :: s8 :: s9 :: s10 :: s11 :: s12 :: s13 :: s14 :: s15 :: s16 :: .pointer (some ⟨db, 0, none⟩) :: .int .i64 de :: s19 :: s20 :: s21 :: s22 :: s23 :: s24 :: s25 :: s26 :: s27 :: s28 :: s29 :: s30 :: s31 :: s32 :: s33 :: s34 :: s35 :: s36 :: s37 :: s38 :: s39 :: s40 :: s41 :: s42 :: s43 :: s44 :: s45 :: s46 :: s47 :: s48 :: s49 :: s50 :: s51 :: s52 :: s53 :: s54 :: s55 :: s56 :: s57 :: s58 :: s59 :: s60 :: s61 :: s62 :: s63 :: s64 :: s65 :: s66 :: s67 :: s68 :: s69 :: s70 :: s71 :: s72 :: s73 :: s74 :: s75 :: s76 :: s77 :: s78 :: s79 :: s80 :: s81 :: s82 :: s83 :: s84 :: s85 :: s86 :: s87 :: s88 :: s89 :: s90 :: s91 :: s92 :: s93 :: s94 :: s95 :: s96 :: s97 :: s98 :: s99 :: s100 :: s101 :: s102 :: s103 :: s104 :: s105 :: s106 :: s107 :: s108 :: u109 :: u110 :: u111 :: u112 :: u113 :: u114 :: u115 :: u116 :: u117 :: u118 :: .bool false :: s120 :: s121 :: s122 :: s123 :: s124 :: s125 :: s126 :: s127 :: s128 :: s129 :: s130 :: s131 :: s132 :: s133 :: s134 :: s135 :: s136 :: s137 :: s138 :: s139 :: s140 :: s141 :: s142 :: s143 :: s144 :: s145 :: s146 :: s147 :: s148 :: s149 :: s150 :: s151 :: s152 :: s153 :: s154 :: s155 :: s156 :: s157 :: s158 :: s159 :: s160 :: s161 :: s162 :: s163 :: s164 :: s165 :: s166 :: s167 :: s168 :: s169 :: s170 :: s171 :: s172 :: s173 :: s174 :: []), []⟩ wx) :
    (regionOf Tryd.f7 13).wp Tryd.prog Q ⟨List.toArray (s0 :: s1 :: s2 :: s3 :: .pointer (some ⟨b0, 0, none⟩) :: .pointer (some ⟨b1, 0, none⟩) :: s6 :: s7 :: s8 :: s9 :: s10 :: s11 :: s12 :: s13 :: s14 :: s15 :: s16 :: .pointer (some ⟨db, 0, none⟩) :: .int .i64 de :: s19 :: s20 :: s21 :: s22 :: s23 :: s24 :: s25 :: s26 :: s27 :: s28 :: s29 :: s30 :: s31 :: s32 :: s33 :: s34 :: s35 :: s36 :: s37 :: s38 :: s39 :: s40 :: s41 :: s42 :: s43 :: s44 :: s45 :: s46 :: s47 :: s48 :: s49 :: s50 :: s51 :: s52 :: s53 :: s54 :: s55 :: s56 :: s57 :: s58 :: s59 :: s60 :: s61 :: s62 :: s63 :: s64 :: s65 :: s66 :: s67 :: s68 :: s69 :: s70 :: s71 :: s72 :: s73 :: s74 :: s75 :: s76 :: s77 :: s78 :: s79 :: s80 :: s81 :: s82 :: s83 :: s84 :: s85 :: s86 :: s87 :: s88 :: s89 :: s90 :: s91 :: s92 :: s93 :: s94 :: s95 :: s96 :: s97 :: s98 :: s99 :: s100 :: s101 :: s102 :: s103 :: s104 :: s105 :: s106 :: s107 :: s108 :: s109 :: s110 :: s111 :: s112 :: s113 :: s114 :: s115 :: s116 :: s117 :: s118 :: s119 :: s120 :: s121 :: s122 :: s123 :: s124 :: s125 :: s126 :: s127 :: s128 :: s129 :: s130 :: s131 :: s132 :: s133 :: s134 :: s135 :: s136 :: s137 :: s138 :: s139 :: s140 :: s141 :: s142 :: s143 :: s144 :: s145 :: s146 :: s147 :: s148 :: s149 :: s150 :: s151 :: s152 :: s153 :: s154 :: s155 :: s156 :: s157 :: s158 :: s159 :: s160 :: s161 :: s162 :: s163 :: s164 :: s165 :: s166 :: s167 :: s168 :: s169 :: s170 :: s171 :: s172 :: s173 :: s174 :: []), []⟩ W := by
  refine of_onlyN (K := Q .normal) ?_ (fun _ _ h => h)
  generalize Q .normal = K at hQ ⊢
  have HQ := Lib.hid hQ; clear hQ
  conv => arg 2; whnf
  have hS0 := six_next ⟨Below.refl W.heap.size W, fD0, fD1, fA0, fA1, fB0, fB1⟩ (Below.refl _ _).drew
  by_cases hx : de = 0
  · obtain rfl := h hx
    subst hx
    clear h
    refine of_onlyN ?_ (fun _ _ h => h)
    refine wp_region_flow (S := fun w' => RowKit.Below W.heap.size W w' ∧ w'.cell? ⟨db, 0, none⟩ = some (.int .i64 dn) ∧ w'.cell? ⟨db, 1, none⟩ = some (.int .i64 dd) ∧ w'.cell? ⟨b0, 0, none⟩ = some (.int .i64 an) ∧ w'.cell? ⟨b0, 1, none⟩ = some (.int .i64 ad) ∧ w'.cell? ⟨b1, 0, none⟩ = some (.int .i64 bn) ∧ w'.cell? ⟨b1, 1, none⟩ = some (.int .i64 bd)) [(0, true), (1, true), (2, true), (3, true), (4, true), (6, true), (7, true), (5, false), (8, false), (9, true), (10, true)] (by kernel_rfl) (by kernel_rfl) (by kernel_rfl) (by decide) (hS0) ?_
    have hS := hS0
    refine flow_take ⟨some 109, _, _, _, _, _⟩ ?_ rfl (by rfl) ?_ ?_
    rotate_left 1
    · intro w hSw; (try dsimp only at hSw); go_simp; (try with_reducible rfl)
    simp only [Act.put, List.setIfInBounds_toArray, List.set_cons_zero, List.set_cons_succ]
    refine flow_take ⟨some 110, _, _, _, _, _⟩ ?_ rfl (by rfl) ?_ ?_
    rotate_left 1
    · intro w hSw; (try dsimp only at hSw); go_simp; (try with_reducible rfl)
    simp only [Act.put, List.setIfInBounds_toArray, List.set_cons_zero, List.set_cons_succ]
    refine flow_take ⟨some 111, _, _, _, _, _⟩ ?_ rfl (by rfl) ?_ ?_
    rotate_left 1
    · intro w hSw; (try dsimp only at hSw); go_simp; (try with_reducible rfl)
    simp only [Act.put, List.setIfInBounds_toArray, List.set_cons_zero, List.set_cons_succ]
    refine flow_take ⟨some 112, _, _, _, _, _⟩ ?_ rfl (by rfl) ?_ ?_
    rotate_left 1
    · intro w hSw; (try dsimp only at hSw); go_simp; (try with_reducible rfl)
    simp only [Act.put, List.setIfInBounds_toArray, List.set_cons_zero, List.set_cons_succ]
    refine flow_take ⟨some 113, _, _, _, _, _⟩ ?_ rfl (by rfl) ?_ ?_
    rotate_left 1
    · intro w hSw; (try dsimp only at hSw); go_simp; (try with_reducible rfl)
    simp only [Act.put, List.setIfInBounds_toArray, List.set_cons_zero, List.set_cons_succ]
    refine flow_take ⟨some 115, _, _, _, _, _⟩ ?_ rfl (by rfl) ?_ ?_
    rotate_left 1
    · intro w hSw; (try dsimp only at hSw); go_simp; (try with_reducible rfl)
    simp only [Act.put, List.setIfInBounds_toArray, List.set_cons_zero, List.set_cons_succ]
    refine flow_take ⟨some 116, _, _, _, _, _⟩ ?_ rfl (by rfl) ?_ ?_
    rotate_left 1
    · intro w hSw; (try dsimp only at hSw); go_simp; (try with_reducible rfl)
    simp only [Act.put, List.setIfInBounds_toArray, List.set_cons_zero, List.set_cons_succ]
    (first | (refine flow_call ⟨some 114, _, _, _, _, _⟩ rfl (by rfl) 24 _ _ (by rfl) _ (by rfl) Tryd.call24 (e7 _) ?_; rintro x wn ⟨rfl, hb⟩; replace hS := six_next hS hb; refine ⟨_, rfl, hS, ?_⟩; (try clear hb)) | (refine flow_call ⟨some 114, _, _, _, _, _⟩ rfl (by rfl) 24 _ _ (by rfl) _ (by rfl) Tryd.call24 (e8 _) ?_; rintro x wn ⟨rfl, hb⟩; replace hS := six_next hS hb; refine ⟨_, rfl, hS, ?_⟩; (try clear hb)))
    simp only [Act.put, List.setIfInBounds_toArray, List.set_cons_zero, List.set_cons_succ]
    (first | (refine flow_call ⟨some 117, _, _, _, _, _⟩ rfl (by rfl) 24 _ _ (by rfl) _ (by rfl) Tryd.call24 (e7 _) ?_; rintro x wn ⟨rfl, hb⟩; replace hS := six_next hS hb; refine ⟨_, rfl, hS, ?_⟩; (try clear hb)) | (refine flow_call ⟨some 117, _, _, _, _, _⟩ rfl (by rfl) 24 _ _ (by rfl) _ (by rfl) Tryd.call24 (e8 _) ?_; rintro x wn ⟨rfl, hb⟩; replace hS := six_next hS hb; refine ⟨_, rfl, hS, ?_⟩; (try clear hb)))
    simp only [Act.put, List.setIfInBounds_toArray, List.set_cons_zero, List.set_cons_succ]
    refine flow_take ⟨some 118, _, _, _, _, _⟩ ?_ rfl (by rfl) ?_ ?_
    rotate_left 1
    · intro w hSw; (try dsimp only at hSw); go_simp; (try with_reducible rfl)
    simp only [Act.put, List.setIfInBounds_toArray, List.set_cons_zero, List.set_cons_succ]
    refine flow_take ⟨some 119, _, _, _, _, _⟩ ?_ rfl (by rfl) ?_ ?_
    rotate_left 1
    · intro w hSw; (try dsimp only at hSw); go_simp; (try with_reducible rfl)
    simp only [Act.put, List.setIfInBounds_toArray, List.set_cons_zero, List.set_cons_succ]
    simp only [wpFlow, OnlyN]
    exact HQ.out _ _ _ _ _ _ _ _ _ _ _ hS.1
  · have hx' : (de == 0) = false := by simpa using hx
    clear h hx
    refine of_onlyN ?_ (fun _ _ h => h)
    refine wp_region_flow (S := fun w' => RowKit.Below W.heap.size W w' ∧ w'.cell? ⟨db, 0, none⟩ = some (.int .i64 dn) ∧ w'.cell? ⟨db, 1, none⟩ = some (.int .i64 dd) ∧ w'.cell? ⟨b0, 0, none⟩ = some (.int .i64 an) ∧ w'.cell? ⟨b0, 1, none⟩ = some (.int .i64 ad) ∧ w'.cell? ⟨b1, 0, none⟩ = some (.int .i64 bn) ∧ w'.cell? ⟨b1, 1, none⟩ = some (.int .i64 bd)) [(0, true), (1, true), (2, true), (3, true), (4, true), (6, true), (7, true), (5, false), (8, false), (9, true), (10, true)] (by kernel_rfl) (by kernel_rfl) (by kernel_rfl) (by decide) (hS0) ?_
    have hS := hS0
    refine flow_take ⟨some 109, _, _, _, _, _⟩ ?_ rfl (by rfl) ?_ ?_
    rotate_left 1
    · intro w hSw; (try dsimp only at hSw); go_simp; (try with_reducible rfl)
    simp only [Act.put, List.setIfInBounds_toArray, List.set_cons_zero, List.set_cons_succ]
    refine flow_take ⟨some 110, _, _, _, _, _⟩ ?_ rfl (by rfl) ?_ ?_
    rotate_left 1
    · intro w hSw; (try dsimp only at hSw); go_simp; (try with_reducible rfl)
    simp only [Act.put, List.setIfInBounds_toArray, List.set_cons_zero, List.set_cons_succ]
    refine flow_take ⟨some 111, _, _, _, _, _⟩ ?_ rfl (by rfl) ?_ ?_
    rotate_left 1
    · intro w hSw; (try dsimp only at hSw); go_simp; (try with_reducible rfl)
    simp only [Act.put, List.setIfInBounds_toArray, List.set_cons_zero, List.set_cons_succ]
    refine flow_skip ⟨some 112, _, _, _, _, _⟩ rfl (by rfl) ?_
    simp only [Act.put, List.setIfInBounds_toArray, List.set_cons_zero, List.set_cons_succ]
    refine flow_skip ⟨some 113, _, _, _, _, _⟩ rfl (by rfl) ?_
    simp only [Act.put, List.setIfInBounds_toArray, List.set_cons_zero, List.set_cons_succ]
    refine flow_skip ⟨some 115, _, _, _, _, _⟩ rfl (by rfl) ?_
    simp only [Act.put, List.setIfInBounds_toArray, List.set_cons_zero, List.set_cons_succ]
    refine flow_skip ⟨some 116, _, _, _, _, _⟩ rfl (by rfl) ?_
    simp only [Act.put, List.setIfInBounds_toArray, List.set_cons_zero, List.set_cons_succ]
    refine flow_skip' ⟨some 114, _, _, _, _, _⟩ rfl (by rfl) hS ?_
    simp only [Act.put, List.setIfInBounds_toArray, List.set_cons_zero, List.set_cons_succ]
    refine flow_skip' ⟨some 117, _, _, _, _, _⟩ rfl (by rfl) hS ?_
    simp only [Act.put, List.setIfInBounds_toArray, List.set_cons_zero, List.set_cons_succ]
    refine flow_skip ⟨some 118, _, _, _, _, _⟩ rfl (by rfl) ?_
    simp only [Act.put, List.setIfInBounds_toArray, List.set_cons_zero, List.set_cons_succ]
    refine flow_take ⟨some 119, _, _, _, _, _⟩ ?_ rfl (by rfl) ?_ ?_
    rotate_left 1
    · intro w hSw; (try dsimp only at hSw); go_simp; (try with_reducible rfl)
    simp only [Act.put, List.setIfInBounds_toArray, List.set_cons_zero, List.set_cons_succ]
    simp only [wpFlow, OnlyN]
    exact HQ.out _ _ _ _ _ _ _ _ _ _ _ hS.1

set_option maxHeartbeats 4000000 in
set_option maxRecDepth 100000 in
theorem ord_r16 {s0 s1 s2 s3 s6 s7 s8 s9 s10 s11 s12 s13 s14 s15 s16 s17 s18 s22 s23 s24 s25 s26 s27 s28 s29 s30 s31 s32 s33 s34 s35 s36 s37 s38 s39 s40 s41 s42 s43 s44 s45 s46 s47 s48 s49 s50 s51 s52 s53 s54 s55 s56 s57 s58 s59 s60 s61 s62 s63 s64 s65 s66 s67 s68 s69 s70 s71 s72 s73 s74 s75 s76 s77 s78 s79 s80 s81 s82 s83 s84 s85 s86 s87 s88 s89 s90 s91 s92 s93 s94 s95 s96 s97 s98 s99 s100 s101 s102 s103 s104 s105 s106 s107 s108 s109 s110 s111 s112 s113 s114 s115 s116 s117 s118 s119 s120 s121 s122 s123 s124 s125 s126 s127 s128 s129 s130 s131 s132 s133 s134 s135 s136 s137 s138 s139 s140 s141 s142 s143 s144 s145 s146 s147 s148 s149 s150 s151 s152 s153 s154 s155 s156 s157 s158 s159 s160 s161 s162 s163 s164 s165 s166 s167 s168 s169 s170 s171 s172 s173 s174 : Value} (b0 b1 : Nat) (an ad bn bd o t u : Int) (W : World) (Q : Exit → Act → World → Prop) (h0 : o = 0 → an = bn ∧ ad = bd) (h1 : 0 < o → 0 < t → 0 < u) (h2 : o < 0 → t < 0 → u < 0) (v1 : o = -1 ∨ o = 0 ∨ o = 1) (v2 : t = -1 ∨ t = 0 ∨ t = 1) (v3 : u = -1 ∨ u = 0 ∨ u = 1) (e11 : ∀ w, Calls Tryd.prog 24 #[.agg #[.int .i64 bn, .int .i64 bd], .agg #[.int .i64 an, .int .i64 ad]] w fun e w' => e = .returned (.int .i64 (-o)) ∧ RowKit.Below w.heap.size w w') (fA0 : W.cell? ⟨b0, 0, none⟩ = some (.int .i64 an)) (fA1 : W.cell? ⟨b0, 1, none⟩ = some (.int .i64 ad)) (fB0 : W.cell? ⟨b1, 0, none⟩ = some (.int .i64 bn)) (fB1 : W.cell? ⟨b1, 1, none⟩ = some (.int .i64 bd))
    (hQ : ∀ (u129 u130 u131 u132 u133 u134 u135 u136 u137 u138 u139 u140 u141 u142 u143 u144 u145 u146 u147 u148 u149 u150 u151 u152 u153 u154 u155 u156 u157 u158 u159 u160 u161 u162 u163 u164 u165 u166 : Value) (wx : World), RowKit.Below W.heap.size W wx → Q .normal ⟨List.toArray (s0 :: s1 :: s2 :: s3 :: .pointer (some ⟨b0, 0, none⟩) :: .pointer (some ⟨b1, 0, none⟩) :: s6 :: s7 :: s8 :: s9 :: s10 :: s11 :: s12 :: s13 :: s14 :: s15 :: s16 :: s17 :: s18 :: .int .i64 o :: .int .i64 t :: .int .i64 u :: s22 :: s23 :: s24 :: s25 :: s26 :: s27 :: s28 :: s29 :: s30 :: s31 :: s32 :: s33 :: s34 :: s35 :: s36 :: s37 :: s38 :: s39 :: s40 :: s41 :: s42 :: s43 :: s44 :: s45 :: s46 :: s47 :: s48 :: s49 :: s50 :: s51 :: s52 :: s53 :: s54 :: s55 :: s56 :: s57 :: s58 :: s59 :: s60 :: s61 :: s62 :: s63 :: s64 :: s65 :: s66 :: s67 :: s68 :: s69 :: s70 :: s71 :: s72 :: s73 :: s74 :: s75 :: s76 :: s77 :: s78 :: s79 :: s80 :: s81 :: s82 :: s83 :: s84 :: s85 :: s86 :: s87 :: s88 :: s89 :: s90 :: s91 :: s92 :: s93 :: s94 :: s95 :: s96 :: s97 :: s98 :: s99 :: s100 :: s101 :: s102 :: s103 :: s104 :: s105 :: s106 :: s107 :: s108 :: s109 :: s110 :: s111 :: s112 :: s113 :: s114 :: s115 :: s116 :: s117 :: s118 :: s119 :: s120 :: s121 :: s122 :: s123 :: s124 :: s125 :: s126 :: s127 :: s128 :: u129 :: u130 :: u131 :: u132 :: u133 :: u134 :: u135 :: u136 :: u137 :: u138 :: u139 :: u140 :: u141 :: u142 :: u143 :: u144 :: u145 :: u146 :: u147 :: u148 :: u149 :: u150 :: u151 :: u152 :: u153 :: u154 :: u155 :: u156 :: u157 :: u158 :: u159 :: u160 :: u161 :: u162 :: u163 :: u164 :: u165 :: u166 :: .bool false :: s168 :: s169 :: s170 :: s171 :: s172 :: s173 :: s174 :: []), []⟩ wx) :
    (regionOf Tryd.f7 16).wp Tryd.prog Q ⟨List.toArray (s0 :: s1 :: s2 :: s3 :: .pointer (some ⟨b0, 0, none⟩) :: .pointer (some ⟨b1, 0, none⟩) :: s6 :: s7 :: s8 :: s9 :: s10 :: s11 :: s12 :: s13 :: s14 :: s15 :: s16 :: s17 :: s18 :: .int .i64 o :: .int .i64 t :: .int .i64 u :: s22 :: s23 :: s24 :: s25 :: s26 :: s27 :: s28 :: s29 :: s30 :: s31 :: s32 :: s33 :: s34 :: s35 :: s36 :: s37 :: s38 :: s39 :: s40 :: s41 :: s42 :: s43 :: s44 :: s45 :: s46 :: s47 :: s48 :: s49 :: s50 :: s51 :: s52 :: s53 :: s54 :: s55 :: s56 :: s57 :: s58 :: s59 :: s60 :: s61 :: s62 :: s63 :: s64 :: s65 :: s66 :: s67 :: s68 :: s69 :: s70 :: s71 :: s72 :: s73 :: s74 :: s75 :: s76 :: s77 :: s78 :: s79 :: s80 :: s81 :: s82 :: s83 :: s84 :: s85 :: s86 :: s87 :: s88 :: s89 :: s90 :: s91 :: s92 :: s93 :: s94 :: s95 :: s96 :: s97 :: s98 :: s99 :: s100 :: s101 :: s102 :: s103 :: s104 :: s105 :: s106 :: s107 :: s108 :: s109 :: s110 :: s111 :: s112 :: s113 :: s114 :: s115 :: s116 :: s117 :: s118 :: s119 :: s120 :: s121 :: s122 :: s123 :: s124 :: s125 :: s126 :: s127 :: s128 :: s129 :: s130 :: s131 :: s132 :: s133 :: s134 :: s135 :: s136 :: s137 :: s138 :: s139 :: s140 :: s141 :: s142 :: s143 :: s144 :: s145 :: s146 :: s147 :: s148 :: s149 :: s150 :: s151 :: s152 :: s153 :: s154 :: s155 :: s156 :: s157 :: s158 :: s159 :: s160 :: s161 :: s162 :: s163 :: s164 :: s165 :: s166 :: s167 :: s168 :: s169 :: s170 :: s171 :: s172 :: s173 :: s174 :: []), []⟩ W := by
  refine of_onlyN (K := Q .normal) ?_ (fun _ _ h => h)
  generalize Q .normal = K at hQ ⊢
  have HQ := Lib.hid hQ; clear hQ
  conv => arg 2; whnf
  rcases v1 with rfl | rfl | rfl
  · rcases v2 with rfl | rfl | rfl
    · have : u = -1 := by have := h2 (by omega) (by omega); omega
      subst this
      clear h0 h1 h2 v3
      go_wp2_with fail
      refine (e11 _).mono ?_
      rintro x w1 ⟨rfl, hb⟩
      replace fA0 := mv0 hb fA0; replace fA1 := mv0 hb fA1; replace fB0 := mv0 hb fB0; replace fB1 := mv0 hb fB1
      go_wp2_with fail
      exact HQ.out _ _ _ _ _ _ _ _ _ _ _ _ _ _ _ _ _ _ _ _ _ _ _ _ _ _ _ _ _ _ _ _ _ _ _ _ _ _ _ hb
    all_goals
      clear h0 h1 h2 v3
      go_wp2_with fail
      refine (e11 _).mono ?_
      rintro x w1 ⟨rfl, hb⟩
      replace fA0 := mv0 hb fA0; replace fA1 := mv0 hb fA1; replace fB0 := mv0 hb fB0; replace fB1 := mv0 hb fB1
      go_wp2_with fail
      exact HQ.out _ _ _ _ _ _ _ _ _ _ _ _ _ _ _ _ _ _ _ _ _ _ _ _ _ _ _ _ _ _ _ _ _ _ _ _ _ _ _ hb
  · obtain ⟨rfl, rfl⟩ := h0 rfl
    clear h0 h1 h2 v3 v2
    go_wp2_with fail
    refine (e11 _).mono ?_
    rintro x w1 ⟨rfl, hb⟩
    replace fA0 := mv0 hb fA0; replace fA1 := mv0 hb fA1; replace fB0 := mv0 hb fB0; replace fB1 := mv0 hb fB1
    go_wp2_with fail
    exact HQ.out _ _ _ _ _ _ _ _ _ _ _ _ _ _ _ _ _ _ _ _ _ _ _ _ _ _ _ _ _ _ _ _ _ _ _ _ _ _ _ hb
  · rcases v2 with rfl | rfl | rfl
    rotate_left 2
    · have : u = 1 := by have := h1 (by omega) (by omega); omega
      subst this
      clear h0 h1 h2 v3
      go_wp2_with fail
      refine (e11 _).mono ?_
      rintro x w1 ⟨rfl, hb⟩
      replace fA0 := mv0 hb fA0; replace fA1 := mv0 hb fA1; replace fB0 := mv0 hb fB0; replace fB1 := mv0 hb fB1
      go_wp2_with fail
      exact HQ.out _ _ _ _ _ _ _ _ _ _ _ _ _ _ _ _ _ _ _ _ _ _ _ _ _ _ _ _ _ _ _ _ _ _ _ _ _ _ _ hb
    all_goals
      clear h0 h1 h2 v3
      go_wp2_with fail
      refine (e11 _).mono ?_
      rintro x w1 ⟨rfl, hb⟩
      replace fA0 := mv0 hb fA0; replace fA1 := mv0 hb fA1; replace fB0 := mv0 hb fB0; replace fB1 := mv0 hb fB1
      go_wp2_with fail
      exact HQ.out _ _ _ _ _ _ _ _ _ _ _ _ _ _ _ _ _ _ _ _ _ _ _ _ _ _ _ _ _ _ _ _ _ _ _ _ _ _ _ hb
end Go.Proofs.YtmbjoenegcnoiaaDoor
