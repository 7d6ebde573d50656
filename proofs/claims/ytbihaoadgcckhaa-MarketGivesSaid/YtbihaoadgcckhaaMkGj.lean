/- The law MarketGives: the answers. -/
import Derived.Test.YtbihaoadgcckhaaMkOp
import Derived.Test.YtbihaoadgcckhaaMkGp
namespace Go.Proofs.Ytbihaoadgcckhaa
open Go Go.Proofs Go.RowKit Go.Maps Go.Sort Go.Lib

theorem refSame_again {W0 w : World} {x y : Value} {d : Deal} (hB : RowKit.Below W0.heap.size W0 w) (hx : DealIn W0 x d) (hy : DealIn w y d) :
    Calls Try.prog 18 #[x, y] w fun e w' => e = .returned (.bool true) ∧ RowKit.Below w.heap.size w w' := by
  have := refSame_any x y d d w (hx.below hB) hy
  rwa [sameD_refl] at this
theorem left_more {W0 w : World} {ov dv : Value} {L : List Off} {d : Deal} {g : ByteArray} (hB : RowKit.Below W0.heap.size W0 w) (ho : RowIn Off.cells W0 ov L) (hl : L.length ≤ 1000000) (hok : ∀ o ∈ L, OffOk W0 o ∧ o.few ∧ o.needs.length ≤ 1000000000000) (hd : DealIn W0 dv d) (hp : 0 ≤ (getO L g).places ∧ (getO L g).places ≤ 1000000000) (hlp : 0 < leftP L d g) :
    Calls Try.prog 19 #[ov, dv, .string g] w fun e w' => ∃ z : Int, e = .returned (.int .i64 z) ∧ 0 < z ∧ RowKit.Below w.heap.size w w' := by
  refine (left_any ov dv L d g w (ho.below hB) hl (fun o h => ⟨(hok o h).1.below hB, (hok o h).2⟩) (hd.below hB) hp).mono ?_
  rintro _ w' ⟨rfl, hb⟩
  exact ⟨_, rfl, hlp, hb⟩

set_option maxHeartbeats 4000000 in
set_option maxRecDepth 100000 in
theorem giv_r12 {s0 s1 s2 s3 s4 s7 s8 s9 s13 s14 s15 s16 s18 s19 s20 s21 s22 s23 s24 s25 s26 s27 s28 s29 s30 s31 s32 s33 s34 s35 s36 s37 s38 s39 s40 s41 s42 s43 s44 s45 s46 s47 s48 s49 s50 s51 s52 s53 s54 s55 s56 s57 s58 s59 s60 s61 s62 s63 s64 s65 s66 s67 s68 s69 s70 s71 s72 s73 s74 s75 s76 s77 s78 s79 s80 s81 s82 s83 s84 s85 s86 s87 s88 s89 s90 s91 s92 s93 s94 s95 s96 s97 s98 s99 s100 s101 s102 s103 s104 s105 s106 s107 s108 s109 s110 s111 s112 s113 s114 s115 s116 s117 s118 s119 s120 s121 s122 s123 s124 s125 s126 s127 s128 s129 s130 s131 s132 s133 : Value} (db : Nat) (ov sv wv : Value) (L : List Off) (s : Int) (g c : ByteArray) (W : World) (Q : Exit → Act → World → Prop) (hcell : db < W.heap.size ∧ ∀ j, W.cell? ⟨db, j, none⟩ = (#[sv, wv] : Array Value)[j]?) (hd : DealIn W (.agg #[sv, wv]) ⟨[⟨s, c⟩], []⟩) (ho : RowIn Off.cells W ov L) (hl : L.length ≤ 1000000) (hok : ∀ o ∈ L, OffOk W o ∧ o.few ∧ o.needs.length ≤ 1000000000000) (hp : 0 ≤ (getO L g).places ∧ (getO L g).places ≤ 1000000000) (hlp : 0 < leftP L ⟨[⟨s, c⟩], []⟩ g)
    (hQ : ∀ (u88 u89 u90 u91 u92 u93 u94 u95 u96 u97 u98 u99 u100 u101 u102 u103 u104 : Value) (wx : World), RowKit.Below W.heap.size W wx → Q .normal ⟨List.toArray (s0 :: s1 :: s2 :: s3 :: .bool true :: .bool true :: ov :: s7 :: s8 :: s9 :: .int .i64 s :: .string g :: .string c :: s13 :: s14 :: s15 :: s16 :: .pointer (some ⟨db, 0, none⟩) :: s18 :: s19 :: s20 :: s21 :: s22 :: s23 :: s24 :: s25 :: s26 :: s27 :: s28 :: s29 :: s30 :: s31 :: s32 :: s33 :: s34 :: s35 :: s36 :: s37 :: s38 :: s39 :: s40 :: s41 :: s42 :: s43 :: s44 :: s45 :: s46 :: s47 :: s48 :: s49 :: s50 :: s51 :: s52 :: s53 :: s54 :: s55 :: s56 :: s57 :: s58 :: s59 :: s60 :: s61 :: s62 :: s63 :: s64 :: s65 :: s66 :: s67 :: s68 :: s69 :: s70 :: s71 :: s72 :: s73 :: s74 :: s75 :: s76 :: s77 :: s78 :: s79 :: s80 :: s81 :: s82 :: s83 :: s84 :: s85 :: s86 :: s87 :: u88 :: u89 :: u90 :: u91 :: u92 :: u93 :: u94 :: u95 :: u96 :: u97 :: u98 :: u99 :: u100 :: u101 :: u102 :: u103 :: u104 :: s105 :: s106 :: s107 :: s108 :: s109 :: s110 :: s111 :: s112 :: s113 :: s114 :: s115 :: s116 :: s117 :: s118 :: s119 :: s120 :: s121 :: s122 :: s123 :: s124 :: s125 :: s126 :: s127 :: s128 :: s129 :: s130 :: s131 :: s132 :: s133 :: []), []⟩ wx) :
    (regionOf Try.f5 12).wp Try.prog Q ⟨List.toArray (s0 :: s1 :: s2 :: s3 :: s4 :: .bool true :: ov :: s7 :: s8 :: s9 :: .int .i64 s :: .string g :: .string c :: s13 :: s14 :: s15 :: s16 :: .pointer (some ⟨db, 0, none⟩) :: s18 :: s19 :: s20 :: s21 :: s22 :: s23 :: s24 :: s25 :: s26 :: s27 :: s28 :: s29 :: s30 :: s31 :: s32 :: s33 :: s34 :: s35 :: s36 :: s37 :: s38 :: s39 :: s40 :: s41 :: s42 :: s43 :: s44 :: s45 :: s46 :: s47 :: s48 :: s49 :: s50 :: s51 :: s52 :: s53 :: s54 :: s55 :: s56 :: s57 :: s58 :: s59 :: s60 :: s61 :: s62 :: s63 :: s64 :: s65 :: s66 :: s67 :: s68 :: s69 :: s70 :: s71 :: s72 :: s73 :: s74 :: s75 :: s76 :: s77 :: s78 :: s79 :: s80 :: s81 :: s82 :: s83 :: s84 :: s85 :: s86 :: s87 :: s88 :: s89 :: s90 :: s91 :: s92 :: s93 :: s94 :: s95 :: s96 :: s97 :: s98 :: s99 :: s100 :: s101 :: s102 :: s103 :: s104 :: s105 :: s106 :: s107 :: s108 :: s109 :: s110 :: s111 :: s112 :: s113 :: s114 :: s115 :: s116 :: s117 :: s118 :: s119 :: s120 :: s121 :: s122 :: s123 :: s124 :: s125 :: s126 :: s127 :: s128 :: s129 :: s130 :: s131 :: s132 :: s133 :: []), []⟩ W := by
  refine of_onlyN (K := Q .normal) ?_ (fun _ _ h => h)
  generalize Q .normal = K at hQ ⊢
  have HQ := Lib.hid hQ; clear hQ
  conv => arg 2; whnf
  have HD := Lib.hid hd
  have HO := Lib.hid ho
  have HK := Lib.hid hok
  have HP := Lib.hid hp
  have HLP := Lib.hid hlp
  clear hd ho hok hp hlp
  have hS0 : RowKit.Below W.heap.size W W.drew := (Below.refl _ _).drew
  refine of_onlyN ?_ (fun _ _ h => h)
  refine wp_region_flow (S := fun w' => RowKit.Below W.heap.size W w') [(0, true), (1, true), (2, true), (3, true), (4, true), (5, false), (6, false), (7, true), (8, false), (9, true), (10, true), (11, true), (12, true), (13, true), (14, false), (15, true), (16, true), (17, true)] (by kernel_rfl) (by kernel_rfl) (by kernel_rfl) (by decide) (hS0) ?_
  have hS := hS0
  refine flow_take ⟨some 88, _, _, _, _, _⟩ ?_ rfl (by rfl) ?_ ?_
  rotate_left 1
  · intro w hSw; (try dsimp only at hSw); go_simp; (try with_reducible rfl)
  simp only [Act.put, List.setIfInBounds_toArray, List.set_cons_zero, List.set_cons_succ]
  refine flow_take ⟨some 89, _, _, _, _, _⟩ ?_ rfl (by rfl) ?_ ?_
  rotate_left 1
  · intro w hSw; (try dsimp only at hSw); go_simp; (try with_reducible rfl)
  simp only [Act.put, List.setIfInBounds_toArray, List.set_cons_zero, List.set_cons_succ]
  refine flow_deal_at ⟨some 90, _, _, _, _, _⟩ sv wv db rfl (by rfl) (.tmp 17) (by rfl) (by rfl) (fun w hS => or_at hcell hS) ?_
  (try simp only [Act.put, List.setIfInBounds_toArray, List.set_cons_zero, List.set_cons_succ])
  refine flow_take ⟨some 91, _, _, _, _, _⟩ ?_ rfl (by rfl) ?_ ?_
  rotate_left 1
  · intro w hSw; (try dsimp only at hSw); go_simp; (try with_reducible rfl)
  simp only [Act.put, List.setIfInBounds_toArray, List.set_cons_zero, List.set_cons_succ]
  refine flow_take ⟨some 92, _, _, _, _, _⟩ ?_ rfl (by rfl) ?_ ?_
  rotate_left 1
  · intro w hSw; (try dsimp only at hSw); go_simp; (try with_reducible rfl)
  simp only [Act.put, List.setIfInBounds_toArray, List.set_cons_zero, List.set_cons_succ]
  refine flow_call ⟨some 93, _, _, _, _, _⟩ rfl (by rfl) 14 _ _ (by rfl) _ (by rfl) Try.call14 (seat_any _ _ _) ?_; rintro x wn ⟨rfl, hb⟩; replace hS := below_next hS hb; refine ⟨_, rfl, hS, ?_⟩; (try clear hb)
  simp only [Act.put, List.setIfInBounds_toArray, List.set_cons_zero, List.set_cons_succ]
  refine flow_run ⟨some 94, _, _, _, _, _⟩ (.slice (some ⟨wn.heap.size, 0, none⟩) 1 1) (wn.alloc (.cells #[.int .i64 s, .string c] 40)) rfl (by rfl) (by go_simp) (below_next hS (below_alloc1 _ _)) ?_; have hrow := rowIn_lit (enc := Seat.cells) (e := 40) wn [⟨s, c⟩] #[.int .i64 s, .string c] wn.heap.size rfl rfl 1 rfl; replace hS : RowKit.Below W.heap.size W (wn.alloc (.cells #[.int .i64 s, .string c] 40)) := below_next hS (below_alloc1 _ _)
  simp only [Act.put, List.setIfInBounds_toArray, List.set_cons_zero, List.set_cons_succ]
  refine flow_take ⟨some 95, _, _, _, _, _⟩ ?_ rfl (by rfl) ?_ ?_
  rotate_left 1
  · intro w hSw; (try dsimp only at hSw); go_simp; (try with_reducible rfl)
  simp only [Act.put, List.setIfInBounds_toArray, List.set_cons_zero, List.set_cons_succ]
  refine flow_call ⟨some 96, _, _, _, _, _⟩ rfl (by rfl) 18 _ _ (by rfl) _ (by rfl) Try.call18 (refSame_again hS HD.out (DealIn.mk' (d := ⟨[⟨s, c⟩], []⟩) hrow (RowIn.nil _ _) (by simp) (by simp))) ?_; rintro x wn ⟨rfl, hb⟩; replace hS := below_next hS hb; refine ⟨_, rfl, hS, ?_⟩; (try clear hb)
  simp only [Act.put, List.setIfInBounds_toArray, List.set_cons_zero, List.set_cons_succ]
  refine flow_take ⟨some 97, _, _, _, _, _⟩ ?_ rfl (by rfl) ?_ ?_
  rotate_left 1
  · intro w hSw; (try dsimp only at hSw); go_simp; (try with_reducible rfl)
  simp only [Act.put, List.setIfInBounds_toArray, List.set_cons_zero, List.set_cons_succ]
  refine flow_take ⟨some 98, _, _, _, _, _⟩ ?_ rfl (by rfl) ?_ ?_
  rotate_left 1
  · intro w hSw; (try dsimp only at hSw); go_simp; (try with_reducible rfl)
  simp only [Act.put, List.setIfInBounds_toArray, List.set_cons_zero, List.set_cons_succ]
  refine flow_take ⟨some 99, _, _, _, _, _⟩ ?_ rfl (by rfl) ?_ ?_
  rotate_left 1
  · intro w hSw; (try dsimp only at hSw); go_simp; (try with_reducible rfl)
  simp only [Act.put, List.setIfInBounds_toArray, List.set_cons_zero, List.set_cons_succ]
  refine flow_deal_at ⟨some 100, _, _, _, _, _⟩ sv wv db rfl (by rfl) (.tmp 17) (by rfl) (by rfl) (fun w hS => or_at hcell hS) ?_
  (try simp only [Act.put, List.setIfInBounds_toArray, List.set_cons_zero, List.set_cons_succ])
  refine flow_take ⟨some 101, _, _, _, _, _⟩ ?_ rfl (by rfl) ?_ ?_
  rotate_left 1
  · intro w hSw; (try dsimp only at hSw); go_simp; (try with_reducible rfl)
  simp only [Act.put, List.setIfInBounds_toArray, List.set_cons_zero, List.set_cons_succ]
  refine flow_call ⟨some 102, _, _, _, _, _⟩ rfl (by rfl) 19 _ _ (by rfl) _ (by rfl) Try.call19 (left_more hS HO.out hl HK.out HD.out HP.out HLP.out) ?_; rintro x wn ⟨z, rfl, hz, hb⟩; replace hS := below_next hS hb; refine ⟨_, rfl, hS, ?_⟩; (try clear hb)
  simp only [Act.put, List.setIfInBounds_toArray, List.set_cons_zero, List.set_cons_succ]
  refine flow_take ⟨some 103, _, _, _, _, _⟩ ?_ rfl (by rfl) ?_ ?_
  rotate_left 1
  · intro w hSw; (try dsimp only at hSw); go_simp; (try with_reducible rfl)
  simp only [Act.put, List.setIfInBounds_toArray, List.set_cons_zero, List.set_cons_succ]
  refine flow_take ⟨some 104, _, _, _, _, _⟩ ?_ rfl (by rfl) ?_ ?_
  rotate_left 1
  · intro w hSw; (try dsimp only at hSw); go_simp; (try with_reducible rfl)
  simp only [Act.put, List.setIfInBounds_toArray, List.set_cons_zero, List.set_cons_succ]
  refine flow_take ⟨some 4, _, _, _, _, _⟩ ?_ rfl (by rfl) ?_ ?_
  rotate_left 1
  · intro w hSw; (try dsimp only at hSw); go_simp; (try with_reducible rfl)
  simp only [Act.put, List.setIfInBounds_toArray, List.set_cons_zero, List.set_cons_succ]
  simp only [wpFlow, OnlyN]
  exact HQ.out _ _ _ _ _ _ _ _ _ _ _ _ _ _ _ _ _ _ hS

set_option maxHeartbeats 4000000 in
set_option maxRecDepth 100000 in
theorem giv_r15 {s0 s1 s2 s3 s4 s6 s7 s8 s9 s13 s14 s15 s16 s18 s19 s20 s21 s22 s23 s24 s25 s26 s27 s28 s29 s30 s31 s32 s33 s34 s35 s36 s37 s38 s39 s40 s41 s42 s43 s44 s45 s46 s47 s48 s49 s50 s51 s52 s53 s54 s55 s56 s57 s58 s59 s60 s61 s62 s63 s64 s65 s66 s67 s68 s69 s70 s71 s72 s73 s74 s75 s76 s77 s78 s79 s80 s81 s82 s83 s84 s85 s86 s87 s88 s89 s90 s91 s92 s93 s94 s95 s96 s97 s98 s99 s100 s101 s102 s103 s104 s105 s106 s107 s108 s109 s110 s111 s112 s113 s114 s115 s116 s117 s118 s119 s120 s121 s122 s123 s124 s125 s126 s127 s128 s129 s130 s131 s132 s133 : Value} (db : Nat) (sv wv : Value) (s : Int) (g c : ByteArray) (W : World) (Q : Exit → Act → World → Prop) (hcell : db < W.heap.size ∧ ∀ j, W.cell? ⟨db, j, none⟩ = (#[sv, wv] : Array Value)[j]?) (hd : DealIn W (.agg #[sv, wv]) ⟨[], [⟨s, g⟩, ⟨s, c⟩]⟩)
    (hQ : ∀ (u121 u122 u123 u124 u125 u126 u127 u128 u129 u130 u131 u132 u133 : Value) (wx : World), RowKit.Below W.heap.size W wx → Q .normal ⟨List.toArray (s0 :: s1 :: s2 :: s3 :: .bool true :: .bool true :: s6 :: s7 :: s8 :: s9 :: .int .i64 s :: .string g :: .string c :: s13 :: s14 :: s15 :: s16 :: .pointer (some ⟨db, 0, none⟩) :: s18 :: s19 :: s20 :: s21 :: s22 :: s23 :: s24 :: s25 :: s26 :: s27 :: s28 :: s29 :: s30 :: s31 :: s32 :: s33 :: s34 :: s35 :: s36 :: s37 :: s38 :: s39 :: s40 :: s41 :: s42 :: s43 :: s44 :: s45 :: s46 :: s47 :: s48 :: s49 :: s50 :: s51 :: s52 :: s53 :: s54 :: s55 :: s56 :: s57 :: s58 :: s59 :: s60 :: s61 :: s62 :: s63 :: s64 :: s65 :: s66 :: s67 :: s68 :: s69 :: s70 :: s71 :: s72 :: s73 :: s74 :: s75 :: s76 :: s77 :: s78 :: s79 :: s80 :: s81 :: s82 :: s83 :: s84 :: s85 :: s86 :: s87 :: s88 :: s89 :: s90 :: s91 :: s92 :: s93 :: s94 :: s95 :: s96 :: s97 :: s98 :: s99 :: s100 :: s101 :: s102 :: s103 :: s104 :: s105 :: s106 :: s107 :: s108 :: s109 :: s110 :: s111 :: s112 :: s113 :: s114 :: s115 :: s116 :: s117 :: s118 :: s119 :: s120 :: u121 :: u122 :: u123 :: u124 :: u125 :: u126 :: u127 :: u128 :: u129 :: u130 :: u131 :: u132 :: u133 :: []), []⟩ wx) :
    (regionOf Try.f5 15).wp Try.prog Q ⟨List.toArray (s0 :: s1 :: s2 :: s3 :: s4 :: .bool true :: s6 :: s7 :: s8 :: s9 :: .int .i64 s :: .string g :: .string c :: s13 :: s14 :: s15 :: s16 :: .pointer (some ⟨db, 0, none⟩) :: s18 :: s19 :: s20 :: s21 :: s22 :: s23 :: s24 :: s25 :: s26 :: s27 :: s28 :: s29 :: s30 :: s31 :: s32 :: s33 :: s34 :: s35 :: s36 :: s37 :: s38 :: s39 :: s40 :: s41 :: s42 :: s43 :: s44 :: s45 :: s46 :: s47 :: s48 :: s49 :: s50 :: s51 :: s52 :: s53 :: s54 :: s55 :: s56 :: s57 :: s58 :: s59 :: s60 :: s61 :: s62 :: s63 :: s64 :: s65 :: s66 :: s67 :: s68 :: s69 :: s70 :: s71 :: s72 :: s73 :: s74 :: s75 :: s76 :: s77 :: s78 :: s79 :: s80 :: s81 :: s82 :: s83 :: s84 :: s85 :: s86 :: s87 :: s88 :: s89 :: s90 :: s91 :: s92 :: s93 :: s94 :: s95 :: s96 :: s97 :: s98 :: s99 :: s100 :: s101 :: s102 :: s103 :: s104 :: s105 :: s106 :: s107 :: s108 :: s109 :: s110 :: s111 :: s112 :: s113 :: s114 :: s115 :: s116 :: s117 :: s118 :: s119 :: s120 :: s121 :: s122 :: s123 :: s124 :: s125 :: s126 :: s127 :: s128 :: s129 :: s130 :: s131 :: s132 :: s133 :: []), []⟩ W := by
  refine of_onlyN (K := Q .normal) ?_ (fun _ _ h => h)
  generalize Q .normal = K at hQ ⊢
  have HQ := Lib.hid hQ; clear hQ
  conv => arg 2; whnf
  have HD := Lib.hid hd
  clear hd
  have hS0 : RowKit.Below W.heap.size W W.drew := (Below.refl _ _).drew
  refine of_onlyN ?_ (fun _ _ h => h)
  refine wp_region_flow (S := fun w' => RowKit.Below W.heap.size W w') [(0, true), (1, true), (2, true), (3, true), (4, true), (6, true), (7, true), (5, false), (8, false), (9, false), (10, true), (11, false), (12, true), (13, true)] (by kernel_rfl) (by kernel_rfl) (by kernel_rfl) (by decide) (hS0) ?_
  have hS := hS0
  refine flow_take ⟨some 121, _, _, _, _, _⟩ ?_ rfl (by rfl) ?_ ?_
  rotate_left 1
  · intro w hSw; (try dsimp only at hSw); go_simp; (try with_reducible rfl)
  simp only [Act.put, List.setIfInBounds_toArray, List.set_cons_zero, List.set_cons_succ]
  refine flow_take ⟨some 122, _, _, _, _, _⟩ ?_ rfl (by rfl) ?_ ?_
  rotate_left 1
  · intro w hSw; (try dsimp only at hSw); go_simp; (try with_reducible rfl)
  simp only [Act.put, List.setIfInBounds_toArray, List.set_cons_zero, List.set_cons_succ]
  refine flow_deal_at ⟨some 123, _, _, _, _, _⟩ sv wv db rfl (by rfl) (.tmp 17) (by rfl) (by rfl) (fun w hS => or_at hcell hS) ?_
  (try simp only [Act.put, List.setIfInBounds_toArray, List.set_cons_zero, List.set_cons_succ])
  refine flow_take ⟨some 124, _, _, _, _, _⟩ ?_ rfl (by rfl) ?_ ?_
  rotate_left 1
  · intro w hSw; (try dsimp only at hSw); go_simp; (try with_reducible rfl)
  simp only [Act.put, List.setIfInBounds_toArray, List.set_cons_zero, List.set_cons_succ]
  refine flow_take ⟨some 125, _, _, _, _, _⟩ ?_ rfl (by rfl) ?_ ?_
  rotate_left 1
  · intro w hSw; (try dsimp only at hSw); go_simp; (try with_reducible rfl)
  simp only [Act.put, List.setIfInBounds_toArray, List.set_cons_zero, List.set_cons_succ]
  refine flow_take ⟨some 127, _, _, _, _, _⟩ ?_ rfl (by rfl) ?_ ?_
  rotate_left 1
  · intro w hSw; (try dsimp only at hSw); go_simp; (try with_reducible rfl)
  simp only [Act.put, List.setIfInBounds_toArray, List.set_cons_zero, List.set_cons_succ]
  refine flow_take ⟨some 128, _, _, _, _, _⟩ ?_ rfl (by rfl) ?_ ?_
  rotate_left 1
  · intro w hSw; (try dsimp only at hSw); go_simp; (try with_reducible rfl)
  simp only [Act.put, List.setIfInBounds_toArray, List.set_cons_zero, List.set_cons_succ]
  refine flow_call ⟨some 126, _, _, _, _, _⟩ rfl (by rfl) 14 _ _ (by rfl) _ (by rfl) Try.call14 (seat_any _ _ _) ?_; rintro x wn ⟨rfl, hb⟩; replace hS := below_next hS hb; refine ⟨_, rfl, hS, ?_⟩; (try clear hb)
  simp only [Act.put, List.setIfInBounds_toArray, List.set_cons_zero, List.set_cons_succ]
  refine flow_call ⟨some 129, _, _, _, _, _⟩ rfl (by rfl) 14 _ _ (by rfl) _ (by rfl) Try.call14 (seat_any _ _ _) ?_; rintro x wn ⟨rfl, hb⟩; replace hS := below_next hS hb; refine ⟨_, rfl, hS, ?_⟩; (try clear hb)
  simp only [Act.put, List.setIfInBounds_toArray, List.set_cons_zero, List.set_cons_succ]
  refine flow_run ⟨some 130, _, _, _, _, _⟩ (.slice (some ⟨wn.heap.size, 0, none⟩) 2 2) (wn.alloc (.cells #[.int .i64 s, .string g, .int .i64 s, .string c] 40)) rfl (by rfl) (by go_simp) (below_next hS (below_alloc1 _ _)) ?_; have hrow := rowIn_lit (enc := Seat.cells) (e := 40) wn [⟨s, g⟩, ⟨s, c⟩] #[.int .i64 s, .string g, .int .i64 s, .string c] wn.heap.size rfl rfl 2 rfl; replace hS : RowKit.Below W.heap.size W (wn.alloc (.cells #[.int .i64 s, .string g, .int .i64 s, .string c] 40)) := below_next hS (below_alloc1 _ _)
  simp only [Act.put, List.setIfInBounds_toArray, List.set_cons_zero, List.set_cons_succ]
  refine flow_take ⟨some 131, _, _, _, _, _⟩ ?_ rfl (by rfl) ?_ ?_
  rotate_left 1
  · intro w hSw; (try dsimp only at hSw); go_simp; (try with_reducible rfl)
  simp only [Act.put, List.setIfInBounds_toArray, List.set_cons_zero, List.set_cons_succ]
  refine flow_call ⟨some 132, _, _, _, _, _⟩ rfl (by rfl) 18 _ _ (by rfl) _ (by rfl) Try.call18 (refSame_again hS HD.out (DealIn.mk' (d := ⟨[], [⟨s, g⟩, ⟨s, c⟩]⟩) (RowIn.nil _ _) hrow (by simp) (by simp))) ?_; rintro x wn ⟨rfl, hb⟩; replace hS := below_next hS hb; refine ⟨_, rfl, hS, ?_⟩; (try clear hb)
  simp only [Act.put, List.setIfInBounds_toArray, List.set_cons_zero, List.set_cons_succ]
  refine flow_take ⟨some 133, _, _, _, _, _⟩ ?_ rfl (by rfl) ?_ ?_
  rotate_left 1
  · intro w hSw; (try dsimp only at hSw); go_simp; (try with_reducible rfl)
  simp only [Act.put, List.setIfInBounds_toArray, List.set_cons_zero, List.set_cons_succ]
  refine flow_take ⟨some 4, _, _, _, _, _⟩ ?_ rfl (by rfl) ?_ ?_
  rotate_left 1
  · intro w hSw; (try dsimp only at hSw); go_simp; (try with_reducible rfl)
  simp only [Act.put, List.setIfInBounds_toArray, List.set_cons_zero, List.set_cons_succ]
  simp only [wpFlow, OnlyN]
  exact HQ.out _ _ _ _ _ _ _ _ _ _ _ _ _ _ hS

end Go.Proofs.Ytbihaoadgcckhaa
