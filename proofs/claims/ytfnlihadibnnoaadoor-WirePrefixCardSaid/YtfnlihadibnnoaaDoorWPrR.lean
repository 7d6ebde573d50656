/- WirePrefix: the drawn region in which both texts are made. -/
import Derived.Test.YtfnlihadibnnoaaDoorWEnc
import Derived.Test.YtfnlihadibnnoaaDoorWPar
namespace Go.Proofs.YtfnlihadibnnoaaDoor
open Go Go.RowKit Go.Sort Go.Lib
attribute [local go_sem] map_add0

theorem pre_keep {W w' : World} {bx bb : Nat} {x y : Val} {Ax Ay : Option Addr} {cx cy : Nat} {tx ty : Value} (hbx0 : W.cell? ⟨bx, 0, none⟩ = some (.int .u8 x.kind)) (hbx1 : W.cell? ⟨bx, 1, none⟩ = some (.int .i64 x.n)) (hbx2 : W.cell? ⟨bx, 2, none⟩ = some (.string x.s)) (hbx3 : W.cell? ⟨bx, 3, none⟩ = some (.slice Ax x.L.length cx)) (hbx4 : W.cell? ⟨bx, 4, none⟩ = some (tx)) (hbb1 : W.cell? ⟨bb, 1, none⟩ = some (.int .i64 y.n)) (hbb2 : W.cell? ⟨bb, 2, none⟩ = some (.string y.s)) (hbb3 : W.cell? ⟨bb, 3, none⟩ = some (.slice Ay y.L.length cy)) (hbb4 : W.cell? ⟨bb, 4, none⟩ = some (ty)) (hb : RowKit.Below W.heap.size W w') : RowKit.Below W.heap.size W w' ∧ w'.cell? ⟨bx, 0, none⟩ = some (.int .u8 x.kind) ∧ w'.cell? ⟨bx, 1, none⟩ = some (.int .i64 x.n) ∧ w'.cell? ⟨bx, 2, none⟩ = some (.string x.s) ∧ w'.cell? ⟨bx, 3, none⟩ = some (.slice Ax x.L.length cx) ∧ w'.cell? ⟨bx, 4, none⟩ = some (tx) ∧ w'.cell? ⟨bb, 1, none⟩ = some (.int .i64 y.n) ∧ w'.cell? ⟨bb, 2, none⟩ = some (.string y.s) ∧ w'.cell? ⟨bb, 3, none⟩ = some (.slice Ay y.L.length cy) ∧ w'.cell? ⟨bb, 4, none⟩ = some (ty) :=
  ⟨hb, mv0 hb hbx0, mv0 hb hbx1, mv0 hb hbx2, mv0 hb hbx3, mv0 hb hbx4, mv0 hb hbb1, mv0 hb hbb2, mv0 hb hbb3, mv0 hb hbb4⟩

set_option maxHeartbeats 8000000 in
set_option maxRecDepth 100000 in
theorem pre_r2 {s0 s1 s4 s5 s6 s7 s8 s9 s10 s11 s12 s13 s14 s15 s16 s17 s18 s19 s20 s21 s22 s23 s24 s25 s26 s27 s28 s29 s30 s31 s32 s33 s34 s35 s36 s37 s38 s39 s40 s41 s42 s43 s44 s45 s46 s47 s48 s49 s50 s51 s52 s53 s54 s55 s56 s57 s58 s59 s60 s61 s62 s63 s64 s65 s66 s67 s68 s69 s70 s71 s72 s73 s74 s75 s76 s77 s78 s79 s80 s81 s82 s83 s84 s85 s86 s87 s88 s89 s90 s91 s92 s93 s94 s95 s96 s97 s98 s99 s100 s101 s102 s103 s104 s105 s106 s107 s108 s109 s110 s111 s112 s113 s114 s115 s116 s117 s118 s119 s120 s121 s122 s123 s124 s125 s126 s127 s128 s129 s130 s131 s132 s133 s134 s135 s136 s137 s138 s139 s140 s141 s142 s143 s144 s145 : Value} (bx bb : Nat) (x y : Val) (k : Nat) (Ax Ay : Option Addr) (cx cy : Nat) (tx ty : Value) (W : World) (Q : Exit → Act → World → Prop) (hr : Ready W) (hk : k ≤ 3) (hkm : x.kind.tmod 4 = k) (hFx : Fits x.n) (hzx : x.s.size ≤ 9223372036854775807) (hcx : x.L.length ≤ cx) (_hmx : cx ≤ 9223372036854775807) (hIx : IntsV W (.slice Ax (min 20 x.L.length) cx) (x.L.take 20)) (hTx : StrsV W tx x.T) (hFy : Fits y.n) (hzy : y.s.size ≤ 9223372036854775807) (hcy : y.L.length ≤ cy) (_hmy : cy ≤ 9223372036854775807) (hIy : IntsV W (.slice Ay (min 20 y.L.length) cy) (y.L.take 20)) (hTy : StrsV W ty y.T) (hbx0 : W.cell? ⟨bx, 0, none⟩ = some (.int .u8 x.kind)) (hbx1 : W.cell? ⟨bx, 1, none⟩ = some (.int .i64 x.n)) (hbx2 : W.cell? ⟨bx, 2, none⟩ = some (.string x.s)) (hbx3 : W.cell? ⟨bx, 3, none⟩ = some (.slice Ax x.L.length cx)) (hbx4 : W.cell? ⟨bx, 4, none⟩ = some (tx)) (hbb1 : W.cell? ⟨bb, 1, none⟩ = some (.int .i64 y.n)) (hbb2 : W.cell? ⟨bb, 2, none⟩ = some (.string y.s)) (hbb3 : W.cell? ⟨bb, 3, none⟩ = some (.slice Ay y.L.length cy)) (hbb4 : W.cell? ⟨bb, 4, none⟩ = some (ty))
    (hQ : ∀ (u13 u21 u29 u32 u33 u34 u38 u39 u42 u50 u58 u61 u62 u63 u67 u68 u6 u7 : Value) (wx : World), RowKit.Below W.heap.size W wx → (u6 = .string ⟨(encK k x).toArray⟩) → (u7 = .string ⟨(encK k y).toArray⟩) → Q .normal ⟨List.toArray (s0 :: s1 :: .pointer (some ⟨bx, 0, none⟩) :: .pointer (some ⟨bb, 0, none⟩) :: s4 :: s5 :: u6 :: u7 :: s8 :: s9 :: s10 :: .pointer (some ⟨bx, 1, none⟩) :: .int .i64 x.n :: u13 :: .pointer (some ⟨bx, 2, none⟩) :: .string x.s :: .pointer (some ⟨bx, 2, none⟩) :: .string x.s :: .int .i64 (x.s.size : Nat) :: .int .i64 (min (x.s.size : Int) 100) :: .string (x.s.extract 0 (min (x.s.size : Int) 100).toNat) :: u21 :: .pointer (some ⟨bx, 3, none⟩) :: .slice Ax x.L.length cx :: .pointer (some ⟨bx, 3, none⟩) :: .slice Ax x.L.length cx :: .int .i64 (x.L.length : Nat) :: .int .i64 (min (x.L.length : Int) 20) :: .slice Ax (min 20 x.L.length) cx :: u29 :: .pointer (some ⟨bx, 4, none⟩) :: tx :: u32 :: u33 :: u34 :: .pointer (some ⟨bx, 0, none⟩) :: .int .u8 x.kind :: .int .u8 (k : Nat) :: u38 :: u39 :: .pointer (some ⟨bb, 1, none⟩) :: .int .i64 y.n :: u42 :: .pointer (some ⟨bb, 2, none⟩) :: .string y.s :: .pointer (some ⟨bb, 2, none⟩) :: .string y.s :: .int .i64 (y.s.size : Nat) :: .int .i64 (min (y.s.size : Int) 100) :: .string (y.s.extract 0 (min (y.s.size : Int) 100).toNat) :: u50 :: .pointer (some ⟨bb, 3, none⟩) :: .slice Ay y.L.length cy :: .pointer (some ⟨bb, 3, none⟩) :: .slice Ay y.L.length cy :: .int .i64 (y.L.length : Nat) :: .int .i64 (min (y.L.length : Int) 20) :: .slice Ay (min 20 y.L.length) cy :: u58 :: .pointer (some ⟨bb, 4, none⟩) :: ty :: u61 :: u62 :: u63 :: .pointer (some ⟨bx, 0, none⟩) :: .int .u8 x.kind :: .int .u8 (k : Nat) :: u67 :: u68 :: s69 :: s70 :: s71 :: s72 :: s73 :: s74 :: s75 :: s76 :: s77 :: s78 :: s79 :: s80 :: s81 :: s82 :: s83 :: s84 :: s85 :: s86 :: s87 :: s88 :: s89 :: s90 :: s91 :: s92 :: s93 :: s94 :: s95 :: s96 :: s97 :: s98 :: s99 :: s100 :: s101 :: s102 :: s103 :: s104 :: s105 :: s106 :: s107 :: s108 :: s109 :: s110 :: s111 :: s112 :: s113 :: s114 :: s115 :: s116 :: s117 :: s118 :: s119 :: s120 :: s121 :: s122 :: s123 :: s124 :: s125 :: s126 :: s127 :: s128 :: s129 :: s130 :: s131 :: s132 :: s133 :: s134 :: s135 :: s136 :: s137 :: s138 :: s139 :: s140 :: s141 :: s142 :: s143 :: s144 :: s145 :: []), []⟩ wx) :
    (regionOf Tryd.f8 2).wp Tryd.prog Q ⟨List.toArray (s0 :: s1 :: .pointer (some ⟨bx, 0, none⟩) :: .pointer (some ⟨bb, 0, none⟩) :: s4 :: s5 :: s6 :: s7 :: s8 :: s9 :: s10 :: s11 :: s12 :: s13 :: s14 :: s15 :: s16 :: s17 :: s18 :: s19 :: s20 :: s21 :: s22 :: s23 :: s24 :: s25 :: s26 :: s27 :: s28 :: s29 :: s30 :: s31 :: s32 :: s33 :: s34 :: s35 :: s36 :: s37 :: s38 :: s39 :: s40 :: s41 :: s42 :: s43 :: s44 :: s45 :: s46 :: s47 :: s48 :: s49 :: s50 :: s51 :: s52 :: s53 :: s54 :: s55 :: s56 :: s57 :: s58 :: s59 :: s60 :: s61 :: s62 :: s63 :: s64 :: s65 :: s66 :: s67 :: s68 :: s69 :: s70 :: s71 :: s72 :: s73 :: s74 :: s75 :: s76 :: s77 :: s78 :: s79 :: s80 :: s81 :: s82 :: s83 :: s84 :: s85 :: s86 :: s87 :: s88 :: s89 :: s90 :: s91 :: s92 :: s93 :: s94 :: s95 :: s96 :: s97 :: s98 :: s99 :: s100 :: s101 :: s102 :: s103 :: s104 :: s105 :: s106 :: s107 :: s108 :: s109 :: s110 :: s111 :: s112 :: s113 :: s114 :: s115 :: s116 :: s117 :: s118 :: s119 :: s120 :: s121 :: s122 :: s123 :: s124 :: s125 :: s126 :: s127 :: s128 :: s129 :: s130 :: s131 :: s132 :: s133 :: s134 :: s135 :: s136 :: s137 :: s138 :: s139 :: s140 :: s141 :: s142 :: s143 :: s144 :: s145 :: []), []⟩ W := by
  refine of_onlyN (K := Q .normal) ?_ (fun _ _ h => h)
  generalize Q .normal = K at hQ ⊢
  have HQ := Lib.hid hQ; clear hQ
  conv => arg 2; whnf
  have hkI : (k : Int) < 4 := by omega
  have hb0x : (0 : Int) ≤ min (x.s.size : Int) 100 := by omega
  have hb1x : min (x.s.size : Int) 100 ≤ x.s.size := by omega
  have hb2x : (0 : Int) ≤ min (x.L.length : Int) 20 := by omega
  have hb3x : min (x.L.length : Int) 20 ≤ cx := by omega
  have hcutx : (min (x.L.length : Int) 20).toNat = min 20 x.L.length := by omega
  have hb0y : (0 : Int) ≤ min (y.s.size : Int) 100 := by omega
  have hb1y : min (y.s.size : Int) 100 ≤ y.s.size := by omega
  have hb2y : (0 : Int) ≤ min (y.L.length : Int) 20 := by omega
  have hb3y : min (y.L.length : Int) 20 ≤ cy := by omega
  have hcuty : (min (y.L.length : Int) 20).toNat = min 20 y.L.length := by omega
  have hS0 : RowKit.Below W.heap.size W W.drew ∧ W.drew.cell? ⟨bx, 0, none⟩ = some (.int .u8 x.kind) ∧ W.drew.cell? ⟨bx, 1, none⟩ = some (.int .i64 x.n) ∧ W.drew.cell? ⟨bx, 2, none⟩ = some (.string x.s) ∧ W.drew.cell? ⟨bx, 3, none⟩ = some (.slice Ax x.L.length cx) ∧ W.drew.cell? ⟨bx, 4, none⟩ = some (tx) ∧ W.drew.cell? ⟨bb, 1, none⟩ = some (.int .i64 y.n) ∧ W.drew.cell? ⟨bb, 2, none⟩ = some (.string y.s) ∧ W.drew.cell? ⟨bb, 3, none⟩ = some (.slice Ay y.L.length cy) ∧ W.drew.cell? ⟨bb, 4, none⟩ = some (ty) := pre_keep hbx0 hbx1 hbx2 hbx3 hbx4 hbb1 hbb2 hbb3 hbb4 (Below.refl W.heap.size W).drew
  refine wp_region_par (S := fun w' => RowKit.Below W.heap.size W w' ∧ w'.cell? ⟨bx, 0, none⟩ = some (.int .u8 x.kind) ∧ w'.cell? ⟨bx, 1, none⟩ = some (.int .i64 x.n) ∧ w'.cell? ⟨bx, 2, none⟩ = some (.string x.s) ∧ w'.cell? ⟨bx, 3, none⟩ = some (.slice Ax x.L.length cx) ∧ w'.cell? ⟨bx, 4, none⟩ = some (tx) ∧ w'.cell? ⟨bb, 1, none⟩ = some (.int .i64 y.n) ∧ w'.cell? ⟨bb, 2, none⟩ = some (.string y.s) ∧ w'.cell? ⟨bb, 3, none⟩ = some (.slice Ay y.L.length cy) ∧ w'.cell? ⟨bb, 4, none⟩ = some (ty)) (I := fun L a w => ∃ u13 u21 u29 u32 u33 u34 u38 u39 u42 u50 u58 u61 u62 u63 u67 u68 u6 u7 : Value, a = ⟨List.toArray (s0 :: s1 :: .pointer (some ⟨bx, 0, none⟩) :: .pointer (some ⟨bb, 0, none⟩) :: s4 :: s5 :: u6 :: u7 :: s8 :: s9 :: s10 :: .pointer (some ⟨bx, 1, none⟩) :: .int .i64 x.n :: u13 :: .pointer (some ⟨bx, 2, none⟩) :: .string x.s :: .pointer (some ⟨bx, 2, none⟩) :: .string x.s :: .int .i64 (x.s.size : Nat) :: .int .i64 (min (x.s.size : Int) 100) :: .string (x.s.extract 0 (min (x.s.size : Int) 100).toNat) :: u21 :: .pointer (some ⟨bx, 3, none⟩) :: .slice Ax x.L.length cx :: .pointer (some ⟨bx, 3, none⟩) :: .slice Ax x.L.length cx :: .int .i64 (x.L.length : Nat) :: .int .i64 (min (x.L.length : Int) 20) :: .slice Ax (min 20 x.L.length) cx :: u29 :: .pointer (some ⟨bx, 4, none⟩) :: tx :: u32 :: u33 :: u34 :: .pointer (some ⟨bx, 0, none⟩) :: .int .u8 x.kind :: .int .u8 (k : Nat) :: u38 :: u39 :: .pointer (some ⟨bb, 1, none⟩) :: .int .i64 y.n :: u42 :: .pointer (some ⟨bb, 2, none⟩) :: .string y.s :: .pointer (some ⟨bb, 2, none⟩) :: .string y.s :: .int .i64 (y.s.size : Nat) :: .int .i64 (min (y.s.size : Int) 100) :: .string (y.s.extract 0 (min (y.s.size : Int) 100).toNat) :: u50 :: .pointer (some ⟨bb, 3, none⟩) :: .slice Ay y.L.length cy :: .pointer (some ⟨bb, 3, none⟩) :: .slice Ay y.L.length cy :: .int .i64 (y.L.length : Nat) :: .int .i64 (min (y.L.length : Int) 20) :: .slice Ay (min 20 y.L.length) cy :: u58 :: .pointer (some ⟨bb, 4, none⟩) :: ty :: u61 :: u62 :: u63 :: .pointer (some ⟨bx, 0, none⟩) :: .int .u8 x.kind :: .int .u8 (k : Nat) :: u67 :: u68 :: s69 :: s70 :: s71 :: s72 :: s73 :: s74 :: s75 :: s76 :: s77 :: s78 :: s79 :: s80 :: s81 :: s82 :: s83 :: s84 :: s85 :: s86 :: s87 :: s88 :: s89 :: s90 :: s91 :: s92 :: s93 :: s94 :: s95 :: s96 :: s97 :: s98 :: s99 :: s100 :: s101 :: s102 :: s103 :: s104 :: s105 :: s106 :: s107 :: s108 :: s109 :: s110 :: s111 :: s112 :: s113 :: s114 :: s115 :: s116 :: s117 :: s118 :: s119 :: s120 :: s121 :: s122 :: s123 :: s124 :: s125 :: s126 :: s127 :: s128 :: s129 :: s130 :: s131 :: s132 :: s133 :: s134 :: s135 :: s136 :: s137 :: s138 :: s139 :: s140 :: s141 :: s142 :: s143 :: s144 :: s145 :: []), []⟩ ∧ RowKit.Below W.heap.size W w ∧ (L.getD 2 false = true → u13 = .string ⟨(wInt x.n).toArray⟩) ∧ (L.getD 10 false = true → u21 = .string ⟨(wText (clip x.s)).toArray⟩) ∧ (L.getD 18 false = true → u29 = .string ⟨(wInts (x.L.take 20)).toArray⟩) ∧ (L.getD 21 false = true → TextsV w u32 (cutL x.T)) ∧ (L.getD 22 false = true → u33 = .string ⟨(wTexts (cutL x.T)).toArray⟩) ∧ (L.getD 23 false = true → ∃ b, u34 = .slice (some ⟨b, 0, none⟩) 4 4 ∧ w.cell? ⟨b, k, none⟩ = some (.string ⟨(encK k x).toArray⟩)) ∧ (L.getD 27 false = true → ∃ b, u38 = .pointer (some ⟨b, k, none⟩) ∧ w.cell? ⟨b, k, none⟩ = some (.string ⟨(encK k x).toArray⟩)) ∧ (L.getD 28 false = true → u39 = .string ⟨(encK k x).toArray⟩) ∧ (L.getD 31 false = true → u42 = .string ⟨(wInt y.n).toArray⟩) ∧ (L.getD 39 false = true → u50 = .string ⟨(wText (clip y.s)).toArray⟩) ∧ (L.getD 47 false = true → u58 = .string ⟨(wInts (y.L.take 20)).toArray⟩) ∧ (L.getD 50 false = true → TextsV w u61 (cutL y.T)) ∧ (L.getD 51 false = true → u62 = .string ⟨(wTexts (cutL y.T)).toArray⟩) ∧ (L.getD 52 false = true → ∃ b, u63 = .slice (some ⟨b, 0, none⟩) 4 4 ∧ w.cell? ⟨b, k, none⟩ = some (.string ⟨(encK k y).toArray⟩)) ∧ (L.getD 56 false = true → ∃ b, u67 = .pointer (some ⟨b, k, none⟩) ∧ w.cell? ⟨b, k, none⟩ = some (.string ⟨(encK k y).toArray⟩)) ∧ (L.getD 57 false = true → u68 = .string ⟨(encK k y).toArray⟩) ∧ (L.getD 58 false = true → u6 = .string ⟨(encK k x).toArray⟩) ∧ (L.getD 59 false = true → u7 = .string ⟨(encK k y).toArray⟩)) (pre := fun i L => L.size == 60 && ((i == 2) || (i == 10) || (i == 18) || (i == 21) || (i == 22 && L.getD 21 false) || (i == 23 && L.getD 2 false && L.getD 10 false && L.getD 18 false && L.getD 22 false) || (i == 27 && L.getD 23 false) || (i == 28 && L.getD 27 false) || (i == 31) || (i == 39) || (i == 47) || (i == 50) || (i == 51 && L.getD 50 false) || (i == 52 && L.getD 31 false && L.getD 39 false && L.getD 47 false && L.getD 51 false) || (i == 56 && L.getD 52 false) || (i == 57 && L.getD 56 false) || (i == 58 && L.getD 28 false) || (i == 59 && L.getD 57 false))) (fin := fun L => L.getD 58 false && L.getD 59 false) [0, 1, 3, 4, 5, 6, 7, 8, 9, 11, 12, 13, 14, 15, 16, 17, 19, 20, 24, 25, 26, 29, 30, 32, 33, 34, 35, 36, 37, 38, 40, 41, 42, 43, 44, 45, 46, 48, 49, 53, 54, 55] 18 (by kernel_rfl) (by kernel_rfl) (by kernel_rfl) (by kernel_rfl) (by decide) hS0 ?_ ?_ ?_
  · intro i L a w hp hI
    obtain ⟨u13, u21, u29, u32, u33, u34, u38, u39, u42, u50, u58, u61, u62, u63, u67, u68, u6, u7, rfl, hbw, hP2, hP10, hP18, hP21, hP22, hP23, hP27, hP28, hP31, hP39, hP47, hP50, hP51, hP52, hP56, hP57, hP58, hP59⟩ := hI
    simp only [Bool.and_eq_true, Bool.or_eq_true, beq_iff_eq] at hp
    obtain ⟨hsz, hp⟩ := hp
    rcases hp with (((((((((((((((((rfl | rfl) | rfl) | rfl) | ⟨rfl, gd21⟩) | ⟨⟨⟨⟨rfl, gd2⟩, gd10⟩, gd18⟩, gd22⟩) | ⟨rfl, gd23⟩) | ⟨rfl, gd27⟩) | rfl) | rfl) | rfl) | rfl) | ⟨rfl, gd50⟩) | ⟨⟨⟨⟨rfl, gd31⟩, gd39⟩, gd47⟩, gd51⟩) | ⟨rfl, gd52⟩) | ⟨rfl, gd56⟩) | ⟨rfl, gd28⟩) | ⟨rfl, gd57⟩)
    · have g2 : (L.setIfInBounds 2 true).getD 2 false = true := by rw [up_set, if_pos ⟨rfl, by omega⟩]
      have g10 : (L.setIfInBounds 2 true).getD 10 false = L.getD 10 false := by rw [up_set, if_neg (by omega)]
      have g18 : (L.setIfInBounds 2 true).getD 18 false = L.getD 18 false := by rw [up_set, if_neg (by omega)]
      have g21 : (L.setIfInBounds 2 true).getD 21 false = L.getD 21 false := by rw [up_set, if_neg (by omega)]
      have g22 : (L.setIfInBounds 2 true).getD 22 false = L.getD 22 false := by rw [up_set, if_neg (by omega)]
      have g23 : (L.setIfInBounds 2 true).getD 23 false = L.getD 23 false := by rw [up_set, if_neg (by omega)]
      have g27 : (L.setIfInBounds 2 true).getD 27 false = L.getD 27 false := by rw [up_set, if_neg (by omega)]
      have g28 : (L.setIfInBounds 2 true).getD 28 false = L.getD 28 false := by rw [up_set, if_neg (by omega)]
      have g31 : (L.setIfInBounds 2 true).getD 31 false = L.getD 31 false := by rw [up_set, if_neg (by omega)]
      have g39 : (L.setIfInBounds 2 true).getD 39 false = L.getD 39 false := by rw [up_set, if_neg (by omega)]
      have g47 : (L.setIfInBounds 2 true).getD 47 false = L.getD 47 false := by rw [up_set, if_neg (by omega)]
      have g50 : (L.setIfInBounds 2 true).getD 50 false = L.getD 50 false := by rw [up_set, if_neg (by omega)]
      have g51 : (L.setIfInBounds 2 true).getD 51 false = L.getD 51 false := by rw [up_set, if_neg (by omega)]
      have g52 : (L.setIfInBounds 2 true).getD 52 false = L.getD 52 false := by rw [up_set, if_neg (by omega)]
      have g56 : (L.setIfInBounds 2 true).getD 56 false = L.getD 56 false := by rw [up_set, if_neg (by omega)]
      have g57 : (L.setIfInBounds 2 true).getD 57 false = L.getD 57 false := by rw [up_set, if_neg (by omega)]
      have g58 : (L.setIfInBounds 2 true).getD 58 false = L.getD 58 false := by rw [up_set, if_neg (by omega)]
      have g59 : (L.setIfInBounds 2 true).getD 59 false = L.getD 59 false := by rw [up_set, if_neg (by omega)]
      refine par_call ⟨some 13, _, _, _, _, _⟩ rfl (by rfl) 12 _ _ (by rfl) _ (by rfl) Tryd.call12 (wireInt_any x.n w hFx.1 hFx.2 (hr.below hbw).sane.1) ?_
      rintro x wn ⟨rfl, hb⟩
      have hbn := below_next hbw hb
      exact ⟨_, rfl, (pre_keep hbx0 hbx1 hbx2 hbx3 hbx4 hbb1 hbb2 hbb3 hbb4) hbn, (.string ⟨(wInt x.n).toArray⟩), (u21), (u29), (u32), (u33), (u34), (u38), (u39), (u42), (u50), (u58), (u61), (u62), (u63), (u67), (u68), (u6), (u7), by simp only [Act.put, List.setIfInBounds_toArray, List.set_cons_zero, List.set_cons_succ], hbn, fun _ => rfl, by rw [g10]; exact hP10, by rw [g18]; exact hP18, by rw [g21]; exact fun e => TextsV.below (hP21 e) hb, by rw [g22]; exact hP22, by rw [g23]; exact fun e => let ⟨b, e1, e2⟩ := (hP23 e); ⟨b, e1, mv0 hb e2⟩, by rw [g27]; exact fun e => let ⟨b, e1, e2⟩ := (hP27 e); ⟨b, e1, mv0 hb e2⟩, by rw [g28]; exact hP28, by rw [g31]; exact hP31, by rw [g39]; exact hP39, by rw [g47]; exact hP47, by rw [g50]; exact fun e => TextsV.below (hP50 e) hb, by rw [g51]; exact hP51, by rw [g52]; exact fun e => let ⟨b, e1, e2⟩ := (hP52 e); ⟨b, e1, mv0 hb e2⟩, by rw [g56]; exact fun e => let ⟨b, e1, e2⟩ := (hP56 e); ⟨b, e1, mv0 hb e2⟩, by rw [g57]; exact hP57, by rw [g58]; exact hP58, by rw [g59]; exact hP59⟩
    · have g2 : (L.setIfInBounds 10 true).getD 2 false = L.getD 2 false := by rw [up_set, if_neg (by omega)]
      have g10 : (L.setIfInBounds 10 true).getD 10 false = true := by rw [up_set, if_pos ⟨rfl, by omega⟩]
      have g18 : (L.setIfInBounds 10 true).getD 18 false = L.getD 18 false := by rw [up_set, if_neg (by omega)]
      have g21 : (L.setIfInBounds 10 true).getD 21 false = L.getD 21 false := by rw [up_set, if_neg (by omega)]
      have g22 : (L.setIfInBounds 10 true).getD 22 false = L.getD 22 false := by rw [up_set, if_neg (by omega)]
      have g23 : (L.setIfInBounds 10 true).getD 23 false = L.getD 23 false := by rw [up_set, if_neg (by omega)]
      have g27 : (L.setIfInBounds 10 true).getD 27 false = L.getD 27 false := by rw [up_set, if_neg (by omega)]
      have g28 : (L.setIfInBounds 10 true).getD 28 false = L.getD 28 false := by rw [up_set, if_neg (by omega)]
      have g31 : (L.setIfInBounds 10 true).getD 31 false = L.getD 31 false := by rw [up_set, if_neg (by omega)]
      have g39 : (L.setIfInBounds 10 true).getD 39 false = L.getD 39 false := by rw [up_set, if_neg (by omega)]
      have g47 : (L.setIfInBounds 10 true).getD 47 false = L.getD 47 false := by rw [up_set, if_neg (by omega)]
      have g50 : (L.setIfInBounds 10 true).getD 50 false = L.getD 50 false := by rw [up_set, if_neg (by omega)]
      have g51 : (L.setIfInBounds 10 true).getD 51 false = L.getD 51 false := by rw [up_set, if_neg (by omega)]
      have g52 : (L.setIfInBounds 10 true).getD 52 false = L.getD 52 false := by rw [up_set, if_neg (by omega)]
      have g56 : (L.setIfInBounds 10 true).getD 56 false = L.getD 56 false := by rw [up_set, if_neg (by omega)]
      have g57 : (L.setIfInBounds 10 true).getD 57 false = L.getD 57 false := by rw [up_set, if_neg (by omega)]
      have g58 : (L.setIfInBounds 10 true).getD 58 false = L.getD 58 false := by rw [up_set, if_neg (by omega)]
      have g59 : (L.setIfInBounds 10 true).getD 59 false = L.getD 59 false := by rw [up_set, if_neg (by omega)]
      refine par_call ⟨some 21, _, _, _, _, _⟩ rfl (by rfl) 14 _ _ (by rfl) _ (by rfl) Tryd.call14 (wireText_any (clip x.s) w (by have := clip_size x.s; omega) (hr.below hbw).sane.1) ?_
      rintro x wn ⟨rfl, hb⟩
      have hbn := below_next hbw hb
      exact ⟨_, rfl, (pre_keep hbx0 hbx1 hbx2 hbx3 hbx4 hbb1 hbb2 hbb3 hbb4) hbn, (u13), (.string ⟨(wText (clip x.s)).toArray⟩), (u29), (u32), (u33), (u34), (u38), (u39), (u42), (u50), (u58), (u61), (u62), (u63), (u67), (u68), (u6), (u7), by simp only [Act.put, List.setIfInBounds_toArray, List.set_cons_zero, List.set_cons_succ], hbn, by rw [g2]; exact hP2, fun _ => rfl, by rw [g18]; exact hP18, by rw [g21]; exact fun e => TextsV.below (hP21 e) hb, by rw [g22]; exact hP22, by rw [g23]; exact fun e => let ⟨b, e1, e2⟩ := (hP23 e); ⟨b, e1, mv0 hb e2⟩, by rw [g27]; exact fun e => let ⟨b, e1, e2⟩ := (hP27 e); ⟨b, e1, mv0 hb e2⟩, by rw [g28]; exact hP28, by rw [g31]; exact hP31, by rw [g39]; exact hP39, by rw [g47]; exact hP47, by rw [g50]; exact fun e => TextsV.below (hP50 e) hb, by rw [g51]; exact hP51, by rw [g52]; exact fun e => let ⟨b, e1, e2⟩ := (hP52 e); ⟨b, e1, mv0 hb e2⟩, by rw [g56]; exact fun e => let ⟨b, e1, e2⟩ := (hP56 e); ⟨b, e1, mv0 hb e2⟩, by rw [g57]; exact hP57, by rw [g58]; exact hP58, by rw [g59]; exact hP59⟩
    · have g2 : (L.setIfInBounds 18 true).getD 2 false = L.getD 2 false := by rw [up_set, if_neg (by omega)]
      have g10 : (L.setIfInBounds 18 true).getD 10 false = L.getD 10 false := by rw [up_set, if_neg (by omega)]
      have g18 : (L.setIfInBounds 18 true).getD 18 false = true := by rw [up_set, if_pos ⟨rfl, by omega⟩]
      have g21 : (L.setIfInBounds 18 true).getD 21 false = L.getD 21 false := by rw [up_set, if_neg (by omega)]
      have g22 : (L.setIfInBounds 18 true).getD 22 false = L.getD 22 false := by rw [up_set, if_neg (by omega)]
      have g23 : (L.setIfInBounds 18 true).getD 23 false = L.getD 23 false := by rw [up_set, if_neg (by omega)]
      have g27 : (L.setIfInBounds 18 true).getD 27 false = L.getD 27 false := by rw [up_set, if_neg (by omega)]
      have g28 : (L.setIfInBounds 18 true).getD 28 false = L.getD 28 false := by rw [up_set, if_neg (by omega)]
      have g31 : (L.setIfInBounds 18 true).getD 31 false = L.getD 31 false := by rw [up_set, if_neg (by omega)]
      have g39 : (L.setIfInBounds 18 true).getD 39 false = L.getD 39 false := by rw [up_set, if_neg (by omega)]
      have g47 : (L.setIfInBounds 18 true).getD 47 false = L.getD 47 false := by rw [up_set, if_neg (by omega)]
      have g50 : (L.setIfInBounds 18 true).getD 50 false = L.getD 50 false := by rw [up_set, if_neg (by omega)]
      have g51 : (L.setIfInBounds 18 true).getD 51 false = L.getD 51 false := by rw [up_set, if_neg (by omega)]
      have g52 : (L.setIfInBounds 18 true).getD 52 false = L.getD 52 false := by rw [up_set, if_neg (by omega)]
      have g56 : (L.setIfInBounds 18 true).getD 56 false = L.getD 56 false := by rw [up_set, if_neg (by omega)]
      have g57 : (L.setIfInBounds 18 true).getD 57 false = L.getD 57 false := by rw [up_set, if_neg (by omega)]
      have g58 : (L.setIfInBounds 18 true).getD 58 false = L.getD 58 false := by rw [up_set, if_neg (by omega)]
      have g59 : (L.setIfInBounds 18 true).getD 59 false = L.getD 59 false := by rw [up_set, if_neg (by omega)]
      refine par_call ⟨some 29, _, _, _, _, _⟩ rfl (by rfl) 16 _ _ (by rfl) _ (by rfl) Tryd.call16 (wireIntsV_any (.slice Ax (min 20 x.L.length) cx) (x.L.take 20) (by rw [List.length_take]; omega) w (hIx.below hbw) (hr.below hbw).sane.1) ?_
      rintro x wn ⟨rfl, hb⟩
      have hbn := below_next hbw hb
      exact ⟨_, rfl, (pre_keep hbx0 hbx1 hbx2 hbx3 hbx4 hbb1 hbb2 hbb3 hbb4) hbn, (u13), (u21), (.string ⟨(wInts (x.L.take 20)).toArray⟩), (u32), (u33), (u34), (u38), (u39), (u42), (u50), (u58), (u61), (u62), (u63), (u67), (u68), (u6), (u7), by simp only [Act.put, List.setIfInBounds_toArray, List.set_cons_zero, List.set_cons_succ], hbn, by rw [g2]; exact hP2, by rw [g10]; exact hP10, fun _ => rfl, by rw [g21]; exact fun e => TextsV.below (hP21 e) hb, by rw [g22]; exact hP22, by rw [g23]; exact fun e => let ⟨b, e1, e2⟩ := (hP23 e); ⟨b, e1, mv0 hb e2⟩, by rw [g27]; exact fun e => let ⟨b, e1, e2⟩ := (hP27 e); ⟨b, e1, mv0 hb e2⟩, by rw [g28]; exact hP28, by rw [g31]; exact hP31, by rw [g39]; exact hP39, by rw [g47]; exact hP47, by rw [g50]; exact fun e => TextsV.below (hP50 e) hb, by rw [g51]; exact hP51, by rw [g52]; exact fun e => let ⟨b, e1, e2⟩ := (hP52 e); ⟨b, e1, mv0 hb e2⟩, by rw [g56]; exact fun e => let ⟨b, e1, e2⟩ := (hP56 e); ⟨b, e1, mv0 hb e2⟩, by rw [g57]; exact hP57, by rw [g58]; exact hP58, by rw [g59]; exact hP59⟩
    · have g2 : (L.setIfInBounds 21 true).getD 2 false = L.getD 2 false := by rw [up_set, if_neg (by omega)]
      have g10 : (L.setIfInBounds 21 true).getD 10 false = L.getD 10 false := by rw [up_set, if_neg (by omega)]
      have g18 : (L.setIfInBounds 21 true).getD 18 false = L.getD 18 false := by rw [up_set, if_neg (by omega)]
      have g21 : (L.setIfInBounds 21 true).getD 21 false = true := by rw [up_set, if_pos ⟨rfl, by omega⟩]
      have g22 : (L.setIfInBounds 21 true).getD 22 false = L.getD 22 false := by rw [up_set, if_neg (by omega)]
      have g23 : (L.setIfInBounds 21 true).getD 23 false = L.getD 23 false := by rw [up_set, if_neg (by omega)]
      have g27 : (L.setIfInBounds 21 true).getD 27 false = L.getD 27 false := by rw [up_set, if_neg (by omega)]
      have g28 : (L.setIfInBounds 21 true).getD 28 false = L.getD 28 false := by rw [up_set, if_neg (by omega)]
      have g31 : (L.setIfInBounds 21 true).getD 31 false = L.getD 31 false := by rw [up_set, if_neg (by omega)]
      have g39 : (L.setIfInBounds 21 true).getD 39 false = L.getD 39 false := by rw [up_set, if_neg (by omega)]
      have g47 : (L.setIfInBounds 21 true).getD 47 false = L.getD 47 false := by rw [up_set, if_neg (by omega)]
      have g50 : (L.setIfInBounds 21 true).getD 50 false = L.getD 50 false := by rw [up_set, if_neg (by omega)]
      have g51 : (L.setIfInBounds 21 true).getD 51 false = L.getD 51 false := by rw [up_set, if_neg (by omega)]
      have g52 : (L.setIfInBounds 21 true).getD 52 false = L.getD 52 false := by rw [up_set, if_neg (by omega)]
      have g56 : (L.setIfInBounds 21 true).getD 56 false = L.getD 56 false := by rw [up_set, if_neg (by omega)]
      have g57 : (L.setIfInBounds 21 true).getD 57 false = L.getD 57 false := by rw [up_set, if_neg (by omega)]
      have g58 : (L.setIfInBounds 21 true).getD 58 false = L.getD 58 false := by rw [up_set, if_neg (by omega)]
      have g59 : (L.setIfInBounds 21 true).getD 59 false = L.getD 59 false := by rw [up_set, if_neg (by omega)]
      refine par_call ⟨some 32, _, _, _, _, _⟩ rfl (by rfl) 11 _ _ (by rfl) _ (by rfl) Tryd.call11 (cut_law tx x.T w (hTx.below hbw)) ?_
      rintro x wn ⟨uu, rfl, hu, hb⟩
      have hbn := below_next hbw hb
      exact ⟨_, rfl, (pre_keep hbx0 hbx1 hbx2 hbx3 hbx4 hbb1 hbb2 hbb3 hbb4) hbn, (u13), (u21), (u29), (uu), (u33), (u34), (u38), (u39), (u42), (u50), (u58), (u61), (u62), (u63), (u67), (u68), (u6), (u7), by simp only [Act.put, List.setIfInBounds_toArray, List.set_cons_zero, List.set_cons_succ], hbn, by rw [g2]; exact hP2, by rw [g10]; exact hP10, by rw [g18]; exact hP18, fun _ => txtsV_own hu (fun z hz => by have := cutL_short x.T z hz; omega), by rw [g22]; exact hP22, by rw [g23]; exact fun e => let ⟨b, e1, e2⟩ := (hP23 e); ⟨b, e1, mv0 hb e2⟩, by rw [g27]; exact fun e => let ⟨b, e1, e2⟩ := (hP27 e); ⟨b, e1, mv0 hb e2⟩, by rw [g28]; exact hP28, by rw [g31]; exact hP31, by rw [g39]; exact hP39, by rw [g47]; exact hP47, by rw [g50]; exact fun e => TextsV.below (hP50 e) hb, by rw [g51]; exact hP51, by rw [g52]; exact fun e => let ⟨b, e1, e2⟩ := (hP52 e); ⟨b, e1, mv0 hb e2⟩, by rw [g56]; exact fun e => let ⟨b, e1, e2⟩ := (hP56 e); ⟨b, e1, mv0 hb e2⟩, by rw [g57]; exact hP57, by rw [g58]; exact hP58, by rw [g59]; exact hP59⟩
    · have g2 : (L.setIfInBounds 22 true).getD 2 false = L.getD 2 false := by rw [up_set, if_neg (by omega)]
      have g10 : (L.setIfInBounds 22 true).getD 10 false = L.getD 10 false := by rw [up_set, if_neg (by omega)]
      have g18 : (L.setIfInBounds 22 true).getD 18 false = L.getD 18 false := by rw [up_set, if_neg (by omega)]
      have g21 : (L.setIfInBounds 22 true).getD 21 false = L.getD 21 false := by rw [up_set, if_neg (by omega)]
      have g22 : (L.setIfInBounds 22 true).getD 22 false = true := by rw [up_set, if_pos ⟨rfl, by omega⟩]
      have g23 : (L.setIfInBounds 22 true).getD 23 false = L.getD 23 false := by rw [up_set, if_neg (by omega)]
      have g27 : (L.setIfInBounds 22 true).getD 27 false = L.getD 27 false := by rw [up_set, if_neg (by omega)]
      have g28 : (L.setIfInBounds 22 true).getD 28 false = L.getD 28 false := by rw [up_set, if_neg (by omega)]
      have g31 : (L.setIfInBounds 22 true).getD 31 false = L.getD 31 false := by rw [up_set, if_neg (by omega)]
      have g39 : (L.setIfInBounds 22 true).getD 39 false = L.getD 39 false := by rw [up_set, if_neg (by omega)]
      have g47 : (L.setIfInBounds 22 true).getD 47 false = L.getD 47 false := by rw [up_set, if_neg (by omega)]
      have g50 : (L.setIfInBounds 22 true).getD 50 false = L.getD 50 false := by rw [up_set, if_neg (by omega)]
      have g51 : (L.setIfInBounds 22 true).getD 51 false = L.getD 51 false := by rw [up_set, if_neg (by omega)]
      have g52 : (L.setIfInBounds 22 true).getD 52 false = L.getD 52 false := by rw [up_set, if_neg (by omega)]
      have g56 : (L.setIfInBounds 22 true).getD 56 false = L.getD 56 false := by rw [up_set, if_neg (by omega)]
      have g57 : (L.setIfInBounds 22 true).getD 57 false = L.getD 57 false := by rw [up_set, if_neg (by omega)]
      have g58 : (L.setIfInBounds 22 true).getD 58 false = L.getD 58 false := by rw [up_set, if_neg (by omega)]
      have g59 : (L.setIfInBounds 22 true).getD 59 false = L.getD 59 false := by rw [up_set, if_neg (by omega)]
      have hD21 := hP21 gd21
      refine par_call ⟨some 33, _, _, _, _, _⟩ rfl (by rfl) 18 _ _ (by rfl) _ (by rfl) Tryd.call18 (wireTextsV_any _ (cutL x.T) (by have := cutL_len x.T; omega) w hD21 (hr.below hbw).sane.1) ?_
      rintro x wn ⟨rfl, hb⟩
      have hbn := below_next hbw hb
      exact ⟨_, rfl, (pre_keep hbx0 hbx1 hbx2 hbx3 hbx4 hbb1 hbb2 hbb3 hbb4) hbn, (u13), (u21), (u29), (u32), (.string ⟨(wTexts (cutL x.T)).toArray⟩), (u34), (u38), (u39), (u42), (u50), (u58), (u61), (u62), (u63), (u67), (u68), (u6), (u7), by simp only [Act.put, List.setIfInBounds_toArray, List.set_cons_zero, List.set_cons_succ], hbn, by rw [g2]; exact hP2, by rw [g10]; exact hP10, by rw [g18]; exact hP18, by rw [g21]; exact fun e => TextsV.below (hP21 e) hb, fun _ => rfl, by rw [g23]; exact fun e => let ⟨b, e1, e2⟩ := (hP23 e); ⟨b, e1, mv0 hb e2⟩, by rw [g27]; exact fun e => let ⟨b, e1, e2⟩ := (hP27 e); ⟨b, e1, mv0 hb e2⟩, by rw [g28]; exact hP28, by rw [g31]; exact hP31, by rw [g39]; exact hP39, by rw [g47]; exact hP47, by rw [g50]; exact fun e => TextsV.below (hP50 e) hb, by rw [g51]; exact hP51, by rw [g52]; exact fun e => let ⟨b, e1, e2⟩ := (hP52 e); ⟨b, e1, mv0 hb e2⟩, by rw [g56]; exact fun e => let ⟨b, e1, e2⟩ := (hP56 e); ⟨b, e1, mv0 hb e2⟩, by rw [g57]; exact hP57, by rw [g58]; exact hP58, by rw [g59]; exact hP59⟩
    · have g2 : (L.setIfInBounds 23 true).getD 2 false = L.getD 2 false := by rw [up_set, if_neg (by omega)]
      have g10 : (L.setIfInBounds 23 true).getD 10 false = L.getD 10 false := by rw [up_set, if_neg (by omega)]
      have g18 : (L.setIfInBounds 23 true).getD 18 false = L.getD 18 false := by rw [up_set, if_neg (by omega)]
      have g21 : (L.setIfInBounds 23 true).getD 21 false = L.getD 21 false := by rw [up_set, if_neg (by omega)]
      have g22 : (L.setIfInBounds 23 true).getD 22 false = L.getD 22 false := by rw [up_set, if_neg (by omega)]
      have g23 : (L.setIfInBounds 23 true).getD 23 false = true := by rw [up_set, if_pos ⟨rfl, by omega⟩]
      have g27 : (L.setIfInBounds 23 true).getD 27 false = L.getD 27 false := by rw [up_set, if_neg (by omega)]
      have g28 : (L.setIfInBounds 23 true).getD 28 false = L.getD 28 false := by rw [up_set, if_neg (by omega)]
      have g31 : (L.setIfInBounds 23 true).getD 31 false = L.getD 31 false := by rw [up_set, if_neg (by omega)]
      have g39 : (L.setIfInBounds 23 true).getD 39 false = L.getD 39 false := by rw [up_set, if_neg (by omega)]
      have g47 : (L.setIfInBounds 23 true).getD 47 false = L.getD 47 false := by rw [up_set, if_neg (by omega)]
      have g50 : (L.setIfInBounds 23 true).getD 50 false = L.getD 50 false := by rw [up_set, if_neg (by omega)]
      have g51 : (L.setIfInBounds 23 true).getD 51 false = L.getD 51 false := by rw [up_set, if_neg (by omega)]
      have g52 : (L.setIfInBounds 23 true).getD 52 false = L.getD 52 false := by rw [up_set, if_neg (by omega)]
      have g56 : (L.setIfInBounds 23 true).getD 56 false = L.getD 56 false := by rw [up_set, if_neg (by omega)]
      have g57 : (L.setIfInBounds 23 true).getD 57 false = L.getD 57 false := by rw [up_set, if_neg (by omega)]
      have g58 : (L.setIfInBounds 23 true).getD 58 false = L.getD 58 false := by rw [up_set, if_neg (by omega)]
      have g59 : (L.setIfInBounds 23 true).getD 59 false = L.getD 59 false := by rw [up_set, if_neg (by omega)]
      have hD2 := hP2 gd2
      obtain rfl := hD2
      have hD10 := hP10 gd10
      obtain rfl := hD10
      have hD18 := hP18 gd18
      obtain rfl := hD18
      have hD22 := hP22 gd22
      obtain rfl := hD22
      have hb : RowKit.Below w.heap.size w (w.alloc (.cells #[.string ⟨(wInt x.n).toArray⟩, .string ⟨(wText (clip x.s)).toArray⟩, .string ⟨(wInts (x.L.take 20)).toArray⟩, .string ⟨(wTexts (cutL x.T)).toArray⟩] 9)) := below_alloc1 w _
      have hbn := below_next hbw hb
      refine par_run ⟨some 34, _, _, _, _, _⟩ (.slice (some ⟨w.heap.size, 0, none⟩) 4 4) (w.alloc (.cells #[.string ⟨(wInt x.n).toArray⟩, .string ⟨(wText (clip x.s)).toArray⟩, .string ⟨(wInts (x.L.take 20)).toArray⟩, .string ⟨(wTexts (cutL x.T)).toArray⟩] 9)) rfl (by rfl) (by go_simp) ?_
      exact ⟨(pre_keep hbx0 hbx1 hbx2 hbx3 hbx4 hbb1 hbb2 hbb3 hbb4) hbn, (.string ⟨(wInt x.n).toArray⟩), (.string ⟨(wText (clip x.s)).toArray⟩), (.string ⟨(wInts (x.L.take 20)).toArray⟩), (u32), (.string ⟨(wTexts (cutL x.T)).toArray⟩), (.slice (some ⟨w.heap.size, 0, none⟩) 4 4), (u38), (u39), (u42), (u50), (u58), (u61), (u62), (u63), (u67), (u68), (u6), (u7), by simp only [Act.put, List.setIfInBounds_toArray, List.set_cons_zero, List.set_cons_succ], hbn, by rw [g2]; exact hP2, by rw [g10]; exact hP10, by rw [g18]; exact hP18, by rw [g21]; exact fun e => TextsV.below (hP21 e) hb, by rw [g22]; exact hP22, fun _ => ⟨w.heap.size, rfl, enc_at w x 9 hk⟩, by rw [g27]; exact fun e => let ⟨b, e1, e2⟩ := (hP27 e); ⟨b, e1, mv0 hb e2⟩, by rw [g28]; exact hP28, by rw [g31]; exact hP31, by rw [g39]; exact hP39, by rw [g47]; exact hP47, by rw [g50]; exact fun e => TextsV.below (hP50 e) hb, by rw [g51]; exact hP51, by rw [g52]; exact fun e => let ⟨b, e1, e2⟩ := (hP52 e); ⟨b, e1, mv0 hb e2⟩, by rw [g56]; exact fun e => let ⟨b, e1, e2⟩ := (hP56 e); ⟨b, e1, mv0 hb e2⟩, by rw [g57]; exact hP57, by rw [g58]; exact hP58, by rw [g59]; exact hP59⟩
    · have g2 : (L.setIfInBounds 27 true).getD 2 false = L.getD 2 false := by rw [up_set, if_neg (by omega)]
      have g10 : (L.setIfInBounds 27 true).getD 10 false = L.getD 10 false := by rw [up_set, if_neg (by omega)]
      have g18 : (L.setIfInBounds 27 true).getD 18 false = L.getD 18 false := by rw [up_set, if_neg (by omega)]
      have g21 : (L.setIfInBounds 27 true).getD 21 false = L.getD 21 false := by rw [up_set, if_neg (by omega)]
      have g22 : (L.setIfInBounds 27 true).getD 22 false = L.getD 22 false := by rw [up_set, if_neg (by omega)]
      have g23 : (L.setIfInBounds 27 true).getD 23 false = L.getD 23 false := by rw [up_set, if_neg (by omega)]
      have g27 : (L.setIfInBounds 27 true).getD 27 false = true := by rw [up_set, if_pos ⟨rfl, by omega⟩]
      have g28 : (L.setIfInBounds 27 true).getD 28 false = L.getD 28 false := by rw [up_set, if_neg (by omega)]
      have g31 : (L.setIfInBounds 27 true).getD 31 false = L.getD 31 false := by rw [up_set, if_neg (by omega)]
      have g39 : (L.setIfInBounds 27 true).getD 39 false = L.getD 39 false := by rw [up_set, if_neg (by omega)]
      have g47 : (L.setIfInBounds 27 true).getD 47 false = L.getD 47 false := by rw [up_set, if_neg (by omega)]
      have g50 : (L.setIfInBounds 27 true).getD 50 false = L.getD 50 false := by rw [up_set, if_neg (by omega)]
      have g51 : (L.setIfInBounds 27 true).getD 51 false = L.getD 51 false := by rw [up_set, if_neg (by omega)]
      have g52 : (L.setIfInBounds 27 true).getD 52 false = L.getD 52 false := by rw [up_set, if_neg (by omega)]
      have g56 : (L.setIfInBounds 27 true).getD 56 false = L.getD 56 false := by rw [up_set, if_neg (by omega)]
      have g57 : (L.setIfInBounds 27 true).getD 57 false = L.getD 57 false := by rw [up_set, if_neg (by omega)]
      have g58 : (L.setIfInBounds 27 true).getD 58 false = L.getD 58 false := by rw [up_set, if_neg (by omega)]
      have g59 : (L.setIfInBounds 27 true).getD 59 false = L.getD 59 false := by rw [up_set, if_neg (by omega)]
      have hD23 := hP23 gd23
      obtain ⟨b, rfl, hrow⟩ := hD23
      have hb : RowKit.Below w.heap.size w w := Below.refl _ _
      have hbn := below_next hbw hb
      refine par_run ⟨some 38, _, _, _, _, _⟩ (.pointer (some ⟨b, k, none⟩)) w rfl (by rfl) (by go_simp) ?_
      exact ⟨(pre_keep hbx0 hbx1 hbx2 hbx3 hbx4 hbb1 hbb2 hbb3 hbb4) hbn, (u13), (u21), (u29), (u32), (u33), (.slice (some ⟨b, 0, none⟩) 4 4), (.pointer (some ⟨b, k, none⟩)), (u39), (u42), (u50), (u58), (u61), (u62), (u63), (u67), (u68), (u6), (u7), by simp only [Act.put, List.setIfInBounds_toArray, List.set_cons_zero, List.set_cons_succ], hbn, by rw [g2]; exact hP2, by rw [g10]; exact hP10, by rw [g18]; exact hP18, by rw [g21]; exact fun e => TextsV.below (hP21 e) hb, by rw [g22]; exact hP22, by rw [g23]; exact fun e => let ⟨b, e1, e2⟩ := (hP23 e); ⟨b, e1, mv0 hb e2⟩, fun _ => ⟨b, rfl, hrow⟩, by rw [g28]; exact hP28, by rw [g31]; exact hP31, by rw [g39]; exact hP39, by rw [g47]; exact hP47, by rw [g50]; exact fun e => TextsV.below (hP50 e) hb, by rw [g51]; exact hP51, by rw [g52]; exact fun e => let ⟨b, e1, e2⟩ := (hP52 e); ⟨b, e1, mv0 hb e2⟩, by rw [g56]; exact fun e => let ⟨b, e1, e2⟩ := (hP56 e); ⟨b, e1, mv0 hb e2⟩, by rw [g57]; exact hP57, by rw [g58]; exact hP58, by rw [g59]; exact hP59⟩
    · have g2 : (L.setIfInBounds 28 true).getD 2 false = L.getD 2 false := by rw [up_set, if_neg (by omega)]
      have g10 : (L.setIfInBounds 28 true).getD 10 false = L.getD 10 false := by rw [up_set, if_neg (by omega)]
      have g18 : (L.setIfInBounds 28 true).getD 18 false = L.getD 18 false := by rw [up_set, if_neg (by omega)]
      have g21 : (L.setIfInBounds 28 true).getD 21 false = L.getD 21 false := by rw [up_set, if_neg (by omega)]
      have g22 : (L.setIfInBounds 28 true).getD 22 false = L.getD 22 false := by rw [up_set, if_neg (by omega)]
      have g23 : (L.setIfInBounds 28 true).getD 23 false = L.getD 23 false := by rw [up_set, if_neg (by omega)]
      have g27 : (L.setIfInBounds 28 true).getD 27 false = L.getD 27 false := by rw [up_set, if_neg (by omega)]
      have g28 : (L.setIfInBounds 28 true).getD 28 false = true := by rw [up_set, if_pos ⟨rfl, by omega⟩]
      have g31 : (L.setIfInBounds 28 true).getD 31 false = L.getD 31 false := by rw [up_set, if_neg (by omega)]
      have g39 : (L.setIfInBounds 28 true).getD 39 false = L.getD 39 false := by rw [up_set, if_neg (by omega)]
      have g47 : (L.setIfInBounds 28 true).getD 47 false = L.getD 47 false := by rw [up_set, if_neg (by omega)]
      have g50 : (L.setIfInBounds 28 true).getD 50 false = L.getD 50 false := by rw [up_set, if_neg (by omega)]
      have g51 : (L.setIfInBounds 28 true).getD 51 false = L.getD 51 false := by rw [up_set, if_neg (by omega)]
      have g52 : (L.setIfInBounds 28 true).getD 52 false = L.getD 52 false := by rw [up_set, if_neg (by omega)]
      have g56 : (L.setIfInBounds 28 true).getD 56 false = L.getD 56 false := by rw [up_set, if_neg (by omega)]
      have g57 : (L.setIfInBounds 28 true).getD 57 false = L.getD 57 false := by rw [up_set, if_neg (by omega)]
      have g58 : (L.setIfInBounds 28 true).getD 58 false = L.getD 58 false := by rw [up_set, if_neg (by omega)]
      have g59 : (L.setIfInBounds 28 true).getD 59 false = L.getD 59 false := by rw [up_set, if_neg (by omega)]
      have hD27 := hP27 gd27
      obtain ⟨b, rfl, hrow⟩ := hD27
      have hb : RowKit.Below w.heap.size w w := Below.refl _ _
      have hbn := below_next hbw hb
      refine par_run ⟨some 39, _, _, _, _, _⟩ (.string ⟨(encK k x).toArray⟩) w rfl (by rfl) (by go_simp) ?_
      exact ⟨(pre_keep hbx0 hbx1 hbx2 hbx3 hbx4 hbb1 hbb2 hbb3 hbb4) hbn, (u13), (u21), (u29), (u32), (u33), (u34), (.pointer (some ⟨b, k, none⟩)), (.string ⟨(encK k x).toArray⟩), (u42), (u50), (u58), (u61), (u62), (u63), (u67), (u68), (u6), (u7), by simp only [Act.put, List.setIfInBounds_toArray, List.set_cons_zero, List.set_cons_succ], hbn, by rw [g2]; exact hP2, by rw [g10]; exact hP10, by rw [g18]; exact hP18, by rw [g21]; exact fun e => TextsV.below (hP21 e) hb, by rw [g22]; exact hP22, by rw [g23]; exact fun e => let ⟨b, e1, e2⟩ := (hP23 e); ⟨b, e1, mv0 hb e2⟩, by rw [g27]; exact fun e => let ⟨b, e1, e2⟩ := (hP27 e); ⟨b, e1, mv0 hb e2⟩, fun _ => rfl, by rw [g31]; exact hP31, by rw [g39]; exact hP39, by rw [g47]; exact hP47, by rw [g50]; exact fun e => TextsV.below (hP50 e) hb, by rw [g51]; exact hP51, by rw [g52]; exact fun e => let ⟨b, e1, e2⟩ := (hP52 e); ⟨b, e1, mv0 hb e2⟩, by rw [g56]; exact fun e => let ⟨b, e1, e2⟩ := (hP56 e); ⟨b, e1, mv0 hb e2⟩, by rw [g57]; exact hP57, by rw [g58]; exact hP58, by rw [g59]; exact hP59⟩
    · have g2 : (L.setIfInBounds 31 true).getD 2 false = L.getD 2 false := by rw [up_set, if_neg (by omega)]
      have g10 : (L.setIfInBounds 31 true).getD 10 false = L.getD 10 false := by rw [up_set, if_neg (by omega)]
      have g18 : (L.setIfInBounds 31 true).getD 18 false = L.getD 18 false := by rw [up_set, if_neg (by omega)]
      have g21 : (L.setIfInBounds 31 true).getD 21 false = L.getD 21 false := by rw [up_set, if_neg (by omega)]
      have g22 : (L.setIfInBounds 31 true).getD 22 false = L.getD 22 false := by rw [up_set, if_neg (by omega)]
      have g23 : (L.setIfInBounds 31 true).getD 23 false = L.getD 23 false := by rw [up_set, if_neg (by omega)]
      have g27 : (L.setIfInBounds 31 true).getD 27 false = L.getD 27 false := by rw [up_set, if_neg (by omega)]
      have g28 : (L.setIfInBounds 31 true).getD 28 false = L.getD 28 false := by rw [up_set, if_neg (by omega)]
      have g31 : (L.setIfInBounds 31 true).getD 31 false = true := by rw [up_set, if_pos ⟨rfl, by omega⟩]
      have g39 : (L.setIfInBounds 31 true).getD 39 false = L.getD 39 false := by rw [up_set, if_neg (by omega)]
      have g47 : (L.setIfInBounds 31 true).getD 47 false = L.getD 47 false := by rw [up_set, if_neg (by omega)]
      have g50 : (L.setIfInBounds 31 true).getD 50 false = L.getD 50 false := by rw [up_set, if_neg (by omega)]
      have g51 : (L.setIfInBounds 31 true).getD 51 false = L.getD 51 false := by rw [up_set, if_neg (by omega)]
      have g52 : (L.setIfInBounds 31 true).getD 52 false = L.getD 52 false := by rw [up_set, if_neg (by omega)]
      have g56 : (L.setIfInBounds 31 true).getD 56 false = L.getD 56 false := by rw [up_set, if_neg (by omega)]
      have g57 : (L.setIfInBounds 31 true).getD 57 false = L.getD 57 false := by rw [up_set, if_neg (by omega)]
      have g58 : (L.setIfInBounds 31 true).getD 58 false = L.getD 58 false := by rw [up_set, if_neg (by omega)]
      have g59 : (L.setIfInBounds 31 true).getD 59 false = L.getD 59 false := by rw [up_set, if_neg (by omega)]
      refine par_call ⟨some 42, _, _, _, _, _⟩ rfl (by rfl) 12 _ _ (by rfl) _ (by rfl) Tryd.call12 (wireInt_any y.n w hFy.1 hFy.2 (hr.below hbw).sane.1) ?_
      rintro x wn ⟨rfl, hb⟩
      have hbn := below_next hbw hb
      exact ⟨_, rfl, (pre_keep hbx0 hbx1 hbx2 hbx3 hbx4 hbb1 hbb2 hbb3 hbb4) hbn, (u13), (u21), (u29), (u32), (u33), (u34), (u38), (u39), (.string ⟨(wInt y.n).toArray⟩), (u50), (u58), (u61), (u62), (u63), (u67), (u68), (u6), (u7), by simp only [Act.put, List.setIfInBounds_toArray, List.set_cons_zero, List.set_cons_succ], hbn, by rw [g2]; exact hP2, by rw [g10]; exact hP10, by rw [g18]; exact hP18, by rw [g21]; exact fun e => TextsV.below (hP21 e) hb, by rw [g22]; exact hP22, by rw [g23]; exact fun e => let ⟨b, e1, e2⟩ := (hP23 e); ⟨b, e1, mv0 hb e2⟩, by rw [g27]; exact fun e => let ⟨b, e1, e2⟩ := (hP27 e); ⟨b, e1, mv0 hb e2⟩, by rw [g28]; exact hP28, fun _ => rfl, by rw [g39]; exact hP39, by rw [g47]; exact hP47, by rw [g50]; exact fun e => TextsV.below (hP50 e) hb, by rw [g51]; exact hP51, by rw [g52]; exact fun e => let ⟨b, e1, e2⟩ := (hP52 e); ⟨b, e1, mv0 hb e2⟩, by rw [g56]; exact fun e => let ⟨b, e1, e2⟩ := (hP56 e); ⟨b, e1, mv0 hb e2⟩, by rw [g57]; exact hP57, by rw [g58]; exact hP58, by rw [g59]; exact hP59⟩
    · have g2 : (L.setIfInBounds 39 true).getD 2 false = L.getD 2 false := by rw [up_set, if_neg (by omega)]
      have g10 : (L.setIfInBounds 39 true).getD 10 false = L.getD 10 false := by rw [up_set, if_neg (by omega)]
      have g18 : (L.setIfInBounds 39 true).getD 18 false = L.getD 18 false := by rw [up_set, if_neg (by omega)]
      have g21 : (L.setIfInBounds 39 true).getD 21 false = L.getD 21 false := by rw [up_set, if_neg (by omega)]
      have g22 : (L.setIfInBounds 39 true).getD 22 false = L.getD 22 false := by rw [up_set, if_neg (by omega)]
      have g23 : (L.setIfInBounds 39 true).getD 23 false = L.getD 23 false := by rw [up_set, if_neg (by omega)]
      have g27 : (L.setIfInBounds 39 true).getD 27 false = L.getD 27 false := by rw [up_set, if_neg (by omega)]
      have g28 : (L.setIfInBounds 39 true).getD 28 false = L.getD 28 false := by rw [up_set, if_neg (by omega)]
      have g31 : (L.setIfInBounds 39 true).getD 31 false = L.getD 31 false := by rw [up_set, if_neg (by omega)]
      have g39 : (L.setIfInBounds 39 true).getD 39 false = true := by rw [up_set, if_pos ⟨rfl, by omega⟩]
      have g47 : (L.setIfInBounds 39 true).getD 47 false = L.getD 47 false := by rw [up_set, if_neg (by omega)]
      have g50 : (L.setIfInBounds 39 true).getD 50 false = L.getD 50 false := by rw [up_set, if_neg (by omega)]
      have g51 : (L.setIfInBounds 39 true).getD 51 false = L.getD 51 false := by rw [up_set, if_neg (by omega)]
      have g52 : (L.setIfInBounds 39 true).getD 52 false = L.getD 52 false := by rw [up_set, if_neg (by omega)]
      have g56 : (L.setIfInBounds 39 true).getD 56 false = L.getD 56 false := by rw [up_set, if_neg (by omega)]
      have g57 : (L.setIfInBounds 39 true).getD 57 false = L.getD 57 false := by rw [up_set, if_neg (by omega)]
      have g58 : (L.setIfInBounds 39 true).getD 58 false = L.getD 58 false := by rw [up_set, if_neg (by omega)]
      have g59 : (L.setIfInBounds 39 true).getD 59 false = L.getD 59 false := by rw [up_set, if_neg (by omega)]
      refine par_call ⟨some 50, _, _, _, _, _⟩ rfl (by rfl) 14 _ _ (by rfl) _ (by rfl) Tryd.call14 (wireText_any (clip y.s) w (by have := clip_size y.s; omega) (hr.below hbw).sane.1) ?_
      rintro x wn ⟨rfl, hb⟩
      have hbn := below_next hbw hb
      exact ⟨_, rfl, (pre_keep hbx0 hbx1 hbx2 hbx3 hbx4 hbb1 hbb2 hbb3 hbb4) hbn, (u13), (u21), (u29), (u32), (u33), (u34), (u38), (u39), (u42), (.string ⟨(wText (clip y.s)).toArray⟩), (u58), (u61), (u62), (u63), (u67), (u68), (u6), (u7), by simp only [Act.put, List.setIfInBounds_toArray, List.set_cons_zero, List.set_cons_succ], hbn, by rw [g2]; exact hP2, by rw [g10]; exact hP10, by rw [g18]; exact hP18, by rw [g21]; exact fun e => TextsV.below (hP21 e) hb, by rw [g22]; exact hP22, by rw [g23]; exact fun e => let ⟨b, e1, e2⟩ := (hP23 e); ⟨b, e1, mv0 hb e2⟩, by rw [g27]; exact fun e => let ⟨b, e1, e2⟩ := (hP27 e); ⟨b, e1, mv0 hb e2⟩, by rw [g28]; exact hP28, by rw [g31]; exact hP31, fun _ => rfl, by rw [g47]; exact hP47, by rw [g50]; exact fun e => TextsV.below (hP50 e) hb, by rw [g51]; exact hP51, by rw [g52]; exact fun e => let ⟨b, e1, e2⟩ := (hP52 e); ⟨b, e1, mv0 hb e2⟩, by rw [g56]; exact fun e => let ⟨b, e1, e2⟩ := (hP56 e); ⟨b, e1, mv0 hb e2⟩, by rw [g57]; exact hP57, by rw [g58]; exact hP58, by rw [g59]; exact hP59⟩
    · have g2 : (L.setIfInBounds 47 true).getD 2 false = L.getD 2 false := by rw [up_set, if_neg (by omega)]
      have g10 : (L.setIfInBounds 47 true).getD 10 false = L.getD 10 false := by rw [up_set, if_neg (by omega)]
      have g18 : (L.setIfInBounds 47 true).getD 18 false = L.getD 18 false := by rw [up_set, if_neg (by omega)]
      have g21 : (L.setIfInBounds 47 true).getD 21 false = L.getD 21 false := by rw [up_set, if_neg (by omega)]
      have g22 : (L.setIfInBounds 47 true).getD 22 false = L.getD 22 false := by rw [up_set, if_neg (by omega)]
      have g23 : (L.setIfInBounds 47 true).getD 23 false = L.getD 23 false := by rw [up_set, if_neg (by omega)]
      have g27 : (L.setIfInBounds 47 true).getD 27 false = L.getD 27 false := by rw [up_set, if_neg (by omega)]
      have g28 : (L.setIfInBounds 47 true).getD 28 false = L.getD 28 false := by rw [up_set, if_neg (by omega)]
      have g31 : (L.setIfInBounds 47 true).getD 31 false = L.getD 31 false := by rw [up_set, if_neg (by omega)]
      have g39 : (L.setIfInBounds 47 true).getD 39 false = L.getD 39 false := by rw [up_set, if_neg (by omega)]
      have g47 : (L.setIfInBounds 47 true).getD 47 false = true := by rw [up_set, if_pos ⟨rfl, by omega⟩]
      have g50 : (L.setIfInBounds 47 true).getD 50 false = L.getD 50 false := by rw [up_set, if_neg (by omega)]
      have g51 : (L.setIfInBounds 47 true).getD 51 false = L.getD 51 false := by rw [up_set, if_neg (by omega)]
      have g52 : (L.setIfInBounds 47 true).getD 52 false = L.getD 52 false := by rw [up_set, if_neg (by omega)]
      have g56 : (L.setIfInBounds 47 true).getD 56 false = L.getD 56 false := by rw [up_set, if_neg (by omega)]
      have g57 : (L.setIfInBounds 47 true).getD 57 false = L.getD 57 false := by rw [up_set, if_neg (by omega)]
      have g58 : (L.setIfInBounds 47 true).getD 58 false = L.getD 58 false := by rw [up_set, if_neg (by omega)]
      have g59 : (L.setIfInBounds 47 true).getD 59 false = L.getD 59 false := by rw [up_set, if_neg (by omega)]
      refine par_call ⟨some 58, _, _, _, _, _⟩ rfl (by rfl) 16 _ _ (by rfl) _ (by rfl) Tryd.call16 (wireIntsV_any (.slice Ay (min 20 y.L.length) cy) (y.L.take 20) (by rw [List.length_take]; omega) w (hIy.below hbw) (hr.below hbw).sane.1) ?_
      rintro x wn ⟨rfl, hb⟩
      have hbn := below_next hbw hb
      exact ⟨_, rfl, (pre_keep hbx0 hbx1 hbx2 hbx3 hbx4 hbb1 hbb2 hbb3 hbb4) hbn, (u13), (u21), (u29), (u32), (u33), (u34), (u38), (u39), (u42), (u50), (.string ⟨(wInts (y.L.take 20)).toArray⟩), (u61), (u62), (u63), (u67), (u68), (u6), (u7), by simp only [Act.put, List.setIfInBounds_toArray, List.set_cons_zero, List.set_cons_succ], hbn, by rw [g2]; exact hP2, by rw [g10]; exact hP10, by rw [g18]; exact hP18, by rw [g21]; exact fun e => TextsV.below (hP21 e) hb, by rw [g22]; exact hP22, by rw [g23]; exact fun e => let ⟨b, e1, e2⟩ := (hP23 e); ⟨b, e1, mv0 hb e2⟩, by rw [g27]; exact fun e => let ⟨b, e1, e2⟩ := (hP27 e); ⟨b, e1, mv0 hb e2⟩, by rw [g28]; exact hP28, by rw [g31]; exact hP31, by rw [g39]; exact hP39, fun _ => rfl, by rw [g50]; exact fun e => TextsV.below (hP50 e) hb, by rw [g51]; exact hP51, by rw [g52]; exact fun e => let ⟨b, e1, e2⟩ := (hP52 e); ⟨b, e1, mv0 hb e2⟩, by rw [g56]; exact fun e => let ⟨b, e1, e2⟩ := (hP56 e); ⟨b, e1, mv0 hb e2⟩, by rw [g57]; exact hP57, by rw [g58]; exact hP58, by rw [g59]; exact hP59⟩
    · have g2 : (L.setIfInBounds 50 true).getD 2 false = L.getD 2 false := by rw [up_set, if_neg (by omega)]
      have g10 : (L.setIfInBounds 50 true).getD 10 false = L.getD 10 false := by rw [up_set, if_neg (by omega)]
      have g18 : (L.setIfInBounds 50 true).getD 18 false = L.getD 18 false := by rw [up_set, if_neg (by omega)]
      have g21 : (L.setIfInBounds 50 true).getD 21 false = L.getD 21 false := by rw [up_set, if_neg (by omega)]
      have g22 : (L.setIfInBounds 50 true).getD 22 false = L.getD 22 false := by rw [up_set, if_neg (by omega)]
      have g23 : (L.setIfInBounds 50 true).getD 23 false = L.getD 23 false := by rw [up_set, if_neg (by omega)]
      have g27 : (L.setIfInBounds 50 true).getD 27 false = L.getD 27 false := by rw [up_set, if_neg (by omega)]
      have g28 : (L.setIfInBounds 50 true).getD 28 false = L.getD 28 false := by rw [up_set, if_neg (by omega)]
      have g31 : (L.setIfInBounds 50 true).getD 31 false = L.getD 31 false := by rw [up_set, if_neg (by omega)]
      have g39 : (L.setIfInBounds 50 true).getD 39 false = L.getD 39 false := by rw [up_set, if_neg (by omega)]
      have g47 : (L.setIfInBounds 50 true).getD 47 false = L.getD 47 false := by rw [up_set, if_neg (by omega)]
      have g50 : (L.setIfInBounds 50 true).getD 50 false = true := by rw [up_set, if_pos ⟨rfl, by omega⟩]
      have g51 : (L.setIfInBounds 50 true).getD 51 false = L.getD 51 false := by rw [up_set, if_neg (by omega)]
      have g52 : (L.setIfInBounds 50 true).getD 52 false = L.getD 52 false := by rw [up_set, if_neg (by omega)]
      have g56 : (L.setIfInBounds 50 true).getD 56 false = L.getD 56 false := by rw [up_set, if_neg (by omega)]
      have g57 : (L.setIfInBounds 50 true).getD 57 false = L.getD 57 false := by rw [up_set, if_neg (by omega)]
      have g58 : (L.setIfInBounds 50 true).getD 58 false = L.getD 58 false := by rw [up_set, if_neg (by omega)]
      have g59 : (L.setIfInBounds 50 true).getD 59 false = L.getD 59 false := by rw [up_set, if_neg (by omega)]
      refine par_call ⟨some 61, _, _, _, _, _⟩ rfl (by rfl) 11 _ _ (by rfl) _ (by rfl) Tryd.call11 (cut_law ty y.T w (hTy.below hbw)) ?_
      rintro x wn ⟨uu, rfl, hu, hb⟩
      have hbn := below_next hbw hb
      exact ⟨_, rfl, (pre_keep hbx0 hbx1 hbx2 hbx3 hbx4 hbb1 hbb2 hbb3 hbb4) hbn, (u13), (u21), (u29), (u32), (u33), (u34), (u38), (u39), (u42), (u50), (u58), (uu), (u62), (u63), (u67), (u68), (u6), (u7), by simp only [Act.put, List.setIfInBounds_toArray, List.set_cons_zero, List.set_cons_succ], hbn, by rw [g2]; exact hP2, by rw [g10]; exact hP10, by rw [g18]; exact hP18, by rw [g21]; exact fun e => TextsV.below (hP21 e) hb, by rw [g22]; exact hP22, by rw [g23]; exact fun e => let ⟨b, e1, e2⟩ := (hP23 e); ⟨b, e1, mv0 hb e2⟩, by rw [g27]; exact fun e => let ⟨b, e1, e2⟩ := (hP27 e); ⟨b, e1, mv0 hb e2⟩, by rw [g28]; exact hP28, by rw [g31]; exact hP31, by rw [g39]; exact hP39, by rw [g47]; exact hP47, fun _ => txtsV_own hu (fun z hz => by have := cutL_short y.T z hz; omega), by rw [g51]; exact hP51, by rw [g52]; exact fun e => let ⟨b, e1, e2⟩ := (hP52 e); ⟨b, e1, mv0 hb e2⟩, by rw [g56]; exact fun e => let ⟨b, e1, e2⟩ := (hP56 e); ⟨b, e1, mv0 hb e2⟩, by rw [g57]; exact hP57, by rw [g58]; exact hP58, by rw [g59]; exact hP59⟩
    · have g2 : (L.setIfInBounds 51 true).getD 2 false = L.getD 2 false := by rw [up_set, if_neg (by omega)]
      have g10 : (L.setIfInBounds 51 true).getD 10 false = L.getD 10 false := by rw [up_set, if_neg (by omega)]
      have g18 : (L.setIfInBounds 51 true).getD 18 false = L.getD 18 false := by rw [up_set, if_neg (by omega)]
      have g21 : (L.setIfInBounds 51 true).getD 21 false = L.getD 21 false := by rw [up_set, if_neg (by omega)]
      have g22 : (L.setIfInBounds 51 true).getD 22 false = L.getD 22 false := by rw [up_set, if_neg (by omega)]
      have g23 : (L.setIfInBounds 51 true).getD 23 false = L.getD 23 false := by rw [up_set, if_neg (by omega)]
      have g27 : (L.setIfInBounds 51 true).getD 27 false = L.getD 27 false := by rw [up_set, if_neg (by omega)]
      have g28 : (L.setIfInBounds 51 true).getD 28 false = L.getD 28 false := by rw [up_set, if_neg (by omega)]
      have g31 : (L.setIfInBounds 51 true).getD 31 false = L.getD 31 false := by rw [up_set, if_neg (by omega)]
      have g39 : (L.setIfInBounds 51 true).getD 39 false = L.getD 39 false := by rw [up_set, if_neg (by omega)]
      have g47 : (L.setIfInBounds 51 true).getD 47 false = L.getD 47 false := by rw [up_set, if_neg (by omega)]
      have g50 : (L.setIfInBounds 51 true).getD 50 false = L.getD 50 false := by rw [up_set, if_neg (by omega)]
      have g51 : (L.setIfInBounds 51 true).getD 51 false = true := by rw [up_set, if_pos ⟨rfl, by omega⟩]
      have g52 : (L.setIfInBounds 51 true).getD 52 false = L.getD 52 false := by rw [up_set, if_neg (by omega)]
      have g56 : (L.setIfInBounds 51 true).getD 56 false = L.getD 56 false := by rw [up_set, if_neg (by omega)]
      have g57 : (L.setIfInBounds 51 true).getD 57 false = L.getD 57 false := by rw [up_set, if_neg (by omega)]
      have g58 : (L.setIfInBounds 51 true).getD 58 false = L.getD 58 false := by rw [up_set, if_neg (by omega)]
      have g59 : (L.setIfInBounds 51 true).getD 59 false = L.getD 59 false := by rw [up_set, if_neg (by omega)]
      have hD50 := hP50 gd50
      refine par_call ⟨some 62, _, _, _, _, _⟩ rfl (by rfl) 18 _ _ (by rfl) _ (by rfl) Tryd.call18 (wireTextsV_any _ (cutL y.T) (by have := cutL_len y.T; omega) w hD50 (hr.below hbw).sane.1) ?_
      rintro x wn ⟨rfl, hb⟩
      have hbn := below_next hbw hb
      exact ⟨_, rfl, (pre_keep hbx0 hbx1 hbx2 hbx3 hbx4 hbb1 hbb2 hbb3 hbb4) hbn, (u13), (u21), (u29), (u32), (u33), (u34), (u38), (u39), (u42), (u50), (u58), (u61), (.string ⟨(wTexts (cutL y.T)).toArray⟩), (u63), (u67), (u68), (u6), (u7), by simp only [Act.put, List.setIfInBounds_toArray, List.set_cons_zero, List.set_cons_succ], hbn, by rw [g2]; exact hP2, by rw [g10]; exact hP10, by rw [g18]; exact hP18, by rw [g21]; exact fun e => TextsV.below (hP21 e) hb, by rw [g22]; exact hP22, by rw [g23]; exact fun e => let ⟨b, e1, e2⟩ := (hP23 e); ⟨b, e1, mv0 hb e2⟩, by rw [g27]; exact fun e => let ⟨b, e1, e2⟩ := (hP27 e); ⟨b, e1, mv0 hb e2⟩, by rw [g28]; exact hP28, by rw [g31]; exact hP31, by rw [g39]; exact hP39, by rw [g47]; exact hP47, by rw [g50]; exact fun e => TextsV.below (hP50 e) hb, fun _ => rfl, by rw [g52]; exact fun e => let ⟨b, e1, e2⟩ := (hP52 e); ⟨b, e1, mv0 hb e2⟩, by rw [g56]; exact fun e => let ⟨b, e1, e2⟩ := (hP56 e); ⟨b, e1, mv0 hb e2⟩, by rw [g57]; exact hP57, by rw [g58]; exact hP58, by rw [g59]; exact hP59⟩
    · have g2 : (L.setIfInBounds 52 true).getD 2 false = L.getD 2 false := by rw [up_set, if_neg (by omega)]
      have g10 : (L.setIfInBounds 52 true).getD 10 false = L.getD 10 false := by rw [up_set, if_neg (by omega)]
      have g18 : (L.setIfInBounds 52 true).getD 18 false = L.getD 18 false := by rw [up_set, if_neg (by omega)]
      have g21 : (L.setIfInBounds 52 true).getD 21 false = L.getD 21 false := by rw [up_set, if_neg (by omega)]
      have g22 : (L.setIfInBounds 52 true).getD 22 false = L.getD 22 false := by rw [up_set, if_neg (by omega)]
      have g23 : (L.setIfInBounds 52 true).getD 23 false = L.getD 23 false := by rw [up_set, if_neg (by omega)]
      have g27 : (L.setIfInBounds 52 true).getD 27 false = L.getD 27 false := by rw [up_set, if_neg (by omega)]
      have g28 : (L.setIfInBounds 52 true).getD 28 false = L.getD 28 false := by rw [up_set, if_neg (by omega)]
      have g31 : (L.setIfInBounds 52 true).getD 31 false = L.getD 31 false := by rw [up_set, if_neg (by omega)]
      have g39 : (L.setIfInBounds 52 true).getD 39 false = L.getD 39 false := by rw [up_set, if_neg (by omega)]
      have g47 : (L.setIfInBounds 52 true).getD 47 false = L.getD 47 false := by rw [up_set, if_neg (by omega)]
      have g50 : (L.setIfInBounds 52 true).getD 50 false = L.getD 50 false := by rw [up_set, if_neg (by omega)]
      have g51 : (L.setIfInBounds 52 true).getD 51 false = L.getD 51 false := by rw [up_set, if_neg (by omega)]
      have g52 : (L.setIfInBounds 52 true).getD 52 false = true := by rw [up_set, if_pos ⟨rfl, by omega⟩]
      have g56 : (L.setIfInBounds 52 true).getD 56 false = L.getD 56 false := by rw [up_set, if_neg (by omega)]
      have g57 : (L.setIfInBounds 52 true).getD 57 false = L.getD 57 false := by rw [up_set, if_neg (by omega)]
      have g58 : (L.setIfInBounds 52 true).getD 58 false = L.getD 58 false := by rw [up_set, if_neg (by omega)]
      have g59 : (L.setIfInBounds 52 true).getD 59 false = L.getD 59 false := by rw [up_set, if_neg (by omega)]
      have hD31 := hP31 gd31
      obtain rfl := hD31
      have hD39 := hP39 gd39
      obtain rfl := hD39
      have hD47 := hP47 gd47
      obtain rfl := hD47
      have hD51 := hP51 gd51
      obtain rfl := hD51
      have hb : RowKit.Below w.heap.size w (w.alloc (.cells #[.string ⟨(wInt y.n).toArray⟩, .string ⟨(wText (clip y.s)).toArray⟩, .string ⟨(wInts (y.L.take 20)).toArray⟩, .string ⟨(wTexts (cutL y.T)).toArray⟩] 9)) := below_alloc1 w _
      have hbn := below_next hbw hb
      refine par_run ⟨some 63, _, _, _, _, _⟩ (.slice (some ⟨w.heap.size, 0, none⟩) 4 4) (w.alloc (.cells #[.string ⟨(wInt y.n).toArray⟩, .string ⟨(wText (clip y.s)).toArray⟩, .string ⟨(wInts (y.L.take 20)).toArray⟩, .string ⟨(wTexts (cutL y.T)).toArray⟩] 9)) rfl (by rfl) (by go_simp) ?_
      exact ⟨(pre_keep hbx0 hbx1 hbx2 hbx3 hbx4 hbb1 hbb2 hbb3 hbb4) hbn, (u13), (u21), (u29), (u32), (u33), (u34), (u38), (u39), (.string ⟨(wInt y.n).toArray⟩), (.string ⟨(wText (clip y.s)).toArray⟩), (.string ⟨(wInts (y.L.take 20)).toArray⟩), (u61), (.string ⟨(wTexts (cutL y.T)).toArray⟩), (.slice (some ⟨w.heap.size, 0, none⟩) 4 4), (u67), (u68), (u6), (u7), by simp only [Act.put, List.setIfInBounds_toArray, List.set_cons_zero, List.set_cons_succ], hbn, by rw [g2]; exact hP2, by rw [g10]; exact hP10, by rw [g18]; exact hP18, by rw [g21]; exact fun e => TextsV.below (hP21 e) hb, by rw [g22]; exact hP22, by rw [g23]; exact fun e => let ⟨b, e1, e2⟩ := (hP23 e); ⟨b, e1, mv0 hb e2⟩, by rw [g27]; exact fun e => let ⟨b, e1, e2⟩ := (hP27 e); ⟨b, e1, mv0 hb e2⟩, by rw [g28]; exact hP28, by rw [g31]; exact hP31, by rw [g39]; exact hP39, by rw [g47]; exact hP47, by rw [g50]; exact fun e => TextsV.below (hP50 e) hb, by rw [g51]; exact hP51, fun _ => ⟨w.heap.size, rfl, enc_at w y 9 hk⟩, by rw [g56]; exact fun e => let ⟨b, e1, e2⟩ := (hP56 e); ⟨b, e1, mv0 hb e2⟩, by rw [g57]; exact hP57, by rw [g58]; exact hP58, by rw [g59]; exact hP59⟩
    · have g2 : (L.setIfInBounds 56 true).getD 2 false = L.getD 2 false := by rw [up_set, if_neg (by omega)]
      have g10 : (L.setIfInBounds 56 true).getD 10 false = L.getD 10 false := by rw [up_set, if_neg (by omega)]
      have g18 : (L.setIfInBounds 56 true).getD 18 false = L.getD 18 false := by rw [up_set, if_neg (by omega)]
      have g21 : (L.setIfInBounds 56 true).getD 21 false = L.getD 21 false := by rw [up_set, if_neg (by omega)]
      have g22 : (L.setIfInBounds 56 true).getD 22 false = L.getD 22 false := by rw [up_set, if_neg (by omega)]
      have g23 : (L.setIfInBounds 56 true).getD 23 false = L.getD 23 false := by rw [up_set, if_neg (by omega)]
      have g27 : (L.setIfInBounds 56 true).getD 27 false = L.getD 27 false := by rw [up_set, if_neg (by omega)]
      have g28 : (L.setIfInBounds 56 true).getD 28 false = L.getD 28 false := by rw [up_set, if_neg (by omega)]
      have g31 : (L.setIfInBounds 56 true).getD 31 false = L.getD 31 false := by rw [up_set, if_neg (by omega)]
      have g39 : (L.setIfInBounds 56 true).getD 39 false = L.getD 39 false := by rw [up_set, if_neg (by omega)]
      have g47 : (L.setIfInBounds 56 true).getD 47 false = L.getD 47 false := by rw [up_set, if_neg (by omega)]
      have g50 : (L.setIfInBounds 56 true).getD 50 false = L.getD 50 false := by rw [up_set, if_neg (by omega)]
      have g51 : (L.setIfInBounds 56 true).getD 51 false = L.getD 51 false := by rw [up_set, if_neg (by omega)]
      have g52 : (L.setIfInBounds 56 true).getD 52 false = L.getD 52 false := by rw [up_set, if_neg (by omega)]
      have g56 : (L.setIfInBounds 56 true).getD 56 false = true := by rw [up_set, if_pos ⟨rfl, by omega⟩]
      have g57 : (L.setIfInBounds 56 true).getD 57 false = L.getD 57 false := by rw [up_set, if_neg (by omega)]
      have g58 : (L.setIfInBounds 56 true).getD 58 false = L.getD 58 false := by rw [up_set, if_neg (by omega)]
      have g59 : (L.setIfInBounds 56 true).getD 59 false = L.getD 59 false := by rw [up_set, if_neg (by omega)]
      have hD52 := hP52 gd52
      obtain ⟨b, rfl, hrow⟩ := hD52
      have hb : RowKit.Below w.heap.size w w := Below.refl _ _
      have hbn := below_next hbw hb
      refine par_run ⟨some 67, _, _, _, _, _⟩ (.pointer (some ⟨b, k, none⟩)) w rfl (by rfl) (by go_simp) ?_
      exact ⟨(pre_keep hbx0 hbx1 hbx2 hbx3 hbx4 hbb1 hbb2 hbb3 hbb4) hbn, (u13), (u21), (u29), (u32), (u33), (u34), (u38), (u39), (u42), (u50), (u58), (u61), (u62), (.slice (some ⟨b, 0, none⟩) 4 4), (.pointer (some ⟨b, k, none⟩)), (u68), (u6), (u7), by simp only [Act.put, List.setIfInBounds_toArray, List.set_cons_zero, List.set_cons_succ], hbn, by rw [g2]; exact hP2, by rw [g10]; exact hP10, by rw [g18]; exact hP18, by rw [g21]; exact fun e => TextsV.below (hP21 e) hb, by rw [g22]; exact hP22, by rw [g23]; exact fun e => let ⟨b, e1, e2⟩ := (hP23 e); ⟨b, e1, mv0 hb e2⟩, by rw [g27]; exact fun e => let ⟨b, e1, e2⟩ := (hP27 e); ⟨b, e1, mv0 hb e2⟩, by rw [g28]; exact hP28, by rw [g31]; exact hP31, by rw [g39]; exact hP39, by rw [g47]; exact hP47, by rw [g50]; exact fun e => TextsV.below (hP50 e) hb, by rw [g51]; exact hP51, by rw [g52]; exact fun e => let ⟨b, e1, e2⟩ := (hP52 e); ⟨b, e1, mv0 hb e2⟩, fun _ => ⟨b, rfl, hrow⟩, by rw [g57]; exact hP57, by rw [g58]; exact hP58, by rw [g59]; exact hP59⟩
    · have g2 : (L.setIfInBounds 57 true).getD 2 false = L.getD 2 false := by rw [up_set, if_neg (by omega)]
      have g10 : (L.setIfInBounds 57 true).getD 10 false = L.getD 10 false := by rw [up_set, if_neg (by omega)]
      have g18 : (L.setIfInBounds 57 true).getD 18 false = L.getD 18 false := by rw [up_set, if_neg (by omega)]
      have g21 : (L.setIfInBounds 57 true).getD 21 false = L.getD 21 false := by rw [up_set, if_neg (by omega)]
      have g22 : (L.setIfInBounds 57 true).getD 22 false = L.getD 22 false := by rw [up_set, if_neg (by omega)]
      have g23 : (L.setIfInBounds 57 true).getD 23 false = L.getD 23 false := by rw [up_set, if_neg (by omega)]
      have g27 : (L.setIfInBounds 57 true).getD 27 false = L.getD 27 false := by rw [up_set, if_neg (by omega)]
      have g28 : (L.setIfInBounds 57 true).getD 28 false = L.getD 28 false := by rw [up_set, if_neg (by omega)]
      have g31 : (L.setIfInBounds 57 true).getD 31 false = L.getD 31 false := by rw [up_set, if_neg (by omega)]
      have g39 : (L.setIfInBounds 57 true).getD 39 false = L.getD 39 false := by rw [up_set, if_neg (by omega)]
      have g47 : (L.setIfInBounds 57 true).getD 47 false = L.getD 47 false := by rw [up_set, if_neg (by omega)]
      have g50 : (L.setIfInBounds 57 true).getD 50 false = L.getD 50 false := by rw [up_set, if_neg (by omega)]
      have g51 : (L.setIfInBounds 57 true).getD 51 false = L.getD 51 false := by rw [up_set, if_neg (by omega)]
      have g52 : (L.setIfInBounds 57 true).getD 52 false = L.getD 52 false := by rw [up_set, if_neg (by omega)]
      have g56 : (L.setIfInBounds 57 true).getD 56 false = L.getD 56 false := by rw [up_set, if_neg (by omega)]
      have g57 : (L.setIfInBounds 57 true).getD 57 false = true := by rw [up_set, if_pos ⟨rfl, by omega⟩]
      have g58 : (L.setIfInBounds 57 true).getD 58 false = L.getD 58 false := by rw [up_set, if_neg (by omega)]
      have g59 : (L.setIfInBounds 57 true).getD 59 false = L.getD 59 false := by rw [up_set, if_neg (by omega)]
      have hD56 := hP56 gd56
      obtain ⟨b, rfl, hrow⟩ := hD56
      have hb : RowKit.Below w.heap.size w w := Below.refl _ _
      have hbn := below_next hbw hb
      refine par_run ⟨some 68, _, _, _, _, _⟩ (.string ⟨(encK k y).toArray⟩) w rfl (by rfl) (by go_simp) ?_
      exact ⟨(pre_keep hbx0 hbx1 hbx2 hbx3 hbx4 hbb1 hbb2 hbb3 hbb4) hbn, (u13), (u21), (u29), (u32), (u33), (u34), (u38), (u39), (u42), (u50), (u58), (u61), (u62), (u63), (.pointer (some ⟨b, k, none⟩)), (.string ⟨(encK k y).toArray⟩), (u6), (u7), by simp only [Act.put, List.setIfInBounds_toArray, List.set_cons_zero, List.set_cons_succ], hbn, by rw [g2]; exact hP2, by rw [g10]; exact hP10, by rw [g18]; exact hP18, by rw [g21]; exact fun e => TextsV.below (hP21 e) hb, by rw [g22]; exact hP22, by rw [g23]; exact fun e => let ⟨b, e1, e2⟩ := (hP23 e); ⟨b, e1, mv0 hb e2⟩, by rw [g27]; exact fun e => let ⟨b, e1, e2⟩ := (hP27 e); ⟨b, e1, mv0 hb e2⟩, by rw [g28]; exact hP28, by rw [g31]; exact hP31, by rw [g39]; exact hP39, by rw [g47]; exact hP47, by rw [g50]; exact fun e => TextsV.below (hP50 e) hb, by rw [g51]; exact hP51, by rw [g52]; exact fun e => let ⟨b, e1, e2⟩ := (hP52 e); ⟨b, e1, mv0 hb e2⟩, by rw [g56]; exact fun e => let ⟨b, e1, e2⟩ := (hP56 e); ⟨b, e1, mv0 hb e2⟩, fun _ => rfl, by rw [g58]; exact hP58, by rw [g59]; exact hP59⟩
    · have g2 : (L.setIfInBounds 58 true).getD 2 false = L.getD 2 false := by rw [up_set, if_neg (by omega)]
      have g10 : (L.setIfInBounds 58 true).getD 10 false = L.getD 10 false := by rw [up_set, if_neg (by omega)]
      have g18 : (L.setIfInBounds 58 true).getD 18 false = L.getD 18 false := by rw [up_set, if_neg (by omega)]
      have g21 : (L.setIfInBounds 58 true).getD 21 false = L.getD 21 false := by rw [up_set, if_neg (by omega)]
      have g22 : (L.setIfInBounds 58 true).getD 22 false = L.getD 22 false := by rw [up_set, if_neg (by omega)]
      have g23 : (L.setIfInBounds 58 true).getD 23 false = L.getD 23 false := by rw [up_set, if_neg (by omega)]
      have g27 : (L.setIfInBounds 58 true).getD 27 false = L.getD 27 false := by rw [up_set, if_neg (by omega)]
      have g28 : (L.setIfInBounds 58 true).getD 28 false = L.getD 28 false := by rw [up_set, if_neg (by omega)]
      have g31 : (L.setIfInBounds 58 true).getD 31 false = L.getD 31 false := by rw [up_set, if_neg (by omega)]
      have g39 : (L.setIfInBounds 58 true).getD 39 false = L.getD 39 false := by rw [up_set, if_neg (by omega)]
      have g47 : (L.setIfInBounds 58 true).getD 47 false = L.getD 47 false := by rw [up_set, if_neg (by omega)]
      have g50 : (L.setIfInBounds 58 true).getD 50 false = L.getD 50 false := by rw [up_set, if_neg (by omega)]
      have g51 : (L.setIfInBounds 58 true).getD 51 false = L.getD 51 false := by rw [up_set, if_neg (by omega)]
      have g52 : (L.setIfInBounds 58 true).getD 52 false = L.getD 52 false := by rw [up_set, if_neg (by omega)]
      have g56 : (L.setIfInBounds 58 true).getD 56 false = L.getD 56 false := by rw [up_set, if_neg (by omega)]
      have g57 : (L.setIfInBounds 58 true).getD 57 false = L.getD 57 false := by rw [up_set, if_neg (by omega)]
      have g58 : (L.setIfInBounds 58 true).getD 58 false = true := by rw [up_set, if_pos ⟨rfl, by omega⟩]
      have g59 : (L.setIfInBounds 58 true).getD 59 false = L.getD 59 false := by rw [up_set, if_neg (by omega)]
      have hD28 := hP28 gd28
      obtain rfl := hD28
      have hb : RowKit.Below w.heap.size w w := Below.refl _ _
      have hbn := below_next hbw hb
      refine par_run ⟨some 6, _, _, _, _, _⟩ (.string ⟨(encK k x).toArray⟩) w rfl (by rfl) (by go_simp) ?_
      exact ⟨(pre_keep hbx0 hbx1 hbx2 hbx3 hbx4 hbb1 hbb2 hbb3 hbb4) hbn, (u13), (u21), (u29), (u32), (u33), (u34), (u38), (.string ⟨(encK k x).toArray⟩), (u42), (u50), (u58), (u61), (u62), (u63), (u67), (u68), (.string ⟨(encK k x).toArray⟩), (u7), by simp only [Act.put, List.setIfInBounds_toArray, List.set_cons_zero, List.set_cons_succ], hbn, by rw [g2]; exact hP2, by rw [g10]; exact hP10, by rw [g18]; exact hP18, by rw [g21]; exact fun e => TextsV.below (hP21 e) hb, by rw [g22]; exact hP22, by rw [g23]; exact fun e => let ⟨b, e1, e2⟩ := (hP23 e); ⟨b, e1, mv0 hb e2⟩, by rw [g27]; exact fun e => let ⟨b, e1, e2⟩ := (hP27 e); ⟨b, e1, mv0 hb e2⟩, by rw [g28]; exact hP28, by rw [g31]; exact hP31, by rw [g39]; exact hP39, by rw [g47]; exact hP47, by rw [g50]; exact fun e => TextsV.below (hP50 e) hb, by rw [g51]; exact hP51, by rw [g52]; exact fun e => let ⟨b, e1, e2⟩ := (hP52 e); ⟨b, e1, mv0 hb e2⟩, by rw [g56]; exact fun e => let ⟨b, e1, e2⟩ := (hP56 e); ⟨b, e1, mv0 hb e2⟩, by rw [g57]; exact hP57, fun _ => rfl, by rw [g59]; exact hP59⟩
    · have g2 : (L.setIfInBounds 59 true).getD 2 false = L.getD 2 false := by rw [up_set, if_neg (by omega)]
      have g10 : (L.setIfInBounds 59 true).getD 10 false = L.getD 10 false := by rw [up_set, if_neg (by omega)]
      have g18 : (L.setIfInBounds 59 true).getD 18 false = L.getD 18 false := by rw [up_set, if_neg (by omega)]
      have g21 : (L.setIfInBounds 59 true).getD 21 false = L.getD 21 false := by rw [up_set, if_neg (by omega)]
      have g22 : (L.setIfInBounds 59 true).getD 22 false = L.getD 22 false := by rw [up_set, if_neg (by omega)]
      have g23 : (L.setIfInBounds 59 true).getD 23 false = L.getD 23 false := by rw [up_set, if_neg (by omega)]
      have g27 : (L.setIfInBounds 59 true).getD 27 false = L.getD 27 false := by rw [up_set, if_neg (by omega)]
      have g28 : (L.setIfInBounds 59 true).getD 28 false = L.getD 28 false := by rw [up_set, if_neg (by omega)]
      have g31 : (L.setIfInBounds 59 true).getD 31 false = L.getD 31 false := by rw [up_set, if_neg (by omega)]
      have g39 : (L.setIfInBounds 59 true).getD 39 false = L.getD 39 false := by rw [up_set, if_neg (by omega)]
      have g47 : (L.setIfInBounds 59 true).getD 47 false = L.getD 47 false := by rw [up_set, if_neg (by omega)]
      have g50 : (L.setIfInBounds 59 true).getD 50 false = L.getD 50 false := by rw [up_set, if_neg (by omega)]
      have g51 : (L.setIfInBounds 59 true).getD 51 false = L.getD 51 false := by rw [up_set, if_neg (by omega)]
      have g52 : (L.setIfInBounds 59 true).getD 52 false = L.getD 52 false := by rw [up_set, if_neg (by omega)]
      have g56 : (L.setIfInBounds 59 true).getD 56 false = L.getD 56 false := by rw [up_set, if_neg (by omega)]
      have g57 : (L.setIfInBounds 59 true).getD 57 false = L.getD 57 false := by rw [up_set, if_neg (by omega)]
      have g58 : (L.setIfInBounds 59 true).getD 58 false = L.getD 58 false := by rw [up_set, if_neg (by omega)]
      have g59 : (L.setIfInBounds 59 true).getD 59 false = true := by rw [up_set, if_pos ⟨rfl, by omega⟩]
      have hD57 := hP57 gd57
      obtain rfl := hD57
      have hb : RowKit.Below w.heap.size w w := Below.refl _ _
      have hbn := below_next hbw hb
      refine par_run ⟨some 7, _, _, _, _, _⟩ (.string ⟨(encK k y).toArray⟩) w rfl (by rfl) (by go_simp) ?_
      exact ⟨(pre_keep hbx0 hbx1 hbx2 hbx3 hbx4 hbb1 hbb2 hbb3 hbb4) hbn, (u13), (u21), (u29), (u32), (u33), (u34), (u38), (u39), (u42), (u50), (u58), (u61), (u62), (u63), (u67), (.string ⟨(encK k y).toArray⟩), (u6), (.string ⟨(encK k y).toArray⟩), by simp only [Act.put, List.setIfInBounds_toArray, List.set_cons_zero, List.set_cons_succ], hbn, by rw [g2]; exact hP2, by rw [g10]; exact hP10, by rw [g18]; exact hP18, by rw [g21]; exact fun e => TextsV.below (hP21 e) hb, by rw [g22]; exact hP22, by rw [g23]; exact fun e => let ⟨b, e1, e2⟩ := (hP23 e); ⟨b, e1, mv0 hb e2⟩, by rw [g27]; exact fun e => let ⟨b, e1, e2⟩ := (hP27 e); ⟨b, e1, mv0 hb e2⟩, by rw [g28]; exact hP28, by rw [g31]; exact hP31, by rw [g39]; exact hP39, by rw [g47]; exact hP47, by rw [g50]; exact fun e => TextsV.below (hP50 e) hb, by rw [g51]; exact hP51, by rw [g52]; exact fun e => let ⟨b, e1, e2⟩ := (hP52 e); ⟨b, e1, mv0 hb e2⟩, by rw [g56]; exact fun e => let ⟨b, e1, e2⟩ := (hP56 e); ⟨b, e1, mv0 hb e2⟩, by rw [g57]; exact hP57, by rw [g58]; exact hP58, fun _ => rfl⟩
  · intro L a w hp hI
    obtain ⟨u13, u21, u29, u32, u33, u34, u38, u39, u42, u50, u58, u61, u62, u63, u67, u68, u6, u7, rfl, hbw, hP2, hP10, hP18, hP21, hP22, hP23, hP27, hP28, hP31, hP39, hP47, hP50, hP51, hP52, hP56, hP57, hP58, hP59⟩ := hI
    simp only [Bool.and_eq_true] at hp
    obtain ⟨p58, p59⟩ := hp
    exact HQ.out _ _ _ _ _ _ _ _ _ _ _ _ _ _ _ _ _ _ w hbw (hP58 p58) (hP59 p59)
  · refine par_take ⟨some 11, _, _, _, _, _⟩ ?_ rfl (by rfl) ?_ ?_
    rotate_left 1
    · intro w hSw; (try dsimp only at hSw); go_simp; (try with_reducible rfl)
    simp only [Act.put, List.setIfInBounds_toArray, List.set_cons_zero, List.set_cons_succ]
    refine par_take ⟨some 12, _, _, _, _, _⟩ ?_ rfl (by rfl) ?_ ?_
    rotate_left 1
    · intro w hSw; (try dsimp only at hSw); go_simp; (try with_reducible rfl)
    simp only [Act.put, List.setIfInBounds_toArray, List.set_cons_zero, List.set_cons_succ]
    refine par_take ⟨some 14, _, _, _, _, _⟩ ?_ rfl (by rfl) ?_ ?_
    rotate_left 1
    · intro w hSw; (try dsimp only at hSw); go_simp; (try with_reducible rfl)
    simp only [Act.put, List.setIfInBounds_toArray, List.set_cons_zero, List.set_cons_succ]
    refine par_take ⟨some 15, _, _, _, _, _⟩ ?_ rfl (by rfl) ?_ ?_
    rotate_left 1
    · intro w hSw; (try dsimp only at hSw); go_simp; (try with_reducible rfl)
    simp only [Act.put, List.setIfInBounds_toArray, List.set_cons_zero, List.set_cons_succ]
    refine par_take ⟨some 16, _, _, _, _, _⟩ ?_ rfl (by rfl) ?_ ?_
    rotate_left 1
    · intro w hSw; (try dsimp only at hSw); go_simp; (try with_reducible rfl)
    simp only [Act.put, List.setIfInBounds_toArray, List.set_cons_zero, List.set_cons_succ]
    refine par_take ⟨some 17, _, _, _, _, _⟩ ?_ rfl (by rfl) ?_ ?_
    rotate_left 1
    · intro w hSw; (try dsimp only at hSw); go_simp; (try with_reducible rfl)
    simp only [Act.put, List.setIfInBounds_toArray, List.set_cons_zero, List.set_cons_succ]
    refine par_take ⟨some 18, _, _, _, _, _⟩ ?_ rfl (by rfl) ?_ ?_
    rotate_left 1
    · intro w hSw; (try dsimp only at hSw); go_simp; (try with_reducible rfl)
    simp only [Act.put, List.setIfInBounds_toArray, List.set_cons_zero, List.set_cons_succ]
    refine par_take ⟨some 19, _, _, _, _, _⟩ ?_ rfl (by rfl) ?_ ?_
    rotate_left 1
    · intro w hSw; (try dsimp only at hSw); go_simp; (try with_reducible rfl)
    simp only [Act.put, List.setIfInBounds_toArray, List.set_cons_zero, List.set_cons_succ]
    refine par_take ⟨some 20, _, _, _, _, _⟩ ?_ rfl (by rfl) ?_ ?_
    rotate_left 1
    · intro w hSw; (try dsimp only at hSw); go_simp; (try with_reducible rfl)
    simp only [Act.put, List.setIfInBounds_toArray, List.set_cons_zero, List.set_cons_succ]
    refine par_take ⟨some 22, _, _, _, _, _⟩ ?_ rfl (by rfl) ?_ ?_
    rotate_left 1
    · intro w hSw; (try dsimp only at hSw); go_simp; (try with_reducible rfl)
    simp only [Act.put, List.setIfInBounds_toArray, List.set_cons_zero, List.set_cons_succ]
    refine par_take ⟨some 23, _, _, _, _, _⟩ ?_ rfl (by rfl) ?_ ?_
    rotate_left 1
    · intro w hSw; (try dsimp only at hSw); go_simp; (try with_reducible rfl)
    simp only [Act.put, List.setIfInBounds_toArray, List.set_cons_zero, List.set_cons_succ]
    refine par_take ⟨some 24, _, _, _, _, _⟩ ?_ rfl (by rfl) ?_ ?_
    rotate_left 1
    · intro w hSw; (try dsimp only at hSw); go_simp; (try with_reducible rfl)
    simp only [Act.put, List.setIfInBounds_toArray, List.set_cons_zero, List.set_cons_succ]
    refine par_take ⟨some 25, _, _, _, _, _⟩ ?_ rfl (by rfl) ?_ ?_
    rotate_left 1
    · intro w hSw; (try dsimp only at hSw); go_simp; (try with_reducible rfl)
    simp only [Act.put, List.setIfInBounds_toArray, List.set_cons_zero, List.set_cons_succ]
    refine par_take ⟨some 26, _, _, _, _, _⟩ ?_ rfl (by rfl) ?_ ?_
    rotate_left 1
    · intro w hSw; (try dsimp only at hSw); go_simp; (try with_reducible rfl)
    simp only [Act.put, List.setIfInBounds_toArray, List.set_cons_zero, List.set_cons_succ]
    refine par_take ⟨some 27, _, _, _, _, _⟩ ?_ rfl (by rfl) ?_ ?_
    rotate_left 1
    · intro w hSw; (try dsimp only at hSw); go_simp; (try with_reducible rfl)
    simp only [Act.put, List.setIfInBounds_toArray, List.set_cons_zero, List.set_cons_succ]
    refine par_take ⟨some 28, _, _, _, _, _⟩ ?_ rfl (by rfl) ?_ ?_
    rotate_left 1
    · intro w hSw; (try dsimp only at hSw); go_simp; (try with_reducible rfl)
    simp only [Act.put, List.setIfInBounds_toArray, List.set_cons_zero, List.set_cons_succ]
    refine par_take ⟨some 30, _, _, _, _, _⟩ ?_ rfl (by rfl) ?_ ?_
    rotate_left 1
    · intro w hSw; (try dsimp only at hSw); go_simp; (try with_reducible rfl)
    simp only [Act.put, List.setIfInBounds_toArray, List.set_cons_zero, List.set_cons_succ]
    refine par_take ⟨some 31, _, _, _, _, _⟩ ?_ rfl (by rfl) ?_ ?_
    rotate_left 1
    · intro w hSw; (try dsimp only at hSw); go_simp; (try with_reducible rfl)
    simp only [Act.put, List.setIfInBounds_toArray, List.set_cons_zero, List.set_cons_succ]
    refine par_take ⟨some 35, _, _, _, _, _⟩ ?_ rfl (by rfl) ?_ ?_
    rotate_left 1
    · intro w hSw; (try dsimp only at hSw); go_simp; (try with_reducible rfl)
    simp only [Act.put, List.setIfInBounds_toArray, List.set_cons_zero, List.set_cons_succ]
    refine par_take ⟨some 36, _, _, _, _, _⟩ ?_ rfl (by rfl) ?_ ?_
    rotate_left 1
    · intro w hSw; (try dsimp only at hSw); go_simp; (try with_reducible rfl)
    simp only [Act.put, List.setIfInBounds_toArray, List.set_cons_zero, List.set_cons_succ]
    refine par_take ⟨some 37, _, _, _, _, _⟩ ?_ rfl (by rfl) ?_ ?_
    rotate_left 1
    · intro w hSw; (try dsimp only at hSw); go_simp; (try with_reducible rfl)
    simp only [Act.put, List.setIfInBounds_toArray, List.set_cons_zero, List.set_cons_succ]
    refine par_take ⟨some 40, _, _, _, _, _⟩ ?_ rfl (by rfl) ?_ ?_
    rotate_left 1
    · intro w hSw; (try dsimp only at hSw); go_simp; (try with_reducible rfl)
    simp only [Act.put, List.setIfInBounds_toArray, List.set_cons_zero, List.set_cons_succ]
    refine par_take ⟨some 41, _, _, _, _, _⟩ ?_ rfl (by rfl) ?_ ?_
    rotate_left 1
    · intro w hSw; (try dsimp only at hSw); go_simp; (try with_reducible rfl)
    simp only [Act.put, List.setIfInBounds_toArray, List.set_cons_zero, List.set_cons_succ]
    refine par_take ⟨some 43, _, _, _, _, _⟩ ?_ rfl (by rfl) ?_ ?_
    rotate_left 1
    · intro w hSw; (try dsimp only at hSw); go_simp; (try with_reducible rfl)
    simp only [Act.put, List.setIfInBounds_toArray, List.set_cons_zero, List.set_cons_succ]
    refine par_take ⟨some 44, _, _, _, _, _⟩ ?_ rfl (by rfl) ?_ ?_
    rotate_left 1
    · intro w hSw; (try dsimp only at hSw); go_simp; (try with_reducible rfl)
    simp only [Act.put, List.setIfInBounds_toArray, List.set_cons_zero, List.set_cons_succ]
    refine par_take ⟨some 45, _, _, _, _, _⟩ ?_ rfl (by rfl) ?_ ?_
    rotate_left 1
    · intro w hSw; (try dsimp only at hSw); go_simp; (try with_reducible rfl)
    simp only [Act.put, List.setIfInBounds_toArray, List.set_cons_zero, List.set_cons_succ]
    refine par_take ⟨some 46, _, _, _, _, _⟩ ?_ rfl (by rfl) ?_ ?_
    rotate_left 1
    · intro w hSw; (try dsimp only at hSw); go_simp; (try with_reducible rfl)
    simp only [Act.put, List.setIfInBounds_toArray, List.set_cons_zero, List.set_cons_succ]
    refine par_take ⟨some 47, _, _, _, _, _⟩ ?_ rfl (by rfl) ?_ ?_
    rotate_left 1
    · intro w hSw; (try dsimp only at hSw); go_simp; (try with_reducible rfl)
    simp only [Act.put, List.setIfInBounds_toArray, List.set_cons_zero, List.set_cons_succ]
    refine par_take ⟨some 48, _, _, _, _, _⟩ ?_ rfl (by rfl) ?_ ?_
    rotate_left 1
    · intro w hSw; (try dsimp only at hSw); go_simp; (try with_reducible rfl)
    simp only [Act.put, List.setIfInBounds_toArray, List.set_cons_zero, List.set_cons_succ]
    refine par_take ⟨some 49, _, _, _, _, _⟩ ?_ rfl (by rfl) ?_ ?_
    rotate_left 1
    · intro w hSw; (try dsimp only at hSw); go_simp; (try with_reducible rfl)
    simp only [Act.put, List.setIfInBounds_toArray, List.set_cons_zero, List.set_cons_succ]
    refine par_take ⟨some 51, _, _, _, _, _⟩ ?_ rfl (by rfl) ?_ ?_
    rotate_left 1
    · intro w hSw; (try dsimp only at hSw); go_simp; (try with_reducible rfl)
    simp only [Act.put, List.setIfInBounds_toArray, List.set_cons_zero, List.set_cons_succ]
    refine par_take ⟨some 52, _, _, _, _, _⟩ ?_ rfl (by rfl) ?_ ?_
    rotate_left 1
    · intro w hSw; (try dsimp only at hSw); go_simp; (try with_reducible rfl)
    simp only [Act.put, List.setIfInBounds_toArray, List.set_cons_zero, List.set_cons_succ]
    refine par_take ⟨some 53, _, _, _, _, _⟩ ?_ rfl (by rfl) ?_ ?_
    rotate_left 1
    · intro w hSw; (try dsimp only at hSw); go_simp; (try with_reducible rfl)
    simp only [Act.put, List.setIfInBounds_toArray, List.set_cons_zero, List.set_cons_succ]
    refine par_take ⟨some 54, _, _, _, _, _⟩ ?_ rfl (by rfl) ?_ ?_
    rotate_left 1
    · intro w hSw; (try dsimp only at hSw); go_simp; (try with_reducible rfl)
    simp only [Act.put, List.setIfInBounds_toArray, List.set_cons_zero, List.set_cons_succ]
    refine par_take ⟨some 55, _, _, _, _, _⟩ ?_ rfl (by rfl) ?_ ?_
    rotate_left 1
    · intro w hSw; (try dsimp only at hSw); go_simp; (try with_reducible rfl)
    simp only [Act.put, List.setIfInBounds_toArray, List.set_cons_zero, List.set_cons_succ]
    refine par_take ⟨some 56, _, _, _, _, _⟩ ?_ rfl (by rfl) ?_ ?_
    rotate_left 1
    · intro w hSw; (try dsimp only at hSw); go_simp; (try with_reducible rfl)
    simp only [Act.put, List.setIfInBounds_toArray, List.set_cons_zero, List.set_cons_succ]
    refine par_take ⟨some 57, _, _, _, _, _⟩ ?_ rfl (by rfl) ?_ ?_
    rotate_left 1
    · intro w hSw; (try dsimp only at hSw); go_simp; (try with_reducible rfl)
    simp only [Act.put, List.setIfInBounds_toArray, List.set_cons_zero, List.set_cons_succ]
    refine par_take ⟨some 59, _, _, _, _, _⟩ ?_ rfl (by rfl) ?_ ?_
    rotate_left 1
    · intro w hSw; (try dsimp only at hSw); go_simp; (try with_reducible rfl)
    simp only [Act.put, List.setIfInBounds_toArray, List.set_cons_zero, List.set_cons_succ]
    refine par_take ⟨some 60, _, _, _, _, _⟩ ?_ rfl (by rfl) ?_ ?_
    rotate_left 1
    · intro w hSw; (try dsimp only at hSw); go_simp; (try with_reducible rfl)
    simp only [Act.put, List.setIfInBounds_toArray, List.set_cons_zero, List.set_cons_succ]
    refine par_take ⟨some 64, _, _, _, _, _⟩ ?_ rfl (by rfl) ?_ ?_
    rotate_left 1
    · intro w hSw; (try dsimp only at hSw); go_simp; (try with_reducible rfl)
    simp only [Act.put, List.setIfInBounds_toArray, List.set_cons_zero, List.set_cons_succ]
    refine par_take ⟨some 65, _, _, _, _, _⟩ ?_ rfl (by rfl) ?_ ?_
    rotate_left 1
    · intro w hSw; (try dsimp only at hSw); go_simp; (try with_reducible rfl)
    simp only [Act.put, List.setIfInBounds_toArray, List.set_cons_zero, List.set_cons_succ]
    refine par_take ⟨some 66, _, _, _, _, _⟩ ?_ rfl (by rfl) ?_ ?_
    rotate_left 1
    · intro w hSw; (try dsimp only at hSw); go_simp; (try with_reducible rfl)
    simp only [Act.put, List.setIfInBounds_toArray, List.set_cons_zero, List.set_cons_succ]
    exact ⟨_, _, _, _, _, _, _, _, _, _, _, _, _, _, _, _, _, _, rfl, (Below.refl W.heap.size W).drew, (fun e => absurd e (by decide +kernel)), (fun e => absurd e (by decide +kernel)), (fun e => absurd e (by decide +kernel)), (fun e => absurd e (by decide +kernel)), (fun e => absurd e (by decide +kernel)), (fun e => absurd e (by decide +kernel)), (fun e => absurd e (by decide +kernel)), (fun e => absurd e (by decide +kernel)), (fun e => absurd e (by decide +kernel)), (fun e => absurd e (by decide +kernel)), (fun e => absurd e (by decide +kernel)), (fun e => absurd e (by decide +kernel)), (fun e => absurd e (by decide +kernel)), (fun e => absurd e (by decide +kernel)), (fun e => absurd e (by decide +kernel)), (fun e => absurd e (by decide +kernel)), (fun e => absurd e (by decide +kernel)), (fun e => absurd e (by decide +kernel))⟩
end Go.Proofs.YtfnlihadibnnoaaDoor
