/- quadriviumref28.Made: offers, who has met what, requests that numbers make: two statements as pieces. -/
import Derived.Test.YtjcogpalmgcpbaaGreatGeap
import Derived.Test.YtjcogpalmgcpbaaGreatGeas
namespace Go.Proofs.YtjcogpalmgcpbaaGreat
open Go Go.Proofs Go.RowKit Go.Maps Go.Sort Go.Lib
attribute [local go_sem] Req.cells

theorem StD.row {W w : World} {d n c : Nat} {A : Option Addr} (h : StD W d A n c w) (hd : d < W.heap.size) {b : Nat} {old : Array Value} {t : TypeId} (hb : w.heap[b]? = some (.cells old t (0, 0))) (hB : W.heap.size ≤ b) (cs : Array Value) : StD W d A n c (w.setRow b cs) := by
  have hg := setRow_grown hb cs
  exact ⟨grow_keep h.1 hg (fun q hq => by obtain rfl := Option.some.inj hq; exact hB), h.2.kept hg (fun q hq => by obtain rfl := Option.some.inj hq; omega)⟩
theorem three_cr {w : World} {b g : Nat} (h : w.heap[b]? = some (.cells #[.int .i64 5, .int .i64 6, .int .i64 3] 3 (0, 0))) (hg : g < 3) : ∃ x : Int, w.cell? ⟨b, g, none⟩ = some (.int .i64 x) ∧ 0 ≤ x ∧ x ≤ 20 := by
  match g, hg with
  | 0, _ => exact ⟨5, Lib.cell_of_heap h 0, by decide, by decide⟩
  | 1, _ => exact ⟨6, Lib.cell_of_heap h 1, by decide, by decide⟩
  | 2, _ => exact ⟨3, Lib.cell_of_heap h 2, by decide, by decide⟩

set_option maxHeartbeats 16000000 in
set_option maxRecDepth 100000 in
theorem md_r7 {s0 s1 s2 s3 s4 s5 s6 s7 s8 s11 s13 s14 s15 s16 s17 s18 s19 s20 s21 s22 s23 s24 s25 s26 s27 s28 s29 s30 s31 s32 s33 s34 s35 s36 s37 s38 s39 s40 s41 s42 s43 s44 s45 s46 s47 s48 s49 s50 s51 s52 s53 s54 s55 s56 s57 s58 s59 s60 s61 s62 s63 s64 s65 s66 s67 s68 s69 s70 s71 s72 s73 s74 s75 s76 s77 s78 s79 s80 s81 s82 s83 s84 s85 s86 s87 s88 s89 s90 s91 s92 s93 s94 s95 s96 s97 s98 s99 s100 s101 s102 s103 s104 s105 s106 s107 s108 s109 s110 s111 s112 s113 s114 s115 s116 s117 s118 s119 s120 s121 s122 s123 s124 s125 s126 s127 s128 s129 s130 s131 s132 s133 s134 s135 s136 s137 s138 s139 s140 s141 s142 s143 s144 s145 s146 s147 s148 s149 s150 s151 s152 s153 s154 s155 s156 s157 s158 s159 : Value} (d cb k n c : Nat) (A : Option Addr) (cc : ByteArray) (W : World) (Q : Exit → Act → World → Prop) (hdr : DrawS d A n c W) (hin : IntsIn d A n W) (hcd : cb ≠ d) (hk : k < 4) (hcb : W.cell? ⟨cb, k, none⟩ = some (.string cc))
    (hQ : ∀ (u33 u35 u36 u37 u39 u40 u41 : Value) (b : Nat) (x y : Int) (wx : World), StD W d A n c wx → W.heap.size ≤ b → wx.heap[b]? = some (.cells #[.string cc, .int .i64 x, .int .i64 y, .slice none 0 0, .slice none 0 0] 72 (0, 0)) → 0 ≤ x → x ≤ 20 → 0 ≤ y → y ≤ 200 → Q .normal ⟨List.toArray (s0 :: s1 :: s2 :: s3 :: s4 :: s5 :: s6 :: s7 :: s8 :: .pointer (some ⟨d, 0, none⟩) :: .slice (some ⟨cb, 0, none⟩) 6 6 :: s11 :: .int .i64 (k : Int) :: .pointer (some ⟨b, 0, none⟩) :: s14 :: s15 :: s16 :: s17 :: s18 :: s19 :: s20 :: s21 :: s22 :: s23 :: s24 :: s25 :: s26 :: s27 :: s28 :: .slice (some ⟨cb, 0, none⟩) 6 6 :: .int .i64 (k : Int) :: .pointer (some ⟨cb, k, none⟩) :: .string cc :: u33 :: .pointer (some ⟨d, 0, none⟩) :: u35 :: u36 :: u37 :: .pointer (some ⟨d, 0, none⟩) :: u39 :: u40 :: u41 :: s42 :: s43 :: s44 :: s45 :: s46 :: s47 :: s48 :: s49 :: s50 :: s51 :: s52 :: s53 :: s54 :: s55 :: s56 :: s57 :: s58 :: s59 :: s60 :: s61 :: s62 :: s63 :: s64 :: s65 :: s66 :: s67 :: s68 :: s69 :: s70 :: s71 :: s72 :: s73 :: s74 :: s75 :: s76 :: s77 :: s78 :: s79 :: s80 :: s81 :: s82 :: s83 :: s84 :: s85 :: s86 :: s87 :: s88 :: s89 :: s90 :: s91 :: s92 :: s93 :: s94 :: s95 :: s96 :: s97 :: s98 :: s99 :: s100 :: s101 :: s102 :: s103 :: s104 :: s105 :: s106 :: s107 :: s108 :: s109 :: s110 :: s111 :: s112 :: s113 :: s114 :: s115 :: s116 :: s117 :: s118 :: s119 :: s120 :: s121 :: s122 :: s123 :: s124 :: s125 :: s126 :: s127 :: s128 :: s129 :: s130 :: s131 :: s132 :: s133 :: s134 :: s135 :: s136 :: s137 :: s138 :: s139 :: s140 :: s141 :: s142 :: s143 :: s144 :: s145 :: s146 :: s147 :: s148 :: s149 :: s150 :: s151 :: s152 :: s153 :: s154 :: s155 :: s156 :: s157 :: s158 :: s159 :: []), []⟩ wx) :
    (regionOf Tryz.f17 7).wp Tryz.prog Q ⟨List.toArray (s0 :: s1 :: s2 :: s3 :: s4 :: s5 :: s6 :: s7 :: s8 :: .pointer (some ⟨d, 0, none⟩) :: .slice (some ⟨cb, 0, none⟩) 6 6 :: s11 :: .int .i64 (k : Int) :: s13 :: s14 :: s15 :: s16 :: s17 :: s18 :: s19 :: s20 :: s21 :: s22 :: s23 :: s24 :: s25 :: s26 :: s27 :: s28 :: s29 :: s30 :: s31 :: s32 :: s33 :: s34 :: s35 :: s36 :: s37 :: s38 :: s39 :: s40 :: s41 :: s42 :: s43 :: s44 :: s45 :: s46 :: s47 :: s48 :: s49 :: s50 :: s51 :: s52 :: s53 :: s54 :: s55 :: s56 :: s57 :: s58 :: s59 :: s60 :: s61 :: s62 :: s63 :: s64 :: s65 :: s66 :: s67 :: s68 :: s69 :: s70 :: s71 :: s72 :: s73 :: s74 :: s75 :: s76 :: s77 :: s78 :: s79 :: s80 :: s81 :: s82 :: s83 :: s84 :: s85 :: s86 :: s87 :: s88 :: s89 :: s90 :: s91 :: s92 :: s93 :: s94 :: s95 :: s96 :: s97 :: s98 :: s99 :: s100 :: s101 :: s102 :: s103 :: s104 :: s105 :: s106 :: s107 :: s108 :: s109 :: s110 :: s111 :: s112 :: s113 :: s114 :: s115 :: s116 :: s117 :: s118 :: s119 :: s120 :: s121 :: s122 :: s123 :: s124 :: s125 :: s126 :: s127 :: s128 :: s129 :: s130 :: s131 :: s132 :: s133 :: s134 :: s135 :: s136 :: s137 :: s138 :: s139 :: s140 :: s141 :: s142 :: s143 :: s144 :: s145 :: s146 :: s147 :: s148 :: s149 :: s150 :: s151 :: s152 :: s153 :: s154 :: s155 :: s156 :: s157 :: s158 :: s159 :: []), []⟩ W := by
  refine of_onlyN (K := Q .normal) ?_ (fun _ _ h => h)
  generalize Q .normal = K at hQ ⊢
  have HQ := Lib.hid hQ; clear hQ
  conv => arg 2; whnf
  have hd : d < W.heap.size := hdr.lt
  have hkl : (k : Int) < 6 := by omega
  have hS0 : StD W d A n c W.drew := ⟨below_grows (Below.refl _ _).drew, hdr.below (Below.refl _ _).drew⟩
  have IN : ∀ w, StD W d A n c w → IntsIn d A n w := fun w h => hin.only (Nat.le_refl _) (Nat.le_of_lt hd) h.1
  refine wp_region_par (S := fun w => StD W d A n c w) (I := fun L' a w => ∃ u33 u35 u36 u37 u39 u40 u41 u13 : Value, a = ⟨List.toArray (s0 :: s1 :: s2 :: s3 :: s4 :: s5 :: s6 :: s7 :: s8 :: .pointer (some ⟨d, 0, none⟩) :: .slice (some ⟨cb, 0, none⟩) 6 6 :: s11 :: .int .i64 (k : Int) :: u13 :: s14 :: s15 :: s16 :: s17 :: s18 :: s19 :: s20 :: s21 :: s22 :: s23 :: s24 :: s25 :: s26 :: s27 :: s28 :: .slice (some ⟨cb, 0, none⟩) 6 6 :: .int .i64 (k : Int) :: .pointer (some ⟨cb, k, none⟩) :: .string cc :: u33 :: .pointer (some ⟨d, 0, none⟩) :: u35 :: u36 :: u37 :: .pointer (some ⟨d, 0, none⟩) :: u39 :: u40 :: u41 :: s42 :: s43 :: s44 :: s45 :: s46 :: s47 :: s48 :: s49 :: s50 :: s51 :: s52 :: s53 :: s54 :: s55 :: s56 :: s57 :: s58 :: s59 :: s60 :: s61 :: s62 :: s63 :: s64 :: s65 :: s66 :: s67 :: s68 :: s69 :: s70 :: s71 :: s72 :: s73 :: s74 :: s75 :: s76 :: s77 :: s78 :: s79 :: s80 :: s81 :: s82 :: s83 :: s84 :: s85 :: s86 :: s87 :: s88 :: s89 :: s90 :: s91 :: s92 :: s93 :: s94 :: s95 :: s96 :: s97 :: s98 :: s99 :: s100 :: s101 :: s102 :: s103 :: s104 :: s105 :: s106 :: s107 :: s108 :: s109 :: s110 :: s111 :: s112 :: s113 :: s114 :: s115 :: s116 :: s117 :: s118 :: s119 :: s120 :: s121 :: s122 :: s123 :: s124 :: s125 :: s126 :: s127 :: s128 :: s129 :: s130 :: s131 :: s132 :: s133 :: s134 :: s135 :: s136 :: s137 :: s138 :: s139 :: s140 :: s141 :: s142 :: s143 :: s144 :: s145 :: s146 :: s147 :: s148 :: s149 :: s150 :: s151 :: s152 :: s153 :: s154 :: s155 :: s156 :: s157 :: s158 :: s159 :: []), []⟩ ∧ (StD W d A n c w) ∧ (L'.getD 4 false = true → L'.getD 7 false = false → Laid W.heap.size w (fun b => .slice (some ⟨b, 0, none⟩) 3 3) (.cells #[.int .i64 5, .int .i64 6, .int .i64 3] 3 (0, 0)) u33) ∧ (L'.getD 6 false = true → ∃ v : Nat, u35 = .int .i64 v ∧ v < 3) ∧ (L'.getD 7 false = true → L'.getD 8 false = false → ∃ (b v : Nat), u36 = .pointer (some ⟨b, v, none⟩) ∧ v < 3 ∧ w.heap[b]? = some (.cells #[.int .i64 5, .int .i64 6, .int .i64 3] 3 (0, 0))) ∧ (L'.getD 8 false = true → ∃ x : Int, u37 = .int .i64 x ∧ 0 ≤ x ∧ x ≤ 20) ∧ (L'.getD 10 false = true → ∃ v : Nat, u39 = .int .i64 v ∧ v < 3) ∧ (L'.getD 11 false = true → ∃ v : Nat, u40 = .int .i64 (1 + v) ∧ v < 3) ∧ (L'.getD 12 false = true → ∃ x y : Int, u41 = .agg #[.string cc, .int .i64 x, .int .i64 y, .slice none 0 0, .slice none 0 0] ∧ 0 ≤ x ∧ x ≤ 20 ∧ 0 ≤ y ∧ y ≤ 200) ∧ (L'.getD 13 false = true → L'.getD 14 false = false → Laid W.heap.size w (fun b => .pointer (some ⟨b, 0, none⟩)) (.cells #[.string ⟨#[]⟩, .int .i64 0, .int .i64 0, .slice none 0 0, .slice none 0 0] 72 (0, 0)) u13) ∧ (L'.getD 14 false = true → ∃ (b : Nat) (x y : Int), u13 = .pointer (some ⟨b, 0, none⟩) ∧ W.heap.size ≤ b ∧ w.heap[b]? = some (.cells #[.string cc, .int .i64 x, .int .i64 y, .slice none 0 0, .slice none 0 0] 72 (0, 0)) ∧ 0 ≤ x ∧ x ≤ 20 ∧ 0 ≤ y ∧ y ≤ 200)) (pre := fun i L' => L'.size == 15 && ((i == 4 && !L'.getD 14 false) || (i == 6 && !L'.getD 14 false) || (i == 7 && L'.getD 4 false && L'.getD 6 false && !L'.getD 7 false && !L'.getD 14 false) || (i == 8 && L'.getD 7 false && !L'.getD 8 false && !L'.getD 14 false) || (i == 10 && !L'.getD 14 false) || (i == 11 && L'.getD 10 false && !L'.getD 14 false) || (i == 12 && L'.getD 8 false && L'.getD 11 false && !L'.getD 14 false) || (i == 13 && !L'.getD 14 false) || (i == 14 && L'.getD 12 false && L'.getD 13 false && L'.getD 7 false && L'.getD 8 false && !L'.getD 14 false))) (fin := fun L' => L'.getD 14 false) [0, 1, 2, 3, 5, 9] 9 (by kernel_rfl) (by kernel_rfl) (by kernel_rfl) (by kernel_rfl) (by decide) hS0 ?_ ?_ ?_
  · intro i L' a w hp hI
    obtain ⟨u33, u35, u36, u37, u39, u40, u41, u13, rfl, hSw, hP4, hP6, hP7, hP8, hP10, hP11, hP12, hP13, hP14⟩ := hI
    simp only [Bool.and_eq_true, Bool.or_eq_true, beq_iff_eq, Bool.not_eq_true'] at hp
    obtain ⟨hsz, hp⟩ := hp
    rcases hp with ((((((((⟨rfl, gn14⟩ | ⟨rfl, gn14⟩) | ⟨⟨⟨⟨rfl, gd4⟩, gd6⟩, gn7⟩, gn14⟩) | ⟨⟨⟨rfl, gd7⟩, gn8⟩, gn14⟩) | ⟨rfl, gn14⟩) | ⟨⟨rfl, gd10⟩, gn14⟩) | ⟨⟨⟨rfl, gd8⟩, gd11⟩, gn14⟩) | ⟨rfl, gn14⟩) | ⟨⟨⟨⟨⟨rfl, gd12⟩, gd13⟩, gd7⟩, gd8⟩, gn14⟩)
    · have g4 : (L'.setIfInBounds 4 true).getD 4 false = true := by rw [up_set, if_pos ⟨rfl, by omega⟩]
      have g6 : (L'.setIfInBounds 4 true).getD 6 false = L'.getD 6 false := by rw [up_set, if_neg (by omega)]
      have g7 : (L'.setIfInBounds 4 true).getD 7 false = L'.getD 7 false := by rw [up_set, if_neg (by omega)]
      have g8 : (L'.setIfInBounds 4 true).getD 8 false = L'.getD 8 false := by rw [up_set, if_neg (by omega)]
      have g10 : (L'.setIfInBounds 4 true).getD 10 false = L'.getD 10 false := by rw [up_set, if_neg (by omega)]
      have g11 : (L'.setIfInBounds 4 true).getD 11 false = L'.getD 11 false := by rw [up_set, if_neg (by omega)]
      have g12 : (L'.setIfInBounds 4 true).getD 12 false = L'.getD 12 false := by rw [up_set, if_neg (by omega)]
      have g13 : (L'.setIfInBounds 4 true).getD 13 false = L'.getD 13 false := by rw [up_set, if_neg (by omega)]
      have g14 : (L'.setIfInBounds 4 true).getD 14 false = L'.getD 14 false := by rw [up_set, if_neg (by omega)]
      have hb : RowKit.Below w.heap.size w (w.alloc (.cells #[.int .i64 5, .int .i64 6, .int .i64 3] 3)) := below_alloc1 _ _
      have hSn := hSw.below hb
      refine par_run ⟨some 33, _, _, _, _, _⟩ (.slice (some ⟨w.heap.size, 0, none⟩) 3 3) (w.alloc (.cells #[.int .i64 5, .int .i64 6, .int .i64 3] 3)) rfl (by rfl) (by go_simp) ?_
      exact ⟨hSn, (.slice (some ⟨w.heap.size, 0, none⟩) 3 3), (u35), (u36), (u37), (u39), (u40), (u41), (u13), by simp only [Act.put, List.setIfInBounds_toArray, List.set_cons_zero, List.set_cons_succ], hSn, fun _ _ => Laid.new w _ _ _ hSw.1.size, by rw [g6]; exact hP6, by rw [g7, g8]; exact fun e e2 => (by obtain ⟨b, v, h1, h2, h3⟩ := (hP7 e e2); exact ⟨b, v, h1, h2, (hb.block b (lt_of_heap h3)).trans h3⟩), by rw [g8]; exact hP8, by rw [g10]; exact hP10, by rw [g11]; exact hP11, by rw [g12]; exact hP12, by rw [g13, g14]; exact fun e e2 => (hP13 e e2).below hb, by rw [g14]; exact fun e => absurd (e.symm.trans gn14) (by decide)⟩
    · have g4 : (L'.setIfInBounds 6 true).getD 4 false = L'.getD 4 false := by rw [up_set, if_neg (by omega)]
      have g6 : (L'.setIfInBounds 6 true).getD 6 false = true := by rw [up_set, if_pos ⟨rfl, by omega⟩]
      have g7 : (L'.setIfInBounds 6 true).getD 7 false = L'.getD 7 false := by rw [up_set, if_neg (by omega)]
      have g8 : (L'.setIfInBounds 6 true).getD 8 false = L'.getD 8 false := by rw [up_set, if_neg (by omega)]
      have g10 : (L'.setIfInBounds 6 true).getD 10 false = L'.getD 10 false := by rw [up_set, if_neg (by omega)]
      have g11 : (L'.setIfInBounds 6 true).getD 11 false = L'.getD 11 false := by rw [up_set, if_neg (by omega)]
      have g12 : (L'.setIfInBounds 6 true).getD 12 false = L'.getD 12 false := by rw [up_set, if_neg (by omega)]
      have g13 : (L'.setIfInBounds 6 true).getD 13 false = L'.getD 13 false := by rw [up_set, if_neg (by omega)]
      have g14 : (L'.setIfInBounds 6 true).getD 14 false = L'.getD 14 false := by rw [up_set, if_neg (by omega)]
      refine par_call ⟨some 35, _, _, _, _, _⟩ rfl (by rfl) 28 _ _ (by rfl) _ (by rfl) Tryz.call28 (next_st d A n c 3 w (by omega) (by omega) hSw.2 (IN w hSw)) ?_
      rintro e wn ⟨v6, rfl, hv6, hds, hg⟩
      have hdr := hSw.2
      have hSn := hSw.step hg hds
      exact ⟨_, rfl, hSn, (u33), (.int .i64 v6), (u36), (u37), (u39), (u40), (u41), (u13), by simp only [Act.put, List.setIfInBounds_toArray, List.set_cons_zero, List.set_cons_succ], hSn, by rw [g4, g7]; exact fun e e2 => (hP4 e e2).grown hg (draw_apart hdr (by decide)), fun _ => ⟨v6, rfl, hv6⟩, by rw [g7, g8]; exact fun e e2 => (by obtain ⟨b, v, h1, h2, h3⟩ := (hP7 e e2); exact ⟨b, v, h1, h2, (hg.block b (lt_of_heap h3) (fun e => draw_apart hdr (by decide) b e.symm h3)).trans h3⟩), by rw [g8]; exact hP8, by rw [g10]; exact hP10, by rw [g11]; exact hP11, by rw [g12]; exact hP12, by rw [g13, g14]; exact fun e e2 => (hP13 e e2).grown hg (draw_apart hdr (by decide)), by rw [g14]; exact fun e => absurd (e.symm.trans gn14) (by decide)⟩
    · have g4 : (L'.setIfInBounds 7 true).getD 4 false = L'.getD 4 false := by rw [up_set, if_neg (by omega)]
      have g6 : (L'.setIfInBounds 7 true).getD 6 false = L'.getD 6 false := by rw [up_set, if_neg (by omega)]
      have g7 : (L'.setIfInBounds 7 true).getD 7 false = true := by rw [up_set, if_pos ⟨rfl, by omega⟩]
      have g8 : (L'.setIfInBounds 7 true).getD 8 false = L'.getD 8 false := by rw [up_set, if_neg (by omega)]
      have g10 : (L'.setIfInBounds 7 true).getD 10 false = L'.getD 10 false := by rw [up_set, if_neg (by omega)]
      have g11 : (L'.setIfInBounds 7 true).getD 11 false = L'.getD 11 false := by rw [up_set, if_neg (by omega)]
      have g12 : (L'.setIfInBounds 7 true).getD 12 false = L'.getD 12 false := by rw [up_set, if_neg (by omega)]
      have g13 : (L'.setIfInBounds 7 true).getD 13 false = L'.getD 13 false := by rw [up_set, if_neg (by omega)]
      have g14 : (L'.setIfInBounds 7 true).getD 14 false = L'.getD 14 false := by rw [up_set, if_neg (by omega)]
      have hD4 := hP4 gd4 gn7
      obtain ⟨b4, rfl, _, hb4⟩ := hD4
      have hD6 := hP6 gd6
      obtain ⟨v6, rfl, hv6⟩ := hD6
      have hSn := hSw
      refine par_run ⟨some 36, _, _, _, _, _⟩ (.pointer (some ⟨b4, v6, none⟩)) w rfl (by rfl) (by go_simp; intro h6; omega) ?_
      exact ⟨hSn, (.slice (some ⟨b4, 0, none⟩) 3 3), (.int .i64 v6), (.pointer (some ⟨b4, v6, none⟩)), (u37), (u39), (u40), (u41), (u13), by simp only [Act.put, List.setIfInBounds_toArray, List.set_cons_zero, List.set_cons_succ], hSn, by rw [g7]; exact fun _ e => absurd e (by decide), by rw [g6]; exact hP6, fun _ _ => ⟨b4, v6, rfl, hv6, hb4⟩, by rw [g8]; exact hP8, by rw [g10]; exact hP10, by rw [g11]; exact hP11, by rw [g12]; exact hP12, by rw [g13, g14]; exact hP13, by rw [g14]; exact fun e => absurd (e.symm.trans gn14) (by decide)⟩
    · have g4 : (L'.setIfInBounds 8 true).getD 4 false = L'.getD 4 false := by rw [up_set, if_neg (by omega)]
      have g6 : (L'.setIfInBounds 8 true).getD 6 false = L'.getD 6 false := by rw [up_set, if_neg (by omega)]
      have g7 : (L'.setIfInBounds 8 true).getD 7 false = L'.getD 7 false := by rw [up_set, if_neg (by omega)]
      have g8 : (L'.setIfInBounds 8 true).getD 8 false = true := by rw [up_set, if_pos ⟨rfl, by omega⟩]
      have g10 : (L'.setIfInBounds 8 true).getD 10 false = L'.getD 10 false := by rw [up_set, if_neg (by omega)]
      have g11 : (L'.setIfInBounds 8 true).getD 11 false = L'.getD 11 false := by rw [up_set, if_neg (by omega)]
      have g12 : (L'.setIfInBounds 8 true).getD 12 false = L'.getD 12 false := by rw [up_set, if_neg (by omega)]
      have g13 : (L'.setIfInBounds 8 true).getD 13 false = L'.getD 13 false := by rw [up_set, if_neg (by omega)]
      have g14 : (L'.setIfInBounds 8 true).getD 14 false = L'.getD 14 false := by rw [up_set, if_neg (by omega)]
      have hD7 := hP7 gd7 gn8
      obtain ⟨b7, v7, rfl, hv7, hb7⟩ := hD7
      obtain ⟨x, hxc, hx0, hx1⟩ := three_cr hb7 hv7
      have hSn := hSw
      refine par_run ⟨some 37, _, _, _, _, _⟩ (.int .i64 x) w rfl (by rfl) (by go_simp) ?_
      exact ⟨hSn, (u33), (u35), (.pointer (some ⟨b7, v7, none⟩)), (.int .i64 x), (u39), (u40), (u41), (u13), by simp only [Act.put, List.setIfInBounds_toArray, List.set_cons_zero, List.set_cons_succ], hSn, by rw [g4, g7]; exact hP4, by rw [g6]; exact hP6, by rw [g8]; exact fun _ e => absurd e (by decide), fun _ => ⟨x, rfl, hx0, hx1⟩, by rw [g10]; exact hP10, by rw [g11]; exact hP11, by rw [g12]; exact hP12, by rw [g13, g14]; exact hP13, by rw [g14]; exact fun e => absurd (e.symm.trans gn14) (by decide)⟩
    · have g4 : (L'.setIfInBounds 10 true).getD 4 false = L'.getD 4 false := by rw [up_set, if_neg (by omega)]
      have g6 : (L'.setIfInBounds 10 true).getD 6 false = L'.getD 6 false := by rw [up_set, if_neg (by omega)]
      have g7 : (L'.setIfInBounds 10 true).getD 7 false = L'.getD 7 false := by rw [up_set, if_neg (by omega)]
      have g8 : (L'.setIfInBounds 10 true).getD 8 false = L'.getD 8 false := by rw [up_set, if_neg (by omega)]
      have g10 : (L'.setIfInBounds 10 true).getD 10 false = true := by rw [up_set, if_pos ⟨rfl, by omega⟩]
      have g11 : (L'.setIfInBounds 10 true).getD 11 false = L'.getD 11 false := by rw [up_set, if_neg (by omega)]
      have g12 : (L'.setIfInBounds 10 true).getD 12 false = L'.getD 12 false := by rw [up_set, if_neg (by omega)]
      have g13 : (L'.setIfInBounds 10 true).getD 13 false = L'.getD 13 false := by rw [up_set, if_neg (by omega)]
      have g14 : (L'.setIfInBounds 10 true).getD 14 false = L'.getD 14 false := by rw [up_set, if_neg (by omega)]
      refine par_call ⟨some 39, _, _, _, _, _⟩ rfl (by rfl) 28 _ _ (by rfl) _ (by rfl) Tryz.call28 (next_st d A n c 3 w (by omega) (by omega) hSw.2 (IN w hSw)) ?_
      rintro e wn ⟨v10, rfl, hv10, hds, hg⟩
      have hdr := hSw.2
      have hSn := hSw.step hg hds
      exact ⟨_, rfl, hSn, (u33), (u35), (u36), (u37), (.int .i64 v10), (u40), (u41), (u13), by simp only [Act.put, List.setIfInBounds_toArray, List.set_cons_zero, List.set_cons_succ], hSn, by rw [g4, g7]; exact fun e e2 => (hP4 e e2).grown hg (draw_apart hdr (by decide)), by rw [g6]; exact hP6, by rw [g7, g8]; exact fun e e2 => (by obtain ⟨b, v, h1, h2, h3⟩ := (hP7 e e2); exact ⟨b, v, h1, h2, (hg.block b (lt_of_heap h3) (fun e => draw_apart hdr (by decide) b e.symm h3)).trans h3⟩), by rw [g8]; exact hP8, fun _ => ⟨v10, rfl, hv10⟩, by rw [g11]; exact hP11, by rw [g12]; exact hP12, by rw [g13, g14]; exact fun e e2 => (hP13 e e2).grown hg (draw_apart hdr (by decide)), by rw [g14]; exact fun e => absurd (e.symm.trans gn14) (by decide)⟩
    · have g4 : (L'.setIfInBounds 11 true).getD 4 false = L'.getD 4 false := by rw [up_set, if_neg (by omega)]
      have g6 : (L'.setIfInBounds 11 true).getD 6 false = L'.getD 6 false := by rw [up_set, if_neg (by omega)]
      have g7 : (L'.setIfInBounds 11 true).getD 7 false = L'.getD 7 false := by rw [up_set, if_neg (by omega)]
      have g8 : (L'.setIfInBounds 11 true).getD 8 false = L'.getD 8 false := by rw [up_set, if_neg (by omega)]
      have g10 : (L'.setIfInBounds 11 true).getD 10 false = L'.getD 10 false := by rw [up_set, if_neg (by omega)]
      have g11 : (L'.setIfInBounds 11 true).getD 11 false = true := by rw [up_set, if_pos ⟨rfl, by omega⟩]
      have g12 : (L'.setIfInBounds 11 true).getD 12 false = L'.getD 12 false := by rw [up_set, if_neg (by omega)]
      have g13 : (L'.setIfInBounds 11 true).getD 13 false = L'.getD 13 false := by rw [up_set, if_neg (by omega)]
      have g14 : (L'.setIfInBounds 11 true).getD 14 false = L'.getD 14 false := by rw [up_set, if_neg (by omega)]
      have hD10 := hP10 gd10
      obtain ⟨v10, rfl, hv10⟩ := hD10
      have hSn := hSw
      refine par_run ⟨some 40, _, _, _, _, _⟩ (.int .i64 (1 + v10)) w rfl (by rfl) (by go_simp; exact i64_id (by omega) (by omega)) ?_
      exact ⟨hSn, (u33), (u35), (u36), (u37), (.int .i64 v10), (.int .i64 (1 + v10)), (u41), (u13), by simp only [Act.put, List.setIfInBounds_toArray, List.set_cons_zero, List.set_cons_succ], hSn, by rw [g4, g7]; exact hP4, by rw [g6]; exact hP6, by rw [g7, g8]; exact hP7, by rw [g8]; exact hP8, by rw [g10]; exact hP10, fun _ => ⟨v10, rfl, hv10⟩, by rw [g12]; exact hP12, by rw [g13, g14]; exact hP13, by rw [g14]; exact fun e => absurd (e.symm.trans gn14) (by decide)⟩
    · have g4 : (L'.setIfInBounds 12 true).getD 4 false = L'.getD 4 false := by rw [up_set, if_neg (by omega)]
      have g6 : (L'.setIfInBounds 12 true).getD 6 false = L'.getD 6 false := by rw [up_set, if_neg (by omega)]
      have g7 : (L'.setIfInBounds 12 true).getD 7 false = L'.getD 7 false := by rw [up_set, if_neg (by omega)]
      have g8 : (L'.setIfInBounds 12 true).getD 8 false = L'.getD 8 false := by rw [up_set, if_neg (by omega)]
      have g10 : (L'.setIfInBounds 12 true).getD 10 false = L'.getD 10 false := by rw [up_set, if_neg (by omega)]
      have g11 : (L'.setIfInBounds 12 true).getD 11 false = L'.getD 11 false := by rw [up_set, if_neg (by omega)]
      have g12 : (L'.setIfInBounds 12 true).getD 12 false = true := by rw [up_set, if_pos ⟨rfl, by omega⟩]
      have g13 : (L'.setIfInBounds 12 true).getD 13 false = L'.getD 13 false := by rw [up_set, if_neg (by omega)]
      have g14 : (L'.setIfInBounds 12 true).getD 14 false = L'.getD 14 false := by rw [up_set, if_neg (by omega)]
      have hD8 := hP8 gd8
      obtain ⟨x8, rfl, hx0, hx1⟩ := hD8
      have hD11 := hP11 gd11
      obtain ⟨v11, rfl, hv11⟩ := hD11
      have hSn := hSw
      refine par_run ⟨some 41, _, _, _, _, _⟩ (.agg #[.string cc, .int .i64 x8, .int .i64 (1 + v11), .slice none 0 0, .slice none 0 0]) w rfl (by rfl) (by go_simp) ?_
      exact ⟨hSn, (u33), (u35), (u36), (.int .i64 x8), (u39), (.int .i64 (1 + v11)), (.agg #[.string cc, .int .i64 x8, .int .i64 (1 + v11), .slice none 0 0, .slice none 0 0]), (u13), by simp only [Act.put, List.setIfInBounds_toArray, List.set_cons_zero, List.set_cons_succ], hSn, by rw [g4, g7]; exact hP4, by rw [g6]; exact hP6, by rw [g7, g8]; exact hP7, by rw [g8]; exact hP8, by rw [g10]; exact hP10, by rw [g11]; exact hP11, fun _ => ⟨x8, 1 + v11, rfl, hx0, hx1, by omega, by omega⟩, by rw [g13, g14]; exact hP13, by rw [g14]; exact fun e => absurd (e.symm.trans gn14) (by decide)⟩
    · have g4 : (L'.setIfInBounds 13 true).getD 4 false = L'.getD 4 false := by rw [up_set, if_neg (by omega)]
      have g6 : (L'.setIfInBounds 13 true).getD 6 false = L'.getD 6 false := by rw [up_set, if_neg (by omega)]
      have g7 : (L'.setIfInBounds 13 true).getD 7 false = L'.getD 7 false := by rw [up_set, if_neg (by omega)]
      have g8 : (L'.setIfInBounds 13 true).getD 8 false = L'.getD 8 false := by rw [up_set, if_neg (by omega)]
      have g10 : (L'.setIfInBounds 13 true).getD 10 false = L'.getD 10 false := by rw [up_set, if_neg (by omega)]
      have g11 : (L'.setIfInBounds 13 true).getD 11 false = L'.getD 11 false := by rw [up_set, if_neg (by omega)]
      have g12 : (L'.setIfInBounds 13 true).getD 12 false = L'.getD 12 false := by rw [up_set, if_neg (by omega)]
      have g13 : (L'.setIfInBounds 13 true).getD 13 false = true := by rw [up_set, if_pos ⟨rfl, by omega⟩]
      have g14 : (L'.setIfInBounds 13 true).getD 14 false = L'.getD 14 false := by rw [up_set, if_neg (by omega)]
      have hb : RowKit.Below w.heap.size w (w.alloc (.cells #[.string ⟨#[]⟩, .int .i64 0, .int .i64 0, .slice none 0 0, .slice none 0 0] 72)) := below_alloc1 _ _
      have hSn := hSw.below hb
      refine par_run ⟨some 13, _, _, _, _, _⟩ (.pointer (some ⟨w.heap.size, 0, none⟩)) (w.alloc (.cells #[.string ⟨#[]⟩, .int .i64 0, .int .i64 0, .slice none 0 0, .slice none 0 0] 72)) rfl (by rfl) (by go_simp) ?_
      exact ⟨hSn, (u33), (u35), (u36), (u37), (u39), (u40), (u41), (.pointer (some ⟨w.heap.size, 0, none⟩)), by simp only [Act.put, List.setIfInBounds_toArray, List.set_cons_zero, List.set_cons_succ], hSn, by rw [g4, g7]; exact fun e e2 => (hP4 e e2).below hb, by rw [g6]; exact hP6, by rw [g7, g8]; exact fun e e2 => (by obtain ⟨b, v, h1, h2, h3⟩ := (hP7 e e2); exact ⟨b, v, h1, h2, (hb.block b (lt_of_heap h3)).trans h3⟩), by rw [g8]; exact hP8, by rw [g10]; exact hP10, by rw [g11]; exact hP11, by rw [g12]; exact hP12, fun _ _ => Laid.new w _ _ _ hSw.1.size, by rw [g14]; exact fun e => absurd (e.symm.trans gn14) (by decide)⟩
    · have g4 : (L'.setIfInBounds 14 true).getD 4 false = L'.getD 4 false := by rw [up_set, if_neg (by omega)]
      have g6 : (L'.setIfInBounds 14 true).getD 6 false = L'.getD 6 false := by rw [up_set, if_neg (by omega)]
      have g7 : (L'.setIfInBounds 14 true).getD 7 false = L'.getD 7 false := by rw [up_set, if_neg (by omega)]
      have g8 : (L'.setIfInBounds 14 true).getD 8 false = L'.getD 8 false := by rw [up_set, if_neg (by omega)]
      have g10 : (L'.setIfInBounds 14 true).getD 10 false = L'.getD 10 false := by rw [up_set, if_neg (by omega)]
      have g11 : (L'.setIfInBounds 14 true).getD 11 false = L'.getD 11 false := by rw [up_set, if_neg (by omega)]
      have g12 : (L'.setIfInBounds 14 true).getD 12 false = L'.getD 12 false := by rw [up_set, if_neg (by omega)]
      have g13 : (L'.setIfInBounds 14 true).getD 13 false = L'.getD 13 false := by rw [up_set, if_neg (by omega)]
      have g14 : (L'.setIfInBounds 14 true).getD 14 false = true := by rw [up_set, if_pos ⟨rfl, by omega⟩]
      have hD12 := hP12 gd12
      obtain ⟨x12, y12, rfl, hx0, hx1, hy0, hy1⟩ := hD12
      have hD13 := hP13 gd13 gn14
      obtain ⟨b13, rfl, hB13, hb13⟩ := hD13
      have hg := setRow_grown hb13 #[.string cc, .int .i64 x12, .int .i64 y12, .slice none 0 0, .slice none 0 0]
      have hSn : StD W d A n c (w.setRow b13 #[.string cc, .int .i64 x12, .int .i64 y12, .slice none 0 0, .slice none 0 0]) := hSw.row hd hb13 hB13 _
      refine par_store_row ⟨none, _, _, _, _, _⟩ rfl (by rfl) 72 (.tmp 13) (.tmp 41) (by rfl) b13 #[.string cc, .int .i64 x12, .int .i64 y12, .slice none 0 0, .slice none 0 0] (by rfl) (by rfl) _ _ hb13 (by kernel_rfl) rfl (by simp [Value.oneCell']) ?_
      exact ⟨hSn, (u33), (u35), (u36), (u37), (u39), (u40), (.agg #[.string cc, .int .i64 x12, .int .i64 y12, .slice none 0 0, .slice none 0 0]), (.pointer (some ⟨b13, 0, none⟩)), by simp only [Act.put], hSn, by rw [g4, g7]; exact fun e e2 => absurd (gd7.symm.trans e2) (by decide), by rw [g6]; exact hP6, by rw [g7, g8]; exact fun e e2 => absurd (gd8.symm.trans e2) (by decide), by rw [g8]; exact hP8, by rw [g10]; exact hP10, by rw [g11]; exact hP11, by rw [g12]; exact hP12, by rw [g14]; exact fun _ e => absurd e (by decide), fun _ => ⟨b13, x12, y12, rfl, hB13, setRow_heap w b13 _ _ _ _ hb13, hx0, hx1, hy0, hy1⟩⟩
  · intro L' a w hp hI
    obtain ⟨u33, u35, u36, u37, u39, u40, u41, u13, rfl, hSw, hP4, hP6, hP7, hP8, hP10, hP11, hP12, hP13, hP14⟩ := hI
    (try simp only [Bool.and_eq_true] at hp)
    have p14 := hp
    obtain ⟨b, x, y, rfl, hlb, hbx, hx0, hx1, hy0, hy1⟩ := hP14 p14
    exact HQ.out _ _ _ _ _ _ _ b x y w hSw hlb hbx hx0 hx1 hy0 hy1
  · refine par_take ⟨some 29, _, _, _, _, _⟩ ?_ rfl (by rfl) ?_ ?_
    rotate_left 1
    · intro w hSw; (try dsimp only at hSw); go_simp; (try with_reducible rfl)
    simp only [Act.put, List.setIfInBounds_toArray, List.set_cons_zero, List.set_cons_succ]
    refine par_take ⟨some 30, _, _, _, _, _⟩ ?_ rfl (by rfl) ?_ ?_
    rotate_left 1
    · intro w hSw; (try dsimp only at hSw); go_simp; (try with_reducible rfl)
    simp only [Act.put, List.setIfInBounds_toArray, List.set_cons_zero, List.set_cons_succ]
    refine par_take ⟨some 31, _, _, _, _, _⟩ ?_ rfl (by rfl) ?_ ?_
    rotate_left 1
    · intro w hSw; (try dsimp only at hSw); go_simp; (try with_reducible rfl)
    simp only [Act.put, List.setIfInBounds_toArray, List.set_cons_zero, List.set_cons_succ]
    refine par_take ⟨some 32, _, _, _, _, _⟩ ?_ rfl (by rfl) ?_ ?_
    rotate_left 1
    · intro w hSw; (try dsimp only at hSw); have hcc : w.cell? ⟨cb, k, none⟩ = some (.string cc) := hSw.1.cell hcb (by simpa using hcd); go_simp; (try with_reducible rfl)
    simp only [Act.put, List.setIfInBounds_toArray, List.set_cons_zero, List.set_cons_succ]
    refine par_take ⟨some 34, _, _, _, _, _⟩ ?_ rfl (by rfl) ?_ ?_
    rotate_left 1
    · intro w hSw; (try dsimp only at hSw); go_simp; (try with_reducible rfl)
    simp only [Act.put, List.setIfInBounds_toArray, List.set_cons_zero, List.set_cons_succ]
    refine par_take ⟨some 38, _, _, _, _, _⟩ ?_ rfl (by rfl) ?_ ?_
    rotate_left 1
    · intro w hSw; (try dsimp only at hSw); go_simp; (try with_reducible rfl)
    simp only [Act.put, List.setIfInBounds_toArray, List.set_cons_zero, List.set_cons_succ]
    exact ⟨_, _, _, _, _, _, _, _, rfl, hS0, (fun e => absurd e (by decide +kernel)), (fun e => absurd e (by decide +kernel)), (fun e => absurd e (by decide +kernel)), (fun e => absurd e (by decide +kernel)), (fun e => absurd e (by decide +kernel)), (fun e => absurd e (by decide +kernel)), (fun e => absurd e (by decide +kernel)), (fun e => absurd e (by decide +kernel)), (fun e => absurd e (by decide +kernel))⟩

/-- A round of requests: the draw, the requests, the codes. -/
structure RC (W0 : World) (d : Nat) (A : Option Addr) (n c : Nat) (v : Value) (es : List Req) (cb Wz : Nat) (w : World) : Prop where
  rs : RS W0 d A n c v es w
  co : CodesAt cb w
  vl : ∀ q, v.ownBlock = some q → q < Wz
  lo : W0.heap.size ≤ Wz
  sz : Wz ≤ w.heap.size
section
variable {W0 w wn : World} {d n c cb Wz : Nat} {A : Option Addr} {v : Value} {es : List Req}
theorem RS.ints' (h : RS W0 d A n c v es w) : IntsIn d A n w := ⟨h.ints.1, fun j hj => by
  obtain ⟨b, off, z, hA, hB, hc, hz⟩ := h.ints.2 j hj
  exact ⟨b, off, z, hA, Nat.lt_of_lt_of_le hB h.dlo, hc, hz⟩⟩
theorem RC.next (h : RC W0 d A n c v es cb Wz w) (hd : DrawS d A n c wn) (hg : Only d w wn) : RC W0 d A n c v es cb Wz wn := ⟨h.rs.only hd hg, h.co.only h.rs.draw hg, h.vl, h.lo, Nat.le_trans h.sz hg.size⟩
theorem RC.keep (h : RC W0 d A n c v es cb Wz w) (hb : RowKit.Below w.heap.size w wn) : RC W0 d A n c v es cb Wz wn := ⟨h.rs.below' hb, (hb.block cb (lt_of_heap h.co)).trans h.co, h.vl, h.lo, Nat.le_trans h.sz hb.size⟩
theorem RC.row (h : RC W0 d A n c v es cb Wz w) {b : Nat} {old : Array Value} (hb : w.heap[b]? = some (.cells old 41 (0, 0))) (hB : Wz ≤ b) (cs : Array Value) : RC W0 d A n c v es cb Wz (w.setRow b cs) := by
  have hg := setRow_grown hb cs
  have hlo := h.lo
  have hbl : RowKit.Below W0.heap.size w (w.setRow b cs) := ⟨hg.os, hg.tape, hg.output, hg.size, fun q hq => hg.block q (by have := h.sz; omega) (fun e => by have := Option.some.inj e; omega)⟩
  obtain ⟨k, hk, hda⟩ := h.rs.draw
  have hne : some d ≠ some b := fun e => draw_apart (w := w) ⟨k, hk, hda⟩ (by decide) b e hb
  refine ⟨⟨h.rs.below.trans hbl, h.rs.rows.kept hg ?_, ⟨k, hk, ?_⟩, h.rs.ints.below hbl, h.rs.dlo⟩, ?_, h.vl, h.lo, Nat.le_trans h.sz hg.size⟩
  · cases hq : v.ownBlock with
    | none => exact .inl rfl
    | some q => exact .inr (fun e => by have := h.vl q hq; have := Option.some.inj e; omega)
  · unfold DrawAt at *
    rw [hg.block _ (lt_of_heap hda) hne]; exact hda
  · have hc := h.co
    unfold CodesAt at *
    rw [hg.block _ (lt_of_heap hc) (fun e => by
      obtain rfl := Option.some.inj e
      rw [hc] at hb
      injection hb with hb
      injection hb with _ hb
      exact absurd hb (by decide))]; exact hc
theorem RC.drew (h : RC W0 d A n c v es cb Wz w) : RC W0 d A n c v es cb Wz w.drew := h.keep (Below.refl _ _).drew
end

set_option maxHeartbeats 16000000 in
set_option maxRecDepth 100000 in
theorem md_r26 {s0 s1 s2 s3 s4 s5 s6 s7 s8 s11 s12 s13 s14 s15 s16 s17 s19 s20 s21 s22 s23 s24 s25 s26 s27 s28 s29 s30 s31 s32 s33 s34 s35 s36 s37 s38 s39 s40 s41 s42 s43 s44 s45 s46 s47 s48 s49 s50 s51 s52 s53 s54 s55 s56 s57 s58 s59 s60 s61 s62 s63 s64 s65 s66 s67 s68 s69 s70 s71 s72 s73 s74 s75 s76 s77 s78 s79 s80 s81 s82 s83 s84 s85 s86 s87 s88 s89 s90 s91 s92 s93 s94 s95 s96 s97 s98 s99 s100 s101 s102 s103 s104 s105 s106 s107 s108 s109 s110 s111 s112 s113 s114 s115 s116 s117 s118 s119 s120 s121 s122 s123 s124 s125 s126 s127 s128 s129 s130 s131 s132 s133 s134 s135 s136 s137 s138 s139 s140 s141 s142 s143 s144 s145 s146 s147 s148 s149 s150 s151 s152 s153 s154 s155 s156 s157 s158 s159 : Value} (W0 : World) (d cb k n c : Nat) (A : Option Addr) (v : Value) (es : List Req) (W : World) (Q : Exit → Act → World → Prop) (h0 : RC W0 d A n c v es cb W.heap.size W) (hk : k < 10)
    (hQ : ∀ (u99 u100 u103 u104 u105 u107 u109 u110 u111 : Value) (b : Nat) (r : Req) (wx : World), RC W0 d A n c v es cb W.heap.size wx → W.heap.size ≤ b → ReqBox wx b r → r.Small → Q .normal ⟨List.toArray (s0 :: s1 :: s2 :: s3 :: s4 :: s5 :: s6 :: s7 :: s8 :: .pointer (some ⟨d, 0, none⟩) :: .slice (some ⟨cb, 0, none⟩) 6 6 :: s11 :: s12 :: s13 :: s14 :: s15 :: s16 :: s17 :: .int .i64 (k : Int) :: .pointer (some ⟨b, 0, none⟩) :: s20 :: s21 :: s22 :: s23 :: s24 :: s25 :: s26 :: s27 :: s28 :: s29 :: s30 :: s31 :: s32 :: s33 :: s34 :: s35 :: s36 :: s37 :: s38 :: s39 :: s40 :: s41 :: s42 :: s43 :: s44 :: s45 :: s46 :: s47 :: s48 :: s49 :: s50 :: s51 :: s52 :: s53 :: s54 :: s55 :: s56 :: s57 :: s58 :: s59 :: s60 :: s61 :: s62 :: s63 :: s64 :: s65 :: s66 :: s67 :: s68 :: s69 :: s70 :: s71 :: s72 :: s73 :: s74 :: s75 :: s76 :: s77 :: s78 :: s79 :: s80 :: s81 :: s82 :: s83 :: s84 :: s85 :: s86 :: s87 :: s88 :: s89 :: s90 :: s91 :: s92 :: .int .i64 (k : Int) :: .int .i64 ((k : Int).tmod 2) :: .int .i64 (1 + (k : Int).tmod 2) :: .int .i64 (k : Int) :: .int .i64 (1 + (k : Int)) :: .pointer (some ⟨d, 0, none⟩) :: u99 :: u100 :: .slice (some ⟨cb, 0, none⟩) 6 6 :: .pointer (some ⟨d, 0, none⟩) :: u103 :: u104 :: u105 :: .pointer (some ⟨d, 0, none⟩) :: u107 :: .pointer (some ⟨d, 0, none⟩) :: u109 :: u110 :: u111 :: s112 :: s113 :: s114 :: s115 :: s116 :: s117 :: s118 :: s119 :: s120 :: s121 :: s122 :: s123 :: s124 :: s125 :: s126 :: s127 :: s128 :: s129 :: s130 :: s131 :: s132 :: s133 :: s134 :: s135 :: s136 :: s137 :: s138 :: s139 :: s140 :: s141 :: s142 :: s143 :: s144 :: s145 :: s146 :: s147 :: s148 :: s149 :: s150 :: s151 :: s152 :: s153 :: s154 :: s155 :: s156 :: s157 :: s158 :: s159 :: []), []⟩ wx) :
    (regionOf Tryz.f17 26).wp Tryz.prog Q ⟨List.toArray (s0 :: s1 :: s2 :: s3 :: s4 :: s5 :: s6 :: s7 :: s8 :: .pointer (some ⟨d, 0, none⟩) :: .slice (some ⟨cb, 0, none⟩) 6 6 :: s11 :: s12 :: s13 :: s14 :: s15 :: s16 :: s17 :: .int .i64 (k : Int) :: s19 :: s20 :: s21 :: s22 :: s23 :: s24 :: s25 :: s26 :: s27 :: s28 :: s29 :: s30 :: s31 :: s32 :: s33 :: s34 :: s35 :: s36 :: s37 :: s38 :: s39 :: s40 :: s41 :: s42 :: s43 :: s44 :: s45 :: s46 :: s47 :: s48 :: s49 :: s50 :: s51 :: s52 :: s53 :: s54 :: s55 :: s56 :: s57 :: s58 :: s59 :: s60 :: s61 :: s62 :: s63 :: s64 :: s65 :: s66 :: s67 :: s68 :: s69 :: s70 :: s71 :: s72 :: s73 :: s74 :: s75 :: s76 :: s77 :: s78 :: s79 :: s80 :: s81 :: s82 :: s83 :: s84 :: s85 :: s86 :: s87 :: s88 :: s89 :: s90 :: s91 :: s92 :: s93 :: s94 :: s95 :: s96 :: s97 :: s98 :: s99 :: s100 :: s101 :: s102 :: s103 :: s104 :: s105 :: s106 :: s107 :: s108 :: s109 :: s110 :: s111 :: s112 :: s113 :: s114 :: s115 :: s116 :: s117 :: s118 :: s119 :: s120 :: s121 :: s122 :: s123 :: s124 :: s125 :: s126 :: s127 :: s128 :: s129 :: s130 :: s131 :: s132 :: s133 :: s134 :: s135 :: s136 :: s137 :: s138 :: s139 :: s140 :: s141 :: s142 :: s143 :: s144 :: s145 :: s146 :: s147 :: s148 :: s149 :: s150 :: s151 :: s152 :: s153 :: s154 :: s155 :: s156 :: s157 :: s158 :: s159 :: []), []⟩ W := by
  refine of_onlyN (K := Q .normal) ?_ (fun _ _ h => h)
  generalize Q .normal = K at hQ ⊢
  have HQ := Lib.hid hQ; clear hQ
  conv => arg 2; whnf
  have hmk : ∀ k : Nat, k < 10 → 0 ≤ (k : Int).tmod 2 ∧ (k : Int).tmod 2 ≤ 1 := by decide
  have hm0 : 0 ≤ (k : Int).tmod 2 := (hmk k hk).1
  have hm1 : (k : Int).tmod 2 ≤ 1 := (hmk k hk).2
  clear hmk
  refine wp_region_par (S := fun w => RC W0 d A n c v es cb W.heap.size w) (I := fun L' a w => ∃ u99 u100 u103 u104 u105 u107 u109 u110 u111 u19 : Value, a = ⟨List.toArray (s0 :: s1 :: s2 :: s3 :: s4 :: s5 :: s6 :: s7 :: s8 :: .pointer (some ⟨d, 0, none⟩) :: .slice (some ⟨cb, 0, none⟩) 6 6 :: s11 :: s12 :: s13 :: s14 :: s15 :: s16 :: s17 :: .int .i64 (k : Int) :: u19 :: s20 :: s21 :: s22 :: s23 :: s24 :: s25 :: s26 :: s27 :: s28 :: s29 :: s30 :: s31 :: s32 :: s33 :: s34 :: s35 :: s36 :: s37 :: s38 :: s39 :: s40 :: s41 :: s42 :: s43 :: s44 :: s45 :: s46 :: s47 :: s48 :: s49 :: s50 :: s51 :: s52 :: s53 :: s54 :: s55 :: s56 :: s57 :: s58 :: s59 :: s60 :: s61 :: s62 :: s63 :: s64 :: s65 :: s66 :: s67 :: s68 :: s69 :: s70 :: s71 :: s72 :: s73 :: s74 :: s75 :: s76 :: s77 :: s78 :: s79 :: s80 :: s81 :: s82 :: s83 :: s84 :: s85 :: s86 :: s87 :: s88 :: s89 :: s90 :: s91 :: s92 :: .int .i64 (k : Int) :: .int .i64 ((k : Int).tmod 2) :: .int .i64 (1 + (k : Int).tmod 2) :: .int .i64 (k : Int) :: .int .i64 (1 + (k : Int)) :: .pointer (some ⟨d, 0, none⟩) :: u99 :: u100 :: .slice (some ⟨cb, 0, none⟩) 6 6 :: .pointer (some ⟨d, 0, none⟩) :: u103 :: u104 :: u105 :: .pointer (some ⟨d, 0, none⟩) :: u107 :: .pointer (some ⟨d, 0, none⟩) :: u109 :: u110 :: u111 :: s112 :: s113 :: s114 :: s115 :: s116 :: s117 :: s118 :: s119 :: s120 :: s121 :: s122 :: s123 :: s124 :: s125 :: s126 :: s127 :: s128 :: s129 :: s130 :: s131 :: s132 :: s133 :: s134 :: s135 :: s136 :: s137 :: s138 :: s139 :: s140 :: s141 :: s142 :: s143 :: s144 :: s145 :: s146 :: s147 :: s148 :: s149 :: s150 :: s151 :: s152 :: s153 :: s154 :: s155 :: s156 :: s157 :: s158 :: s159 :: []), []⟩ ∧ (RC W0 d A n c v es cb W.heap.size w) ∧ (L'.getD 6 false = true → ∃ v : Nat, u99 = .int .i64 v ∧ v < 4) ∧ (L'.getD 7 false = true → ∃ v : Nat, u100 = .int .i64 (1 + v) ∧ v < 4) ∧ (L'.getD 10 false = true → ∃ v : Nat, u103 = .int .i64 v ∧ v < 4) ∧ (L'.getD 11 false = true → ∃ v : Nat, u104 = .pointer (some ⟨cb, v, none⟩) ∧ v < 6) ∧ (L'.getD 12 false = true → ∃ s : ByteArray, u105 = .string s ∧ s.size ≤ 12) ∧ (L'.getD 14 false = true → ∃ v : Nat, u107 = .int .i64 v ∧ v < 3) ∧ (L'.getD 16 false = true → ∃ v : Nat, u109 = .int .i64 v ∧ v < 5) ∧ (L'.getD 17 false = true → ∃ v : Nat, u110 = .int .i64 (400 + v) ∧ v < 5) ∧ (L'.getD 18 false = true → ∃ r : Req, u111 = .agg #[.int .i64 r.server, .int .i64 r.seq, .bool r.cancel, .int .i64 r.student, .int .i64 r.term, .string r.code, .string r.give, .int .i64 r.priority, .int .i64 r.day] ∧ r.Small) ∧ (L'.getD 19 false = true → L'.getD 20 false = false → Laid W.heap.size w (fun b => .pointer (some ⟨b, 0, none⟩)) (.cells #[.int .i64 0, .int .i64 0, .bool false, .int .i64 0, .int .i64 0, .string ⟨#[]⟩, .string ⟨#[]⟩, .int .i64 0, .int .i64 0] 41 (0, 0)) u19) ∧ (L'.getD 20 false = true → ∃ (b : Nat) (r : Req), u19 = .pointer (some ⟨b, 0, none⟩) ∧ W.heap.size ≤ b ∧ ReqBox w b r ∧ r.Small)) (pre := fun i L' => L'.size == 21 && ((i == 6 && !L'.getD 20 false) || (i == 7 && L'.getD 6 false && !L'.getD 20 false) || (i == 10 && !L'.getD 20 false) || (i == 11 && L'.getD 10 false && !L'.getD 20 false) || (i == 12 && L'.getD 11 false && !L'.getD 20 false) || (i == 14 && !L'.getD 20 false) || (i == 16 && !L'.getD 20 false) || (i == 17 && L'.getD 16 false && !L'.getD 20 false) || (i == 18 && L'.getD 7 false && L'.getD 12 false && L'.getD 14 false && L'.getD 17 false && !L'.getD 20 false) || (i == 19 && !L'.getD 20 false) || (i == 20 && L'.getD 18 false && L'.getD 19 false && !L'.getD 20 false))) (fin := fun L' => L'.getD 20 false) [0, 1, 2, 3, 4, 5, 8, 9, 13, 15] 11 (by kernel_rfl) (by kernel_rfl) (by kernel_rfl) (by kernel_rfl) (by decide) h0.drew ?_ ?_ ?_
  · intro i L' a w hp hI
    obtain ⟨u99, u100, u103, u104, u105, u107, u109, u110, u111, u19, rfl, hSw, hP6, hP7, hP10, hP11, hP12, hP14, hP16, hP17, hP18, hP19, hP20⟩ := hI
    simp only [Bool.and_eq_true, Bool.or_eq_true, beq_iff_eq, Bool.not_eq_true'] at hp
    obtain ⟨hsz, hp⟩ := hp
    rcases hp with ((((((((((⟨rfl, gn20⟩ | ⟨⟨rfl, gd6⟩, gn20⟩) | ⟨rfl, gn20⟩) | ⟨⟨rfl, gd10⟩, gn20⟩) | ⟨⟨rfl, gd11⟩, gn20⟩) | ⟨rfl, gn20⟩) | ⟨rfl, gn20⟩) | ⟨⟨rfl, gd16⟩, gn20⟩) | ⟨⟨⟨⟨⟨rfl, gd7⟩, gd12⟩, gd14⟩, gd17⟩, gn20⟩) | ⟨rfl, gn20⟩) | ⟨⟨⟨rfl, gd18⟩, gd19⟩, gn20⟩)
    · have g6 : (L'.setIfInBounds 6 true).getD 6 false = true := by rw [up_set, if_pos ⟨rfl, by omega⟩]
      have g7 : (L'.setIfInBounds 6 true).getD 7 false = L'.getD 7 false := by rw [up_set, if_neg (by omega)]
      have g10 : (L'.setIfInBounds 6 true).getD 10 false = L'.getD 10 false := by rw [up_set, if_neg (by omega)]
      have g11 : (L'.setIfInBounds 6 true).getD 11 false = L'.getD 11 false := by rw [up_set, if_neg (by omega)]
      have g12 : (L'.setIfInBounds 6 true).getD 12 false = L'.getD 12 false := by rw [up_set, if_neg (by omega)]
      have g14 : (L'.setIfInBounds 6 true).getD 14 false = L'.getD 14 false := by rw [up_set, if_neg (by omega)]
      have g16 : (L'.setIfInBounds 6 true).getD 16 false = L'.getD 16 false := by rw [up_set, if_neg (by omega)]
      have g17 : (L'.setIfInBounds 6 true).getD 17 false = L'.getD 17 false := by rw [up_set, if_neg (by omega)]
      have g18 : (L'.setIfInBounds 6 true).getD 18 false = L'.getD 18 false := by rw [up_set, if_neg (by omega)]
      have g19 : (L'.setIfInBounds 6 true).getD 19 false = L'.getD 19 false := by rw [up_set, if_neg (by omega)]
      have g20 : (L'.setIfInBounds 6 true).getD 20 false = L'.getD 20 false := by rw [up_set, if_neg (by omega)]
      refine par_call ⟨some 99, _, _, _, _, _⟩ rfl (by rfl) 28 _ _ (by rfl) _ (by rfl) Tryz.call28 (next_st d A n c 4 w (by omega) (by omega) hSw.rs.draw hSw.rs.ints') ?_
      rintro e wn ⟨v6, rfl, hv6, hds, hg⟩
      have hdr := hSw.rs.draw
      have hSn := hSw.next hds hg
      exact ⟨_, rfl, hSn, (.int .i64 v6), (u100), (u103), (u104), (u105), (u107), (u109), (u110), (u111), (u19), by simp only [Act.put, List.setIfInBounds_toArray, List.set_cons_zero, List.set_cons_succ], hSn, fun _ => ⟨v6, rfl, hv6⟩, by rw [g7]; exact hP7, by rw [g10]; exact hP10, by rw [g11]; exact hP11, by rw [g12]; exact hP12, by rw [g14]; exact hP14, by rw [g16]; exact hP16, by rw [g17]; exact hP17, by rw [g18]; exact hP18, by rw [g19, g20]; exact fun e e2 => (hP19 e e2).grown hg (draw_apart hdr (by decide)), by rw [g20]; exact fun e => absurd (e.symm.trans gn20) (by decide)⟩
    · have g6 : (L'.setIfInBounds 7 true).getD 6 false = L'.getD 6 false := by rw [up_set, if_neg (by omega)]
      have g7 : (L'.setIfInBounds 7 true).getD 7 false = true := by rw [up_set, if_pos ⟨rfl, by omega⟩]
      have g10 : (L'.setIfInBounds 7 true).getD 10 false = L'.getD 10 false := by rw [up_set, if_neg (by omega)]
      have g11 : (L'.setIfInBounds 7 true).getD 11 false = L'.getD 11 false := by rw [up_set, if_neg (by omega)]
      have g12 : (L'.setIfInBounds 7 true).getD 12 false = L'.getD 12 false := by rw [up_set, if_neg (by omega)]
      have g14 : (L'.setIfInBounds 7 true).getD 14 false = L'.getD 14 false := by rw [up_set, if_neg (by omega)]
      have g16 : (L'.setIfInBounds 7 true).getD 16 false = L'.getD 16 false := by rw [up_set, if_neg (by omega)]
      have g17 : (L'.setIfInBounds 7 true).getD 17 false = L'.getD 17 false := by rw [up_set, if_neg (by omega)]
      have g18 : (L'.setIfInBounds 7 true).getD 18 false = L'.getD 18 false := by rw [up_set, if_neg (by omega)]
      have g19 : (L'.setIfInBounds 7 true).getD 19 false = L'.getD 19 false := by rw [up_set, if_neg (by omega)]
      have g20 : (L'.setIfInBounds 7 true).getD 20 false = L'.getD 20 false := by rw [up_set, if_neg (by omega)]
      have hD6 := hP6 gd6
      obtain ⟨v6, rfl, hv6⟩ := hD6
      have hSn := hSw
      refine par_run ⟨some 100, _, _, _, _, _⟩ (.int .i64 (1 + v6)) w rfl (by rfl) (by go_simp; exact i64_id (by omega) (by omega)) ?_
      exact ⟨hSn, (.int .i64 v6), (.int .i64 (1 + v6)), (u103), (u104), (u105), (u107), (u109), (u110), (u111), (u19), by simp only [Act.put, List.setIfInBounds_toArray, List.set_cons_zero, List.set_cons_succ], hSn, by rw [g6]; exact hP6, fun _ => ⟨v6, rfl, hv6⟩, by rw [g10]; exact hP10, by rw [g11]; exact hP11, by rw [g12]; exact hP12, by rw [g14]; exact hP14, by rw [g16]; exact hP16, by rw [g17]; exact hP17, by rw [g18]; exact hP18, by rw [g19, g20]; exact hP19, by rw [g20]; exact fun e => absurd (e.symm.trans gn20) (by decide)⟩
    · have g6 : (L'.setIfInBounds 10 true).getD 6 false = L'.getD 6 false := by rw [up_set, if_neg (by omega)]
      have g7 : (L'.setIfInBounds 10 true).getD 7 false = L'.getD 7 false := by rw [up_set, if_neg (by omega)]
      have g10 : (L'.setIfInBounds 10 true).getD 10 false = true := by rw [up_set, if_pos ⟨rfl, by omega⟩]
      have g11 : (L'.setIfInBounds 10 true).getD 11 false = L'.getD 11 false := by rw [up_set, if_neg (by omega)]
      have g12 : (L'.setIfInBounds 10 true).getD 12 false = L'.getD 12 false := by rw [up_set, if_neg (by omega)]
      have g14 : (L'.setIfInBounds 10 true).getD 14 false = L'.getD 14 false := by rw [up_set, if_neg (by omega)]
      have g16 : (L'.setIfInBounds 10 true).getD 16 false = L'.getD 16 false := by rw [up_set, if_neg (by omega)]
      have g17 : (L'.setIfInBounds 10 true).getD 17 false = L'.getD 17 false := by rw [up_set, if_neg (by omega)]
      have g18 : (L'.setIfInBounds 10 true).getD 18 false = L'.getD 18 false := by rw [up_set, if_neg (by omega)]
      have g19 : (L'.setIfInBounds 10 true).getD 19 false = L'.getD 19 false := by rw [up_set, if_neg (by omega)]
      have g20 : (L'.setIfInBounds 10 true).getD 20 false = L'.getD 20 false := by rw [up_set, if_neg (by omega)]
      refine par_call ⟨some 103, _, _, _, _, _⟩ rfl (by rfl) 28 _ _ (by rfl) _ (by rfl) Tryz.call28 (next_st d A n c 4 w (by omega) (by omega) hSw.rs.draw hSw.rs.ints') ?_
      rintro e wn ⟨v10, rfl, hv10, hds, hg⟩
      have hdr := hSw.rs.draw
      have hSn := hSw.next hds hg
      exact ⟨_, rfl, hSn, (u99), (u100), (.int .i64 v10), (u104), (u105), (u107), (u109), (u110), (u111), (u19), by simp only [Act.put, List.setIfInBounds_toArray, List.set_cons_zero, List.set_cons_succ], hSn, by rw [g6]; exact hP6, by rw [g7]; exact hP7, fun _ => ⟨v10, rfl, hv10⟩, by rw [g11]; exact hP11, by rw [g12]; exact hP12, by rw [g14]; exact hP14, by rw [g16]; exact hP16, by rw [g17]; exact hP17, by rw [g18]; exact hP18, by rw [g19, g20]; exact fun e e2 => (hP19 e e2).grown hg (draw_apart hdr (by decide)), by rw [g20]; exact fun e => absurd (e.symm.trans gn20) (by decide)⟩
    · have g6 : (L'.setIfInBounds 11 true).getD 6 false = L'.getD 6 false := by rw [up_set, if_neg (by omega)]
      have g7 : (L'.setIfInBounds 11 true).getD 7 false = L'.getD 7 false := by rw [up_set, if_neg (by omega)]
      have g10 : (L'.setIfInBounds 11 true).getD 10 false = L'.getD 10 false := by rw [up_set, if_neg (by omega)]
      have g11 : (L'.setIfInBounds 11 true).getD 11 false = true := by rw [up_set, if_pos ⟨rfl, by omega⟩]
      have g12 : (L'.setIfInBounds 11 true).getD 12 false = L'.getD 12 false := by rw [up_set, if_neg (by omega)]
      have g14 : (L'.setIfInBounds 11 true).getD 14 false = L'.getD 14 false := by rw [up_set, if_neg (by omega)]
      have g16 : (L'.setIfInBounds 11 true).getD 16 false = L'.getD 16 false := by rw [up_set, if_neg (by omega)]
      have g17 : (L'.setIfInBounds 11 true).getD 17 false = L'.getD 17 false := by rw [up_set, if_neg (by omega)]
      have g18 : (L'.setIfInBounds 11 true).getD 18 false = L'.getD 18 false := by rw [up_set, if_neg (by omega)]
      have g19 : (L'.setIfInBounds 11 true).getD 19 false = L'.getD 19 false := by rw [up_set, if_neg (by omega)]
      have g20 : (L'.setIfInBounds 11 true).getD 20 false = L'.getD 20 false := by rw [up_set, if_neg (by omega)]
      have hD10 := hP10 gd10
      obtain ⟨v10, rfl, hv10⟩ := hD10
      have hSn := hSw
      refine par_run ⟨some 104, _, _, _, _, _⟩ (.pointer (some ⟨cb, v10, none⟩)) w rfl (by rfl) (by go_simp; intro h6; omega) ?_
      exact ⟨hSn, (u99), (u100), (.int .i64 v10), (.pointer (some ⟨cb, v10, none⟩)), (u105), (u107), (u109), (u110), (u111), (u19), by simp only [Act.put, List.setIfInBounds_toArray, List.set_cons_zero, List.set_cons_succ], hSn, by rw [g6]; exact hP6, by rw [g7]; exact hP7, by rw [g10]; exact hP10, fun _ => ⟨v10, rfl, by omega⟩, by rw [g12]; exact hP12, by rw [g14]; exact hP14, by rw [g16]; exact hP16, by rw [g17]; exact hP17, by rw [g18]; exact hP18, by rw [g19, g20]; exact hP19, by rw [g20]; exact fun e => absurd (e.symm.trans gn20) (by decide)⟩
    · have g6 : (L'.setIfInBounds 12 true).getD 6 false = L'.getD 6 false := by rw [up_set, if_neg (by omega)]
      have g7 : (L'.setIfInBounds 12 true).getD 7 false = L'.getD 7 false := by rw [up_set, if_neg (by omega)]
      have g10 : (L'.setIfInBounds 12 true).getD 10 false = L'.getD 10 false := by rw [up_set, if_neg (by omega)]
      have g11 : (L'.setIfInBounds 12 true).getD 11 false = L'.getD 11 false := by rw [up_set, if_neg (by omega)]
      have g12 : (L'.setIfInBounds 12 true).getD 12 false = true := by rw [up_set, if_pos ⟨rfl, by omega⟩]
      have g14 : (L'.setIfInBounds 12 true).getD 14 false = L'.getD 14 false := by rw [up_set, if_neg (by omega)]
      have g16 : (L'.setIfInBounds 12 true).getD 16 false = L'.getD 16 false := by rw [up_set, if_neg (by omega)]
      have g17 : (L'.setIfInBounds 12 true).getD 17 false = L'.getD 17 false := by rw [up_set, if_neg (by omega)]
      have g18 : (L'.setIfInBounds 12 true).getD 18 false = L'.getD 18 false := by rw [up_set, if_neg (by omega)]
      have g19 : (L'.setIfInBounds 12 true).getD 19 false = L'.getD 19 false := by rw [up_set, if_neg (by omega)]
      have g20 : (L'.setIfInBounds 12 true).getD 20 false = L'.getD 20 false := by rw [up_set, if_neg (by omega)]
      have hD11 := hP11 gd11
      obtain ⟨v11, rfl, hv11⟩ := hD11
      obtain ⟨s, hsc, hs⟩ := hSw.co.cell hv11
      have hSn := hSw
      refine par_run ⟨some 105, _, _, _, _, _⟩ (.string s) w rfl (by rfl) (by go_simp) ?_
      exact ⟨hSn, (u99), (u100), (u103), (.pointer (some ⟨cb, v11, none⟩)), (.string s), (u107), (u109), (u110), (u111), (u19), by simp only [Act.put, List.setIfInBounds_toArray, List.set_cons_zero, List.set_cons_succ], hSn, by rw [g6]; exact hP6, by rw [g7]; exact hP7, by rw [g10]; exact hP10, by rw [g11]; exact hP11, fun _ => ⟨s, rfl, hs⟩, by rw [g14]; exact hP14, by rw [g16]; exact hP16, by rw [g17]; exact hP17, by rw [g18]; exact hP18, by rw [g19, g20]; exact hP19, by rw [g20]; exact fun e => absurd (e.symm.trans gn20) (by decide)⟩
    · have g6 : (L'.setIfInBounds 14 true).getD 6 false = L'.getD 6 false := by rw [up_set, if_neg (by omega)]
      have g7 : (L'.setIfInBounds 14 true).getD 7 false = L'.getD 7 false := by rw [up_set, if_neg (by omega)]
      have g10 : (L'.setIfInBounds 14 true).getD 10 false = L'.getD 10 false := by rw [up_set, if_neg (by omega)]
      have g11 : (L'.setIfInBounds 14 true).getD 11 false = L'.getD 11 false := by rw [up_set, if_neg (by omega)]
      have g12 : (L'.setIfInBounds 14 true).getD 12 false = L'.getD 12 false := by rw [up_set, if_neg (by omega)]
      have g14 : (L'.setIfInBounds 14 true).getD 14 false = true := by rw [up_set, if_pos ⟨rfl, by omega⟩]
      have g16 : (L'.setIfInBounds 14 true).getD 16 false = L'.getD 16 false := by rw [up_set, if_neg (by omega)]
      have g17 : (L'.setIfInBounds 14 true).getD 17 false = L'.getD 17 false := by rw [up_set, if_neg (by omega)]
      have g18 : (L'.setIfInBounds 14 true).getD 18 false = L'.getD 18 false := by rw [up_set, if_neg (by omega)]
      have g19 : (L'.setIfInBounds 14 true).getD 19 false = L'.getD 19 false := by rw [up_set, if_neg (by omega)]
      have g20 : (L'.setIfInBounds 14 true).getD 20 false = L'.getD 20 false := by rw [up_set, if_neg (by omega)]
      refine par_call ⟨some 107, _, _, _, _, _⟩ rfl (by rfl) 28 _ _ (by rfl) _ (by rfl) Tryz.call28 (next_st d A n c 3 w (by omega) (by omega) hSw.rs.draw hSw.rs.ints') ?_
      rintro e wn ⟨v14, rfl, hv14, hds, hg⟩
      have hdr := hSw.rs.draw
      have hSn := hSw.next hds hg
      exact ⟨_, rfl, hSn, (u99), (u100), (u103), (u104), (u105), (.int .i64 v14), (u109), (u110), (u111), (u19), by simp only [Act.put, List.setIfInBounds_toArray, List.set_cons_zero, List.set_cons_succ], hSn, by rw [g6]; exact hP6, by rw [g7]; exact hP7, by rw [g10]; exact hP10, by rw [g11]; exact hP11, by rw [g12]; exact hP12, fun _ => ⟨v14, rfl, hv14⟩, by rw [g16]; exact hP16, by rw [g17]; exact hP17, by rw [g18]; exact hP18, by rw [g19, g20]; exact fun e e2 => (hP19 e e2).grown hg (draw_apart hdr (by decide)), by rw [g20]; exact fun e => absurd (e.symm.trans gn20) (by decide)⟩
    · have g6 : (L'.setIfInBounds 16 true).getD 6 false = L'.getD 6 false := by rw [up_set, if_neg (by omega)]
      have g7 : (L'.setIfInBounds 16 true).getD 7 false = L'.getD 7 false := by rw [up_set, if_neg (by omega)]
      have g10 : (L'.setIfInBounds 16 true).getD 10 false = L'.getD 10 false := by rw [up_set, if_neg (by omega)]
      have g11 : (L'.setIfInBounds 16 true).getD 11 false = L'.getD 11 false := by rw [up_set, if_neg (by omega)]
      have g12 : (L'.setIfInBounds 16 true).getD 12 false = L'.getD 12 false := by rw [up_set, if_neg (by omega)]
      have g14 : (L'.setIfInBounds 16 true).getD 14 false = L'.getD 14 false := by rw [up_set, if_neg (by omega)]
      have g16 : (L'.setIfInBounds 16 true).getD 16 false = true := by rw [up_set, if_pos ⟨rfl, by omega⟩]
      have g17 : (L'.setIfInBounds 16 true).getD 17 false = L'.getD 17 false := by rw [up_set, if_neg (by omega)]
      have g18 : (L'.setIfInBounds 16 true).getD 18 false = L'.getD 18 false := by rw [up_set, if_neg (by omega)]
      have g19 : (L'.setIfInBounds 16 true).getD 19 false = L'.getD 19 false := by rw [up_set, if_neg (by omega)]
      have g20 : (L'.setIfInBounds 16 true).getD 20 false = L'.getD 20 false := by rw [up_set, if_neg (by omega)]
      refine par_call ⟨some 109, _, _, _, _, _⟩ rfl (by rfl) 28 _ _ (by rfl) _ (by rfl) Tryz.call28 (next_st d A n c 5 w (by omega) (by omega) hSw.rs.draw hSw.rs.ints') ?_
      rintro e wn ⟨v16, rfl, hv16, hds, hg⟩
      have hdr := hSw.rs.draw
      have hSn := hSw.next hds hg
      exact ⟨_, rfl, hSn, (u99), (u100), (u103), (u104), (u105), (u107), (.int .i64 v16), (u110), (u111), (u19), by simp only [Act.put, List.setIfInBounds_toArray, List.set_cons_zero, List.set_cons_succ], hSn, by rw [g6]; exact hP6, by rw [g7]; exact hP7, by rw [g10]; exact hP10, by rw [g11]; exact hP11, by rw [g12]; exact hP12, by rw [g14]; exact hP14, fun _ => ⟨v16, rfl, hv16⟩, by rw [g17]; exact hP17, by rw [g18]; exact hP18, by rw [g19, g20]; exact fun e e2 => (hP19 e e2).grown hg (draw_apart hdr (by decide)), by rw [g20]; exact fun e => absurd (e.symm.trans gn20) (by decide)⟩
    · have g6 : (L'.setIfInBounds 17 true).getD 6 false = L'.getD 6 false := by rw [up_set, if_neg (by omega)]
      have g7 : (L'.setIfInBounds 17 true).getD 7 false = L'.getD 7 false := by rw [up_set, if_neg (by omega)]
      have g10 : (L'.setIfInBounds 17 true).getD 10 false = L'.getD 10 false := by rw [up_set, if_neg (by omega)]
      have g11 : (L'.setIfInBounds 17 true).getD 11 false = L'.getD 11 false := by rw [up_set, if_neg (by omega)]
      have g12 : (L'.setIfInBounds 17 true).getD 12 false = L'.getD 12 false := by rw [up_set, if_neg (by omega)]
      have g14 : (L'.setIfInBounds 17 true).getD 14 false = L'.getD 14 false := by rw [up_set, if_neg (by omega)]
      have g16 : (L'.setIfInBounds 17 true).getD 16 false = L'.getD 16 false := by rw [up_set, if_neg (by omega)]
      have g17 : (L'.setIfInBounds 17 true).getD 17 false = true := by rw [up_set, if_pos ⟨rfl, by omega⟩]
      have g18 : (L'.setIfInBounds 17 true).getD 18 false = L'.getD 18 false := by rw [up_set, if_neg (by omega)]
      have g19 : (L'.setIfInBounds 17 true).getD 19 false = L'.getD 19 false := by rw [up_set, if_neg (by omega)]
      have g20 : (L'.setIfInBounds 17 true).getD 20 false = L'.getD 20 false := by rw [up_set, if_neg (by omega)]
      have hD16 := hP16 gd16
      obtain ⟨v16, rfl, hv16⟩ := hD16
      have hSn := hSw
      refine par_run ⟨some 110, _, _, _, _, _⟩ (.int .i64 (400 + v16)) w rfl (by rfl) (by go_simp; exact i64_id (by omega) (by omega)) ?_
      exact ⟨hSn, (u99), (u100), (u103), (u104), (u105), (u107), (.int .i64 v16), (.int .i64 (400 + v16)), (u111), (u19), by simp only [Act.put, List.setIfInBounds_toArray, List.set_cons_zero, List.set_cons_succ], hSn, by rw [g6]; exact hP6, by rw [g7]; exact hP7, by rw [g10]; exact hP10, by rw [g11]; exact hP11, by rw [g12]; exact hP12, by rw [g14]; exact hP14, by rw [g16]; exact hP16, fun _ => ⟨v16, rfl, hv16⟩, by rw [g18]; exact hP18, by rw [g19, g20]; exact hP19, by rw [g20]; exact fun e => absurd (e.symm.trans gn20) (by decide)⟩
    · have g6 : (L'.setIfInBounds 18 true).getD 6 false = L'.getD 6 false := by rw [up_set, if_neg (by omega)]
      have g7 : (L'.setIfInBounds 18 true).getD 7 false = L'.getD 7 false := by rw [up_set, if_neg (by omega)]
      have g10 : (L'.setIfInBounds 18 true).getD 10 false = L'.getD 10 false := by rw [up_set, if_neg (by omega)]
      have g11 : (L'.setIfInBounds 18 true).getD 11 false = L'.getD 11 false := by rw [up_set, if_neg (by omega)]
      have g12 : (L'.setIfInBounds 18 true).getD 12 false = L'.getD 12 false := by rw [up_set, if_neg (by omega)]
      have g14 : (L'.setIfInBounds 18 true).getD 14 false = L'.getD 14 false := by rw [up_set, if_neg (by omega)]
      have g16 : (L'.setIfInBounds 18 true).getD 16 false = L'.getD 16 false := by rw [up_set, if_neg (by omega)]
      have g17 : (L'.setIfInBounds 18 true).getD 17 false = L'.getD 17 false := by rw [up_set, if_neg (by omega)]
      have g18 : (L'.setIfInBounds 18 true).getD 18 false = true := by rw [up_set, if_pos ⟨rfl, by omega⟩]
      have g19 : (L'.setIfInBounds 18 true).getD 19 false = L'.getD 19 false := by rw [up_set, if_neg (by omega)]
      have g20 : (L'.setIfInBounds 18 true).getD 20 false = L'.getD 20 false := by rw [up_set, if_neg (by omega)]
      have hD7 := hP7 gd7
      obtain ⟨v7, rfl, hv7⟩ := hD7
      have hD12 := hP12 gd12
      obtain ⟨s12, rfl, hs12⟩ := hD12
      have hD14 := hP14 gd14
      obtain ⟨v14, rfl, hv14⟩ := hD14
      have hD17 := hP17 gd17
      obtain ⟨v17, rfl, hv17⟩ := hD17
      have hSn := hSw
      refine par_run ⟨some 111, _, _, _, _, _⟩ (.agg #[.int .i64 (1 + (k : Int).tmod 2), .int .i64 (1 + (k : Int)), .bool false, .int .i64 (1 + v7), .int .i64 4, .string s12, .string ⟨#[]⟩, .int .i64 v14, .int .i64 (400 + v17)]) w rfl (by rfl) (by go_simp) ?_
      exact ⟨hSn, (u99), (.int .i64 (1 + v7)), (u103), (u104), (.string s12), (.int .i64 v14), (u109), (.int .i64 (400 + v17)), (.agg #[.int .i64 (1 + (k : Int).tmod 2), .int .i64 (1 + (k : Int)), .bool false, .int .i64 (1 + v7), .int .i64 4, .string s12, .string ⟨#[]⟩, .int .i64 v14, .int .i64 (400 + v17)]), (u19), by simp only [Act.put, List.setIfInBounds_toArray, List.set_cons_zero, List.set_cons_succ], hSn, by rw [g6]; exact hP6, by rw [g7]; exact hP7, by rw [g10]; exact hP10, by rw [g11]; exact hP11, by rw [g12]; exact hP12, by rw [g14]; exact hP14, by rw [g16]; exact hP16, by rw [g17]; exact hP17, fun _ => ⟨⟨1 + (k : Int).tmod 2, 1 + (k : Int), false, 1 + v7, 4, s12, ⟨#[]⟩, v14, 400 + v17⟩, rfl, small_mk (by unfold I64; omega) hs12 (by decide)⟩, by rw [g19, g20]; exact hP19, by rw [g20]; exact fun e => absurd (e.symm.trans gn20) (by decide)⟩
    · have g6 : (L'.setIfInBounds 19 true).getD 6 false = L'.getD 6 false := by rw [up_set, if_neg (by omega)]
      have g7 : (L'.setIfInBounds 19 true).getD 7 false = L'.getD 7 false := by rw [up_set, if_neg (by omega)]
      have g10 : (L'.setIfInBounds 19 true).getD 10 false = L'.getD 10 false := by rw [up_set, if_neg (by omega)]
      have g11 : (L'.setIfInBounds 19 true).getD 11 false = L'.getD 11 false := by rw [up_set, if_neg (by omega)]
      have g12 : (L'.setIfInBounds 19 true).getD 12 false = L'.getD 12 false := by rw [up_set, if_neg (by omega)]
      have g14 : (L'.setIfInBounds 19 true).getD 14 false = L'.getD 14 false := by rw [up_set, if_neg (by omega)]
      have g16 : (L'.setIfInBounds 19 true).getD 16 false = L'.getD 16 false := by rw [up_set, if_neg (by omega)]
      have g17 : (L'.setIfInBounds 19 true).getD 17 false = L'.getD 17 false := by rw [up_set, if_neg (by omega)]
      have g18 : (L'.setIfInBounds 19 true).getD 18 false = L'.getD 18 false := by rw [up_set, if_neg (by omega)]
      have g19 : (L'.setIfInBounds 19 true).getD 19 false = true := by rw [up_set, if_pos ⟨rfl, by omega⟩]
      have g20 : (L'.setIfInBounds 19 true).getD 20 false = L'.getD 20 false := by rw [up_set, if_neg (by omega)]
      have hb : RowKit.Below w.heap.size w (w.alloc (.cells #[.int .i64 0, .int .i64 0, .bool false, .int .i64 0, .int .i64 0, .string ⟨#[]⟩, .string ⟨#[]⟩, .int .i64 0, .int .i64 0] 41)) := below_alloc1 _ _
      have hSn := hSw.keep hb
      refine par_run ⟨some 19, _, _, _, _, _⟩ (.pointer (some ⟨w.heap.size, 0, none⟩)) (w.alloc (.cells #[.int .i64 0, .int .i64 0, .bool false, .int .i64 0, .int .i64 0, .string ⟨#[]⟩, .string ⟨#[]⟩, .int .i64 0, .int .i64 0] 41)) rfl (by rfl) (by go_simp) ?_
      exact ⟨hSn, (u99), (u100), (u103), (u104), (u105), (u107), (u109), (u110), (u111), (.pointer (some ⟨w.heap.size, 0, none⟩)), by simp only [Act.put, List.setIfInBounds_toArray, List.set_cons_zero, List.set_cons_succ], hSn, by rw [g6]; exact hP6, by rw [g7]; exact hP7, by rw [g10]; exact hP10, by rw [g11]; exact hP11, by rw [g12]; exact hP12, by rw [g14]; exact hP14, by rw [g16]; exact hP16, by rw [g17]; exact hP17, by rw [g18]; exact hP18, fun _ _ => Laid.new w _ _ _ hSw.sz, by rw [g20]; exact fun e => absurd (e.symm.trans gn20) (by decide)⟩
    · have g6 : (L'.setIfInBounds 20 true).getD 6 false = L'.getD 6 false := by rw [up_set, if_neg (by omega)]
      have g7 : (L'.setIfInBounds 20 true).getD 7 false = L'.getD 7 false := by rw [up_set, if_neg (by omega)]
      have g10 : (L'.setIfInBounds 20 true).getD 10 false = L'.getD 10 false := by rw [up_set, if_neg (by omega)]
      have g11 : (L'.setIfInBounds 20 true).getD 11 false = L'.getD 11 false := by rw [up_set, if_neg (by omega)]
      have g12 : (L'.setIfInBounds 20 true).getD 12 false = L'.getD 12 false := by rw [up_set, if_neg (by omega)]
      have g14 : (L'.setIfInBounds 20 true).getD 14 false = L'.getD 14 false := by rw [up_set, if_neg (by omega)]
      have g16 : (L'.setIfInBounds 20 true).getD 16 false = L'.getD 16 false := by rw [up_set, if_neg (by omega)]
      have g17 : (L'.setIfInBounds 20 true).getD 17 false = L'.getD 17 false := by rw [up_set, if_neg (by omega)]
      have g18 : (L'.setIfInBounds 20 true).getD 18 false = L'.getD 18 false := by rw [up_set, if_neg (by omega)]
      have g19 : (L'.setIfInBounds 20 true).getD 19 false = L'.getD 19 false := by rw [up_set, if_neg (by omega)]
      have g20 : (L'.setIfInBounds 20 true).getD 20 false = true := by rw [up_set, if_pos ⟨rfl, by omega⟩]
      have hD18 := hP18 gd18
      obtain ⟨r18, rfl, hr18⟩ := hD18
      have hD19 := hP19 gd19 gn20
      obtain ⟨b19, rfl, hB19, hb19⟩ := hD19
      have hg := setRow_grown hb19 #[.int .i64 r18.server, .int .i64 r18.seq, .bool r18.cancel, .int .i64 r18.student, .int .i64 r18.term, .string r18.code, .string r18.give, .int .i64 r18.priority, .int .i64 r18.day]
      have hSn : RC W0 d A n c v es cb W.heap.size (w.setRow b19 #[.int .i64 r18.server, .int .i64 r18.seq, .bool r18.cancel, .int .i64 r18.student, .int .i64 r18.term, .string r18.code, .string r18.give, .int .i64 r18.priority, .int .i64 r18.day]) := hSw.row hb19 hB19 _
      refine par_store_row ⟨none, _, _, _, _, _⟩ rfl (by rfl) 41 (.tmp 19) (.tmp 111) (by rfl) b19 #[.int .i64 r18.server, .int .i64 r18.seq, .bool r18.cancel, .int .i64 r18.student, .int .i64 r18.term, .string r18.code, .string r18.give, .int .i64 r18.priority, .int .i64 r18.day] (by rfl) (by rfl) _ _ hb19 (by kernel_rfl) rfl (by simp [Value.oneCell']) ?_
      exact ⟨hSn, (u99), (u100), (u103), (u104), (u105), (u107), (u109), (u110), (.agg #[.int .i64 r18.server, .int .i64 r18.seq, .bool r18.cancel, .int .i64 r18.student, .int .i64 r18.term, .string r18.code, .string r18.give, .int .i64 r18.priority, .int .i64 r18.day]), (.pointer (some ⟨b19, 0, none⟩)), by simp only [Act.put], hSn, by rw [g6]; exact hP6, by rw [g7]; exact hP7, by rw [g10]; exact hP10, by rw [g11]; exact hP11, by rw [g12]; exact hP12, by rw [g14]; exact hP14, by rw [g16]; exact hP16, by rw [g17]; exact hP17, by rw [g18]; exact hP18, by rw [g20]; exact fun _ e => absurd e (by decide), fun _ => ⟨b19, r18, rfl, hB19, setRow_heap w b19 _ _ _ _ hb19, hr18⟩⟩
  · intro L' a w hp hI
    obtain ⟨u99, u100, u103, u104, u105, u107, u109, u110, u111, u19, rfl, hSw, hP6, hP7, hP10, hP11, hP12, hP14, hP16, hP17, hP18, hP19, hP20⟩ := hI
    (try simp only [Bool.and_eq_true] at hp)
    have p20 := hp
    obtain ⟨b, r, rfl, hlb, hbx, hr⟩ := hP20 p20
    exact HQ.out _ _ _ _ _ _ _ _ _ b r w hSw hlb hbx hr
  · refine par_take ⟨some 93, _, _, _, _, _⟩ ?_ rfl (by rfl) ?_ ?_
    rotate_left 1
    · intro w hSw; (try dsimp only at hSw); go_simp; (try with_reducible rfl)
    simp only [Act.put, List.setIfInBounds_toArray, List.set_cons_zero, List.set_cons_succ]
    refine par_take ⟨some 94, _, _, _, _, _⟩ (.int .i64 ((k : Int).tmod 2)) rfl (by rfl) ?_ ?_
    · intro w hSw; go_simp; try exact i64_id (by omega) (by omega)
    simp only [Act.put, List.setIfInBounds_toArray, List.set_cons_zero, List.set_cons_succ]
    refine par_take ⟨some 95, _, _, _, _, _⟩ (.int .i64 (1 + (k : Int).tmod 2)) rfl (by rfl) ?_ ?_
    · intro w hSw; go_simp; exact i64_id (by omega) (by omega)
    simp only [Act.put, List.setIfInBounds_toArray, List.set_cons_zero, List.set_cons_succ]
    refine par_take ⟨some 96, _, _, _, _, _⟩ ?_ rfl (by rfl) ?_ ?_
    rotate_left 1
    · intro w hSw; (try dsimp only at hSw); go_simp; (try with_reducible rfl)
    simp only [Act.put, List.setIfInBounds_toArray, List.set_cons_zero, List.set_cons_succ]
    refine par_take ⟨some 97, _, _, _, _, _⟩ (.int .i64 (1 + (k : Int))) rfl (by rfl) ?_ ?_
    · intro w hSw; go_simp; exact i64_id (by omega) (by omega)
    simp only [Act.put, List.setIfInBounds_toArray, List.set_cons_zero, List.set_cons_succ]
    refine par_take ⟨some 98, _, _, _, _, _⟩ ?_ rfl (by rfl) ?_ ?_
    rotate_left 1
    · intro w hSw; (try dsimp only at hSw); go_simp; (try with_reducible rfl)
    simp only [Act.put, List.setIfInBounds_toArray, List.set_cons_zero, List.set_cons_succ]
    refine par_take ⟨some 101, _, _, _, _, _⟩ ?_ rfl (by rfl) ?_ ?_
    rotate_left 1
    · intro w hSw; (try dsimp only at hSw); go_simp; (try with_reducible rfl)
    simp only [Act.put, List.setIfInBounds_toArray, List.set_cons_zero, List.set_cons_succ]
    refine par_take ⟨some 102, _, _, _, _, _⟩ ?_ rfl (by rfl) ?_ ?_
    rotate_left 1
    · intro w hSw; (try dsimp only at hSw); go_simp; (try with_reducible rfl)
    simp only [Act.put, List.setIfInBounds_toArray, List.set_cons_zero, List.set_cons_succ]
    refine par_take ⟨some 106, _, _, _, _, _⟩ ?_ rfl (by rfl) ?_ ?_
    rotate_left 1
    · intro w hSw; (try dsimp only at hSw); go_simp; (try with_reducible rfl)
    simp only [Act.put, List.setIfInBounds_toArray, List.set_cons_zero, List.set_cons_succ]
    refine par_take ⟨some 108, _, _, _, _, _⟩ ?_ rfl (by rfl) ?_ ?_
    rotate_left 1
    · intro w hSw; (try dsimp only at hSw); go_simp; (try with_reducible rfl)
    simp only [Act.put, List.setIfInBounds_toArray, List.set_cons_zero, List.set_cons_succ]
    exact ⟨_, _, _, _, _, _, _, _, _, _, rfl, h0.drew, (fun e => absurd e (by decide +kernel)), (fun e => absurd e (by decide +kernel)), (fun e => absurd e (by decide +kernel)), (fun e => absurd e (by decide +kernel)), (fun e => absurd e (by decide +kernel)), (fun e => absurd e (by decide +kernel)), (fun e => absurd e (by decide +kernel)), (fun e => absurd e (by decide +kernel)), (fun e => absurd e (by decide +kernel)), (fun e => absurd e (by decide +kernel)), (fun e => absurd e (by decide +kernel))⟩
end Go.Proofs.YtjcogpalmgcpbaaGreat
