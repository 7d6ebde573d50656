/- quadriviumref07.Made, walked. -/
import Derived.Test.YteopjiedjnaeiaaGreatDgas
import Derived.Test.YteopjiedjnaeiaaGreatDgab
/- quadriviumref07.Made: a catalog that numbers make; its first statement of a round, in whatever order. -/
namespace Go.Proofs.YteopjiedjnaeiaaGreat
open Go Go.Proofs Go.RowKit Go.Maps Go.Sort Go.Lib

/-- Worlds behind W in which only the draw has moved. -/
def StD (W : World) (d : Nat) (A : Option Addr) (n c : Nat) (w : World) : Prop := W.grownBy w (some d) ∧ DrawS d A n c w
section
variable {W w w' : World} {d n c : Nat} {A : Option Addr} {u : Value} {l : List Int} {cc : ByteArray}
theorem StD.step (h : StD W d A n c w) (hs : w.grownBy w' (some d)) (hd : DrawS d A n c w') : StD W d A n c w' := ⟨grows_trans h.1 hs, hd⟩
theorem DrawS.lt (h : DrawS d A n c w) : d < w.heap.size := by
  obtain ⟨_, _, h⟩ := h
  exact (Array.getElem?_eq_some_iff.1 h).1
theorem DrawS.below (h : DrawS d A n c w) (hb : RowKit.Below w.heap.size w w') : DrawS d A n c w' := by
  obtain ⟨k, hk, hh⟩ := h
  exact ⟨k, hk, (hb.block d (Array.getElem?_eq_some_iff.1 hh).1).trans hh⟩
theorem StD.below (h : StD W d A n c w) (hb : RowKit.Below w.heap.size w w') : StD W d A n c w' := ⟨grows_trans h.1 (below_grows hb), h.2.below hb⟩
theorem StD.set (h : StD W d A n c w) (hd : d < W.heap.size) {b : Nat} (hb : W.heap.size ≤ b) (j : Nat) (u : Value) : StD W d A n c (w.setCell ⟨b, j, none⟩ u) := by
  refine ⟨grow_keep h.1 (Only.setCell w b j u 0) (fun q hq => by injection hq with hq; omega), ?_⟩
  obtain ⟨k, hk, hh⟩ := h.2
  exact ⟨k, hk, by unfold DrawAt at hh ⊢; rw [Below.heap_setCell _ _ _ _ (by show d ≠ b; omega)]; exact hh⟩
def Six (W w : World) (u : Value) (l : List Int) : Prop := ∃ b, u = .slice (some ⟨b, 0, none⟩) 6 6 ∧ W.heap.size ≤ b ∧ w.heap[b]? = some (.cells (l.map (Value.int .i64)).toArray 3 (0, 0))
def SixAt (W w : World) (u : Value) (l : List Int) : Prop := ∃ b g : Nat, u = .pointer (some ⟨b, g, none⟩) ∧ g < 6 ∧ W.heap.size ≤ b ∧ w.heap[b]? = some (.cells (l.map (Value.int .i64)).toArray 3 (0, 0))
theorem Six.step (h : Six W w u l) (hs : w.grownBy w' (some d)) (hd : d < W.heap.size) : Six W w' u l := by
  obtain ⟨b, h1, h2, h3⟩ := h
  exact ⟨b, h1, h2, (hs.block b (Array.getElem?_eq_some_iff.1 h3).1 (by simp; omega)).trans h3⟩
theorem SixAt.step (h : SixAt W w u l) (hs : w.grownBy w' (some d)) (hd : d < W.heap.size) : SixAt W w' u l := by
  obtain ⟨b, g, h1, h0, h2, h3⟩ := h
  exact ⟨b, g, h1, h0, h2, (hs.block b (Array.getElem?_eq_some_iff.1 h3).1 (by simp; omega)).trans h3⟩
def Below6 (u : Value) : Prop := ∃ g : Nat, u = .int .i64 g ∧ g < 6
def Small20 (u : Value) : Prop := ∃ x : Int, u = .int .i64 x ∧ 0 ≤ x ∧ x ≤ 20
def Small200 (u : Value) : Prop := ∃ x : Int, u = .int .i64 x ∧ 0 ≤ x ∧ x ≤ 200
def BuiltO (cc : ByteArray) (u : Value) : Prop := ∃ x y : Int, u = .agg #[.string cc, .int .i64 x, .int .i64 y, .slice none 0 0, .slice none 0 0] ∧ 0 ≤ x ∧ x ≤ 20 ∧ 0 ≤ y ∧ y ≤ 200
def BoxO (W : World) (cc : ByteArray) (st : Bool) (u : Value) (w : World) : Prop := ∃ b, u = .pointer (some ⟨b, 0, none⟩) ∧ W.heap.size ≤ b ∧ (st = false → w.heap[b]? = some (.cells #[.string ⟨#[]⟩, .int .i64 0, .int .i64 0, .slice none 0 0, .slice none 0 0] 57 (0, 0))) ∧
  (st = true → ∃ x y : Int, w.heap[b]? = some (.cells #[.string cc, .int .i64 x, .int .i64 y, .slice none 0 0, .slice none 0 0] 57 (0, 0)) ∧ 0 ≤ x ∧ x ≤ 20 ∧ 0 ≤ y ∧ y ≤ 200)
theorem BoxO.step {st : Bool} (h : BoxO W cc st u w) (hs : w.grownBy w' (some d)) (hd : d < W.heap.size) : BoxO W cc st u w' := by
  obtain ⟨b, h1, h2, h3, h4⟩ := h
  refine ⟨b, h1, h2, fun e => ?_, fun e => ?_⟩
  · have h := h3 e
    exact (hs.block b (Array.getElem?_eq_some_iff.1 h).1 (by simp; omega)).trans h
  · obtain ⟨x, y, h, hr⟩ := h4 e
    exact ⟨x, y, (hs.block b (Array.getElem?_eq_some_iff.1 h).1 (by simp; omega)).trans h, hr⟩
theorem six_cr {g : Nat} (hg : g < 6) : ∃ x : Int, ([5, 6, 3, 10, 5, 20] : List Int)[g]? = some x ∧ 0 ≤ x ∧ x ≤ 20 := by
  have h : g = 0 ∨ g = 1 ∨ g = 2 ∨ g = 3 ∨ g = 4 ∨ g = 5 := by omega
  rcases h with rfl | rfl | rfl | rfl | rfl | rfl <;> exact ⟨_, rfl, by omega, by omega⟩
theorem six_pl {g : Nat} (hg : g < 6) : ∃ x : Int, ([2, 1, 0, 30, 200, 3] : List Int)[g]? = some x ∧ 0 ≤ x ∧ x ≤ 200 := by
  have h : g = 0 ∨ g = 1 ∨ g = 2 ∨ g = 3 ∨ g = 4 ∨ g = 5 := by omega
  rcases h with rfl | rfl | rfl | rfl | rfl | rfl <;> exact ⟨_, rfl, by omega, by omega⟩
theorem six_cell {b g : Nat} {x : Int} (h : w.heap[b]? = some (.cells (l.map (Value.int .i64)).toArray 3 (0, 0))) (hx : l[g]? = some x) : w.cell? ⟨b, g, none⟩ = some (.int .i64 x) := by
  rw [Lib.cell_of_heap h]; simp [hx]
end
set_option maxHeartbeats 16000000 in
set_option maxRecDepth 100000 in
theorem made07_r8 {s0 s1 s2 s4 s7 s8 s9 s10 s11 s12 s13 s14 s15 s16 s17 s18 s19 s20 s21 s22 s23 s24 s25 s26 s27 s28 s29 s30 s31 s32 s33 s34 s35 s36 s37 s38 s39 s40 s41 s42 s43 s44 s45 s46 s47 s48 s49 s50 s51 s52 s53 s54 s55 s56 s57 s58 s59 s60 s61 s62 s63 s64 s65 s66 s67 s68 s69 s70 s71 s72 s73 s74 s75 s76 s77 s78 s79 s80 s81 s82 s83 s84 s85 s86 s87 s88 s89 s90 s91 s92 s93 s94 s95 s96 s97 s98 s99 s100 : Value} (d cb k n c : Nat) (A : Option Addr) (cc : ByteArray) (W : World) (Q : Exit → Act → World → Prop) (hdr : DrawS d A n c W) (hin : IntsIn d A n W) (_hcbl : cb < W.heap.size) (hcd : cb ≠ d) (hk : k < 6) (hcb : W.cell? ⟨cb, k, none⟩ = some (.string cc))
    (hQ : ∀ (u27 u29 u30 u31 u32 u34 u35 u36 u37 u7 : Value) (wx : World), StD W d A n c wx → BoxO W cc true u7 wx → Q .normal ⟨List.toArray (s0 :: s1 :: s2 :: .pointer (some ⟨d, 0, none⟩) :: s4 :: .slice (some ⟨cb, 0, none⟩) 6 6 :: .int .i64 (k : Int) :: u7 :: s8 :: s9 :: s10 :: s11 :: s12 :: s13 :: s14 :: s15 :: s16 :: s17 :: s18 :: s19 :: s20 :: s21 :: s22 :: .slice (some ⟨cb, 0, none⟩) 6 6 :: .int .i64 (k : Int) :: .pointer (some ⟨cb, k, none⟩) :: .string cc :: u27 :: .pointer (some ⟨d, 0, none⟩) :: u29 :: u30 :: u31 :: u32 :: .pointer (some ⟨d, 0, none⟩) :: u34 :: u35 :: u36 :: u37 :: s38 :: s39 :: s40 :: s41 :: s42 :: s43 :: s44 :: s45 :: s46 :: s47 :: s48 :: s49 :: s50 :: s51 :: s52 :: s53 :: s54 :: s55 :: s56 :: s57 :: s58 :: s59 :: s60 :: s61 :: s62 :: s63 :: s64 :: s65 :: s66 :: s67 :: s68 :: s69 :: s70 :: s71 :: s72 :: s73 :: s74 :: s75 :: s76 :: s77 :: s78 :: s79 :: s80 :: s81 :: s82 :: s83 :: s84 :: s85 :: s86 :: s87 :: s88 :: s89 :: s90 :: s91 :: s92 :: s93 :: s94 :: s95 :: s96 :: s97 :: s98 :: s99 :: s100 :: []), []⟩ wx) :
    (regionOf Tryz.f14 8).wp Tryz.prog Q ⟨List.toArray (s0 :: s1 :: s2 :: .pointer (some ⟨d, 0, none⟩) :: s4 :: .slice (some ⟨cb, 0, none⟩) 6 6 :: .int .i64 (k : Int) :: s7 :: s8 :: s9 :: s10 :: s11 :: s12 :: s13 :: s14 :: s15 :: s16 :: s17 :: s18 :: s19 :: s20 :: s21 :: s22 :: s23 :: s24 :: s25 :: s26 :: s27 :: s28 :: s29 :: s30 :: s31 :: s32 :: s33 :: s34 :: s35 :: s36 :: s37 :: s38 :: s39 :: s40 :: s41 :: s42 :: s43 :: s44 :: s45 :: s46 :: s47 :: s48 :: s49 :: s50 :: s51 :: s52 :: s53 :: s54 :: s55 :: s56 :: s57 :: s58 :: s59 :: s60 :: s61 :: s62 :: s63 :: s64 :: s65 :: s66 :: s67 :: s68 :: s69 :: s70 :: s71 :: s72 :: s73 :: s74 :: s75 :: s76 :: s77 :: s78 :: s79 :: s80 :: s81 :: s82 :: s83 :: s84 :: s85 :: s86 :: s87 :: s88 :: s89 :: s90 :: s91 :: s92 :: s93 :: s94 :: s95 :: s96 :: s97 :: s98 :: s99 :: s100 :: []), []⟩ W := by
  refine of_onlyN (K := Q .normal) ?_ (fun _ _ h => h)
  generalize Q .normal = K at hQ ⊢
  have HQ := Lib.hid hQ; clear hQ
  have hd : d < W.heap.size := hdr.lt
  have hkl : (k : Int) < 6 := by omega
  have hSt0 : StD W d A n c W.drew := ⟨below_grows (Below.refl _ _).drew, hdr.below (Below.refl _ _).drew⟩
  have KP : ∀ w, StD W d A n c w → StD W d A n c w ∧ w.cell? ⟨cb, k, none⟩ = some (.string cc) := fun w h => ⟨h, h.1.cell hcb (by simpa using hcd)⟩
  have IN : ∀ w, StD W d A n c w → IntsIn d A n w := fun w h => hin.only (Nat.le_refl _) (Nat.le_of_lt hd) h.1
  conv => arg 2; whnf
  have hS0 := KP _ hSt0
  refine wp_region_par (S := fun w' => StD W d A n c w' ∧ w'.cell? ⟨cb, k, none⟩ = some (.string cc)) (I := fun L a w => ∃ u27 u29 u30 u31 u32 u34 u35 u36 u37 u7 : Value, a = ⟨List.toArray (s0 :: s1 :: s2 :: .pointer (some ⟨d, 0, none⟩) :: s4 :: .slice (some ⟨cb, 0, none⟩) 6 6 :: .int .i64 (k : Int) :: u7 :: s8 :: s9 :: s10 :: s11 :: s12 :: s13 :: s14 :: s15 :: s16 :: s17 :: s18 :: s19 :: s20 :: s21 :: s22 :: .slice (some ⟨cb, 0, none⟩) 6 6 :: .int .i64 (k : Int) :: .pointer (some ⟨cb, k, none⟩) :: .string cc :: u27 :: .pointer (some ⟨d, 0, none⟩) :: u29 :: u30 :: u31 :: u32 :: .pointer (some ⟨d, 0, none⟩) :: u34 :: u35 :: u36 :: u37 :: s38 :: s39 :: s40 :: s41 :: s42 :: s43 :: s44 :: s45 :: s46 :: s47 :: s48 :: s49 :: s50 :: s51 :: s52 :: s53 :: s54 :: s55 :: s56 :: s57 :: s58 :: s59 :: s60 :: s61 :: s62 :: s63 :: s64 :: s65 :: s66 :: s67 :: s68 :: s69 :: s70 :: s71 :: s72 :: s73 :: s74 :: s75 :: s76 :: s77 :: s78 :: s79 :: s80 :: s81 :: s82 :: s83 :: s84 :: s85 :: s86 :: s87 :: s88 :: s89 :: s90 :: s91 :: s92 :: s93 :: s94 :: s95 :: s96 :: s97 :: s98 :: s99 :: s100 :: []), []⟩ ∧ StD W d A n c w ∧ (L.getD 4 false = true → L.getD 16 false = false → Six W w u27 [5, 6, 3, 10, 5, 20]) ∧ (L.getD 6 false = true → L.getD 16 false = false → Below6 u29) ∧ (L.getD 7 false = true → L.getD 16 false = false → SixAt W w u30 [5, 6, 3, 10, 5, 20]) ∧ (L.getD 8 false = true → L.getD 16 false = false → Small20 u31) ∧ (L.getD 9 false = true → L.getD 16 false = false → Six W w u32 [2, 1, 0, 30, 200, 3]) ∧ (L.getD 11 false = true → L.getD 16 false = false → Below6 u34) ∧ (L.getD 12 false = true → L.getD 16 false = false → SixAt W w u35 [2, 1, 0, 30, 200, 3]) ∧ (L.getD 13 false = true → L.getD 16 false = false → Small200 u36) ∧ (L.getD 14 false = true → L.getD 16 false = false → BuiltO cc u37) ∧ (L.getD 15 false = true → BoxO W cc (L.getD 16 false) u7 w)) (pre := fun i L => L.size == 17 && !L.getD 16 false && ((i == 4) || (i == 6) || (i == 7 && L.getD 4 false && L.getD 6 false) || (i == 8 && L.getD 7 false) || (i == 9) || (i == 11) || (i == 12 && L.getD 9 false && L.getD 11 false) || (i == 13 && L.getD 12 false) || (i == 14 && L.getD 8 false && L.getD 13 false) || (i == 15) || (i == 16 && L.getD 14 false && L.getD 15 false))) (fin := fun L => L.getD 15 false && L.getD 16 false) [0, 1, 2, 3, 5, 10] 11 (by kernel_rfl) (by kernel_rfl) (by kernel_rfl) (by kernel_rfl) (by decide) hS0 ?_ ?_ ?_
  · intro i L a w hp hI
    obtain ⟨u27, u29, u30, u31, u32, u34, u35, u36, u37, u7, rfl, hst, hP4, hP6, hP7, hP8, hP9, hP11, hP12, hP13, hP14, hP15⟩ := hI
    simp only [Bool.and_eq_true, Bool.or_eq_true, beq_iff_eq, Bool.not_eq_true'] at hp
    obtain ⟨⟨hsz, h16⟩, hp⟩ := hp
    rcases hp with ((((((((((rfl | rfl) | ⟨⟨rfl, gd4⟩, gd6⟩) | ⟨rfl, gd7⟩) | rfl) | rfl) | ⟨⟨rfl, gd9⟩, gd11⟩) | ⟨rfl, gd12⟩) | ⟨⟨rfl, gd8⟩, gd13⟩) | rfl) | ⟨⟨rfl, gd14⟩, gd15⟩)
    · have g4 : (L.setIfInBounds 4 true).getD 4 false = true := by rw [up_set, if_pos ⟨rfl, by omega⟩]
      have g6 : (L.setIfInBounds 4 true).getD 6 false = L.getD 6 false := by rw [up_set, if_neg (by omega)]
      have g7 : (L.setIfInBounds 4 true).getD 7 false = L.getD 7 false := by rw [up_set, if_neg (by omega)]
      have g8 : (L.setIfInBounds 4 true).getD 8 false = L.getD 8 false := by rw [up_set, if_neg (by omega)]
      have g9 : (L.setIfInBounds 4 true).getD 9 false = L.getD 9 false := by rw [up_set, if_neg (by omega)]
      have g11 : (L.setIfInBounds 4 true).getD 11 false = L.getD 11 false := by rw [up_set, if_neg (by omega)]
      have g12 : (L.setIfInBounds 4 true).getD 12 false = L.getD 12 false := by rw [up_set, if_neg (by omega)]
      have g13 : (L.setIfInBounds 4 true).getD 13 false = L.getD 13 false := by rw [up_set, if_neg (by omega)]
      have g14 : (L.setIfInBounds 4 true).getD 14 false = L.getD 14 false := by rw [up_set, if_neg (by omega)]
      have g15 : (L.setIfInBounds 4 true).getD 15 false = L.getD 15 false := by rw [up_set, if_neg (by omega)]
      have g16 : (L.setIfInBounds 4 true).getD 16 false = L.getD 16 false := by rw [up_set, if_neg (by omega)]
      have hs : w.grownBy (w.alloc (.cells #[.int .i64 5, .int .i64 6, .int .i64 3, .int .i64 10, .int .i64 5, .int .i64 20] 3)) (some d) := below_grows (below_alloc1 _ _)
      have hst2 := hst.step hs (hst.2.below (below_alloc1 _ _))
      refine par_run ⟨some 27, _, _, _, _, _⟩ (.slice (some ⟨w.heap.size, 0, none⟩) 6 6) (w.alloc (.cells #[.int .i64 5, .int .i64 6, .int .i64 3, .int .i64 10, .int .i64 5, .int .i64 20] 3)) rfl (by rfl) (by go_simp) ?_
      exact ⟨KP _ hst2, (.slice (some ⟨w.heap.size, 0, none⟩) 6 6), (u29), (u30), (u31), (u32), (u34), (u35), (u36), (u37), (u7), by simp only [Act.put, List.setIfInBounds_toArray, List.set_cons_zero, List.set_cons_succ], hst2, fun _ _ => ⟨w.heap.size, rfl, hst.1.size, heap_alloc_new w _⟩, by rw [g6, g16]; exact hP6, by rw [g7, g16]; exact fun e e' => SixAt.step (hP7 e e') hs hd, by rw [g8, g16]; exact hP8, by rw [g9, g16]; exact fun e e' => Six.step (hP9 e e') hs hd, by rw [g11, g16]; exact hP11, by rw [g12, g16]; exact fun e e' => SixAt.step (hP12 e e') hs hd, by rw [g13, g16]; exact hP13, by rw [g14, g16]; exact hP14, by rw [g15, g16]; exact fun e => (hP15 e).step hs hd⟩
    · have g4 : (L.setIfInBounds 6 true).getD 4 false = L.getD 4 false := by rw [up_set, if_neg (by omega)]
      have g6 : (L.setIfInBounds 6 true).getD 6 false = true := by rw [up_set, if_pos ⟨rfl, by omega⟩]
      have g7 : (L.setIfInBounds 6 true).getD 7 false = L.getD 7 false := by rw [up_set, if_neg (by omega)]
      have g8 : (L.setIfInBounds 6 true).getD 8 false = L.getD 8 false := by rw [up_set, if_neg (by omega)]
      have g9 : (L.setIfInBounds 6 true).getD 9 false = L.getD 9 false := by rw [up_set, if_neg (by omega)]
      have g11 : (L.setIfInBounds 6 true).getD 11 false = L.getD 11 false := by rw [up_set, if_neg (by omega)]
      have g12 : (L.setIfInBounds 6 true).getD 12 false = L.getD 12 false := by rw [up_set, if_neg (by omega)]
      have g13 : (L.setIfInBounds 6 true).getD 13 false = L.getD 13 false := by rw [up_set, if_neg (by omega)]
      have g14 : (L.setIfInBounds 6 true).getD 14 false = L.getD 14 false := by rw [up_set, if_neg (by omega)]
      have g15 : (L.setIfInBounds 6 true).getD 15 false = L.getD 15 false := by rw [up_set, if_neg (by omega)]
      have g16 : (L.setIfInBounds 6 true).getD 16 false = L.getD 16 false := by rw [up_set, if_neg (by omega)]
      refine par_call ⟨some 29, _, _, _, _, _⟩ rfl (by rfl) 34 _ _ (by rfl) _ (by rfl) Tryz.call34 (next_st d A n c 6 w (by omega) (by omega) hst.2 (IN w hst)) ?_
      rintro x wn ⟨g, rfl, hg, hdw, hs⟩
      have hst2 := hst.step hs hdw
      exact ⟨_, rfl, KP _ hst2, (u27), (.int .i64 g), (u30), (u31), (u32), (u34), (u35), (u36), (u37), (u7), by simp only [Act.put, List.setIfInBounds_toArray, List.set_cons_zero, List.set_cons_succ], hst2, by rw [g4, g16]; exact fun e e' => Six.step (hP4 e e') hs hd, fun _ _ => ⟨g, rfl, hg⟩, by rw [g7, g16]; exact fun e e' => SixAt.step (hP7 e e') hs hd, by rw [g8, g16]; exact hP8, by rw [g9, g16]; exact fun e e' => Six.step (hP9 e e') hs hd, by rw [g11, g16]; exact hP11, by rw [g12, g16]; exact fun e e' => SixAt.step (hP12 e e') hs hd, by rw [g13, g16]; exact hP13, by rw [g14, g16]; exact hP14, by rw [g15, g16]; exact fun e => (hP15 e).step hs hd⟩
    · have g4 : (L.setIfInBounds 7 true).getD 4 false = L.getD 4 false := by rw [up_set, if_neg (by omega)]
      have g6 : (L.setIfInBounds 7 true).getD 6 false = L.getD 6 false := by rw [up_set, if_neg (by omega)]
      have g7 : (L.setIfInBounds 7 true).getD 7 false = true := by rw [up_set, if_pos ⟨rfl, by omega⟩]
      have g8 : (L.setIfInBounds 7 true).getD 8 false = L.getD 8 false := by rw [up_set, if_neg (by omega)]
      have g9 : (L.setIfInBounds 7 true).getD 9 false = L.getD 9 false := by rw [up_set, if_neg (by omega)]
      have g11 : (L.setIfInBounds 7 true).getD 11 false = L.getD 11 false := by rw [up_set, if_neg (by omega)]
      have g12 : (L.setIfInBounds 7 true).getD 12 false = L.getD 12 false := by rw [up_set, if_neg (by omega)]
      have g13 : (L.setIfInBounds 7 true).getD 13 false = L.getD 13 false := by rw [up_set, if_neg (by omega)]
      have g14 : (L.setIfInBounds 7 true).getD 14 false = L.getD 14 false := by rw [up_set, if_neg (by omega)]
      have g15 : (L.setIfInBounds 7 true).getD 15 false = L.getD 15 false := by rw [up_set, if_neg (by omega)]
      have g16 : (L.setIfInBounds 7 true).getD 16 false = L.getD 16 false := by rw [up_set, if_neg (by omega)]
      obtain ⟨b, rfl, hb1, hb2⟩ := hP4 gd4 h16
      obtain ⟨g, rfl, hg⟩ := hP6 gd6 h16
      have hs : w.grownBy w (some d) := below_grows (Below.refl _ _)
      have hst2 := hst
      have hgi : (g : Int) < 6 := by omega
      refine par_run ⟨some 30, _, _, _, _, _⟩ (.pointer (some ⟨b, g, none⟩)) w rfl (by rfl) (by go_simp) ?_
      exact ⟨KP _ hst2, (.slice (some ⟨b, 0, none⟩) 6 6), (.int .i64 g), (.pointer (some ⟨b, g, none⟩)), (u31), (u32), (u34), (u35), (u36), (u37), (u7), by simp only [Act.put, List.setIfInBounds_toArray, List.set_cons_zero, List.set_cons_succ], hst2, by rw [g4, g16]; exact fun e e' => Six.step (hP4 e e') hs hd, by rw [g6, g16]; exact hP6, fun _ _ => ⟨b, g, rfl, hg, hb1, hb2⟩, by rw [g8, g16]; exact hP8, by rw [g9, g16]; exact fun e e' => Six.step (hP9 e e') hs hd, by rw [g11, g16]; exact hP11, by rw [g12, g16]; exact fun e e' => SixAt.step (hP12 e e') hs hd, by rw [g13, g16]; exact hP13, by rw [g14, g16]; exact hP14, by rw [g15, g16]; exact fun e => (hP15 e).step hs hd⟩
    · have g4 : (L.setIfInBounds 8 true).getD 4 false = L.getD 4 false := by rw [up_set, if_neg (by omega)]
      have g6 : (L.setIfInBounds 8 true).getD 6 false = L.getD 6 false := by rw [up_set, if_neg (by omega)]
      have g7 : (L.setIfInBounds 8 true).getD 7 false = L.getD 7 false := by rw [up_set, if_neg (by omega)]
      have g8 : (L.setIfInBounds 8 true).getD 8 false = true := by rw [up_set, if_pos ⟨rfl, by omega⟩]
      have g9 : (L.setIfInBounds 8 true).getD 9 false = L.getD 9 false := by rw [up_set, if_neg (by omega)]
      have g11 : (L.setIfInBounds 8 true).getD 11 false = L.getD 11 false := by rw [up_set, if_neg (by omega)]
      have g12 : (L.setIfInBounds 8 true).getD 12 false = L.getD 12 false := by rw [up_set, if_neg (by omega)]
      have g13 : (L.setIfInBounds 8 true).getD 13 false = L.getD 13 false := by rw [up_set, if_neg (by omega)]
      have g14 : (L.setIfInBounds 8 true).getD 14 false = L.getD 14 false := by rw [up_set, if_neg (by omega)]
      have g15 : (L.setIfInBounds 8 true).getD 15 false = L.getD 15 false := by rw [up_set, if_neg (by omega)]
      have g16 : (L.setIfInBounds 8 true).getD 16 false = L.getD 16 false := by rw [up_set, if_neg (by omega)]
      obtain ⟨b, g, rfl, hg, hb1, hb2⟩ := hP7 gd7 h16
      obtain ⟨x, hx, hx0, hx1⟩ := six_cr hg
      have hs : w.grownBy w (some d) := below_grows (Below.refl _ _)
      have hst2 := hst
      have hcell := six_cell hb2 hx
      refine par_run ⟨some 31, _, _, _, _, _⟩ (.int .i64 x) w rfl (by rfl) (by go_simp) ?_
      exact ⟨KP _ hst2, (u27), (u29), (.pointer (some ⟨b, g, none⟩)), (.int .i64 x), (u32), (u34), (u35), (u36), (u37), (u7), by simp only [Act.put, List.setIfInBounds_toArray, List.set_cons_zero, List.set_cons_succ], hst2, by rw [g4, g16]; exact fun e e' => Six.step (hP4 e e') hs hd, by rw [g6, g16]; exact hP6, by rw [g7, g16]; exact fun e e' => SixAt.step (hP7 e e') hs hd, fun _ _ => ⟨x, rfl, hx0, hx1⟩, by rw [g9, g16]; exact fun e e' => Six.step (hP9 e e') hs hd, by rw [g11, g16]; exact hP11, by rw [g12, g16]; exact fun e e' => SixAt.step (hP12 e e') hs hd, by rw [g13, g16]; exact hP13, by rw [g14, g16]; exact hP14, by rw [g15, g16]; exact fun e => (hP15 e).step hs hd⟩
    · have g4 : (L.setIfInBounds 9 true).getD 4 false = L.getD 4 false := by rw [up_set, if_neg (by omega)]
      have g6 : (L.setIfInBounds 9 true).getD 6 false = L.getD 6 false := by rw [up_set, if_neg (by omega)]
      have g7 : (L.setIfInBounds 9 true).getD 7 false = L.getD 7 false := by rw [up_set, if_neg (by omega)]
      have g8 : (L.setIfInBounds 9 true).getD 8 false = L.getD 8 false := by rw [up_set, if_neg (by omega)]
      have g9 : (L.setIfInBounds 9 true).getD 9 false = true := by rw [up_set, if_pos ⟨rfl, by omega⟩]
      have g11 : (L.setIfInBounds 9 true).getD 11 false = L.getD 11 false := by rw [up_set, if_neg (by omega)]
      have g12 : (L.setIfInBounds 9 true).getD 12 false = L.getD 12 false := by rw [up_set, if_neg (by omega)]
      have g13 : (L.setIfInBounds 9 true).getD 13 false = L.getD 13 false := by rw [up_set, if_neg (by omega)]
      have g14 : (L.setIfInBounds 9 true).getD 14 false = L.getD 14 false := by rw [up_set, if_neg (by omega)]
      have g15 : (L.setIfInBounds 9 true).getD 15 false = L.getD 15 false := by rw [up_set, if_neg (by omega)]
      have g16 : (L.setIfInBounds 9 true).getD 16 false = L.getD 16 false := by rw [up_set, if_neg (by omega)]
      have hs : w.grownBy (w.alloc (.cells #[.int .i64 2, .int .i64 1, .int .i64 0, .int .i64 30, .int .i64 200, .int .i64 3] 3)) (some d) := below_grows (below_alloc1 _ _)
      have hst2 := hst.step hs (hst.2.below (below_alloc1 _ _))
      refine par_run ⟨some 32, _, _, _, _, _⟩ (.slice (some ⟨w.heap.size, 0, none⟩) 6 6) (w.alloc (.cells #[.int .i64 2, .int .i64 1, .int .i64 0, .int .i64 30, .int .i64 200, .int .i64 3] 3)) rfl (by rfl) (by go_simp) ?_
      exact ⟨KP _ hst2, (u27), (u29), (u30), (u31), (.slice (some ⟨w.heap.size, 0, none⟩) 6 6), (u34), (u35), (u36), (u37), (u7), by simp only [Act.put, List.setIfInBounds_toArray, List.set_cons_zero, List.set_cons_succ], hst2, by rw [g4, g16]; exact fun e e' => Six.step (hP4 e e') hs hd, by rw [g6, g16]; exact hP6, by rw [g7, g16]; exact fun e e' => SixAt.step (hP7 e e') hs hd, by rw [g8, g16]; exact hP8, fun _ _ => ⟨w.heap.size, rfl, hst.1.size, heap_alloc_new w _⟩, by rw [g11, g16]; exact hP11, by rw [g12, g16]; exact fun e e' => SixAt.step (hP12 e e') hs hd, by rw [g13, g16]; exact hP13, by rw [g14, g16]; exact hP14, by rw [g15, g16]; exact fun e => (hP15 e).step hs hd⟩
    · have g4 : (L.setIfInBounds 11 true).getD 4 false = L.getD 4 false := by rw [up_set, if_neg (by omega)]
      have g6 : (L.setIfInBounds 11 true).getD 6 false = L.getD 6 false := by rw [up_set, if_neg (by omega)]
      have g7 : (L.setIfInBounds 11 true).getD 7 false = L.getD 7 false := by rw [up_set, if_neg (by omega)]
      have g8 : (L.setIfInBounds 11 true).getD 8 false = L.getD 8 false := by rw [up_set, if_neg (by omega)]
      have g9 : (L.setIfInBounds 11 true).getD 9 false = L.getD 9 false := by rw [up_set, if_neg (by omega)]
      have g11 : (L.setIfInBounds 11 true).getD 11 false = true := by rw [up_set, if_pos ⟨rfl, by omega⟩]
      have g12 : (L.setIfInBounds 11 true).getD 12 false = L.getD 12 false := by rw [up_set, if_neg (by omega)]
      have g13 : (L.setIfInBounds 11 true).getD 13 false = L.getD 13 false := by rw [up_set, if_neg (by omega)]
      have g14 : (L.setIfInBounds 11 true).getD 14 false = L.getD 14 false := by rw [up_set, if_neg (by omega)]
      have g15 : (L.setIfInBounds 11 true).getD 15 false = L.getD 15 false := by rw [up_set, if_neg (by omega)]
      have g16 : (L.setIfInBounds 11 true).getD 16 false = L.getD 16 false := by rw [up_set, if_neg (by omega)]
      refine par_call ⟨some 34, _, _, _, _, _⟩ rfl (by rfl) 34 _ _ (by rfl) _ (by rfl) Tryz.call34 (next_st d A n c 6 w (by omega) (by omega) hst.2 (IN w hst)) ?_
      rintro x wn ⟨g, rfl, hg, hdw, hs⟩
      have hst2 := hst.step hs hdw
      exact ⟨_, rfl, KP _ hst2, (u27), (u29), (u30), (u31), (u32), (.int .i64 g), (u35), (u36), (u37), (u7), by simp only [Act.put, List.setIfInBounds_toArray, List.set_cons_zero, List.set_cons_succ], hst2, by rw [g4, g16]; exact fun e e' => Six.step (hP4 e e') hs hd, by rw [g6, g16]; exact hP6, by rw [g7, g16]; exact fun e e' => SixAt.step (hP7 e e') hs hd, by rw [g8, g16]; exact hP8, by rw [g9, g16]; exact fun e e' => Six.step (hP9 e e') hs hd, fun _ _ => ⟨g, rfl, hg⟩, by rw [g12, g16]; exact fun e e' => SixAt.step (hP12 e e') hs hd, by rw [g13, g16]; exact hP13, by rw [g14, g16]; exact hP14, by rw [g15, g16]; exact fun e => (hP15 e).step hs hd⟩
    · have g4 : (L.setIfInBounds 12 true).getD 4 false = L.getD 4 false := by rw [up_set, if_neg (by omega)]
      have g6 : (L.setIfInBounds 12 true).getD 6 false = L.getD 6 false := by rw [up_set, if_neg (by omega)]
      have g7 : (L.setIfInBounds 12 true).getD 7 false = L.getD 7 false := by rw [up_set, if_neg (by omega)]
      have g8 : (L.setIfInBounds 12 true).getD 8 false = L.getD 8 false := by rw [up_set, if_neg (by omega)]
      have g9 : (L.setIfInBounds 12 true).getD 9 false = L.getD 9 false := by rw [up_set, if_neg (by omega)]
      have g11 : (L.setIfInBounds 12 true).getD 11 false = L.getD 11 false := by rw [up_set, if_neg (by omega)]
      have g12 : (L.setIfInBounds 12 true).getD 12 false = true := by rw [up_set, if_pos ⟨rfl, by omega⟩]
      have g13 : (L.setIfInBounds 12 true).getD 13 false = L.getD 13 false := by rw [up_set, if_neg (by omega)]
      have g14 : (L.setIfInBounds 12 true).getD 14 false = L.getD 14 false := by rw [up_set, if_neg (by omega)]
      have g15 : (L.setIfInBounds 12 true).getD 15 false = L.getD 15 false := by rw [up_set, if_neg (by omega)]
      have g16 : (L.setIfInBounds 12 true).getD 16 false = L.getD 16 false := by rw [up_set, if_neg (by omega)]
      obtain ⟨b, rfl, hb1, hb2⟩ := hP9 gd9 h16
      obtain ⟨g, rfl, hg⟩ := hP11 gd11 h16
      have hs : w.grownBy w (some d) := below_grows (Below.refl _ _)
      have hst2 := hst
      have hgi : (g : Int) < 6 := by omega
      refine par_run ⟨some 35, _, _, _, _, _⟩ (.pointer (some ⟨b, g, none⟩)) w rfl (by rfl) (by go_simp) ?_
      exact ⟨KP _ hst2, (u27), (u29), (u30), (u31), (.slice (some ⟨b, 0, none⟩) 6 6), (.int .i64 g), (.pointer (some ⟨b, g, none⟩)), (u36), (u37), (u7), by simp only [Act.put, List.setIfInBounds_toArray, List.set_cons_zero, List.set_cons_succ], hst2, by rw [g4, g16]; exact fun e e' => Six.step (hP4 e e') hs hd, by rw [g6, g16]; exact hP6, by rw [g7, g16]; exact fun e e' => SixAt.step (hP7 e e') hs hd, by rw [g8, g16]; exact hP8, by rw [g9, g16]; exact fun e e' => Six.step (hP9 e e') hs hd, by rw [g11, g16]; exact hP11, fun _ _ => ⟨b, g, rfl, hg, hb1, hb2⟩, by rw [g13, g16]; exact hP13, by rw [g14, g16]; exact hP14, by rw [g15, g16]; exact fun e => (hP15 e).step hs hd⟩
    · have g4 : (L.setIfInBounds 13 true).getD 4 false = L.getD 4 false := by rw [up_set, if_neg (by omega)]
      have g6 : (L.setIfInBounds 13 true).getD 6 false = L.getD 6 false := by rw [up_set, if_neg (by omega)]
      have g7 : (L.setIfInBounds 13 true).getD 7 false = L.getD 7 false := by rw [up_set, if_neg (by omega)]
      have g8 : (L.setIfInBounds 13 true).getD 8 false = L.getD 8 false := by rw [up_set, if_neg (by omega)]
      have g9 : (L.setIfInBounds 13 true).getD 9 false = L.getD 9 false := by rw [up_set, if_neg (by omega)]
      have g11 : (L.setIfInBounds 13 true).getD 11 false = L.getD 11 false := by rw [up_set, if_neg (by omega)]
      have g12 : (L.setIfInBounds 13 true).getD 12 false = L.getD 12 false := by rw [up_set, if_neg (by omega)]
      have g13 : (L.setIfInBounds 13 true).getD 13 false = true := by rw [up_set, if_pos ⟨rfl, by omega⟩]
      have g14 : (L.setIfInBounds 13 true).getD 14 false = L.getD 14 false := by rw [up_set, if_neg (by omega)]
      have g15 : (L.setIfInBounds 13 true).getD 15 false = L.getD 15 false := by rw [up_set, if_neg (by omega)]
      have g16 : (L.setIfInBounds 13 true).getD 16 false = L.getD 16 false := by rw [up_set, if_neg (by omega)]
      obtain ⟨b, g, rfl, hg, hb1, hb2⟩ := hP12 gd12 h16
      obtain ⟨x, hx, hx0, hx1⟩ := six_pl hg
      have hs : w.grownBy w (some d) := below_grows (Below.refl _ _)
      have hst2 := hst
      have hcell := six_cell hb2 hx
      refine par_run ⟨some 36, _, _, _, _, _⟩ (.int .i64 x) w rfl (by rfl) (by go_simp) ?_
      exact ⟨KP _ hst2, (u27), (u29), (u30), (u31), (u32), (u34), (.pointer (some ⟨b, g, none⟩)), (.int .i64 x), (u37), (u7), by simp only [Act.put, List.setIfInBounds_toArray, List.set_cons_zero, List.set_cons_succ], hst2, by rw [g4, g16]; exact fun e e' => Six.step (hP4 e e') hs hd, by rw [g6, g16]; exact hP6, by rw [g7, g16]; exact fun e e' => SixAt.step (hP7 e e') hs hd, by rw [g8, g16]; exact hP8, by rw [g9, g16]; exact fun e e' => Six.step (hP9 e e') hs hd, by rw [g11, g16]; exact hP11, by rw [g12, g16]; exact fun e e' => SixAt.step (hP12 e e') hs hd, fun _ _ => ⟨x, rfl, hx0, hx1⟩, by rw [g14, g16]; exact hP14, by rw [g15, g16]; exact fun e => (hP15 e).step hs hd⟩
    · have g4 : (L.setIfInBounds 14 true).getD 4 false = L.getD 4 false := by rw [up_set, if_neg (by omega)]
      have g6 : (L.setIfInBounds 14 true).getD 6 false = L.getD 6 false := by rw [up_set, if_neg (by omega)]
      have g7 : (L.setIfInBounds 14 true).getD 7 false = L.getD 7 false := by rw [up_set, if_neg (by omega)]
      have g8 : (L.setIfInBounds 14 true).getD 8 false = L.getD 8 false := by rw [up_set, if_neg (by omega)]
      have g9 : (L.setIfInBounds 14 true).getD 9 false = L.getD 9 false := by rw [up_set, if_neg (by omega)]
      have g11 : (L.setIfInBounds 14 true).getD 11 false = L.getD 11 false := by rw [up_set, if_neg (by omega)]
      have g12 : (L.setIfInBounds 14 true).getD 12 false = L.getD 12 false := by rw [up_set, if_neg (by omega)]
      have g13 : (L.setIfInBounds 14 true).getD 13 false = L.getD 13 false := by rw [up_set, if_neg (by omega)]
      have g14 : (L.setIfInBounds 14 true).getD 14 false = true := by rw [up_set, if_pos ⟨rfl, by omega⟩]
      have g15 : (L.setIfInBounds 14 true).getD 15 false = L.getD 15 false := by rw [up_set, if_neg (by omega)]
      have g16 : (L.setIfInBounds 14 true).getD 16 false = L.getD 16 false := by rw [up_set, if_neg (by omega)]
      obtain ⟨x, rfl, hx0, hx1⟩ := hP8 gd8 h16
      obtain ⟨y, rfl, hy0, hy1⟩ := hP13 gd13 h16
      have hs : w.grownBy w (some d) := below_grows (Below.refl _ _)
      have hst2 := hst
      refine par_run ⟨some 37, _, _, _, _, _⟩ (.agg #[.string cc, .int .i64 x, .int .i64 y, .slice none 0 0, .slice none 0 0]) w rfl (by rfl) (by go_simp) ?_
      exact ⟨KP _ hst2, (u27), (u29), (u30), (.int .i64 x), (u32), (u34), (u35), (.int .i64 y), (.agg #[.string cc, .int .i64 x, .int .i64 y, .slice none 0 0, .slice none 0 0]), (u7), by simp only [Act.put, List.setIfInBounds_toArray, List.set_cons_zero, List.set_cons_succ], hst2, by rw [g4, g16]; exact fun e e' => Six.step (hP4 e e') hs hd, by rw [g6, g16]; exact hP6, by rw [g7, g16]; exact fun e e' => SixAt.step (hP7 e e') hs hd, by rw [g8, g16]; exact hP8, by rw [g9, g16]; exact fun e e' => Six.step (hP9 e e') hs hd, by rw [g11, g16]; exact hP11, by rw [g12, g16]; exact fun e e' => SixAt.step (hP12 e e') hs hd, by rw [g13, g16]; exact hP13, fun _ _ => ⟨x, y, rfl, hx0, hx1, hy0, hy1⟩, by rw [g15, g16]; exact fun e => (hP15 e).step hs hd⟩
    · have g4 : (L.setIfInBounds 15 true).getD 4 false = L.getD 4 false := by rw [up_set, if_neg (by omega)]
      have g6 : (L.setIfInBounds 15 true).getD 6 false = L.getD 6 false := by rw [up_set, if_neg (by omega)]
      have g7 : (L.setIfInBounds 15 true).getD 7 false = L.getD 7 false := by rw [up_set, if_neg (by omega)]
      have g8 : (L.setIfInBounds 15 true).getD 8 false = L.getD 8 false := by rw [up_set, if_neg (by omega)]
      have g9 : (L.setIfInBounds 15 true).getD 9 false = L.getD 9 false := by rw [up_set, if_neg (by omega)]
      have g11 : (L.setIfInBounds 15 true).getD 11 false = L.getD 11 false := by rw [up_set, if_neg (by omega)]
      have g12 : (L.setIfInBounds 15 true).getD 12 false = L.getD 12 false := by rw [up_set, if_neg (by omega)]
      have g13 : (L.setIfInBounds 15 true).getD 13 false = L.getD 13 false := by rw [up_set, if_neg (by omega)]
      have g14 : (L.setIfInBounds 15 true).getD 14 false = L.getD 14 false := by rw [up_set, if_neg (by omega)]
      have g15 : (L.setIfInBounds 15 true).getD 15 false = true := by rw [up_set, if_pos ⟨rfl, by omega⟩]
      have g16 : (L.setIfInBounds 15 true).getD 16 false = L.getD 16 false := by rw [up_set, if_neg (by omega)]
      have hs : w.grownBy (w.alloc (.cells #[.string ⟨#[]⟩, .int .i64 0, .int .i64 0, .slice none 0 0, .slice none 0 0] 57)) (some d) := below_grows (below_alloc1 _ _)
      have hst2 := hst.step hs (hst.2.below (below_alloc1 _ _))
      refine par_run ⟨some 7, _, _, _, _, _⟩ (.pointer (some ⟨w.heap.size, 0, none⟩)) (w.alloc (.cells #[.string ⟨#[]⟩, .int .i64 0, .int .i64 0, .slice none 0 0, .slice none 0 0] 57)) rfl (by rfl) (by go_simp) ?_
      exact ⟨KP _ hst2, (u27), (u29), (u30), (u31), (u32), (u34), (u35), (u36), (u37), (.pointer (some ⟨w.heap.size, 0, none⟩)), by simp only [Act.put, List.setIfInBounds_toArray, List.set_cons_zero, List.set_cons_succ], hst2, by rw [g4, g16]; exact fun e e' => Six.step (hP4 e e') hs hd, by rw [g6, g16]; exact hP6, by rw [g7, g16]; exact fun e e' => SixAt.step (hP7 e e') hs hd, by rw [g8, g16]; exact hP8, by rw [g9, g16]; exact fun e e' => Six.step (hP9 e e') hs hd, by rw [g11, g16]; exact hP11, by rw [g12, g16]; exact fun e e' => SixAt.step (hP12 e e') hs hd, by rw [g13, g16]; exact hP13, by rw [g14, g16]; exact hP14, fun _ => by rw [g16, h16]; exact ⟨w.heap.size, rfl, hst.1.size, fun _ => heap_alloc_new w _, fun e => (by cases e)⟩⟩
    · have g4 : (L.setIfInBounds 16 true).getD 4 false = L.getD 4 false := by rw [up_set, if_neg (by omega)]
      have g6 : (L.setIfInBounds 16 true).getD 6 false = L.getD 6 false := by rw [up_set, if_neg (by omega)]
      have g7 : (L.setIfInBounds 16 true).getD 7 false = L.getD 7 false := by rw [up_set, if_neg (by omega)]
      have g8 : (L.setIfInBounds 16 true).getD 8 false = L.getD 8 false := by rw [up_set, if_neg (by omega)]
      have g9 : (L.setIfInBounds 16 true).getD 9 false = L.getD 9 false := by rw [up_set, if_neg (by omega)]
      have g11 : (L.setIfInBounds 16 true).getD 11 false = L.getD 11 false := by rw [up_set, if_neg (by omega)]
      have g12 : (L.setIfInBounds 16 true).getD 12 false = L.getD 12 false := by rw [up_set, if_neg (by omega)]
      have g13 : (L.setIfInBounds 16 true).getD 13 false = L.getD 13 false := by rw [up_set, if_neg (by omega)]
      have g14 : (L.setIfInBounds 16 true).getD 14 false = L.getD 14 false := by rw [up_set, if_neg (by omega)]
      have g15 : (L.setIfInBounds 16 true).getD 15 false = L.getD 15 false := by rw [up_set, if_neg (by omega)]
      have g16 : (L.setIfInBounds 16 true).getD 16 false = true := by rw [up_set, if_pos ⟨rfl, by omega⟩]
      obtain ⟨x, y, rfl, hx0, hx1, hy0, hy1⟩ := hP14 gd14 h16
      obtain ⟨b, rfl, hb1, hb2, _⟩ := hP15 gd15
      have hz := hb2 h16
      have hzc : ∀ j, w.cell? ⟨b, j, none⟩ = (#[.string ⟨#[]⟩, .int .i64 0, .int .i64 0, .slice none 0 0, .slice none 0 0] : Array Value)[j]? := fun j => Lib.cell_of_heap hz j
      have hzf : ∀ j, w.frozen? ⟨b, j, none⟩ = false := fun j => Lib.frozen_of_heap hz j
      have hst2 := ((((hst.set hd hb1 0 (.string cc)).set hd hb1 1 (.int .i64 x)).set hd hb1 2 (.int .i64 y)).set hd hb1 3 (.slice none 0 0)).set hd hb1 4 (.slice none 0 0)
      refine par_store ⟨none, _, _, _, _, _⟩ (((((w.setCell ⟨b, 0, none⟩ (.string cc)).setCell ⟨b, 1, none⟩ (.int .i64 x)).setCell ⟨b, 2, none⟩ (.int .i64 y)).setCell ⟨b, 3, none⟩ (.slice none 0 0)).setCell ⟨b, 4, none⟩ (.slice none 0 0)) rfl (by rfl) ⟨KP _ hst2, (u27), (u29), (u30), (u31), (u32), (u34), (u35), (u36), (.agg #[.string cc, .int .i64 x, .int .i64 y, .slice none 0 0, .slice none 0 0]), (.pointer (some ⟨b, 0, none⟩)), rfl, hst2, fun _ e => (by rw [g16] at e; cases e), fun _ e => (by rw [g16] at e; cases e), fun _ e => (by rw [g16] at e; cases e), fun _ e => (by rw [g16] at e; cases e), fun _ e => (by rw [g16] at e; cases e), fun _ e => (by rw [g16] at e; cases e), fun _ e => (by rw [g16] at e; cases e), fun _ e => (by rw [g16] at e; cases e), fun _ e => (by rw [g16] at e; cases e), fun _ => by rw [g16]; exact ⟨b, rfl, hb1, fun e => (by cases e), fun _ => ⟨x, y, by simp [World.setCell, Array.getElem?_modify, hz], hx0, hx1, hy0, hy1⟩⟩⟩ (fun K' hk' => ?_)
      unfold Oper.wp
      go_simp
      exact hk'
  · intro L a w hp hI
    obtain ⟨u27, u29, u30, u31, u32, u34, u35, u36, u37, u7, rfl, hst, hP4, hP6, hP7, hP8, hP9, hP11, hP12, hP13, hP14, hP15⟩ := hI
    simp only [Bool.and_eq_true] at hp
    obtain ⟨p15, p16⟩ := hp
    have hb := hP15 p15
    rw [p16] at hb
    exact HQ.out _ _ _ _ _ _ _ _ _ _ w hst hb
  · refine par_take ⟨some 23, _, _, _, _, _⟩ ?_ rfl (by rfl) ?_ ?_
    rotate_left 1
    · intro w hSw; (try dsimp only at hSw); go_simp; (try with_reducible rfl)
    simp only [Act.put, List.setIfInBounds_toArray, List.set_cons_zero, List.set_cons_succ]
    refine par_take ⟨some 24, _, _, _, _, _⟩ ?_ rfl (by rfl) ?_ ?_
    rotate_left 1
    · intro w hSw; (try dsimp only at hSw); go_simp; (try with_reducible rfl)
    simp only [Act.put, List.setIfInBounds_toArray, List.set_cons_zero, List.set_cons_succ]
    refine par_take ⟨some 25, _, _, _, _, _⟩ ?_ rfl (by rfl) ?_ ?_
    rotate_left 1
    · intro w hSw; (try dsimp only at hSw); go_simp; (try with_reducible rfl)
    simp only [Act.put, List.setIfInBounds_toArray, List.set_cons_zero, List.set_cons_succ]
    refine par_take ⟨some 26, _, _, _, _, _⟩ ?_ rfl (by rfl) ?_ ?_
    rotate_left 1
    · intro w hSw; (try dsimp only at hSw); go_simp; (try with_reducible rfl)
    simp only [Act.put, List.setIfInBounds_toArray, List.set_cons_zero, List.set_cons_succ]
    refine par_take ⟨some 28, _, _, _, _, _⟩ ?_ rfl (by rfl) ?_ ?_
    rotate_left 1
    · intro w hSw; (try dsimp only at hSw); go_simp; (try with_reducible rfl)
    simp only [Act.put, List.setIfInBounds_toArray, List.set_cons_zero, List.set_cons_succ]
    refine par_take ⟨some 33, _, _, _, _, _⟩ ?_ rfl (by rfl) ?_ ?_
    rotate_left 1
    · intro w hSw; (try dsimp only at hSw); go_simp; (try with_reducible rfl)
    simp only [Act.put, List.setIfInBounds_toArray, List.set_cons_zero, List.set_cons_succ]
    exact ⟨_, _, _, _, _, _, _, _, _, _, rfl, hSt0, (fun e => absurd e (by decide +kernel)), (fun e => absurd e (by decide +kernel)), (fun e => absurd e (by decide +kernel)), (fun e => absurd e (by decide +kernel)), (fun e => absurd e (by decide +kernel)), (fun e => absurd e (by decide +kernel)), (fun e => absurd e (by decide +kernel)), (fun e => absurd e (by decide +kernel)), (fun e => absurd e (by decide +kernel)), (fun e => absurd e (by decide +kernel))⟩
end Go.Proofs.YteopjiedjnaeiaaGreat
/- quadriviumref07.Made: what a round keeps. -/
namespace Go.Proofs.YteopjiedjnaeiaaGreat
open Go Go.Proofs Go.RowKit Go.Maps Go.Sort Go.Lib

section
variable {W w w' w'' wr : World} {d n c B ob : Nat} {A : Option Addr} {v v' : Value} {L : List Off} {o : Off}
theorem own_type {w : World} {base k n b : Nat} {e t : TypeId} {v : Value} {xs : List Value} {cs : Array Value} {fz : Nat × Nat} (h : w.ownsRow base e k v n xs) (hb : w.heap[b]? = some (.cells cs t fz)) (ht : t ≠ e) : v.ownBlock ≠ some b := by
  rcases h.2 with ⟨rfl, _⟩ | ⟨g, cap, cur, rfl, _, hg, _⟩
  · simp [Value.ownBlock]
  · intro e'
    have e' : g = b := by simpa [Value.ownBlock] using e'
    subst e'
    rw [hg] at hb
    injection hb with hb
    injection hb with _ hb
    exact ht hb.symm
theorem own_own {w : World} {base base' k k' n n' : Nat} {e e' : TypeId} {v v' : Value} {xs xs' : List Value} (h : w.ownsRow base e k v n xs) (h' : w.ownsRow base' e' k' v' n' xs') (ht : e ≠ e') : v.ownBlock = none ∨ v.ownBlock ≠ v'.ownBlock := by
  rcases h'.2 with ⟨rfl, _⟩ | ⟨g, cap, cur, rfl, _, hg, _⟩
  · cases hq : v.ownBlock with
    | none => exact .inl rfl
    | some q => exact .inr (by simp [Value.ownBlock])
  · exact .inr (own_type h hg (Ne.symm ht))
/-- Who owns a block. -/
def Mine (v : Value) (L : List Off) (q : Nat) : Prop := v.ownBlock = some q ∨ ∃ o ∈ L, o.sv.ownBlock = some q ∨ o.nv.ownBlock = some q
structure MS (W : World) (d : Nat) (A : Option Addr) (n c : Nat) (v : Value) (L : List Off) (w : World) : Prop where
  keep : W.grownBy w (some d)
  draw : DrawS d A n c w
  rows : w.ownsRow W.heap.size 57 5 v L.length (flatE Off.cells L)
  ok : ∀ o ∈ L, w.ownsRow W.heap.size 3 1 o.sv o.slots.length (flatE encI o.slots) ∧ w.ownsRow W.heap.size 9 1 o.nv o.needs.length (flatE encT o.needs)
  dl : d < W.heap.size
theorem kept_if {w w' : World} {base k n : Nat} {e : TypeId} {v : Value} {xs : List Value} {row : Option Nat} (h : w.ownsRow base e k v n xs) (hg : w.grownBy w' row) (hm : ∀ q, row = some q → v.ownBlock ≠ some q) : w'.ownsRow base e k v n xs := by
  refine h.kept hg ?_
  cases hr : row with
  | none => cases hv : v.ownBlock <;> simp
  | some q => exact .inr (hm q hr)
theorem MS.mine (h : MS W d A n c v L w) {q : Nat} (hq : Mine v L q) : W.heap.size ≤ q ∧ q < w.heap.size := by
  rcases hq with hq | ⟨o, ho, hq | hq⟩
  · exact own_lo h.rows hq
  · exact own_lo (h.ok o ho).1 hq
  · exact own_lo (h.ok o ho).2 hq
theorem MS.kept (h : MS W d A n c v L w) {row : Option Nat} (hg : w.grownBy w' row) (hr : ∀ q, row = some q → q = d ∨ W.heap.size ≤ q) (hm : ∀ q, row = some q → ¬ Mine v L q) (hd : DrawS d A n c w') : MS W d A n c v L w' where
  keep := ⟨hg.os.trans h.keep.os, hg.tape.trans h.keep.tape, hg.output.trans h.keep.output, Nat.le_trans h.keep.size hg.size, fun i hi hne => (hg.block i (Nat.lt_of_lt_of_le hi h.keep.size) (fun e => by
    rcases hr i e.symm with e2 | e2
    · subst e2; exact hne rfl
    · omega)).trans (h.keep.block i hi hne)⟩
  draw := hd
  rows := kept_if h.rows hg fun q hq e => hm q hq (.inl e)
  ok o ho := ⟨kept_if (h.ok o ho).1 hg fun q hq e => hm q hq (.inr ⟨o, ho, .inl e⟩), kept_if (h.ok o ho).2 hg fun q hq e => hm q hq (.inr ⟨o, ho, .inr e⟩)⟩
  dl := h.dl
theorem MS.below (h : MS W d A n c v L w) (hb : RowKit.Below w.heap.size w w') : MS W d A n c v L w' := h.kept (row := none) (below_grows hb) (fun q e => by cases e) (fun q e => by cases e) (h.draw.below hb)
theorem MS.next (h : MS W d A n c v L w) (ho : Only d w w') (hd : DrawS d A n c w') : MS W d A n c v L w' :=
  h.kept ho (fun q e => by injection e with e; exact .inl e.symm) (fun q e hm => by injection e with e; subst e; have := (h.mine hm).1; have := h.dl; omega) hd
theorem MS.std (h : MS W d A n c v L w) (hs : StD w d A n c w') : MS W d A n c v L w' := h.next hs.1 hs.2
theorem MS.ints (h : MS W d A n c v L w) (hi : IntsIn d A n W) : IntsIn d A n w := hi.only (Nat.le_refl _) (Nat.le_of_lt h.dl) h.keep
/-- .. within a round: the offer in its box. -/
structure R7 (W : World) (B d : Nat) (A : Option Addr) (n c : Nat) (v : Value) (L : List Off) (ob : Nat) (o : Off) (w : World) : Prop where
  ms : MS W d A n c v L w
  lo : ∀ q, Mine v L q → q < B
  bl : W.heap.size ≤ B
  ol : B ≤ ob
  box : w.heap[ob]? = some (.cells #[.string o.code, .int .i64 o.credits, .int .i64 o.places, .slice o.sp o.slots.length o.sc, .slice o.np o.needs.length o.nc] 57 (0, 0))
  sl : w.ownsRow B 3 1 (.slice o.sp o.slots.length o.sc) o.slots.length (flatE encI o.slots)
  nd : w.ownsRow B 9 1 (.slice o.np o.needs.length o.nc) o.needs.length (flatE encT o.needs)
theorem R7.cell (h : R7 W B d A n c v L ob o w) (j : Nat) : w.cell? ⟨ob, j, none⟩ = (#[.string o.code, .int .i64 o.credits, .int .i64 o.places, .slice o.sp o.slots.length o.sc, .slice o.np o.needs.length o.nc] : Array Value)[j]? := Lib.cell_of_heap h.box j
theorem R7.next (h : R7 W B d A n c v L ob o w) (hs : Only d w w') (hd : DrawS d A n c w') : R7 W B d A n c v L ob o w' where
  ms := h.ms.next hs hd
  lo := h.lo
  bl := h.bl
  ol := h.ol
  box := (hs.block ob (Array.getElem?_eq_some_iff.1 h.box).1 (by have := h.ms.dl; have := h.bl; have := h.ol; simp; omega)).trans h.box
  sl := kept_if h.sl hs fun q hq e => by injection hq with hq; subst hq; have := (own_lo h.sl e).1; have := h.ms.dl; have := h.bl; omega
  nd := kept_if h.nd hs fun q hq e => by injection hq with hq; subst hq; have := (own_lo h.nd e).1; have := h.ms.dl; have := h.bl; omega
theorem R7.below (h : R7 W B d A n c v L ob o w) (hb : RowKit.Below w.heap.size w w') : R7 W B d A n c v L ob o w' where
  ms := h.ms.below hb
  lo := h.lo
  bl := h.bl
  ol := h.ol
  box := (hb.block ob (Array.getElem?_eq_some_iff.1 h.box).1).trans h.box
  sl := kept_if h.sl (row := none) (below_grows hb) fun q hq => by cases hq
  nd := kept_if h.nd (row := none) (below_grows hb) fun q hq => by cases hq
theorem DrawS.kept {row : Option Nat} (h : DrawS d A n c w) (hg : w.grownBy w' row) (hne : ∀ q, row = some q → q ≠ d) : DrawS d A n c w' := by
  obtain ⟨k, hk, hh⟩ := h
  exact ⟨k, hk, (hg.block d (Array.getElem?_eq_some_iff.1 hh).1 (fun e => hne d e.symm rfl)).trans hh⟩
theorem R7.lit (_hB : B ≤ w.heap.size) (h : MS W d A n c v L w) (hlo : ∀ q, Mine v L q → q < B) (hbl : W.heap.size ≤ B) (hol : B ≤ ob) {cc : ByteArray} {x y : Int}
    (hbx : w.heap[ob]? = some (.cells #[.string cc, .int .i64 x, .int .i64 y, .slice none 0 0, .slice none 0 0] 57 (0, 0))) : R7 W B d A n c v L ob ⟨cc, x, y, none, 0, none, 0, [], []⟩ w :=
  ⟨h, hlo, hbl, hol, hbx, World.ownsRow_nil _ _ _ _, World.ownsRow_nil _ _ _ _⟩
theorem R7.slot (h : R7 W B d A n c v L ob o w) {x : Int} {p : Option Addr} {cp : Nat} (hA : AppT encI 1 3 w B (.slice o.sp o.slots.length o.sc) o.slots [x] (.slice p (o.slots.length + 1) cp) w') :
    R7 W B d A n c v L ob { o with sp := p, sc := cp, slots := o.slots ++ [x] } (w'.setCell ⟨ob, 3, none⟩ (.slice p (o.slots.length + 1) cp)) := by
  have hlt := (Array.getElem?_eq_some_iff.1 h.box).1
  have hob : ∀ q, (Value.slice o.sp o.slots.length o.sc).ownBlock = some q → q ≠ ob := fun q hq e => by subst e; exact own_type h.sl h.box (by decide) hq
  have hq1 : ∀ q, (Value.slice o.sp o.slots.length o.sc).ownBlock = some q → B ≤ q := fun q hq => (own_lo h.sl hq).1
  have hbl := h.bl; have hdl := h.ms.dl; have hol := h.ol
  have hbx : w'.heap[ob]? = _ := (hA.grown.block ob hlt (fun e => hob ob e.symm rfl)).trans h.box
  have m1 : MS W d A n c v L w' := h.ms.kept hA.grown (fun q hq => .inr (by have := hq1 q hq; omega)) (fun q hq hm => by have := h.lo q hm; have := hq1 q hq; omega) (h.ms.draw.kept hA.grown fun q hq => by have := hq1 q hq; omega)
  have hs2 := Only.setCell w' ob 3 (.slice p (o.slots.length + 1) cp) 0
  have e1 : (o.slots ++ [x]).length = o.slots.length + 1 := by simp
  have hown := hA.own
  rw [e1] at hown
  refine ⟨m1.kept hs2 (fun q hq => .inr (by injection hq with hq; omega)) (fun q hq hm => by injection hq with hq; have := h.lo q hm; omega) (m1.draw.kept hs2 fun q hq => by injection hq with hq; omega), h.lo, h.bl, h.ol, ?_, ?_, ?_⟩
  · simp [World.setCell, Array.getElem?_modify, hbx]
  · have : (w'.setCell ⟨ob, 3, none⟩ (.slice p (o.slots.length + 1) cp)).ownsRow B 3 1 (.slice p (o.slots.length + 1) cp) (o.slots.length + 1) (flatE encI (o.slots ++ [x])) := kept_if hown hs2 fun q hq e => by injection hq with hq; subst hq; exact own_type hown hbx (by decide) e
    simpa using this
  · have k1 := h.nd.kept hA.grown (own_own h.nd h.sl (by decide))
    exact kept_if k1 hs2 fun q hq e => by injection hq with hq; subst hq; exact own_type k1 hbx (by decide) e
theorem R7.need (h : R7 W B d A n c v L ob o w) {x : ByteArray} {p : Option Addr} {cp : Nat} (hA : AppT encT 1 9 w B (.slice o.np o.needs.length o.nc) o.needs [x] (.slice p (o.needs.length + 1) cp) w') :
    R7 W B d A n c v L ob { o with np := p, nc := cp, needs := o.needs ++ [x] } (w'.setCell ⟨ob, 4, none⟩ (.slice p (o.needs.length + 1) cp)) := by
  have hlt := (Array.getElem?_eq_some_iff.1 h.box).1
  have hob : ∀ q, (Value.slice o.np o.needs.length o.nc).ownBlock = some q → q ≠ ob := fun q hq e => by subst e; exact own_type h.nd h.box (by decide) hq
  have hq1 : ∀ q, (Value.slice o.np o.needs.length o.nc).ownBlock = some q → B ≤ q := fun q hq => (own_lo h.nd hq).1
  have hbl := h.bl; have hdl := h.ms.dl; have hol := h.ol
  have hbx : w'.heap[ob]? = _ := (hA.grown.block ob hlt (fun e => hob ob e.symm rfl)).trans h.box
  have m1 : MS W d A n c v L w' := h.ms.kept hA.grown (fun q hq => .inr (by have := hq1 q hq; omega)) (fun q hq hm => by have := h.lo q hm; have := hq1 q hq; omega) (h.ms.draw.kept hA.grown fun q hq => by have := hq1 q hq; omega)
  have hs2 := Only.setCell w' ob 4 (.slice p (o.needs.length + 1) cp) 0
  have e1 : (o.needs ++ [x]).length = o.needs.length + 1 := by simp
  have hown := hA.own
  rw [e1] at hown
  refine ⟨m1.kept hs2 (fun q hq => .inr (by injection hq with hq; omega)) (fun q hq hm => by injection hq with hq; have := h.lo q hm; omega) (m1.draw.kept hs2 fun q hq => by injection hq with hq; omega), h.lo, h.bl, h.ol, ?_, ?_, ?_⟩
  · simp [World.setCell, Array.getElem?_modify, hbx]
  · have k1 := h.sl.kept hA.grown (own_own h.sl h.nd (by decide))
    exact kept_if k1 hs2 fun q hq e => by injection hq with hq; subst hq; exact own_type k1 hbx (by decide) e
  · have : (w'.setCell ⟨ob, 4, none⟩ (.slice p (o.needs.length + 1) cp)).ownsRow B 9 1 (.slice p (o.needs.length + 1) cp) (o.needs.length + 1) (flatE encT (o.needs ++ [x])) := kept_if hown hs2 fun q hq e => by injection hq with hq; subst hq; exact own_type hown hbx (by decide) e
    simpa using this
theorem R7.done (h : R7 W B d A n c v L ob o w) (hA : AppT Off.cells 5 57 w W.heap.size v L [o] v' w') : MS W d A n c v' (L ++ [o]) w' where
  keep := grow_keep h.ms.keep hA.grown fun q hq => (own_lo h.ms.rows hq).1
  draw := h.ms.draw.kept hA.grown fun q hq => by have := (own_lo h.ms.rows hq).1; have := h.ms.dl; omega
  rows := hA.own
  ok x hx := by
    rw [List.mem_append, List.mem_singleton] at hx
    rcases hx with hx | rfl
    · exact ⟨(h.ms.ok x hx).1.kept hA.grown (own_own (h.ms.ok x hx).1 h.ms.rows (by decide)), (h.ms.ok x hx).2.kept hA.grown (own_own (h.ms.ok x hx).2 h.ms.rows (by decide))⟩
    · exact ⟨row_base (h.sl.kept hA.grown (own_own h.sl h.ms.rows (by decide))) h.bl, row_base (h.nd.kept hA.grown (own_own h.nd h.ms.rows (by decide))) h.bl⟩
  dl := h.ms.dl
end
/-- A right offer that was made. -/
structure GoodO (o : Off) : Prop where
  code : o.code ∈ codesL
  c0 : 0 ≤ o.credits
  c1 : o.credits ≤ 20
  p0 : 0 ≤ o.places
  p1 : o.places ≤ 200
  sl : o.slots.length ≤ 4
  nd : o.needs.length ≤ 2
/-- A catalog that was made of the first k codes. -/
def GoodL (k : Nat) (L : List Off) : Prop := (∀ o ∈ L, GoodO o) ∧ (L.map Off.code).Sublist (codesL.take k)
theorem GoodL.skip {k : Nat} {L : List Off} (h : GoodL k L) : GoodL (k + 1) L := ⟨h.1, h.2.trans (by rw [List.take_add_one]; exact List.sublist_append_left _ _)⟩
theorem GoodL.put {k : Nat} {L : List Off} {o : Off} (h : GoodL k L) (ho : GoodO o) (hc : codesL[k]? = some o.code) : GoodL (k + 1) (L ++ [o]) := by
  refine ⟨fun x hx => ?_, ?_⟩
  · rw [List.mem_append, List.mem_singleton] at hx
    rcases hx with hx | rfl
    · exact h.1 x hx
    · exact ho
  · rw [take_one hc, List.map_append]
    exact h.2.append (List.Sublist.refl _)
theorem GoodL.len {k : Nat} {L : List Off} (h : GoodL k L) : L.length ≤ 6 := by
  have := h.2.length_le
  simp only [List.length_map, List.length_take] at this
  have : codesL.length = 6 := rfl
  omega
theorem intT : RowT Tryz.prog encI 1 3 22 where
  len _ := rfl
  one s u hu := by simp [encI] at hu; subst hu; rfl
  pos := by decide
  und := Tryz.underlying22
  info := by
    obtain ⟨i0, hi, h1, h2, h3⟩ := info_parts (show (Tryz.prog.info? 3).map (fun i => (i.zero, i.size, i.bytes)) = some (some (.int .i64 0), 1, 8) by kernel_rfl)
    exact ⟨i0, _, hi, h1, h2, rfl, by omega⟩
theorem strT : RowT Tryz.prog encT 1 9 55 where
  len _ := rfl
  one s u hu := by simp [encT] at hu; subst hu; rfl
  pos := by decide
  und := Tryz.underlying55
  info := by
    obtain ⟨i0, hi, h1, h2, h3⟩ := info_parts (show (Tryz.prog.info? 9).map (fun i => (i.zero, i.size, i.bytes)) = some (some (.string ⟨#[]⟩), 1, 16) by kernel_rfl)
    exact ⟨i0, _, hi, h1, h2, rfl, by omega⟩
theorem offT : RowT Tryz.prog Off.cells 5 57 28 where
  len _ := rfl
  one s u hu := by simp [Off.cells] at hu; rcases hu with rfl | rfl | rfl | rfl | rfl <;> rfl
  pos := by decide
  und := Tryz.underlying28
  info := by
    obtain ⟨i0, hi, h1, h2, h3⟩ := info_parts (show (Tryz.prog.info? 57).map (fun i => (i.zero, i.size, i.bytes)) = some (some (.agg #[.string ⟨#[]⟩, .int .i64 0, .int .i64 0, .slice none 0 0, .slice none 0 0]), 5, 80) by kernel_rfl)
    exact ⟨i0, _, hi, h1, h2, rfl, by omega⟩
end Go.Proofs.YteopjiedjnaeiaaGreat
/- quadriviumref07.Made: what a course requires is put on. -/
namespace Go.Proofs.YteopjiedjnaeiaaGreat
open Go Go.Proofs Go.RowKit Go.Maps Go.Sort Go.Lib

/-- .. while an offer is made. -/
structure RoundSt (W : World) (B d : Nat) (A : Option Addr) (n c k : Nat) (v : Value) (L : List Off) (ob : Nat) (o : Off) (w : World) : Prop where
  r7 : R7 W B d A n c v L ob o w
  good : GoodO o
  code : codesL[k]? = some o.code
section
variable {W w w' : World} {B d n c k ob gp op : Nat} {A : Option Addr} {v u : Value} {L : List Off} {o : Off} {cd : ByteArray}
theorem RoundSt.next (h : RoundSt W B d A n c k v L ob o w) (hs : Only d w w') (hd : DrawS d A n c w') : RoundSt W B d A n c k v L ob o w' := ⟨h.r7.next hs hd, h.good, h.code⟩
theorem RoundSt.below (h : RoundSt W B d A n c k v L ob o w) (hb : RowKit.Below w.heap.size w w') : RoundSt W B d A n c k v L ob o w' := ⟨h.r7.below hb, h.good, h.code⟩
def OneT (w : World) (cd : ByteArray) (u : Value) : Prop := ∃ b, u = .slice (some ⟨b, 0, none⟩) 1 1 ∧ RowIn encT w (.slice (some ⟨b, 0, none⟩) 1 1) [cd]
def Added (W : World) (B d : Nat) (A : Option Addr) (n c k : Nat) (v : Value) (L : List Off) (ob : Nat) (o : Off) (cd : ByteArray) (u : Value) (w : World) : Prop := ∃ w0 p cp, u = .slice p (o.needs.length + 1) cp ∧ RoundSt W B d A n c k v L ob o w0 ∧ AppT encT 1 9 w0 B (.slice o.np o.needs.length o.nc) o.needs [cd] (.slice p (o.needs.length + 1) cp) w
def MoreN (W : World) (B d : Nat) (A : Option Addr) (n c k : Nat) (v : Value) (L : List Off) (ob : Nat) (w : World) : Prop := ∃ o', RoundSt W B d A n c k v L ob o' w
theorem Added.box (h : Added W B d A n c k v L ob o cd u w) : w.heap[ob]? = some (.cells #[.string o.code, .int .i64 o.credits, .int .i64 o.places, .slice o.sp o.slots.length o.sc, .slice o.np o.needs.length o.nc] 57 (0, 0)) := by
  obtain ⟨w0, p, cp, _, hr, hA⟩ := h
  exact (hA.grown.block ob (Array.getElem?_eq_some_iff.1 hr.r7.box).1 (fun e => own_type hr.r7.nd hr.r7.box (by decide) e.symm)).trans hr.r7.box
end
set_option maxHeartbeats 16000000 in
set_option maxRecDepth 100000 in
theorem made07_r19 {s0 s1 s2 s3 s5 s6 s8 s10 s11 s12 s13 s14 s15 s16 s17 s18 s19 s20 s21 s22 s23 s24 s25 s26 s27 s28 s29 s30 s31 s32 s33 s34 s35 s36 s37 s38 s39 s40 s41 s42 s43 s44 s45 s46 s47 s48 s49 s50 s51 s52 s53 s54 s55 s56 s57 s58 s59 s60 s61 s62 s63 s64 s65 s66 s67 s68 s69 s70 s71 s72 s73 s74 s75 s76 s77 s78 s79 s80 s81 s82 s83 s84 s85 s86 s87 s88 s89 s90 s91 s92 s93 s94 s95 s96 s97 s98 s99 s100 : Value} (W : World) (B d n c k ob gp op i LL ep : Nat) (A : Option Addr) (v : Value) (L : List Off) (o : Off) (cd : ByteArray) (W2 : World) (Q : Exit → Act → World → Prop) (hr : RoundSt W B d A n c k v L ob o W2) (hcd : W2.cell? ⟨gp, op + i * 5, none⟩ = some (.string cd)) (hgp : gp < B) (hgn : (Value.slice o.np o.needs.length o.nc).ownBlock ≠ some gp) (hil : i < LL) (hnl : o.needs.length < 2)
    (hQ : ∀ (u87 u93 u94 u95 : Value) (wx : World), MoreN W B d A n c k v L ob wx → Q .normal ⟨List.toArray (s0 :: s1 :: s2 :: s3 :: .slice (some ⟨gp, op, none⟩) LL ep :: s5 :: s6 :: .pointer (some ⟨ob, 0, none⟩) :: s8 :: .int .i64 (i : Int) :: s10 :: s11 :: s12 :: s13 :: s14 :: s15 :: s16 :: s17 :: s18 :: s19 :: s20 :: s21 :: s22 :: s23 :: s24 :: s25 :: s26 :: s27 :: s28 :: s29 :: s30 :: s31 :: s32 :: s33 :: s34 :: s35 :: s36 :: s37 :: s38 :: s39 :: s40 :: s41 :: s42 :: s43 :: s44 :: s45 :: s46 :: s47 :: s48 :: s49 :: s50 :: s51 :: s52 :: s53 :: s54 :: s55 :: s56 :: s57 :: s58 :: s59 :: s60 :: s61 :: s62 :: s63 :: s64 :: s65 :: s66 :: s67 :: s68 :: s69 :: s70 :: s71 :: s72 :: s73 :: s74 :: s75 :: s76 :: s77 :: s78 :: s79 :: s80 :: s81 :: s82 :: s83 :: s84 :: s85 :: .pointer (some ⟨ob, 4, none⟩) :: u87 :: .slice (some ⟨gp, op, none⟩) LL ep :: .int .i64 (i : Int) :: .pointer (some ⟨gp, op + i * 5, none⟩) :: .pointer (some ⟨gp, op + i * 5, none⟩) :: .string cd :: u93 :: u94 :: u95 :: s96 :: s97 :: s98 :: s99 :: s100 :: []), []⟩ wx) :
    (regionOf Tryz.f14 19).wp Tryz.prog Q ⟨List.toArray (s0 :: s1 :: s2 :: s3 :: .slice (some ⟨gp, op, none⟩) LL ep :: s5 :: s6 :: .pointer (some ⟨ob, 0, none⟩) :: s8 :: .int .i64 (i : Int) :: s10 :: s11 :: s12 :: s13 :: s14 :: s15 :: s16 :: s17 :: s18 :: s19 :: s20 :: s21 :: s22 :: s23 :: s24 :: s25 :: s26 :: s27 :: s28 :: s29 :: s30 :: s31 :: s32 :: s33 :: s34 :: s35 :: s36 :: s37 :: s38 :: s39 :: s40 :: s41 :: s42 :: s43 :: s44 :: s45 :: s46 :: s47 :: s48 :: s49 :: s50 :: s51 :: s52 :: s53 :: s54 :: s55 :: s56 :: s57 :: s58 :: s59 :: s60 :: s61 :: s62 :: s63 :: s64 :: s65 :: s66 :: s67 :: s68 :: s69 :: s70 :: s71 :: s72 :: s73 :: s74 :: s75 :: s76 :: s77 :: s78 :: s79 :: s80 :: s81 :: s82 :: s83 :: s84 :: s85 :: s86 :: s87 :: s88 :: s89 :: s90 :: s91 :: s92 :: s93 :: s94 :: s95 :: s96 :: s97 :: s98 :: s99 :: s100 :: []), []⟩ W2 := by
  refine of_onlyN (K := Q .normal) ?_ (fun _ _ h => h)
  generalize Q .normal = K at hQ ⊢
  have HQ := Lib.hid hQ; clear hQ
  have hil1 : (i : Int) < (LL : Int) := by omega
  have hil0 : (0 : Int) ≤ (i : Int) := by omega
  have hr0 := hr.below (Below.refl _ _).drew
  have hol := hr.r7.ol
  conv => arg 2; whnf
  have hS0 : W2.drew.cell? ⟨gp, op + i * 5, none⟩ = some (.string cd) := hcd
  refine wp_region_par (S := fun w' => w'.cell? ⟨gp, op + i * 5, none⟩ = some (.string cd)) (I := fun L' a w => ∃ u87 u93 u94 u95 : Value, a = ⟨List.toArray (s0 :: s1 :: s2 :: s3 :: .slice (some ⟨gp, op, none⟩) LL ep :: s5 :: s6 :: .pointer (some ⟨ob, 0, none⟩) :: s8 :: .int .i64 (i : Int) :: s10 :: s11 :: s12 :: s13 :: s14 :: s15 :: s16 :: s17 :: s18 :: s19 :: s20 :: s21 :: s22 :: s23 :: s24 :: s25 :: s26 :: s27 :: s28 :: s29 :: s30 :: s31 :: s32 :: s33 :: s34 :: s35 :: s36 :: s37 :: s38 :: s39 :: s40 :: s41 :: s42 :: s43 :: s44 :: s45 :: s46 :: s47 :: s48 :: s49 :: s50 :: s51 :: s52 :: s53 :: s54 :: s55 :: s56 :: s57 :: s58 :: s59 :: s60 :: s61 :: s62 :: s63 :: s64 :: s65 :: s66 :: s67 :: s68 :: s69 :: s70 :: s71 :: s72 :: s73 :: s74 :: s75 :: s76 :: s77 :: s78 :: s79 :: s80 :: s81 :: s82 :: s83 :: s84 :: s85 :: .pointer (some ⟨ob, 4, none⟩) :: u87 :: .slice (some ⟨gp, op, none⟩) LL ep :: .int .i64 (i : Int) :: .pointer (some ⟨gp, op + i * 5, none⟩) :: .pointer (some ⟨gp, op + i * 5, none⟩) :: .string cd :: u93 :: u94 :: u95 :: s96 :: s97 :: s98 :: s99 :: s100 :: []), []⟩ ∧ w.cell? ⟨gp, op + i * 5, none⟩ = some (.string cd) ∧ (L'.getD 8 false = false → RoundSt W B d A n c k v L ob o w) ∧ (L'.getD 1 false = true → u87 = (.slice o.np o.needs.length o.nc)) ∧ (L'.getD 7 false = true → L'.getD 8 false = false → OneT w cd u93) ∧ (L'.getD 8 false = true → L'.getD 10 false = false → Added W B d A n c k v L ob o cd u94 w) ∧ (L'.getD 10 false = true → MoreN W B d A n c k v L ob w) ∧ (L'.getD 9 false = true → u95 = .pointer (some ⟨ob, 4, none⟩))) (pre := fun j L' => L'.size == 11 && !L'.getD 10 false && ((j == 1 && !L'.getD 8 false) || (j == 7 && !L'.getD 8 false) || (j == 8 && L'.getD 1 false && L'.getD 7 false && !L'.getD 8 false) || (j == 9 && L'.getD 8 false) || (j == 10 && L'.getD 8 false && L'.getD 9 false))) (fin := fun L' => L'.getD 10 false) [0, 2, 3, 4, 5, 6] 5 (by kernel_rfl) (by kernel_rfl) (by kernel_rfl) (by kernel_rfl) (by decide) hS0 ?_ ?_ ?_
  · intro j L' a w hp hI
    obtain ⟨u87, u93, u94, u95, rfl, hcw, h8, h1, h7, hA, hF, h9⟩ := hI
    simp only [Bool.and_eq_true, Bool.or_eq_true, beq_iff_eq, Bool.not_eq_true'] at hp
    obtain ⟨⟨hsz, h10⟩, hp⟩ := hp
    rcases hp with ((((⟨rfl, q8⟩ | ⟨rfl, q8⟩) | ⟨⟨⟨rfl, p1⟩, p7⟩, q8⟩) | ⟨rfl, p8⟩) | ⟨⟨rfl, p8⟩, p9⟩)
    · have g1 : (L'.setIfInBounds 1 true).getD 1 false = true := by rw [up_set, if_pos ⟨rfl, by omega⟩]
      have g7 : (L'.setIfInBounds 1 true).getD 7 false = L'.getD 7 false := by rw [up_set, if_neg (by omega)]
      have g8 : (L'.setIfInBounds 1 true).getD 8 false = L'.getD 8 false := by rw [up_set, if_neg (by omega)]
      have g9 : (L'.setIfInBounds 1 true).getD 9 false = L'.getD 9 false := by rw [up_set, if_neg (by omega)]
      have g10 : (L'.setIfInBounds 1 true).getD 10 false = L'.getD 10 false := by rw [up_set, if_neg (by omega)]
      have hr := h8 q8
      have hbc : w.cell? ⟨ob, 4, none⟩ = some (.slice o.np o.needs.length o.nc) := hr.r7.cell 4
      refine par_run ⟨some 87, _, _, _, _, _⟩ (.slice o.np o.needs.length o.nc) w rfl (by rfl) (by go_simp) ?_
      exact ⟨hcw, (.slice o.np o.needs.length o.nc), u93, u94, u95, by simp only [Act.put, List.setIfInBounds_toArray, List.set_cons_zero, List.set_cons_succ], hcw, by rw [g8]; exact h8, fun _ => rfl, by rw [g7, g8]; exact h7, by rw [g8, g10]; exact hA, by rw [g10]; exact hF, by rw [g9]; exact h9⟩
    · have g1 : (L'.setIfInBounds 7 true).getD 1 false = L'.getD 1 false := by rw [up_set, if_neg (by omega)]
      have g7 : (L'.setIfInBounds 7 true).getD 7 false = true := by rw [up_set, if_pos ⟨rfl, by omega⟩]
      have g8 : (L'.setIfInBounds 7 true).getD 8 false = L'.getD 8 false := by rw [up_set, if_neg (by omega)]
      have g9 : (L'.setIfInBounds 7 true).getD 9 false = L'.getD 9 false := by rw [up_set, if_neg (by omega)]
      have g10 : (L'.setIfInBounds 7 true).getD 10 false = L'.getD 10 false := by rw [up_set, if_neg (by omega)]
      have hr := h8 q8
      have hb := below_alloc1 w (.cells #[.string cd] 9)
      have hcn : (w.alloc (.cells #[.string cd] 9)).cell? ⟨gp, op + i * 5, none⟩ = some (.string cd) := (hb.cell (p := ⟨gp, op + i * 5, none⟩) (by have := (Array.getElem?_eq_some_iff.1 hr.r7.box).1; show gp < w.heap.size; omega)).trans hcw
      refine par_run ⟨some 93, _, _, _, _, _⟩ (.slice (some ⟨w.heap.size, 0, none⟩) 1 1) (w.alloc (.cells #[.string cd] 9)) rfl (by rfl) (by go_simp) ?_
      exact ⟨hcn, u87, (.slice (some ⟨w.heap.size, 0, none⟩) 1 1), u94, u95, by simp only [Act.put, List.setIfInBounds_toArray, List.set_cons_zero, List.set_cons_succ], hcn, by rw [g8]; exact fun e => (h8 e).below hb, by rw [g1]; exact h1, fun _ _ => ⟨w.heap.size, rfl, rowIn_lit (enc := encT) (e := 9) w [cd] #[.string cd] w.heap.size rfl rfl 1 rfl⟩, by rw [g8, g10]; exact (fun e => absurd e (by rw [q8]; decide)), by rw [g10]; exact (fun e => absurd e (by rw [h10]; decide)), by rw [g9]; exact h9⟩
    · have g1 : (L'.setIfInBounds 8 true).getD 1 false = L'.getD 1 false := by rw [up_set, if_neg (by omega)]
      have g7 : (L'.setIfInBounds 8 true).getD 7 false = L'.getD 7 false := by rw [up_set, if_neg (by omega)]
      have g8 : (L'.setIfInBounds 8 true).getD 8 false = true := by rw [up_set, if_pos ⟨rfl, by omega⟩]
      have g9 : (L'.setIfInBounds 8 true).getD 9 false = L'.getD 9 false := by rw [up_set, if_neg (by omega)]
      have g10 : (L'.setIfInBounds 8 true).getD 10 false = L'.getD 10 false := by rw [up_set, if_neg (by omega)]
      have hr := h8 q8
      have e1 := h1 p1
      subst e1
      obtain ⟨b, rfl, hrow⟩ := h7 p7 q8
      refine par_op ⟨some 94, _, _, _, _, _⟩ rfl (by rfl) (wp_append_row strT (.tmp 87) (.tmp 93) (by rfl) B _ _ o.needs [cd] (by rfl) (by rfl) hr.r7.nd hrow (by simp; omega) (by have := (Array.getElem?_eq_some_iff.1 hr.r7.box).1; omega) ?_)
      intro v9 w9 hA9
      obtain ⟨p9, c9, rfl⟩ := own_form hA9.own
      simp only [List.length_append, List.length_singleton] at hA9 ⊢
      have hcn : w9.cell? ⟨gp, op + i * 5, none⟩ = some (.string cd) := hA9.grown.cell hcw (fun e => hgn e.symm)
      exact ⟨hcn, (.slice o.np o.needs.length o.nc), (.slice (some ⟨b, 0, none⟩) 1 1), (.slice p9 (o.needs.length + 1) c9), u95, by simp only [Act.put, List.setIfInBounds_toArray, List.set_cons_zero, List.set_cons_succ], hcn, (fun e => absurd e (by rw [g8]; decide)), by rw [g1]; exact h1, (fun _ e => absurd e (by rw [g8]; decide)), fun _ _ => ⟨w, p9, c9, rfl, hr, hA9⟩, by rw [g10]; exact (fun e => absurd e (by rw [h10]; decide)), by rw [g9]; exact h9⟩
    · have g1 : (L'.setIfInBounds 9 true).getD 1 false = L'.getD 1 false := by rw [up_set, if_neg (by omega)]
      have g7 : (L'.setIfInBounds 9 true).getD 7 false = L'.getD 7 false := by rw [up_set, if_neg (by omega)]
      have g8 : (L'.setIfInBounds 9 true).getD 8 false = L'.getD 8 false := by rw [up_set, if_neg (by omega)]
      have g9 : (L'.setIfInBounds 9 true).getD 9 false = true := by rw [up_set, if_pos ⟨rfl, by omega⟩]
      have g10 : (L'.setIfInBounds 9 true).getD 10 false = L'.getD 10 false := by rw [up_set, if_neg (by omega)]
      refine par_run ⟨some 95, _, _, _, _, _⟩ (.pointer (some ⟨ob, 4, none⟩)) w rfl (by rfl) (by go_simp) ?_
      exact ⟨hcw, u87, u93, u94, (.pointer (some ⟨ob, 4, none⟩)), by simp only [Act.put, List.setIfInBounds_toArray, List.set_cons_zero, List.set_cons_succ], hcw, by rw [g8]; exact h8, by rw [g1]; exact h1, by rw [g7, g8]; exact h7, by rw [g8, g10]; exact hA, by rw [g10]; exact hF, fun _ => rfl⟩
    · have g1 : (L'.setIfInBounds 10 true).getD 1 false = L'.getD 1 false := by rw [up_set, if_neg (by omega)]
      have g7 : (L'.setIfInBounds 10 true).getD 7 false = L'.getD 7 false := by rw [up_set, if_neg (by omega)]
      have g8 : (L'.setIfInBounds 10 true).getD 8 false = L'.getD 8 false := by rw [up_set, if_neg (by omega)]
      have g9 : (L'.setIfInBounds 10 true).getD 9 false = L'.getD 9 false := by rw [up_set, if_neg (by omega)]
      have g10 : (L'.setIfInBounds 10 true).getD 10 false = true := by rw [up_set, if_pos ⟨rfl, by omega⟩]
      have e9 := h9 p9
      subst e9
      have ha := hA p8 h10
      have hbx := ha.box
      obtain ⟨w0, q9, c9, rfl, hr, hA9⟩ := ha
      have hzc : ∀ j, w.cell? ⟨ob, j, none⟩ = (#[.string o.code, .int .i64 o.credits, .int .i64 o.places, .slice o.sp o.slots.length o.sc, .slice o.np o.needs.length o.nc] : Array Value)[j]? := fun j => Lib.cell_of_heap hbx j
      have hzf : ∀ j, w.frozen? ⟨ob, j, none⟩ = false := fun j => Lib.frozen_of_heap hbx j
      have hne : gp ≠ ob := by omega
      have hcn : (w.setCell ⟨ob, 4, none⟩ (.slice q9 (o.needs.length + 1) c9)).cell? ⟨gp, op + i * 5, none⟩ = some (.string cd) := (World.cell?_of_block (a := ⟨gp, op + i * 5, none⟩) (Below.heap_setCell _ _ _ _ hne)).trans hcw
      have hmore : MoreN W B d A n c k v L ob (w.setCell ⟨ob, 4, none⟩ (.slice q9 (o.needs.length + 1) c9)) := ⟨_, hr.r7.need hA9, { hr.good with nd := by show (o.needs ++ [cd]).length ≤ 2; rw [List.length_append]; show o.needs.length + 1 ≤ 2; omega }, hr.code⟩
      refine par_store ⟨none, _, _, _, _, _⟩ (w.setCell ⟨ob, 4, none⟩ (.slice q9 (o.needs.length + 1) c9)) rfl (by rfl) ⟨hcn, u87, u93, (.slice q9 (o.needs.length + 1) c9), (.pointer (some ⟨ob, 4, none⟩)), rfl, hcn, (fun e => absurd e (by rw [g8, p8]; decide)), by rw [g1]; exact h1, (fun _ e => absurd e (by rw [g8, p8]; decide)), (fun _ e => absurd e (by rw [g10]; decide)), fun _ => hmore, fun _ => rfl⟩ (fun K' hk' => ?_)
      unfold Oper.wp
      go_simp
      exact hk'
  · intro L' a w hp hI
    obtain ⟨u87, u93, u94, u95, rfl, _, _, _, _, _, hF, _⟩ := hI
    exact HQ.out _ _ _ _ w (hF hp)
  · refine par_take ⟨some 86, _, _, _, _, _⟩ ?_ rfl (by rfl) ?_ ?_
    rotate_left 1
    · intro w hSw; (try dsimp only at hSw); go_simp; (try with_reducible rfl)
    simp only [Act.put, List.setIfInBounds_toArray, List.set_cons_zero, List.set_cons_succ]
    refine par_take ⟨some 88, _, _, _, _, _⟩ ?_ rfl (by rfl) ?_ ?_
    rotate_left 1
    · intro w hSw; (try dsimp only at hSw); go_simp; (try with_reducible rfl)
    simp only [Act.put, List.setIfInBounds_toArray, List.set_cons_zero, List.set_cons_succ]
    refine par_take ⟨some 89, _, _, _, _, _⟩ ?_ rfl (by rfl) ?_ ?_
    rotate_left 1
    · intro w hSw; (try dsimp only at hSw); go_simp; (try with_reducible rfl)
    simp only [Act.put, List.setIfInBounds_toArray, List.set_cons_zero, List.set_cons_succ]
    refine par_take ⟨some 90, _, _, _, _, _⟩ ?_ rfl (by rfl) ?_ ?_
    rotate_left 1
    · intro w hSw; (try dsimp only at hSw); go_simp; (try with_reducible rfl)
    simp only [Act.put, List.setIfInBounds_toArray, List.set_cons_zero, List.set_cons_succ]
    refine par_take ⟨some 91, _, _, _, _, _⟩ ?_ rfl (by rfl) ?_ ?_
    rotate_left 1
    · intro w hSw; (try dsimp only at hSw); go_simp; (try with_reducible rfl)
    simp only [Act.put, List.setIfInBounds_toArray, List.set_cons_zero, List.set_cons_succ]
    refine par_take ⟨some 92, _, _, _, _, _⟩ ?_ rfl (by rfl) ?_ ?_
    rotate_left 1
    · intro w hSw; (try dsimp only at hSw); go_simp; (try with_reducible rfl)
    simp only [Act.put, List.setIfInBounds_toArray, List.set_cons_zero, List.set_cons_succ]
    exact ⟨_, _, _, _, rfl, hS0, (fun _ => hr0), (fun e => absurd e (by decide +kernel)), (fun e => absurd e (by decide +kernel)), (fun e => absurd e (by decide +kernel)), (fun e => absurd e (by decide +kernel)), (fun e => absurd e (by decide +kernel))⟩
end Go.Proofs.YteopjiedjnaeiaaGreat
namespace Go.Proofs.YteopjiedjnaeiaaGreat
open Go Go.Proofs Go.RowKit Go.Maps Go.Sort Go.Lib

/-- Between two rounds. -/
def MadeSt (W : World) (d : Nat) (A : Option Addr) (n c k : Nat) (v : Value) (w : World) : Prop := ∃ (L : List Off) (p : Option Addr) (e : Nat), v = .slice p L.length e ∧ GoodL k L ∧ MS W d A n c (.slice p L.length e) L w
def Made07Post (w : World) (x : Ending) (w' : World) : Prop := ∃ v L, x = .returned v ∧ RowIn Off.cells w' v L ∧ (∀ o ∈ L, OffOk w' o) ∧ GoodL 6 L ∧ RowKit.Below w.heap.size w w'
section
variable {W w w' : World} {B d n c k ob : Nat} {A : Option Addr} {v : Value} {L : List Off} {o : Off}
def SlotSt (W : World) (B d : Nat) (A : Option Addr) (n c k : Nat) (v : Value) (L : List Off) (ob s : Nat) (w : World) : Prop := ∃ o, RoundSt W B d A n c k v L ob o w ∧ (s = 0 ∨ o.slots.length < s)
theorem own_last {w : World} {base k : Nat} {e : TypeId} {p : Option Addr} {cp : Nat} {l : List Int} {x : Int} (h : w.ownsRow base e 1 (.slice p (l.length + 1) cp) (l.length + 1) (flatE encI (l ++ [x]))) (_hk : k = l.length) : ∃ g, p = some ⟨g, 0, none⟩ ∧ w.cell? ⟨g, k, none⟩ = some (.int .i64 x) ∧ l.length + 1 ≤ cp := by
  subst _hk
  rcases h.2 with ⟨_, h0⟩ | ⟨g, cap, cur, hv, _, hg, h2, _, _, h5⟩
  · omega
  · injection hv with e1 e2 e3
    subst e1; subst e3
    refine ⟨g, rfl, ?_, h2⟩
    have hl : (flatE encI (l ++ [x])).length = l.length + 1 := by rw [flatE_len (k := 1) (fun _ => rfl)]; simp
    have hx : (flatE encI (l ++ [x]))[l.length]? = some (.int .i64 x) := by
      have := flatE_at (enc := encI) (k := 1) (fun _ => rfl) (L := l ++ [x]) (i := l.length) (j := 0) (x := x) (u := .int .i64 x) (by simp) rfl
      simpa using this
    rw [Lib.cell_of_heap hg]
    rw [← h5, List.getElem?_take] at hx
    split at hx
    · simpa using hx
    · cases hx
end
set_option maxHeartbeats 8000000 in
set_option maxRecDepth 100000 in
theorem made07_any (A : Option Addr) (n c : Nat) (w : World) (hin : IntsIn w.heap.size A n w) :
    Calls Tryz.prog 14 #[.slice A n c] w (Made07Post w) := by
  have hb0 := below_alloc1 w (.cells #[.slice A n c, .int .i64 0] 83)
  have hd0 : DrawS w.heap.size A n c (w.alloc (.cells #[.slice A n c, .int .i64 0] 83)) := ⟨0, Nat.zero_le _, heap_alloc_new w _⟩
  have hi0 := hin.below hb0
  clear hin
  go_enter Tryz.func14, Tryz.ntmps14
  go_wp2_with fail
  refine (codes_any _).mono ?_
  rintro _ w1 ⟨rfl, hw1⟩
  have hb1 : RowKit.Below (w.alloc (.cells #[.slice A n c, .int .i64 0] 83)).heap.size (w.alloc (.cells #[.slice A n c, .int .i64 0] 83)) w1 := by rw [hw1]; exact below_alloc1 _ _
  have hcod : w1.heap[(w.alloc (.cells #[.slice A n c, .int .i64 0] 83)).heap.size]? = some (.cells #[.string ⟨#[65, 49]⟩, .string ⟨#[66, 49]⟩, .string ⟨#[66, 50]⟩, .string ⟨#[67, 49]⟩, .string ⟨#[68, 49]⟩, .string ⟨#[69, 57]⟩] 9 (0, 0)) := by rw [hw1]; exact heap_alloc_new _ _
  have hszd : (w.alloc (.cells #[.slice A n c, .int .i64 0] 83)).heap.size = w.heap.size + 1 := by simp
  rw [hszd] at hcod
  have hd1 := hd0.below hb1
  have hi1 : IntsIn w.heap.size A n w1 := hi0.below (hb1.mono (by omega))
  have hB1 := below_next hb0 hb1
  have hcl := (Array.getElem?_eq_some_iff.1 hcod).1
  have HCOD := Lib.hid hcod
  have HI := Lib.hid hi1
  have hms : MS w1 w.heap.size A n c (.slice none 0 0) [] w1 := ⟨below_grows (Below.refl _ _), hd1, World.ownsRow_nil _ _ _ _, (fun o ho => (by cases ho)), hd1.lt⟩
  clear hb0 hb1 hd0 hd1 hi0 hi1 hw1 hcod hszd
  go_wp2_with fail
  go_loopw [4, 6] (fun v i wr => ∃ k : Nat, k ≤ 6 ∧ i = .int .i64 k ∧ MadeSt w1 w.heap.size A n c k v wr) (fun _ i _ => 6 - (RowKit.intOf i).toNat)
  case atStart => exact ⟨0, by omega, rfl, [], none, 0, rfl, ⟨(fun o ho => (by cases ho)), List.nil_sublist _⟩, hms⟩
  case round =>
    clear hms
    obtain ⟨k, hk, rfl, L, p, e, rfl, hg, hm⟩ := hrel
    have HG := Lib.hid hg
    have HM := Lib.hid hm
    have hLl := hg.len
    clear hg hm
    by_cases hk6 : k < 6
    · have hk6' : decide ((k : Int) < 6) = true := decide_eq_true (by omega)
      have cn := next_st w.heap.size A n c 5 wr (by omega) (by omega) HM.out.draw (HM.out.ints HI.out)
      go_wp2_with fail
      refine cn.mono ?_
      rintro _ w2 ⟨g, rfl, hg5, hdw, hs⟩
      have hm2 := HM.out.next hs hdw
      clear cn hdw hs
      by_cases hg4 : g = 4
      · subst hg4
        have HM2 := Lib.hid hm2
        clear hm2
        go_wp2_with fail
        go_roundw
        case rel => exact ⟨k + 1, by omega, by go_num, L, p, e, rfl, HG.out.skip, HM2.out⟩
        case measure => simp [RowKit.intOf]; omega
      · have hg4' : ((g : Int) == 4) = false := by simpa using (by omega : ¬ (g : Int) = 4)
        obtain ⟨cc, hcc⟩ : ∃ cc, codesL[k]? = some cc := ⟨_, List.getElem?_eq_getElem (by show k < 6; omega)⟩
        have hcell : w2.cell? ⟨w.heap.size + 1, k, none⟩ = some (.string cc) := by
          refine hm2.keep.cell ?_ (by simp)
          rw [Lib.cell_of_heap HCOD.out]
          have hkk : k = 0 ∨ k = 1 ∨ k = 2 ∨ k = 3 ∨ k = 4 ∨ k = 5 := by omega
          rcases hkk with rfl | rfl | rfl | rfl | rfl | rfl <;> (simp only [codesL] at hcc; injection hcc with hcc; subst hcc; rfl)
        have HCC := Lib.hid hcc
        have hcl2 : w.heap.size + 1 < w2.heap.size := Nat.lt_of_lt_of_le hcl hm2.keep.size
        have hdr2 := hm2.draw
        have hin2 := hm2.ints HI.out
        have HM2 := Lib.hid hm2
        clear hcc hm2 hg4
        go_wp2_with fail
        refine made07_r8 w.heap.size (w.heap.size + 1) k n c A cc w2 _ hdr2 hin2 hcl2 (by omega) hk6 hcell ?_
        intro u27 u29 u30 u31 u32 u34 u35 u36 u37 u7 w3 hst3 hbx3
        obtain ⟨ob, rfl, hob, _, hxy⟩ := hbx3
        obtain ⟨x, y, hbx, hx0, hx1, hy0, hy1⟩ := hxy rfl
        have hm3 := HM2.out.std hst3
        have hr3 : RoundSt w1 w2.heap.size w.heap.size A n c k (.slice p L.length e) L ob ⟨cc, x, y, none, 0, none, 0, [], []⟩ w3 :=
          ⟨R7.lit hst3.1.size hm3 (fun q hq => (HM2.out.mine hq).2) HM2.out.keep.size hob hbx, ⟨List.mem_of_getElem? HCC.out, hx0, hx1, hy0, hy1, by show 0 ≤ 4; omega, by show 0 ≤ 2; omega⟩, HCC.out⟩
        have HR3 := Lib.hid hr3
        clear hst3 hxy hbx hm3 hr3 hdr2 hin2 hcell
        have cn4 := next_st w.heap.size A n c 4 w3 (by omega) (by omega) HR3.out.r7.ms.draw (HR3.out.r7.ms.ints HI.out)
        go_wp2_with fail
        refine cn4.mono ?_
        rintro _ w4 ⟨s0, rfl, hs04, hdw4, hs4⟩
        have HR4 := Lib.hid (HR3.out.next hs4 hdw4)
        clear cn4 hdw4 hs4 HR3
        go_wp2_with fail
        go_loopw [8] (fun v wr => ∃ s : Nat, v = .int .i64 s ∧ s ≤ 4 ∧ SlotSt w1 w2.heap.size w.heap.size A n c k (.slice p L.length e) L ob s wr) (fun v _ => if RowKit.intOf v = 0 then 0 else (5 - RowKit.intOf v).toNat)
        case atStart => exact ⟨s0, rfl, by omega, _, HR4.out, by by_cases h : s0 = 0; exact .inl h; exact .inr (by show 0 < s0; omega)⟩
        case round =>
          clear HR4
          obtain ⟨s, rfl, hs4, o, hr, hsl⟩ := hrel
          have HR := Lib.hid hr
          clear hr
          by_cases hs0 : s = 0
          · subst hs0
            go_wp2_with fail
            go_loopw [9] (fun v wr => ∃ i : Nat, v = .int .i64 i ∧ i ≤ L.length ∧ SlotSt w1 w2.heap.size w.heap.size A n c k (.slice p L.length e) L ob 0 wr) (fun v _ => L.length - (RowKit.intOf v).toNat)
            case atStart => exact ⟨0, rfl, Nat.zero_le _, o, HR.out, .inl rfl⟩
            case round =>
              clear HR
              obtain ⟨i, rfl, hi, o, hr, _⟩ := hrel
              have HR := Lib.hid hr
              clear hr
              by_cases hil : i < L.length
              · have hil' : decide ((i : Int) < (L.length : Int)) = true := decide_eq_true (by omega)
                have cn3 := next_st w.heap.size A n c 3 wr (by omega) (by omega) HR.out.r7.ms.draw (HR.out.r7.ms.ints HI.out)
                go_wp2_with fail
                refine cn3.mono ?_
                rintro _ w5 ⟨g3, rfl, hg3, hdw5, hs5⟩
                have hr5 := HR.out.next hs5 hdw5
                have hc5 := hr5.r7.cell
                have HR5 := Lib.hid hr5
                clear cn3 hdw5 hs5 hr5
                by_cases hg0 : g3 = 0
                · subst hg0
                  by_cases hn2 : o.needs.length < 2
                  · have hn2' : decide ((o.needs.length : Int) < 2) = true := decide_eq_true (by omega)
                    obtain ⟨gp, op, ep, hvp, _, hgpl, hxp⟩ := (rowIn_own (enc := Off.cells) (fun _ => rfl) (by decide) HR5.out.r7.ms.rows).at_ (k := 5) (fun _ => rfl) (by omega)
                    have ep1 := (Value.slice.inj hvp).1
                    subst ep1
                    have hcd := hxp i L[i] (List.getElem?_eq_getElem hil) 0 _ rfl
                    generalize L[i].code = cd at hcd
                    rw [Nat.add_zero] at hcd
                    have hgp : gp < w2.heap.size := HR5.out.r7.lo gp (.inl rfl)
                    have hgn : (Value.slice o.np o.needs.length o.nc).ownBlock ≠ some gp := by
                      rcases own_own HR5.out.r7.nd HR5.out.r7.ms.rows (by decide) with h | h
                      · rw [h]; simp
                      · exact h
                    clear hvp hxp
                    go_wp2_with fail
                    refine made07_r19 w1 w2.heap.size w.heap.size n c k ob gp op i L.length e A (.slice (some ⟨gp, op, none⟩) L.length e) L o cd w5 _ HR5.out hcd hgp hgn hil hn2 ?_
                    intro u87 u93 u94 u95 wx hmore
                    obtain ⟨o', hr'⟩ := hmore
                    have HR' := Lib.hid hr'
                    clear hr' hc5 hcd hgp hgn
                    go_wp2_with fail
                    go_roundw
                    case rel => exact ⟨i + 1, by go_num, by omega, o', HR'.out, .inl rfl⟩
                    case measure => simp [RowKit.intOf]; omega
                  · have hn2' : decide ((o.needs.length : Int) < 2) = false := decide_eq_false (by omega)
                    go_wp2_with fail
                    go_roundw
                    case rel => exact ⟨i + 1, by go_num, by omega, o, HR5.out, .inl rfl⟩
                    case measure => simp [RowKit.intOf]; omega
                · have hg0' : ((g3 : Int) == 0) = false := by simpa using hg0
                  clear hg0
                  go_wp2_with fail
                  go_roundw
                  case rel => exact ⟨i + 1, by go_num, by omega, o, HR5.out, .inl rfl⟩
                  case measure => simp [RowKit.intOf]; omega
              · obtain rfl : i = L.length := by omega
                have hil' : decide ((L.length : Int) < (L.length : Int)) = false := decide_eq_false (by omega)
                have hc5 := HR.out.r7.cell
                have hb6 := below_alloc1 wr (.cells o.cells.toArray 57)
                have hr6 := HR.out.below hb6
                have hlit := rowIn_lit (enc := Off.cells) (e := 57) wr [o] o.cells.toArray wr.heap.size rfl (by simp [flatE]) 1 rfl
                have hown6 := hr6.r7.ms.rows
                have hsz6 : w1.heap.size ≤ (wr.alloc (.cells o.cells.toArray 57)).heap.size := hr6.r7.ms.keep.size
                have HR6 := Lib.hid hr6
                simp only [Off.cells] at hlit hown6 hsz6
                clear hr6 hb6
                go_wp2_with (at_builtin; refine wpList_append_row offT rfl (.tmp 96) (.tmp 98) rfl w1.heap.size _ _ L [o] rfl rfl hown6 hlit (by simp; omega) hsz6 ?_; intro v9 w9 hA9; obtain ⟨p9, c9, rfl⟩ := own_form hA9.own)
                have hms := HR6.out.r7.done hA9
                have hgl := HG.out.put HR6.out.good HR6.out.code
                simp only [List.length_append, List.length_singleton] at hms
                clear hA9 hown6 hlit
                go_wp2_with fail
                go_roundw
                case rel => exact ⟨k + 1, by omega, by go_num, L ++ [o], p9, c9, by simp, hgl, by simpa using hms⟩
                case measure => simp [RowKit.intOf]; omega
          · have hspos : decide (0 < (s : Int)) = true := decide_eq_true (by omega)
            have hlen : o.slots.length < s := hsl.resolve_left hs0
            have hb5 := below_alloc1 wr (.cells #[.int .i64 s] 3)
            have hr5 := HR.out.below hb5
            have hlit := rowIn_lit (enc := encI) (e := 3) wr [(s : Int)] #[.int .i64 s] wr.heap.size rfl rfl 1 rfl
            have hown5 := hr5.r7.sl
            have hbox := HR.out.r7.cell
            have hsz5 : w2.heap.size ≤ (wr.alloc (.cells #[.int .i64 s] 3)).heap.size := by have := (Array.getElem?_eq_some_iff.1 hr5.r7.box).1; omega
            have HR5 := Lib.hid hr5
            clear hr5 hsl
            go_wp2_with (at_builtin; refine wpList_append_row intT rfl (.tmp 43) (.tmp 45) rfl w2.heap.size _ _ o.slots [(s : Int)] rfl rfl hown5 hlit (by simp; omega) hsz5 ?_; intro v9 w9 hA9; obtain ⟨p9, c9, rfl⟩ := own_form hA9.own; have hbx9 := (hA9.grown.block ob (Array.getElem?_eq_some_iff.1 HR5.out.r7.box).1 (fun e => own_type hown5 HR5.out.r7.box (by decide) e.symm)).trans HR5.out.r7.box; have hc9 : ∀ j, w9.cell? ⟨ob, j, none⟩ = (#[.string o.code, .int .i64 o.credits, .int .i64 o.places, .slice o.sp o.slots.length o.sc, .slice o.np o.needs.length o.nc] : Array Value)[j]? := fun j => Lib.cell_of_heap hbx9 j; have hf9 : ∀ j, w9.frozen? ⟨ob, j, none⟩ = false := fun j => Lib.frozen_of_heap hbx9 j)
            simp only [List.length_append, List.length_singleton] at hA9
            have hr9 := HR5.out.r7.slot hA9
            have hro : RoundSt w1 w2.heap.size w.heap.size A n c k (.slice p L.length e) L ob { o with sp := p9, sc := c9, slots := o.slots ++ [(s : Int)] } (w9.setCell ⟨ob, 3, none⟩ (.slice p9 (o.slots.length + 1) c9)) :=
              ⟨hr9, { HR5.out.good with sl := by show (o.slots ++ [(s : Int)]).length ≤ 4; rw [List.length_append]; show o.slots.length + 1 ≤ 4; omega }, HR5.out.code⟩
            have cn2 := next_st w.heap.size A n c 2 (w9.setCell ⟨ob, 3, none⟩ (.slice p9 (o.slots.length + 1) c9)) (by omega) (by omega) hro.r7.ms.draw (hro.r7.ms.ints HI.out)
            refine cn2.mono ?_
            rintro _ w11 ⟨g2, rfl, hg2, hdw11, hs11⟩
            have hr11 := hro.next hs11 hdw11
            have hc11 := hr11.r7.cell
            have hsl11 := hr11.r7.sl
            have e1 : (o.slots ++ [(s : Int)]).length = o.slots.length + 1 := by simp
            simp only [e1] at hc11 hsl11
            obtain ⟨gs, rfl, hlast, hlc⟩ := own_last hsl11 rfl
            have HR11 := Lib.hid hr11
            clear hr11 hsl11 hro cn2 hr9 hA9 hbx9 hc9 hf9 hown5 hlit hbox hb5 hdw11 hs11
            have hgg : g2 = 0 ∨ g2 = 1 := by omega
            rcases hgg with rfl | rfl
            · go_wp2_with fail
              go_roundw
              case rel => exact ⟨0, rfl, by omega, _, HR11.out, .inl rfl⟩
              case measure => simp [RowKit.intOf, hs0]; omega
            · by_cases hs44 : s < 4
              · have hs4' : decide ((s : Int) < 4) = true := decide_eq_true (by omega)
                go_wp2_with fail
                go_roundw
                case rel => exact ⟨s + 1, by go_num, by omega, _, HR11.out, .inr (by show (o.slots ++ [(s : Int)]).length < s + 1; rw [e1]; omega)⟩
                case measure =>
                  have hs1 : ¬ ((s : Int) + 1 = 0) := by omega
                  simp [RowKit.intOf, hs0, hs1]; omega
              · have hs4' : decide ((s : Int) < 4) = false := decide_eq_false (by omega)
                go_wp2_with fail
                go_roundw
                case rel => exact ⟨0, rfl, by omega, _, HR11.out, .inl rfl⟩
                case measure => simp [RowKit.intOf, hs0]; omega
    · obtain rfl : k = 6 := by omega
      go_wp2_with fail
      go_ret
      have hm := HM.out
      refine ⟨_, L, rfl, rowIn_own (fun _ => rfl) (by decide) hm.rows, fun o ho => ⟨rowIn_own (fun _ => rfl) (by decide) (hm.ok o ho).1, rowIn_own (fun _ => rfl) (by decide) (hm.ok o ho).2⟩, HG.out, ?_⟩
      exact hB1.grown hm.keep hB1.size (fun q hq => by injection hq with hq; omega)
end Go.Proofs.YteopjiedjnaeiaaGreat
