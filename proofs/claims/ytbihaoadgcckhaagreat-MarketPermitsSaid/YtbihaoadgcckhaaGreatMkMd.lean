/- quadriviumref07.Made: a catalog that numbers make; its first statement of a round, in whatever order. -/
import Derived.Test.YtbihaoadgcckhaaGreatMkSn
import Derived.Test.YtbihaoadgcckhaaGreatWPar
namespace Go.Proofs.YtbihaoadgcckhaaGreat
open Go Go.Proofs Go.RowKit Go.Maps Go.Sort Go.Lib

/-- Worlds behind W in which only the draw has moved. -/
def StD (W : World) (d : Nat) (A : Option Addr) (n c : Nat) (w : World) : Prop := W.grownBy w (some d) ∧ DrawS d A n c w
section
variable {W w w' : World} {d n c : Nat} {A : Option Addr} {u : Value} {l : List Int} {cc : ByteArray}
theorem StD.step (h : StD W d A n c w) (hs : w.grownBy w' (some d)) (hd : DrawS d A n c w') : StD W d A n c w' := ⟨grows_trans h.1 hs, hd⟩
theorem DrawS.lt (h : DrawS d A n c w) : d < w.heap.size := by
  obtain ⟨_, _, h⟩ := h
  exact (Array.getElem?_eq_some_iff.1 h).1
theorem DrawS.below (h : DrawS d A n c w) (hb : RowKit.Below w.heap.size w w') : DrawS d A n c w' := by
  obtain ⟨k, hk, hh⟩ := h
  exact ⟨k, hk, (hb.block d (Array.getElem?_eq_some_iff.1 hh).1).trans hh⟩
theorem StD.below (h : StD W d A n c w) (hb : RowKit.Below w.heap.size w w') : StD W d A n c w' := ⟨grows_trans h.1 (below_grows hb), h.2.below hb⟩
theorem StD.set (h : StD W d A n c w) (hd : d < W.heap.size) {b : Nat} (hb : W.heap.size ≤ b) (j : Nat) (u : Value) : StD W d A n c (w.setCell ⟨b, j, none⟩ u) := by
  refine ⟨grow_keep h.1 (Only.setCell w b j u 0) (fun q hq => by injection hq with hq; omega), ?_⟩
  obtain ⟨k, hk, hh⟩ := h.2
  exact ⟨k, hk, by unfold DrawAt at hh ⊢; rw [Below.heap_setCell _ _ _ _ (by show d ≠ b; omega)]; exact hh⟩
def Six (W w : World) (u : Value) (l : List Int) : Prop := ∃ b, u = .slice (some ⟨b, 0, none⟩) 6 6 ∧ W.heap.size ≤ b ∧ w.heap[b]? = some (.cells (l.map (Value.int .i64)).toArray 3 (0, 0))
def SixAt (W w : World) (u : Value) (l : List Int) : Prop := ∃ b g : Nat, u = .pointer (some ⟨b, g, none⟩) ∧ g < 6 ∧ W.heap.size ≤ b ∧ w.heap[b]? = some (.cells (l.map (Value.int .i64)).toArray 3 (0, 0))
theorem Six.step (h : Six W w u l) (hs : w.grownBy w' (some d)) (hd : d < W.heap.size) : Six W w' u l := by
  obtain ⟨b, h1, h2, h3⟩ := h
  exact ⟨b, h1, h2, (hs.block b (Array.getElem?_eq_some_iff.1 h3).1 (by simp; omega)).trans h3⟩
theorem SixAt.step (h : SixAt W w u l) (hs : w.grownBy w' (some d)) (hd : d < W.heap.size) : SixAt W w' u l := by
  obtain ⟨b, g, h1, h0, h2, h3⟩ := h
  exact ⟨b, g, h1, h0, h2, (hs.block b (Array.getElem?_eq_some_iff.1 h3).1 (by simp; omega)).trans h3⟩
def Below6 (u : Value) : Prop := ∃ g : Nat, u = .int .i64 g ∧ g < 6
def Small20 (u : Value) : Prop := ∃ x : Int, u = .int .i64 x ∧ 0 ≤ x ∧ x ≤ 20
def Small200 (u : Value) : Prop := ∃ x : Int, u = .int .i64 x ∧ 0 ≤ x ∧ x ≤ 200
def BuiltO (cc : ByteArray) (u : Value) : Prop := ∃ x y : Int, u = .agg #[.string cc, .int .i64 x, .int .i64 y, .slice none 0 0, .slice none 0 0] ∧ 0 ≤ x ∧ x ≤ 20 ∧ 0 ≤ y ∧ y ≤ 200
def BoxO (W : World) (cc : ByteArray) (st : Bool) (u : Value) (w : World) : Prop := ∃ b, u = .pointer (some ⟨b, 0, none⟩) ∧ W.heap.size ≤ b ∧ (st = false → w.heap[b]? = some (.cells #[.string ⟨#[]⟩, .int .i64 0, .int .i64 0, .slice none 0 0, .slice none 0 0] 52 (0, 0))) ∧
  (st = true → ∃ x y : Int, w.heap[b]? = some (.cells #[.string cc, .int .i64 x, .int .i64 y, .slice none 0 0, .slice none 0 0] 52 (0, 0)) ∧ 0 ≤ x ∧ x ≤ 20 ∧ 0 ≤ y ∧ y ≤ 200)
theorem BoxO.step {st : Bool} (h : BoxO W cc st u w) (hs : w.grownBy w' (some d)) (hd : d < W.heap.size) : BoxO W cc st u w' := by
  obtain ⟨b, h1, h2, h3, h4⟩ := h
  refine ⟨b, h1, h2, fun e => ?_, fun e => ?_⟩
  · have h := h3 e
    exact (hs.block b (Array.getElem?_eq_some_iff.1 h).1 (by simp; omega)).trans h
  · obtain ⟨x, y, h, hr⟩ := h4 e
    exact ⟨x, y, (hs.block b (Array.getElem?_eq_some_iff.1 h).1 (by simp; omega)).trans h, hr⟩
theorem six_cr {g : Nat} (hg : g < 6) : ∃ x : Int, ([5, 6, 3, 10, 5, 20] : List Int)[g]? = some x ∧ 0 ≤ x ∧ x ≤ 20 := by
  have h : g = 0 ∨ g = 1 ∨ g = 2 ∨ g = 3 ∨ g = 4 ∨ g = 5 := by omega
  rcases h with rfl | rfl | rfl | rfl | rfl | rfl <;> exact ⟨_, rfl, by omega, by omega⟩
theorem six_pl {g : Nat} (hg : g < 6) : ∃ x : Int, ([2, 1, 0, 30, 200, 3] : List Int)[g]? = some x ∧ 0 ≤ x ∧ x ≤ 200 := by
  have h : g = 0 ∨ g = 1 ∨ g = 2 ∨ g = 3 ∨ g = 4 ∨ g = 5 := by omega
  rcases h with rfl | rfl | rfl | rfl | rfl | rfl <;> exact ⟨_, rfl, by omega, by omega⟩
theorem six_cell {b g : Nat} {x : Int} (h : w.heap[b]? = some (.cells (l.map (Value.int .i64)).toArray 3 (0, 0))) (hx : l[g]? = some x) : w.cell? ⟨b, g, none⟩ = some (.int .i64 x) := by
  rw [Lib.cell_of_heap h]; simp [hx]
end
set_option maxHeartbeats 16000000 in
set_option maxRecDepth 100000 in
theorem made07_r8 {s0 s1 s2 s4 s7 s8 s9 s10 s11 s12 s13 s14 s15 s16 s17 s18 s19 s20 s21 s22 s23 s24 s25 s26 s27 s28 s29 s30 s31 s32 s33 s34 s35 s36 s37 s38 s39 s40 s41 s42 s43 s44 s45 s46 s47 s48 s49 s50 s51 s52 s53 s54 s55 s56 s57 s58 s59 s60 s61 s62 s63 s64 s65 s66 s67 s68 s69 s70 s71 s72 s73 s74 s75 s76 s77 s78 s79 s80 s81 s82 s83 s84 s85 s86 s87 s88 s89 s90 s91 s92 s93 s94 s95 s96 s97 s98 s99 s100 : Value} (d cb k n c : Nat) (A : Option Addr) (cc : ByteArray) (W : World) (Q : Exit → Act → World → Prop) (hdr : DrawS d A n c W) (hin : IntsIn d A n W) (_hcbl : cb < W.heap.size) (hcd : cb ≠ d) (hk : k < 6) (hcb : W.cell? ⟨cb, k, none⟩ = some (.string cc))
    (hQ : ∀ (u27 u29 u30 u31 u32 u34 u35 u36 u37 u7 : Value) (wx : World), StD W d A n c wx → BoxO W cc true u7 wx → Q .normal ⟨List.toArray (s0 :: s1 :: s2 :: .pointer (some ⟨d, 0, none⟩) :: s4 :: .slice (some ⟨cb, 0, none⟩) 6 6 :: .int .i64 (k : Int) :: u7 :: s8 :: s9 :: s10 :: s11 :: s12 :: s13 :: s14 :: s15 :: s16 :: s17 :: s18 :: s19 :: s20 :: s21 :: s22 :: .slice (some ⟨cb, 0, none⟩) 6 6 :: .int .i64 (k : Int) :: .pointer (some ⟨cb, k, none⟩) :: .string cc :: u27 :: .pointer (some ⟨d, 0, none⟩) :: u29 :: u30 :: u31 :: u32 :: .pointer (some ⟨d, 0, none⟩) :: u34 :: u35 :: u36 :: u37 :: s38 :: s39 :: s40 :: s41 :: s42 :: s43 :: s44 :: s45 :: s46 :: s47 :: s48 :: s49 :: s50 :: s51 :: s52 :: s53 :: s54 :: s55 :: s56 :: s57 :: s58 :: s59 :: s60 :: s61 :: s62 :: s63 :: s64 :: s65 :: s66 :: s67 :: s68 :: s69 :: s70 :: s71 :: s72 :: s73 :: s74 :: s75 :: s76 :: s77 :: s78 :: s79 :: s80 :: s81 :: s82 :: s83 :: s84 :: s85 :: s86 :: s87 :: s88 :: s89 :: s90 :: s91 :: s92 :: s93 :: s94 :: s95 :: s96 :: s97 :: s98 :: s99 :: s100 :: []), []⟩ wx) :
    (regionOf Tryz.f22 8).wp Tryz.prog Q ⟨List.toArray (s0 :: s1 :: s2 :: .pointer (some ⟨d, 0, none⟩) :: s4 :: .slice (some ⟨cb, 0, none⟩) 6 6 :: .int .i64 (k : Int) :: s7 :: s8 :: s9 :: s10 :: s11 :: s12 :: s13 :: s14 :: s15 :: s16 :: s17 :: s18 :: s19 :: s20 :: s21 :: s22 :: s23 :: s24 :: s25 :: s26 :: s27 :: s28 :: s29 :: s30 :: s31 :: s32 :: s33 :: s34 :: s35 :: s36 :: s37 :: s38 :: s39 :: s40 :: s41 :: s42 :: s43 :: s44 :: s45 :: s46 :: s47 :: s48 :: s49 :: s50 :: s51 :: s52 :: s53 :: s54 :: s55 :: s56 :: s57 :: s58 :: s59 :: s60 :: s61 :: s62 :: s63 :: s64 :: s65 :: s66 :: s67 :: s68 :: s69 :: s70 :: s71 :: s72 :: s73 :: s74 :: s75 :: s76 :: s77 :: s78 :: s79 :: s80 :: s81 :: s82 :: s83 :: s84 :: s85 :: s86 :: s87 :: s88 :: s89 :: s90 :: s91 :: s92 :: s93 :: s94 :: s95 :: s96 :: s97 :: s98 :: s99 :: s100 :: []), []⟩ W := by
  refine of_onlyN (K := Q .normal) ?_ (fun _ _ h => h)
  generalize Q .normal = K at hQ ⊢
  have HQ := Lib.hid hQ; clear hQ
  have hd : d < W.heap.size := hdr.lt
  have hkl : (k : Int) < 6 := by omega
  have hSt0 : StD W d A n c W.drew := ⟨below_grows (Below.refl _ _).drew, hdr.below (Below.refl _ _).drew⟩
  have KP : ∀ w, StD W d A n c w → StD W d A n c w ∧ w.cell? ⟨cb, k, none⟩ = some (.string cc) := fun w h => ⟨h, h.1.cell hcb (by simpa using hcd)⟩
  have IN : ∀ w, StD W d A n c w → IntsIn d A n w := fun w h => hin.only (Nat.le_refl _) (Nat.le_of_lt hd) h.1
  conv => arg 2; whnf
  have hS0 := KP _ hSt0
  refine wp_region_par (S := fun w' => StD W d A n c w' ∧ w'.cell? ⟨cb, k, none⟩ = some (.string cc)) (I := fun L a w => ∃ u27 u29 u30 u31 u32 u34 u35 u36 u37 u7 : Value, a = ⟨List.toArray (s0 :: s1 :: s2 :: .pointer (some ⟨d, 0, none⟩) :: s4 :: .slice (some ⟨cb, 0, none⟩) 6 6 :: .int .i64 (k : Int) :: u7 :: s8 :: s9 :: s10 :: s11 :: s12 :: s13 :: s14 :: s15 :: s16 :: s17 :: s18 :: s19 :: s20 :: s21 :: s22 :: .slice (some ⟨cb, 0, none⟩) 6 6 :: .int .i64 (k : Int) :: .pointer (some ⟨cb, k, none⟩) :: .string cc :: u27 :: .pointer (some ⟨d, 0, none⟩) :: u29 :: u30 :: u31 :: u32 :: .pointer (some ⟨d, 0, none⟩) :: u34 :: u35 :: u36 :: u37 :: s38 :: s39 :: s40 :: s41 :: s42 :: s43 :: s44 :: s45 :: s46 :: s47 :: s48 :: s49 :: s50 :: s51 :: s52 :: s53 :: s54 :: s55 :: s56 :: s57 :: s58 :: s59 :: s60 :: s61 :: s62 :: s63 :: s64 :: s65 :: s66 :: s67 :: s68 :: s69 :: s70 :: s71 :: s72 :: s73 :: s74 :: s75 :: s76 :: s77 :: s78 :: s79 :: s80 :: s81 :: s82 :: s83 :: s84 :: s85 :: s86 :: s87 :: s88 :: s89 :: s90 :: s91 :: s92 :: s93 :: s94 :: s95 :: s96 :: s97 :: s98 :: s99 :: s100 :: []), []⟩ ∧ StD W d A n c w ∧ (L.getD 4 false = true → L.getD 16 false = false → Six W w u27 [5, 6, 3, 10, 5, 20]) ∧ (L.getD 6 false = true → L.getD 16 false = false → Below6 u29) ∧ (L.getD 7 false = true → L.getD 16 false = false → SixAt W w u30 [5, 6, 3, 10, 5, 20]) ∧ (L.getD 8 false = true → L.getD 16 false = false → Small20 u31) ∧ (L.getD 9 false = true → L.getD 16 false = false → Six W w u32 [2, 1, 0, 30, 200, 3]) ∧ (L.getD 11 false = true → L.getD 16 false = false → Below6 u34) ∧ (L.getD 12 false = true → L.getD 16 false = false → SixAt W w u35 [2, 1, 0, 30, 200, 3]) ∧ (L.getD 13 false = true → L.getD 16 false = false → Small200 u36) ∧ (L.getD 14 false = true → L.getD 16 false = false → BuiltO cc u37) ∧ (L.getD 15 false = true → BoxO W cc (L.getD 16 false) u7 w)) (pre := fun i L => L.size == 17 && !L.getD 16 false && ((i == 4) || (i == 6) || (i == 7 && L.getD 4 false && L.getD 6 false) || (i == 8 && L.getD 7 false) || (i == 9) || (i == 11) || (i == 12 && L.getD 9 false && L.getD 11 false) || (i == 13 && L.getD 12 false) || (i == 14 && L.getD 8 false && L.getD 13 false) || (i == 15) || (i == 16 && L.getD 14 false && L.getD 15 false))) (fin := fun L => L.getD 15 false && L.getD 16 false) [0, 1, 2, 3, 5, 10] 11 (by kernel_rfl) (by kernel_rfl) (by kernel_rfl) (by kernel_rfl) (by decide) hS0 ?_ ?_ ?_
  · intro i L a w hp hI
    obtain ⟨u27, u29, u30, u31, u32, u34, u35, u36, u37, u7, rfl, hst, hP4, hP6, hP7, hP8, hP9, hP11, hP12, hP13, hP14, hP15⟩ := hI
    simp only [Bool.and_eq_true, Bool.or_eq_true, beq_iff_eq, Bool.not_eq_true'] at hp
    obtain ⟨⟨hsz, h16⟩, hp⟩ := hp
    rcases hp with ((((((((((rfl | rfl) | ⟨⟨rfl, gd4⟩, gd6⟩) | ⟨rfl, gd7⟩) | rfl) | rfl) | ⟨⟨rfl, gd9⟩, gd11⟩) | ⟨rfl, gd12⟩) | ⟨⟨rfl, gd8⟩, gd13⟩) | rfl) | ⟨⟨rfl, gd14⟩, gd15⟩)
    · have g4 : (L.setIfInBounds 4 true).getD 4 false = true := by rw [up_set, if_pos ⟨rfl, by omega⟩]
      have g6 : (L.setIfInBounds 4 true).getD 6 false = L.getD 6 false := by rw [up_set, if_neg (by omega)]
      have g7 : (L.setIfInBounds 4 true).getD 7 false = L.getD 7 false := by rw [up_set, if_neg (by omega)]
      have g8 : (L.setIfInBounds 4 true).getD 8 false = L.getD 8 false := by rw [up_set, if_neg (by omega)]
      have g9 : (L.setIfInBounds 4 true).getD 9 false = L.getD 9 false := by rw [up_set, if_neg (by omega)]
      have g11 : (L.setIfInBounds 4 true).getD 11 false = L.getD 11 false := by rw [up_set, if_neg (by omega)]
      have g12 : (L.setIfInBounds 4 true).getD 12 false = L.getD 12 false := by rw [up_set, if_neg (by omega)]
      have g13 : (L.setIfInBounds 4 true).getD 13 false = L.getD 13 false := by rw [up_set, if_neg (by omega)]
      have g14 : (L.setIfInBounds 4 true).getD 14 false = L.getD 14 false := by rw [up_set, if_neg (by omega)]
      have g15 : (L.setIfInBounds 4 true).getD 15 false = L.getD 15 false := by rw [up_set, if_neg (by omega)]
      have g16 : (L.setIfInBounds 4 true).getD 16 false = L.getD 16 false := by rw [up_set, if_neg (by omega)]
      have hs : w.grownBy (w.alloc (.cells #[.int .i64 5, .int .i64 6, .int .i64 3, .int .i64 10, .int .i64 5, .int .i64 20] 3)) (some d) := below_grows (below_alloc1 _ _)
      have hst2 := hst.step hs (hst.2.below (below_alloc1 _ _))
      refine par_run ⟨some 27, _, _, _, _, _⟩ (.slice (some ⟨w.heap.size, 0, none⟩) 6 6) (w.alloc (.cells #[.int .i64 5, .int .i64 6, .int .i64 3, .int .i64 10, .int .i64 5, .int .i64 20] 3)) rfl (by rfl) (by go_simp) ?_
      exact ⟨KP _ hst2, (.slice (some ⟨w.heap.size, 0, none⟩) 6 6), (u29), (u30), (u31), (u32), (u34), (u35), (u36), (u37), (u7), by simp only [Act.put, List.setIfInBounds_toArray, List.set_cons_zero, List.set_cons_succ], hst2, fun _ _ => ⟨w.heap.size, rfl, hst.1.size, heap_alloc_new w _⟩, by rw [g6, g16]; exact hP6, by rw [g7, g16]; exact fun e e' => SixAt.step (hP7 e e') hs hd, by rw [g8, g16]; exact hP8, by rw [g9, g16]; exact fun e e' => Six.step (hP9 e e') hs hd, by rw [g11, g16]; exact hP11, by rw [g12, g16]; exact fun e e' => SixAt.step (hP12 e e') hs hd, by rw [g13, g16]; exact hP13, by rw [g14, g16]; exact hP14, by rw [g15, g16]; exact fun e => (hP15 e).step hs hd⟩
    · have g4 : (L.setIfInBounds 6 true).getD 4 false = L.getD 4 false := by rw [up_set, if_neg (by omega)]
      have g6 : (L.setIfInBounds 6 true).getD 6 false = true := by rw [up_set, if_pos ⟨rfl, by omega⟩]
      have g7 : (L.setIfInBounds 6 true).getD 7 false = L.getD 7 false := by rw [up_set, if_neg (by omega)]
      have g8 : (L.setIfInBounds 6 true).getD 8 false = L.getD 8 false := by rw [up_set, if_neg (by omega)]
      have g9 : (L.setIfInBounds 6 true).getD 9 false = L.getD 9 false := by rw [up_set, if_neg (by omega)]
      have g11 : (L.setIfInBounds 6 true).getD 11 false = L.getD 11 false := by rw [up_set, if_neg (by omega)]
      have g12 : (L.setIfInBounds 6 true).getD 12 false = L.getD 12 false := by rw [up_set, if_neg (by omega)]
      have g13 : (L.setIfInBounds 6 true).getD 13 false = L.getD 13 false := by rw [up_set, if_neg (by omega)]
      have g14 : (L.setIfInBounds 6 true).getD 14 false = L.getD 14 false := by rw [up_set, if_neg (by omega)]
      have g15 : (L.setIfInBounds 6 true).getD 15 false = L.getD 15 false := by rw [up_set, if_neg (by omega)]
      have g16 : (L.setIfInBounds 6 true).getD 16 false = L.getD 16 false := by rw [up_set, if_neg (by omega)]
      refine par_call ⟨some 29, _, _, _, _, _⟩ rfl (by rfl) 51 _ _ (by rfl) _ (by rfl) Tryz.call51 (next_st d A n c 6 w (by omega) (by omega) hst.2 (IN w hst)) ?_
      rintro x wn ⟨g, rfl, hg, hdw, hs⟩
      have hst2 := hst.step hs hdw
      exact ⟨_, rfl, KP _ hst2, (u27), (.int .i64 g), (u30), (u31), (u32), (u34), (u35), (u36), (u37), (u7), by simp only [Act.put, List.setIfInBounds_toArray, List.set_cons_zero, List.set_cons_succ], hst2, by rw [g4, g16]; exact fun e e' => Six.step (hP4 e e') hs hd, fun _ _ => ⟨g, rfl, hg⟩, by rw [g7, g16]; exact fun e e' => SixAt.step (hP7 e e') hs hd, by rw [g8, g16]; exact hP8, by rw [g9, g16]; exact fun e e' => Six.step (hP9 e e') hs hd, by rw [g11, g16]; exact hP11, by rw [g12, g16]; exact fun e e' => SixAt.step (hP12 e e') hs hd, by rw [g13, g16]; exact hP13, by rw [g14, g16]; exact hP14, by rw [g15, g16]; exact fun e => (hP15 e).step hs hd⟩
    · have g4 : (L.setIfInBounds 7 true).getD 4 false = L.getD 4 false := by rw [up_set, if_neg (by omega)]
      have g6 : (L.setIfInBounds 7 true).getD 6 false = L.getD 6 false := by rw [up_set, if_neg (by omega)]
      have g7 : (L.setIfInBounds 7 true).getD 7 false = true := by rw [up_set, if_pos ⟨rfl, by omega⟩]
      have g8 : (L.setIfInBounds 7 true).getD 8 false = L.getD 8 false := by rw [up_set, if_neg (by omega)]
      have g9 : (L.setIfInBounds 7 true).getD 9 false = L.getD 9 false := by rw [up_set, if_neg (by omega)]
      have g11 : (L.setIfInBounds 7 true).getD 11 false = L.getD 11 false := by rw [up_set, if_neg (by omega)]
      have g12 : (L.setIfInBounds 7 true).getD 12 false = L.getD 12 false := by rw [up_set, if_neg (by omega)]
      have g13 : (L.setIfInBounds 7 true).getD 13 false = L.getD 13 false := by rw [up_set, if_neg (by omega)]
      have g14 : (L.setIfInBounds 7 true).getD 14 false = L.getD 14 false := by rw [up_set, if_neg (by omega)]
      have g15 : (L.setIfInBounds 7 true).getD 15 false = L.getD 15 false := by rw [up_set, if_neg (by omega)]
      have g16 : (L.setIfInBounds 7 true).getD 16 false = L.getD 16 false := by rw [up_set, if_neg (by omega)]
      obtain ⟨b, rfl, hb1, hb2⟩ := hP4 gd4 h16
      obtain ⟨g, rfl, hg⟩ := hP6 gd6 h16
      have hs : w.grownBy w (some d) := below_grows (Below.refl _ _)
      have hst2 := hst
      have hgi : (g : Int) < 6 := by omega
      refine par_run ⟨some 30, _, _, _, _, _⟩ (.pointer (some ⟨b, g, none⟩)) w rfl (by rfl) (by go_simp) ?_
      exact ⟨KP _ hst2, (.slice (some ⟨b, 0, none⟩) 6 6), (.int .i64 g), (.pointer (some ⟨b, g, none⟩)), (u31), (u32), (u34), (u35), (u36), (u37), (u7), by simp only [Act.put, List.setIfInBounds_toArray, List.set_cons_zero, List.set_cons_succ], hst2, by rw [g4, g16]; exact fun e e' => Six.step (hP4 e e') hs hd, by rw [g6, g16]; exact hP6, fun _ _ => ⟨b, g, rfl, hg, hb1, hb2⟩, by rw [g8, g16]; exact hP8, by rw [g9, g16]; exact fun e e' => Six.step (hP9 e e') hs hd, by rw [g11, g16]; exact hP11, by rw [g12, g16]; exact fun e e' => SixAt.step (hP12 e e') hs hd, by rw [g13, g16]; exact hP13, by rw [g14, g16]; exact hP14, by rw [g15, g16]; exact fun e => (hP15 e).step hs hd⟩
    · have g4 : (L.setIfInBounds 8 true).getD 4 false = L.getD 4 false := by rw [up_set, if_neg (by omega)]
      have g6 : (L.setIfInBounds 8 true).getD 6 false = L.getD 6 false := by rw [up_set, if_neg (by omega)]
      have g7 : (L.setIfInBounds 8 true).getD 7 false = L.getD 7 false := by rw [up_set, if_neg (by omega)]
      have g8 : (L.setIfInBounds 8 true).getD 8 false = true := by rw [up_set, if_pos ⟨rfl, by omega⟩]
      have g9 : (L.setIfInBounds 8 true).getD 9 false = L.getD 9 false := by rw [up_set, if_neg (by omega)]
      have g11 : (L.setIfInBounds 8 true).getD 11 false = L.getD 11 false := by rw [up_set, if_neg (by omega)]
      have g12 : (L.setIfInBounds 8 true).getD 12 false = L.getD 12 false := by rw [up_set, if_neg (by omega)]
      have g13 : (L.setIfInBounds 8 true).getD 13 false = L.getD 13 false := by rw [up_set, if_neg (by omega)]
      have g14 : (L.setIfInBounds 8 true).getD 14 false = L.getD 14 false := by rw [up_set, if_neg (by omega)]
      have g15 : (L.setIfInBounds 8 true).getD 15 false = L.getD 15 false := by rw [up_set, if_neg (by omega)]
      have g16 : (L.setIfInBounds 8 true).getD 16 false = L.getD 16 false := by rw [up_set, if_neg (by omega)]
      obtain ⟨b, g, rfl, hg, hb1, hb2⟩ := hP7 gd7 h16
      obtain ⟨x, hx, hx0, hx1⟩ := six_cr hg
      have hs : w.grownBy w (some d) := below_grows (Below.refl _ _)
      have hst2 := hst
      have hcell := six_cell hb2 hx
      refine par_run ⟨some 31, _, _, _, _, _⟩ (.int .i64 x) w rfl (by rfl) (by go_simp) ?_
      exact ⟨KP _ hst2, (u27), (u29), (.pointer (some ⟨b, g, none⟩)), (.int .i64 x), (u32), (u34), (u35), (u36), (u37), (u7), by simp only [Act.put, List.setIfInBounds_toArray, List.set_cons_zero, List.set_cons_succ], hst2, by rw [g4, g16]; exact fun e e' => Six.step (hP4 e e') hs hd, by rw [g6, g16]; exact hP6, by rw [g7, g16]; exact fun e e' => SixAt.step (hP7 e e') hs hd, fun _ _ => ⟨x, rfl, hx0, hx1⟩, by rw [g9, g16]; exact fun e e' => Six.step (hP9 e e') hs hd, by rw [g11, g16]; exact hP11, by rw [g12, g16]; exact fun e e' => SixAt.step (hP12 e e') hs hd, by rw [g13, g16]; exact hP13, by rw [g14, g16]; exact hP14, by rw [g15, g16]; exact fun e => (hP15 e).step hs hd⟩
    · have g4 : (L.setIfInBounds 9 true).getD 4 false = L.getD 4 false := by rw [up_set, if_neg (by omega)]
      have g6 : (L.setIfInBounds 9 true).getD 6 false = L.getD 6 false := by rw [up_set, if_neg (by omega)]
      have g7 : (L.setIfInBounds 9 true).getD 7 false = L.getD 7 false := by rw [up_set, if_neg (by omega)]
      have g8 : (L.setIfInBounds 9 true).getD 8 false = L.getD 8 false := by rw [up_set, if_neg (by omega)]
      have g9 : (L.setIfInBounds 9 true).getD 9 false = true := by rw [up_set, if_pos ⟨rfl, by omega⟩]
      have g11 : (L.setIfInBounds 9 true).getD 11 false = L.getD 11 false := by rw [up_set, if_neg (by omega)]
      have g12 : (L.setIfInBounds 9 true).getD 12 false = L.getD 12 false := by rw [up_set, if_neg (by omega)]
      have g13 : (L.setIfInBounds 9 true).getD 13 false = L.getD 13 false := by rw [up_set, if_neg (by omega)]
      have g14 : (L.setIfInBounds 9 true).getD 14 false = L.getD 14 false := by rw [up_set, if_neg (by omega)]
      have g15 : (L.setIfInBounds 9 true).getD 15 false = L.getD 15 false := by rw [up_set, if_neg (by omega)]
      have g16 : (L.setIfInBounds 9 true).getD 16 false = L.getD 16 false := by rw [up_set, if_neg (by omega)]
      have hs : w.grownBy (w.alloc (.cells #[.int .i64 2, .int .i64 1, .int .i64 0, .int .i64 30, .int .i64 200, .int .i64 3] 3)) (some d) := below_grows (below_alloc1 _ _)
      have hst2 := hst.step hs (hst.2.below (below_alloc1 _ _))
      refine par_run ⟨some 32, _, _, _, _, _⟩ (.slice (some ⟨w.heap.size, 0, none⟩) 6 6) (w.alloc (.cells #[.int .i64 2, .int .i64 1, .int .i64 0, .int .i64 30, .int .i64 200, .int .i64 3] 3)) rfl (by rfl) (by go_simp) ?_
      exact ⟨KP _ hst2, (u27), (u29), (u30), (u31), (.slice (some ⟨w.heap.size, 0, none⟩) 6 6), (u34), (u35), (u36), (u37), (u7), by simp only [Act.put, List.setIfInBounds_toArray, List.set_cons_zero, List.set_cons_succ], hst2, by rw [g4, g16]; exact fun e e' => Six.step (hP4 e e') hs hd, by rw [g6, g16]; exact hP6, by rw [g7, g16]; exact fun e e' => SixAt.step (hP7 e e') hs hd, by rw [g8, g16]; exact hP8, fun _ _ => ⟨w.heap.size, rfl, hst.1.size, heap_alloc_new w _⟩, by rw [g11, g16]; exact hP11, by rw [g12, g16]; exact fun e e' => SixAt.step (hP12 e e') hs hd, by rw [g13, g16]; exact hP13, by rw [g14, g16]; exact hP14, by rw [g15, g16]; exact fun e => (hP15 e).step hs hd⟩
    · have g4 : (L.setIfInBounds 11 true).getD 4 false = L.getD 4 false := by rw [up_set, if_neg (by omega)]
      have g6 : (L.setIfInBounds 11 true).getD 6 false = L.getD 6 false := by rw [up_set, if_neg (by omega)]
      have g7 : (L.setIfInBounds 11 true).getD 7 false = L.getD 7 false := by rw [up_set, if_neg (by omega)]
      have g8 : (L.setIfInBounds 11 true).getD 8 false = L.getD 8 false := by rw [up_set, if_neg (by omega)]
      have g9 : (L.setIfInBounds 11 true).getD 9 false = L.getD 9 false := by rw [up_set, if_neg (by omega)]
      have g11 : (L.setIfInBounds 11 true).getD 11 false = true := by rw [up_set, if_pos ⟨rfl, by omega⟩]
      have g12 : (L.setIfInBounds 11 true).getD 12 false = L.getD 12 false := by rw [up_set, if_neg (by omega)]
      have g13 : (L.setIfInBounds 11 true).getD 13 false = L.getD 13 false := by rw [up_set, if_neg (by omega)]
      have g14 : (L.setIfInBounds 11 true).getD 14 false = L.getD 14 false := by rw [up_set, if_neg (by omega)]
      have g15 : (L.setIfInBounds 11 true).getD 15 false = L.getD 15 false := by rw [up_set, if_neg (by omega)]
      have g16 : (L.setIfInBounds 11 true).getD 16 false = L.getD 16 false := by rw [up_set, if_neg (by omega)]
      refine par_call ⟨some 34, _, _, _, _, _⟩ rfl (by rfl) 51 _ _ (by rfl) _ (by rfl) Tryz.call51 (next_st d A n c 6 w (by omega) (by omega) hst.2 (IN w hst)) ?_
      rintro x wn ⟨g, rfl, hg, hdw, hs⟩
      have hst2 := hst.step hs hdw
      exact ⟨_, rfl, KP _ hst2, (u27), (u29), (u30), (u31), (u32), (.int .i64 g), (u35), (u36), (u37), (u7), by simp only [Act.put, List.setIfInBounds_toArray, List.set_cons_zero, List.set_cons_succ], hst2, by rw [g4, g16]; exact fun e e' => Six.step (hP4 e e') hs hd, by rw [g6, g16]; exact hP6, by rw [g7, g16]; exact fun e e' => SixAt.step (hP7 e e') hs hd, by rw [g8, g16]; exact hP8, by rw [g9, g16]; exact fun e e' => Six.step (hP9 e e') hs hd, fun _ _ => ⟨g, rfl, hg⟩, by rw [g12, g16]; exact fun e e' => SixAt.step (hP12 e e') hs hd, by rw [g13, g16]; exact hP13, by rw [g14, g16]; exact hP14, by rw [g15, g16]; exact fun e => (hP15 e).step hs hd⟩
    · have g4 : (L.setIfInBounds 12 true).getD 4 false = L.getD 4 false := by rw [up_set, if_neg (by omega)]
      have g6 : (L.setIfInBounds 12 true).getD 6 false = L.getD 6 false := by rw [up_set, if_neg (by omega)]
      have g7 : (L.setIfInBounds 12 true).getD 7 false = L.getD 7 false := by rw [up_set, if_neg (by omega)]
      have g8 : (L.setIfInBounds 12 true).getD 8 false = L.getD 8 false := by rw [up_set, if_neg (by omega)]
      have g9 : (L.setIfInBounds 12 true).getD 9 false = L.getD 9 false := by rw [up_set, if_neg (by omega)]
      have g11 : (L.setIfInBounds 12 true).getD 11 false = L.getD 11 false := by rw [up_set, if_neg (by omega)]
      have g12 : (L.setIfInBounds 12 true).getD 12 false = true := by rw [up_set, if_pos ⟨rfl, by omega⟩]
      have g13 : (L.setIfInBounds 12 true).getD 13 false = L.getD 13 false := by rw [up_set, if_neg (by omega)]
      have g14 : (L.setIfInBounds 12 true).getD 14 false = L.getD 14 false := by rw [up_set, if_neg (by omega)]
      have g15 : (L.setIfInBounds 12 true).getD 15 false = L.getD 15 false := by rw [up_set, if_neg (by omega)]
      have g16 : (L.setIfInBounds 12 true).getD 16 false = L.getD 16 false := by rw [up_set, if_neg (by omega)]
      obtain ⟨b, rfl, hb1, hb2⟩ := hP9 gd9 h16
      obtain ⟨g, rfl, hg⟩ := hP11 gd11 h16
      have hs : w.grownBy w (some d) := below_grows (Below.refl _ _)
      have hst2 := hst
      have hgi : (g : Int) < 6 := by omega
      refine par_run ⟨some 35, _, _, _, _, _⟩ (.pointer (some ⟨b, g, none⟩)) w rfl (by rfl) (by go_simp) ?_
      exact ⟨KP _ hst2, (u27), (u29), (u30), (u31), (.slice (some ⟨b, 0, none⟩) 6 6), (.int .i64 g), (.pointer (some ⟨b, g, none⟩)), (u36), (u37), (u7), by simp only [Act.put, List.setIfInBounds_toArray, List.set_cons_zero, List.set_cons_succ], hst2, by rw [g4, g16]; exact fun e e' => Six.step (hP4 e e') hs hd, by rw [g6, g16]; exact hP6, by rw [g7, g16]; exact fun e e' => SixAt.step (hP7 e e') hs hd, by rw [g8, g16]; exact hP8, by rw [g9, g16]; exact fun e e' => Six.step (hP9 e e') hs hd, by rw [g11, g16]; exact hP11, fun _ _ => ⟨b, g, rfl, hg, hb1, hb2⟩, by rw [g13, g16]; exact hP13, by rw [g14, g16]; exact hP14, by rw [g15, g16]; exact fun e => (hP15 e).step hs hd⟩
    · have g4 : (L.setIfInBounds 13 true).getD 4 false = L.getD 4 false := by rw [up_set, if_neg (by omega)]
      have g6 : (L.setIfInBounds 13 true).getD 6 false = L.getD 6 false := by rw [up_set, if_neg (by omega)]
      have g7 : (L.setIfInBounds 13 true).getD 7 false = L.getD 7 false := by rw [up_set, if_neg (by omega)]
      have g8 : (L.setIfInBounds 13 true).getD 8 false = L.getD 8 false := by rw [up_set, if_neg (by omega)]
      have g9 : (L.setIfInBounds 13 true).getD 9 false = L.getD 9 false := by rw [up_set, if_neg (by omega)]
      have g11 : (L.setIfInBounds 13 true).getD 11 false = L.getD 11 false := by rw [up_set, if_neg (by omega)]
      have g12 : (L.setIfInBounds 13 true).getD 12 false = L.getD 12 false := by rw [up_set, if_neg (by omega)]
      have g13 : (L.setIfInBounds 13 true).getD 13 false = true := by rw [up_set, if_pos ⟨rfl, by omega⟩]
      have g14 : (L.setIfInBounds 13 true).getD 14 false = L.getD 14 false := by rw [up_set, if_neg (by omega)]
      have g15 : (L.setIfInBounds 13 true).getD 15 false = L.getD 15 false := by rw [up_set, if_neg (by omega)]
      have g16 : (L.setIfInBounds 13 true).getD 16 false = L.getD 16 false := by rw [up_set, if_neg (by omega)]
      obtain ⟨b, g, rfl, hg, hb1, hb2⟩ := hP12 gd12 h16
      obtain ⟨x, hx, hx0, hx1⟩ := six_pl hg
      have hs : w.grownBy w (some d) := below_grows (Below.refl _ _)
      have hst2 := hst
      have hcell := six_cell hb2 hx
      refine par_run ⟨some 36, _, _, _, _, _⟩ (.int .i64 x) w rfl (by rfl) (by go_simp) ?_
      exact ⟨KP _ hst2, (u27), (u29), (u30), (u31), (u32), (u34), (.pointer (some ⟨b, g, none⟩)), (.int .i64 x), (u37), (u7), by simp only [Act.put, List.setIfInBounds_toArray, List.set_cons_zero, List.set_cons_succ], hst2, by rw [g4, g16]; exact fun e e' => Six.step (hP4 e e') hs hd, by rw [g6, g16]; exact hP6, by rw [g7, g16]; exact fun e e' => SixAt.step (hP7 e e') hs hd, by rw [g8, g16]; exact hP8, by rw [g9, g16]; exact fun e e' => Six.step (hP9 e e') hs hd, by rw [g11, g16]; exact hP11, by rw [g12, g16]; exact fun e e' => SixAt.step (hP12 e e') hs hd, fun _ _ => ⟨x, rfl, hx0, hx1⟩, by rw [g14, g16]; exact hP14, by rw [g15, g16]; exact fun e => (hP15 e).step hs hd⟩
    · have g4 : (L.setIfInBounds 14 true).getD 4 false = L.getD 4 false := by rw [up_set, if_neg (by omega)]
      have g6 : (L.setIfInBounds 14 true).getD 6 false = L.getD 6 false := by rw [up_set, if_neg (by omega)]
      have g7 : (L.setIfInBounds 14 true).getD 7 false = L.getD 7 false := by rw [up_set, if_neg (by omega)]
      have g8 : (L.setIfInBounds 14 true).getD 8 false = L.getD 8 false := by rw [up_set, if_neg (by omega)]
      have g9 : (L.setIfInBounds 14 true).getD 9 false = L.getD 9 false := by rw [up_set, if_neg (by omega)]
      have g11 : (L.setIfInBounds 14 true).getD 11 false = L.getD 11 false := by rw [up_set, if_neg (by omega)]
      have g12 : (L.setIfInBounds 14 true).getD 12 false = L.getD 12 false := by rw [up_set, if_neg (by omega)]
      have g13 : (L.setIfInBounds 14 true).getD 13 false = L.getD 13 false := by rw [up_set, if_neg (by omega)]
      have g14 : (L.setIfInBounds 14 true).getD 14 false = true := by rw [up_set, if_pos ⟨rfl, by omega⟩]
      have g15 : (L.setIfInBounds 14 true).getD 15 false = L.getD 15 false := by rw [up_set, if_neg (by omega)]
      have g16 : (L.setIfInBounds 14 true).getD 16 false = L.getD 16 false := by rw [up_set, if_neg (by omega)]
      obtain ⟨x, rfl, hx0, hx1⟩ := hP8 gd8 h16
      obtain ⟨y, rfl, hy0, hy1⟩ := hP13 gd13 h16
      have hs : w.grownBy w (some d) := below_grows (Below.refl _ _)
      have hst2 := hst
      refine par_run ⟨some 37, _, _, _, _, _⟩ (.agg #[.string cc, .int .i64 x, .int .i64 y, .slice none 0 0, .slice none 0 0]) w rfl (by rfl) (by go_simp) ?_
      exact ⟨KP _ hst2, (u27), (u29), (u30), (.int .i64 x), (u32), (u34), (u35), (.int .i64 y), (.agg #[.string cc, .int .i64 x, .int .i64 y, .slice none 0 0, .slice none 0 0]), (u7), by simp only [Act.put, List.setIfInBounds_toArray, List.set_cons_zero, List.set_cons_succ], hst2, by rw [g4, g16]; exact fun e e' => Six.step (hP4 e e') hs hd, by rw [g6, g16]; exact hP6, by rw [g7, g16]; exact fun e e' => SixAt.step (hP7 e e') hs hd, by rw [g8, g16]; exact hP8, by rw [g9, g16]; exact fun e e' => Six.step (hP9 e e') hs hd, by rw [g11, g16]; exact hP11, by rw [g12, g16]; exact fun e e' => SixAt.step (hP12 e e') hs hd, by rw [g13, g16]; exact hP13, fun _ _ => ⟨x, y, rfl, hx0, hx1, hy0, hy1⟩, by rw [g15, g16]; exact fun e => (hP15 e).step hs hd⟩
    · have g4 : (L.setIfInBounds 15 true).getD 4 false = L.getD 4 false := by rw [up_set, if_neg (by omega)]
      have g6 : (L.setIfInBounds 15 true).getD 6 false = L.getD 6 false := by rw [up_set, if_neg (by omega)]
      have g7 : (L.setIfInBounds 15 true).getD 7 false = L.getD 7 false := by rw [up_set, if_neg (by omega)]
      have g8 : (L.setIfInBounds 15 true).getD 8 false = L.getD 8 false := by rw [up_set, if_neg (by omega)]
      have g9 : (L.setIfInBounds 15 true).getD 9 false = L.getD 9 false := by rw [up_set, if_neg (by omega)]
      have g11 : (L.setIfInBounds 15 true).getD 11 false = L.getD 11 false := by rw [up_set, if_neg (by omega)]
      have g12 : (L.setIfInBounds 15 true).getD 12 false = L.getD 12 false := by rw [up_set, if_neg (by omega)]
      have g13 : (L.setIfInBounds 15 true).getD 13 false = L.getD 13 false := by rw [up_set, if_neg (by omega)]
      have g14 : (L.setIfInBounds 15 true).getD 14 false = L.getD 14 false := by rw [up_set, if_neg (by omega)]
      have g15 : (L.setIfInBounds 15 true).getD 15 false = true := by rw [up_set, if_pos ⟨rfl, by omega⟩]
      have g16 : (L.setIfInBounds 15 true).getD 16 false = L.getD 16 false := by rw [up_set, if_neg (by omega)]
      have hs : w.grownBy (w.alloc (.cells #[.string ⟨#[]⟩, .int .i64 0, .int .i64 0, .slice none 0 0, .slice none 0 0] 52)) (some d) := below_grows (below_alloc1 _ _)
      have hst2 := hst.step hs (hst.2.below (below_alloc1 _ _))
      refine par_run ⟨some 7, _, _, _, _, _⟩ (.pointer (some ⟨w.heap.size, 0, none⟩)) (w.alloc (.cells #[.string ⟨#[]⟩, .int .i64 0, .int .i64 0, .slice none 0 0, .slice none 0 0] 52)) rfl (by rfl) (by go_simp) ?_
      exact ⟨KP _ hst2, (u27), (u29), (u30), (u31), (u32), (u34), (u35), (u36), (u37), (.pointer (some ⟨w.heap.size, 0, none⟩)), by simp only [Act.put, List.setIfInBounds_toArray, List.set_cons_zero, List.set_cons_succ], hst2, by rw [g4, g16]; exact fun e e' => Six.step (hP4 e e') hs hd, by rw [g6, g16]; exact hP6, by rw [g7, g16]; exact fun e e' => SixAt.step (hP7 e e') hs hd, by rw [g8, g16]; exact hP8, by rw [g9, g16]; exact fun e e' => Six.step (hP9 e e') hs hd, by rw [g11, g16]; exact hP11, by rw [g12, g16]; exact fun e e' => SixAt.step (hP12 e e') hs hd, by rw [g13, g16]; exact hP13, by rw [g14, g16]; exact hP14, fun _ => by rw [g16, h16]; exact ⟨w.heap.size, rfl, hst.1.size, fun _ => heap_alloc_new w _, fun e => (by cases e)⟩⟩
    · have g4 : (L.setIfInBounds 16 true).getD 4 false = L.getD 4 false := by rw [up_set, if_neg (by omega)]
      have g6 : (L.setIfInBounds 16 true).getD 6 false = L.getD 6 false := by rw [up_set, if_neg (by omega)]
      have g7 : (L.setIfInBounds 16 true).getD 7 false = L.getD 7 false := by rw [up_set, if_neg (by omega)]
      have g8 : (L.setIfInBounds 16 true).getD 8 false = L.getD 8 false := by rw [up_set, if_neg (by omega)]
      have g9 : (L.setIfInBounds 16 true).getD 9 false = L.getD 9 false := by rw [up_set, if_neg (by omega)]
      have g11 : (L.setIfInBounds 16 true).getD 11 false = L.getD 11 false := by rw [up_set, if_neg (by omega)]
      have g12 : (L.setIfInBounds 16 true).getD 12 false = L.getD 12 false := by rw [up_set, if_neg (by omega)]
      have g13 : (L.setIfInBounds 16 true).getD 13 false = L.getD 13 false := by rw [up_set, if_neg (by omega)]
      have g14 : (L.setIfInBounds 16 true).getD 14 false = L.getD 14 false := by rw [up_set, if_neg (by omega)]
      have g15 : (L.setIfInBounds 16 true).getD 15 false = L.getD 15 false := by rw [up_set, if_neg (by omega)]
      have g16 : (L.setIfInBounds 16 true).getD 16 false = true := by rw [up_set, if_pos ⟨rfl, by omega⟩]
      obtain ⟨x, y, rfl, hx0, hx1, hy0, hy1⟩ := hP14 gd14 h16
      obtain ⟨b, rfl, hb1, hb2, _⟩ := hP15 gd15
      have hz := hb2 h16
      have hzc : ∀ j, w.cell? ⟨b, j, none⟩ = (#[.string ⟨#[]⟩, .int .i64 0, .int .i64 0, .slice none 0 0, .slice none 0 0] : Array Value)[j]? := fun j => Lib.cell_of_heap hz j
      have hzf : ∀ j, w.frozen? ⟨b, j, none⟩ = false := fun j => Lib.frozen_of_heap hz j
      have hst2 := ((((hst.set hd hb1 0 (.string cc)).set hd hb1 1 (.int .i64 x)).set hd hb1 2 (.int .i64 y)).set hd hb1 3 (.slice none 0 0)).set hd hb1 4 (.slice none 0 0)
      refine par_store ⟨none, _, _, _, _, _⟩ (((((w.setCell ⟨b, 0, none⟩ (.string cc)).setCell ⟨b, 1, none⟩ (.int .i64 x)).setCell ⟨b, 2, none⟩ (.int .i64 y)).setCell ⟨b, 3, none⟩ (.slice none 0 0)).setCell ⟨b, 4, none⟩ (.slice none 0 0)) rfl (by rfl) ⟨KP _ hst2, (u27), (u29), (u30), (u31), (u32), (u34), (u35), (u36), (.agg #[.string cc, .int .i64 x, .int .i64 y, .slice none 0 0, .slice none 0 0]), (.pointer (some ⟨b, 0, none⟩)), rfl, hst2, fun _ e => (by rw [g16] at e; cases e), fun _ e => (by rw [g16] at e; cases e), fun _ e => (by rw [g16] at e; cases e), fun _ e => (by rw [g16] at e; cases e), fun _ e => (by rw [g16] at e; cases e), fun _ e => (by rw [g16] at e; cases e), fun _ e => (by rw [g16] at e; cases e), fun _ e => (by rw [g16] at e; cases e), fun _ e => (by rw [g16] at e; cases e), fun _ => by rw [g16]; exact ⟨b, rfl, hb1, fun e => (by cases e), fun _ => ⟨x, y, by simp [World.setCell, Array.getElem?_modify, hz], hx0, hx1, hy0, hy1⟩⟩⟩ (fun K' hk' => ?_)
      unfold Oper.wp
      go_simp
      exact hk'
  · intro L a w hp hI
    obtain ⟨u27, u29, u30, u31, u32, u34, u35, u36, u37, u7, rfl, hst, hP4, hP6, hP7, hP8, hP9, hP11, hP12, hP13, hP14, hP15⟩ := hI
    simp only [Bool.and_eq_true] at hp
    obtain ⟨p15, p16⟩ := hp
    have hb := hP15 p15
    rw [p16] at hb
    exact HQ.out _ _ _ _ _ _ _ _ _ _ w hst hb
  · refine par_take ⟨some 23, _, _, _, _, _⟩ ?_ rfl (by rfl) ?_ ?_
    rotate_left 1
    · intro w hSw; (try dsimp only at hSw); go_simp; (try with_reducible rfl)
    simp only [Act.put, List.setIfInBounds_toArray, List.set_cons_zero, List.set_cons_succ]
    refine par_take ⟨some 24, _, _, _, _, _⟩ ?_ rfl (by rfl) ?_ ?_
    rotate_left 1
    · intro w hSw; (try dsimp only at hSw); go_simp; (try with_reducible rfl)
    simp only [Act.put, List.setIfInBounds_toArray, List.set_cons_zero, List.set_cons_succ]
    refine par_take ⟨some 25, _, _, _, _, _⟩ ?_ rfl (by rfl) ?_ ?_
    rotate_left 1
    · intro w hSw; (try dsimp only at hSw); go_simp; (try with_reducible rfl)
    simp only [Act.put, List.setIfInBounds_toArray, List.set_cons_zero, List.set_cons_succ]
    refine par_take ⟨some 26, _, _, _, _, _⟩ ?_ rfl (by rfl) ?_ ?_
    rotate_left 1
    · intro w hSw; (try dsimp only at hSw); go_simp; (try with_reducible rfl)
    simp only [Act.put, List.setIfInBounds_toArray, List.set_cons_zero, List.set_cons_succ]
    refine par_take ⟨some 28, _, _, _, _, _⟩ ?_ rfl (by rfl) ?_ ?_
    rotate_left 1
    · intro w hSw; (try dsimp only at hSw); go_simp; (try with_reducible rfl)
    simp only [Act.put, List.setIfInBounds_toArray, List.set_cons_zero, List.set_cons_succ]
    refine par_take ⟨some 33, _, _, _, _, _⟩ ?_ rfl (by rfl) ?_ ?_
    rotate_left 1
    · intro w hSw; (try dsimp only at hSw); go_simp; (try with_reducible rfl)
    simp only [Act.put, List.setIfInBounds_toArray, List.set_cons_zero, List.set_cons_succ]
    exact ⟨_, _, _, _, _, _, _, _, _, _, rfl, hSt0, (fun e => absurd e (by decide +kernel)), (fun e => absurd e (by decide +kernel)), (fun e => absurd e (by decide +kernel)), (fun e => absurd e (by decide +kernel)), (fun e => absurd e (by decide +kernel)), (fun e => absurd e (by decide +kernel)), (fun e => absurd e (by decide +kernel)), (fun e => absurd e (by decide +kernel)), (fun e => absurd e (by decide +kernel)), (fun e => absurd e (by decide +kernel))⟩
end Go.Proofs.YtbihaoadgcckhaaGreat
