/- course.clone: an offer with lists of its own. -/
import Derived.Test.YtbihaoadgcckhaaGreatMkFi
namespace Go.Proofs.YtbihaoadgcckhaaGreat
open Go Go.Proofs Go.RowKit Go.Maps Go.Sort Go.Lib
attribute [local go_sem] Off.cells

/-- A row that lies above the block b. -/
def FarRow {α : Type} (enc : α → List Value) (b : Nat) (L : List α) (w : World) (u : Value) : Prop := ∃ p c, u = .slice p L.length c ∧ RowIn enc w (.slice p L.length c) L ∧ ∀ a, p = some a → b < a.block
section
variable {α : Type} {enc : α → List Value} {L : List α} {w w' : World} {u : Value} {b : Nat}
theorem FarRow.below (h : FarRow enc b L w u) (hb : RowKit.Below w.heap.size w w') : FarRow enc b L w' u := by
  obtain ⟨p, c, rfl, h1, h2⟩ := h
  exact ⟨p, c, rfl, h1.below hb, h2⟩
theorem FarRow.set {b' : Nat} (h : FarRow enc b L w u) (hb : b' ≤ b) (j : Nat) (v : Value) : FarRow enc b L (w.setCell ⟨b', j, none⟩ v) u := by
  obtain ⟨p, c, rfl, ⟨p1, c1, e, hc, hz, hr⟩, h2⟩ := h
  injection e with e1 _ e3
  subst e1; subst e3
  refine ⟨p, c, rfl, ⟨p, c, rfl, hc, hz, fun hl => ?_⟩, h2⟩
  obtain ⟨b1, o1, rfl, hb1, hx⟩ := hr hl
  have hne : b1 ≠ b' := by have : b < b1 := h2 _ rfl; omega
  refine ⟨b1, o1, rfl, by rw [World.size_setCell]; exact hb1, fun i v' hi => ?_⟩
  rw [World.cell?_of_block (a := ⟨b1, o1 + i, none⟩) (Below.heap_setCell _ _ _ _ hne)]
  exact hx i v' hi
theorem FarRow.mono {b' : Nat} (h : FarRow enc b L w u) (hb : b' ≤ b) : FarRow enc b' L w u := by
  obtain ⟨p, c, e, h1, h2⟩ := h
  exact ⟨p, c, e, h1, fun a ha => Nat.lt_of_le_of_lt hb (h2 a ha)⟩
theorem FarRow.row (h : FarRow enc b L w u) : RowIn enc w u L := by
  obtain ⟨p, c, rfl, h1, _⟩ := h
  exact h1
end
theorem off_set {w : World} {b : Nat} {c : ByteArray} {cr pl x y : Value} (h : w.heap[b]? = some (.cells #[.string c, cr, pl, x, y] 52 (0, 0))) (v : Value) :
    (w.setCell ⟨b, 3, none⟩ v).heap[b]? = some (.cells #[.string c, cr, pl, v, y] 52 (0, 0)) ∧ (w.setCell ⟨b, 4, none⟩ v).heap[b]? = some (.cells #[.string c, cr, pl, x, v] 52 (0, 0)) := by
  constructor <;> simp [World.setCell, Array.getElem?_modify, h]
set_option maxHeartbeats 16000000 in
set_option maxRecDepth 100000 in
theorem clone_r1 {s0 s2 s3 s4 s5 s6 s7 s8 s9 s10 s11 : Value} (W0 : World) (ob rb : Nat) (Z : Obj) (o : Off) (W : World) (Q : Exit → Act → World → Prop) (h0 : W0.heap.size = ob) (hb0 : RowKit.Below ob W0 W) (hok : OffOk W0 o) (hf : o.few) (hf2 : o.needs.length ≤ 1000000000000) (hor : ob < rb) (hZ : W.heap[rb]? = some Z) (hbox : W.heap[ob]? = some (.cells #[.string o.code, .int .i64 o.credits, .int .i64 o.places, o.sv, o.nv] 52 (0, 0)))
    (hQ : ∀ (u4 u5 u7 u8 : Value) (wx : World), RowKit.Below ob W0 wx → wx.heap[rb]? = some Z → wx.heap[ob]? = some (.cells #[.string o.code, .int .i64 o.credits, .int .i64 o.places, u5, u8] 52 (0, 0)) → FarRow encI rb o.slots wx u5 → FarRow encT rb o.needs wx u8 → Q .normal ⟨List.toArray (s0 :: .pointer (some ⟨ob, 0, none⟩) :: s2 :: .pointer (some ⟨ob, 3, none⟩) :: u4 :: u5 :: .pointer (some ⟨ob, 4, none⟩) :: u7 :: u8 :: .pointer (some ⟨ob, 3, none⟩) :: .pointer (some ⟨ob, 4, none⟩) :: s11 :: []), []⟩ wx) :
    (regionOf Tryz.f42 1).wp Tryz.prog Q ⟨List.toArray (s0 :: .pointer (some ⟨ob, 0, none⟩) :: s2 :: s3 :: s4 :: s5 :: s6 :: s7 :: s8 :: s9 :: s10 :: s11 :: []), []⟩ W := by
  refine of_onlyN (K := Q .normal) ?_ (fun _ _ h => h)
  generalize Q .normal = K at hQ ⊢
  have HQ := Lib.hid hQ; clear hQ
  have HO := Lib.hid hok
  clear hok
  conv => arg 2; whnf
  refine wp_region_par (S := fun _ => True) (I := fun L' a w => ∃ u4 u5 u7 u8 u9 u10 : Value, a = ⟨List.toArray (s0 :: .pointer (some ⟨ob, 0, none⟩) :: s2 :: .pointer (some ⟨ob, 3, none⟩) :: u4 :: u5 :: .pointer (some ⟨ob, 4, none⟩) :: u7 :: u8 :: u9 :: u10 :: s11 :: []), []⟩ ∧ RowKit.Below ob W0 w ∧ w.heap[rb]? = some Z ∧ (∃ x y : Value, w.heap[ob]? = some (.cells #[.string o.code, .int .i64 o.credits, .int .i64 o.places, x, y] 52 (0, 0)) ∧ (L'.getD 7 false = false → x = o.sv) ∧ (L'.getD 7 false = true → x = u5) ∧ (L'.getD 9 false = false → y = o.nv) ∧ (L'.getD 9 false = true → y = u8)) ∧ (L'.getD 1 false = true → u4 = o.sv) ∧ (L'.getD 4 false = true → u7 = o.nv) ∧ (L'.getD 2 false = true → FarRow encI rb o.slots w u5) ∧ (L'.getD 5 false = true → FarRow encT rb o.needs w u8) ∧ (L'.getD 6 false = true → u9 = .pointer (some ⟨ob, 3, none⟩)) ∧ (L'.getD 8 false = true → u10 = .pointer (some ⟨ob, 4, none⟩))) (pre := fun j L' => L'.size == 10 && ((j == 1 && !L'.getD 7 false) || (j == 2 && L'.getD 1 false && !L'.getD 7 false) || (j == 4 && !L'.getD 9 false) || (j == 5 && L'.getD 4 false && !L'.getD 9 false) || (j == 6) || (j == 7 && L'.getD 2 false && L'.getD 6 false && !L'.getD 7 false) || (j == 8) || (j == 9 && L'.getD 5 false && L'.getD 8 false && !L'.getD 9 false))) (fin := fun L' => L'.getD 7 false && L'.getD 9 false && L'.getD 2 false && L'.getD 5 false && L'.getD 6 false && L'.getD 8 false) [0, 3] 8 (by kernel_rfl) (by kernel_rfl) (by kernel_rfl) (by kernel_rfl) (by decide) trivial ?_ ?_ ?_
  · intro j L' a w hp hI
    obtain ⟨u4, u5, u7, u8, u9, u10, rfl, hbw, hzw, ⟨x, y, hx, x0, x1, y0, y1⟩, h1, h4, h2, h5, h6, h8⟩ := hI
    have hlt : ob < w.heap.size := (Array.getElem?_eq_some_iff.1 hx).1
    have hcell : ∀ i, w.cell? ⟨ob, i, none⟩ = (#[.string o.code, .int .i64 o.credits, .int .i64 o.places, x, y] : Array Value)[i]? := fun i => Lib.cell_of_heap hx i
    have hzf : ∀ i, w.frozen? ⟨ob, i, none⟩ = false := fun i => Lib.frozen_of_heap hx i
    have hoks := HO.out.below (w' := w) (by rw [h0]; exact hbw)
    simp only [Bool.and_eq_true, Bool.or_eq_true, beq_iff_eq, Bool.not_eq_true'] at hp
    obtain ⟨hsz, hp⟩ := hp
    rcases hp with (((((((⟨rfl, q7⟩ | ⟨⟨rfl, p1⟩, q7⟩) | ⟨rfl, q9⟩) | ⟨⟨rfl, p4⟩, q9⟩) | rfl) | ⟨⟨⟨rfl, p2⟩, p6⟩, q7⟩) | rfl) | ⟨⟨⟨rfl, p5⟩, p8⟩, q9⟩)
    · have g1 : (L'.setIfInBounds 1 true).getD 1 false = true := by rw [up_set, if_pos ⟨rfl, by omega⟩]
      have g2 : (L'.setIfInBounds 1 true).getD 2 false = L'.getD 2 false := by rw [up_set, if_neg (by omega)]
      have g4 : (L'.setIfInBounds 1 true).getD 4 false = L'.getD 4 false := by rw [up_set, if_neg (by omega)]
      have g5 : (L'.setIfInBounds 1 true).getD 5 false = L'.getD 5 false := by rw [up_set, if_neg (by omega)]
      have g6 : (L'.setIfInBounds 1 true).getD 6 false = L'.getD 6 false := by rw [up_set, if_neg (by omega)]
      have g7 : (L'.setIfInBounds 1 true).getD 7 false = L'.getD 7 false := by rw [up_set, if_neg (by omega)]
      have g8 : (L'.setIfInBounds 1 true).getD 8 false = L'.getD 8 false := by rw [up_set, if_neg (by omega)]
      have g9 : (L'.setIfInBounds 1 true).getD 9 false = L'.getD 9 false := by rw [up_set, if_neg (by omega)]
      obtain rfl := x0 q7
      have hbc : w.cell? ⟨ob, 3, none⟩ = some (.slice o.sp o.slots.length o.sc) := hcell 3
      refine par_run ⟨some 4, _, _, _, _, _⟩ (.slice o.sp o.slots.length o.sc) w rfl (by rfl) (by go_simp) ?_
      exact ⟨trivial, (.slice o.sp o.slots.length o.sc), u5, u7, u8, u9, u10, by simp only [Act.put, List.setIfInBounds_toArray, List.set_cons_zero, List.set_cons_succ], hbw, hzw, ⟨_, y, hx, by rw [g7]; exact x0, by rw [g7]; exact x1, by rw [g9]; exact y0, by rw [g9]; exact y1⟩, fun _ => rfl, by rw [g4]; exact h4, by rw [g2]; exact h2, by rw [g5]; exact h5, by rw [g6]; exact h6, by rw [g8]; exact h8⟩
    · have g1 : (L'.setIfInBounds 2 true).getD 1 false = L'.getD 1 false := by rw [up_set, if_neg (by omega)]
      have g2 : (L'.setIfInBounds 2 true).getD 2 false = true := by rw [up_set, if_pos ⟨rfl, by omega⟩]
      have g4 : (L'.setIfInBounds 2 true).getD 4 false = L'.getD 4 false := by rw [up_set, if_neg (by omega)]
      have g5 : (L'.setIfInBounds 2 true).getD 5 false = L'.getD 5 false := by rw [up_set, if_neg (by omega)]
      have g6 : (L'.setIfInBounds 2 true).getD 6 false = L'.getD 6 false := by rw [up_set, if_neg (by omega)]
      have g7 : (L'.setIfInBounds 2 true).getD 7 false = L'.getD 7 false := by rw [up_set, if_neg (by omega)]
      have g8 : (L'.setIfInBounds 2 true).getD 8 false = L'.getD 8 false := by rw [up_set, if_neg (by omega)]
      have g9 : (L'.setIfInBounds 2 true).getD 9 false = L'.getD 9 false := by rw [up_set, if_neg (by omega)]
      obtain rfl := h1 p1
      refine par_call ⟨some 5, _, _, _, _, _⟩ rfl (by rfl) 64 _ _ (by rfl) _ (by rfl) Tryz.call64 (cloneI_any o.sp o.sc o.slots w hoks.slots (by unfold Off.few at hf; omega)) ?_
      rintro e wn ⟨p', c', rfl, hrow, hfar, hb⟩
      have hbn : RowKit.Below ob W0 wn := hbw.trans (hb.mono (Nat.le_of_lt hlt))
      have hxn : wn.heap[ob]? = some (.cells #[.string o.code, .int .i64 o.credits, .int .i64 o.places, x, y] 52 (0, 0)) := (hb.block ob hlt).trans hx
      have hzn : wn.heap[rb]? = some Z := (hb.block rb (Array.getElem?_eq_some_iff.1 hzw).1).trans hzw
      exact ⟨_, rfl, trivial, (.slice o.sp o.slots.length o.sc), (.slice p' o.slots.length c'), u7, u8, u9, u10, by simp only [Act.put, List.setIfInBounds_toArray, List.set_cons_zero, List.set_cons_succ], hbn, hzn, ⟨x, y, hxn, by rw [g7]; exact x0, fun e => absurd e (by rw [g7, q7]; decide), by rw [g9]; exact y0, by rw [g9]; exact y1⟩, fun _ => rfl, by rw [g4]; exact h4, fun _ => ⟨p', c', rfl, hrow, fun a ha => by have := hfar a ha; have := (Array.getElem?_eq_some_iff.1 hzw).1; omega⟩, by rw [g5]; exact fun e => (h5 e).below hb, by rw [g6]; exact h6, by rw [g8]; exact h8⟩
    · have g1 : (L'.setIfInBounds 4 true).getD 1 false = L'.getD 1 false := by rw [up_set, if_neg (by omega)]
      have g2 : (L'.setIfInBounds 4 true).getD 2 false = L'.getD 2 false := by rw [up_set, if_neg (by omega)]
      have g4 : (L'.setIfInBounds 4 true).getD 4 false = true := by rw [up_set, if_pos ⟨rfl, by omega⟩]
      have g5 : (L'.setIfInBounds 4 true).getD 5 false = L'.getD 5 false := by rw [up_set, if_neg (by omega)]
      have g6 : (L'.setIfInBounds 4 true).getD 6 false = L'.getD 6 false := by rw [up_set, if_neg (by omega)]
      have g7 : (L'.setIfInBounds 4 true).getD 7 false = L'.getD 7 false := by rw [up_set, if_neg (by omega)]
      have g8 : (L'.setIfInBounds 4 true).getD 8 false = L'.getD 8 false := by rw [up_set, if_neg (by omega)]
      have g9 : (L'.setIfInBounds 4 true).getD 9 false = L'.getD 9 false := by rw [up_set, if_neg (by omega)]
      obtain rfl := y0 q9
      have hbc : w.cell? ⟨ob, 4, none⟩ = some (.slice o.np o.needs.length o.nc) := hcell 4
      refine par_run ⟨some 7, _, _, _, _, _⟩ (.slice o.np o.needs.length o.nc) w rfl (by rfl) (by go_simp) ?_
      exact ⟨trivial, u4, u5, (.slice o.np o.needs.length o.nc), u8, u9, u10, by simp only [Act.put, List.setIfInBounds_toArray, List.set_cons_zero, List.set_cons_succ], hbw, hzw, ⟨x, _, hx, by rw [g7]; exact x0, by rw [g7]; exact x1, by rw [g9]; exact y0, by rw [g9]; exact y1⟩, by rw [g1]; exact h1, fun _ => rfl, by rw [g2]; exact h2, by rw [g5]; exact h5, by rw [g6]; exact h6, by rw [g8]; exact h8⟩
    · have g1 : (L'.setIfInBounds 5 true).getD 1 false = L'.getD 1 false := by rw [up_set, if_neg (by omega)]
      have g2 : (L'.setIfInBounds 5 true).getD 2 false = L'.getD 2 false := by rw [up_set, if_neg (by omega)]
      have g4 : (L'.setIfInBounds 5 true).getD 4 false = L'.getD 4 false := by rw [up_set, if_neg (by omega)]
      have g5 : (L'.setIfInBounds 5 true).getD 5 false = true := by rw [up_set, if_pos ⟨rfl, by omega⟩]
      have g6 : (L'.setIfInBounds 5 true).getD 6 false = L'.getD 6 false := by rw [up_set, if_neg (by omega)]
      have g7 : (L'.setIfInBounds 5 true).getD 7 false = L'.getD 7 false := by rw [up_set, if_neg (by omega)]
      have g8 : (L'.setIfInBounds 5 true).getD 8 false = L'.getD 8 false := by rw [up_set, if_neg (by omega)]
      have g9 : (L'.setIfInBounds 5 true).getD 9 false = L'.getD 9 false := by rw [up_set, if_neg (by omega)]
      obtain rfl := h4 p4
      refine par_call ⟨some 8, _, _, _, _, _⟩ rfl (by rfl) 65 _ _ (by rfl) _ (by rfl) Tryz.call65 (cloneT_any o.np o.nc o.needs w hoks.needs hf2) ?_
      rintro e wn ⟨p', c', rfl, hrow, hfar, hb⟩
      have hbn : RowKit.Below ob W0 wn := hbw.trans (hb.mono (Nat.le_of_lt hlt))
      have hxn : wn.heap[ob]? = some (.cells #[.string o.code, .int .i64 o.credits, .int .i64 o.places, x, y] 52 (0, 0)) := (hb.block ob hlt).trans hx
      have hzn : wn.heap[rb]? = some Z := (hb.block rb (Array.getElem?_eq_some_iff.1 hzw).1).trans hzw
      exact ⟨_, rfl, trivial, u4, u5, (.slice o.np o.needs.length o.nc), (.slice p' o.needs.length c'), u9, u10, by simp only [Act.put, List.setIfInBounds_toArray, List.set_cons_zero, List.set_cons_succ], hbn, hzn, ⟨x, y, hxn, by rw [g7]; exact x0, by rw [g7]; exact x1, by rw [g9]; exact y0, fun e => absurd e (by rw [g9, q9]; decide)⟩, by rw [g1]; exact h1, fun _ => rfl, by rw [g2]; exact fun e => (h2 e).below hb, fun _ => ⟨p', c', rfl, hrow, fun a ha => by have := hfar a ha; have := (Array.getElem?_eq_some_iff.1 hzw).1; omega⟩, by rw [g6]; exact h6, by rw [g8]; exact h8⟩
    · have g1 : (L'.setIfInBounds 6 true).getD 1 false = L'.getD 1 false := by rw [up_set, if_neg (by omega)]
      have g2 : (L'.setIfInBounds 6 true).getD 2 false = L'.getD 2 false := by rw [up_set, if_neg (by omega)]
      have g4 : (L'.setIfInBounds 6 true).getD 4 false = L'.getD 4 false := by rw [up_set, if_neg (by omega)]
      have g5 : (L'.setIfInBounds 6 true).getD 5 false = L'.getD 5 false := by rw [up_set, if_neg (by omega)]
      have g6 : (L'.setIfInBounds 6 true).getD 6 false = true := by rw [up_set, if_pos ⟨rfl, by omega⟩]
      have g7 : (L'.setIfInBounds 6 true).getD 7 false = L'.getD 7 false := by rw [up_set, if_neg (by omega)]
      have g8 : (L'.setIfInBounds 6 true).getD 8 false = L'.getD 8 false := by rw [up_set, if_neg (by omega)]
      have g9 : (L'.setIfInBounds 6 true).getD 9 false = L'.getD 9 false := by rw [up_set, if_neg (by omega)]
      refine par_run ⟨some 9, _, _, _, _, _⟩ (.pointer (some ⟨ob, 3, none⟩)) w rfl (by rfl) (by go_simp) ?_
      exact ⟨trivial, u4, u5, u7, u8, (.pointer (some ⟨ob, 3, none⟩)), u10, by simp only [Act.put, List.setIfInBounds_toArray, List.set_cons_zero, List.set_cons_succ], hbw, hzw, ⟨x, y, hx, by rw [g7]; exact x0, by rw [g7]; exact x1, by rw [g9]; exact y0, by rw [g9]; exact y1⟩, by rw [g1]; exact h1, by rw [g4]; exact h4, by rw [g2]; exact h2, by rw [g5]; exact h5, fun _ => rfl, by rw [g8]; exact h8⟩
    · have g1 : (L'.setIfInBounds 7 true).getD 1 false = L'.getD 1 false := by rw [up_set, if_neg (by omega)]
      have g2 : (L'.setIfInBounds 7 true).getD 2 false = L'.getD 2 false := by rw [up_set, if_neg (by omega)]
      have g4 : (L'.setIfInBounds 7 true).getD 4 false = L'.getD 4 false := by rw [up_set, if_neg (by omega)]
      have g5 : (L'.setIfInBounds 7 true).getD 5 false = L'.getD 5 false := by rw [up_set, if_neg (by omega)]
      have g6 : (L'.setIfInBounds 7 true).getD 6 false = L'.getD 6 false := by rw [up_set, if_neg (by omega)]
      have g7 : (L'.setIfInBounds 7 true).getD 7 false = true := by rw [up_set, if_pos ⟨rfl, by omega⟩]
      have g8 : (L'.setIfInBounds 7 true).getD 8 false = L'.getD 8 false := by rw [up_set, if_neg (by omega)]
      have g9 : (L'.setIfInBounds 7 true).getD 9 false = L'.getD 9 false := by rw [up_set, if_neg (by omega)]
      obtain rfl := h6 p6
      have hfr := h2 p2
      obtain ⟨p1, c1, rfl, _, _⟩ := id hfr
      have hbn : RowKit.Below ob W0 (w.setCell ⟨ob, 3, none⟩ (.slice p1 o.slots.length c1)) := hbw.setCell (Nat.le_refl _) _
      have hzn : (w.setCell ⟨ob, 3, none⟩ (.slice p1 o.slots.length c1)).heap[rb]? = some Z := (Below.heap_setCell _ _ _ _ (show rb ≠ ob by omega)).trans hzw
      refine par_store ⟨none, _, _, _, _, _⟩ (w.setCell ⟨ob, 3, none⟩ (.slice p1 o.slots.length c1)) rfl (by rfl) ⟨trivial, u4, (.slice p1 o.slots.length c1), u7, u8, (.pointer (some ⟨ob, 3, none⟩)), u10, rfl, hbn, hzn, ⟨_, y, (off_set hx _).1, fun e => absurd e (by rw [g7]; decide), fun _ => rfl, by rw [g9]; exact y0, by rw [g9]; exact y1⟩, by rw [g1]; exact h1, by rw [g4]; exact h4, fun _ => hfr.set (Nat.le_of_lt hor) 3 _, by rw [g5]; exact fun e => (h5 e).set (Nat.le_of_lt hor) 3 _, by rw [g6]; exact h6, by rw [g8]; exact h8⟩ (fun K' hk' => ?_)
      unfold Oper.wp
      go_simp
      exact hk'
    · have g1 : (L'.setIfInBounds 8 true).getD 1 false = L'.getD 1 false := by rw [up_set, if_neg (by omega)]
      have g2 : (L'.setIfInBounds 8 true).getD 2 false = L'.getD 2 false := by rw [up_set, if_neg (by omega)]
      have g4 : (L'.setIfInBounds 8 true).getD 4 false = L'.getD 4 false := by rw [up_set, if_neg (by omega)]
      have g5 : (L'.setIfInBounds 8 true).getD 5 false = L'.getD 5 false := by rw [up_set, if_neg (by omega)]
      have g6 : (L'.setIfInBounds 8 true).getD 6 false = L'.getD 6 false := by rw [up_set, if_neg (by omega)]
      have g7 : (L'.setIfInBounds 8 true).getD 7 false = L'.getD 7 false := by rw [up_set, if_neg (by omega)]
      have g8 : (L'.setIfInBounds 8 true).getD 8 false = true := by rw [up_set, if_pos ⟨rfl, by omega⟩]
      have g9 : (L'.setIfInBounds 8 true).getD 9 false = L'.getD 9 false := by rw [up_set, if_neg (by omega)]
      refine par_run ⟨some 10, _, _, _, _, _⟩ (.pointer (some ⟨ob, 4, none⟩)) w rfl (by rfl) (by go_simp) ?_
      exact ⟨trivial, u4, u5, u7, u8, u9, (.pointer (some ⟨ob, 4, none⟩)), by simp only [Act.put, List.setIfInBounds_toArray, List.set_cons_zero, List.set_cons_succ], hbw, hzw, ⟨x, y, hx, by rw [g7]; exact x0, by rw [g7]; exact x1, by rw [g9]; exact y0, by rw [g9]; exact y1⟩, by rw [g1]; exact h1, by rw [g4]; exact h4, by rw [g2]; exact h2, by rw [g5]; exact h5, by rw [g6]; exact h6, fun _ => rfl⟩
    · have g1 : (L'.setIfInBounds 9 true).getD 1 false = L'.getD 1 false := by rw [up_set, if_neg (by omega)]
      have g2 : (L'.setIfInBounds 9 true).getD 2 false = L'.getD 2 false := by rw [up_set, if_neg (by omega)]
      have g4 : (L'.setIfInBounds 9 true).getD 4 false = L'.getD 4 false := by rw [up_set, if_neg (by omega)]
      have g5 : (L'.setIfInBounds 9 true).getD 5 false = L'.getD 5 false := by rw [up_set, if_neg (by omega)]
      have g6 : (L'.setIfInBounds 9 true).getD 6 false = L'.getD 6 false := by rw [up_set, if_neg (by omega)]
      have g7 : (L'.setIfInBounds 9 true).getD 7 false = L'.getD 7 false := by rw [up_set, if_neg (by omega)]
      have g8 : (L'.setIfInBounds 9 true).getD 8 false = L'.getD 8 false := by rw [up_set, if_neg (by omega)]
      have g9 : (L'.setIfInBounds 9 true).getD 9 false = true := by rw [up_set, if_pos ⟨rfl, by omega⟩]
      obtain rfl := h8 p8
      have hfr := h5 p5
      obtain ⟨p1, c1, rfl, _, _⟩ := id hfr
      have hbn : RowKit.Below ob W0 (w.setCell ⟨ob, 4, none⟩ (.slice p1 o.needs.length c1)) := hbw.setCell (Nat.le_refl _) _
      have hzn : (w.setCell ⟨ob, 4, none⟩ (.slice p1 o.needs.length c1)).heap[rb]? = some Z := (Below.heap_setCell _ _ _ _ (show rb ≠ ob by omega)).trans hzw
      refine par_store ⟨none, _, _, _, _, _⟩ (w.setCell ⟨ob, 4, none⟩ (.slice p1 o.needs.length c1)) rfl (by rfl) ⟨trivial, u4, u5, u7, (.slice p1 o.needs.length c1), u9, (.pointer (some ⟨ob, 4, none⟩)), rfl, hbn, hzn, ⟨x, _, (off_set hx _).2, by rw [g7]; exact x0, by rw [g7]; exact x1, fun e => absurd e (by rw [g9]; decide), fun _ => rfl⟩, by rw [g1]; exact h1, by rw [g4]; exact h4, by rw [g2]; exact fun e => (h2 e).set (Nat.le_of_lt hor) 4 _, fun _ => hfr.set (Nat.le_of_lt hor) 4 _, by rw [g6]; exact h6, by rw [g8]; exact h8⟩ (fun K' hk' => ?_)
      unfold Oper.wp
      go_simp
      exact hk'
  · intro L' a w hp hI
    obtain ⟨u4, u5, u7, u8, u9, u10, rfl, hbw, hzw, ⟨x, y, hx, _, x1, _, y1⟩, _, _, h2, h5, h6, h8⟩ := hI
    simp only [Bool.and_eq_true] at hp
    obtain ⟨⟨⟨⟨⟨p7, p9⟩, p2⟩, p5⟩, p6⟩, p8⟩ := hp
    obtain rfl := h6 p6
    obtain rfl := h8 p8
    obtain rfl := x1 p7
    obtain rfl := y1 p9
    exact HQ.out _ _ _ _ w hbw hzw hx (h2 p2) (h5 p5)
  · refine par_take ⟨some 3, _, _, _, _, _⟩ ?_ rfl (by rfl) ?_ ?_
    rotate_left 1
    · intro w hSw; (try dsimp only at hSw); go_simp; (try with_reducible rfl)
    simp only [Act.put, List.setIfInBounds_toArray, List.set_cons_zero, List.set_cons_succ]
    refine par_take ⟨some 6, _, _, _, _, _⟩ ?_ rfl (by rfl) ?_ ?_
    rotate_left 1
    · intro w hSw; (try dsimp only at hSw); go_simp; (try with_reducible rfl)
    simp only [Act.put, List.setIfInBounds_toArray, List.set_cons_zero, List.set_cons_succ]
    exact ⟨_, _, _, _, _, _, rfl, hb0.drew, hZ, ⟨_, _, hbox, fun _ => rfl, (fun e => absurd e (by decide +kernel)), fun _ => rfl, (fun e => absurd e (by decide +kernel))⟩, (fun e => absurd e (by decide +kernel)), (fun e => absurd e (by decide +kernel)), (fun e => absurd e (by decide +kernel)), (fun e => absurd e (by decide +kernel)), (fun e => absurd e (by decide +kernel)), (fun e => absurd e (by decide +kernel))⟩
set_option maxHeartbeats 4000000 in
set_option maxRecDepth 100000 in
theorem clone_any (o : Off) (w : World) (hok : OffOk w o) (hf : o.few) (hf2 : o.needs.length ≤ 1000000000000) :
    Calls Tryz.prog 42 #[.agg #[.string o.code, .int .i64 o.credits, .int .i64 o.places, .slice o.sp o.slots.length o.sc, .slice o.np o.needs.length o.nc]] w fun e w' => ∃ o', e = .returned o'.val ∧ SameOff o' o ∧ FarRow encI w.heap.size o'.slots w' o'.sv ∧ FarRow encT w.heap.size o'.needs w' o'.nv ∧ RowKit.Below w.heap.size w w' := by
  have hb0 := below_alloc1 w (.cells #[.string o.code, .int .i64 o.credits, .int .i64 o.places, .slice o.sp o.slots.length o.sc, .slice o.np o.needs.length o.nc] 52)
  go_enter Tryz.func42, Tryz.ntmps42
  go_wp2_with fail
  have hbb := (below_alloc1 w (.cells #[.string o.code, .int .i64 o.credits, .int .i64 o.places, .slice o.sp o.slots.length o.sc, .slice o.np o.needs.length o.nc] 52)).alloc (by simp) (.cells #[.string ⟨#[]⟩, .int .i64 0, .int .i64 0, .slice none 0 0, .slice none 0 0] 52)
  refine clone_r1 w w.heap.size (w.heap.size + 1) (.cells #[.string ⟨#[]⟩, .int .i64 0, .int .i64 0, .slice none 0 0, .slice none 0 0] 52 (0, 0)) o _ _ rfl hbb hok hf hf2 (by omega) (new_two w _ _) ?_ ?_
  · rw [(below_alloc1 _ _).block _ (by simp)]; exact heap_alloc_new w _
  intro u4 u5 u7 u8 w1 hb1 hr1 hx1 f5 f8
  have F5 := Lib.hid f5
  have F8 := Lib.hid f8
  obtain ⟨p5, c5, rfl, _, _⟩ := f5
  obtain ⟨p8, c8, rfl, _, _⟩ := f8
  have hxc : ∀ i, w1.cell? ⟨w.heap.size, i, none⟩ = (#[.string o.code, .int .i64 o.credits, .int .i64 o.places, .slice p5 o.slots.length c5, .slice p8 o.needs.length c8] : Array Value)[i]? := fun i => Lib.cell_of_heap hx1 i
  have hxr : ∀ i, w1.cell? ⟨w.heap.size + 1, i, none⟩ = (#[.string ⟨#[]⟩, .int .i64 0, .int .i64 0, .slice none 0 0, .slice none 0 0] : Array Value)[i]? := fun i => Lib.cell_of_heap hr1 i
  have hxf : ∀ i, w1.frozen? ⟨w.heap.size + 1, i, none⟩ = false := fun i => Lib.frozen_of_heap hr1 i
  go_wp2_with fail
  have G5 := ((((F5.out.set (Nat.le_refl _) 0 (.string o.code)).set (Nat.le_refl _) 1 (.int .i64 o.credits)).set (Nat.le_refl _) 2 (.int .i64 o.places)).set (Nat.le_refl _) 3 (.slice p5 o.slots.length c5)).set (Nat.le_refl _) 4 (.slice p8 o.needs.length c8)
  have G8 := ((((F8.out.set (Nat.le_refl _) 0 (.string o.code)).set (Nat.le_refl _) 1 (.int .i64 o.credits)).set (Nat.le_refl _) 2 (.int .i64 o.places)).set (Nat.le_refl _) 3 (.slice p5 o.slots.length c5)).set (Nat.le_refl _) 4 (.slice p8 o.needs.length c8)
  have hb2 : RowKit.Below w.heap.size w (((((w1.setCell ⟨w.heap.size + 1, 0, none⟩ (.string o.code)).setCell ⟨w.heap.size + 1, 1, none⟩ (.int .i64 o.credits)).setCell ⟨w.heap.size + 1, 2, none⟩ (.int .i64 o.places)).setCell ⟨w.heap.size + 1, 3, none⟩ (.slice p5 o.slots.length c5)).setCell ⟨w.heap.size + 1, 4, none⟩ (.slice p8 o.needs.length c8)) := ((((hb1.setCell (Nat.le_succ _) _).setCell (Nat.le_succ _) _).setCell (Nat.le_succ _) _).setCell (Nat.le_succ _) _).setCell (Nat.le_succ _) _
  have hres : (((((w1.setCell ⟨w.heap.size + 1, 0, none⟩ (.string o.code)).setCell ⟨w.heap.size + 1, 1, none⟩ (.int .i64 o.credits)).setCell ⟨w.heap.size + 1, 2, none⟩ (.int .i64 o.places)).setCell ⟨w.heap.size + 1, 3, none⟩ (.slice p5 o.slots.length c5)).setCell ⟨w.heap.size + 1, 4, none⟩ (.slice p8 o.needs.length c8)).heap[w.heap.size + 1]? = some (.cells #[.string o.code, .int .i64 o.credits, .int .i64 o.places, .slice p5 o.slots.length c5, .slice p8 o.needs.length c8] 52 (0, 0)) := by simp [World.setCell, Array.getElem?_modify, hr1]
  generalize World.setCell _ _ _ = w2 at G5 G8 hb2 hres ⊢
  refine bodyPost_ret (v := Off.val { o with sp := p5, sc := c5, np := p8, nc := c8 }) ?_ rfl ⟨_, rfl, ⟨rfl, rfl, rfl, rfl, rfl⟩, G5.mono (Nat.le_succ _), G8.mono (Nat.le_succ _), hb2⟩
  exact results_cell_row (P := Tryz.prog) Tryz.results42 _ _ (w.heap.size + 1) 52 _ (0, 0) _ rfl hres Tryz.underlying52 rfl (by kernel_rfl)
/-- Five stores into a result's cells. -/
theorem off_store {w : World} {b : Nat} {z0 z1 z2 z3 z4 : Value} (h : w.heap[b]? = some (.cells #[z0, z1, z2, z3, z4] 52 (0, 0))) (v0 v1 v2 v3 v4 : Value) :
    (((((w.setCell ⟨b, 0, none⟩ v0).setCell ⟨b, 1, none⟩ v1).setCell ⟨b, 2, none⟩ v2).setCell ⟨b, 3, none⟩ v3).setCell ⟨b, 4, none⟩ v4).heap[b]? = some (.cells #[v0, v1, v2, v3, v4] 52 (0, 0)) := by
  simp [World.setCell, Array.getElem?_modify, h]
theorem off_results {fn : Func} {p u : Tmp} (h : fn.results = #[.cell p 52, .tmp u]) (tmps : Array Value) (w : World) (g : Nat) (cs : Array Value) (hs : cs.size = 5) (hp : tmps.getD p undef = .pointer (some ⟨g, 0, none⟩)) (hg : w.heap[g]? = some (.cells cs 52 (0, 0))) :
    (results fn tmps).run Tryz.prog w = .ok (.tuple #[.agg cs, tmps.getD u undef]) w := by
  rw [results_cell_tmp h, hp]
  have hz : (Tryz.prog.info? 52).map (·.size) = some 5 := by kernel_rfl
  have := run_loadVar_row (P := Tryz.prog) w g 52 52 cs (0, 0) _ hg Tryz.underlying52 rfl (by rw [hz, hs])
  simp only [asAddr, Sem.run_pure, Result.andThen_ok, this]
/-- What Find leaves. -/
def FindPost (L : List Off) (c : ByteArray) (w : World) (e : Ending) (w' : World) : Prop := ∃ o' : Off, e = .returned (.tuple #[o'.val, .bool (findO L c).isSome]) ∧ SameOff o' (getO L c) ∧ OffOk w' o' ∧ RowKit.Below w.heap.size w w'
set_option maxHeartbeats 4000000 in
set_option maxRecDepth 100000 in
theorem find_any (v : Value) (L : List Off) (c : ByteArray) (w : World) (h : RowIn Off.cells w v L) (hl : L.length ≤ 1000000) (ho : ∀ o ∈ L, OffOk w o ∧ o.few ∧ o.needs.length ≤ 1000000000000) :
    Calls Tryz.prog 16 #[v, .string c] w (FindPost L c w) := by
  have hbb := (below_alloc1 w (.cells #[.string c] 9)).alloc (by simp) (.cells #[.string ⟨#[]⟩, .int .i64 0, .int .i64 0, .slice none 0 0, .slice none 0 0] 52)
  have hcx : ((w.alloc (.cells #[.string c] 9)).alloc (.cells #[.string ⟨#[]⟩, .int .i64 0, .int .i64 0, .slice none 0 0, .slice none 0 0] 52)).heap[w.heap.size]? = some (.cells #[.string c] 9 (0, 0)) := by rw [(below_alloc1 _ _).block _ (by simp)]; exact heap_alloc_new w _
  have hrx := new_two w (.cells #[.string c] 9) (.cells #[.string ⟨#[]⟩, .int .i64 0, .int .i64 0, .slice none 0 0, .slice none 0 0] 52)
  have hsz : w.heap.size + 2 ≤ ((w.alloc (.cells #[.string c] 9)).alloc (.cells #[.string ⟨#[]⟩, .int .i64 0, .int .i64 0, .slice none 0 0, .slice none 0 0] 52)).heap.size := by simp
  have H := Lib.hid h
  have HO := Lib.hid ho
  obtain ⟨pv, cv, rfl, _⟩ := h.form
  clear h ho
  go_enter Tryz.func16, Tryz.ntmps16
  go_wp2_with fail
  generalize World.alloc _ _ = W at hbb hcx hrx hsz ⊢
  refine (indexO_any _ L c w.heap.size W (H.out.below hbb) hl (by omega) (Lib.cell_of_heap hcx 0)).mono ?_
  rintro _ w1 ⟨⟨k, rfl, hk⟩, hb1⟩
  have hb01 := below_next hbb hb1
  have hr1 : w1.heap[w.heap.size + 1]? = some (.cells #[.string ⟨#[]⟩, .int .i64 0, .int .i64 0, .slice none 0 0, .slice none 0 0] 52 (0, 0)) := (hb1.block _ (by omega)).trans hrx
  have hs1 := hb1.size
  clear hb1 hbb hcx hrx
  have hxr : ∀ i, w1.cell? ⟨w.heap.size + 1, i, none⟩ = (#[.string ⟨#[]⟩, .int .i64 0, .int .i64 0, .slice none 0 0, .slice none 0 0] : Array Value)[i]? := fun i => Lib.cell_of_heap hr1 i
  have hxf : ∀ i, w1.frozen? ⟨w.heap.size + 1, i, none⟩ = false := fun i => Lib.frozen_of_heap hr1 i
  rcases hk with ⟨rfl, hn⟩ | ⟨j, o, rfl, hj, hn⟩
  · have HN := Lib.hid hn
    clear hn
    go_wp2_with fail
    have hb5 : RowKit.Below w.heap.size w (((((w1.setCell ⟨w.heap.size + 1, 0, none⟩ (.string ⟨#[]⟩)).setCell ⟨w.heap.size + 1, 1, none⟩ (.int .i64 0)).setCell ⟨w.heap.size + 1, 2, none⟩ (.int .i64 0)).setCell ⟨w.heap.size + 1, 3, none⟩ (.slice none 0 0)).setCell ⟨w.heap.size + 1, 4, none⟩ (.slice none 0 0)) := ((((hb01.setCell (Nat.le_succ _) _).setCell (Nat.le_succ _) _).setCell (Nat.le_succ _) _).setCell (Nat.le_succ _) _).setCell (Nat.le_succ _) _
    refine bodyPost_ret (v := .tuple #[zeroO.val, .bool (findO L c).isSome]) ?_ rfl ⟨zeroO, rfl, ?_, zeroO_ok _, hb5⟩
    · rw [HN.out]
      exact off_results Tryz.results16 _ _ (w.heap.size + 1) _ rfl rfl (off_store hr1 _ _ _ _ _)
    · rw [show getO L c = zeroO by unfold getO; rw [HN.out]; rfl]
      exact ⟨rfl, rfl, rfl, rfl, rfl⟩
  · have hjl : j < L.length := (List.getElem?_eq_some_iff.1 hj).1
    obtain ⟨b, of, c', hv, _, hbl, hx⟩ := H.out.at_ (k := 5) (fun _ => rfl) (by omega)
    have e1 := (Value.slice.inj hv).1
    subst e1
    have hat := hx j _ hj
    have h0 : w1.cell? ⟨b, of + j * 5, none⟩ = some (.string o.code) := by rw [hb01.cell (p := ⟨b, of + j * 5, none⟩) hbl]; exact hat 0 _ rfl
    have h1 : w1.cell? ⟨b, of + j * 5 + 1, none⟩ = some (.int .i64 o.credits) := by rw [hb01.cell (p := ⟨b, of + j * 5 + 1, none⟩) hbl]; exact hat 1 _ rfl
    have h2 : w1.cell? ⟨b, of + j * 5 + 2, none⟩ = some (.int .i64 o.places) := by rw [hb01.cell (p := ⟨b, of + j * 5 + 2, none⟩) hbl]; exact hat 2 _ rfl
    have h3 : w1.cell? ⟨b, of + j * 5 + 3, none⟩ = some (.slice o.sp o.slots.length o.sc) := by rw [hb01.cell (p := ⟨b, of + j * 5 + 3, none⟩) hbl]; exact hat 3 _ rfl
    have h4 : w1.cell? ⟨b, of + j * 5 + 4, none⟩ = some (.slice o.np o.needs.length o.nc) := by rw [hb01.cell (p := ⟨b, of + j * 5 + 4, none⟩) hbl]; exact hat 4 _ rfl
    obtain ⟨oo, of1, of2⟩ := HO.out o (List.mem_of_getElem? hj)
    have cc := clone_any o w1 (oo.below hb01) of1 of2
    have HN := Lib.hid hn
    have hjl2 : (j : Int) < (L.length : Int) := by omega
    clear hv hx hat hn hj oo of1 of2
    go_wp2_with fail
    refine cc.mono ?_
    rintro _ w2 ⟨o', rfl, hsm, f5, f8, hb2⟩
    have hb02 := below_next hb01 hb2
    have hr2 : w2.heap[w.heap.size + 1]? = some (.cells #[.string ⟨#[]⟩, .int .i64 0, .int .i64 0, .slice none 0 0, .slice none 0 0] 52 (0, 0)) := (hb2.block _ (by omega)).trans hr1
    have hyr : ∀ i, w2.cell? ⟨w.heap.size + 1, i, none⟩ = (#[.string ⟨#[]⟩, .int .i64 0, .int .i64 0, .slice none 0 0, .slice none 0 0] : Array Value)[i]? := fun i => Lib.cell_of_heap hr2 i
    have hyf : ∀ i, w2.frozen? ⟨w.heap.size + 1, i, none⟩ = false := fun i => Lib.frozen_of_heap hr2 i
    have F5 := Lib.hid f5
    have F8 := Lib.hid f8
    have HS := Lib.hid hsm
    clear hxr hxf h0 h1 h2 h3 h4 hr1 hb2 f5 f8 hsm
    go_wp2_with fail
    have hb5 : RowKit.Below w.heap.size w (((((w2.setCell ⟨w.heap.size + 1, 0, none⟩ (.string o'.code)).setCell ⟨w.heap.size + 1, 1, none⟩ (.int .i64 o'.credits)).setCell ⟨w.heap.size + 1, 2, none⟩ (.int .i64 o'.places)).setCell ⟨w.heap.size + 1, 3, none⟩ o'.sv).setCell ⟨w.heap.size + 1, 4, none⟩ o'.nv) := ((((hb02.setCell (Nat.le_succ _) _).setCell (Nat.le_succ _) _).setCell (Nat.le_succ _) _).setCell (Nat.le_succ _) _).setCell (Nat.le_succ _) _
    have hle : w.heap.size + 1 ≤ w1.heap.size := by omega
    refine bodyPost_ret (v := .tuple #[o'.val, .bool (findO L c).isSome]) ?_ rfl ⟨o', rfl, ?_, ⟨?_, ?_⟩, hb5⟩
    · rw [HN.out]
      exact off_results Tryz.results16 _ _ (w.heap.size + 1) _ rfl rfl (off_store hr2 _ _ _ _ _)
    · rw [show getO L c = o by unfold getO; rw [HN.out]; rfl]
      exact HS.out
    · exact (((((F5.out.set hle 0 _).set hle 1 _).set hle 2 _).set hle 3 _).set hle 4 _).row
    · exact (((((F8.out.set hle 0 _).set hle 1 _).set hle 2 _).set hle 3 _).set hle 4 _).row
end Go.Proofs.YtbihaoadgcckhaaGreat
