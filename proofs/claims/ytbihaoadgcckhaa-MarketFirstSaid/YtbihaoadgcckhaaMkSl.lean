/- quadriviumref28.Single: a request that numbers make. -/
import Derived.Test.YtbihaoadgcckhaaMkPa
namespace Go.Proofs.Ytbihaoadgcckhaa
open Go Go.Proofs Go.RowKit Go.Maps Go.Sort Go.Lib
attribute [local go_sem] Req.cells

/-- What stands while the numbers are drawn; block r is the result's. -/
structure SglS (W0 : World) (rb Wz : Nat) (d : Nat) (A : Option Addr) (n c : Nat) (w : World) : Prop where
  below : RowKit.Below W0.heap.size W0 w
  draw : DrawS d A n c w
  ints : IntsIn d A n w
  lo : W0.heap.size ≤ d
  res : w.heap[rb]? = some (.cells #[.int .i64 0, .int .i64 0, .bool false, .int .i64 0, .int .i64 0, .string ⟨#[]⟩, .string ⟨#[]⟩, .int .i64 0, .int .i64 0] 35 (0, 0))
  rlt : rb < Wz
  rlo : W0.heap.size ≤ rb
  sz : Wz ≤ w.heap.size
section
variable {W0 w wn : World} {rb Wz d n c : Nat} {A : Option Addr}
theorem SglS.next (h : SglS W0 rb Wz d A n c w) (hd : DrawS d A n c wn) (hg : Only d w wn) : SglS W0 rb Wz d A n c wn := by
  obtain ⟨k, hk, hda⟩ := h.draw
  exact ⟨h.below.grown hg h.below.size (fun q hq => by obtain rfl := Option.some.inj hq; exact h.lo), hd, h.ints.only (Nat.le_refl _) (Nat.le_of_lt (lt_of_heap hda)) hg, h.lo,
    (hg.block rb (lt_of_heap h.res) (fun e => draw_apart h.draw (by decide) rb e.symm h.res)).trans h.res, h.rlt, h.rlo, Nat.le_trans h.sz hg.size⟩
theorem SglS.keep (h : SglS W0 rb Wz d A n c w) (hb : RowKit.Below w.heap.size w wn) : SglS W0 rb Wz d A n c wn := by
  obtain ⟨k, hk, hda⟩ := h.draw
  have hlt := lt_of_heap hda
  refine ⟨below_next h.below hb, ⟨k, hk, ?_⟩, h.ints.below (hb.mono (Nat.le_of_lt hlt)), h.lo, (hb.block rb (lt_of_heap h.res)).trans h.res, h.rlt, h.rlo, Nat.le_trans h.sz hb.size⟩
  unfold DrawAt at *
  rw [hb.block _ hlt]; exact hda
theorem SglS.row (h : SglS W0 rb Wz d A n c w) {b : Nat} {old : Array Value} {t : TypeId} (hb : w.heap[b]? = some (.cells old t (0, 0))) (hB : Wz ≤ b) (cs : Array Value) (ht : t ≠ 78 := by decide) (hi : IntsIn W0.heap.size A n W0 := by assumption) : SglS W0 rb Wz d A n c (w.setRow b cs) := by
  have hg := setRow_grown hb cs
  have hr := h.rlt
  have hr2 := h.rlo
  have hbl : RowKit.Below W0.heap.size W0 (w.setRow b cs) := h.below.grown hg h.below.size (fun q hq => by obtain rfl := Option.some.inj hq; omega)
  obtain ⟨k, hk, hda⟩ := h.draw
  have hne : some d ≠ some b := fun e => draw_apart (w := w) ⟨k, hk, hda⟩ ht b e hb
  refine ⟨hbl, ⟨k, hk, ?_⟩, ?_, h.lo, (hg.block rb (lt_of_heap h.res) (fun e => by have := Option.some.inj e; omega)).trans h.res, h.rlt, h.rlo, Nat.le_trans h.sz hg.size⟩
  · unfold DrawAt at *
    rw [hg.block _ (lt_of_heap hda) hne]; exact hda
  · have := hi.below hbl
    exact ⟨this.1, fun j hj => by
      obtain ⟨b', off, z, hA, hB', hc, hz⟩ := this.2 j hj
      exact ⟨b', off, z, hA, Nat.lt_of_lt_of_le hB' h.lo, hc, hz⟩⟩
theorem SglS.drew (h : SglS W0 rb Wz d A n c w) : SglS W0 rb Wz d A n c w.drew := h.keep (Below.refl _ _).drew
end
theorem codes_at {w : World} {b k : Nat} {t : TypeId} (h : w.heap[b]? = some (.cells #[.string ⟨#[65, 49]⟩, .string ⟨#[66, 49]⟩, .string ⟨#[66, 50]⟩, .string ⟨#[67, 49]⟩, .string ⟨#[68, 49]⟩, .string ⟨#[69, 57]⟩] t (0, 0))) (hk : k < 6) : ∃ s, s ∈ codesL ∧ w.cell? ⟨b, k, none⟩ = some (.string s) := by
  match k, hk with
  | 0, _ => exact ⟨_, by unfold codesL; simp, Lib.cell_of_heap h 0⟩
  | 1, _ => exact ⟨_, by unfold codesL; simp, Lib.cell_of_heap h 1⟩
  | 2, _ => exact ⟨_, by unfold codesL; simp, Lib.cell_of_heap h 2⟩
  | 3, _ => exact ⟨_, by unfold codesL; simp, Lib.cell_of_heap h 3⟩
  | 4, _ => exact ⟨_, by unfold codesL; simp, Lib.cell_of_heap h 4⟩
  | 5, _ => exact ⟨_, by unfold codesL; simp, Lib.cell_of_heap h 5⟩

set_option maxHeartbeats 16000000 in
set_option maxRecDepth 100000 in
theorem sgl_r2 {s0 s2 s3 s4 s6 s7 s8 s9 s10 s11 s12 s13 s14 s15 s16 s17 s18 s19 s20 s21 s22 s23 s24 s25 s26 s27 s28 : Value} (W0 : World) (rb d : Nat) (A : Option Addr) (n c : Nat) (q : Int) (W : World) (Q : Exit → Act → World → Prop) (hi0 : IntsIn W0.heap.size A n W0) (h0 : SglS W0 rb W.heap.size d A n c W)
    (hQ : ∀ (u11 u12 u15 u16 u17 u19 u20 u21 u23 u25 u26 u27 : Value) (b : Nat) (r : Req) (wx : World), SglS W0 rb W.heap.size d A n c wx → W.heap.size ≤ b → ReqBox wx b r → Pln q 0 3 r → Q .normal ⟨List.toArray (s0 :: .int .i64 q :: s2 :: s3 :: s4 :: .pointer (some ⟨d, 0, none⟩) :: .pointer (some ⟨b, 0, none⟩) :: s7 :: s8 :: s9 :: .pointer (some ⟨d, 0, none⟩) :: u11 :: u12 :: .int .i64 q :: .pointer (some ⟨d, 0, none⟩) :: u15 :: u16 :: u17 :: .pointer (some ⟨d, 0, none⟩) :: u19 :: u20 :: u21 :: .pointer (some ⟨d, 0, none⟩) :: u23 :: .pointer (some ⟨d, 0, none⟩) :: u25 :: u26 :: u27 :: s28 :: []), []⟩ wx) :
    (regionOf Try.f12 2).wp Try.prog Q ⟨List.toArray (s0 :: .int .i64 q :: s2 :: s3 :: s4 :: .pointer (some ⟨d, 0, none⟩) :: s6 :: s7 :: s8 :: s9 :: s10 :: s11 :: s12 :: s13 :: s14 :: s15 :: s16 :: s17 :: s18 :: s19 :: s20 :: s21 :: s22 :: s23 :: s24 :: s25 :: s26 :: s27 :: s28 :: []), []⟩ W := by
  refine of_onlyN (K := Q .normal) ?_ (fun _ _ h => h)
  generalize Q .normal = K at hQ ⊢
  have HQ := Lib.hid hQ; clear hQ
  conv => arg 2; whnf
  refine wp_region_par (S := fun w => SglS W0 rb W.heap.size d A n c w) (I := fun L' a w => ∃ u11 u12 u15 u16 u17 u19 u20 u21 u23 u25 u26 u27 u6 : Value, a = ⟨List.toArray (s0 :: .int .i64 q :: s2 :: s3 :: s4 :: .pointer (some ⟨d, 0, none⟩) :: u6 :: s7 :: s8 :: s9 :: .pointer (some ⟨d, 0, none⟩) :: u11 :: u12 :: .int .i64 q :: .pointer (some ⟨d, 0, none⟩) :: u15 :: u16 :: u17 :: .pointer (some ⟨d, 0, none⟩) :: u19 :: u20 :: u21 :: .pointer (some ⟨d, 0, none⟩) :: u23 :: .pointer (some ⟨d, 0, none⟩) :: u25 :: u26 :: u27 :: s28 :: []), []⟩ ∧ (SglS W0 rb W.heap.size d A n c w) ∧ (L'.getD 1 false = true → ∃ v : Nat, u11 = .int .i64 v ∧ v < 3) ∧ (L'.getD 2 false = true → ∃ v : Nat, u12 = .int .i64 (1 + v) ∧ v < 3) ∧ (L'.getD 5 false = true → ∃ v : Nat, u15 = .int .i64 v ∧ v < 5) ∧ (L'.getD 6 false = true → ∃ v : Nat, u16 = .int .i64 (1 + v) ∧ v < 5) ∧ (L'.getD 7 false = true → L'.getD 10 false = false → Laid 0 w (fun b => .slice (some ⟨b, 0, none⟩) 6 6) (.cells #[.string ⟨#[65, 49]⟩, .string ⟨#[66, 49]⟩, .string ⟨#[66, 50]⟩, .string ⟨#[67, 49]⟩, .string ⟨#[68, 49]⟩, .string ⟨#[69, 57]⟩] 9 (0, 0)) u17) ∧ (L'.getD 9 false = true → ∃ v : Nat, u19 = .int .i64 v ∧ v < 6) ∧ (L'.getD 10 false = true → L'.getD 11 false = false → ∃ (b v : Nat), u20 = .pointer (some ⟨b, v, none⟩) ∧ v < 6 ∧ w.heap[b]? = some (.cells #[.string ⟨#[65, 49]⟩, .string ⟨#[66, 49]⟩, .string ⟨#[66, 50]⟩, .string ⟨#[67, 49]⟩, .string ⟨#[68, 49]⟩, .string ⟨#[69, 57]⟩] 9 (0, 0))) ∧ (L'.getD 11 false = true → ∃ s, u21 = .string s ∧ s ∈ codesL) ∧ (L'.getD 13 false = true → ∃ v : Nat, u23 = .int .i64 v ∧ v < 4) ∧ (L'.getD 15 false = true → ∃ v : Nat, u25 = .int .i64 v ∧ v < 20) ∧ (L'.getD 16 false = true → ∃ v : Nat, u26 = .int .i64 (400 + v) ∧ v < 20) ∧ (L'.getD 17 false = true → ∃ r : Req, u27 = .agg #[.int .i64 r.server, .int .i64 r.seq, .bool r.cancel, .int .i64 r.student, .int .i64 r.term, .string r.code, .string r.give, .int .i64 r.priority, .int .i64 r.day] ∧ Pln q 0 3 r) ∧ (L'.getD 18 false = true → L'.getD 19 false = false → Laid W.heap.size w (fun b => .pointer (some ⟨b, 0, none⟩)) (.cells #[.int .i64 0, .int .i64 0, .bool false, .int .i64 0, .int .i64 0, .string ⟨#[]⟩, .string ⟨#[]⟩, .int .i64 0, .int .i64 0] 35 (0, 0)) u6) ∧ (L'.getD 19 false = true → ∃ (b : Nat) (r : Req), u6 = .pointer (some ⟨b, 0, none⟩) ∧ W.heap.size ≤ b ∧ ReqBox w b r ∧ Pln q 0 3 r)) (pre := fun i L' => L'.size == 20 && ((i == 1 && !L'.getD 19 false) || (i == 2 && L'.getD 1 false && !L'.getD 19 false) || (i == 5 && !L'.getD 19 false) || (i == 6 && L'.getD 5 false && !L'.getD 19 false) || (i == 7 && !L'.getD 19 false) || (i == 9 && !L'.getD 19 false) || (i == 10 && L'.getD 7 false && L'.getD 9 false && !L'.getD 10 false && !L'.getD 19 false) || (i == 11 && L'.getD 10 false && !L'.getD 11 false && !L'.getD 19 false) || (i == 13 && !L'.getD 19 false) || (i == 15 && !L'.getD 19 false) || (i == 16 && L'.getD 15 false && !L'.getD 19 false) || (i == 17 && L'.getD 2 false && L'.getD 6 false && L'.getD 11 false && L'.getD 13 false && L'.getD 16 false && !L'.getD 19 false) || (i == 18 && !L'.getD 19 false) || (i == 19 && L'.getD 17 false && L'.getD 18 false && L'.getD 10 false && L'.getD 11 false && !L'.getD 19 false))) (fin := fun L' => L'.getD 19 false) [0, 3, 4, 8, 12, 14] 14 (by kernel_rfl) (by kernel_rfl) (by kernel_rfl) (by kernel_rfl) (by decide) h0.drew ?_ ?_ ?_
  · intro i L' a w hp hI
    obtain ⟨u11, u12, u15, u16, u17, u19, u20, u21, u23, u25, u26, u27, u6, rfl, hSw, hP1, hP2, hP5, hP6, hP7, hP9, hP10, hP11, hP13, hP15, hP16, hP17, hP18, hP19⟩ := hI
    simp only [Bool.and_eq_true, Bool.or_eq_true, beq_iff_eq, Bool.not_eq_true'] at hp
    obtain ⟨hsz, hp⟩ := hp
    rcases hp with (((((((((((((⟨rfl, gn19⟩ | ⟨⟨rfl, gd1⟩, gn19⟩) | ⟨rfl, gn19⟩) | ⟨⟨rfl, gd5⟩, gn19⟩) | ⟨rfl, gn19⟩) | ⟨rfl, gn19⟩) | ⟨⟨⟨⟨rfl, gd7⟩, gd9⟩, gn10⟩, gn19⟩) | ⟨⟨⟨rfl, gd10⟩, gn11⟩, gn19⟩) | ⟨rfl, gn19⟩) | ⟨rfl, gn19⟩) | ⟨⟨rfl, gd15⟩, gn19⟩) | ⟨⟨⟨⟨⟨⟨rfl, gd2⟩, gd6⟩, gd11⟩, gd13⟩, gd16⟩, gn19⟩) | ⟨rfl, gn19⟩) | ⟨⟨⟨⟨⟨rfl, gd17⟩, gd18⟩, gd10⟩, gd11⟩, gn19⟩)
    · have g1 : (L'.setIfInBounds 1 true).getD 1 false = true := by rw [up_set, if_pos ⟨rfl, by omega⟩]
      have g2 : (L'.setIfInBounds 1 true).getD 2 false = L'.getD 2 false := by rw [up_set, if_neg (by omega)]
      have g5 : (L'.setIfInBounds 1 true).getD 5 false = L'.getD 5 false := by rw [up_set, if_neg (by omega)]
      have g6 : (L'.setIfInBounds 1 true).getD 6 false = L'.getD 6 false := by rw [up_set, if_neg (by omega)]
      have g7 : (L'.setIfInBounds 1 true).getD 7 false = L'.getD 7 false := by rw [up_set, if_neg (by omega)]
      have g9 : (L'.setIfInBounds 1 true).getD 9 false = L'.getD 9 false := by rw [up_set, if_neg (by omega)]
      have g10 : (L'.setIfInBounds 1 true).getD 10 false = L'.getD 10 false := by rw [up_set, if_neg (by omega)]
      have g11 : (L'.setIfInBounds 1 true).getD 11 false = L'.getD 11 false := by rw [up_set, if_neg (by omega)]
      have g13 : (L'.setIfInBounds 1 true).getD 13 false = L'.getD 13 false := by rw [up_set, if_neg (by omega)]
      have g15 : (L'.setIfInBounds 1 true).getD 15 false = L'.getD 15 false := by rw [up_set, if_neg (by omega)]
      have g16 : (L'.setIfInBounds 1 true).getD 16 false = L'.getD 16 false := by rw [up_set, if_neg (by omega)]
      have g17 : (L'.setIfInBounds 1 true).getD 17 false = L'.getD 17 false := by rw [up_set, if_neg (by omega)]
      have g18 : (L'.setIfInBounds 1 true).getD 18 false = L'.getD 18 false := by rw [up_set, if_neg (by omega)]
      have g19 : (L'.setIfInBounds 1 true).getD 19 false = L'.getD 19 false := by rw [up_set, if_neg (by omega)]
      refine par_call ⟨some 11, _, _, _, _, _⟩ rfl (by rfl) 33 _ _ (by rfl) _ (by rfl) Try.call33 (next_st d A n c 3 w (by omega) (by omega) hSw.draw hSw.ints) ?_
      rintro e wn ⟨v1, rfl, hv1, hds, hg⟩
      have hdr := hSw.draw
      have hSn := hSw.next hds hg
      exact ⟨_, rfl, hSn, (.int .i64 v1), (u12), (u15), (u16), (u17), (u19), (u20), (u21), (u23), (u25), (u26), (u27), (u6), by simp only [Act.put, List.setIfInBounds_toArray, List.set_cons_zero, List.set_cons_succ], hSn, fun _ => ⟨v1, rfl, hv1⟩, by rw [g2]; exact hP2, by rw [g5]; exact hP5, by rw [g6]; exact hP6, by rw [g7, g10]; exact fun e e2 => (hP7 e e2).grown hg (draw_apart hdr (by decide)), by rw [g9]; exact hP9, by rw [g10, g11]; exact fun e e2 => (by obtain ⟨b, v, h1, h2, h3⟩ := (hP10 e e2); exact ⟨b, v, h1, h2, (hg.block b (lt_of_heap h3) (fun e => draw_apart hdr (by decide) b e.symm h3)).trans h3⟩), by rw [g11]; exact hP11, by rw [g13]; exact hP13, by rw [g15]; exact hP15, by rw [g16]; exact hP16, by rw [g17]; exact hP17, by rw [g18, g19]; exact fun e e2 => (hP18 e e2).grown hg (draw_apart hdr (by decide)), by rw [g19]; exact fun e => absurd (e.symm.trans gn19) (by decide)⟩
    · have g1 : (L'.setIfInBounds 2 true).getD 1 false = L'.getD 1 false := by rw [up_set, if_neg (by omega)]
      have g2 : (L'.setIfInBounds 2 true).getD 2 false = true := by rw [up_set, if_pos ⟨rfl, by omega⟩]
      have g5 : (L'.setIfInBounds 2 true).getD 5 false = L'.getD 5 false := by rw [up_set, if_neg (by omega)]
      have g6 : (L'.setIfInBounds 2 true).getD 6 false = L'.getD 6 false := by rw [up_set, if_neg (by omega)]
      have g7 : (L'.setIfInBounds 2 true).getD 7 false = L'.getD 7 false := by rw [up_set, if_neg (by omega)]
      have g9 : (L'.setIfInBounds 2 true).getD 9 false = L'.getD 9 false := by rw [up_set, if_neg (by omega)]
      have g10 : (L'.setIfInBounds 2 true).getD 10 false = L'.getD 10 false := by rw [up_set, if_neg (by omega)]
      have g11 : (L'.setIfInBounds 2 true).getD 11 false = L'.getD 11 false := by rw [up_set, if_neg (by omega)]
      have g13 : (L'.setIfInBounds 2 true).getD 13 false = L'.getD 13 false := by rw [up_set, if_neg (by omega)]
      have g15 : (L'.setIfInBounds 2 true).getD 15 false = L'.getD 15 false := by rw [up_set, if_neg (by omega)]
      have g16 : (L'.setIfInBounds 2 true).getD 16 false = L'.getD 16 false := by rw [up_set, if_neg (by omega)]
      have g17 : (L'.setIfInBounds 2 true).getD 17 false = L'.getD 17 false := by rw [up_set, if_neg (by omega)]
      have g18 : (L'.setIfInBounds 2 true).getD 18 false = L'.getD 18 false := by rw [up_set, if_neg (by omega)]
      have g19 : (L'.setIfInBounds 2 true).getD 19 false = L'.getD 19 false := by rw [up_set, if_neg (by omega)]
      have hD1 := hP1 gd1
      obtain ⟨v1, rfl, hv1⟩ := hD1
      have hSn := hSw
      refine par_run ⟨some 12, _, _, _, _, _⟩ (.int .i64 (1 + v1)) w rfl (by rfl) (by go_simp; exact i64_id (by omega) (by omega)) ?_
      exact ⟨hSn, (.int .i64 v1), (.int .i64 (1 + v1)), (u15), (u16), (u17), (u19), (u20), (u21), (u23), (u25), (u26), (u27), (u6), by simp only [Act.put, List.setIfInBounds_toArray, List.set_cons_zero, List.set_cons_succ], hSn, by rw [g1]; exact hP1, fun _ => ⟨v1, rfl, hv1⟩, by rw [g5]; exact hP5, by rw [g6]; exact hP6, by rw [g7, g10]; exact hP7, by rw [g9]; exact hP9, by rw [g10, g11]; exact hP10, by rw [g11]; exact hP11, by rw [g13]; exact hP13, by rw [g15]; exact hP15, by rw [g16]; exact hP16, by rw [g17]; exact hP17, by rw [g18, g19]; exact hP18, by rw [g19]; exact fun e => absurd (e.symm.trans gn19) (by decide)⟩
    · have g1 : (L'.setIfInBounds 5 true).getD 1 false = L'.getD 1 false := by rw [up_set, if_neg (by omega)]
      have g2 : (L'.setIfInBounds 5 true).getD 2 false = L'.getD 2 false := by rw [up_set, if_neg (by omega)]
      have g5 : (L'.setIfInBounds 5 true).getD 5 false = true := by rw [up_set, if_pos ⟨rfl, by omega⟩]
      have g6 : (L'.setIfInBounds 5 true).getD 6 false = L'.getD 6 false := by rw [up_set, if_neg (by omega)]
      have g7 : (L'.setIfInBounds 5 true).getD 7 false = L'.getD 7 false := by rw [up_set, if_neg (by omega)]
      have g9 : (L'.setIfInBounds 5 true).getD 9 false = L'.getD 9 false := by rw [up_set, if_neg (by omega)]
      have g10 : (L'.setIfInBounds 5 true).getD 10 false = L'.getD 10 false := by rw [up_set, if_neg (by omega)]
      have g11 : (L'.setIfInBounds 5 true).getD 11 false = L'.getD 11 false := by rw [up_set, if_neg (by omega)]
      have g13 : (L'.setIfInBounds 5 true).getD 13 false = L'.getD 13 false := by rw [up_set, if_neg (by omega)]
      have g15 : (L'.setIfInBounds 5 true).getD 15 false = L'.getD 15 false := by rw [up_set, if_neg (by omega)]
      have g16 : (L'.setIfInBounds 5 true).getD 16 false = L'.getD 16 false := by rw [up_set, if_neg (by omega)]
      have g17 : (L'.setIfInBounds 5 true).getD 17 false = L'.getD 17 false := by rw [up_set, if_neg (by omega)]
      have g18 : (L'.setIfInBounds 5 true).getD 18 false = L'.getD 18 false := by rw [up_set, if_neg (by omega)]
      have g19 : (L'.setIfInBounds 5 true).getD 19 false = L'.getD 19 false := by rw [up_set, if_neg (by omega)]
      refine par_call ⟨some 15, _, _, _, _, _⟩ rfl (by rfl) 33 _ _ (by rfl) _ (by rfl) Try.call33 (next_st d A n c 5 w (by omega) (by omega) hSw.draw hSw.ints) ?_
      rintro e wn ⟨v5, rfl, hv5, hds, hg⟩
      have hdr := hSw.draw
      have hSn := hSw.next hds hg
      exact ⟨_, rfl, hSn, (u11), (u12), (.int .i64 v5), (u16), (u17), (u19), (u20), (u21), (u23), (u25), (u26), (u27), (u6), by simp only [Act.put, List.setIfInBounds_toArray, List.set_cons_zero, List.set_cons_succ], hSn, by rw [g1]; exact hP1, by rw [g2]; exact hP2, fun _ => ⟨v5, rfl, hv5⟩, by rw [g6]; exact hP6, by rw [g7, g10]; exact fun e e2 => (hP7 e e2).grown hg (draw_apart hdr (by decide)), by rw [g9]; exact hP9, by rw [g10, g11]; exact fun e e2 => (by obtain ⟨b, v, h1, h2, h3⟩ := (hP10 e e2); exact ⟨b, v, h1, h2, (hg.block b (lt_of_heap h3) (fun e => draw_apart hdr (by decide) b e.symm h3)).trans h3⟩), by rw [g11]; exact hP11, by rw [g13]; exact hP13, by rw [g15]; exact hP15, by rw [g16]; exact hP16, by rw [g17]; exact hP17, by rw [g18, g19]; exact fun e e2 => (hP18 e e2).grown hg (draw_apart hdr (by decide)), by rw [g19]; exact fun e => absurd (e.symm.trans gn19) (by decide)⟩
    · have g1 : (L'.setIfInBounds 6 true).getD 1 false = L'.getD 1 false := by rw [up_set, if_neg (by omega)]
      have g2 : (L'.setIfInBounds 6 true).getD 2 false = L'.getD 2 false := by rw [up_set, if_neg (by omega)]
      have g5 : (L'.setIfInBounds 6 true).getD 5 false = L'.getD 5 false := by rw [up_set, if_neg (by omega)]
      have g6 : (L'.setIfInBounds 6 true).getD 6 false = true := by rw [up_set, if_pos ⟨rfl, by omega⟩]
      have g7 : (L'.setIfInBounds 6 true).getD 7 false = L'.getD 7 false := by rw [up_set, if_neg (by omega)]
      have g9 : (L'.setIfInBounds 6 true).getD 9 false = L'.getD 9 false := by rw [up_set, if_neg (by omega)]
      have g10 : (L'.setIfInBounds 6 true).getD 10 false = L'.getD 10 false := by rw [up_set, if_neg (by omega)]
      have g11 : (L'.setIfInBounds 6 true).getD 11 false = L'.getD 11 false := by rw [up_set, if_neg (by omega)]
      have g13 : (L'.setIfInBounds 6 true).getD 13 false = L'.getD 13 false := by rw [up_set, if_neg (by omega)]
      have g15 : (L'.setIfInBounds 6 true).getD 15 false = L'.getD 15 false := by rw [up_set, if_neg (by omega)]
      have g16 : (L'.setIfInBounds 6 true).getD 16 false = L'.getD 16 false := by rw [up_set, if_neg (by omega)]
      have g17 : (L'.setIfInBounds 6 true).getD 17 false = L'.getD 17 false := by rw [up_set, if_neg (by omega)]
      have g18 : (L'.setIfInBounds 6 true).getD 18 false = L'.getD 18 false := by rw [up_set, if_neg (by omega)]
      have g19 : (L'.setIfInBounds 6 true).getD 19 false = L'.getD 19 false := by rw [up_set, if_neg (by omega)]
      have hD5 := hP5 gd5
      obtain ⟨v5, rfl, hv5⟩ := hD5
      have hSn := hSw
      refine par_run ⟨some 16, _, _, _, _, _⟩ (.int .i64 (1 + v5)) w rfl (by rfl) (by go_simp; exact i64_id (by omega) (by omega)) ?_
      exact ⟨hSn, (u11), (u12), (.int .i64 v5), (.int .i64 (1 + v5)), (u17), (u19), (u20), (u21), (u23), (u25), (u26), (u27), (u6), by simp only [Act.put, List.setIfInBounds_toArray, List.set_cons_zero, List.set_cons_succ], hSn, by rw [g1]; exact hP1, by rw [g2]; exact hP2, by rw [g5]; exact hP5, fun _ => ⟨v5, rfl, hv5⟩, by rw [g7, g10]; exact hP7, by rw [g9]; exact hP9, by rw [g10, g11]; exact hP10, by rw [g11]; exact hP11, by rw [g13]; exact hP13, by rw [g15]; exact hP15, by rw [g16]; exact hP16, by rw [g17]; exact hP17, by rw [g18, g19]; exact hP18, by rw [g19]; exact fun e => absurd (e.symm.trans gn19) (by decide)⟩
    · have g1 : (L'.setIfInBounds 7 true).getD 1 false = L'.getD 1 false := by rw [up_set, if_neg (by omega)]
      have g2 : (L'.setIfInBounds 7 true).getD 2 false = L'.getD 2 false := by rw [up_set, if_neg (by omega)]
      have g5 : (L'.setIfInBounds 7 true).getD 5 false = L'.getD 5 false := by rw [up_set, if_neg (by omega)]
      have g6 : (L'.setIfInBounds 7 true).getD 6 false = L'.getD 6 false := by rw [up_set, if_neg (by omega)]
      have g7 : (L'.setIfInBounds 7 true).getD 7 false = true := by rw [up_set, if_pos ⟨rfl, by omega⟩]
      have g9 : (L'.setIfInBounds 7 true).getD 9 false = L'.getD 9 false := by rw [up_set, if_neg (by omega)]
      have g10 : (L'.setIfInBounds 7 true).getD 10 false = L'.getD 10 false := by rw [up_set, if_neg (by omega)]
      have g11 : (L'.setIfInBounds 7 true).getD 11 false = L'.getD 11 false := by rw [up_set, if_neg (by omega)]
      have g13 : (L'.setIfInBounds 7 true).getD 13 false = L'.getD 13 false := by rw [up_set, if_neg (by omega)]
      have g15 : (L'.setIfInBounds 7 true).getD 15 false = L'.getD 15 false := by rw [up_set, if_neg (by omega)]
      have g16 : (L'.setIfInBounds 7 true).getD 16 false = L'.getD 16 false := by rw [up_set, if_neg (by omega)]
      have g17 : (L'.setIfInBounds 7 true).getD 17 false = L'.getD 17 false := by rw [up_set, if_neg (by omega)]
      have g18 : (L'.setIfInBounds 7 true).getD 18 false = L'.getD 18 false := by rw [up_set, if_neg (by omega)]
      have g19 : (L'.setIfInBounds 7 true).getD 19 false = L'.getD 19 false := by rw [up_set, if_neg (by omega)]
      refine par_call ⟨some 17, _, _, _, _, _⟩ rfl (by rfl) 17 _ _ (by rfl) _ (by rfl) Try.call17 (codes_any w) ?_
      rintro e wn ⟨rfl, rfl⟩
      have hb : RowKit.Below w.heap.size w (w.alloc (.cells #[.string ⟨#[65, 49]⟩, .string ⟨#[66, 49]⟩, .string ⟨#[66, 50]⟩, .string ⟨#[67, 49]⟩, .string ⟨#[68, 49]⟩, .string ⟨#[69, 57]⟩] 9)) := below_alloc1 _ _
      have hSn := hSw.keep hb
      exact ⟨_, rfl, hSn, (u11), (u12), (u15), (u16), (.slice (some ⟨w.heap.size, 0, none⟩) 6 6), (u19), (u20), (u21), (u23), (u25), (u26), (u27), (u6), by simp only [Act.put, List.setIfInBounds_toArray, List.set_cons_zero, List.set_cons_succ], hSn, by rw [g1]; exact hP1, by rw [g2]; exact hP2, by rw [g5]; exact hP5, by rw [g6]; exact hP6, fun _ _ => Laid.new w _ _ _ (Nat.zero_le _), by rw [g9]; exact hP9, by rw [g10, g11]; exact fun e e2 => (by obtain ⟨b, v, h1, h2, h3⟩ := (hP10 e e2); exact ⟨b, v, h1, h2, (hb.block b (lt_of_heap h3)).trans h3⟩), by rw [g11]; exact hP11, by rw [g13]; exact hP13, by rw [g15]; exact hP15, by rw [g16]; exact hP16, by rw [g17]; exact hP17, by rw [g18, g19]; exact fun e e2 => (hP18 e e2).below hb, by rw [g19]; exact fun e => absurd (e.symm.trans gn19) (by decide)⟩
    · have g1 : (L'.setIfInBounds 9 true).getD 1 false = L'.getD 1 false := by rw [up_set, if_neg (by omega)]
      have g2 : (L'.setIfInBounds 9 true).getD 2 false = L'.getD 2 false := by rw [up_set, if_neg (by omega)]
      have g5 : (L'.setIfInBounds 9 true).getD 5 false = L'.getD 5 false := by rw [up_set, if_neg (by omega)]
      have g6 : (L'.setIfInBounds 9 true).getD 6 false = L'.getD 6 false := by rw [up_set, if_neg (by omega)]
      have g7 : (L'.setIfInBounds 9 true).getD 7 false = L'.getD 7 false := by rw [up_set, if_neg (by omega)]
      have g9 : (L'.setIfInBounds 9 true).getD 9 false = true := by rw [up_set, if_pos ⟨rfl, by omega⟩]
      have g10 : (L'.setIfInBounds 9 true).getD 10 false = L'.getD 10 false := by rw [up_set, if_neg (by omega)]
      have g11 : (L'.setIfInBounds 9 true).getD 11 false = L'.getD 11 false := by rw [up_set, if_neg (by omega)]
      have g13 : (L'.setIfInBounds 9 true).getD 13 false = L'.getD 13 false := by rw [up_set, if_neg (by omega)]
      have g15 : (L'.setIfInBounds 9 true).getD 15 false = L'.getD 15 false := by rw [up_set, if_neg (by omega)]
      have g16 : (L'.setIfInBounds 9 true).getD 16 false = L'.getD 16 false := by rw [up_set, if_neg (by omega)]
      have g17 : (L'.setIfInBounds 9 true).getD 17 false = L'.getD 17 false := by rw [up_set, if_neg (by omega)]
      have g18 : (L'.setIfInBounds 9 true).getD 18 false = L'.getD 18 false := by rw [up_set, if_neg (by omega)]
      have g19 : (L'.setIfInBounds 9 true).getD 19 false = L'.getD 19 false := by rw [up_set, if_neg (by omega)]
      refine par_call ⟨some 19, _, _, _, _, _⟩ rfl (by rfl) 33 _ _ (by rfl) _ (by rfl) Try.call33 (next_st d A n c 6 w (by omega) (by omega) hSw.draw hSw.ints) ?_
      rintro e wn ⟨v9, rfl, hv9, hds, hg⟩
      have hdr := hSw.draw
      have hSn := hSw.next hds hg
      exact ⟨_, rfl, hSn, (u11), (u12), (u15), (u16), (u17), (.int .i64 v9), (u20), (u21), (u23), (u25), (u26), (u27), (u6), by simp only [Act.put, List.setIfInBounds_toArray, List.set_cons_zero, List.set_cons_succ], hSn, by rw [g1]; exact hP1, by rw [g2]; exact hP2, by rw [g5]; exact hP5, by rw [g6]; exact hP6, by rw [g7, g10]; exact fun e e2 => (hP7 e e2).grown hg (draw_apart hdr (by decide)), fun _ => ⟨v9, rfl, hv9⟩, by rw [g10, g11]; exact fun e e2 => (by obtain ⟨b, v, h1, h2, h3⟩ := (hP10 e e2); exact ⟨b, v, h1, h2, (hg.block b (lt_of_heap h3) (fun e => draw_apart hdr (by decide) b e.symm h3)).trans h3⟩), by rw [g11]; exact hP11, by rw [g13]; exact hP13, by rw [g15]; exact hP15, by rw [g16]; exact hP16, by rw [g17]; exact hP17, by rw [g18, g19]; exact fun e e2 => (hP18 e e2).grown hg (draw_apart hdr (by decide)), by rw [g19]; exact fun e => absurd (e.symm.trans gn19) (by decide)⟩
    · have g1 : (L'.setIfInBounds 10 true).getD 1 false = L'.getD 1 false := by rw [up_set, if_neg (by omega)]
      have g2 : (L'.setIfInBounds 10 true).getD 2 false = L'.getD 2 false := by rw [up_set, if_neg (by omega)]
      have g5 : (L'.setIfInBounds 10 true).getD 5 false = L'.getD 5 false := by rw [up_set, if_neg (by omega)]
      have g6 : (L'.setIfInBounds 10 true).getD 6 false = L'.getD 6 false := by rw [up_set, if_neg (by omega)]
      have g7 : (L'.setIfInBounds 10 true).getD 7 false = L'.getD 7 false := by rw [up_set, if_neg (by omega)]
      have g9 : (L'.setIfInBounds 10 true).getD 9 false = L'.getD 9 false := by rw [up_set, if_neg (by omega)]
      have g10 : (L'.setIfInBounds 10 true).getD 10 false = true := by rw [up_set, if_pos ⟨rfl, by omega⟩]
      have g11 : (L'.setIfInBounds 10 true).getD 11 false = L'.getD 11 false := by rw [up_set, if_neg (by omega)]
      have g13 : (L'.setIfInBounds 10 true).getD 13 false = L'.getD 13 false := by rw [up_set, if_neg (by omega)]
      have g15 : (L'.setIfInBounds 10 true).getD 15 false = L'.getD 15 false := by rw [up_set, if_neg (by omega)]
      have g16 : (L'.setIfInBounds 10 true).getD 16 false = L'.getD 16 false := by rw [up_set, if_neg (by omega)]
      have g17 : (L'.setIfInBounds 10 true).getD 17 false = L'.getD 17 false := by rw [up_set, if_neg (by omega)]
      have g18 : (L'.setIfInBounds 10 true).getD 18 false = L'.getD 18 false := by rw [up_set, if_neg (by omega)]
      have g19 : (L'.setIfInBounds 10 true).getD 19 false = L'.getD 19 false := by rw [up_set, if_neg (by omega)]
      have hD7 := hP7 gd7 gn10
      obtain ⟨b7, rfl, _, hb7⟩ := hD7
      have hD9 := hP9 gd9
      obtain ⟨v9, rfl, hv9⟩ := hD9
      have hSn := hSw
      refine par_run ⟨some 20, _, _, _, _, _⟩ (.pointer (some ⟨b7, v9, none⟩)) w rfl (by rfl) (by go_simp; intro h6; omega) ?_
      exact ⟨hSn, (u11), (u12), (u15), (u16), (.slice (some ⟨b7, 0, none⟩) 6 6), (.int .i64 v9), (.pointer (some ⟨b7, v9, none⟩)), (u21), (u23), (u25), (u26), (u27), (u6), by simp only [Act.put, List.setIfInBounds_toArray, List.set_cons_zero, List.set_cons_succ], hSn, by rw [g1]; exact hP1, by rw [g2]; exact hP2, by rw [g5]; exact hP5, by rw [g6]; exact hP6, by rw [g10]; exact fun _ e => absurd e (by decide), by rw [g9]; exact hP9, fun _ _ => ⟨b7, v9, rfl, hv9, hb7⟩, by rw [g11]; exact hP11, by rw [g13]; exact hP13, by rw [g15]; exact hP15, by rw [g16]; exact hP16, by rw [g17]; exact hP17, by rw [g18, g19]; exact hP18, by rw [g19]; exact fun e => absurd (e.symm.trans gn19) (by decide)⟩
    · have g1 : (L'.setIfInBounds 11 true).getD 1 false = L'.getD 1 false := by rw [up_set, if_neg (by omega)]
      have g2 : (L'.setIfInBounds 11 true).getD 2 false = L'.getD 2 false := by rw [up_set, if_neg (by omega)]
      have g5 : (L'.setIfInBounds 11 true).getD 5 false = L'.getD 5 false := by rw [up_set, if_neg (by omega)]
      have g6 : (L'.setIfInBounds 11 true).getD 6 false = L'.getD 6 false := by rw [up_set, if_neg (by omega)]
      have g7 : (L'.setIfInBounds 11 true).getD 7 false = L'.getD 7 false := by rw [up_set, if_neg (by omega)]
      have g9 : (L'.setIfInBounds 11 true).getD 9 false = L'.getD 9 false := by rw [up_set, if_neg (by omega)]
      have g10 : (L'.setIfInBounds 11 true).getD 10 false = L'.getD 10 false := by rw [up_set, if_neg (by omega)]
      have g11 : (L'.setIfInBounds 11 true).getD 11 false = true := by rw [up_set, if_pos ⟨rfl, by omega⟩]
      have g13 : (L'.setIfInBounds 11 true).getD 13 false = L'.getD 13 false := by rw [up_set, if_neg (by omega)]
      have g15 : (L'.setIfInBounds 11 true).getD 15 false = L'.getD 15 false := by rw [up_set, if_neg (by omega)]
      have g16 : (L'.setIfInBounds 11 true).getD 16 false = L'.getD 16 false := by rw [up_set, if_neg (by omega)]
      have g17 : (L'.setIfInBounds 11 true).getD 17 false = L'.getD 17 false := by rw [up_set, if_neg (by omega)]
      have g18 : (L'.setIfInBounds 11 true).getD 18 false = L'.getD 18 false := by rw [up_set, if_neg (by omega)]
      have g19 : (L'.setIfInBounds 11 true).getD 19 false = L'.getD 19 false := by rw [up_set, if_neg (by omega)]
      have hD10 := hP10 gd10 gn11
      obtain ⟨b10, v10, rfl, hv10, hb10⟩ := hD10
      obtain ⟨s, hs, hsc⟩ := codes_at hb10 hv10
      have hSn := hSw
      refine par_run ⟨some 21, _, _, _, _, _⟩ (.string s) w rfl (by rfl) (by go_simp) ?_
      exact ⟨hSn, (u11), (u12), (u15), (u16), (u17), (u19), (.pointer (some ⟨b10, v10, none⟩)), (.string s), (u23), (u25), (u26), (u27), (u6), by simp only [Act.put, List.setIfInBounds_toArray, List.set_cons_zero, List.set_cons_succ], hSn, by rw [g1]; exact hP1, by rw [g2]; exact hP2, by rw [g5]; exact hP5, by rw [g6]; exact hP6, by rw [g7, g10]; exact hP7, by rw [g9]; exact hP9, by rw [g11]; exact fun _ e => absurd e (by decide), fun _ => ⟨s, rfl, hs⟩, by rw [g13]; exact hP13, by rw [g15]; exact hP15, by rw [g16]; exact hP16, by rw [g17]; exact hP17, by rw [g18, g19]; exact hP18, by rw [g19]; exact fun e => absurd (e.symm.trans gn19) (by decide)⟩
    · have g1 : (L'.setIfInBounds 13 true).getD 1 false = L'.getD 1 false := by rw [up_set, if_neg (by omega)]
      have g2 : (L'.setIfInBounds 13 true).getD 2 false = L'.getD 2 false := by rw [up_set, if_neg (by omega)]
      have g5 : (L'.setIfInBounds 13 true).getD 5 false = L'.getD 5 false := by rw [up_set, if_neg (by omega)]
      have g6 : (L'.setIfInBounds 13 true).getD 6 false = L'.getD 6 false := by rw [up_set, if_neg (by omega)]
      have g7 : (L'.setIfInBounds 13 true).getD 7 false = L'.getD 7 false := by rw [up_set, if_neg (by omega)]
      have g9 : (L'.setIfInBounds 13 true).getD 9 false = L'.getD 9 false := by rw [up_set, if_neg (by omega)]
      have g10 : (L'.setIfInBounds 13 true).getD 10 false = L'.getD 10 false := by rw [up_set, if_neg (by omega)]
      have g11 : (L'.setIfInBounds 13 true).getD 11 false = L'.getD 11 false := by rw [up_set, if_neg (by omega)]
      have g13 : (L'.setIfInBounds 13 true).getD 13 false = true := by rw [up_set, if_pos ⟨rfl, by omega⟩]
      have g15 : (L'.setIfInBounds 13 true).getD 15 false = L'.getD 15 false := by rw [up_set, if_neg (by omega)]
      have g16 : (L'.setIfInBounds 13 true).getD 16 false = L'.getD 16 false := by rw [up_set, if_neg (by omega)]
      have g17 : (L'.setIfInBounds 13 true).getD 17 false = L'.getD 17 false := by rw [up_set, if_neg (by omega)]
      have g18 : (L'.setIfInBounds 13 true).getD 18 false = L'.getD 18 false := by rw [up_set, if_neg (by omega)]
      have g19 : (L'.setIfInBounds 13 true).getD 19 false = L'.getD 19 false := by rw [up_set, if_neg (by omega)]
      refine par_call ⟨some 23, _, _, _, _, _⟩ rfl (by rfl) 33 _ _ (by rfl) _ (by rfl) Try.call33 (next_st d A n c 4 w (by omega) (by omega) hSw.draw hSw.ints) ?_
      rintro e wn ⟨v13, rfl, hv13, hds, hg⟩
      have hdr := hSw.draw
      have hSn := hSw.next hds hg
      exact ⟨_, rfl, hSn, (u11), (u12), (u15), (u16), (u17), (u19), (u20), (u21), (.int .i64 v13), (u25), (u26), (u27), (u6), by simp only [Act.put, List.setIfInBounds_toArray, List.set_cons_zero, List.set_cons_succ], hSn, by rw [g1]; exact hP1, by rw [g2]; exact hP2, by rw [g5]; exact hP5, by rw [g6]; exact hP6, by rw [g7, g10]; exact fun e e2 => (hP7 e e2).grown hg (draw_apart hdr (by decide)), by rw [g9]; exact hP9, by rw [g10, g11]; exact fun e e2 => (by obtain ⟨b, v, h1, h2, h3⟩ := (hP10 e e2); exact ⟨b, v, h1, h2, (hg.block b (lt_of_heap h3) (fun e => draw_apart hdr (by decide) b e.symm h3)).trans h3⟩), by rw [g11]; exact hP11, fun _ => ⟨v13, rfl, hv13⟩, by rw [g15]; exact hP15, by rw [g16]; exact hP16, by rw [g17]; exact hP17, by rw [g18, g19]; exact fun e e2 => (hP18 e e2).grown hg (draw_apart hdr (by decide)), by rw [g19]; exact fun e => absurd (e.symm.trans gn19) (by decide)⟩
    · have g1 : (L'.setIfInBounds 15 true).getD 1 false = L'.getD 1 false := by rw [up_set, if_neg (by omega)]
      have g2 : (L'.setIfInBounds 15 true).getD 2 false = L'.getD 2 false := by rw [up_set, if_neg (by omega)]
      have g5 : (L'.setIfInBounds 15 true).getD 5 false = L'.getD 5 false := by rw [up_set, if_neg (by omega)]
      have g6 : (L'.setIfInBounds 15 true).getD 6 false = L'.getD 6 false := by rw [up_set, if_neg (by omega)]
      have g7 : (L'.setIfInBounds 15 true).getD 7 false = L'.getD 7 false := by rw [up_set, if_neg (by omega)]
      have g9 : (L'.setIfInBounds 15 true).getD 9 false = L'.getD 9 false := by rw [up_set, if_neg (by omega)]
      have g10 : (L'.setIfInBounds 15 true).getD 10 false = L'.getD 10 false := by rw [up_set, if_neg (by omega)]
      have g11 : (L'.setIfInBounds 15 true).getD 11 false = L'.getD 11 false := by rw [up_set, if_neg (by omega)]
      have g13 : (L'.setIfInBounds 15 true).getD 13 false = L'.getD 13 false := by rw [up_set, if_neg (by omega)]
      have g15 : (L'.setIfInBounds 15 true).getD 15 false = true := by rw [up_set, if_pos ⟨rfl, by omega⟩]
      have g16 : (L'.setIfInBounds 15 true).getD 16 false = L'.getD 16 false := by rw [up_set, if_neg (by omega)]
      have g17 : (L'.setIfInBounds 15 true).getD 17 false = L'.getD 17 false := by rw [up_set, if_neg (by omega)]
      have g18 : (L'.setIfInBounds 15 true).getD 18 false = L'.getD 18 false := by rw [up_set, if_neg (by omega)]
      have g19 : (L'.setIfInBounds 15 true).getD 19 false = L'.getD 19 false := by rw [up_set, if_neg (by omega)]
      refine par_call ⟨some 25, _, _, _, _, _⟩ rfl (by rfl) 33 _ _ (by rfl) _ (by rfl) Try.call33 (next_st d A n c 20 w (by omega) (by omega) hSw.draw hSw.ints) ?_
      rintro e wn ⟨v15, rfl, hv15, hds, hg⟩
      have hdr := hSw.draw
      have hSn := hSw.next hds hg
      exact ⟨_, rfl, hSn, (u11), (u12), (u15), (u16), (u17), (u19), (u20), (u21), (u23), (.int .i64 v15), (u26), (u27), (u6), by simp only [Act.put, List.setIfInBounds_toArray, List.set_cons_zero, List.set_cons_succ], hSn, by rw [g1]; exact hP1, by rw [g2]; exact hP2, by rw [g5]; exact hP5, by rw [g6]; exact hP6, by rw [g7, g10]; exact fun e e2 => (hP7 e e2).grown hg (draw_apart hdr (by decide)), by rw [g9]; exact hP9, by rw [g10, g11]; exact fun e e2 => (by obtain ⟨b, v, h1, h2, h3⟩ := (hP10 e e2); exact ⟨b, v, h1, h2, (hg.block b (lt_of_heap h3) (fun e => draw_apart hdr (by decide) b e.symm h3)).trans h3⟩), by rw [g11]; exact hP11, by rw [g13]; exact hP13, fun _ => ⟨v15, rfl, hv15⟩, by rw [g16]; exact hP16, by rw [g17]; exact hP17, by rw [g18, g19]; exact fun e e2 => (hP18 e e2).grown hg (draw_apart hdr (by decide)), by rw [g19]; exact fun e => absurd (e.symm.trans gn19) (by decide)⟩
    · have g1 : (L'.setIfInBounds 16 true).getD 1 false = L'.getD 1 false := by rw [up_set, if_neg (by omega)]
      have g2 : (L'.setIfInBounds 16 true).getD 2 false = L'.getD 2 false := by rw [up_set, if_neg (by omega)]
      have g5 : (L'.setIfInBounds 16 true).getD 5 false = L'.getD 5 false := by rw [up_set, if_neg (by omega)]
      have g6 : (L'.setIfInBounds 16 true).getD 6 false = L'.getD 6 false := by rw [up_set, if_neg (by omega)]
      have g7 : (L'.setIfInBounds 16 true).getD 7 false = L'.getD 7 false := by rw [up_set, if_neg (by omega)]
      have g9 : (L'.setIfInBounds 16 true).getD 9 false = L'.getD 9 false := by rw [up_set, if_neg (by omega)]
      have g10 : (L'.setIfInBounds 16 true).getD 10 false = L'.getD 10 false := by rw [up_set, if_neg (by omega)]
      have g11 : (L'.setIfInBounds 16 true).getD 11 false = L'.getD 11 false := by rw [up_set, if_neg (by omega)]
      have g13 : (L'.setIfInBounds 16 true).getD 13 false = L'.getD 13 false := by rw [up_set, if_neg (by omega)]
      have g15 : (L'.setIfInBounds 16 true).getD 15 false = L'.getD 15 false := by rw [up_set, if_neg (by omega)]
      have g16 : (L'.setIfInBounds 16 true).getD 16 false = true := by rw [up_set, if_pos ⟨rfl, by omega⟩]
      have g17 : (L'.setIfInBounds 16 true).getD 17 false = L'.getD 17 false := by rw [up_set, if_neg (by omega)]
      have g18 : (L'.setIfInBounds 16 true).getD 18 false = L'.getD 18 false := by rw [up_set, if_neg (by omega)]
      have g19 : (L'.setIfInBounds 16 true).getD 19 false = L'.getD 19 false := by rw [up_set, if_neg (by omega)]
      have hD15 := hP15 gd15
      obtain ⟨v15, rfl, hv15⟩ := hD15
      have hSn := hSw
      refine par_run ⟨some 26, _, _, _, _, _⟩ (.int .i64 (400 + v15)) w rfl (by rfl) (by go_simp; exact i64_id (by omega) (by omega)) ?_
      exact ⟨hSn, (u11), (u12), (u15), (u16), (u17), (u19), (u20), (u21), (u23), (.int .i64 v15), (.int .i64 (400 + v15)), (u27), (u6), by simp only [Act.put, List.setIfInBounds_toArray, List.set_cons_zero, List.set_cons_succ], hSn, by rw [g1]; exact hP1, by rw [g2]; exact hP2, by rw [g5]; exact hP5, by rw [g6]; exact hP6, by rw [g7, g10]; exact hP7, by rw [g9]; exact hP9, by rw [g10, g11]; exact hP10, by rw [g11]; exact hP11, by rw [g13]; exact hP13, by rw [g15]; exact hP15, fun _ => ⟨v15, rfl, hv15⟩, by rw [g17]; exact hP17, by rw [g18, g19]; exact hP18, by rw [g19]; exact fun e => absurd (e.symm.trans gn19) (by decide)⟩
    · have g1 : (L'.setIfInBounds 17 true).getD 1 false = L'.getD 1 false := by rw [up_set, if_neg (by omega)]
      have g2 : (L'.setIfInBounds 17 true).getD 2 false = L'.getD 2 false := by rw [up_set, if_neg (by omega)]
      have g5 : (L'.setIfInBounds 17 true).getD 5 false = L'.getD 5 false := by rw [up_set, if_neg (by omega)]
      have g6 : (L'.setIfInBounds 17 true).getD 6 false = L'.getD 6 false := by rw [up_set, if_neg (by omega)]
      have g7 : (L'.setIfInBounds 17 true).getD 7 false = L'.getD 7 false := by rw [up_set, if_neg (by omega)]
      have g9 : (L'.setIfInBounds 17 true).getD 9 false = L'.getD 9 false := by rw [up_set, if_neg (by omega)]
      have g10 : (L'.setIfInBounds 17 true).getD 10 false = L'.getD 10 false := by rw [up_set, if_neg (by omega)]
      have g11 : (L'.setIfInBounds 17 true).getD 11 false = L'.getD 11 false := by rw [up_set, if_neg (by omega)]
      have g13 : (L'.setIfInBounds 17 true).getD 13 false = L'.getD 13 false := by rw [up_set, if_neg (by omega)]
      have g15 : (L'.setIfInBounds 17 true).getD 15 false = L'.getD 15 false := by rw [up_set, if_neg (by omega)]
      have g16 : (L'.setIfInBounds 17 true).getD 16 false = L'.getD 16 false := by rw [up_set, if_neg (by omega)]
      have g17 : (L'.setIfInBounds 17 true).getD 17 false = true := by rw [up_set, if_pos ⟨rfl, by omega⟩]
      have g18 : (L'.setIfInBounds 17 true).getD 18 false = L'.getD 18 false := by rw [up_set, if_neg (by omega)]
      have g19 : (L'.setIfInBounds 17 true).getD 19 false = L'.getD 19 false := by rw [up_set, if_neg (by omega)]
      have hD2 := hP2 gd2
      obtain ⟨v2, rfl, hv2⟩ := hD2
      have hD6 := hP6 gd6
      obtain ⟨v6, rfl, hv6⟩ := hD6
      have hD11 := hP11 gd11
      obtain ⟨s11, rfl, hs11⟩ := hD11
      have hD13 := hP13 gd13
      obtain ⟨v13, rfl, hv13⟩ := hD13
      have hD16 := hP16 gd16
      obtain ⟨v16, rfl, hv16⟩ := hD16
      have hSn := hSw
      refine par_run ⟨some 27, _, _, _, _, _⟩ (.agg #[.int .i64 (1 + v2), .int .i64 q, .bool false, .int .i64 (1 + v6), .int .i64 4, .string s11, .string ⟨#[]⟩, .int .i64 v13, .int .i64 (400 + v16)]) w rfl (by rfl) (by go_simp) ?_
      exact ⟨hSn, (u11), (.int .i64 (1 + v2)), (u15), (.int .i64 (1 + v6)), (u17), (u19), (u20), (.string s11), (.int .i64 v13), (u25), (.int .i64 (400 + v16)), (.agg #[.int .i64 (1 + v2), .int .i64 q, .bool false, .int .i64 (1 + v6), .int .i64 4, .string s11, .string ⟨#[]⟩, .int .i64 v13, .int .i64 (400 + v16)]), (u6), by simp only [Act.put, List.setIfInBounds_toArray, List.set_cons_zero, List.set_cons_succ], hSn, by rw [g1]; exact hP1, by rw [g2]; exact hP2, by rw [g5]; exact hP5, by rw [g6]; exact hP6, by rw [g7, g10]; exact hP7, by rw [g9]; exact hP9, by rw [g10, g11]; exact hP10, by rw [g11]; exact hP11, by rw [g13]; exact hP13, by rw [g15]; exact hP15, by rw [g16]; exact hP16, fun _ => ⟨⟨1 + v2, q, false, 1 + v6, 4, s11, ⟨#[]⟩, v13, 400 + v16⟩, rfl, ⟨by show (1 : Int) ≤ 1 + v2; omega, by show (1 : Int) + v2 ≤ 3; omega, rfl, rfl, by show (1 : Int) ≤ 1 + v6; omega, by show (1 : Int) + v6 ≤ 5; omega, rfl, hs11, rfl, by show (0 : Int) ≤ v13; omega, by show (v13 : Int) ≤ 3; omega, v16, hv16, rfl⟩⟩, by rw [g18, g19]; exact hP18, by rw [g19]; exact fun e => absurd (e.symm.trans gn19) (by decide)⟩
    · have g1 : (L'.setIfInBounds 18 true).getD 1 false = L'.getD 1 false := by rw [up_set, if_neg (by omega)]
      have g2 : (L'.setIfInBounds 18 true).getD 2 false = L'.getD 2 false := by rw [up_set, if_neg (by omega)]
      have g5 : (L'.setIfInBounds 18 true).getD 5 false = L'.getD 5 false := by rw [up_set, if_neg (by omega)]
      have g6 : (L'.setIfInBounds 18 true).getD 6 false = L'.getD 6 false := by rw [up_set, if_neg (by omega)]
      have g7 : (L'.setIfInBounds 18 true).getD 7 false = L'.getD 7 false := by rw [up_set, if_neg (by omega)]
      have g9 : (L'.setIfInBounds 18 true).getD 9 false = L'.getD 9 false := by rw [up_set, if_neg (by omega)]
      have g10 : (L'.setIfInBounds 18 true).getD 10 false = L'.getD 10 false := by rw [up_set, if_neg (by omega)]
      have g11 : (L'.setIfInBounds 18 true).getD 11 false = L'.getD 11 false := by rw [up_set, if_neg (by omega)]
      have g13 : (L'.setIfInBounds 18 true).getD 13 false = L'.getD 13 false := by rw [up_set, if_neg (by omega)]
      have g15 : (L'.setIfInBounds 18 true).getD 15 false = L'.getD 15 false := by rw [up_set, if_neg (by omega)]
      have g16 : (L'.setIfInBounds 18 true).getD 16 false = L'.getD 16 false := by rw [up_set, if_neg (by omega)]
      have g17 : (L'.setIfInBounds 18 true).getD 17 false = L'.getD 17 false := by rw [up_set, if_neg (by omega)]
      have g18 : (L'.setIfInBounds 18 true).getD 18 false = true := by rw [up_set, if_pos ⟨rfl, by omega⟩]
      have g19 : (L'.setIfInBounds 18 true).getD 19 false = L'.getD 19 false := by rw [up_set, if_neg (by omega)]
      have hb : RowKit.Below w.heap.size w (w.alloc (.cells #[.int .i64 0, .int .i64 0, .bool false, .int .i64 0, .int .i64 0, .string ⟨#[]⟩, .string ⟨#[]⟩, .int .i64 0, .int .i64 0] 35)) := below_alloc1 _ _
      have hSn := hSw.keep hb
      refine par_run ⟨some 6, _, _, _, _, _⟩ (.pointer (some ⟨w.heap.size, 0, none⟩)) (w.alloc (.cells #[.int .i64 0, .int .i64 0, .bool false, .int .i64 0, .int .i64 0, .string ⟨#[]⟩, .string ⟨#[]⟩, .int .i64 0, .int .i64 0] 35)) rfl (by rfl) (by go_simp) ?_
      exact ⟨hSn, (u11), (u12), (u15), (u16), (u17), (u19), (u20), (u21), (u23), (u25), (u26), (u27), (.pointer (some ⟨w.heap.size, 0, none⟩)), by simp only [Act.put, List.setIfInBounds_toArray, List.set_cons_zero, List.set_cons_succ], hSn, by rw [g1]; exact hP1, by rw [g2]; exact hP2, by rw [g5]; exact hP5, by rw [g6]; exact hP6, by rw [g7, g10]; exact fun e e2 => (hP7 e e2).below hb, by rw [g9]; exact hP9, by rw [g10, g11]; exact fun e e2 => (by obtain ⟨b, v, h1, h2, h3⟩ := (hP10 e e2); exact ⟨b, v, h1, h2, (hb.block b (lt_of_heap h3)).trans h3⟩), by rw [g11]; exact hP11, by rw [g13]; exact hP13, by rw [g15]; exact hP15, by rw [g16]; exact hP16, by rw [g17]; exact hP17, fun _ _ => Laid.new w _ _ _ hSw.sz, by rw [g19]; exact fun e => absurd (e.symm.trans gn19) (by decide)⟩
    · have g1 : (L'.setIfInBounds 19 true).getD 1 false = L'.getD 1 false := by rw [up_set, if_neg (by omega)]
      have g2 : (L'.setIfInBounds 19 true).getD 2 false = L'.getD 2 false := by rw [up_set, if_neg (by omega)]
      have g5 : (L'.setIfInBounds 19 true).getD 5 false = L'.getD 5 false := by rw [up_set, if_neg (by omega)]
      have g6 : (L'.setIfInBounds 19 true).getD 6 false = L'.getD 6 false := by rw [up_set, if_neg (by omega)]
      have g7 : (L'.setIfInBounds 19 true).getD 7 false = L'.getD 7 false := by rw [up_set, if_neg (by omega)]
      have g9 : (L'.setIfInBounds 19 true).getD 9 false = L'.getD 9 false := by rw [up_set, if_neg (by omega)]
      have g10 : (L'.setIfInBounds 19 true).getD 10 false = L'.getD 10 false := by rw [up_set, if_neg (by omega)]
      have g11 : (L'.setIfInBounds 19 true).getD 11 false = L'.getD 11 false := by rw [up_set, if_neg (by omega)]
      have g13 : (L'.setIfInBounds 19 true).getD 13 false = L'.getD 13 false := by rw [up_set, if_neg (by omega)]
      have g15 : (L'.setIfInBounds 19 true).getD 15 false = L'.getD 15 false := by rw [up_set, if_neg (by omega)]
      have g16 : (L'.setIfInBounds 19 true).getD 16 false = L'.getD 16 false := by rw [up_set, if_neg (by omega)]
      have g17 : (L'.setIfInBounds 19 true).getD 17 false = L'.getD 17 false := by rw [up_set, if_neg (by omega)]
      have g18 : (L'.setIfInBounds 19 true).getD 18 false = L'.getD 18 false := by rw [up_set, if_neg (by omega)]
      have g19 : (L'.setIfInBounds 19 true).getD 19 false = true := by rw [up_set, if_pos ⟨rfl, by omega⟩]
      have hD17 := hP17 gd17
      obtain ⟨r17, rfl, hr17⟩ := hD17
      have hD18 := hP18 gd18 gn19
      obtain ⟨b18, rfl, hB18, hb18⟩ := hD18
      have hg := setRow_grown hb18 #[.int .i64 r17.server, .int .i64 r17.seq, .bool r17.cancel, .int .i64 r17.student, .int .i64 r17.term, .string r17.code, .string r17.give, .int .i64 r17.priority, .int .i64 r17.day]
      have hSn : SglS W0 rb W.heap.size d A n c (w.setRow b18 #[.int .i64 r17.server, .int .i64 r17.seq, .bool r17.cancel, .int .i64 r17.student, .int .i64 r17.term, .string r17.code, .string r17.give, .int .i64 r17.priority, .int .i64 r17.day]) := hSw.row hb18 hB18 _
      refine par_store_row ⟨none, _, _, _, _, _⟩ rfl (by rfl) 35 (.tmp 6) (.tmp 27) (by rfl) b18 #[.int .i64 r17.server, .int .i64 r17.seq, .bool r17.cancel, .int .i64 r17.student, .int .i64 r17.term, .string r17.code, .string r17.give, .int .i64 r17.priority, .int .i64 r17.day] (by rfl) (by rfl) _ _ hb18 (by kernel_rfl) rfl (by simp [Value.oneCell']) ?_
      exact ⟨hSn, (u11), (u12), (u15), (u16), (u17), (u19), (u20), (u21), (u23), (u25), (u26), (.agg #[.int .i64 r17.server, .int .i64 r17.seq, .bool r17.cancel, .int .i64 r17.student, .int .i64 r17.term, .string r17.code, .string r17.give, .int .i64 r17.priority, .int .i64 r17.day]), (.pointer (some ⟨b18, 0, none⟩)), by simp only [Act.put], hSn, by rw [g1]; exact hP1, by rw [g2]; exact hP2, by rw [g5]; exact hP5, by rw [g6]; exact hP6, by rw [g7, g10]; exact fun e e2 => absurd (gd10.symm.trans e2) (by decide), by rw [g9]; exact hP9, by rw [g10, g11]; exact fun e e2 => absurd (gd11.symm.trans e2) (by decide), by rw [g11]; exact hP11, by rw [g13]; exact hP13, by rw [g15]; exact hP15, by rw [g16]; exact hP16, by rw [g17]; exact hP17, by rw [g19]; exact fun _ e => absurd e (by decide), fun _ => ⟨b18, r17, rfl, hB18, setRow_heap w b18 _ _ _ _ hb18, hr17⟩⟩
  · intro L' a w hp hI
    obtain ⟨u11, u12, u15, u16, u17, u19, u20, u21, u23, u25, u26, u27, u6, rfl, hSw, hP1, hP2, hP5, hP6, hP7, hP9, hP10, hP11, hP13, hP15, hP16, hP17, hP18, hP19⟩ := hI
    (try simp only [Bool.and_eq_true] at hp)
    have p19 := hp
    obtain ⟨b, r, rfl, hlb, hbx, hr⟩ := hP19 p19
    exact HQ.out _ _ _ _ _ _ _ _ _ _ _ _ b r w hSw hlb hbx hr
  · refine par_take ⟨some 10, _, _, _, _, _⟩ ?_ rfl (by rfl) ?_ ?_
    rotate_left 1
    · intro w hSw; (try dsimp only at hSw); go_simp; (try with_reducible rfl)
    simp only [Act.put, List.setIfInBounds_toArray, List.set_cons_zero, List.set_cons_succ]
    refine par_take ⟨some 13, _, _, _, _, _⟩ ?_ rfl (by rfl) ?_ ?_
    rotate_left 1
    · intro w hSw; (try dsimp only at hSw); go_simp; (try with_reducible rfl)
    simp only [Act.put, List.setIfInBounds_toArray, List.set_cons_zero, List.set_cons_succ]
    refine par_take ⟨some 14, _, _, _, _, _⟩ ?_ rfl (by rfl) ?_ ?_
    rotate_left 1
    · intro w hSw; (try dsimp only at hSw); go_simp; (try with_reducible rfl)
    simp only [Act.put, List.setIfInBounds_toArray, List.set_cons_zero, List.set_cons_succ]
    refine par_take ⟨some 18, _, _, _, _, _⟩ ?_ rfl (by rfl) ?_ ?_
    rotate_left 1
    · intro w hSw; (try dsimp only at hSw); go_simp; (try with_reducible rfl)
    simp only [Act.put, List.setIfInBounds_toArray, List.set_cons_zero, List.set_cons_succ]
    refine par_take ⟨some 22, _, _, _, _, _⟩ ?_ rfl (by rfl) ?_ ?_
    rotate_left 1
    · intro w hSw; (try dsimp only at hSw); go_simp; (try with_reducible rfl)
    simp only [Act.put, List.setIfInBounds_toArray, List.set_cons_zero, List.set_cons_succ]
    refine par_take ⟨some 24, _, _, _, _, _⟩ ?_ rfl (by rfl) ?_ ?_
    rotate_left 1
    · intro w hSw; (try dsimp only at hSw); go_simp; (try with_reducible rfl)
    simp only [Act.put, List.setIfInBounds_toArray, List.set_cons_zero, List.set_cons_succ]
    exact ⟨_, _, _, _, _, _, _, _, _, _, _, _, _, rfl, h0.drew, (fun e => absurd e (by decide +kernel)), (fun e => absurd e (by decide +kernel)), (fun e => absurd e (by decide +kernel)), (fun e => absurd e (by decide +kernel)), (fun e => absurd e (by decide +kernel)), (fun e => absurd e (by decide +kernel)), (fun e => absurd e (by decide +kernel)), (fun e => absurd e (by decide +kernel)), (fun e => absurd e (by decide +kernel)), (fun e => absurd e (by decide +kernel)), (fun e => absurd e (by decide +kernel)), (fun e => absurd e (by decide +kernel)), (fun e => absurd e (by decide +kernel)), (fun e => absurd e (by decide +kernel))⟩

set_option maxHeartbeats 4000000 in
set_option maxRecDepth 100000 in
theorem sgl_any (A : Option Addr) (n c : Nat) (q : Int) (w : World) (hi : IntsIn w.heap.size A n w) :
    Calls Try.prog 12 #[.slice A n c, .int .i64 q] w fun e w' => ∃ r : Req, e = .returned r.val ∧ Pln q 0 3 r ∧ RowKit.Below w.heap.size w w' := by
  have hb2 := (below_alloc1 w (.cells #[.int .i64 0, .int .i64 0, .bool false, .int .i64 0, .int .i64 0, .string ⟨#[]⟩, .string ⟨#[]⟩, .int .i64 0, .int .i64 0] 35)).alloc (by simp) (.cells #[.slice A n c, .int .i64 0] 78)
  have hrx : ((w.alloc (.cells #[.int .i64 0, .int .i64 0, .bool false, .int .i64 0, .int .i64 0, .string ⟨#[]⟩, .string ⟨#[]⟩, .int .i64 0, .int .i64 0] 35)).alloc (.cells #[.slice A n c, .int .i64 0] 78)).heap[w.heap.size]? = some (.cells #[.int .i64 0, .int .i64 0, .bool false, .int .i64 0, .int .i64 0, .string ⟨#[]⟩, .string ⟨#[]⟩, .int .i64 0, .int .i64 0] 35 (0, 0)) := by rw [(below_alloc1 _ _).block _ (by simp)]; exact heap_alloc_new w _
  have hdx := new_two w (.cells #[.int .i64 0, .int .i64 0, .bool false, .int .i64 0, .int .i64 0, .string ⟨#[]⟩, .string ⟨#[]⟩, .int .i64 0, .int .i64 0] 35) (.cells #[.slice A n c, .int .i64 0] 78)
  go_enter Try.func12, Try.ntmps12
  go_wp2_with fail
  generalize World.alloc _ _ = W at hb2 hrx hdx ⊢
  have lr := lt_of_heap hrx
  have hi2 := hi.below hb2
  refine sgl_r2 w w.heap.size (w.heap.size + 1) A n c q W _ hi ⟨hb2, ⟨0, Nat.zero_le _, hdx⟩, ⟨hi2.1, fun j hj => ?_⟩, by omega, hrx, lr, Nat.le_refl _, Nat.le_refl _⟩ ?_
  · obtain ⟨b', off, z, hA, hB', hc, hz⟩ := hi2.2 j hj
    exact ⟨b', off, z, hA, by omega, hc, hz⟩
  intro u11 u12 u15 u16 u17 u19 u20 u21 u23 u25 u26 u27 b r w1 hS hlb hbx hr
  have hat : w1.rangeAt b 0 [.int .i64 r.server, .int .i64 r.seq, .bool r.cancel, .int .i64 r.student, .int .i64 r.term, .string r.code, .string r.give, .int .i64 r.priority, .int .i64 r.day] := hbx.at_
  have hr1 := hS.res
  have hb1 := hS.below
  have hxr : ∀ i, w1.cell? ⟨w.heap.size, i, none⟩ = (#[.int .i64 0, .int .i64 0, .bool false, .int .i64 0, .int .i64 0, .string ⟨#[]⟩, .string ⟨#[]⟩, .int .i64 0, .int .i64 0] : Array Value)[i]? := fun i => Lib.cell_of_heap hr1 i
  have hxf : ∀ i, w1.frozen? ⟨w.heap.size, i, none⟩ = false := fun i => Lib.frozen_of_heap hr1 i
  have HR := Lib.hid hr
  clear hr hi hi2 hS hlb hbx hb2 hrx hdx lr
  go_wp2_with (first
    | ((with_reducible refine wpList_load_mid (op := ⟨some 28, _, _, _, _, _⟩) ?_ 35 (.tmp 6) ?_ b 0 ?_ [.int .i64 r.server, .int .i64 r.seq, .bool r.cancel, .int .i64 r.student, .int .i64 r.term, .string r.code, .string r.give, .int .i64 r.priority, .int .i64 r.day] _ ?_ Try.underlying35 ?_ ?_ ?_); rfl; rfl; rfl; exact hat; rfl; kernel_rfl)
    | ((with_reducible refine wpList_store_row (o := ⟨none, _, _, _, _, _⟩) ?_ 35 (.tmp 4) (.tmp 28) ?_ w.heap.size #[.int .i64 r.server, .int .i64 r.seq, .bool r.cancel, .int .i64 r.student, .int .i64 r.term, .string r.code, .string r.give, .int .i64 r.priority, .int .i64 r.day] ?_ ?_ _ _ hr1 ?_ ?_ ?_ ?_); rfl; rfl; rfl; rfl; kernel_rfl; rfl; simp [Value.oneCell']))
  have hg := setRow_grown hr1 #[.int .i64 r.server, .int .i64 r.seq, .bool r.cancel, .int .i64 r.student, .int .i64 r.term, .string r.code, .string r.give, .int .i64 r.priority, .int .i64 r.day]
  have hres := setRow_heap w1 w.heap.size _ #[.int .i64 r.server, .int .i64 r.seq, .bool r.cancel, .int .i64 r.student, .int .i64 r.term, .string r.code, .string r.give, .int .i64 r.priority, .int .i64 r.day] _ _ hr1
  refine bodyPost_ret (v := r.val) ?_ rfl ⟨r, rfl, HR.out, hb1.grown hg hb1.size (fun q hq => by obtain rfl := Option.some.inj hq; exact Nat.le_refl _)⟩
  exact results_cell_row (P := Try.prog) Try.results12 _ _ w.heap.size 35 _ (0, 0) _ rfl hres Try.underlying35 rfl (by kernel_rfl)
/-- What plain leaves. -/
def PlainPost (w : World) (x : Ending) (w' : World) : Prop := ∃ v es, x = .returned v ∧ es.length ≤ 12 ∧ PlnL 0 3 es ∧ w'.ownsRow w.heap.size 35 9 v es.length (reqCells es) ∧ RowKit.Below w.heap.size w w'
set_option maxHeartbeats 4000000 in
set_option maxRecDepth 100000 in
theorem plain_any (B : Option Addr) (N C : Nat) (w : World) (hi : IntssIn w.heap.size B N w) :
    Calls Try.prog 8 #[.slice B N C] w (PlainPost w) := by
  have HI := Lib.hid hi
  have hN := hi.1
  clear hi
  go_enter Try.func8, Try.ntmps8
  go_wp2_with fail
  go_loopw [3, 4] (fun v i wr => ∃ (k : Nat) (es : List Req), k ≤ N ∧ k ≤ 12 ∧ i = .int .i64 k ∧ Hid (es.length = k) ∧ Hid (PlnL 0 3 es) ∧ wr.ownsRow w.heap.size 35 9 v es.length (reqCells es) ∧ RowKit.Below w.heap.size w wr) (fun _ i _ => 12 - (RowKit.intOf i).toNat)
  case atStart => exact ⟨0, [], Nat.zero_le _, by omega, rfl, Lib.hid rfl, Lib.hid (PlnL.nil _ _), World.ownsRow_nil _ _ _ _, Below.refl _ _⟩
  case round =>
    obtain ⟨k, es, hk, hk12, rfl, HL, HS, hown, hb⟩ := hrel
    by_cases hlt : k < N
    · by_cases h12 : k < 12
      · obtain ⟨b, off, A, n, c, rfl, hbB, hc0, hin⟩ := HI.out.2 k hlt
        have hcr : wr.cell? ⟨b, off + k, none⟩ = some (.slice A n c) := (hb.cell (p := ⟨b, off + k, none⟩) hbB).trans hc0
        clear hc0
        go_wp2_with fail
        refine (sgl_any A n c (k + 1) wr (ints_up (hin.below hb) hb.size)).mono ?_
        rintro _ w1 ⟨r, rfl, hr, hb1⟩
        have HR := Lib.hid hr
        have hown1 := (rows_below hown hb1).alloc (.cells r.cells 35)
        have hlen : es.length + 1 ≤ 1000000 := by rw [HL.out]; omega
        have hb2 := below_next hb hb1
        have hsz := hb2.size
        clear hown hb hb1 hr hcr hin
        go_wp2_with ((at_builtin; go_must (refine wpList_append_reqs rfl (.tmp 15) (.tmp 23) rfl w.heap.size u3 _ es [r] rfl rfl hown1 (reqs_one_laid w1 r) hlen (by simp; omega) ?_); intro v' w5 hown' hg'))
        exact ⟨⟨k + 1, _, by omega, by omega, by go_num, Lib.hid (by simp [HL.out]), Lib.hid (HS.out.snoc (by rw [HL.out]; exact HR.out)), hown', (hb2.alloc hsz _).grown hg' (by simp; omega) (fun q hq => (hown1.lt q hq).1)⟩, by simp [RowKit.intOf]; omega⟩
      · obtain rfl : k = 12 := by omega
        go_wp2_with fail
        go_ret
        exact ⟨_, es, rfl, by rw [HL.out]; omega, HS.out, hown, hb⟩
    · obtain rfl : k = N := by omega
      go_wp2_with fail
      go_ret
      exact ⟨_, es, rfl, by rw [HL.out]; omega, HS.out, hown, hb⟩
end Go.Proofs.Ytbihaoadgcckhaa
