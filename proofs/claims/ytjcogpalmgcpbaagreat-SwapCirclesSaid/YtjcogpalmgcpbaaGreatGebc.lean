/- swap.Circle: the first possible circle. -/
import Derived.Test.YtjcogpalmgcpbaaGreatGebb
import Derived.RegionIn
import Derived.Shelf.RegionOpen
import Derived.Scope
/- swap.Circle: the first possible circle. -/
namespace Go.Proofs.YtjcogpalmgcpbaaGreat
open Go Go.Proofs Go.RowKit Go.Maps Go.Sort Go.Lib

attribute [local go_sem] Oper.semAt_some
/-- What 'circles' hands back. -/
def CircPost (b many : Nat) (w : World) (e : Ending) (w' : World) : Prop := ∃ bx bm, e = .returned (.func (.func 39) #[] #[.pointer (some ⟨bx, 0, none⟩), .pointer (some ⟨bm, 0, none⟩)]) ∧
  bx < w'.heap.size ∧ bm < w'.heap.size ∧ w'.cell? ⟨bx, 0, none⟩ = some (.pointer (some ⟨b, 0, none⟩)) ∧ w'.cell? ⟨bm, 0, none⟩ = some (.int .i64 many) ∧ RowKit.Below w.heap.size w w'
theorem circles_any (b many : Nat) (w : World) : Calls Tryz.prog 23 #[.pointer (some ⟨b, 0, none⟩), .int .i64 many] w (CircPost b many w) := by
  have hbb := (below_alloc1 w (.cells #[.pointer (some ⟨b, 0, none⟩)] 62)).alloc (by simp) (.cells #[.int .i64 many] 3)
  have hb1 : ((w.alloc (.cells #[.pointer (some ⟨b, 0, none⟩)] 62)).alloc (.cells #[.int .i64 many] 3)).heap[w.heap.size]? = some (.cells #[.pointer (some ⟨b, 0, none⟩)] 62 (0, 0)) := by rw [(below_alloc1 _ _).block _ (by simp)]; exact heap_alloc_new w _
  have hb2 := new_two w (.cells #[.pointer (some ⟨b, 0, none⟩)] 62) (.cells #[.int .i64 many] 3)
  go_enter Tryz.func23, Tryz.ntmps23
  go_wp2_with fail
  go_ret
  exact ⟨_, _, rfl, lt_of_heap hb1, lt_of_heap hb2, Lib.cell_of_heap hb1 0, Lib.cell_of_heap hb2 0, hbb⟩
set_option maxHeartbeats 4000000 in
theorem circles1_any (lp b bx bm many : Nat) (l : List Req) (can : List Nat) (d : Deal) (bad : List Nat → Bool) (X : List Nat → World → Prop) (wL : World) (hX : ∀ c W W', X c W → RowKit.Below W.heap.size W W' → X c W') (hY : FindY lp (fun c => c ∈ extP l can many []) bad X wL) (hm2 : 2 ≤ many) (hm4 : many ≤ 4)
    (hex : ExIn wL b l can d) (h1 : wL.cell? ⟨bx, 0, none⟩ = some (.pointer (some ⟨b, 0, none⟩))) (h2 : wL.cell? ⟨bm, 0, none⟩ = some (.int .i64 many)) :
    Calls Tryz.prog 39 (#[.func (.yield lp) #[] #[]] ++ #[.pointer (some ⟨bx, 0, none⟩), .pointer (some ⟨bm, 0, none⟩)]) wL fun e w' => (∃ v, e = .returned v) ∧ FindEnd (extP l can many []) bad X wL w' := by
  have ce := extend_any lp b many l can d (fun c => c ∈ extP l can many []) bad X wL hX hY hm2 hm4 many [] 0 none 0 wL rfl (Below.refl _ _) hex (chain_nil _ _) (RowIn.nil _ _) (by simp) (fun x hx => hx)
  clear hX hY hex
  go_enter Tryz.func39, Tryz.ntmps39
  go_wp2_with fail
  refine ce.mono ?_
  clear ce
  rintro _ w1 (⟨hn, rfl, hb⟩ | ⟨x, hx, rfl, hXx⟩)
  · have HN := Lib.hid hn
    clear hn
    go_wp2_with fail
    exact ⟨rfl, _, results_none rfl _ _ _, ⟨_, rfl⟩, .inl ⟨HN.out, hb⟩⟩
  · have HN := Lib.hid hx
    have HXX := Lib.hid hXx
    clear hx hXx
    go_wp2_with fail
    exact ⟨rfl, _, results_none rfl _ _ _, ⟨_, rfl⟩, .inr ⟨x, HN.out, HXX.out⟩⟩

/-- What Circle leaves. -/
def CirclePost (L : List Off) (M : List Seat) (most : Int) (l : List Req) (d : Deal) (w : World) (e : Ending) (w' : World) : Prop := RowKit.Below w.heap.size w w' ∧
  ((circleP L M most l d = none ∧ e = .returned (.tuple #[.slice none 0 0, .bool false])) ∨ ∃ c pv cv, circleP L M most l d = some c ∧ e = .returned (.tuple #[.slice pv c.length cv, .bool true]) ∧ RowIn encN w' (.slice pv c.length cv) c)
theorem dealIn_rows {w : World} {p q : Option Addr} {n m c e : Nat} {d : Deal} (h : DealIn w (.agg #[.slice p n c, .slice q m e]) d) : RowIn Seat.cells w (.slice p n c) d.seats ∧ RowIn Seat.cells w (.slice q m e) d.waits := by
  obtain ⟨p', c', q', e', h1, h2, h3⟩ := h.val
  injection h1 with h1
  simp only [Array.mk.injEq, List.cons.injEq, and_true] at h1
  rw [h1.1, h1.2]
  exact ⟨h2, h3⟩
/-- A circle is found. -/
def FoundX (B bf bo : Nat) (w0 : World) (Ds : List Nat) (c : List Nat) (W : World) : Prop := (∀ D ∈ Ds, W.heap[D]? = some (.deferred (some []))) ∧ ∃ pv cv, W.heap[bf]? = some (.cells #[.slice pv c.length cv] 22 (0, 0)) ∧ W.heap[bo]? = some (.cells #[.bool true] 4 (0, 0)) ∧ RowIn encN W (.slice pv c.length cv) c ∧ RowKit.Below B w0 W
theorem FoundX.below {B bf bo : Nat} {w0 : World} {Ds : List Nat} {c : List Nat} {W W' : World} (h : FoundX B bf bo w0 Ds c W) (hB : B ≤ w0.heap.size) (hb : RowKit.Below W.heap.size W W') : FoundX B bf bo w0 Ds c W' := by
  obtain ⟨h0, pv, cv, h1, h2, h3, h4⟩ := h
  exact ⟨fun D hD => (hb.block D (lt_of_heap (h0 D hD))).trans (h0 D hD), pv, cv, (hb.block _ (lt_of_heap h1)).trans h1, (hb.block _ (lt_of_heap h2)).trans h2, h3.below hb, h4.trans (hb.mono (by have := h4.size; omega))⟩
theorem FoundX.put {B bf bo : Nat} {w0 : World} {Ds : List Nat} {c : List Nat} {W : World} {l : Nat} {r r' : Loop} (h : FoundX B bf bo w0 Ds c W) (hB : B ≤ w0.heap.size) (hl : B ≤ l) (ho : W.heap[l]? = some (.loop r)) : FoundX B bf bo w0 Ds c (W.putObj l (.loop r')) := by
  obtain ⟨h0, pv, cv, h1, h2, h3, h4⟩ := h
  have n1 : bf ≠ l := fun e => by subst e; rw [ho] at h1; cases h1
  have n2 : bo ≠ l := fun e => by subst e; rw [ho] at h2; cases h2
  exact ⟨fun D hD => (World.putObj_heap_other (fun e => by subst e; have := h0 D hD; rw [ho] at this; cases this)).trans (h0 D hD), pv, cv, (World.putObj_heap_other n1).trans h1, (World.putObj_heap_other n2).trans h2, row_put h3 (fun x => by simp [encN]) ho rfl, h4.trans (below_put W l _ hl (by have := h4.size; omega))⟩
theorem row_setN {w : World} {v : Value} {c : List Nat} {b : Nat} {u : Value} (h : RowIn encN w v c) (hno : ∀ j n, w.cell? ⟨b, j, none⟩ ≠ some (.int .i64 n)) : RowIn encN (w.setCell ⟨b, 0, none⟩ u) v c := by
  obtain ⟨p, e, rfl, h1, h2, h3⟩ := h
  refine ⟨p, e, rfl, h1, h2, fun hl => ?_⟩
  obtain ⟨g, o, rfl, hg, hx⟩ := h3 hl
  have hne : g ≠ b := by
    rintro rfl
    obtain ⟨x, L', rfl⟩ := List.exists_cons_of_ne_nil (List.ne_nil_of_length_pos hl)
    exact hno (o + 0) x (hx 0 _ rfl)
  refine ⟨g, o, rfl, by rw [World.size_setCell]; exact hg, fun j y hj => ?_⟩
  rw [World.cell?_of_block (a := ⟨g, o + j, none⟩) (Below.heap_setCell _ _ _ _ hne)]
  exact hx j y hj
def badC (L : List Off) (M : List Seat) (most : Int) (l : List Req) (d : Deal) (c : List Nat) : Bool := !goodC L M most l d c
theorem bad_find (L : List Off) (M : List Seat) (most : Int) (l : List Req) (d : Deal) (A : List (List Nat)) : A.find? (fun c => !badC L M most l d c) = A.find? (goodC L M most l d) := by
  congr 1
  funext c
  simp [badC]
theorem ring_wf {A : List Req} : ∀ (rs : List Req) (d : Deal), (∀ r ∈ rs, (seatOf r).wf) → (∀ x ∈ d.seats, x.wf) → ∀ x ∈ (turnR d rs).seats, x.wf
  | [], _, _, h => h
  | r :: rs, d, hr, h => ring_wf (A := A) rs (turn1 d r) (fun y hy => hr y (List.mem_cons_of_mem _ hy)) fun x hx => by
    by_cases e : x = seatOf r
    · rw [e]; exact hr r List.mem_cons_self
    · exact h x (of_replace e hx)
set_option maxHeartbeats 8000000 in
set_option maxRecDepth 100000 in
theorem ci_round {s0 s1 s2 s3 s4 s8 s9 s14 s15 s16 s17 s18 s19 s20 s21 s22 s23 s24 s25 s26 s27 s28 s29 s30 s31 s32 s33 s34 s35 s36 s37 s38 s39 : Value} (o5 o6 o7 bf bo b12 b many B : Nat) (Ds : List Nat) (ov mv : Value) (L : List Off) (M : List Seat) (most : Int) (l : List Req) (d : Deal) (ds : List Deferred) (w0 W : World) (Q : Exit → Act → World → Prop)
    (hC : CatIn W ov mv L M) (hx : ExIn W b l (canP (actS l) d l) d) (hwf : ∀ x ∈ d.seats, x.wf) (hf : ∀ r ∈ l, r.fits) (hm2 : 2 ≤ many) (hm4 : many ≤ 4) (hB : B ≤ w0.heap.size) (hb0 : RowKit.Below B w0 W) (hBf : B ≤ bf) (hBo : B ≤ bo) (hfo : bf ≠ bo)
    (h5 : o5 < W.heap.size ∧ W.cell? ⟨o5, 0, none⟩ = some ov) (h6 : o6 < W.heap.size ∧ W.cell? ⟨o6, 0, none⟩ = some mv) (h7 : o7 < W.heap.size ∧ W.cell? ⟨o7, 0, none⟩ = some (.int .i64 most)) (h12 : b12 < W.heap.size ∧ W.cell? ⟨b12, 0, none⟩ = some (.pointer (some ⟨b, 0, none⟩)))
    (hbf : W.heap[bf]? = some (.cells #[.slice none 0 0] 22 (0, 0))) (hbo : W.heap[bo]? = some (.cells #[.bool false] 4 (0, 0))) (hDs : ∀ D ∈ Ds, W.heap[D]? = some (.deferred (some [])))
    (hnone : (extP l (canP (actS l) d l) many []).find? (goodC L M most l d) = none → ∀ (u25 u26 u27 : Value) (D : Nat) (W' : World), RowKit.Below W.heap.size W W' → W.heap.size ≤ D → W'.heap[D]? = some (.deferred (some [])) → Q .normal ⟨List.toArray (s0 :: s1 :: s2 :: s3 :: s4 :: .pointer (some ⟨o5, 0, none⟩) :: .pointer (some ⟨o6, 0, none⟩) :: .pointer (some ⟨o7, 0, none⟩) :: s8 :: s9 :: .pointer (some ⟨bf, 0, none⟩) :: .pointer (some ⟨bo, 0, none⟩) :: .pointer (some ⟨b12, 0, none⟩) :: .int .i64 many :: s14 :: s15 :: s16 :: s17 :: s18 :: s19 :: s20 :: s21 :: s22 :: s23 :: s24 :: u25 :: u26 :: u27 :: s28 :: s29 :: s30 :: s31 :: s32 :: s33 :: s34 :: s35 :: s36 :: s37 :: s38 :: s39 :: []), { target := .collected D, args := #[] } :: ds⟩ W')
    (hsome : ∀ c, (extP l (canP (actS l) d l) many []).find? (goodC L M most l d) = some c → ∀ (u25 u26 u27 : Value) (D : Nat) (W' : World), FoundX B bf bo w0 Ds c W' → W.heap.size ≤ D → W'.heap[D]? = some (.deferred (some [])) → Q (.exit 0) ⟨List.toArray (s0 :: s1 :: s2 :: s3 :: s4 :: .pointer (some ⟨o5, 0, none⟩) :: .pointer (some ⟨o6, 0, none⟩) :: .pointer (some ⟨o7, 0, none⟩) :: s8 :: s9 :: .pointer (some ⟨bf, 0, none⟩) :: .pointer (some ⟨bo, 0, none⟩) :: .pointer (some ⟨b12, 0, none⟩) :: .int .i64 many :: s14 :: s15 :: s16 :: s17 :: s18 :: s19 :: s20 :: s21 :: s22 :: s23 :: s24 :: u25 :: u26 :: u27 :: s28 :: s29 :: s30 :: s31 :: s32 :: s33 :: s34 :: s35 :: s36 :: s37 :: s38 :: s39 :: []), { target := .collected D, args := #[] } :: ds⟩ W') :
    (blockOf Tryz.f12 1).wp Tryz.prog Q ⟨List.toArray (s0 :: s1 :: s2 :: s3 :: s4 :: .pointer (some ⟨o5, 0, none⟩) :: .pointer (some ⟨o6, 0, none⟩) :: .pointer (some ⟨o7, 0, none⟩) :: s8 :: s9 :: .pointer (some ⟨bf, 0, none⟩) :: .pointer (some ⟨bo, 0, none⟩) :: .pointer (some ⟨b12, 0, none⟩) :: .int .i64 many :: s14 :: s15 :: s16 :: s17 :: s18 :: s19 :: s20 :: s21 :: s22 :: s23 :: s24 :: s25 :: s26 :: s27 :: s28 :: s29 :: s30 :: s31 :: s32 :: s33 :: s34 :: s35 :: s36 :: s37 :: s38 :: s39 :: []), ds⟩ W := by
  have HC := Lib.hid hC
  have HX := Lib.hid hx
  have HN := Lib.hid hnone
  have HS := Lib.hid hsome
  have HF := Lib.hid hf
  have HWF := Lib.hid hwf
  have HDS := Lib.hid hDs
  clear hC hx hnone hsome hf hwf hDs
  have hcx := h12.2
  conv => arg 2; whnf
  go_wp2_with fail
  refine (circles_any b many W).mono ?_
  rintro _ w1 ⟨bx, bm, rfl, hbx, hbm, hcx1, hcm1, hb1⟩
  go_wp2_with fail
  refine wp_find_range (id := 0) (p1 := 28) rfl rfl (enters_of Tryz.func39 (by kernel_rfl) rfl) (extP l (canP (actS l) d l) many []) (badC L M most l d) (FoundX B bf bo w0 Ds) (fun pv cv c => ⟨List.toArray (s0 :: s1 :: s2 :: s3 :: s4 :: .pointer (some ⟨o5, 0, none⟩) :: .pointer (some ⟨o6, 0, none⟩) :: .pointer (some ⟨o7, 0, none⟩) :: s8 :: s9 :: .pointer (some ⟨bf, 0, none⟩) :: .pointer (some ⟨bo, 0, none⟩) :: .pointer (some ⟨b12, 0, none⟩) :: .int .i64 many :: .slice pv c.length cv :: s15 :: s16 :: s17 :: s18 :: s19 :: s20 :: s21 :: s22 :: s23 :: s24 :: .pointer (some ⟨b, 0, none⟩) :: .int .i64 many :: .func (.func 39) #[] #[.pointer (some ⟨bx, 0, none⟩), .pointer (some ⟨bm, 0, none⟩)] :: .slice pv c.length cv :: s29 :: s30 :: s31 :: s32 :: s33 :: s34 :: s35 :: s36 :: s37 :: s38 :: s39 :: []), []⟩) ?_ ?_ ?_ ?_ ?_ ?_ ?_
  · intro c W' k r r' hk ho h
    exact h.put hB (by have := hb1.size; have := hb0.size; omega) ho
  · intro c W' W'' h hb
    exact h.below hB hb
  · intro lp X' wL hX' hbL hY
    have hbL2 := below_next hb1 hbL
    exact circles1_any lp b bx bm many l _ d _ X' wL hX' hY hm2 hm4 (HX.out.below hbL2) ((hbL.cell (p := ⟨bx, 0, none⟩) hbx).trans hcx1) ((hbL.cell (p := ⟨bm, 0, none⟩) hbm).trans hcm1)
  · intro lp pv cv c W' K hK
    gi_wp2
    exact hK
  · intro lp pv cv c W' hbW hc hrow
    have hbWW := below_next hb1 hbW
    have hmc := mem_circles.1 hc
    have hring := chain_ring hmc.2.1
    have hexW := HX.out.below hbWW
    have hcl := chain_lt hexW hmc.2.1
    have hlen := hmc.1
    have f5 : W'.cell? ⟨o5, 0, none⟩ = some ov := (hbWW.cell (p := ⟨o5, 0, none⟩) h5.1).trans h5.2
    have f6 : W'.cell? ⟨o6, 0, none⟩ = some mv := (hbWW.cell (p := ⟨o6, 0, none⟩) h6.1).trans h6.2
    have f7 : W'.cell? ⟨o7, 0, none⟩ = some (.int .i64 most) := (hbWW.cell (p := ⟨o7, 0, none⟩) h7.1).trans h7.2
    have f12 : W'.cell? ⟨b12, 0, none⟩ = some (.pointer (some ⟨b, 0, none⟩)) := (hbWW.cell (p := ⟨b12, 0, none⟩) h12.1).trans h12.2
    have hwfs : ∀ x ∈ (turnP l d c).seats, x.wf := ring_wf (A := actS l) _ d (fun r hr => by
      obtain ⟨n, hn, rfl⟩ := List.mem_map.1 hr
      have h := (HF.out _ (atR_mem (hcl n hn))).1
      exact ⟨h.2.2.1, h.2.2.2.2.1⟩) HWF.out
    have ct := turn_any b l _ d c pv cv (actS l) W'.drew (hexW.below (Below.refl _ _).drew) (hrow.below (Below.refl _ _).drew) hcl hring (by omega)
    have HG : Hid (badC L M most l d c = !decide (checkP L M most (turnP l d c).seats (turnP l d c).seats.length = 0)) := Lib.hid rfl
    have hCW := HC.out.below hbWW
    obtain ⟨T, hT⟩ : ∃ T, turnP l d c = T := ⟨_, rfl⟩
    rw [hT] at ct HG hwfs
    have HR := Lib.hid hrow
    clear hT hring hexW hcl hmc hc hrow hlen
    have keepS : ∀ w', RowKit.Below W'.heap.size W' w' → RowKit.Below W'.heap.size W' w' ∧ w'.cell? ⟨o5, 0, none⟩ = some ov ∧ w'.cell? ⟨o6, 0, none⟩ = some mv ∧ w'.cell? ⟨o7, 0, none⟩ = some (.int .i64 most) ∧ w'.cell? ⟨b12, 0, none⟩ = some (.pointer (some ⟨b, 0, none⟩)) := fun w' hb => ⟨hb, (hb.cell (p := ⟨o5, 0, none⟩) (Nat.lt_of_lt_of_le h5.1 hbWW.size)).trans f5, (hb.cell (p := ⟨o6, 0, none⟩) (Nat.lt_of_lt_of_le h6.1 hbWW.size)).trans f6, (hb.cell (p := ⟨o7, 0, none⟩) (Nat.lt_of_lt_of_le h7.1 hbWW.size)).trans f7, (hb.cell (p := ⟨b12, 0, none⟩) (Nat.lt_of_lt_of_le h12.1 hbWW.size)).trans f12⟩
    have hS0 := keepS _ (Below.refl W'.heap.size W').drew
    gi_wp2
    refine of_onlyN_in ?_ (fun _ _ h => h)
    refine wp_round_flow (S := fun w' => RowKit.Below W'.heap.size W' w' ∧ w'.cell? ⟨o5, 0, none⟩ = some ov ∧ w'.cell? ⟨o6, 0, none⟩ = some mv ∧ w'.cell? ⟨o7, 0, none⟩ = some (.int .i64 most) ∧ w'.cell? ⟨b12, 0, none⟩ = some (.pointer (some ⟨b, 0, none⟩))) [(0, true), (1, true), (2, true), (3, true), (4, true), (5, false), (6, false), (7, true)] (by kernel_rfl) (by kernel_rfl) (by kernel_rfl) (by kernel_rfl) (by decide) hS0 ?_
    have hS := hS0
    refine flow_take ⟨some 29, _, _, _, _, _⟩ ?_ rfl (by rfl) ?_ ?_
    rotate_left 1
    · intro w hSw; (try dsimp only at hSw); go_simp; (try with_reducible rfl)
    (try simp only [Act.put, List.setIfInBounds_toArray, List.set_cons_zero, List.set_cons_succ])
    refine flow_take ⟨some 30, _, _, _, _, _⟩ ?_ rfl (by rfl) ?_ ?_
    rotate_left 1
    · intro w hSw; (try dsimp only at hSw); go_simp; (try with_reducible rfl)
    (try simp only [Act.put, List.setIfInBounds_toArray, List.set_cons_zero, List.set_cons_succ])
    refine flow_take ⟨some 31, _, _, _, _, _⟩ ?_ rfl (by rfl) ?_ ?_
    rotate_left 1
    · intro w hSw; (try dsimp only at hSw); go_simp; (try with_reducible rfl)
    (try simp only [Act.put, List.setIfInBounds_toArray, List.set_cons_zero, List.set_cons_succ])
    refine flow_take ⟨some 32, _, _, _, _, _⟩ ?_ rfl (by rfl) ?_ ?_
    rotate_left 1
    · intro w hSw; (try dsimp only at hSw); go_simp; (try with_reducible rfl)
    (try simp only [Act.put, List.setIfInBounds_toArray, List.set_cons_zero, List.set_cons_succ])
    refine flow_take ⟨some 33, _, _, _, _, _⟩ ?_ rfl (by rfl) ?_ ?_
    rotate_left 1
    · intro w hSw; (try dsimp only at hSw); go_simp; (try with_reducible rfl)
    (try simp only [Act.put, List.setIfInBounds_toArray, List.set_cons_zero, List.set_cons_succ])
    refine flow_call ⟨some 34, _, _, _, _, _⟩ rfl (by rfl) 24 _ _ (by rfl) _ (by rfl) Tryz.call24 ct ?_
    rintro _ w2 ⟨p, e1, p', e2, rfl, hdl, hb2⟩
    have hb3 : RowKit.Below W'.heap.size W' w2 := below_next (Below.refl _ _).drew hb2
    replace hS := keepS w2 hb3
    refine ⟨_, rfl, hS, ?_⟩
    (try simp only [Act.put, List.setIfInBounds_toArray, List.set_cons_zero, List.set_cons_succ])
    refine flow_call ⟨some 35, _, _, _, _, _⟩ rfl (by rfl) 9 _ _ (by rfl) _ (by rfl) Tryz.call9 (check_any ov mv _ _ L M most T.seats T.waits w2 (hCW.below hb3) (dealIn_rows hdl).1 (dealIn_rows hdl).2 hdl.ls hwfs) ?_
    rintro _ w3 ⟨rfl, hb4⟩
    have hb5 := below_next hb3 hb4
    replace hS := keepS w3 hb5
    refine ⟨_, rfl, hS, ?_⟩
    (try simp only [Act.put, List.setIfInBounds_toArray, List.set_cons_zero, List.set_cons_succ])
    refine flow_take ⟨some 36, _, _, _, _, _⟩ ?_ rfl (by rfl) ?_ ?_
    rotate_left 1
    · intro w hSw; (try dsimp only at hSw); go_simp; (try with_reducible rfl)
    (try simp only [Act.put, List.setIfInBounds_toArray, List.set_cons_zero, List.set_cons_succ])
    simp only [wpFlow, OnlyN]
    have HB5 := Lib.hid hb5
    have fbf : W'.heap[bf]? = some (.cells #[.slice none 0 0] 22 (0, 0)) := (hbWW.block bf (lt_of_heap hbf)).trans hbf
    have fbo : W'.heap[bo]? = some (.cells #[.bool false] 4 (0, 0)) := (hbWW.block bo (lt_of_heap hbo)).trans hbo
    have gbf := (hb5.block bf (lt_of_heap fbf)).trans fbf
    have gbo := (hb5.block bo (lt_of_heap fbo)).trans fbo
    have cbf : w3.cell? ⟨bf, 0, none⟩ = some (.slice none 0 0) := Lib.cell_of_heap gbf 0
    have cbo : w3.cell? ⟨bo, 0, none⟩ = some (.bool false) := Lib.cell_of_heap gbo 0
    have zbf : w3.frozen? ⟨bf, 0, none⟩ = false := Lib.frozen_of_heap gbf 0
    have zbo : w3.frozen? ⟨bo, 0, none⟩ = false := Lib.frozen_of_heap gbo 0
    have lbf := lt_of_heap hbf
    have lbo := lt_of_heap hbo
    generalize checkP L M most T.seats T.seats.length = e at HG
    clear keepS hS0 hS f5 f6 f7 f12 ct hdl hwfs hCW hb2 hb3 hb4 fbf fbo
    by_cases he : e = 0
    · subst he
      have HG2 : Hid (badC L M most l d c = false) := Lib.hid (by rw [HG.out]; rfl)
      have hb1s := hb1.size
      have HRW := Lib.hid (HR.out.below hb5)
      have hBW : RowKit.Below B w0 w3 := (hb0.trans (hbWW.mono (by have := hb0.size; omega))).trans (hb5.mono (by have := hb0.size; have := hbWW.size; omega))
      clear hb5
      gi_wp2
      refine ⟨rfl, HG2.out, ⟨fun D hD => ?_, pv, cv, ?_, ?_, ?_, (hBW.setCell (p := ⟨bf, 0, none⟩) hBf _).setCell (p := ⟨bo, 0, none⟩) hBo _⟩, fun k hk1 hk2 => ?_⟩
      · have hd := HDS.out D hD
        have n1 : D ≠ bf := fun e => by subst e; rw [hd] at hbf; cases hbf
        have n2 : D ≠ bo := fun e => by subst e; rw [hd] at hbo; cases hbo
        rw [Below.heap_setCell _ _ _ _ n2, Below.heap_setCell _ _ _ _ n1, HB5.out.block D (by have := lt_of_heap hd; have := hbWW.size; omega), hbWW.block D (lt_of_heap hd)]
        exact hd
      · rw [Below.heap_setCell _ _ _ _ hfo]; simp [World.setCell, Array.getElem?_modify, gbf]
      · simp [World.setCell, Array.getElem?_modify, gbo, hfo]
      · refine row_setN (row_setN HRW.out (fun j n => ?_)) (fun j n => ?_)
        · rw [Lib.cell_of_heap gbf]; match j with
          | 0 => simp
          | j + 1 => simp
        · rw [World.cell?_of_block (a := ⟨bo, j, none⟩) (Below.heap_setCell _ _ _ _ hfo.symm), Lib.cell_of_heap gbo]; match j with
          | 0 => simp
          | j + 1 => simp
      · rw [Below.heap_setCell _ _ _ _ (show k ≠ bo by omega), Below.heap_setCell _ _ _ _ (show k ≠ bf by omega)]
        exact HB5.out.block k hk2
    · have he2 : (e == 0) = false := by simpa using he
      have HG2 : Hid (badC L M most l d c = true) := Lib.hid (by rw [HG.out, decide_eq_false he]; rfl)
      clear he
      gi_wp2
      exact ⟨HG2.out, HB5.out⟩
  · intro hn D W' hD hbW hk
    rw [bad_find] at hn
    exact HN.out hn _ _ _ D W' (below_next hb1 hbW) (Nat.le_trans hb1.size hD) hk
  · intro c hc D W' hD hX hk
    rw [bad_find] at hc
    exact HS.out c hc _ _ _ D W' hX (Nat.le_trans hb1.size hD) hk
end Go.Proofs.YtjcogpalmgcpbaaGreat
namespace Go.Proofs.YtjcogpalmgcpbaaGreat
open Go Go.Proofs Go.RowKit Go.Maps Go.Sort Go.Lib

/-- Two worlds that differ at some blocks alone. -/
structure SameBut (Ds : List Nat) (w w' : World) : Prop where
  os : w'.os = w.os
  tape : w'.tape = w.tape
  output : w'.output = w.output
  size : w'.heap.size = w.heap.size
  block : ∀ k, k ∉ Ds → w'.heap[k]? = w.heap[k]?
theorem sameBut_cons {Ds : List Nat} {w w' : World} {D : Nat} {o : Obj} (h : SameBut Ds (w.putObj D o) w') : SameBut (D :: Ds) w w' :=
  ⟨h.os, h.tape, h.output, by rw [h.size]; simp, fun k hk => by
    rw [List.mem_cons, not_or] at hk
    rw [h.block k hk.2]; exact World.putObj_heap_other hk.1⟩
def markD (D : Nat) : Deferred := { target := .collected D, args := #[] }
theorem leaves_marks {F : Fence} {n : Nat} {P : Program} {fn : Func} {tmps : Array Value} {R : Ending → World → Prop} : ∀ (Ds : List Nat) (w : World), Ds.Nodup → (∀ D ∈ Ds, w.heap[D]? = some (.deferred (some []))) → (∀ w', SameBut Ds w w' → LeavesIn F n P fn tmps R [] .returning w') → LeavesInM F n P fn tmps R (Ds.map markD) .returning w
  | [], w, _, _, h => h w ⟨rfl, rfl, rfl, rfl, fun _ _ => rfl⟩
  | D :: Ds, w, hn, hd, h => by
    rw [List.nodup_cons] at hn
    refine ⟨by simp, .inl ⟨D, _, rfl, run_takeDeferred (hd D List.mem_cons_self), ?_⟩⟩
    refine leaves_marks Ds _ hn.2 (fun E hE => ?_) (fun w' hw => h w' (sameBut_cons hw))
    rw [World.putObj_heap_other (fun e => hn.1 (by rw [← e]; exact hE))]
    exact hd E (List.mem_cons_of_mem _ hE)
theorem row_but {α : Type} {enc : α → List Value} {Ds : List Nat} {w w' : World} {v : Value} {L : List α} (h : RowIn enc w v L) (hen : ∀ x, enc x ≠ []) (hd : ∀ D ∈ Ds, w.heap[D]? = some (.deferred (some []))) (hs : SameBut Ds w w') : RowIn enc w' v L := by
  obtain ⟨p, c, rfl, h1, h2, h3⟩ := h
  refine ⟨p, c, rfl, h1, h2, fun hl => ?_⟩
  obtain ⟨b, of, rfl, hb, hx⟩ := h3 hl
  have hne : b ∉ Ds := fun hm => by
    obtain ⟨x, L', rfl⟩ := List.exists_cons_of_ne_nil (List.ne_nil_of_length_pos hl)
    obtain ⟨v0, t, hv⟩ := List.exists_cons_of_ne_nil (hen x)
    have h0 := hx 0 v0 (by show (enc x ++ _)[0]? = _; rw [hv]; rfl)
    unfold World.cell? at h0
    rw [show (⟨b, of + 0, none⟩ : Addr).block = b from rfl, hd b hm] at h0
    simp at h0
  refine ⟨b, of, rfl, by rw [hs.size]; exact hb, fun j u hj => ?_⟩
  rw [World.cell?_of_block (a := ⟨b, of + j, none⟩) (hs.block b hne)]
  exact hx j u hj
theorem below_but {Ds : List Nat} {w w' : World} {B : Nat} (hs : SameBut Ds w w') (hB : ∀ D ∈ Ds, B ≤ D) : RowKit.Below B w w' :=
  ⟨hs.os, hs.tape, hs.output, by rw [hs.size]; exact Nat.le_refl _, fun k hk => hs.block k (fun hm => by have := hB k hm; omega)⟩
theorem set_same {w : World} {b : Nat} {v : Value} {t : TypeId} (h : w.heap[b]? = some (.cells #[v] t (0, 0))) (k : Nat) : (w.setCell ⟨b, 0, none⟩ v).heap[k]? = w.heap[k]? := by
  by_cases e : k = b
  · subst e
    simp [World.setCell, Array.getElem?_modify, h]
  · exact Below.heap_setCell _ _ _ _ e
set_option maxHeartbeats 4000000 in
set_option maxRecDepth 100000 in
theorem ci_r11 {s0 s1 s2 s3 s4 s5 s6 s7 s8 s9 s12 s13 s14 s15 s16 s17 s18 s19 s20 s21 s22 s23 s24 s25 s26 s27 s28 s29 s30 s31 s32 s33 s34 s35 s36 s37 s38 s39 : Value} (bf bo n cv : Nat) (pv : Option Addr) (g : Bool) (ds : List Deferred) (W : World) (Q : Exit → Act → World → Prop) (hbf : W.heap[bf]? = some (.cells #[.slice pv n cv] 22 (0, 0))) (hbo : W.heap[bo]? = some (.cells #[.bool g] 4 (0, 0)))
    (hQ : ∀ wx, SameBut [] W wx → Q .normal ⟨List.toArray (s0 :: s1 :: s2 :: s3 :: s4 :: s5 :: s6 :: s7 :: s8 :: s9 :: .pointer (some ⟨bf, 0, none⟩) :: .pointer (some ⟨bo, 0, none⟩) :: s12 :: s13 :: s14 :: s15 :: s16 :: s17 :: s18 :: s19 :: s20 :: s21 :: s22 :: s23 :: s24 :: s25 :: s26 :: s27 :: s28 :: s29 :: s30 :: s31 :: s32 :: s33 :: s34 :: s35 :: s36 :: s37 :: .slice pv n cv :: .bool g :: []), ds⟩ wx) :
    (regionOf Tryz.f12 11).wp Tryz.prog Q ⟨List.toArray (s0 :: s1 :: s2 :: s3 :: s4 :: s5 :: s6 :: s7 :: s8 :: s9 :: .pointer (some ⟨bf, 0, none⟩) :: .pointer (some ⟨bo, 0, none⟩) :: s12 :: s13 :: s14 :: s15 :: s16 :: s17 :: s18 :: s19 :: s20 :: s21 :: s22 :: s23 :: s24 :: s25 :: s26 :: s27 :: s28 :: s29 :: s30 :: s31 :: s32 :: s33 :: s34 :: s35 :: s36 :: s37 :: s38 :: s39 :: []), ds⟩ W := by
  have HQ := Lib.hid hQ; clear hQ
  have hbf0 : W.drew.heap[bf]? = some (.cells #[.slice pv n cv] 22 (0, 0)) := hbf
  have hbo0 : W.drew.heap[bo]? = some (.cells #[.bool g] 4 (0, 0)) := hbo
  have q1 := set_same hbf0
  have q2 := set_same (w := W.drew.setCell ⟨bf, 0, none⟩ (.slice pv n cv)) (b := bo) (v := .bool g) (t := 4) (by rw [q1]; exact hbo0)
  have key : ∀ w' : World, w'.heap[bf]? = W.heap[bf]? → w'.heap[bo]? = W.heap[bo]? → (fun w' => w'.cell? ⟨bf, 0, none⟩ = some (.slice pv n cv) ∧ w'.cell? ⟨bo, 0, none⟩ = some (.bool g) ∧ w'.frozen? ⟨bf, 0, none⟩ = false ∧ w'.frozen? ⟨bo, 0, none⟩ = false) w' := fun w' h1 h2 => ⟨Lib.cell_of_heap (h1.trans hbf) 0, Lib.cell_of_heap (h2.trans hbo) 0, Lib.frozen_of_heap (h1.trans hbf) 0, Lib.frozen_of_heap (h2.trans hbo) 0⟩
  have hS0 := key W.drew rfl rfl
  have hS1 := key _ (q1 bf) (q1 bo)
  have hS2 := key _ ((q2 bf).trans (q1 bf)) ((q2 bo).trans (q1 bo))
  have HF : Hid (SameBut [] W ((W.drew.setCell ⟨bf, 0, none⟩ (.slice pv n cv)).setCell ⟨bo, 0, none⟩ (.bool g))) := Lib.hid ⟨rfl, rfl, rfl, by rw [World.size_setCell, World.size_setCell]; rfl, fun k _ => (q2 k).trans (q1 k)⟩
  clear q1 q2 key hbf0 hbo0
  dsimp only at hS0 hS1 hS2
  conv => arg 2; whnf
  refine of_onlyN ?_ (fun _ _ h => h)
  refine wp_region_flow (S := fun w' => w'.cell? ⟨bf, 0, none⟩ = some (.slice pv n cv) ∧ w'.cell? ⟨bo, 0, none⟩ = some (.bool g) ∧ w'.frozen? ⟨bf, 0, none⟩ = false ∧ w'.frozen? ⟨bo, 0, none⟩ = false) [(0, true), (1, true), (2, false), (3, false)] (by kernel_rfl) (by kernel_rfl) (by kernel_rfl) (by decide) hS0 ?_
  have hS := hS0
  generalize W.drew = Wd at hS0 hS1 hS2 hS HF ⊢
  refine flow_take ⟨some 38, _, _, _, _, _⟩ ?_ rfl (by rfl) ?_ ?_
  rotate_left 1
  · intro w hSw; (try dsimp only at hSw); go_simp; (try with_reducible rfl)
  (try simp only [Act.put, List.setIfInBounds_toArray, List.set_cons_zero, List.set_cons_succ])
  refine flow_take ⟨some 39, _, _, _, _, _⟩ ?_ rfl (by rfl) ?_ ?_
  rotate_left 1
  · intro w hSw; (try dsimp only at hSw); go_simp; (try with_reducible rfl)
  (try simp only [Act.put, List.setIfInBounds_toArray, List.set_cons_zero, List.set_cons_succ])
  refine flow_store ⟨none, _, _, _, _, _⟩ (Wd.setCell ⟨bf, 0, none⟩ (.slice pv n cv)) rfl (by rfl) (by go_simp) hS1 ?_
  (try simp only [Act.put])
  generalize Wd.setCell ⟨bf, 0, none⟩ (.slice pv n cv) = wA at hS1 hS2 HF ⊢
  refine flow_store ⟨none, _, _, _, _, _⟩ (wA.setCell ⟨bo, 0, none⟩ (.bool g)) rfl (by rfl) (by go_simp) hS2 ?_
  (try simp only [Act.put])
  simp only [wpFlow, OnlyN]
  exact HQ.out _ HF.out
theorem six_new (w : World) (o0 o1 o2 o3 o4 o5 : Obj) : let W := (((((w.alloc o0).alloc o1).alloc o2).alloc o3).alloc o4).alloc o5
    W.heap[w.heap.size]? = some o0 ∧ W.heap[w.heap.size + 1]? = some o1 ∧ W.heap[w.heap.size + 1 + 1]? = some o2 ∧ W.heap[w.heap.size + 1 + 1 + 1]? = some o3 ∧ W.heap[w.heap.size + 1 + 1 + 1 + 1]? = some o4 ∧ W.heap[w.heap.size + 1 + 1 + 1 + 1 + 1]? = some o5 ∧ RowKit.Below w.heap.size w W ∧ W.heap.size = w.heap.size + 6 := by
  intro W
  have n0 := World.alloc_heap_new w o0
  have n1 := World.alloc_heap_new (w.alloc o0) o1
  have n2 := World.alloc_heap_new ((w.alloc o0).alloc o1) o2
  have n3 := World.alloc_heap_new (((w.alloc o0).alloc o1).alloc o2) o3
  have n4 := World.alloc_heap_new ((((w.alloc o0).alloc o1).alloc o2).alloc o3) o4
  have n5 := World.alloc_heap_new (((((w.alloc o0).alloc o1).alloc o2).alloc o3).alloc o4) o5
  simp only [World.size_alloc] at n0 n1 n2 n3 n4 n5
  have st : ∀ (v : World) (o : Obj) (k : Nat), k < v.heap.size → (v.alloc o).heap[k]? = v.heap[k]? := fun v o k hk => Below.heap_alloc v o k hk
  refine ⟨?_, ?_, ?_, ?_, ?_, n5, ?_, by simp [W]⟩
  · rw [st _ _ _ (by simp <;> omega), st _ _ _ (by simp <;> omega), st _ _ _ (by simp <;> omega), st _ _ _ (by simp <;> omega), st _ _ _ (by simp)]; exact n0
  · rw [st _ _ _ (by simp <;> omega), st _ _ _ (by simp <;> omega), st _ _ _ (by simp <;> omega), st _ _ _ (by simp)]; exact n1
  · rw [st _ _ _ (by simp <;> omega), st _ _ _ (by simp <;> omega), st _ _ _ (by simp)]; exact n2
  · rw [st _ _ _ (by simp <;> omega), st _ _ _ (by simp)]; exact n3
  · rw [st _ _ _ (by simp)]; exact n4
  · exact (((((below_alloc1 w o0).alloc (by simp) o1).alloc (by simp <;> omega) o2).alloc (by simp <;> omega) o3).alloc (by simp <;> omega) o4).alloc (by simp <;> omega) o5
/-- What stands behind the search. -/
theorem ci_end {bf bo : Nat} {tmps : Array Value} (hsz : tmps[10]?.getD undef = .pointer (some ⟨bf, 0, none⟩)) (hso : tmps[11]?.getD undef = .pointer (some ⟨bo, 0, none⟩)) {R : Ending → World → Prop} (Ds : List Nat) (n cv : Nat) (pv : Option Addr) (g : Bool) (W : World)
    (hbf : W.heap[bf]? = some (.cells #[.slice pv n cv] 22 (0, 0))) (hbo : W.heap[bo]? = some (.cells #[.bool g] 4 (0, 0))) (hn : Ds.Nodup) (hd : ∀ D ∈ Ds, W.heap[D]? = some (.deferred (some []))) (hR : ∀ w', SameBut Ds W w' → R (.returned (.tuple #[.slice pv n cv, .bool g])) w') :
    LeavesInM Fence.wide 4 Tryz.prog Tryz.f12 tmps R (Ds.map markD) .returning W := by
  refine leaves_marks Ds W hn hd fun w' hs => ?_
  have n1 : bf ∉ Ds := fun hm => by rw [hd bf hm] at hbf; cases hbf
  have n2 : bo ∉ Ds := fun hm => by rw [hd bo hm] at hbo; cases hbo
  have c1 : w'.cell? ⟨bf, 0, none⟩ = some (.slice pv n cv) := Lib.cell_of_heap ((hs.block bf n1).trans hbf) 0
  have c2 : w'.cell? ⟨bo, 0, none⟩ = some (.bool g) := Lib.cell_of_heap ((hs.block bo n2).trans hbo) 0
  refine ⟨.tuple #[.slice pv n cv, .bool g], ?_, hR w' hs⟩
  simp [results, Tryz.results12, hsz, hso, go_sem, c1, c2]
set_option maxHeartbeats 16000000 in
set_option maxRecDepth 100000 in
theorem circle_any (ov mv lv : Value) (L : List Off) (M : List Seat) (most : Int) (l : List Req) (d : Deal) (dv : Value) (w : World) (hC : CatIn w ov mv L M) (hl : ReqsIn w lv l) (ll : l.length ≤ 200) (hf : ∀ r ∈ l, r.fits) (hd : DealIn w dv d) (hwf : ∀ x ∈ d.seats, x.wf) :
    Calls Tryz.prog 12 #[ov, mv, .int .i64 most, lv, dv] w (CirclePost L M most l d w) := by
  obtain ⟨ps, cs, pw, cw, rfl, -, -⟩ := hd.val
  obtain ⟨pl, cl, rfl, _⟩ := hl.form
  obtain ⟨po, co, rfl, _⟩ := hC.off.form
  obtain ⟨pm, cm, rfl, _⟩ := hC.met.form
  have HD := Lib.hid hd
  have HL := Lib.hid hl
  have HC := Lib.hid hC
  have HWF := Lib.hid hwf
  have HF := Lib.hid hf
  clear hd hl hC hwf hf
  have t1 : decide ((200 : Int) < (l.length : Int)) = false := decide_eq_false (by omega)
  obtain ⟨W6, hW6⟩ : ∃ W6, ((((((w.alloc (.cells #[.slice po L.length co] 27)).alloc (.cells #[.slice pm M.length cm] 28)).alloc (.cells #[.int .i64 most] 3)).alloc (.cells #[.slice ps d.seats.length cs, .slice pw d.waits.length cw] 31)).alloc (.cells #[.slice none 0 0] 22)).alloc (.cells #[.bool false] 4)) = W6 := ⟨_, rfl⟩
  have six := six_new w (.cells #[.slice po L.length co] 27) (.cells #[.slice pm M.length cm] 28) (.cells #[.int .i64 most] 3) (.cells #[.slice ps d.seats.length cs, .slice pw d.waits.length cw] 31) (.cells #[.slice none 0 0] 22) (.cells #[.bool false] 4)
  rw [hW6] at six
  obtain ⟨z0, z1, z2, z3, z4, z5, hb0, hs6⟩ := six
  have cd0 : ∀ j, W6.cell? ⟨w.heap.size + 1 + 1 + 1, j, none⟩ = (#[.slice ps d.seats.length cs, .slice pw d.waits.length cw] : Array Value)[j]? := fun j => Lib.cell_of_heap z3 j
  refine (callsIn_wide (n := 4)).1 ?_
  refine callsIn_of_wp_marks Tryz.func12 rfl trivial ?_ rfl
  refine wpIn_wide.2 ?_
  simp only [Tryz.ntmps12, List.size_toArray, List.length_cons, List.length_nil, Nat.reduceAdd, Nat.reduceSub, Array.replicate_succ, Array.replicate_zero, List.push_toArray, List.append_toArray, List.nil_append, List.cons_append]
  go_wp2_with fail
  clear hW6
  refine wp_scope_straight ?_
  go_wp2_with fail
  refine (newEx_any _ _ l d W6 (HL.out.below hb0) (by omega) HF.out (HD.out.below hb0)).mono ?_
  rintro _ w1 ⟨b, rfl, hex, hb1⟩
  have hb2 := below_next hb1 (below_alloc1 w1 (.cells #[.pointer (some ⟨b, 0, none⟩)] 62))
  have z6 := heap_alloc_new w1 (.cells #[.pointer (some ⟨b, 0, none⟩)] 62)
  have HEX := Lib.hid (hex.below (below_alloc1 w1 (.cells #[.pointer (some ⟨b, 0, none⟩)] 62)))
  have hs1 := hb1.size
  clear hex cd0 z3 hb1
  go_wp2_with fail
  refine wp_label ?_
  go_wp2_with fail
  generalize hxb : w1.heap.size = b12 at z6 hs1 ⊢
  clear hxb
  generalize w1.alloc _ = w2 at hb2 z6 HEX ⊢
  have y0 := (hb2.block _ (lt_of_heap z0)).trans z0
  have y1 := (hb2.block _ (lt_of_heap z1)).trans z1
  have y2 := (hb2.block _ (lt_of_heap z2)).trans z2
  have y4 := (hb2.block _ (lt_of_heap z4)).trans z4
  have y5 := (hb2.block _ (lt_of_heap z5)).trans z5
  have HB0 := Lib.hid (below_next hb0 hb2)
  have HCW := Lib.hid (HC.out.below (below_next hb0 hb2))
  have hall : circleP L M most l d = (extP l (canP (actS l) d l) 2 [] ++ extP l (canP (actS l) d l) 3 [] ++ extP l (canP (actS l) d l) 4 []).find? (goodC L M most l d) := rfl
  rw [List.find?_append, List.find?_append] at hall
  have HA := Lib.hid hall
  clear z0 z1 z2 z4 z5 hall hb2
  refine wp_loop_rounds 4 ?_
  rw [rounds_succ]
  go_upto_block 1 with fail
  refine ci_round w.heap.size (w.heap.size + 1) (w.heap.size + 1 + 1) (w.heap.size + 1 + 1 + 1 + 1) (w.heap.size + 1 + 1 + 1 + 1 + 1) b12 b 2 w.heap.size [] _ _ L M most l d _ w w2 _ (HCW.out) (HEX.out) HWF.out HF.out (by omega) (by omega) (Nat.le_refl _) (HB0.out) (by omega) (by omega) (by omega) ⟨lt_of_heap y0, Lib.cell_of_heap y0 0⟩ ⟨lt_of_heap y1, Lib.cell_of_heap y1 0⟩ ⟨lt_of_heap y2, Lib.cell_of_heap y2 0⟩ ⟨lt_of_heap z6, Lib.cell_of_heap z6 0⟩ y4 y5 (fun D hD => by cases hD) ?_ ?_
  rotate_left 1
  · intro c hc u25 u26 u27 D1 W' hX hD hkD
    obtain ⟨hX0, pv, cv, hx1, hx2, hx3, hx4⟩ := hX
    have HFD := Lib.hid (show circleP L M most l d = some c from HA.out.trans (by rw [hc]; rfl))
    clear hc
    go_upto_region 11 with fail
    refine ci_r11 _ _ _ _ _ _ _ W' _ hx1 hx2 ?_
    intro wx hsb
    have hsb0 : ∀ k, wx.heap[k]? = W'.heap[k]? := fun k => hsb.block k (by simp)
    have hbx := below_but (B := w.heap.size) hsb (by intro D hD; cases hD)
    have hrx := row_but hx3 (fun x => by simp [encN]) (by intro D hD; cases hD) hsb
    have hDall : ∀ E ∈ ([D1] : List Nat), wx.heap[E]? = some (.deferred (some [])) := by
      intro E hE
      rw [hsb0]
      rw [List.mem_singleton] at hE; subst hE; exact hkD
    go_wp2_with fail
    refine ci_end (bf := (w.heap.size + 1 + 1 + 1 + 1)) (bo := (w.heap.size + 1 + 1 + 1 + 1 + 1)) rfl rfl [D1] _ _ _ _ wx ((hsb0 _).trans hx1) ((hsb0 _).trans hx2) (by simp) hDall ?_
    intro w' hs'
    exact ⟨(hx4.trans hbx).trans (below_but hs' (by intro E hE; rw [List.mem_singleton] at hE; subst hE; have := HB0.out.size; omega)), .inr ⟨c, pv, cv, HFD.out, rfl, row_but hrx (fun x => by simp [encN]) hDall hs'⟩⟩
  intro hc1 u251 u261 u271 D1 v1 hbn1 hlo1 hk1
  have HN2 := Lib.hid hc1
  have hsz1 := hbn1.size
  replace y0 := (hbn1.block _ (lt_of_heap y0)).trans y0
  replace y1 := (hbn1.block _ (lt_of_heap y1)).trans y1
  replace y2 := (hbn1.block _ (lt_of_heap y2)).trans y2
  replace y4 := (hbn1.block _ (lt_of_heap y4)).trans y4
  replace y5 := (hbn1.block _ (lt_of_heap y5)).trans y5
  replace z6 := (hbn1.block _ (lt_of_heap z6)).trans z6
  have HBW := Lib.hid hbn1
  clear hc1 hbn1
  go_wp2_with fail
  rw [rounds_succ]
  go_upto_block 1 with fail
  refine ci_round w.heap.size (w.heap.size + 1) (w.heap.size + 1 + 1) (w.heap.size + 1 + 1 + 1 + 1) (w.heap.size + 1 + 1 + 1 + 1 + 1) b12 b 3 w.heap.size [D1] _ _ L M most l d _ w v1 _ (HCW.out.below HBW.out) (HEX.out.below HBW.out) HWF.out HF.out (by omega) (by omega) (Nat.le_refl _) (HB0.out.trans (HBW.out.mono (by have := HB0.out.size; omega))) (by omega) (by omega) (by omega) ⟨lt_of_heap y0, Lib.cell_of_heap y0 0⟩ ⟨lt_of_heap y1, Lib.cell_of_heap y1 0⟩ ⟨lt_of_heap y2, Lib.cell_of_heap y2 0⟩ ⟨lt_of_heap z6, Lib.cell_of_heap z6 0⟩ y4 y5 (fun D hD => by rw [List.mem_singleton] at hD; subst hD; exact hk1) ?_ ?_
  rotate_left 1
  · intro c hc u25 u26 u27 D2 W' hX hD hkD
    obtain ⟨hX0, pv, cv, hx1, hx2, hx3, hx4⟩ := hX
    have HFD := Lib.hid (show circleP L M most l d = some c from HA.out.trans (by rw [HN2.out, hc]; rfl))
    clear hc
    go_upto_region 11 with fail
    refine ci_r11 _ _ _ _ _ _ _ W' _ hx1 hx2 ?_
    intro wx hsb
    have hsb0 : ∀ k, wx.heap[k]? = W'.heap[k]? := fun k => hsb.block k (by simp)
    have hbx := below_but (B := w.heap.size) hsb (by intro D hD; cases hD)
    have hrx := row_but hx3 (fun x => by simp [encN]) (by intro D hD; cases hD) hsb
    have hDall : ∀ E ∈ ([D2, D1] : List Nat), wx.heap[E]? = some (.deferred (some [])) := by
      intro E hE
      rw [hsb0]
      rw [List.mem_cons] at hE
      rcases hE with rfl | hE
      · exact hkD
      · exact hX0 _ hE
    go_wp2_with fail
    refine ci_end (bf := (w.heap.size + 1 + 1 + 1 + 1)) (bo := (w.heap.size + 1 + 1 + 1 + 1 + 1)) rfl rfl [D2, D1] _ _ _ _ wx ((hsb0 _).trans hx1) ((hsb0 _).trans hx2) (by have := lt_of_heap hk1; simp; omega) hDall ?_
    intro w' hs'
    exact ⟨(hx4.trans hbx).trans (below_but hs' (by intro E hE; rw [List.mem_cons, List.mem_singleton] at hE; have := HB0.out.size; have := HBW.out.size; rcases hE with rfl | rfl <;> omega)), .inr ⟨c, pv, cv, HFD.out, rfl, row_but hrx (fun x => by simp [encN]) hDall hs'⟩⟩
  intro hc2 u252 u262 u272 D2 v2 hbn2 hlo2 hk2
  have HN3 := Lib.hid hc2
  have hsz2 := hbn2.size
  have hlt21 : D1 < D2 := Nat.lt_of_lt_of_le (lt_of_heap hk1) hlo2
  replace y0 := (hbn2.block _ (lt_of_heap y0)).trans y0
  replace y1 := (hbn2.block _ (lt_of_heap y1)).trans y1
  replace y2 := (hbn2.block _ (lt_of_heap y2)).trans y2
  replace y4 := (hbn2.block _ (lt_of_heap y4)).trans y4
  replace y5 := (hbn2.block _ (lt_of_heap y5)).trans y5
  replace z6 := (hbn2.block _ (lt_of_heap z6)).trans z6
  replace hk1 := (hbn2.block _ (lt_of_heap hk1)).trans hk1
  replace HBW := Lib.hid (below_next HBW.out hbn2)
  clear hc2 hbn2
  go_wp2_with fail
  rw [rounds_succ]
  go_upto_block 1 with fail
  refine ci_round w.heap.size (w.heap.size + 1) (w.heap.size + 1 + 1) (w.heap.size + 1 + 1 + 1 + 1) (w.heap.size + 1 + 1 + 1 + 1 + 1) b12 b 4 w.heap.size [D2, D1] _ _ L M most l d _ w v2 _ (HCW.out.below HBW.out) (HEX.out.below HBW.out) HWF.out HF.out (by omega) (by omega) (Nat.le_refl _) (HB0.out.trans (HBW.out.mono (by have := HB0.out.size; omega))) (by omega) (by omega) (by omega) ⟨lt_of_heap y0, Lib.cell_of_heap y0 0⟩ ⟨lt_of_heap y1, Lib.cell_of_heap y1 0⟩ ⟨lt_of_heap y2, Lib.cell_of_heap y2 0⟩ ⟨lt_of_heap z6, Lib.cell_of_heap z6 0⟩ y4 y5 (fun D hD => by rw [List.mem_cons, List.mem_singleton] at hD; rcases hD with rfl | rfl; exact hk2; exact hk1) ?_ ?_
  rotate_left 1
  · intro c hc u25 u26 u27 D3 W' hX hD hkD
    obtain ⟨hX0, pv, cv, hx1, hx2, hx3, hx4⟩ := hX
    have HFD := Lib.hid (show circleP L M most l d = some c from HA.out.trans (by rw [HN2.out, HN3.out, hc]; rfl))
    clear hc
    go_upto_region 11 with fail
    refine ci_r11 _ _ _ _ _ _ _ W' _ hx1 hx2 ?_
    intro wx hsb
    have hsb0 : ∀ k, wx.heap[k]? = W'.heap[k]? := fun k => hsb.block k (by simp)
    have hbx := below_but (B := w.heap.size) hsb (by intro D hD; cases hD)
    have hrx := row_but hx3 (fun x => by simp [encN]) (by intro D hD; cases hD) hsb
    have hDall : ∀ E ∈ ([D3, D2, D1] : List Nat), wx.heap[E]? = some (.deferred (some [])) := by
      intro E hE
      rw [hsb0]
      rw [List.mem_cons] at hE
      rcases hE with rfl | hE
      · exact hkD
      · exact hX0 _ hE
    go_wp2_with fail
    refine ci_end (bf := (w.heap.size + 1 + 1 + 1 + 1)) (bo := (w.heap.size + 1 + 1 + 1 + 1 + 1)) rfl rfl [D3, D2, D1] _ _ _ _ wx ((hsb0 _).trans hx1) ((hsb0 _).trans hx2) (by have := lt_of_heap hk1; have := lt_of_heap hk2; simp; omega) hDall ?_
    intro w' hs'
    exact ⟨(hx4.trans hbx).trans (below_but hs' (by intro E hE; rw [List.mem_cons, List.mem_cons, List.mem_singleton] at hE; have := HB0.out.size; have := HBW.out.size; rcases hE with rfl | rfl | rfl <;> omega)), .inr ⟨c, pv, cv, HFD.out, rfl, row_but hrx (fun x => by simp [encN]) hDall hs'⟩⟩
  intro hc3 u253 u263 u273 D3 v3 hbn3 hlo3 hk3
  have HN4 := Lib.hid hc3
  have hsz3 := hbn3.size
  have hlt31 : D1 < D3 := Nat.lt_of_lt_of_le (lt_of_heap hk1) hlo3
  have hlt32 : D2 < D3 := Nat.lt_of_lt_of_le (lt_of_heap hk2) hlo3
  replace y0 := (hbn3.block _ (lt_of_heap y0)).trans y0
  replace y1 := (hbn3.block _ (lt_of_heap y1)).trans y1
  replace y2 := (hbn3.block _ (lt_of_heap y2)).trans y2
  replace y4 := (hbn3.block _ (lt_of_heap y4)).trans y4
  replace y5 := (hbn3.block _ (lt_of_heap y5)).trans y5
  replace z6 := (hbn3.block _ (lt_of_heap z6)).trans z6
  replace hk1 := (hbn3.block _ (lt_of_heap hk1)).trans hk1
  replace hk2 := (hbn3.block _ (lt_of_heap hk2)).trans hk2
  replace HBW := Lib.hid (below_next HBW.out hbn3)
  clear hc3 hbn3
  go_wp2_with fail
  have hcn : circleP L M most l d = none := HA.out.trans (by rw [HN2.out, HN3.out, HN4.out]; rfl)
  have HFD := Lib.hid hcn
  clear hcn
  rw [rounds_succ]
  go_upto_region 11 with fail
  refine ci_r11 _ _ _ _ _ _ _ v3 _ y4 y5 ?_
  intro wx hsb
  have hsb0 : ∀ k, wx.heap[k]? = v3.heap[k]? := fun k => hsb.block k (by simp)
  have hbx := below_but (B := w.heap.size) hsb (by intro D hD; cases hD)
  go_wp2_with fail
  refine ci_end (bf := (w.heap.size + 1 + 1 + 1 + 1)) (bo := (w.heap.size + 1 + 1 + 1 + 1 + 1)) rfl rfl [D3, D2, D1] _ _ _ _ wx ((hsb0 _).trans y4) ((hsb0 _).trans y5) (by simp; omega) ?_ ?_
  · intro E hE
    rw [hsb0]
    rw [List.mem_cons, List.mem_cons, List.mem_singleton] at hE
    rcases hE with rfl | rfl | rfl
    · exact hk3
    · exact hk2
    · exact hk1
  · intro w' hs'
    exact ⟨((HB0.out.trans (HBW.out.mono (by have := HB0.out.size; omega))).trans hbx).trans (below_but hs' (by intro E hE; rw [List.mem_cons, List.mem_cons, List.mem_singleton] at hE; have := HB0.out.size; have := HBW.out.size; rcases hE with rfl | rfl | rfl <;> omega)), .inl ⟨HFD.out, rfl⟩⟩
end Go.Proofs.YtjcogpalmgcpbaaGreat
