/- market.prepare: the rules. -/
import Derived.Test.YteopjiedjnaeiaaGreatDgam
import Derived.Deep.DeepCutAuto
/- slices.Index, Contains, Clone, Delete at seats. -/
namespace Go.Proofs.YteopjiedjnaeiaaGreat
open Go Go.Proofs Go.RowKit Go.Maps Go.Sort Go.Lib
attribute [local go_sem] Seat.cells
attribute [local go_sem ↓] seat_eql seat_neq

theorem not_take {l : List Seat} {s x : Seat} {k : Nat} (hx : l[k]? = some x) (h : s ∉ l.take k) (hne : eqSeat s x = false) : s ∉ l.take (k + 1) := by
  rw [List.take_add_one, hx]
  intro hm
  simp only [Option.toList_some, List.mem_append, List.mem_singleton] at hm
  rcases hm with hm | hm
  · exact h hm
  · rw [(eqSeat_iff s x).2 hm] at hne; cases hne
theorem index_seats (v : Value) (l : List Seat) (s : Seat) (w : World) (h : RowIn Seat.cells w v l) (hl : l.length ≤ 1000000) :
    Calls Tryz.prog 24 #[v, .agg #[.int .i64 s.student, .string s.code]] w fun e w' => RowKit.Below w.heap.size w w' ∧
      ((s ∉ l ∧ e = .returned (.int .i64 (-1))) ∨ ∃ k : Nat, k < l.length ∧ l[k]? = some s ∧ s ∉ l.take k ∧ e = .returned (.int .i64 k)) := by
  obtain ⟨q, c, rfl, _⟩ := h.form
  have hb0 : RowKit.Below w.heap.size w (w.alloc (.cells s.cells.toArray 53)) := below_alloc1 _ _
  have H := Lib.hid h
  have hc0 : ∀ j, (w.alloc (.cells s.cells.toArray 53)).cell? ⟨w.heap.size, j, none⟩ = s.cells.toArray[j]? := fun j => Lib.cell_of_heap (heap_alloc_new w _) j
  have hl0 : w.heap.size < (w.alloc (.cells s.cells.toArray 53)).heap.size := by simp
  clear h
  go_enter Tryz.func24, Tryz.ntmps24
  simp only [Seat.cells] at hb0 hc0 hl0
  go_wp2_with fail
  generalize w.alloc _ = w0 at hb0 hc0 hl0 ⊢
  go_loopw [8] (fun i wr => ∃ k : Nat, k ≤ l.length ∧ i = .int .i64 k ∧ Hid (s ∉ l.take k) ∧ RowKit.Below w.heap.size w wr ∧ (∀ j, wr.cell? ⟨w.heap.size, j, none⟩ = (#[.int .i64 s.student, .string s.code] : Array Value)[j]?)) (fun i _ => l.length - (RowKit.intOf i).toNat)
  case atStart => exact ⟨0, Nat.zero_le _, rfl, Lib.hid (by simp), hb0, hc0⟩
  case round =>
    clear hb0 hc0
    obtain ⟨k, hk, rfl, HK, hb0, hc0⟩ := hrel
    by_cases hlt : k < l.length
    · obtain ⟨b, o, c', hv, _, hbl, hx⟩ := H.out.at_ (k := 2) (fun _ => rfl) (by omega)
      have e1 := (Value.slice.inj hv).1
      subst e1
      have hz := List.getElem?_eq_getElem hlt
      have hat := hx k _ hz
      generalize l[k] = x at hz hat
      have hat2 : ∀ j v, x.cells[j]? = some v → wr.cell? ⟨b, o + k * 2 + j, none⟩ = some v := fun j v hj => by rw [hb0.cell (p := ⟨b, o + k * 2 + j, none⟩) hbl]; exact hat j v hj
      have h0 := hat2 0 _ rfl
      have h1 := hat2 1 _ rfl
      rw [Nat.add_zero] at h0
      have HZ := Lib.hid hz
      clear hv hx hz hat hat2
      generalize hG : eqSeat s x = G
      have hG2 : eqSeat ⟨s.student, s.code⟩ ⟨x.student, x.code⟩ = G := hG
      have HG := Lib.hid hG
      clear hG
      cases G
      · go_wp2_with fail
        go_quiet (fail)
        go_wp2_with fail
        go_roundw
        case rel => exact ⟨k + 1, by omega, by go_num, Lib.hid (not_take HZ.out HK.out HG.out), blw_drewN hb0 _, hc0⟩
        case measure => simp [RowKit.intOf]; omega
      · go_wp2_with fail
        go_quiet (fail)
        go_wp2_with fail
        go_ret
        refine ⟨blw_drewN hb0 _, .inr ⟨k, hlt, ?_, HK.out, rfl⟩⟩
        rw [HZ.out, ← (eqSeat_iff s x).1 HG.out]
    · obtain rfl : k = l.length := by omega
      have hk2 := HK.out
      rw [List.take_length] at hk2
      go_wp2_with fail
      go_ret
      exact ⟨hb0, .inl ⟨hk2, rfl⟩⟩
theorem contains_seats (v : Value) (l : List Seat) (s : Seat) (w : World) (h : RowIn Seat.cells w v l) (hl : l.length ≤ 1000000) :
    Calls Tryz.prog 27 #[v, .agg #[.int .i64 s.student, .string s.code]] w fun e w' => e = .returned (.bool (decide (s ∈ l))) ∧ RowKit.Below w.heap.size w w' := by
  have hb0 : RowKit.Below w.heap.size w (w.alloc (.cells s.cells.toArray 53)) := below_alloc1 _ _
  have hc0 : ∀ j, (w.alloc (.cells s.cells.toArray 53)).cell? ⟨w.heap.size, j, none⟩ = s.cells.toArray[j]? := fun j => Lib.cell_of_heap (heap_alloc_new w _) j
  obtain ⟨q, c, rfl, _⟩ := h.form
  go_enter Tryz.func27, Tryz.ntmps27
  simp only [Seat.cells] at hb0 hc0
  go_wp2_with fail
  refine (index_seats _ l s _ (h.below hb0) hl).mono ?_
  rintro _ w1 ⟨hb, ⟨hn, rfl⟩ | ⟨k, hk, hs, _, rfl⟩⟩
  · go_wp2_with fail
    go_ret
    exact ⟨ret_bool (by rw [decide_eq_false hn]), hb0.trans (hb.mono hb0.size)⟩
  · have hm := List.mem_of_getElem? hs
    have hk0 : (k : Int) ≥ 0 := by omega
    go_wp2_with fail
    go_ret
    exact ⟨ret_bool (by rw [decide_eq_true hm]), hb0.trans (hb.mono hb0.size)⟩
set_option maxRecDepth 100000 in
theorem clone_seats (v : Value) (l : List Seat) (w : World) (h : RowIn Seat.cells w v l) (hl : l.length ≤ 1000000) :
    Calls Tryz.prog 23 #[v] w fun e w' => ∃ v', e = .returned v' ∧ w'.ownsRow w.heap.size 53 2 v' l.length (flatE Seat.cells l) ∧ RowKit.Below w.heap.size w w' := by
  have q22 : ∀ (w : World) (a : Option Addr) (n c n' c' : Nat), (binOp .eql 29 (.slice a n c) (.slice none n' c')).run Tryz.prog w = .ok (.bool a.isNone) w := fun w a n c n' c' => Lib.run_eql_slice_nil w _ _ a n c n' c' Tryz.underlying29
  obtain ⟨q, c, rfl, hlc⟩ := h.form
  rcases q with _ | ad
  · obtain ⟨p', c', hv, _, hz, _⟩ := h
    injection hv with e1 e2 e3
    subst e1; subst e3
    obtain rfl := hz rfl
    obtain rfl : l = [] := List.eq_nil_of_length_eq_zero (by omega)
    go_enter Tryz.func23, Tryz.ntmps23
    go_wp2_with fail
    go_ret
    exact ⟨_, rfl, World.ownsRow_nil _ _ _ _, Below.refl _ _⟩
  · have hrow : (w.alloc (.cells #[] 53)).ownsRow w.heap.size 53 2 (.slice (some ⟨w.heap.size, 0, none⟩) ([] : List Seat).length 0) ([] : List Seat).length (flatE Seat.cells []) := World.ownsRow_made w #[] 0 (Nat.le_refl _) (Nat.zero_le _) rfl
    have hx := h.below (below_alloc1 w (.cells #[] 53))
    have hb0 := below_alloc1 w (.cells #[] 53)
    go_enter Tryz.func23, Tryz.ntmps23
    go_wp2_with (at_builtin; refine wpList_append_row seatT rfl (.tmp 5) (.tmp 6) rfl w.heap.size _ _ [] l rfl rfl hrow hx (by simpa using hl) (by simp) ?_; intro v' w1 hA)
    go_ret
    have h1 := hA.own
    rw [List.nil_append] at h1
    exact ⟨v', rfl, h1, hb0.grown hA.grown hb0.size (by intro k hk; injection hk with hk; subst hk; exact Nat.le_refl _)⟩
/-! ### Delete -/
theorem clear_seats (w : World) (g o n c : Nat) (ty : TypeId) (hn : 0 < n) (ht : w.there g o (n * 2)) :
    ∃ Z : List Value, Z.length = n * 2 ∧ (Builtin.clear_ #[29] ty #[.slice (some ⟨g, o, none⟩) n c]).run Tryz.prog w = .ok (.tuple #[]) (w.setCells g o Z) := by
  have hzz : ∃ z : Value, z.cells.size = 2 ∧ (∀ v ∈ z.cells.toList, v.oneCell' = true) ∧ ∀ w, (zeroValue 53).run Tryz.prog w = .ok z w := ⟨.agg #[.int .i64 0, .string ⟨#[]⟩], rfl, by intro v hv; simp [Value.cells] at hv; rcases hv with rfl | rfl <;> rfl, Tryz.zeroValue53⟩
  obtain ⟨z, hz2, hz1, hz⟩ := hzz
  refine ⟨(Builtin.zeroCells z.cells n).toList, by simp [Builtin.zeroCells, hz2], ?_⟩
  have hl : (Builtin.zeroCells z.cells n).toList.length = n * 2 := by simp [Builtin.zeroCells, hz2]
  have hst := run_storeCells_cells (P := Tryz.prog) g o (Builtin.zeroCells z.cells n).toList 0 w (fun j hj => by simpa using (ht j (by omega)).1) (fun j hj => by simpa using (ht j (by omega)).2) (by
    intro v hv
    simp only [Builtin.zeroCells, Array.toList_map, List.mem_map, Array.toList_range] at hv
    obtain ⟨k, hk, rfl⟩ := hv
    refine hz1 _ ?_
    rw [getElem!_pos z.cells _ (Nat.mod_lt _ (by omega))]
    simp)
  simp only [Nat.add_zero] at hst
  obtain ⟨m, rfl⟩ : ∃ m, n = m + 1 := ⟨n - 1, by omega⟩
  simp [Builtin.clear_, run_underlying Tryz.underlying29, hz, hst]
theorem clear_seats_none (w : World) (a : Option Addr) (c : Nat) (ty : TypeId) : (Builtin.clear_ #[29] ty #[.slice a 0 c]).run Tryz.prog w = .ok (.tuple #[]) w := by
  cases a <;> simp [Builtin.clear_, run_underlying Tryz.underlying29]
theorem flatE_take {α : Type} {enc : α → List Value} {k : Nat} (hk : ∀ x, (enc x).length = k) (L : List α) (m : Nat) (hm : m ≤ L.length) : (flatE enc L).take (m * k) = flatE enc (L.take m) := by
  have e : flatE enc L = flatE enc (L.take m) ++ flatE enc (L.drop m) := by rw [← flatE_app, List.take_append_drop]
  have ht : (flatE enc (L.take m)).length = m * k := by rw [flatE_len hk]; congr 1; simp; omega
  rw [e, List.take_append_of_le_length (by omega), List.take_of_length_le (by omega)]
theorem own_lt {w : World} {base g n c : Nat} {e : TypeId} {size : Nat} {xs : List Value} (h : w.ownsRow base e size (.slice (some ⟨g, 0, none⟩) n c) n xs) : n ≤ c ∧ base ≤ g ∧ g < w.heap.size := by
  have h12 := h.lt g rfl
  rcases h.2 with ⟨h', _⟩ | ⟨_, _, _, hv, _, _, hc, _⟩
  · cases h'
  · injection hv with _ _ e
    subst e
    exact ⟨hc, h12⟩
theorem delete_list {l : List Seat} {k : Nat} (hk : k < l.length) (Z : List Value) (hZ : Z.length = 2) :
    (writeAt (writeAt (flatE Seat.cells l) (k * 2) (flatE Seat.cells (l.drop (k + 1)))) ((l.length - 1) * 2) Z).take ((l.length - 1) * 2) = flatE Seat.cells (l.take k ++ l.drop (k + 1)) := by
  have hf := flatE_len (enc := Seat.cells) (k := 2) (fun _ => rfl)
  have hd : (l.drop (k + 1)).length = l.length - (k + 1) := by simp
  have e1 : (flatE Seat.cells (l.drop (k + 1))).length = (l.length - (k + 1)) * 2 := by rw [hf, hd]
  have e0 : (flatE Seat.cells l).length = l.length * 2 := hf l
  have h1 := writeAt_eq (flatE Seat.cells (l.drop (k + 1))) (flatE Seat.cells l) (k * 2) (by rw [e0, e1]; omega)
  have l1 : (writeAt (flatE Seat.cells l) (k * 2) (flatE Seat.cells (l.drop (k + 1)))).length = l.length * 2 := by
    rw [h1]; simp only [List.length_append, List.length_take, List.length_drop, e0, e1]; omega
  rw [writeAt_eq Z _ _ (by rw [l1, hZ]; omega), List.append_assoc, List.take_append_of_le_length (by rw [List.length_take, l1]; omega), List.take_take, Nat.min_self, h1,
    flatE_take (k := 2) (fun _ => rfl) l k (by omega), flatE_app]
  have ht : (flatE Seat.cells (l.take k)).length = k * 2 := by rw [hf]; congr 1; simp; omega
  exact List.take_left' (by rw [List.length_append, ht, e1]; omega)
set_option maxRecDepth 100000 in
theorem delete_seats2 (base g c : Nat) (l : List Seat) (k : Nat) (w : World) (h : w.ownsRow base 53 2 (.slice (some ⟨g, 0, none⟩) l.length c) l.length (flatE Seat.cells l)) (hk : k < l.length) (hl : l.length ≤ 1000000) :
    Calls Tryz.prog 25 #[.slice (some ⟨g, 0, none⟩) l.length c, .int .i64 k, .int .i64 ((k : Int) + 1)] w fun e w' => ∃ v', e = .returned v' ∧ w'.ownsRow base 53 2 v' (l.take k ++ l.drop (k + 1)).length (flatE Seat.cells (l.take k ++ l.drop (k + 1))) ∧ w.grownBy w' (some g) ∧ v'.ownBlock = some g := by
  obtain ⟨hlc, hbg, hgw⟩ := own_lt h
  have hd : (l.drop (k + 1)).length = l.length - (k + 1) := by simp
  have hx : RowIn Seat.cells w (.slice (if c = k + 1 then some ⟨g, 0, none⟩ else some ⟨g, (k + 1) * 2, none⟩) (l.length - (k + 1)) (c - (k + 1))) (l.drop (k + 1)) := by
    have hx := (rowIn_own (enc := Seat.cells) (fun _ => rfl) (by decide) h).drop (k := 2) (fun _ => rfl) (m := k + 1) (by omega)
    rw [Nat.zero_add] at hx
    by_cases hc : c = k + 1
    · have e : l.drop (k + 1) = [] := List.drop_eq_nil_of_le (by omega)
      rw [if_pos hc, e]
      exact ⟨_, _, by rw [show l.length - (k + 1) = 0 by omega]; rfl, Nat.zero_le _, fun hn => (by cases hn), fun hh => (by cases hh)⟩
    · rw [if_neg hc]; exact hx
  have i1 : (0 : Int) ≤ (k : Int) := by omega
  have i2 : (k : Int) ≤ (l.length : Int) := by omega
  have i3 : (0 : Int) ≤ (k : Int) + 1 := by omega
  have i4 : (k : Int) + 1 ≤ (l.length : Int) := by omega
  have i5 : (k : Int) ≤ (c : Int) := by omega
  have i6 : (l.length : Int) ≤ (c : Int) := by omega
  have i7 : (k : Int) + 1 ≤ (c : Int) := by omega
  obtain ⟨ad, had⟩ : ∃ ad : Addr, (if c = k + 1 then some ⟨g, 0, none⟩ else some ⟨g, (k + 1) * 2, none⟩ : Option Addr) = some ad := by split <;> exact ⟨_, rfl⟩
  rw [had, ← hd] at hx
  have HAD := Lib.hid had
  have HX := Lib.hid hx
  have hth : w.there g (k * 2) ((l.drop (k + 1)).length * 2) := row_there h _ _ (by rw [hd]; omega)
  have HTH := Lib.hid hth
  have H := Lib.hid h
  clear h hx hth had
  go_enter Tryz.func25, Tryz.ntmps25
  go_wp2_with fail
  go_region_held3 (fun _ => True) (first | trivial | assumption)
    (first
    | ((refine step_append_room seatT (by rfl) (.tmp 22) (.tmp 25) (by rfl) g k c ad (c - (k + 1)) (l.drop (k + 1)) (by rfl) ?_ HX.out (by rw [hd]; omega) HTH.out ?_)
       · rw [← HAD.out, hd]; rfl))
  obtain ⟨hr2, hg0⟩ := row_setCells (flatE Seat.cells (l.drop (k + 1))) w.drew _ (k * 2) H.out.drew
  have hg2 : w.grownBy (w.drew.setCells g (k * 2) (flatE Seat.cells (l.drop (k + 1)))) (some g) := grows_trans (below_grows (Below.refl _ w).drew) hg0
  clear hg0
  have hd2 : k + (l.length - (k + 1)) = l.length - 1 := by omega
  simp only [hd2, hd]
  have i8 : (0 : Int) ≤ ((l.length - 1 : Nat) : Int) := by omega
  have i9 : ((l.length - 1 : Nat) : Int) ≤ (l.length : Int) := by omega
  have i10 : ((l.length - 1 : Nat) : Int) ≤ (c : Int) := by omega
  generalize w.drew.setCells g (k * 2) (flatE Seat.cells (l.drop (k + 1))) = w2 at hg2 hr2 ⊢
  obtain ⟨Z, hZ, hclr⟩ := clear_seats w2 g ((l.length - 1) * 2) (l.length - (l.length - 1)) (c - (l.length - 1)) 0 (by omega) (row_there hr2 _ _ (by omega))
  have hset := row_setCells Z w2 _ ((l.length - 1) * 2) hr2
  have hpre := row_prefix hset.1 (l.length - 1) (by omega)
  rw [delete_list hk Z (by rw [hZ]; omega)] at hpre
  have hg3 := grows_trans hg2 hset.2
  have HP := Lib.hid hpre
  have hlen : (l.take k ++ l.drop (k + 1)).length = l.length - 1 := by simp; omega
  clear hset hpre hg2 hr2 H HTH HX
  go_wp2_with fail
  case inl =>
    subst h
    go_ret
    exact ⟨_, rfl, HP.out, hg3, rfl⟩
  case inr =>
    go_ret
    exact ⟨_, rfl, HP.out, hg3, rfl⟩

theorem delete_seats (base g c : Nat) (l : List Seat) (k : Nat) (w : World) (h : w.ownsRow base 53 2 (.slice (some ⟨g, 0, none⟩) l.length c) l.length (flatE Seat.cells l)) (hk : k < l.length) (hl : l.length ≤ 1000000) :
    Calls Tryz.prog 25 #[.slice (some ⟨g, 0, none⟩) l.length c, .int .i64 k, .int .i64 ((k : Int) + 1)] w fun e w' => ∃ v', e = .returned v' ∧ w'.ownsRow base 53 2 v' (l.take k ++ l.drop (k + 1)).length (flatE Seat.cells (l.take k ++ l.drop (k + 1))) ∧ w.grownBy w' (some g) :=
  (delete_seats2 base g c l k w h hk hl).mono fun _ _ ⟨v', h1, h2, h3, _⟩ => ⟨v', h1, h2, h3⟩
end Go.Proofs.YteopjiedjnaeiaaGreat
/- The chapter's examples: sanity returns true. -/
namespace Go.Proofs.YteopjiedjnaeiaaGreat
open Go Go.Proofs Go.RowKit Go.Sort Go.Lib
attribute [local go_sem] Req.cells

/-- The six variables. -/
structure SixR (g1 g2 g3 b0 b1 b2 : Nat) (w : World) : Prop where
  x0 : ReqBox w g1 ⟨1, 1, false, 5, 4, ⟨#[65, 49]⟩, ⟨#[]⟩, 2, 400⟩
  x1 : ReqBox w g2 ⟨1, 2, false, 5, 4, ⟨#[66, 49]⟩, ⟨#[65, 49]⟩, 2, 400⟩
  x2 : ReqBox w g3 ⟨1, 1, true, 0, 0, ⟨#[]⟩, ⟨#[]⟩, 0, 0⟩
  x3 : ReqBox w b0 ⟨1, 1, false, 5, 4, ⟨#[65, 49]⟩, ⟨#[65, 49]⟩, 2, 400⟩
  x4 : ReqBox w b1 ⟨1, 0, false, 5, 4, ⟨#[65, 49]⟩, ⟨#[]⟩, 2, 400⟩
  x5 : ReqBox w b2 ⟨1, 1, true, 5, 0, ⟨#[]⟩, ⟨#[]⟩, 0, 0⟩
theorem reqs_laid_at (w : World) (L : List Req) (b : Nat) (h : w.heap.size = b) : ReqsIn (w.alloc (.cells (reqCells L).toArray 39)) (.slice (some ⟨b, 0, none⟩) L.length L.length) L := by
  subst h; exact reqs_laid w L
theorem SixR.below {g1 g2 g3 b0 b1 b2 : Nat} {w w' : World} (h : SixR g1 g2 g3 b0 b1 b2 w) (hb : RowKit.Below w.heap.size w w') : SixR g1 g2 g3 b0 b1 b2 w' := ⟨h.x0.below hb, h.x1.below hb, h.x2.below hb, h.x3.below hb, h.x4.below hb, h.x5.below hb⟩













































































































end Go.Proofs.YteopjiedjnaeiaaGreat
namespace Go.Proofs.YteopjiedjnaeiaaGreat
open Go Go.Proofs Go.RowKit Go.Maps Go.Sort Go.Lib
attribute [local go_sem] Seat.cells Off.cells

/-- The rules while they are made. -/
structure PrSt (w0 : World) (b1 b2 rb n : Nat) (most : Int) (L : List Off) (M : List Seat) (w : World) : Prop where
  below : RowKit.Below w0.heap.size w0 w
  off : ∃ D, w.ownsMap Tryz.prog 9 heldV b1 n D ∧ OffsAre D L
  met : ∃ D, w.ownsMap Tryz.prog 53 (plainElem Tryz.prog 4) b2 n D ∧ SeatsAre D M
  box : w.heap[rb]? = some (.cells #[.map (some b1), .map (some b2), .int .i64 most] 65 (0, 0))
  res : w.heap[w0.heap.size]? = some (.cells #[.map none, .map none, .int .i64 0] 65 (0, 0))
  lo1 : w0.heap.size < b1
  lo2 : w0.heap.size < b2
  lo3 : w0.heap.size < rb
  ne12 : b1 ≠ b2
  ne13 : b1 ≠ rb
  ne23 : b2 ≠ rb
variable {w0 w w' : World} {b1 b2 rb n : Nat} {most : Int} {L : List Off} {M : List Seat}
theorem PrSt.below' (h : PrSt w0 b1 b2 rb n most L M w) (hb : RowKit.Below w.heap.size w w') : PrSt w0 b1 b2 rb n most L M w' := by
  obtain ⟨D1, o1, o2⟩ := h.off
  obtain ⟨D2, m1, m2⟩ := h.met
  have hl : rb < w.heap.size := (Array.getElem?_eq_some_iff.1 h.box).1
  exact ⟨below_next h.below hb, ⟨D1, o1.kept (row := none) (below_grows hb) (by simp), o2⟩, ⟨D2, m1.kept (row := none) (below_grows hb) (by simp), m2⟩, (hb.block rb hl).trans h.box, (hb.block _ (Array.getElem?_eq_some_iff.1 h.res).1).trans h.res, h.lo1, h.lo2, h.lo3, h.ne12, h.ne13, h.ne23⟩
theorem PrSt.more (h : PrSt w0 b1 b2 rb n most L M w) {m : Nat} (hm : n ≤ m) : PrSt w0 b1 b2 rb m most L M w := by
  obtain ⟨D1, o1, o2⟩ := h.off
  obtain ⟨D2, m1, m2⟩ := h.met
  exact ⟨h.below, ⟨D1, o1.mono hm, o2⟩, ⟨D2, m1.mono hm, m2⟩, h.box, h.res, h.lo1, h.lo2, h.lo3, h.ne12, h.ne13, h.ne23⟩
theorem PrSt.oldO (h : PrSt w0 b1 b2 rb n most L M w) {L' : List Off} (ho : ∃ D, w.ownsMap Tryz.prog 9 heldV b1 n D ∧ OffsAre D L') : PrSt w0 b1 b2 rb (n + 1) most L' M w := by
  obtain ⟨D1, o1, o2⟩ := ho
  obtain ⟨D2, m1, m2⟩ := h.met
  exact ⟨h.below, ⟨D1, o1.mono (by omega), o2⟩, ⟨D2, m1.mono (by omega), m2⟩, h.box, h.res, h.lo1, h.lo2, h.lo3, h.ne12, h.ne13, h.ne23⟩
theorem PrSt.putO (h : PrSt w0 b1 b2 rb n most L M w) {L' : List Off} (hg : w.grownBy w' (some b1)) (ho : ∃ D, w'.ownsMap Tryz.prog 9 heldV b1 (n + 1) D ∧ OffsAre D L') : PrSt w0 b1 b2 rb (n + 1) most L' M w' := by
  obtain ⟨D2, m1, m2⟩ := h.met
  have hl : rb < w.heap.size := (Array.getElem?_eq_some_iff.1 h.box).1
  exact ⟨h.below.grown hg h.below.size (fun q hq => by injection hq with hq; subst hq; exact Nat.le_of_lt h.lo1), ho, ⟨D2, (m1.kept hg (by simpa using Ne.symm h.ne12)).mono (by omega), m2⟩, (hg.block rb hl (by simpa using Ne.symm h.ne13)).trans h.box, (hg.block _ (Array.getElem?_eq_some_iff.1 h.res).1 (by have := h.lo1; simp; omega)).trans h.res, h.lo1, h.lo2, h.lo3, h.ne12, h.ne13, h.ne23⟩
theorem PrSt.putM (h : PrSt w0 b1 b2 rb n most L M w) {M' : List Seat} (hg : w.grownBy w' (some b2)) (ho : ∃ D, w'.ownsMap Tryz.prog 53 (plainElem Tryz.prog 4) b2 (n + 1) D ∧ SeatsAre D M') : PrSt w0 b1 b2 rb (n + 1) most L M' w' := by
  obtain ⟨D1, m1, m2⟩ := h.off
  have hl : rb < w.heap.size := (Array.getElem?_eq_some_iff.1 h.box).1
  exact ⟨h.below.grown hg h.below.size (fun q hq => by injection hq with hq; subst hq; exact Nat.le_of_lt h.lo2), ⟨D1, (m1.kept hg (by simpa using h.ne12)).mono (by omega), m2⟩, ho, (hg.block rb hl (by simpa using Ne.symm h.ne23)).trans h.box, (hg.block _ (Array.getElem?_eq_some_iff.1 h.res).1 (by have := h.lo2; simp; omega)).trans h.res, h.lo1, h.lo2, h.lo3, h.ne12, h.ne13, h.ne23⟩
theorem PrSt.cell (h : PrSt w0 b1 b2 rb n most L M w) (j : Nat) : w.cell? ⟨rb, j, none⟩ = (#[.map (some b1), .map (some b2), .int .i64 most] : Array Value)[j]? := Lib.cell_of_heap h.box j
def PrepPost (L : List Off) (M : List Seat) (most : Int) (w : World) (e : Ending) (w' : World) : Prop :=
  ∃ b1 b2, e = .returned (.agg #[.map (some b1), .map (some b2), .int .i64 most]) ∧ RulesAt w' b1 b2 L M ∧ RowKit.Below w.heap.size w w'
theorem offsAre_nil : OffsAre (.map []) [] := fun _c => ⟨rfl, rfl⟩
theorem seatsAre_nil : SeatsAre (.map []) [] := fun s _ => by simp [DataW.atKey]
theorem take_one {α : Type} {l : List α} {k : Nat} {x : α} (h : l[k]? = some x) : l.take (k + 1) = l.take k ++ [x] := by rw [List.take_add_one, h]; rfl
theorem PrSt.start (w : World) (most : Int) : PrSt w (w.heap.size + 1) (w.heap.size + 1 + 1) (w.heap.size + 1 + 1 + 1) 0 most [] [] ((((w.alloc (.cells #[.map none, .map none, .int .i64 0] 65)).alloc (.map #[] 0)).alloc (.map #[] 0)).alloc (.cells #[.map (some (w.heap.size + 1)), .map (some (w.heap.size + 1 + 1)), .int .i64 most] 65)) where
  below := (((below_alloc1 w _).alloc (by simp) _).alloc (by simp <;> omega) _).alloc (by simp <;> omega) _
  off := ⟨.map [], by
    have := World.ownsMap_made (H := Value) (w.alloc (.cells #[.map none, .map none, .int .i64 0] 65)) Tryz.prog 9 heldV
    rw [show (w.alloc (.cells #[.map none, .map none, .int .i64 0] 65)).heap.size = w.heap.size + 1 by simp] at this
    exact (this.alloc _).alloc _, offsAre_nil⟩
  met := ⟨.map [], by
    have := World.ownsMap_made (H := Unit) ((w.alloc (.cells #[.map none, .map none, .int .i64 0] 65)).alloc (.map #[] 0)) Tryz.prog 53 (plainElem Tryz.prog 4)
    rw [show ((w.alloc (.cells #[.map none, .map none, .int .i64 0] 65)).alloc (.map #[] 0)).heap.size = w.heap.size + 1 + 1 by simp] at this
    exact this.alloc _, seatsAre_nil⟩
  box := by
    have := heap_alloc_new (((w.alloc (.cells #[.map none, .map none, .int .i64 0] 65)).alloc (.map #[] 0)).alloc (.map #[] 0)) (.cells #[.map (some (w.heap.size + 1)), .map (some (w.heap.size + 1 + 1)), .int .i64 most] 65)
    rw [show (((w.alloc (.cells #[.map none, .map none, .int .i64 0] 65)).alloc (.map #[] 0)).alloc (.map #[] 0)).heap.size = w.heap.size + 1 + 1 + 1 by simp] at this
    exact this
  res := by
    have h1 := heap_alloc_new w (.cells #[.map none, .map none, .int .i64 0] 65)
    have h2 := (((below_alloc1 (w.alloc (.cells #[.map none, .map none, .int .i64 0] 65)) (.map #[] 0)).alloc (by simp) (.map #[] 0)).alloc (by simp <;> omega) (.cells #[.map (some (w.heap.size + 1)), .map (some (w.heap.size + 1 + 1)), .int .i64 most] 65)).block w.heap.size (by simp)
    exact h2.trans h1
  lo1 := by omega
  lo2 := by omega
  lo3 := by omega
  ne12 := by omega
  ne13 := by omega
  ne23 := by omega
set_option maxHeartbeats 4000000 in
set_option maxRecDepth 100000 in
theorem prepare_any (ov mv : Value) (L : List Off) (M : List Seat) (most : Int) (w : World) (ho : RowIn Off.cells w ov L) (hm : RowIn Seat.cells w mv M) (hc : ∀ o ∈ L, o.code.size ≤ maxLen) (hs : ∀ s ∈ M, s.wf) (lL : L.length ≤ 1000000) (lM : M.length ≤ 1000000) :
    Calls Tryz.prog 18 #[ov, mv, .int .i64 most] w (PrepPost L M most w) := by
  obtain ⟨p1, c1, rfl, _⟩ := ho.form
  obtain ⟨p2, c2, rfl, _⟩ := hm.form
  have HO := Lib.hid ho
  have HM := Lib.hid hm
  have HC := Lib.hid hc
  have HS := Lib.hid hs
  clear ho hm hc hs
  have hmm := @run_makeMap Tryz.prog
  go_enter Tryz.func18, Tryz.ntmps18
  go_wp2_with fail
  have hst := PrSt.start w most
  generalize ((((w.alloc _).alloc _).alloc _).alloc _) = w1 at hst ⊢
  generalize hb1 : w.heap.size + 1 = b1 at hst ⊢
  generalize hb2 : b1 + 1 = b2 at hst ⊢
  generalize hb3 : b2 + 1 = rb at hst ⊢
  clear hb1 hb2 hb3 hmm
  go_loopw [20] (fun i wr => ∃ k : Nat, k ≤ L.length ∧ i = .int .i64 k ∧ PrSt w b1 b2 rb k most (L.take k) [] wr) (fun i _ => L.length - (RowKit.intOf i).toNat)
  case atStart => exact ⟨0, Nat.zero_le _, rfl, hst⟩
  case round =>
    clear hst
    obtain ⟨k, hk, rfl, hst⟩ := hrel
    by_cases hlt : k < L.length
    · obtain ⟨g, o, c', hv, _, hgl, hx⟩ := HO.out.at_ (k := 5) (fun _ => rfl) (by omega)
      have e1 := (Value.slice.inj hv).1
      subst e1
      have hz := List.getElem?_eq_getElem hlt
      have hat := hx k _ hz
      have hsz := HC.out _ (List.getElem_mem hlt)
      have HTK := Lib.hid (take_one hz)
      generalize L[k] = x at hz hat hsz HTK
      have hatk : wr.rangeAt g (o + k * 5) x.cells := fun j v hj => by rw [hst.below.cell (p := ⟨g, o + k * 5 + j, none⟩) hgl]; exact hat j v hj
      have hst1 := hst.below' (below_alloc1 wr (.cells x.cells.toArray 57))
      have hbx : ∀ j, (wr.alloc (.cells x.cells.toArray 57)).cell? ⟨wr.heap.size, j, none⟩ = x.cells.toArray[j]? := fun j => Lib.cell_of_heap (heap_alloc_new wr _) j
      have hl0 : wr.heap.size < (wr.alloc (.cells x.cells.toArray 57)).heap.size := by simp
      obtain ⟨D, hown, hD⟩ := hst1.off
      have hcell := hst1.cell
      have hkey := key_code x.code hsz
      obtain ⟨hhas, hat0⟩ := hD x.code
      have HD := Lib.hid hD
      generalize hf : (findO (L.take k) x.code).isSome = f at hhas
      generalize getO (L.take k) x.code = y at hat0
      have hb2 := below_alloc1 (wr.alloc (.cells x.cells.toArray 57)) (.cells y.cells.toArray 57)
      have hst2 := hst1.below' hb2
      have hbx2 : ∀ j, ((wr.alloc (.cells x.cells.toArray 57)).alloc (.cells y.cells.toArray 57)).cell? ⟨wr.heap.size, j, none⟩ = x.cells.toArray[j]? := fun j => by rw [hb2.cell (p := ⟨wr.heap.size, j, none⟩) hl0]; exact hbx j
      have hcell2 := hst2.cell
      have hown2 := hown.alloc (.cells y.cells.toArray 57)
      have HF := Lib.hid hf
      clear hv hx hz hat hst hD hf hb2
      simp only [Off.cells] at hbx hl0 hown hcell hst1 hst2 hbx2 hcell2 hown2
      cases f
      · have hval : heldV (.agg #[.string x.code, .int .i64 x.credits, .int .i64 x.places, .slice x.sp x.slots.length x.sc, .slice x.np x.needs.length x.nc]) = some (.held x.val, []) := rfl
        go_wp2_with (first
          | ((with_reducible refine wpList_load_mid (op := ⟨some 23, _, _, _, _, _⟩) ?_ 57 (.tmp 22) ?_ g (o + k * 5) ?_ x.cells _ ?_ Tryz.underlying57 ?_ ?_ ?_); rfl; rfl; rfl; exact hatk; rfl; kernel_rfl)
          | (at_lookup; refine wpList_lookup_held_ok _ rfl _ _ 62 rfl 9 57 str_keyed Tryz.underlying62 (Tryz.zeroValue57 _) b1 k D rfl hown _ (litC x.code) rfl hkey _ hat0 false hhas ?_)
          | (at_mapUpdate; refine wpList_mapUpdate_own _ rfl _ _ _ 62 rfl 9 57 str_keyed Tryz.underlying62 heldV b1 k D rfl hown2 (by unfold maxLen; omega) _ _ (litC x.code) rfl rfl hkey _ [] hval ?_; intro w2 hown3 hg3))
        have hst3 := hst2.putO (L' := L.take (k + 1)) hg3 ⟨_, hown3, by rw [HTK.out]; exact HD.out.put hown2.isMap HF.out⟩
        go_roundw
        case rel => exact ⟨k + 1, by omega, by go_num, hst3⟩
        case measure => simp [RowKit.intOf]; omega
      · go_wp2_with (first
          | ((with_reducible refine wpList_load_mid (op := ⟨some 23, _, _, _, _, _⟩) ?_ 57 (.tmp 22) ?_ g (o + k * 5) ?_ x.cells _ ?_ Tryz.underlying57 ?_ ?_ ?_); rfl; rfl; rfl; exact hatk; rfl; kernel_rfl)
          | (at_lookup; refine wpList_lookup_held_ok _ rfl _ _ 62 rfl 9 57 str_keyed Tryz.underlying62 (Tryz.zeroValue57 _) b1 k D rfl hown _ (litC x.code) rfl hkey _ hat0 true hhas ?_))
        have hst3 := hst2.oldO (L' := L.take (k + 1)) ⟨D, hown2, by rw [HTK.out]; exact HD.out.old HF.out⟩
        go_roundw
        case rel => exact ⟨k + 1, by omega, by go_num, hst3⟩
        case measure => simp [RowKit.intOf]; omega
    · obtain rfl : k = L.length := by omega
      rw [List.take_length] at hst
      go_wp2_with fail
      go_loopw [42] (fun i wr => ∃ k : Nat, k ≤ M.length ∧ i = .int .i64 k ∧ PrSt w b1 b2 rb (L.length + k) most L (M.take k) wr) (fun i _ => M.length - (RowKit.intOf i).toNat)
      case atStart => exact ⟨0, Nat.zero_le _, rfl, hst⟩
      case round =>
        clear hst
        obtain ⟨k, hk, rfl, hst⟩ := hrel
        by_cases hlt : k < M.length
        · obtain ⟨g, o, c', hv, _, hgl, hx⟩ := HM.out.at_ (k := 2) (fun _ => rfl) (by omega)
          have e1 := (Value.slice.inj hv).1
          subst e1
          have hz := List.getElem?_eq_getElem hlt
          have hat := hx k _ hz
          have hsz := HS.out _ (List.getElem_mem hlt)
          have HTK := Lib.hid (take_one hz)
          generalize M[k] = x at hz hat hsz HTK
          have hatk : wr.rangeAt g (o + k * 2) x.cells := fun j v hj => by rw [hst.below.cell (p := ⟨g, o + k * 2 + j, none⟩) hgl]; exact hat j v hj
          have hst1 := hst.below' (below_alloc1 wr (.cells x.cells.toArray 53))
          have hbx : ∀ j, (wr.alloc (.cells x.cells.toArray 53)).cell? ⟨wr.heap.size, j, none⟩ = x.cells.toArray[j]? := fun j => Lib.cell_of_heap (heap_alloc_new wr _) j
          obtain ⟨D, hown, hD⟩ := hst1.met
          have hcell := hst1.cell
          have hkey := key_seat x hsz
          have HD := Lib.hid hD
          have HZ := Lib.hid hsz
          clear hv hx hz hat hst hD hsz
          simp only [Seat.cells] at hbx hown hcell hst1
          have hval : plainElem (H := Unit) Tryz.prog 4 (.bool true) = some (.lit (.bool true), []) := plainElem_bool Tryz.underlying4 true
          go_wp2_with (first
            | ((with_reducible refine wpList_load_mid (op := ⟨some 45, _, _, _, _, _⟩) ?_ 53 (.tmp 44) ?_ g (o + k * 2) ?_ x.cells _ ?_ Tryz.underlying53 ?_ ?_ ?_); rfl; rfl; rfl; exact hatk; rfl; kernel_rfl)
            | (at_mapUpdate; refine wpList_mapUpdate_own _ rfl _ _ _ 63 rfl 53 4 st_keyed Tryz.underlying63 (plainElem Tryz.prog 4) b2 (L.length + k) D rfl hown (by unfold maxLen; omega) _ _ (litS x) rfl rfl hkey _ [] hval ?_; intro w2 hown3 hg3))
          have hst3 := hst1.putM (M' := M.take (k + 1)) hg3 ⟨_, hown3, by rw [HTK.out]; exact HD.out.put hown.isMap HZ.out⟩
          go_roundw
          case rel => exact ⟨k + 1, by omega, by go_num, hst3⟩
          case measure => simp [RowKit.intOf]; omega
        · obtain rfl : k = M.length := by omega
          rw [List.take_length] at hst
          have hcell := hst.cell
          have hlow := hst.lo3
          have hfr : ∀ j, wr.frozen? ⟨w.heap.size, j, none⟩ = false := fun j => Lib.frozen_of_heap hst.res j
          have hrc : ∀ j, wr.cell? ⟨w.heap.size, j, none⟩ = (#[.map none, .map none, .int .i64 0] : Array Value)[j]? := fun j => Lib.cell_of_heap hst.res j
          have HST := Lib.hid hst
          clear hst
          go_wp2_with fail
          have h := HST.out
          obtain ⟨D1, o1, o2⟩ := h.off
          obtain ⟨D2, m1, m2⟩ := h.met
          have hn1 : b1 ≠ w.heap.size := by have := h.lo1; omega
          have hn2 : b2 ≠ w.heap.size := by have := h.lo2; omega
          have hb3 : RowKit.Below w.heap.size w (((wr.setCell ⟨w.heap.size, 0, none⟩ (.map (some b1))).setCell ⟨w.heap.size, 1, none⟩ (.map (some b2))).setCell ⟨w.heap.size, 2, none⟩ (.int .i64 most)) :=
            h.below.grown (grows_trans (grows_trans (Only.setCell wr w.heap.size 0 _ 0) (Only.setCell _ w.heap.size 1 _ 0)) (Only.setCell _ w.heap.size 2 _ 0)) h.below.size (fun q hq => by injection hq with hq; subst hq; exact Nat.le_refl _)
          have hres := h.res
          refine bodyPost_ret (v := .agg #[.map (some b1), .map (some b2), .int .i64 most]) (results_cell_row (P := Tryz.prog) Tryz.results18 _ _ w.heap.size 65 #[.map (some b1), .map (some b2), .int .i64 most] (0, 0) _ rfl ?_ Tryz.underlying65 rfl (by kernel_rfl)) rfl ⟨b1, b2, rfl, ⟨⟨_, D1, ((o1.setCell hn1 _).setCell hn1 _).setCell hn1 _, o2⟩, ⟨_, D2, ((m1.setCell hn2 _).setCell hn2 _).setCell hn2 _, m2⟩⟩, hb3⟩
          simp [World.setCell, Array.getElem?_modify, hres]
end Go.Proofs.YteopjiedjnaeiaaGreat
