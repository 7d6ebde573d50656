/- slices.Index, Contains, Clone, Delete at seats. -/
import Derived.Test.YtjcogpalmgcpbaaMkCl
namespace Go.Proofs.Ytjcogpalmgcpbaa
open Go Go.Proofs Go.RowKit Go.Maps Go.Sort Go.Lib
attribute [local go_sem] Seat.cells
attribute [local go_sem ↓] seat_eql seat_neq

theorem not_take {l : List Seat} {s x : Seat} {k : Nat} (hx : l[k]? = some x) (h : s ∉ l.take k) (hne : eqSeat s x = false) : s ∉ l.take (k + 1) := by
  rw [List.take_add_one, hx]
  intro hm
  simp only [Option.toList_some, List.mem_append, List.mem_singleton] at hm
  rcases hm with hm | hm
  · exact h hm
  · rw [(eqSeat_iff s x).2 hm] at hne; cases hne
theorem index_seats (v : Value) (l : List Seat) (s : Seat) (w : World) (h : RowIn Seat.cells w v l) (hl : l.length ≤ 1000000) :
    Calls Try.prog 28 #[v, .agg #[.int .i64 s.student, .string s.code]] w fun e w' => RowKit.Below w.heap.size w w' ∧
      ((s ∉ l ∧ e = .returned (.int .i64 (-1))) ∨ ∃ k : Nat, k < l.length ∧ l[k]? = some s ∧ s ∉ l.take k ∧ e = .returned (.int .i64 k)) := by
  obtain ⟨q, c, rfl, _⟩ := h.form
  have hb0 : RowKit.Below w.heap.size w (w.alloc (.cells s.cells.toArray 32)) := below_alloc1 _ _
  have H := Lib.hid h
  have hc0 : ∀ j, (w.alloc (.cells s.cells.toArray 32)).cell? ⟨w.heap.size, j, none⟩ = s.cells.toArray[j]? := fun j => Lib.cell_of_heap (heap_alloc_new w _) j
  have hl0 : w.heap.size < (w.alloc (.cells s.cells.toArray 32)).heap.size := by simp
  clear h
  go_enter Try.func28, Try.ntmps28
  simp only [Seat.cells] at hb0 hc0 hl0
  go_wp2_with fail
  generalize w.alloc _ = w0 at hb0 hc0 hl0 ⊢
  go_loopw [8] (fun i wr => ∃ k : Nat, k ≤ l.length ∧ i = .int .i64 k ∧ Hid (s ∉ l.take k) ∧ RowKit.Below w.heap.size w wr ∧ (∀ j, wr.cell? ⟨w.heap.size, j, none⟩ = (#[.int .i64 s.student, .string s.code] : Array Value)[j]?)) (fun i _ => l.length - (RowKit.intOf i).toNat)
  case atStart => exact ⟨0, Nat.zero_le _, rfl, Lib.hid (by simp), hb0, hc0⟩
  case round =>
    clear hb0 hc0
    obtain ⟨k, hk, rfl, HK, hb0, hc0⟩ := hrel
    by_cases hlt : k < l.length
    · obtain ⟨b, o, c', hv, _, hbl, hx⟩ := H.out.at_ (k := 2) (fun _ => rfl) (by omega)
      have e1 := (Value.slice.inj hv).1
      subst e1
      have hz := List.getElem?_eq_getElem hlt
      have hat := hx k _ hz
      generalize l[k] = x at hz hat
      have hat2 : ∀ j v, x.cells[j]? = some v → wr.cell? ⟨b, o + k * 2 + j, none⟩ = some v := fun j v hj => by rw [hb0.cell (p := ⟨b, o + k * 2 + j, none⟩) hbl]; exact hat j v hj
      have h0 := hat2 0 _ rfl
      have h1 := hat2 1 _ rfl
      rw [Nat.add_zero] at h0
      have HZ := Lib.hid hz
      clear hv hx hz hat hat2
      generalize hG : eqSeat s x = G
      have hG2 : eqSeat ⟨s.student, s.code⟩ ⟨x.student, x.code⟩ = G := hG
      have HG := Lib.hid hG
      clear hG
      cases G
      · go_wp2_with fail
        go_quiet (fail)
        go_wp2_with fail
        go_roundw
        case rel => exact ⟨k + 1, by omega, by go_num, Lib.hid (not_take HZ.out HK.out HG.out), blw_drewN hb0 _, hc0⟩
        case measure => simp [RowKit.intOf]; omega
      · go_wp2_with fail
        go_quiet (fail)
        go_wp2_with fail
        go_ret
        refine ⟨blw_drewN hb0 _, .inr ⟨k, hlt, ?_, HK.out, rfl⟩⟩
        rw [HZ.out, ← (eqSeat_iff s x).1 HG.out]
    · obtain rfl : k = l.length := by omega
      have hk2 := HK.out
      rw [List.take_length] at hk2
      go_wp2_with fail
      go_ret
      exact ⟨hb0, .inl ⟨hk2, rfl⟩⟩
theorem contains_seats (v : Value) (l : List Seat) (s : Seat) (w : World) (h : RowIn Seat.cells w v l) (hl : l.length ≤ 1000000) :
    Calls Try.prog 22 #[v, .agg #[.int .i64 s.student, .string s.code]] w fun e w' => e = .returned (.bool (decide (s ∈ l))) ∧ RowKit.Below w.heap.size w w' := by
  have hb0 : RowKit.Below w.heap.size w (w.alloc (.cells s.cells.toArray 32)) := below_alloc1 _ _
  have hc0 : ∀ j, (w.alloc (.cells s.cells.toArray 32)).cell? ⟨w.heap.size, j, none⟩ = s.cells.toArray[j]? := fun j => Lib.cell_of_heap (heap_alloc_new w _) j
  obtain ⟨q, c, rfl, _⟩ := h.form
  go_enter Try.func22, Try.ntmps22
  simp only [Seat.cells] at hb0 hc0
  go_wp2_with fail
  refine (index_seats _ l s _ (h.below hb0) hl).mono ?_
  rintro _ w1 ⟨hb, ⟨hn, rfl⟩ | ⟨k, hk, hs, _, rfl⟩⟩
  · go_wp2_with fail
    go_ret
    exact ⟨ret_bool (by rw [decide_eq_false hn]), hb0.trans (hb.mono hb0.size)⟩
  · have hm := List.mem_of_getElem? hs
    have hk0 : (k : Int) ≥ 0 := by omega
    go_wp2_with fail
    go_ret
    exact ⟨ret_bool (by rw [decide_eq_true hm]), hb0.trans (hb.mono hb0.size)⟩
set_option maxRecDepth 100000 in
theorem clone_seats (v : Value) (l : List Seat) (w : World) (h : RowIn Seat.cells w v l) (hl : l.length ≤ 1000000) :
    Calls Try.prog 15 #[v] w fun e w' => ∃ v', e = .returned v' ∧ w'.ownsRow w.heap.size 32 2 v' l.length (flatE Seat.cells l) ∧ RowKit.Below w.heap.size w w' := by
  have q22 : ∀ (w : World) (a : Option Addr) (n c n' c' : Nat), (binOp .eql 33 (.slice a n c) (.slice none n' c')).run Try.prog w = .ok (.bool a.isNone) w := fun w a n c n' c' => Lib.run_eql_slice_nil w _ _ a n c n' c' Try.underlying33
  obtain ⟨q, c, rfl, hlc⟩ := h.form
  rcases q with _ | ad
  · obtain ⟨p', c', hv, _, hz, _⟩ := h
    injection hv with e1 e2 e3
    subst e1; subst e3
    obtain rfl := hz rfl
    obtain rfl : l = [] := List.eq_nil_of_length_eq_zero (by omega)
    go_enter Try.func15, Try.ntmps15
    go_wp2_with fail
    go_ret
    exact ⟨_, rfl, World.ownsRow_nil _ _ _ _, Below.refl _ _⟩
  · have hrow : (w.alloc (.cells #[] 32)).ownsRow w.heap.size 32 2 (.slice (some ⟨w.heap.size, 0, none⟩) ([] : List Seat).length 0) ([] : List Seat).length (flatE Seat.cells []) := World.ownsRow_made w #[] 0 (Nat.le_refl _) (Nat.zero_le _) rfl
    have hx := h.below (below_alloc1 w (.cells #[] 32))
    have hb0 := below_alloc1 w (.cells #[] 32)
    go_enter Try.func15, Try.ntmps15
    go_wp2_with (at_builtin; refine wpList_append_row seatT rfl (.tmp 5) (.tmp 6) rfl w.heap.size _ _ [] l rfl rfl hrow hx (by simpa using hl) (by simp) ?_; intro v' w1 hA)
    go_ret
    have h1 := hA.own
    rw [List.nil_append] at h1
    exact ⟨v', rfl, h1, hb0.grown hA.grown hb0.size (by intro k hk; injection hk with hk; subst hk; exact Nat.le_refl _)⟩
/-! ### Delete -/
theorem clear_seats (w : World) (g o n c : Nat) (ty : TypeId) (hn : 0 < n) (ht : w.there g o (n * 2)) :
    ∃ Z : List Value, Z.length = n * 2 ∧ (Builtin.clear_ #[33] ty #[.slice (some ⟨g, o, none⟩) n c]).run Try.prog w = .ok (.tuple #[]) (w.setCells g o Z) := by
  have hzz : ∃ z : Value, z.cells.size = 2 ∧ (∀ v ∈ z.cells.toList, v.oneCell' = true) ∧ ∀ w, (zeroValue 32).run Try.prog w = .ok z w := ⟨.agg #[.int .i64 0, .string ⟨#[]⟩], rfl, by intro v hv; simp [Value.cells] at hv; rcases hv with rfl | rfl <;> rfl, Try.zeroValue32⟩
  obtain ⟨z, hz2, hz1, hz⟩ := hzz
  refine ⟨(Builtin.zeroCells z.cells n).toList, by simp [Builtin.zeroCells, hz2], ?_⟩
  have hl : (Builtin.zeroCells z.cells n).toList.length = n * 2 := by simp [Builtin.zeroCells, hz2]
  have hst := run_storeCells_cells (P := Try.prog) g o (Builtin.zeroCells z.cells n).toList 0 w (fun j hj => by simpa using (ht j (by omega)).1) (fun j hj => by simpa using (ht j (by omega)).2) (by
    intro v hv
    simp only [Builtin.zeroCells, Array.toList_map, List.mem_map, Array.toList_range] at hv
    obtain ⟨k, hk, rfl⟩ := hv
    refine hz1 _ ?_
    rw [getElem!_pos z.cells _ (Nat.mod_lt _ (by omega))]
    simp)
  simp only [Nat.add_zero] at hst
  obtain ⟨m, rfl⟩ : ∃ m, n = m + 1 := ⟨n - 1, by omega⟩
  simp [Builtin.clear_, run_underlying Try.underlying33, hz, hst]
theorem clear_seats_none (w : World) (a : Option Addr) (c : Nat) (ty : TypeId) : (Builtin.clear_ #[33] ty #[.slice a 0 c]).run Try.prog w = .ok (.tuple #[]) w := by
  cases a <;> simp [Builtin.clear_, run_underlying Try.underlying33]
theorem flatE_take {α : Type} {enc : α → List Value} {k : Nat} (hk : ∀ x, (enc x).length = k) (L : List α) (m : Nat) (hm : m ≤ L.length) : (flatE enc L).take (m * k) = flatE enc (L.take m) := by
  have e : flatE enc L = flatE enc (L.take m) ++ flatE enc (L.drop m) := by rw [← flatE_app, List.take_append_drop]
  have ht : (flatE enc (L.take m)).length = m * k := by rw [flatE_len hk]; congr 1; simp; omega
  rw [e, List.take_append_of_le_length (by omega), List.take_of_length_le (by omega)]
theorem own_lt {w : World} {base g n c : Nat} {e : TypeId} {size : Nat} {xs : List Value} (h : w.ownsRow base e size (.slice (some ⟨g, 0, none⟩) n c) n xs) : n ≤ c ∧ base ≤ g ∧ g < w.heap.size := by
  have h12 := h.lt g rfl
  rcases h.2 with ⟨h', _⟩ | ⟨_, _, _, hv, _, _, hc, _⟩
  · cases h'
  · injection hv with _ _ e
    subst e
    exact ⟨hc, h12⟩
theorem delete_list {l : List Seat} {k : Nat} (hk : k < l.length) (Z : List Value) (hZ : Z.length = 2) :
    (writeAt (writeAt (flatE Seat.cells l) (k * 2) (flatE Seat.cells (l.drop (k + 1)))) ((l.length - 1) * 2) Z).take ((l.length - 1) * 2) = flatE Seat.cells (l.take k ++ l.drop (k + 1)) := by
  have hf := flatE_len (enc := Seat.cells) (k := 2) (fun _ => rfl)
  have hd : (l.drop (k + 1)).length = l.length - (k + 1) := by simp
  have e1 : (flatE Seat.cells (l.drop (k + 1))).length = (l.length - (k + 1)) * 2 := by rw [hf, hd]
  have e0 : (flatE Seat.cells l).length = l.length * 2 := hf l
  have h1 := writeAt_eq (flatE Seat.cells (l.drop (k + 1))) (flatE Seat.cells l) (k * 2) (by rw [e0, e1]; omega)
  have l1 : (writeAt (flatE Seat.cells l) (k * 2) (flatE Seat.cells (l.drop (k + 1)))).length = l.length * 2 := by
    rw [h1]; simp only [List.length_append, List.length_take, List.length_drop, e0, e1]; omega
  rw [writeAt_eq Z _ _ (by rw [l1, hZ]; omega), List.append_assoc, List.take_append_of_le_length (by rw [List.length_take, l1]; omega), List.take_take, Nat.min_self, h1,
    flatE_take (k := 2) (fun _ => rfl) l k (by omega), flatE_app]
  have ht : (flatE Seat.cells (l.take k)).length = k * 2 := by rw [hf]; congr 1; simp; omega
  exact List.take_left' (by rw [List.length_append, ht, e1]; omega)
set_option maxRecDepth 100000 in
theorem delete_seats2 (base g c : Nat) (l : List Seat) (k : Nat) (w : World) (h : w.ownsRow base 32 2 (.slice (some ⟨g, 0, none⟩) l.length c) l.length (flatE Seat.cells l)) (hk : k < l.length) (hl : l.length ≤ 1000000) :
    Calls Try.prog 29 #[.slice (some ⟨g, 0, none⟩) l.length c, .int .i64 k, .int .i64 ((k : Int) + 1)] w fun e w' => ∃ v', e = .returned v' ∧ w'.ownsRow base 32 2 v' (l.take k ++ l.drop (k + 1)).length (flatE Seat.cells (l.take k ++ l.drop (k + 1))) ∧ w.grownBy w' (some g) ∧ v'.ownBlock = some g := by
  obtain ⟨hlc, hbg, hgw⟩ := own_lt h
  have hd : (l.drop (k + 1)).length = l.length - (k + 1) := by simp
  have hx : RowIn Seat.cells w (.slice (if c = k + 1 then some ⟨g, 0, none⟩ else some ⟨g, (k + 1) * 2, none⟩) (l.length - (k + 1)) (c - (k + 1))) (l.drop (k + 1)) := by
    have hx := (rowIn_own (enc := Seat.cells) (fun _ => rfl) (by decide) h).drop (k := 2) (fun _ => rfl) (m := k + 1) (by omega)
    rw [Nat.zero_add] at hx
    by_cases hc : c = k + 1
    · have e : l.drop (k + 1) = [] := List.drop_eq_nil_of_le (by omega)
      rw [if_pos hc, e]
      exact ⟨_, _, by rw [show l.length - (k + 1) = 0 by omega]; rfl, Nat.zero_le _, fun hn => (by cases hn), fun hh => (by cases hh)⟩
    · rw [if_neg hc]; exact hx
  have i1 : (0 : Int) ≤ (k : Int) := by omega
  have i2 : (k : Int) ≤ (l.length : Int) := by omega
  have i3 : (0 : Int) ≤ (k : Int) + 1 := by omega
  have i4 : (k : Int) + 1 ≤ (l.length : Int) := by omega
  have i5 : (k : Int) ≤ (c : Int) := by omega
  have i6 : (l.length : Int) ≤ (c : Int) := by omega
  have i7 : (k : Int) + 1 ≤ (c : Int) := by omega
  obtain ⟨ad, had⟩ : ∃ ad : Addr, (if c = k + 1 then some ⟨g, 0, none⟩ else some ⟨g, (k + 1) * 2, none⟩ : Option Addr) = some ad := by split <;> exact ⟨_, rfl⟩
  rw [had, ← hd] at hx
  have HAD := Lib.hid had
  have HX := Lib.hid hx
  have hth : w.there g (k * 2) ((l.drop (k + 1)).length * 2) := row_there h _ _ (by rw [hd]; omega)
  have HTH := Lib.hid hth
  have H := Lib.hid h
  clear h hx hth had
  go_enter Try.func29, Try.ntmps29
  go_wp2_with fail
  go_region_held3 (fun _ => True) (first | trivial | assumption)
    (first
    | ((refine step_append_room seatT (by rfl) (.tmp 22) (.tmp 25) (by rfl) g k c ad (c - (k + 1)) (l.drop (k + 1)) (by rfl) ?_ HX.out (by rw [hd]; omega) HTH.out ?_)
       · rw [← HAD.out, hd]; rfl))
  obtain ⟨hr2, hg0⟩ := row_setCells (flatE Seat.cells (l.drop (k + 1))) w.drew _ (k * 2) H.out.drew
  have hg2 : w.grownBy (w.drew.setCells g (k * 2) (flatE Seat.cells (l.drop (k + 1)))) (some g) := grows_trans (below_grows (Below.refl _ w).drew) hg0
  clear hg0
  have hd2 : k + (l.length - (k + 1)) = l.length - 1 := by omega
  simp only [hd2, hd]
  have i8 : (0 : Int) ≤ ((l.length - 1 : Nat) : Int) := by omega
  have i9 : ((l.length - 1 : Nat) : Int) ≤ (l.length : Int) := by omega
  have i10 : ((l.length - 1 : Nat) : Int) ≤ (c : Int) := by omega
  generalize w.drew.setCells g (k * 2) (flatE Seat.cells (l.drop (k + 1))) = w2 at hg2 hr2 ⊢
  obtain ⟨Z, hZ, hclr⟩ := clear_seats w2 g ((l.length - 1) * 2) (l.length - (l.length - 1)) (c - (l.length - 1)) 0 (by omega) (row_there hr2 _ _ (by omega))
  have hset := row_setCells Z w2 _ ((l.length - 1) * 2) hr2
  have hpre := row_prefix hset.1 (l.length - 1) (by omega)
  rw [delete_list hk Z (by rw [hZ]; omega)] at hpre
  have hg3 := grows_trans hg2 hset.2
  have HP := Lib.hid hpre
  have hlen : (l.take k ++ l.drop (k + 1)).length = l.length - 1 := by simp; omega
  clear hset hpre hg2 hr2 H HTH HX
  go_wp2_with fail
  case inl =>
    subst h
    go_ret
    exact ⟨_, rfl, HP.out, hg3, rfl⟩
  case inr =>
    go_ret
    exact ⟨_, rfl, HP.out, hg3, rfl⟩

theorem delete_seats (base g c : Nat) (l : List Seat) (k : Nat) (w : World) (h : w.ownsRow base 32 2 (.slice (some ⟨g, 0, none⟩) l.length c) l.length (flatE Seat.cells l)) (hk : k < l.length) (hl : l.length ≤ 1000000) :
    Calls Try.prog 29 #[.slice (some ⟨g, 0, none⟩) l.length c, .int .i64 k, .int .i64 ((k : Int) + 1)] w fun e w' => ∃ v', e = .returned v' ∧ w'.ownsRow base 32 2 v' (l.take k ++ l.drop (k + 1)).length (flatE Seat.cells (l.take k ++ l.drop (k + 1))) ∧ w.grownBy w' (some g) :=
  (delete_seats2 base g c l k w h hk hl).mono fun _ _ ⟨v', h1, h2, h3, _⟩ => ⟨v', h1, h2, h3⟩
end Go.Proofs.Ytjcogpalmgcpbaa
