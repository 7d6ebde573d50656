/- market.prepare: the rules. -/
import Derived.Test.YtjcogpalmgcpbaaMkLs
namespace Go.Proofs.Ytjcogpalmgcpbaa
open Go Go.Proofs Go.RowKit Go.Maps Go.Sort Go.Lib
attribute [local go_sem] Seat.cells Off.cells

/-- The rules while they are made. -/
structure PrSt (w0 : World) (b1 b2 rb n : Nat) (most : Int) (L : List Off) (M : List Seat) (w : World) : Prop where
  below : RowKit.Below w0.heap.size w0 w
  off : ∃ D, w.ownsMap Try.prog 9 heldV b1 n D ∧ OffsAre D L
  met : ∃ D, w.ownsMap Try.prog 32 (plainElem Try.prog 4) b2 n D ∧ SeatsAre D M
  box : w.heap[rb]? = some (.cells #[.map (some b1), .map (some b2), .int .i64 most] 55 (0, 0))
  res : w.heap[w0.heap.size]? = some (.cells #[.map none, .map none, .int .i64 0] 55 (0, 0))
  lo1 : w0.heap.size < b1
  lo2 : w0.heap.size < b2
  lo3 : w0.heap.size < rb
  ne12 : b1 ≠ b2
  ne13 : b1 ≠ rb
  ne23 : b2 ≠ rb
variable {w0 w w' : World} {b1 b2 rb n : Nat} {most : Int} {L : List Off} {M : List Seat}
theorem PrSt.below' (h : PrSt w0 b1 b2 rb n most L M w) (hb : RowKit.Below w.heap.size w w') : PrSt w0 b1 b2 rb n most L M w' := by
  obtain ⟨D1, o1, o2⟩ := h.off
  obtain ⟨D2, m1, m2⟩ := h.met
  have hl : rb < w.heap.size := (Array.getElem?_eq_some_iff.1 h.box).1
  exact ⟨below_next h.below hb, ⟨D1, o1.kept (row := none) (below_grows hb) (by simp), o2⟩, ⟨D2, m1.kept (row := none) (below_grows hb) (by simp), m2⟩, (hb.block rb hl).trans h.box, (hb.block _ (Array.getElem?_eq_some_iff.1 h.res).1).trans h.res, h.lo1, h.lo2, h.lo3, h.ne12, h.ne13, h.ne23⟩
theorem PrSt.more (h : PrSt w0 b1 b2 rb n most L M w) {m : Nat} (hm : n ≤ m) : PrSt w0 b1 b2 rb m most L M w := by
  obtain ⟨D1, o1, o2⟩ := h.off
  obtain ⟨D2, m1, m2⟩ := h.met
  exact ⟨h.below, ⟨D1, o1.mono hm, o2⟩, ⟨D2, m1.mono hm, m2⟩, h.box, h.res, h.lo1, h.lo2, h.lo3, h.ne12, h.ne13, h.ne23⟩
theorem PrSt.oldO (h : PrSt w0 b1 b2 rb n most L M w) {L' : List Off} (ho : ∃ D, w.ownsMap Try.prog 9 heldV b1 n D ∧ OffsAre D L') : PrSt w0 b1 b2 rb (n + 1) most L' M w := by
  obtain ⟨D1, o1, o2⟩ := ho
  obtain ⟨D2, m1, m2⟩ := h.met
  exact ⟨h.below, ⟨D1, o1.mono (by omega), o2⟩, ⟨D2, m1.mono (by omega), m2⟩, h.box, h.res, h.lo1, h.lo2, h.lo3, h.ne12, h.ne13, h.ne23⟩
theorem PrSt.putO (h : PrSt w0 b1 b2 rb n most L M w) {L' : List Off} (hg : w.grownBy w' (some b1)) (ho : ∃ D, w'.ownsMap Try.prog 9 heldV b1 (n + 1) D ∧ OffsAre D L') : PrSt w0 b1 b2 rb (n + 1) most L' M w' := by
  obtain ⟨D2, m1, m2⟩ := h.met
  have hl : rb < w.heap.size := (Array.getElem?_eq_some_iff.1 h.box).1
  exact ⟨h.below.grown hg h.below.size (fun q hq => by injection hq with hq; subst hq; exact Nat.le_of_lt h.lo1), ho, ⟨D2, (m1.kept hg (by simpa using Ne.symm h.ne12)).mono (by omega), m2⟩, (hg.block rb hl (by simpa using Ne.symm h.ne13)).trans h.box, (hg.block _ (Array.getElem?_eq_some_iff.1 h.res).1 (by have := h.lo1; simp; omega)).trans h.res, h.lo1, h.lo2, h.lo3, h.ne12, h.ne13, h.ne23⟩
theorem PrSt.putM (h : PrSt w0 b1 b2 rb n most L M w) {M' : List Seat} (hg : w.grownBy w' (some b2)) (ho : ∃ D, w'.ownsMap Try.prog 32 (plainElem Try.prog 4) b2 (n + 1) D ∧ SeatsAre D M') : PrSt w0 b1 b2 rb (n + 1) most L M' w' := by
  obtain ⟨D1, m1, m2⟩ := h.off
  have hl : rb < w.heap.size := (Array.getElem?_eq_some_iff.1 h.box).1
  exact ⟨h.below.grown hg h.below.size (fun q hq => by injection hq with hq; subst hq; exact Nat.le_of_lt h.lo2), ⟨D1, (m1.kept hg (by simpa using h.ne12)).mono (by omega), m2⟩, ho, (hg.block rb hl (by simpa using Ne.symm h.ne23)).trans h.box, (hg.block _ (Array.getElem?_eq_some_iff.1 h.res).1 (by have := h.lo2; simp; omega)).trans h.res, h.lo1, h.lo2, h.lo3, h.ne12, h.ne13, h.ne23⟩
theorem PrSt.cell (h : PrSt w0 b1 b2 rb n most L M w) (j : Nat) : w.cell? ⟨rb, j, none⟩ = (#[.map (some b1), .map (some b2), .int .i64 most] : Array Value)[j]? := Lib.cell_of_heap h.box j
def PrepPost (L : List Off) (M : List Seat) (most : Int) (w : World) (e : Ending) (w' : World) : Prop :=
  ∃ b1 b2, e = .returned (.agg #[.map (some b1), .map (some b2), .int .i64 most]) ∧ RulesAt w' b1 b2 L M ∧ RowKit.Below w.heap.size w w'
theorem offsAre_nil : OffsAre (.map []) [] := fun _c => ⟨rfl, rfl⟩
theorem seatsAre_nil : SeatsAre (.map []) [] := fun s _ => by simp [DataW.atKey]
theorem take_one {α : Type} {l : List α} {k : Nat} {x : α} (h : l[k]? = some x) : l.take (k + 1) = l.take k ++ [x] := by rw [List.take_add_one, h]; rfl
theorem PrSt.start (w : World) (most : Int) : PrSt w (w.heap.size + 1) (w.heap.size + 1 + 1) (w.heap.size + 1 + 1 + 1) 0 most [] [] ((((w.alloc (.cells #[.map none, .map none, .int .i64 0] 55)).alloc (.map #[] 0)).alloc (.map #[] 0)).alloc (.cells #[.map (some (w.heap.size + 1)), .map (some (w.heap.size + 1 + 1)), .int .i64 most] 55)) where
  below := (((below_alloc1 w _).alloc (by simp) _).alloc (by simp <;> omega) _).alloc (by simp <;> omega) _
  off := ⟨.map [], by
    have := World.ownsMap_made (H := Value) (w.alloc (.cells #[.map none, .map none, .int .i64 0] 55)) Try.prog 9 heldV
    rw [show (w.alloc (.cells #[.map none, .map none, .int .i64 0] 55)).heap.size = w.heap.size + 1 by simp] at this
    exact (this.alloc _).alloc _, offsAre_nil⟩
  met := ⟨.map [], by
    have := World.ownsMap_made (H := Unit) ((w.alloc (.cells #[.map none, .map none, .int .i64 0] 55)).alloc (.map #[] 0)) Try.prog 32 (plainElem Try.prog 4)
    rw [show ((w.alloc (.cells #[.map none, .map none, .int .i64 0] 55)).alloc (.map #[] 0)).heap.size = w.heap.size + 1 + 1 by simp] at this
    exact this.alloc _, seatsAre_nil⟩
  box := by
    have := heap_alloc_new (((w.alloc (.cells #[.map none, .map none, .int .i64 0] 55)).alloc (.map #[] 0)).alloc (.map #[] 0)) (.cells #[.map (some (w.heap.size + 1)), .map (some (w.heap.size + 1 + 1)), .int .i64 most] 55)
    rw [show (((w.alloc (.cells #[.map none, .map none, .int .i64 0] 55)).alloc (.map #[] 0)).alloc (.map #[] 0)).heap.size = w.heap.size + 1 + 1 + 1 by simp] at this
    exact this
  res := by
    have h1 := heap_alloc_new w (.cells #[.map none, .map none, .int .i64 0] 55)
    have h2 := (((below_alloc1 (w.alloc (.cells #[.map none, .map none, .int .i64 0] 55)) (.map #[] 0)).alloc (by simp) (.map #[] 0)).alloc (by simp <;> omega) (.cells #[.map (some (w.heap.size + 1)), .map (some (w.heap.size + 1 + 1)), .int .i64 most] 55)).block w.heap.size (by simp)
    exact h2.trans h1
  lo1 := by omega
  lo2 := by omega
  lo3 := by omega
  ne12 := by omega
  ne13 := by omega
  ne23 := by omega
set_option maxHeartbeats 4000000 in
set_option maxRecDepth 100000 in
theorem prepare_any (ov mv : Value) (L : List Off) (M : List Seat) (most : Int) (w : World) (ho : RowIn Off.cells w ov L) (hm : RowIn Seat.cells w mv M) (hc : ∀ o ∈ L, o.code.size ≤ maxLen) (hs : ∀ s ∈ M, s.wf) (lL : L.length ≤ 1000000) (lM : M.length ≤ 1000000) :
    Calls Try.prog 13 #[ov, mv, .int .i64 most] w (PrepPost L M most w) := by
  obtain ⟨p1, c1, rfl, _⟩ := ho.form
  obtain ⟨p2, c2, rfl, _⟩ := hm.form
  have HO := Lib.hid ho
  have HM := Lib.hid hm
  have HC := Lib.hid hc
  have HS := Lib.hid hs
  clear ho hm hc hs
  have hmm := @run_makeMap Try.prog
  go_enter Try.func13, Try.ntmps13
  go_wp2_with fail
  have hst := PrSt.start w most
  generalize ((((w.alloc _).alloc _).alloc _).alloc _) = w1 at hst ⊢
  generalize hb1 : w.heap.size + 1 = b1 at hst ⊢
  generalize hb2 : b1 + 1 = b2 at hst ⊢
  generalize hb3 : b2 + 1 = rb at hst ⊢
  clear hb1 hb2 hb3 hmm
  go_loopw [20] (fun i wr => ∃ k : Nat, k ≤ L.length ∧ i = .int .i64 k ∧ PrSt w b1 b2 rb k most (L.take k) [] wr) (fun i _ => L.length - (RowKit.intOf i).toNat)
  case atStart => exact ⟨0, Nat.zero_le _, rfl, hst⟩
  case round =>
    clear hst
    obtain ⟨k, hk, rfl, hst⟩ := hrel
    by_cases hlt : k < L.length
    · obtain ⟨g, o, c', hv, _, hgl, hx⟩ := HO.out.at_ (k := 5) (fun _ => rfl) (by omega)
      have e1 := (Value.slice.inj hv).1
      subst e1
      have hz := List.getElem?_eq_getElem hlt
      have hat := hx k _ hz
      have hsz := HC.out _ (List.getElem_mem hlt)
      have HTK := Lib.hid (take_one hz)
      generalize L[k] = x at hz hat hsz HTK
      have hatk : wr.rangeAt g (o + k * 5) x.cells := fun j v hj => by rw [hst.below.cell (p := ⟨g, o + k * 5 + j, none⟩) hgl]; exact hat j v hj
      have hst1 := hst.below' (below_alloc1 wr (.cells x.cells.toArray 29))
      have hbx : ∀ j, (wr.alloc (.cells x.cells.toArray 29)).cell? ⟨wr.heap.size, j, none⟩ = x.cells.toArray[j]? := fun j => Lib.cell_of_heap (heap_alloc_new wr _) j
      have hl0 : wr.heap.size < (wr.alloc (.cells x.cells.toArray 29)).heap.size := by simp
      obtain ⟨D, hown, hD⟩ := hst1.off
      have hcell := hst1.cell
      have hkey := key_code x.code hsz
      obtain ⟨hhas, hat0⟩ := hD x.code
      have HD := Lib.hid hD
      generalize hf : (findO (L.take k) x.code).isSome = f at hhas
      generalize getO (L.take k) x.code = y at hat0
      have hb2 := below_alloc1 (wr.alloc (.cells x.cells.toArray 29)) (.cells y.cells.toArray 29)
      have hst2 := hst1.below' hb2
      have hbx2 : ∀ j, ((wr.alloc (.cells x.cells.toArray 29)).alloc (.cells y.cells.toArray 29)).cell? ⟨wr.heap.size, j, none⟩ = x.cells.toArray[j]? := fun j => by rw [hb2.cell (p := ⟨wr.heap.size, j, none⟩) hl0]; exact hbx j
      have hcell2 := hst2.cell
      have hown2 := hown.alloc (.cells y.cells.toArray 29)
      have HF := Lib.hid hf
      clear hv hx hz hat hst hD hf hb2
      simp only [Off.cells] at hbx hl0 hown hcell hst1 hst2 hbx2 hcell2 hown2
      cases f
      · have hval : heldV (.agg #[.string x.code, .int .i64 x.credits, .int .i64 x.places, .slice x.sp x.slots.length x.sc, .slice x.np x.needs.length x.nc]) = some (.held x.val, []) := rfl
        go_wp2_with (first
          | ((with_reducible refine wpList_load_mid (op := ⟨some 23, _, _, _, _, _⟩) ?_ 29 (.tmp 22) ?_ g (o + k * 5) ?_ x.cells _ ?_ Try.underlying29 ?_ ?_ ?_); rfl; rfl; rfl; exact hatk; rfl; kernel_rfl)
          | (at_lookup; refine wpList_lookup_held_ok _ rfl _ _ 52 rfl 9 29 str_keyed Try.underlying52 (Try.zeroValue29 _) b1 k D rfl hown _ (litC x.code) rfl hkey _ hat0 false hhas ?_)
          | (at_mapUpdate; refine wpList_mapUpdate_own _ rfl _ _ _ 52 rfl 9 29 str_keyed Try.underlying52 heldV b1 k D rfl hown2 (by unfold maxLen; omega) _ _ (litC x.code) rfl rfl hkey _ [] hval ?_; intro w2 hown3 hg3))
        have hst3 := hst2.putO (L' := L.take (k + 1)) hg3 ⟨_, hown3, by rw [HTK.out]; exact HD.out.put hown2.isMap HF.out⟩
        go_roundw
        case rel => exact ⟨k + 1, by omega, by go_num, hst3⟩
        case measure => simp [RowKit.intOf]; omega
      · go_wp2_with (first
          | ((with_reducible refine wpList_load_mid (op := ⟨some 23, _, _, _, _, _⟩) ?_ 29 (.tmp 22) ?_ g (o + k * 5) ?_ x.cells _ ?_ Try.underlying29 ?_ ?_ ?_); rfl; rfl; rfl; exact hatk; rfl; kernel_rfl)
          | (at_lookup; refine wpList_lookup_held_ok _ rfl _ _ 52 rfl 9 29 str_keyed Try.underlying52 (Try.zeroValue29 _) b1 k D rfl hown _ (litC x.code) rfl hkey _ hat0 true hhas ?_))
        have hst3 := hst2.oldO (L' := L.take (k + 1)) ⟨D, hown2, by rw [HTK.out]; exact HD.out.old HF.out⟩
        go_roundw
        case rel => exact ⟨k + 1, by omega, by go_num, hst3⟩
        case measure => simp [RowKit.intOf]; omega
    · obtain rfl : k = L.length := by omega
      rw [List.take_length] at hst
      go_wp2_with fail
      go_loopw [42] (fun i wr => ∃ k : Nat, k ≤ M.length ∧ i = .int .i64 k ∧ PrSt w b1 b2 rb (L.length + k) most L (M.take k) wr) (fun i _ => M.length - (RowKit.intOf i).toNat)
      case atStart => exact ⟨0, Nat.zero_le _, rfl, hst⟩
      case round =>
        clear hst
        obtain ⟨k, hk, rfl, hst⟩ := hrel
        by_cases hlt : k < M.length
        · obtain ⟨g, o, c', hv, _, hgl, hx⟩ := HM.out.at_ (k := 2) (fun _ => rfl) (by omega)
          have e1 := (Value.slice.inj hv).1
          subst e1
          have hz := List.getElem?_eq_getElem hlt
          have hat := hx k _ hz
          have hsz := HS.out _ (List.getElem_mem hlt)
          have HTK := Lib.hid (take_one hz)
          generalize M[k] = x at hz hat hsz HTK
          have hatk : wr.rangeAt g (o + k * 2) x.cells := fun j v hj => by rw [hst.below.cell (p := ⟨g, o + k * 2 + j, none⟩) hgl]; exact hat j v hj
          have hst1 := hst.below' (below_alloc1 wr (.cells x.cells.toArray 32))
          have hbx : ∀ j, (wr.alloc (.cells x.cells.toArray 32)).cell? ⟨wr.heap.size, j, none⟩ = x.cells.toArray[j]? := fun j => Lib.cell_of_heap (heap_alloc_new wr _) j
          obtain ⟨D, hown, hD⟩ := hst1.met
          have hcell := hst1.cell
          have hkey := key_seat x hsz
          have HD := Lib.hid hD
          have HZ := Lib.hid hsz
          clear hv hx hz hat hst hD hsz
          simp only [Seat.cells] at hbx hown hcell hst1
          have hval : plainElem (H := Unit) Try.prog 4 (.bool true) = some (.lit (.bool true), []) := plainElem_bool Try.underlying4 true
          go_wp2_with (first
            | ((with_reducible refine wpList_load_mid (op := ⟨some 45, _, _, _, _, _⟩) ?_ 32 (.tmp 44) ?_ g (o + k * 2) ?_ x.cells _ ?_ Try.underlying32 ?_ ?_ ?_); rfl; rfl; rfl; exact hatk; rfl; kernel_rfl)
            | (at_mapUpdate; refine wpList_mapUpdate_own _ rfl _ _ _ 53 rfl 32 4 st_keyed Try.underlying53 (plainElem Try.prog 4) b2 (L.length + k) D rfl hown (by unfold maxLen; omega) _ _ (litS x) rfl rfl hkey _ [] hval ?_; intro w2 hown3 hg3))
          have hst3 := hst1.putM (M' := M.take (k + 1)) hg3 ⟨_, hown3, by rw [HTK.out]; exact HD.out.put hown.isMap HZ.out⟩
          go_roundw
          case rel => exact ⟨k + 1, by omega, by go_num, hst3⟩
          case measure => simp [RowKit.intOf]; omega
        · obtain rfl : k = M.length := by omega
          rw [List.take_length] at hst
          have hcell := hst.cell
          have hlow := hst.lo3
          have hfr : ∀ j, wr.frozen? ⟨w.heap.size, j, none⟩ = false := fun j => Lib.frozen_of_heap hst.res j
          have hrc : ∀ j, wr.cell? ⟨w.heap.size, j, none⟩ = (#[.map none, .map none, .int .i64 0] : Array Value)[j]? := fun j => Lib.cell_of_heap hst.res j
          have HST := Lib.hid hst
          clear hst
          go_wp2_with fail
          have h := HST.out
          obtain ⟨D1, o1, o2⟩ := h.off
          obtain ⟨D2, m1, m2⟩ := h.met
          have hn1 : b1 ≠ w.heap.size := by have := h.lo1; omega
          have hn2 : b2 ≠ w.heap.size := by have := h.lo2; omega
          have hb3 : RowKit.Below w.heap.size w (((wr.setCell ⟨w.heap.size, 0, none⟩ (.map (some b1))).setCell ⟨w.heap.size, 1, none⟩ (.map (some b2))).setCell ⟨w.heap.size, 2, none⟩ (.int .i64 most)) :=
            h.below.grown (grows_trans (grows_trans (Only.setCell wr w.heap.size 0 _ 0) (Only.setCell _ w.heap.size 1 _ 0)) (Only.setCell _ w.heap.size 2 _ 0)) h.below.size (fun q hq => by injection hq with hq; subst hq; exact Nat.le_refl _)
          have hres := h.res
          refine bodyPost_ret (v := .agg #[.map (some b1), .map (some b2), .int .i64 most]) (results_cell_row (P := Try.prog) Try.results13 _ _ w.heap.size 55 #[.map (some b1), .map (some b2), .int .i64 most] (0, 0) _ rfl ?_ Try.underlying55 rfl (by kernel_rfl)) rfl ⟨b1, b2, rfl, ⟨⟨_, D1, ((o1.setCell hn1 _).setCell hn1 _).setCell hn1 _, o2⟩, ⟨_, D2, ((m1.setCell hn2 _).setCell hn2 _).setCell hn2 _, m2⟩⟩, hb3⟩
          simp [World.setCell, Array.getElem?_modify, hres]
end Go.Proofs.Ytjcogpalmgcpbaa
