/- Equality of lists of seats and of deals. -/
import Derived.Test.YtjcogpalmgcpbaaMkCk
namespace Go.Proofs.Ytjcogpalmgcpbaa
open Go Go.Proofs Go.RowKit Go.Maps Go.Sort Go.Lib
attribute [local go_sem] Seat.cells
attribute [local go_sem ↓] seat_eql seat_neq

set_option maxHeartbeats 1000000 in
theorem sameSeats_any (a b : Value) (A B : List Seat) (w : World) (ha : RowIn Seat.cells w a A) (hb : RowIn Seat.cells w b B) (lA : A.length ≤ 1000000) (lB : B.length ≤ 1000000) :
    Calls Try.prog 20 #[a, b] w fun e w' => e = .returned (.bool (decide (A = B))) ∧ RowKit.Below w.heap.size w w' := by
  obtain ⟨p1, c1, rfl, _⟩ := ha.form
  obtain ⟨p2, c2, rfl, _⟩ := hb.form
  have HA := Lib.hid ha
  have HB := Lib.hid hb
  clear ha hb
  by_cases hlen : A.length = B.length
  · have hL := Lib.hid hlen
    have hne : ((A.length : Int) != (B.length : Int)) = false := by simp [hlen]
    clear hlen
    go_enter Try.func20, Try.ntmps20
    go_wp2_with fail
    go_loopw [5] (fun i wr => ∃ k : Nat, k ≤ A.length ∧ i = .int .i64 k ∧ Hid (A.take k = B.take k) ∧ RowKit.Below w.heap.size w wr) (fun i _ => A.length - (RowKit.intOf i).toNat)
    case atStart => exact ⟨0, Nat.zero_le _, rfl, Lib.hid rfl, Below.refl _ _⟩
    case round =>
      obtain ⟨k, hk, rfl, HK, hbr⟩ := hrel
      by_cases hlt : k < A.length
      · have hlt2 : k < B.length := by have := hL.out; omega
        obtain ⟨g, o, c', hv, _, hgl, hx⟩ := HA.out.at_ (k := 2) (fun _ => rfl) (by omega)
        have e1 := (Value.slice.inj hv).1
        subst e1
        obtain ⟨g2, o2, c2', hv2, _, hgl2, hx2⟩ := HB.out.at_ (k := 2) (fun _ => rfl) (by omega)
        have e2 := (Value.slice.inj hv2).1
        subst e2
        have hz := List.getElem?_eq_getElem hlt
        have hz2 := List.getElem?_eq_getElem hlt2
        have hat := hx k _ hz
        have hat2 := hx2 k _ hz2
        have HT := Lib.hid (take_one hz)
        have HT2 := Lib.hid (take_one hz2)
        have HI := Lib.hid (show A = B → A[k] = B[k] from fun e => by subst e; rfl)
        generalize A[k] = x at hz hat HT HI
        generalize B[k] = y at hz2 hat2 HT2 HI
        have x0 : wr.cell? ⟨g, o + k * 2, none⟩ = some (.int .i64 x.student) := by rw [hbr.cell (p := ⟨g, o + k * 2, none⟩) hgl]; exact hat 0 _ rfl
        have x1 : wr.cell? ⟨g, o + k * 2 + 1, none⟩ = some (.string x.code) := by rw [hbr.cell (p := ⟨g, o + k * 2 + 1, none⟩) hgl]; exact hat 1 _ rfl
        have y0 : wr.cell? ⟨g2, o2 + k * 2, none⟩ = some (.int .i64 y.student) := by rw [hbr.cell (p := ⟨g2, o2 + k * 2, none⟩) hgl2]; exact hat2 0 _ rfl
        have y1 : wr.cell? ⟨g2, o2 + k * 2 + 1, none⟩ = some (.string y.code) := by rw [hbr.cell (p := ⟨g2, o2 + k * 2 + 1, none⟩) hgl2]; exact hat2 1 _ rfl
        have hG : ∃ G, eqSeat ⟨x.student, x.code⟩ ⟨y.student, y.code⟩ = G := ⟨_, rfl⟩
        obtain ⟨G, hG⟩ := hG
        have HG : Hid (eqSeat x y = G) := Lib.hid hG
        have hln : (k : Int) < (B.length : Int) := by omega
        clear hv hx hz hat hv2 hx2 hz2 hat2
        cases G
        · go_wp2_with fail
          go_quiet (fail)
          go_wp2_with fail
          go_ret
          refine ⟨ret_bool ?_, blw_drewN hbr _⟩
          rw [eq_comm, decide_eq_false_iff_not]
          intro e
          have := HI.out e
          rw [(eqSeat_iff x y).2 this] at HG
          cases HG.out
        · go_wp2_with fail
          go_quiet (fail)
          go_wp2_with fail
          go_roundw
          case rel => exact ⟨k + 1, by omega, by go_num, Lib.hid (by rw [HT.out, HT2.out, HK.out, (eqSeat_iff x y).1 HG.out]), blw_drewN hbr _⟩
          case measure => simp [RowKit.intOf]; omega
      · obtain rfl : k = A.length := by omega
        have hk2 := HK.out
        rw [List.take_length, hL.out, List.take_length] at hk2
        go_wp2_with fail
        go_ret
        exact ⟨ret_bool (by rw [decide_eq_true hk2]), hbr⟩
  · have hne : ((A.length : Int) != (B.length : Int)) = true := by simp; omega
    have HN := Lib.hid hlen
    clear hlen
    go_enter Try.func20, Try.ntmps20
    go_wp2_with fail
    go_ret
    exact ⟨ret_bool (by rw [eq_comm, decide_eq_false_iff_not]; intro e; exact HN.out (by rw [e])), Below.refl _ _⟩


























































































































/-- A deal as a value. -/
structure DealIn (w : World) (v : Value) (d : Deal) : Prop where
  val : ∃ p c q e, v = .agg #[.slice p d.seats.length c, .slice q d.waits.length e] ∧ RowIn Seat.cells w (.slice p d.seats.length c) d.seats ∧ RowIn Seat.cells w (.slice q d.waits.length e) d.waits
  ls : d.seats.length ≤ 1000000
  lw : d.waits.length ≤ 1000000
theorem DealIn.below {w w' : World} {v : Value} {d : Deal} (h : DealIn w v d) (hb : RowKit.Below w.heap.size w w') : DealIn w' v d := by
  obtain ⟨⟨p, c, q, e, h1, h2, h3⟩, h4, h5⟩ := h
  exact ⟨⟨p, c, q, e, h1, h2.below hb, h3.below hb⟩, h4, h5⟩
theorem DealIn.mk' {w : World} {sv wv : Value} {d : Deal} (hs : RowIn Seat.cells w sv d.seats) (hw : RowIn Seat.cells w wv d.waits) (h1 : d.seats.length ≤ 1000000) (h2 : d.waits.length ≤ 1000000) : DealIn w (.agg #[sv, wv]) d := by
  obtain ⟨p, c, rfl, _⟩ := hs.form
  obtain ⟨q, e, rfl, _⟩ := hw.form
  exact ⟨⟨p, c, q, e, rfl, hs, hw⟩, h1, h2⟩
def sameD (a b : Deal) : Bool := decide (a.seats = b.seats) && decide (a.waits = b.waits)
theorem sameD_refl (a : Deal) : sameD a a = true := by simp [sameD]
set_option maxRecDepth 100000 in
theorem refSame_any (x y : Value) (a b : Deal) (w : World) (hx : DealIn w x a) (hy : DealIn w y b) :
    Calls Try.prog 12 #[x, y] w fun e w' => e = .returned (.bool (sameD a b)) ∧ RowKit.Below w.heap.size w w' := by
  obtain ⟨⟨p, c, q, e, rfl, h2, h3⟩, h4, h5⟩ := hx
  obtain ⟨⟨p', c', q', e', rfl, k2, k3⟩, k4, k5⟩ := hy
  have hb2 := (below_alloc1 w (.cells #[.slice p a.seats.length c, .slice q a.waits.length e] 35)).alloc (by simp) (.cells #[.slice p' b.seats.length c', .slice q' b.waits.length e'] 35)
  have t2 : ∀ j, ((w.alloc (.cells #[.slice p a.seats.length c, .slice q a.waits.length e] 35)).alloc (.cells #[.slice p' b.seats.length c', .slice q' b.waits.length e'] 35)).cell? ⟨w.heap.size, j, none⟩ = (#[.slice p a.seats.length c, .slice q a.waits.length e] : Array Value)[j]? := fun j => ((below_alloc1 (w.alloc (.cells #[.slice p a.seats.length c, .slice q a.waits.length e] 35)) _).cell (p := ⟨w.heap.size, j, none⟩) (by simp)).trans (Lib.cell_of_heap (heap_alloc_new w _) j)
  have t3 : ∀ j, ((w.alloc (.cells #[.slice p a.seats.length c, .slice q a.waits.length e] 35)).alloc (.cells #[.slice p' b.seats.length c', .slice q' b.waits.length e'] 35)).cell? ⟨w.heap.size + 1, j, none⟩ = (#[.slice p' b.seats.length c', .slice q' b.waits.length e'] : Array Value)[j]? := fun j => Lib.cell_of_heap (new_two w _ _) j
  have c1 := sameSeats_any _ _ a.seats b.seats _ (h2.below hb2) (k2.below hb2) h4 k4
  have HA := Lib.hid (h3.below hb2)
  have HB := Lib.hid (k3.below hb2)
  have l1 : w.heap.size + 1 < ((w.alloc (.cells #[.slice p a.seats.length c, .slice q a.waits.length e] 35)).alloc (.cells #[.slice p' b.seats.length c', .slice q' b.waits.length e'] 35)).heap.size := by simp
  clear h2 h3 k2 k3
  go_enter Try.func12, Try.ntmps12
  go_wp2_with fail
  generalize (w.alloc _).alloc _ = w2 at hb2 t2 t3 c1 HA HB l1 ⊢
  have HS := Lib.hid (show sameD a b = (decide (a.seats = b.seats) && decide (a.waits = b.waits)) from rfl)
  generalize decide (a.seats = b.seats) = t at c1 HS
  refine c1.mono ?_
  rintro _ w3 ⟨rfl, hb3⟩
  have hb := below_next hb2 hb3
  cases t
  · go_wp2_with fail
    go_ret
    exact ⟨ret_bool (by rw [HS.out]; rfl), hb⟩
  · have u2 : ∀ j, w3.cell? ⟨w.heap.size, j, none⟩ = (#[.slice p a.seats.length c, .slice q a.waits.length e] : Array Value)[j]? := fun j => (hb3.cell (p := ⟨w.heap.size, j, none⟩) (by show w.heap.size < w2.heap.size; omega)).trans (t2 j)
    have u3 : ∀ j, w3.cell? ⟨w.heap.size + 1, j, none⟩ = (#[.slice p' b.seats.length c', .slice q' b.waits.length e'] : Array Value)[j]? := fun j => (hb3.cell (p := ⟨w.heap.size + 1, j, none⟩) l1).trans (t3 j)
    have c2 := sameSeats_any _ _ a.waits b.waits w3 (HA.out.below hb3) (HB.out.below hb3) h5 k5
    clear c1 t2 t3 hb3
    go_wp2_with fail
    refine c2.mono ?_
    rintro _ w4 ⟨rfl, hb4⟩
    go_wp2_with fail
    go_ret
    exact ⟨ret_bool (by rw [HS.out]; rfl), below_next hb hb4⟩
end Go.Proofs.Ytjcogpalmgcpbaa
