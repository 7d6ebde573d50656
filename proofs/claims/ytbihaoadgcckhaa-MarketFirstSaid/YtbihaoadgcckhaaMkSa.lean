/- market.Same: whether two deals are equal. -/
import Derived.Test.YtbihaoadgcckhaaMkEq
namespace Go.Proofs.Ytbihaoadgcckhaa
open Go Go.Proofs Go.RowKit Go.Maps Go.Sort Go.Lib

/-- Two slices of seats side by side. -/
structure Pr where
  p : Option Addr
  c : Nat
  q : Option Addr
  e : Nat
  A : List Seat
  B : List Seat
def Pr.cells (z : Pr) : List Value := [.slice z.p z.A.length z.c, .slice z.q z.B.length z.e]
attribute [local go_sem] Pr.cells
structure PrOk (w : World) (z : Pr) : Prop where
  a : RowIn Seat.cells w (.slice z.p z.A.length z.c) z.A
  b : RowIn Seat.cells w (.slice z.q z.B.length z.e) z.B
  la : z.A.length ≤ 1000000
  lb : z.B.length ≤ 1000000
theorem PrOk.below {w w' : World} {z : Pr} (h : PrOk w z) (hb : RowKit.Below w.heap.size w w') : PrOk w' z := ⟨h.a.below hb, h.b.below hb, h.la, h.lb⟩
theorem both1_any (z : Pr) (w : World) (h : PrOk w z) :
    Calls Try.prog 53 #[.agg #[.slice z.p z.A.length z.c, .slice z.q z.B.length z.e]] w fun e w' => e = .returned (.bool (!decide (z.A = z.B))) ∧ RowKit.Below w.heap.size w w' := by
  have hb := below_alloc1 w (.cells #[.slice z.p z.A.length z.c, .slice z.q z.B.length z.e] 88)
  have hc : ∀ j, (w.alloc (.cells #[.slice z.p z.A.length z.c, .slice z.q z.B.length z.e] 88)).cell? ⟨w.heap.size, j, none⟩ = (#[.slice z.p z.A.length z.c, .slice z.q z.B.length z.e] : Array Value)[j]? := fun j => Lib.cell_of_heap (heap_alloc_new w _) j
  have ce := equalSeats_any _ _ z.A z.B _ (h.a.below hb) (h.b.below hb) h.la h.lb
  go_enter Try.func53, Try.ntmps53
  go_wp2_with fail
  refine ce.mono ?_
  rintro _ w1 ⟨rfl, hb1⟩
  go_wp2_with fail
  go_ret
  exact ⟨rfl, below_next hb hb1⟩
set_option maxHeartbeats 1000000 in
set_option maxRecDepth 100000 in
theorem indexP_any (v : Value) (zs : List Pr) (w : World) (h : RowIn Pr.cells w v zs) (hz : ∀ z ∈ zs, PrOk w z) (hl : zs.length ≤ 1000) :
    Calls Try.prog 70 #[v, .func (.func 53) #[] #[]] w fun e w' => (∃ k : Int, e = .returned (.int .i64 k) ∧ decide (k ≥ 0) = zs.any fun z => !decide (z.A = z.B)) ∧ RowKit.Below w.heap.size w w' := by
  obtain ⟨q, c, rfl, _⟩ := h.form
  have H := Lib.hid h
  have HZ := Lib.hid hz
  clear h hz
  go_enter Try.func70, Try.ntmps70
  go_wp2_with fail
  go_loopw [8] (fun i wr => ∃ k : Nat, k ≤ zs.length ∧ i = .int .i64 k ∧ Hid (((zs.take k).any fun z => !decide (z.A = z.B)) = false) ∧ RowKit.Below w.heap.size w wr) (fun i _ => zs.length - (RowKit.intOf i).toNat)
  case atStart => exact ⟨0, Nat.zero_le _, rfl, Lib.hid rfl, Below.refl _ _⟩
  case round =>
    obtain ⟨k, hk, rfl, HK, hbr⟩ := hrel
    by_cases hlt : k < zs.length
    · obtain ⟨b, o, c', hv, _, hbl, hx⟩ := H.out.at_ (k := 2) (fun _ => rfl) (by omega)
      have e1 := (Value.slice.inj hv).1
      subst e1
      have hz := List.getElem?_eq_getElem hlt
      have hat := hx k _ hz
      have HN := Lib.hid (take_one hz)
      have HM := Lib.hid (List.mem_of_getElem? hz)
      generalize zs[k] = z at hz hat HN HM
      have cp := both1_any z wr ((HZ.out z HM.out).below hbr)
      have h0 : wr.cell? ⟨b, o + k * 2, none⟩ = some (.slice z.p z.A.length z.c) := by rw [hbr.cell (p := ⟨b, o + k * 2, none⟩) hbl]; exact hat 0 _ rfl
      have h1 : wr.cell? ⟨b, o + k * 2 + 1, none⟩ = some (.slice z.q z.B.length z.e) := by rw [hbr.cell (p := ⟨b, o + k * 2 + 1, none⟩) hbl]; exact hat 1 _ rfl
      obtain ⟨G, hG⟩ : ∃ G, (!decide (z.A = z.B)) = G := ⟨_, rfl⟩
      have HG := Lib.hid hG
      rw [hG] at cp
      clear hv hx hz hat hG
      go_wp2_with fail
      refine cp.mono ?_
      rintro _ w1 ⟨rfl, hb1⟩
      have hb2 := below_next hbr hb1
      cases G
      · go_wp2_with fail
        go_roundw
        case rel => exact ⟨k + 1, by omega, by go_num, Lib.hid (by rw [HN.out, List.any_append, HK.out]; simpa using HG.out), hb2⟩
        case measure => simp [RowKit.intOf]; omega
      · go_wp2_with fail
        go_ret
        refine ⟨⟨k, rfl, ?_⟩, hb2⟩
        rw [decide_eq_true (by omega), eq_comm, List.any_eq_true]
        exact ⟨z, HM.out, HG.out⟩
    · obtain rfl : k = zs.length := by omega
      have hk2 := HK.out
      rw [List.take_length] at hk2
      go_wp2_with fail
      go_ret
      exact ⟨⟨-1, rfl, by rw [hk2]; rfl⟩, hbr⟩
theorem containsP_any (v : Value) (zs : List Pr) (w : World) (h : RowIn Pr.cells w v zs) (hz : ∀ z ∈ zs, PrOk w z) (hl : zs.length ≤ 1000) :
    Calls Try.prog 52 #[v, .func (.func 53) #[] #[]] w fun e w' => e = .returned (.bool (zs.any fun z => !decide (z.A = z.B))) ∧ RowKit.Below w.heap.size w w' := by
  go_enter Try.func52, Try.ntmps52
  go_wp2_with fail
  refine (indexP_any v zs w h hz hl).mono ?_
  rintro _ w1 ⟨⟨k, rfl, hk⟩, hb⟩
  go_wp2_with fail
  go_ret
  exact ⟨rfl, hb⟩
theorem bothP_any (v : Value) (zs : List Pr) (w : World) (h : RowIn Pr.cells w v zs) (hz : ∀ z ∈ zs, PrOk w z) (hl : zs.length ≤ 1000) :
    Calls Try.prog 38 #[v] w fun e w' => e = .returned (.bool (!zs.any fun z => !decide (z.A = z.B))) ∧ RowKit.Below w.heap.size w w' := by
  go_enter Try.func38, Try.ntmps38
  go_wp2_with fail
  refine (containsP_any v zs w h hz hl).mono ?_
  rintro _ w1 ⟨rfl, hb⟩
  go_wp2_with fail
  go_ret
  exact ⟨rfl, hb⟩
set_option maxRecDepth 100000 in
theorem same_deal_any (x y : Value) (a b : Deal) (w : World) (hx : DealIn w x a) (hy : DealIn w y b) :
    Calls Try.prog 16 #[x, y] w fun e w' => e = .returned (.bool (sameD a b)) ∧ RowKit.Below w.heap.size w w' := by
  obtain ⟨⟨p, c, q, e, rfl, h2, h3⟩, h4, h5⟩ := hx
  obtain ⟨⟨p', c', q', e', rfl, k2, k3⟩, k4, k5⟩ := hy
  have hb2 := (below_alloc1 w (.cells #[.slice p a.seats.length c, .slice q a.waits.length e] 37)).alloc (by simp) (.cells #[.slice p' b.seats.length c', .slice q' b.waits.length e'] 37)
  have t2 : ∀ j, ((w.alloc (.cells #[.slice p a.seats.length c, .slice q a.waits.length e] 37)).alloc (.cells #[.slice p' b.seats.length c', .slice q' b.waits.length e'] 37)).cell? ⟨w.heap.size, j, none⟩ = (#[.slice p a.seats.length c, .slice q a.waits.length e] : Array Value)[j]? := fun j => ((below_alloc1 (w.alloc (.cells #[.slice p a.seats.length c, .slice q a.waits.length e] 37)) _).cell (p := ⟨w.heap.size, j, none⟩) (by simp)).trans (Lib.cell_of_heap (heap_alloc_new w _) j)
  have t3 : ∀ j, ((w.alloc (.cells #[.slice p a.seats.length c, .slice q a.waits.length e] 37)).alloc (.cells #[.slice p' b.seats.length c', .slice q' b.waits.length e'] 37)).cell? ⟨w.heap.size + 1, j, none⟩ = (#[.slice p' b.seats.length c', .slice q' b.waits.length e'] : Array Value)[j]? := fun j => Lib.cell_of_heap (new_two w _ _) j
  have HO : Hid (PrOk w ⟨p, c, p', c', a.seats, b.seats⟩ ∧ PrOk w ⟨q, e, q', e', a.waits, b.waits⟩) := Lib.hid ⟨⟨h2, k2, h4, k4⟩, ⟨h3, k3, h5, k5⟩⟩
  clear h2 h3 k2 k3
  go_enter Try.func16, Try.ntmps16
  go_wp2_with fail
  have hsz : ((w.alloc (.cells #[.slice p a.seats.length c, .slice q a.waits.length e] 37)).alloc (.cells #[.slice p' b.seats.length c', .slice q' b.waits.length e'] 37)).heap.size = w.heap.size + 1 + 1 := by simp
  generalize (w.alloc _).alloc _ = w2 at hb2 t2 t3 hsz ⊢
  have hlit := rowIn_lit (enc := Pr.cells) (e := 88) w2 [⟨p, c, p', c', a.seats, b.seats⟩, ⟨q, e, q', e', a.waits, b.waits⟩] #[.slice p a.seats.length c, .slice p' b.seats.length c', .slice q a.waits.length e, .slice q' b.waits.length e'] (w.heap.size + 1 + 1) hsz rfl 2 rfl
  have hb3 := below_alloc1 w2 (.cells #[.slice p a.seats.length c, .slice p' b.seats.length c', .slice q a.waits.length e, .slice q' b.waits.length e'] 88)
  have hb4 := below_next hb2 hb3
  refine (bothP_any _ _ _ hlit (fun z hz => by
    simp only [List.mem_cons, List.not_mem_nil, or_false] at hz
    rcases hz with rfl | rfl
    · exact HO.out.1.below hb4
    · exact HO.out.2.below hb4) (by simp)).mono ?_
  rintro _ w5 ⟨rfl, hb5⟩
  go_wp2_with fail
  go_ret
  exact ⟨ret_bool (by simp [sameD]), below_next hb4 hb5⟩
end Go.Proofs.Ytbihaoadgcckhaa
