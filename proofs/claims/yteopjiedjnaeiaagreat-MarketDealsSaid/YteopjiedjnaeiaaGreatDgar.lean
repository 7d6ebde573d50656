/- quadriviumlaw28.deals: an example of the chapter. -/
import Derived.Test.YteopjiedjnaeiaaGreatDgaq
/- Equality of lists of seats and of deals. -/
namespace Go.Proofs.YteopjiedjnaeiaaGreat
open Go Go.Proofs Go.RowKit Go.Maps Go.Sort Go.Lib
attribute [local go_sem] Seat.cells
attribute [local go_sem ↓] seat_eql seat_neq

set_option maxHeartbeats 1000000 in
theorem sameSeats_any (a b : Value) (A B : List Seat) (w : World) (ha : RowIn Seat.cells w a A) (hb : RowIn Seat.cells w b B) (lA : A.length ≤ 1000000) (lB : B.length ≤ 1000000) :
    Calls Tryz.prog 17 #[a, b] w fun e w' => e = .returned (.bool (decide (A = B))) ∧ RowKit.Below w.heap.size w w' := by
  obtain ⟨p1, c1, rfl, _⟩ := ha.form
  obtain ⟨p2, c2, rfl, _⟩ := hb.form
  have HA := Lib.hid ha
  have HB := Lib.hid hb
  clear ha hb
  by_cases hlen : A.length = B.length
  · have hL := Lib.hid hlen
    have hne : ((A.length : Int) != (B.length : Int)) = false := by simp [hlen]
    clear hlen
    go_enter Tryz.func17, Tryz.ntmps17
    go_wp2_with fail
    go_loopw [5] (fun i wr => ∃ k : Nat, k ≤ A.length ∧ i = .int .i64 k ∧ Hid (A.take k = B.take k) ∧ RowKit.Below w.heap.size w wr) (fun i _ => A.length - (RowKit.intOf i).toNat)
    case atStart => exact ⟨0, Nat.zero_le _, rfl, Lib.hid rfl, Below.refl _ _⟩
    case round =>
      obtain ⟨k, hk, rfl, HK, hbr⟩ := hrel
      by_cases hlt : k < A.length
      · have hlt2 : k < B.length := by have := hL.out; omega
        obtain ⟨g, o, c', hv, _, hgl, hx⟩ := HA.out.at_ (k := 2) (fun _ => rfl) (by omega)
        have e1 := (Value.slice.inj hv).1
        subst e1
        obtain ⟨g2, o2, c2', hv2, _, hgl2, hx2⟩ := HB.out.at_ (k := 2) (fun _ => rfl) (by omega)
        have e2 := (Value.slice.inj hv2).1
        subst e2
        have hz := List.getElem?_eq_getElem hlt
        have hz2 := List.getElem?_eq_getElem hlt2
        have hat := hx k _ hz
        have hat2 := hx2 k _ hz2
        have HT := Lib.hid (take_one hz)
        have HT2 := Lib.hid (take_one hz2)
        have HI := Lib.hid (show A = B → A[k] = B[k] from fun e => by subst e; rfl)
        generalize A[k] = x at hz hat HT HI
        generalize B[k] = y at hz2 hat2 HT2 HI
        have x0 : wr.cell? ⟨g, o + k * 2, none⟩ = some (.int .i64 x.student) := by rw [hbr.cell (p := ⟨g, o + k * 2, none⟩) hgl]; exact hat 0 _ rfl
        have x1 : wr.cell? ⟨g, o + k * 2 + 1, none⟩ = some (.string x.code) := by rw [hbr.cell (p := ⟨g, o + k * 2 + 1, none⟩) hgl]; exact hat 1 _ rfl
        have y0 : wr.cell? ⟨g2, o2 + k * 2, none⟩ = some (.int .i64 y.student) := by rw [hbr.cell (p := ⟨g2, o2 + k * 2, none⟩) hgl2]; exact hat2 0 _ rfl
        have y1 : wr.cell? ⟨g2, o2 + k * 2 + 1, none⟩ = some (.string y.code) := by rw [hbr.cell (p := ⟨g2, o2 + k * 2 + 1, none⟩) hgl2]; exact hat2 1 _ rfl
        have hG : ∃ G, eqSeat ⟨x.student, x.code⟩ ⟨y.student, y.code⟩ = G := ⟨_, rfl⟩
        obtain ⟨G, hG⟩ := hG
        have HG : Hid (eqSeat x y = G) := Lib.hid hG
        have hln : (k : Int) < (B.length : Int) := by omega
        clear hv hx hz hat hv2 hx2 hz2 hat2
        cases G
        · go_wp2_with fail
          go_quiet (fail)
          go_wp2_with fail
          go_ret
          refine ⟨ret_bool ?_, blw_drewN hbr _⟩
          rw [eq_comm, decide_eq_false_iff_not]
          intro e
          have := HI.out e
          rw [(eqSeat_iff x y).2 this] at HG
          cases HG.out
        · go_wp2_with fail
          go_quiet (fail)
          go_wp2_with fail
          go_roundw
          case rel => exact ⟨k + 1, by omega, by go_num, Lib.hid (by rw [HT.out, HT2.out, HK.out, (eqSeat_iff x y).1 HG.out]), blw_drewN hbr _⟩
          case measure => simp [RowKit.intOf]; omega
      · obtain rfl : k = A.length := by omega
        have hk2 := HK.out
        rw [List.take_length, hL.out, List.take_length] at hk2
        go_wp2_with fail
        go_ret
        exact ⟨ret_bool (by rw [decide_eq_true hk2]), hbr⟩
  · have hne : ((A.length : Int) != (B.length : Int)) = true := by simp; omega
    have HN := Lib.hid hlen
    clear hlen
    go_enter Tryz.func17, Tryz.ntmps17
    go_wp2_with fail
    go_ret
    exact ⟨ret_bool (by rw [eq_comm, decide_eq_false_iff_not]; intro e; exact HN.out (by rw [e])), Below.refl _ _⟩










































































set_option maxHeartbeats 1000000 in
theorem hasSeat_any (v : Value) (l : List Seat) (s : Seat) (w : World) (h : RowIn Seat.cells w v l) (hl : l.length ≤ 1000000) :
    Calls Tryz.prog 30 #[v, .agg #[.int .i64 s.student, .string s.code]] w fun e w' => e = .returned (.bool (decide (s ∈ l))) ∧ RowKit.Below w.heap.size w w' := by
  obtain ⟨q, c, rfl, _⟩ := h.form
  have hb0 : RowKit.Below w.heap.size w (w.alloc (.cells s.cells.toArray 53)) := below_alloc1 _ _
  have H := Lib.hid h
  have hc0 : ∀ j, (w.alloc (.cells s.cells.toArray 53)).cell? ⟨w.heap.size, j, none⟩ = s.cells.toArray[j]? := fun j => Lib.cell_of_heap (heap_alloc_new w _) j
  clear h
  go_enter Tryz.func30, Tryz.ntmps30
  simp only [Seat.cells] at hb0 hc0
  go_wp2_with fail
  generalize w.alloc _ = w0 at hb0 hc0 ⊢
  go_loopw [5] (fun i wr => ∃ k : Nat, k ≤ l.length ∧ i = .int .i64 k ∧ Hid (s ∉ l.take k) ∧ RowKit.Below w.heap.size w wr ∧ (∀ j, wr.cell? ⟨w.heap.size, j, none⟩ = (#[.int .i64 s.student, .string s.code] : Array Value)[j]?)) (fun i _ => l.length - (RowKit.intOf i).toNat)
  case atStart => exact ⟨0, Nat.zero_le _, rfl, Lib.hid (by simp), hb0, hc0⟩
  case round =>
    clear hb0 hc0
    obtain ⟨k, hk, rfl, HK, hb0, hc0⟩ := hrel
    by_cases hlt : k < l.length
    · obtain ⟨b, o, c', hv, _, hbl, hx⟩ := H.out.at_ (k := 2) (fun _ => rfl) (by omega)
      have e1 := (Value.slice.inj hv).1
      subst e1
      have hz := List.getElem?_eq_getElem hlt
      have hat := hx k _ hz
      generalize l[k] = x at hz hat
      have h0 : wr.cell? ⟨b, o + k * 2, none⟩ = some (.int .i64 x.student) := by rw [hb0.cell (p := ⟨b, o + k * 2, none⟩) hbl]; exact hat 0 _ rfl
      have h1 : wr.cell? ⟨b, o + k * 2 + 1, none⟩ = some (.string x.code) := by rw [hb0.cell (p := ⟨b, o + k * 2 + 1, none⟩) hbl]; exact hat 1 _ rfl
      have HZ := Lib.hid hz
      clear hv hx hz hat
      obtain ⟨G, hG⟩ : ∃ G, eqSeat ⟨x.student, x.code⟩ ⟨s.student, s.code⟩ = G := ⟨_, rfl⟩
      have HG : Hid (eqSeat x s = G) := Lib.hid hG
      cases G
      · go_wp2_with fail
        go_quiet (fail)
        go_wp2_with fail
        go_roundw
        case rel => exact ⟨k + 1, by omega, by go_num, Lib.hid (not_take HZ.out HK.out (by rw [Bool.eq_false_iff]; intro e; have := (eqSeat_iff s x).1 e; subst this; rw [(eqSeat_iff s s).2 rfl] at HG; cases HG.out)), blw_drewN hb0 _, hc0⟩
        case measure => simp [RowKit.intOf]; omega
      · go_wp2_with fail
        go_quiet (fail)
        go_wp2_with fail
        go_ret
        exact ⟨ret_bool (by rw [eq_comm, decide_eq_true_eq, ← (eqSeat_iff x s).1 HG.out]; exact List.mem_of_getElem? HZ.out), blw_drewN hb0 _⟩
    · obtain rfl : k = l.length := by omega
      have hk2 := HK.out
      rw [List.take_length] at hk2
      go_wp2_with fail
      go_ret
      exact ⟨ret_bool (by rw [decide_eq_false hk2]), hb0⟩
/-- A deal as a value. -/
structure DealIn (w : World) (v : Value) (d : Deal) : Prop where
  val : ∃ p c q e, v = .agg #[.slice p d.seats.length c, .slice q d.waits.length e] ∧ RowIn Seat.cells w (.slice p d.seats.length c) d.seats ∧ RowIn Seat.cells w (.slice q d.waits.length e) d.waits
  ls : d.seats.length ≤ 1000000
  lw : d.waits.length ≤ 1000000
theorem DealIn.below {w w' : World} {v : Value} {d : Deal} (h : DealIn w v d) (hb : RowKit.Below w.heap.size w w') : DealIn w' v d := by
  obtain ⟨⟨p, c, q, e, h1, h2, h3⟩, h4, h5⟩ := h
  exact ⟨⟨p, c, q, e, h1, h2.below hb, h3.below hb⟩, h4, h5⟩
theorem DealIn.mk' {w : World} {sv wv : Value} {d : Deal} (hs : RowIn Seat.cells w sv d.seats) (hw : RowIn Seat.cells w wv d.waits) (h1 : d.seats.length ≤ 1000000) (h2 : d.waits.length ≤ 1000000) : DealIn w (.agg #[sv, wv]) d := by
  obtain ⟨p, c, rfl, _⟩ := hs.form
  obtain ⟨q, e, rfl, _⟩ := hw.form
  exact ⟨⟨p, c, q, e, rfl, hs, hw⟩, h1, h2⟩
def sameD (a b : Deal) : Bool := decide (a.seats = b.seats) && decide (a.waits = b.waits)
theorem sameD_refl (a : Deal) : sameD a a = true := by simp [sameD]
set_option maxRecDepth 100000 in
theorem refSame_any (x y : Value) (a b : Deal) (w : World) (hx : DealIn w x a) (hy : DealIn w y b) :
    Calls Tryz.prog 9 #[x, y] w fun e w' => e = .returned (.bool (sameD a b)) ∧ RowKit.Below w.heap.size w w' := by
  obtain ⟨⟨p, c, q, e, rfl, h2, h3⟩, h4, h5⟩ := hx
  obtain ⟨⟨p', c', q', e', rfl, k2, k3⟩, k4, k5⟩ := hy
  have hb2 := (below_alloc1 w (.cells #[.slice p a.seats.length c, .slice q a.waits.length e] 45)).alloc (by simp) (.cells #[.slice p' b.seats.length c', .slice q' b.waits.length e'] 45)
  have t2 : ∀ j, ((w.alloc (.cells #[.slice p a.seats.length c, .slice q a.waits.length e] 45)).alloc (.cells #[.slice p' b.seats.length c', .slice q' b.waits.length e'] 45)).cell? ⟨w.heap.size, j, none⟩ = (#[.slice p a.seats.length c, .slice q a.waits.length e] : Array Value)[j]? := fun j => ((below_alloc1 (w.alloc (.cells #[.slice p a.seats.length c, .slice q a.waits.length e] 45)) _).cell (p := ⟨w.heap.size, j, none⟩) (by simp)).trans (Lib.cell_of_heap (heap_alloc_new w _) j)
  have t3 : ∀ j, ((w.alloc (.cells #[.slice p a.seats.length c, .slice q a.waits.length e] 45)).alloc (.cells #[.slice p' b.seats.length c', .slice q' b.waits.length e'] 45)).cell? ⟨w.heap.size + 1, j, none⟩ = (#[.slice p' b.seats.length c', .slice q' b.waits.length e'] : Array Value)[j]? := fun j => Lib.cell_of_heap (new_two w _ _) j
  have c1 := sameSeats_any _ _ a.seats b.seats _ (h2.below hb2) (k2.below hb2) h4 k4
  have HA := Lib.hid (h3.below hb2)
  have HB := Lib.hid (k3.below hb2)
  have l1 : w.heap.size + 1 < ((w.alloc (.cells #[.slice p a.seats.length c, .slice q a.waits.length e] 45)).alloc (.cells #[.slice p' b.seats.length c', .slice q' b.waits.length e'] 45)).heap.size := by simp
  clear h2 h3 k2 k3
  go_enter Tryz.func9, Tryz.ntmps9
  go_wp2_with fail
  generalize (w.alloc _).alloc _ = w2 at hb2 t2 t3 c1 HA HB l1 ⊢
  have HS := Lib.hid (show sameD a b = (decide (a.seats = b.seats) && decide (a.waits = b.waits)) from rfl)
  generalize decide (a.seats = b.seats) = t at c1 HS
  refine c1.mono ?_
  rintro _ w3 ⟨rfl, hb3⟩
  have hb := below_next hb2 hb3
  cases t
  · go_wp2_with fail
    go_ret
    exact ⟨ret_bool (by rw [HS.out]; rfl), hb⟩
  · have u2 : ∀ j, w3.cell? ⟨w.heap.size, j, none⟩ = (#[.slice p a.seats.length c, .slice q a.waits.length e] : Array Value)[j]? := fun j => (hb3.cell (p := ⟨w.heap.size, j, none⟩) (by show w.heap.size < w2.heap.size; omega)).trans (t2 j)
    have u3 : ∀ j, w3.cell? ⟨w.heap.size + 1, j, none⟩ = (#[.slice p' b.seats.length c', .slice q' b.waits.length e'] : Array Value)[j]? := fun j => (hb3.cell (p := ⟨w.heap.size + 1, j, none⟩) l1).trans (t3 j)
    have c2 := sameSeats_any _ _ a.waits b.waits w3 (HA.out.below hb3) (HB.out.below hb3) h5 k5
    clear c1 t2 t3 hb3
    go_wp2_with fail
    refine c2.mono ?_
    rintro _ w4 ⟨rfl, hb4⟩
    go_wp2_with fail
    go_ret
    exact ⟨ret_bool (by rw [HS.out]; rfl), below_next hb hb4⟩
end Go.Proofs.YteopjiedjnaeiaaGreat
/- market.Same: whether two deals are equal. -/
namespace Go.Proofs.YteopjiedjnaeiaaGreat
open Go Go.Proofs Go.RowKit Go.Maps Go.Sort Go.Lib

/-- Two slices of seats side by side. -/
structure Pr where
  p : Option Addr
  c : Nat
  q : Option Addr
  e : Nat
  A : List Seat
  B : List Seat
def Pr.cells (z : Pr) : List Value := [.slice z.p z.A.length z.c, .slice z.q z.B.length z.e]
attribute [local go_sem] Pr.cells
structure PrOk (w : World) (z : Pr) : Prop where
  a : RowIn Seat.cells w (.slice z.p z.A.length z.c) z.A
  b : RowIn Seat.cells w (.slice z.q z.B.length z.e) z.B
  la : z.A.length ≤ 1000000
  lb : z.B.length ≤ 1000000
theorem PrOk.below {w w' : World} {z : Pr} (h : PrOk w z) (hb : RowKit.Below w.heap.size w w') : PrOk w' z := ⟨h.a.below hb, h.b.below hb, h.la, h.lb⟩










































































































end Go.Proofs.YteopjiedjnaeiaaGreat
/- quadriviumref28.Met: who has met what. -/
namespace Go.Proofs.YteopjiedjnaeiaaGreat
open Go Go.Proofs Go.RowKit Go.Maps Go.Sort Go.Lib
attribute [local go_sem] Seat.cells

/-- All seats of the students 1 to 5. -/
def metAll : List Seat := [1, 2, 3, 4, 5].flatMap fun s => codesL.map fun c => ⟨s, c⟩
def MetOk (bits : Int) (j : Nat) (M : List Seat) : Prop := M.length ≤ j ∧ (∀ s ∈ M, s.wf) ∧ (bits = 0 → M = metAll.take j)
theorem metAll_at {s k : Nat} (h1 : 1 ≤ s) (h5 : s ≤ 5) (hk : k < 6) {c : ByteArray} (hc : codesL[k]? = some c) : metAll[6 * (s - 1) + k]? = some ⟨s, c⟩ := by
  have hs : s = 1 ∨ s = 2 ∨ s = 3 ∨ s = 4 ∨ s = 5 := by omega
  have hkk : k = 0 ∨ k = 1 ∨ k = 2 ∨ k = 3 ∨ k = 4 ∨ k = 5 := by omega
  rcases hs with rfl | rfl | rfl | rfl | rfl <;> rcases hkk with rfl | rfl | rfl | rfl | rfl | rfl <;> (simp only [codesL] at hc; injection hc with hc; subst hc; rfl)
theorem MetOk.yes {bits : Int} {s k : Nat} {M : List Seat} {c : ByteArray} (h : MetOk bits (6 * (s - 1) + k) M) (h1 : 1 ≤ s) (h5 : s ≤ 5) (hk : k < 6) (hc : codesL[k]? = some c) : MetOk bits (6 * (s - 1) + (k + 1)) (M ++ [⟨s, c⟩]) := by
  have hcl : c.size ≤ 2 := by
    have hkk : k = 0 ∨ k = 1 ∨ k = 2 ∨ k = 3 ∨ k = 4 ∨ k = 5 := by omega
    rcases hkk with rfl | rfl | rfl | rfl | rfl | rfl <;> (simp only [codesL] at hc; injection hc with hc; subst hc; decide)
  refine ⟨by simp; have := h.1; omega, fun x hx => ?_, fun hb => ?_⟩
  · rw [List.mem_append, List.mem_singleton] at hx
    rcases hx with hx | rfl
    · exact h.2.1 x hx
    · refine ⟨?_, by unfold maxLen; show c.size ≤ _; omega⟩
      have hs : s = 1 ∨ s = 2 ∨ s = 3 ∨ s = 4 ∨ s = 5 := by omega
      rcases hs with rfl | rfl | rfl | rfl | rfl <;> rfl
  · rw [h.2.2 hb, show 6 * (s - 1) + (k + 1) = 6 * (s - 1) + k + 1 by omega, take_one (metAll_at h1 h5 hk hc)]
theorem MetOk.no {bits : Int} {j : Nat} {M : List Seat} (h : MetOk bits j M) (hb : bits ≠ 0) : MetOk bits (j + 1) M := ⟨by have := h.1; omega, h.2.1, fun e => absurd e hb⟩
def MetSt (bits : Int) (w1 : World) (j : Nat) (v : Value) (wr : World) : Prop := ∃ (M : List Seat) (p : Option Addr) (c : Nat), v = .slice p M.length c ∧ MetOk bits j M ∧ wr.ownsRow w1.heap.size 53 2 (.slice p M.length c) M.length (flatE Seat.cells M) ∧ RowKit.Below w1.heap.size w1 wr
set_option maxHeartbeats 4000000 in
set_option maxRecDepth 100000 in
theorem met_any (bits : Int) (w : World) (h0 : 0 ≤ bits) (h1 : bits ≤ 4294967295) :
    Calls Tryz.prog 15 #[.int .i64 bits] w fun e w' => ∃ v M, e = .returned v ∧ w'.ownsRow w.heap.size 53 2 v M.length (flatE Seat.cells M) ∧ MetOk bits 30 M ∧ RowKit.Below w.heap.size w w' := by
  go_enter Tryz.func15, Tryz.ntmps15
  go_wp2_with fail
  refine (codes_any w).mono ?_
  rintro _ w1 ⟨rfl, hw1⟩
  have hb1 : RowKit.Below w.heap.size w w1 := by rw [hw1]; exact below_alloc1 _ _
  have hcod : w1.heap[w.heap.size]? = some (.cells #[.string ⟨#[65, 49]⟩, .string ⟨#[66, 49]⟩, .string ⟨#[66, 50]⟩, .string ⟨#[67, 49]⟩, .string ⟨#[68, 49]⟩, .string ⟨#[69, 57]⟩] 9 (0, 0)) := by rw [hw1]; exact heap_alloc_new _ _
  have hl1 := (Array.getElem?_eq_some_iff.1 hcod).1
  have HCOD := Lib.hid hcod
  clear hw1 hcod
  go_wp2_with fail
  go_loopw [3, 5] (fun v i wr => ∃ s : Nat, 1 ≤ s ∧ s ≤ 6 ∧ i = .int .i64 s ∧ MetSt bits w1 (6 * (s - 1)) v wr) (fun _ i _ => 6 - (RowKit.intOf i).toNat)
  case atStart => exact ⟨1, by omega, by omega, rfl, [], none, 0, rfl, ⟨Nat.le_refl _, (fun s h => (by cases h)), fun _ => rfl⟩, World.ownsRow_nil _ _ _ _, Below.refl _ _⟩
  case round =>
    obtain ⟨s, hs1, hs6, rfl, hst⟩ := hrel
    by_cases hlt : s ≤ 5
    · have hs5 : decide ((s : Int) ≤ 5) = true := decide_eq_true (by omega)
      have HST := Lib.hid hst
      obtain ⟨M0, p0, c0, rfl, _⟩ := hst
      go_wp2_with fail
      go_loopw [3, 6] (fun v i wr => ∃ k : Nat, k ≤ 6 ∧ i = .int .i64 k ∧ MetSt bits w1 (6 * (s - 1) + k) v wr) (fun _ i _ => 6 - (RowKit.intOf i).toNat)
      case atStart => exact ⟨0, by omega, rfl, HST.out⟩
      case round =>
        clear HST
        obtain ⟨k, hk, rfl, M, p, c, rfl, hm, ho, hbr⟩ := hrel
        have HM := Lib.hid hm
        have HO := Lib.hid ho
        clear hm ho
        by_cases hlk : k < 6
        · have hk6 : decide ((k : Int) < 6) = true := decide_eq_true (by omega)
          obtain ⟨cc, hcc⟩ : ∃ cc, codesL[k]? = some cc := ⟨_, List.getElem?_eq_getElem (by show k < 6; omega)⟩
          have hcell : wr.cell? ⟨w.heap.size, k, none⟩ = some (.string cc) := by
            rw [hbr.cell (p := ⟨w.heap.size, k, none⟩) hl1, Lib.cell_of_heap HCOD.out]
            have hkk : k = 0 ∨ k = 1 ∨ k = 2 ∨ k = 3 ∨ k = 4 ∨ k = 5 := by omega
            rcases hkk with rfl | rfl | rfl | rfl | rfl | rfl <;> (simp only [codesL] at hcc; injection hcc with hcc; subst hcc; rfl)
          have HC := Lib.hid hcc
          clear hcc
          have a1 : IntKind.i64.wrap (6 * (s : Int)) = ((6 * s : Nat) : Int) := by rw [IntWalk.i64_in _ (by omega)]; omega
          have a2 : IntKind.i64.wrap (((6 * s : Nat) : Int) + k) = ((6 * s + k : Nat) : Int) := by rw [IntWalk.i64_in _ (by omega)]; omega
          have a3 : IntKind.i64.wrap (((6 * s + k : Nat) : Int) - 6) = ((6 * s + k - 6 : Nat) : Int) := by rw [IntWalk.i64_in _ (by omega)]; omega
          obtain ⟨X, hX⟩ : ∃ X, Go.bits BinOp.and IntKind.i64 (bits / 2 ^ (6 * s + k - 6)) 1 = X := ⟨_, rfl⟩
          have HX : Hid (bits = 0 → X = 0) := Lib.hid fun e => by subst e; rw [← hX, Int.zero_ediv]; rfl
          have a4 : IntKind.i64.wrap ((s : Int) + k) = ((s + k : Nat) : Int) := by rw [IntWalk.i64_in _ (by omega)]; omega
          have hown9 : (wr.alloc (.cells #[.int .i64 s, .string cc] 53)).ownsRow w1.heap.size 53 2 (.slice p M.length c) M.length (flatE Seat.cells M) := HO.out.alloc _
          have hlit := rowIn_lit (enc := Seat.cells) (e := 53) wr [⟨s, cc⟩] #[.int .i64 s, .string cc] wr.heap.size rfl rfl 1 rfl
          have hb9 := hbr.alloc hbr.size (.cells #[.int .i64 s, .string cc] 53)
          have hMl := HM.out.1
          by_cases h0X : X = 0
          · subst h0X
            have HM2 := Lib.hid (HM.out.yes hs1 hlt hlk HC.out)
            go_wp2_with (at_builtin; refine wpList_append_row seatT rfl (.tmp 34) (.tmp 41) rfl w1.heap.size _ _ M [⟨s, cc⟩] rfl rfl hown9 hlit (by simp; omega) hb9.size ?_; intro v9 w9 hA9; obtain ⟨p9, c9, rfl⟩ := own_form hA9.own)
            have hbF := hb9.grown hA9.grown hb9.size (fun q hq => (own_lo hown9 hq).1)
            have hoF := hA9.own
            simp only [List.length_append, List.length_singleton] at hoF
            go_roundw
            case rel => exact ⟨k + 1, by omega, by go_num, M ++ [⟨s, cc⟩], p9, c9, by simp, HM2.out, by simpa using hoF, hbF⟩
            case measure => simp [RowKit.intOf]; omega
          · have hX0 : (X == 0) = false := by simpa using h0X
            have HMN := Lib.hid (HM.out.no (fun e => h0X (HX.out e)))
            have HMY := Lib.hid (HM.out.yes hs1 hlt hlk HC.out)
            clear h0X
            by_cases h3 : 0 < ((s : Int) + k) % 3
            · have h3' : decide (0 < ((s : Int) + k) % 3) = true := decide_eq_true h3
              clear h3
              go_wp2_with (at_builtin; refine wpList_append_row seatT rfl (.tmp 34) (.tmp 41) rfl w1.heap.size _ _ M [⟨s, cc⟩] rfl rfl hown9 hlit (by simp; omega) hb9.size ?_; intro v9 w9 hA9; obtain ⟨p9, c9, rfl⟩ := own_form hA9.own)
              have hbF := hb9.grown hA9.grown hb9.size (fun q hq => (own_lo hown9 hq).1)
              have hoF := hA9.own
              simp only [List.length_append, List.length_singleton] at hoF
              go_roundw
              case rel => exact ⟨k + 1, by omega, by go_num, M ++ [⟨s, cc⟩], p9, c9, by simp, HMY.out, by simpa using hoF, hbF⟩
              case measure => simp [RowKit.intOf]; omega
            · have h3' : decide (0 < ((s : Int) + k) % 3) = false := decide_eq_false h3
              clear h3
              go_wp2_with fail
              go_roundw
              case rel => exact ⟨k + 1, by omega, by go_num, M, p, c, rfl, HMN.out, HO.out, hbr⟩
              case measure => simp [RowKit.intOf]; omega
        · obtain rfl : k = 6 := by omega
          go_wp2_with fail
          go_roundw
          case rel => exact ⟨s + 1, by omega, by omega, by go_num, M, p, c, rfl, by rw [show 6 * (s + 1 - 1) = 6 * (s - 1) + 6 by omega]; exact HM.out, HO.out, hbr⟩
          case measure => simp [RowKit.intOf]; omega
    · obtain rfl : s = 6 := by omega
      obtain ⟨M, p, c, rfl, hm, ho, hbr⟩ := hst
      have HM := Lib.hid hm
      have HO := Lib.hid ho
      clear hm ho
      go_wp2_with fail
      go_ret
      exact ⟨_, M, rfl, row_base HO.out hb1.size, HM.out, below_next hb1 hbr⟩
end Go.Proofs.YteopjiedjnaeiaaGreat
namespace Go.Proofs.YteopjiedjnaeiaaGreat
open Go Go.Proofs Go.RowKit Go.Maps Go.Sort Go.Lib
attribute [local go_sem] Seat.cells Req.cells

structure Asked where
  student : Int
  code : ByteArray
  give : ByteArray
  priority : Int
def Asked.cells (a : Asked) : List Value := [.int .i64 a.student, .string a.code, .string a.give, .int .i64 a.priority]
attribute [local go_sem] Asked.cells
def askR (k : Nat) (a : Asked) : Req := ⟨1, (k : Int) + 1, false, a.student, 4, a.code, a.give, a.priority, 400⟩
def asksR (l : List Asked) : List Req := l.mapIdx askR
theorem asksR_snoc (l : List Asked) (a : Asked) : asksR (l ++ [a]) = asksR l ++ [askR l.length a] := by
  unfold asksR; rw [List.mapIdx_append]; simp
/-- The catalog of the examples; x and y: where the lists of times lie. -/
def cat0 (x y : Nat) : List Off := [⟨⟨#[65, 49]⟩, 5, 1, some ⟨x, 0, none⟩, 1, none, 0, [1], []⟩, ⟨⟨#[66, 49]⟩, 6, 2, some ⟨y, 0, none⟩, 1, none, 0, [1], []⟩, ⟨⟨#[67, 49]⟩, 10, 9, none, 0, none, 0, [], []⟩]
theorem seat_any (s : Int) (c : ByteArray) (w : World) : Calls Tryz.prog 13 #[.int .i64 s, .string c] w fun e w' => e = .returned (.agg #[.int .i64 s, .string c]) ∧ RowKit.Below w.heap.size w w' := by
  go_enter Tryz.func13, Tryz.ntmps13
  go_wp2_with fail
  exact bodyPost_ret (v := .agg #[.int .i64 s, .string c]) (results_cell_row (P := Tryz.prog) Tryz.results13 _ _ w.heap.size 53 #[.int .i64 s, .string c] (0, 0) _ rfl (heap_alloc_new w _) Tryz.underlying53 rfl (by kernel_rfl)) rfl ⟨rfl, below_alloc1 _ _⟩
theorem cat0_in (w : World) (h : Nat) (hh : w.heap.size = h) (w3 : World) (h3 : w3 = ((w.alloc (.cells #[.int .i64 1] 3)).alloc (.cells #[.int .i64 1] 3)).alloc (.cells #[.string ⟨#[65, 49]⟩, .int .i64 5, .int .i64 1, .slice (some ⟨h, 0, none⟩) 1 1, .slice none 0 0, .string ⟨#[66, 49]⟩, .int .i64 6, .int .i64 2, .slice (some ⟨h + 1, 0, none⟩) 1 1, .slice none 0 0, .string ⟨#[67, 49]⟩, .int .i64 10, .int .i64 9, .slice none 0 0, .slice none 0 0] 57)) :
    RowIn Off.cells w3 (.slice (some ⟨h + 1 + 1, 0, none⟩) 3 3) (cat0 h (h + 1)) ∧ (∀ o ∈ cat0 h (h + 1), OffOk w3 o ∧ o.few) ∧ RowKit.Below w.heap.size w w3 := by
  have r1 := rowIn_lit (enc := encI) (e := 3) w [1] #[.int .i64 1] h hh rfl 1 rfl
  have r2 := rowIn_lit (enc := encI) (e := 3) (w.alloc (.cells #[.int .i64 1] 3)) [1] #[.int .i64 1] (h + 1) (by simp [hh]) rfl 1 rfl
  have b1 := below_alloc1 (w.alloc (.cells #[.int .i64 1] 3)) (.cells #[.int .i64 1] 3)
  have b2 := below_alloc1 ((w.alloc (.cells #[.int .i64 1] 3)).alloc (.cells #[.int .i64 1] 3)) (.cells #[.string ⟨#[65, 49]⟩, .int .i64 5, .int .i64 1, .slice (some ⟨h, 0, none⟩) 1 1, .slice none 0 0, .string ⟨#[66, 49]⟩, .int .i64 6, .int .i64 2, .slice (some ⟨h + 1, 0, none⟩) 1 1, .slice none 0 0, .string ⟨#[67, 49]⟩, .int .i64 10, .int .i64 9, .slice none 0 0, .slice none 0 0] 57)
  have r3 := rowIn_lit (enc := Off.cells) (e := 57) ((w.alloc (.cells #[.int .i64 1] 3)).alloc (.cells #[.int .i64 1] 3)) (cat0 h (h + 1)) #[.string ⟨#[65, 49]⟩, .int .i64 5, .int .i64 1, .slice (some ⟨h, 0, none⟩) 1 1, .slice none 0 0, .string ⟨#[66, 49]⟩, .int .i64 6, .int .i64 2, .slice (some ⟨h + 1, 0, none⟩) 1 1, .slice none 0 0, .string ⟨#[67, 49]⟩, .int .i64 10, .int .i64 9, .slice none 0 0, .slice none 0 0] (h + 1 + 1) (by simp [hh]) rfl 3 rfl
  subst h3
  refine ⟨r3, fun o ho => ?_, ((below_alloc1 w _).alloc (by simp) _).alloc (by simp <;> omega) _⟩
  simp only [cat0, List.mem_cons, List.not_mem_nil, or_false] at ho
  rcases ho with rfl | rfl | rfl
  · exact ⟨⟨(r1.below b1).below b2, RowIn.nil _ _⟩, by show 1 ≤ 1000000000000; omega⟩
  · exact ⟨⟨r2.below b2, RowIn.nil _ _⟩, by show 1 ≤ 1000000000000; omega⟩
  · exact ⟨⟨RowIn.nil _ _, RowIn.nil _ _⟩, by show 0 ≤ 1000000000000; omega⟩
theorem actR_len_le {M R : List Req} (h : IsSet M R) : (actR M).length ≤ R.length := Nat.le_trans (keepR_len _ _) (isSet_len h)
set_option maxHeartbeats 4000000 in
set_option maxRecDepth 100000 in
theorem deals_true (lv sv wv : Value) (l : List Asked) (S W : List Seat) (O : List Req) (w : World) (hl : RowIn Asked.cells w lv l) (hs : RowIn Seat.cells w sv S) (hw : RowIn Seat.cells w wv W) (ll : l.length ≤ 10) (lS : S.length ≤ 10) (lW : W.length ≤ 10)
    (hf : ∀ r ∈ asksR l, r.fits) (hO : ∀ O', ActOrd (asksR l) O' → O' = O) (hd : ∀ x y, dealP (cat0 x y) metAll 15 O = ⟨S, W⟩) :
    Calls Tryz.prog 12 #[lv, sv, wv] w fun e w' => e = .returned (.bool true) ∧ RowKit.Below w.heap.size w w' := by
  obtain ⟨p1, c1, rfl, _⟩ := hl.form
  obtain ⟨p2, c2, rfl, _⟩ := hs.form
  obtain ⟨p3, c3, rfl, _⟩ := hw.form
  have HL := Lib.hid hl
  have HS := Lib.hid hs
  have HW := Lib.hid hw
  have HF := Lib.hid hf
  have HO := Lib.hid hO
  have HD := Lib.hid hd
  clear hl hs hw hf hO hd
  go_enter Tryz.func12, Tryz.ntmps12
  go_wp2_with fail
  have hcat := cat0_in w w.heap.size rfl _ rfl
  generalize ((w.alloc _).alloc _).alloc _ = w3 at hcat ⊢
  obtain ⟨hoff, hok, hb3⟩ := hcat
  have HOFF := Lib.hid hoff
  have HOK := Lib.hid hok
  clear hoff hok
  go_loopw [8, 19] (fun v i wr => ∃ (k : Nat), k ≤ l.length ∧ i = .int .i64 k ∧ ∃ (p : Option Addr) (c : Nat), v = .slice p (asksR (l.take k)).length c ∧ Hid (wr.ownsRow w3.heap.size 39 9 (.slice p (asksR (l.take k)).length c) (asksR (l.take k)).length (reqCells (asksR (l.take k)))) ∧ RowKit.Below w3.heap.size w3 wr) (fun _ i _ => l.length - (RowKit.intOf i).toNat)
  case atStart => exact ⟨0, Nat.zero_le _, rfl, none, 0, rfl, Lib.hid (World.ownsRow_nil _ _ _ _), Below.refl _ _⟩
  case round =>
    obtain ⟨k, hk, rfl, p, c, rfl, HR, hbr⟩ := hrel
    by_cases hlt : k < l.length
    · obtain ⟨g, o, c', hv, _, hgl, hx⟩ := HL.out.at_ (k := 4) (fun _ => rfl) (by omega)
      have e1 := (Value.slice.inj hv).1
      subst e1
      have hz := List.getElem?_eq_getElem hlt
      have hat := hx k _ hz
      have HTK : Hid (asksR (l.take (k + 1)) = asksR (l.take k) ++ [askR k l[k]]) := Lib.hid (by rw [take_one hz, asksR_snoc, List.length_take, Nat.min_eq_left hk])
      generalize l[k] = x at hz hat HTK
      have hbw : RowKit.Below w.heap.size w wr := hb3.trans (hbr.mono hb3.size)
      have hatk : wr.rangeAt g (o + k * 4) x.cells := fun j v hj => by rw [hbw.cell (p := ⟨g, o + k * 4 + j, none⟩) hgl]; exact hat j v hj
      have hbx : ∀ j, (wr.alloc (.cells #[.int .i64 x.student, .string x.code, .string x.give, .int .i64 x.priority] 50)).cell? ⟨wr.heap.size, j, none⟩ = (#[.int .i64 x.student, .string x.code, .string x.give, .int .i64 x.priority] : Array Value)[j]? := fun j => Lib.cell_of_heap (heap_alloc_new wr _) j
      have hb4 := hbr.alloc hbr.size (.cells #[.int .i64 x.student, .string x.code, .string x.give, .int .i64 x.priority] 50)
      have hb5 := hb4.alloc hb4.size (.cells (Req.cells (askR k x)) 39)
      have hown := (HR.out.alloc (.cells #[.int .i64 x.student, .string x.code, .string x.give, .int .i64 x.priority] 50)).alloc (.cells (Req.cells (askR k x)) 39)
      have hone := reqs_one_at (wr.alloc (.cells #[.int .i64 x.student, .string x.code, .string x.give, .int .i64 x.priority] 50)) (askR k x) (wr.heap.size + 1) (by simp)
      have hal : (asksR (l.take k)).length ≤ 10 := by unfold asksR; simp; omega
      simp only [Req.cells, askR] at hb5 hown hone
      clear hv hx hz hat
      go_wp2_with (first
        | ((with_reducible refine wpList_load_mid (op := ⟨some 23, _, _, _, _, _⟩) ?_ 50 (.tmp 22) ?_ g (o + k * 4) ?_ x.cells _ ?_ Tryz.underlying50 ?_ ?_ ?_); rfl; rfl; rfl; exact hatk; rfl; kernel_rfl)
        | (at_builtin; go_loud (refine wpList_append_reqs rfl (.tmp 24) (.tmp 36) rfl w3.heap.size _ _ (asksR (l.take k)) [askR k x] rfl rfl hown hone (by simp; omega) hb5.size ?_; intro v9 w9 hown9 hg9; obtain ⟨p9, c9, rfl⟩ := own_form hown9)))
      have hbF := hb5.grown hg9 hb5.size (fun q hq => (own_lo hown hq).1)
      have HTL : Hid ((asksR (l.take (k + 1))).length = (asksR (l.take k)).length + 1) := Lib.hid (by rw [HTK.out, List.length_append]; rfl)
      have hoF : w9.ownsRow w3.heap.size 39 9 (.slice p9 (asksR (l.take (k + 1))).length c9) (asksR (l.take (k + 1))).length (reqCells (asksR (l.take (k + 1)))) := by rw [HTK.out]; exact hown9
      refine ⟨⟨k + 1, by omega, by go_num, p9, c9, by rw [HTL.out], Lib.hid hoF, hbF⟩, by simp [RowKit.intOf]; omega⟩
    · obtain rfl : k = l.length := by omega
      rw [List.take_length] at HR
      have HRI : Hid (ReqsIn wr (.slice p (asksR l).length c) (asksR l)) := Lib.hid (reqsIn_own HR.out)
      have hal : (asksR l).length ≤ 10 := by unfold asksR; simp; omega
      have hbw : RowKit.Below w.heap.size w wr := hb3.trans (hbr.mono hb3.size)
      have cm := met_any 0 wr (by omega) (by omega)
      rw [List.take_length]
      clear HR
      go_wp2_with fail
      refine cm.mono ?_
      rintro _ w4 ⟨v4, M, rfl, hM, hMo, hb4⟩
      obtain ⟨p4, c4, rfl⟩ := own_form hM
      have HMe : Hid (M = metAll) := Lib.hid (by rw [hMo.2.2 rfl]; rfl)
      have hbr4 := below_next hbr hb4
      have hbw4 := below_next hbw hb4
      have hcat : CatIn w4 (.slice (some ⟨w.heap.size + 1 + 1, 0, none⟩) 3 3) (.slice p4 M.length c4) (cat0 w.heap.size (w.heap.size + 1)) M :=
        ⟨HOFF.out.below hbr4, fun o ho => ⟨(HOK.out o ho).1.below hbr4, (HOK.out o ho).2⟩, fun o ho => by
          simp only [cat0, List.mem_cons, List.not_mem_nil, or_false] at ho
          rcases ho with rfl | rfl | rfl <;> (show (2 : Nat) ≤ maxLen; unfold maxLen; omega), rowIn_own (fun _ => rfl) (by decide) hM, hMo.2.1, by show 3 ≤ 1000000; omega, by have := hMo.1; omega⟩
      have cd := deal_cat 19 sortsB_19 (by omega) _ _ (.slice p (asksR l).length c) _ M 15 (asksR l) w4 hcat (HRI.out.below hb4) (by omega) HF.out (fun O' h => Nat.le_trans (actR_len_le h) (by omega))
      clear cm hM hMo hcat
      go_wp2_with fail
      refine cd.mono ?_
      rintro _ w5 ⟨s5, w5v, O', rfl, hO', hs5, hw5, hb5⟩
      obtain rfl := HO.out O' hO'
      have hdl := deal_len (L := cat0 w.heap.size (w.heap.size + 1)) (met := M) (most := 15) O'
      have hlen := hO'.len
      have hd : DealIn w5 (.agg #[s5, w5v]) ⟨S, W⟩ := by
        have := DealIn.mk' hs5 hw5 (by omega) (by omega)
        have e := HD.out w.heap.size (w.heap.size + 1)
        rw [← HMe.out] at e
        rw [← e]; exact this
      have hbw5 := below_next hbw4 hb5
      have hd2 : DealIn w5 (.agg #[.slice p2 S.length c2, .slice p3 W.length c3]) ⟨S, W⟩ := DealIn.mk' (HS.out.below hbw5) (HW.out.below hbw5) (by show S.length ≤ _; omega) (by show W.length ≤ _; omega)
      have cs := refSame_any _ _ _ _ w5 hd hd2
      rw [sameD_refl] at cs
      clear cd hd hd2 hs5 hw5 hdl
      go_wp2_with fail
      refine cs.mono ?_
      rintro _ w6 ⟨rfl, hb6⟩
      go_wp2_with fail
      go_ret
      exact ⟨rfl, below_next hbw5 hb6⟩
end Go.Proofs.YteopjiedjnaeiaaGreat
