/- market.Left: the places that are left. -/
import Derived.Test.YtbihaoadgcckhaaGreatMkCn
import Derived.Test.YtbihaoadgcckhaaGreatMkEq
import Derived.Laws.Cover1
namespace Go.Proofs.YtbihaoadgcckhaaGreat
open Go Go.Proofs Go.RowKit Go.Maps Go.Sort Go.Lib
attribute [local go_sem] Off.cells Seat.cells

def leftP (L : List Off) (d : Deal) (c : ByteArray) : Int := max 0 ((getO L c).places - (takenF d.seats c : Int))
set_option maxHeartbeats 4000000 in
set_option maxRecDepth 100000 in
theorem left_any (ov dv : Value) (L : List Off) (d : Deal) (c : ByteArray) (w : World) (h : RowIn Off.cells w ov L) (hl : L.length ≤ 1000000) (ho : ∀ o ∈ L, OffOk w o ∧ o.few ∧ o.needs.length ≤ 1000000000000) (hd : DealIn w dv d) (hp : 0 ≤ (getO L c).places ∧ (getO L c).places ≤ 1000000000) :
    Calls Tryz.prog 14 #[ov, dv, .string c] w fun e w' => e = .returned (.int .i64 (leftP L d c)) ∧ RowKit.Below w.heap.size w w' := by
  obtain ⟨⟨p, cp, q, cq, rfl, hs, _⟩, hls, _⟩ := hd
  have hb0 := below_alloc1 w (.cells #[.slice p d.seats.length cp, .slice q d.waits.length cq] 45)
  have hx0 := heap_alloc_new w (.cells #[.slice p d.seats.length cp, .slice q d.waits.length cq] 45)
  have hl0 : w.heap.size < (w.alloc (.cells #[.slice p d.seats.length cp, .slice q d.waits.length cq] 45)).heap.size := by simp
  have H := Lib.hid h
  have HO := Lib.hid ho
  have HS := Lib.hid hs
  clear h ho hs
  go_enter Tryz.func14, Tryz.ntmps14
  go_wp2_with fail
  generalize w.alloc _ = W at hb0 hx0 hl0 ⊢
  refine (find_any ov L c W (H.out.below hb0) hl fun o hm => ⟨(HO.out o hm).1.below hb0, (HO.out o hm).2⟩).mono ?_
  rintro _ w1 ⟨o', rfl, hsm, _, hb1⟩
  have hpl := hsm.places
  have hb2 := below_next hb0 hb1
  have hx1 : w1.heap[w.heap.size]? = some (.cells #[.slice p d.seats.length cp, .slice q d.waits.length cq] 45 (0, 0)) := (hb1.block _ hl0).trans hx0
  clear hb0 hx0 hb1 hsm
  have hl1 : w.heap.size < w1.heap.size := (Array.getElem?_eq_some_iff.1 hx1).1
  have hc1 : ∀ j, w1.cell? ⟨w.heap.size, j, none⟩ = (#[.slice p d.seats.length cp, .slice q d.waits.length cq] : Array Value)[j]? := fun j => Lib.cell_of_heap hx1 j
  go_wp2_with fail
  have HPL : Hid ((getO L c).places = (getO L c).places) := Lib.hid rfl
  generalize hgp : (getO L c).places = pl at hpl hp ⊢
  have HGP := Lib.hid hgp
  clear hgp HPL hpl
  have hba := below_alloc1 w1 (.cells #[.string o'.code, .int .i64 o'.credits, .int .i64 pl, .slice o'.sp o'.slots.length o'.sc, .slice o'.np o'.needs.length o'.nc] 52)
  have hxo := heap_alloc_new w1 (.cells #[.string o'.code, .int .i64 o'.credits, .int .i64 pl, .slice o'.sp o'.slots.length o'.sc, .slice o'.np o'.needs.length o'.nc] 52)
  have hsz : w1.heap.size < (w1.alloc (.cells #[.string o'.code, .int .i64 o'.credits, .int .i64 pl, .slice o'.sp o'.slots.length o'.sc, .slice o'.np o'.needs.length o'.nc] 52)).heap.size := by simp
  have hb3 := below_next hb2 hba
  generalize w1.alloc _ = w2 at hba hxo hsz hb3 ⊢
  clear hba hb2 hx1 hc1
  have hco : ∀ j, w2.cell? ⟨w1.heap.size, j, none⟩ = (#[.string o'.code, .int .i64 o'.credits, .int .i64 pl, .slice o'.sp o'.slots.length o'.sc, .slice o'.np o'.needs.length o'.nc] : Array Value)[j]? := fun j => Lib.cell_of_heap hxo j
  go_loopw [9, 21] (fun v9 i wr => ∃ (k n : Nat), k ≤ d.seats.length ∧ n ≤ k ∧ v9 = .int .i64 n ∧ i = .int .i64 k ∧ Hid (n = takenF (d.seats.take k) c) ∧ RowKit.Below w2.heap.size w2 wr) (fun _ i _ => d.seats.length - (RowKit.intOf i).toNat)
  case atStart => exact ⟨0, 0, Nat.zero_le _, Nat.le_refl _, rfl, rfl, Lib.hid rfl, Below.refl _ _⟩
  case round =>
    obtain ⟨k, n, hk, hnk, rfl, rfl, HI, hbr⟩ := hrel
    by_cases hlt : k < d.seats.length
    · obtain ⟨g, of, c', hv, _, hgl, hx⟩ := HS.out.at_ (k := 2) (fun _ => rfl) (by omega)
      have e1 := (Value.slice.inj hv).1
      subst e1
      have hz := List.getElem?_eq_getElem hlt
      have hat := hx k _ hz
      have HTK := Lib.hid (take_one hz)
      generalize d.seats[k] = x at hz hat HTK
      obtain ⟨xs, xc⟩ := x
      have hbw : RowKit.Below w.heap.size w wr := below_next hb3 hbr
      have h0 : wr.cell? ⟨g, of + k * 2, none⟩ = some (.int .i64 xs) := by rw [hbw.cell (p := ⟨g, of + k * 2, none⟩) hgl]; exact hat 0 _ rfl
      have h1 : wr.cell? ⟨g, of + k * 2 + 1, none⟩ = some (.string xc) := by rw [hbw.cell (p := ⟨g, of + k * 2 + 1, none⟩) hgl]; exact hat 1 _ rfl
      have hb4 : RowKit.Below w2.heap.size w2 (wr.alloc (.cells #[.int .i64 xs, .string xc] 54)) := hbr.alloc hbr.size _
      have hbx : ∀ j, (wr.alloc (.cells #[.int .i64 xs, .string xc] 54)).cell? ⟨wr.heap.size, j, none⟩ = (#[.int .i64 xs, .string xc] : Array Value)[j]? := fun j => Lib.cell_of_heap (heap_alloc_new wr _) j
      have hwrap : IntKind.i64.wrap ((n : Int) + 1) = ((n + 1 : Nat) : Int) := by rw [IntWalk.i64_in _ (by omega)]; omega
      clear hv hx hz hat
      generalize hG : (xc.toList == c.toList) = g2
      have HT : Hid (takenF (d.seats.take (k + 1)) c = n + if g2 = true then 1 else 0) := Lib.hid (by
        rw [HTK.out, takenF_snoc, ← HI.out, ← hG]
        congr 1
        by_cases h : xc.toList = c.toList <;> simp [h])
      cases g2
      · go_wp2_with fail
        go_roundw
        case rel => exact ⟨k + 1, n, by omega, by omega, rfl, by go_num, Lib.hid (by rw [HT.out]; simp), hb4⟩
        case measure => simp [RowKit.intOf]; omega
      · go_wp2_with fail
        go_roundw
        case rel => exact ⟨k + 1, n + 1, by omega, by omega, rfl, by go_num, Lib.hid (by rw [HT.out]; simp), hb4⟩
        case measure => simp [RowKit.intOf]; omega
    · obtain rfl : k = d.seats.length := by omega
      have hk2 := HI.out
      rw [List.take_length] at hk2
      have hcr : ∀ j, wr.cell? ⟨w1.heap.size, j, none⟩ = (#[.string o'.code, .int .i64 o'.credits, .int .i64 pl, .slice o'.sp o'.slots.length o'.sc, .slice o'.np o'.needs.length o'.nc] : Array Value)[j]? := fun j => by rw [hbr.cell (p := ⟨w1.heap.size, j, none⟩) hsz]; exact hco j
      have hws : IntKind.i64.wrap (pl - (n : Int)) = pl - (n : Int) := IntWalk.i64_in _ (by omega)
      have HK2 := Lib.hid hk2
      clear hk2
      go_wp2_with fail
      go_ret
      refine ⟨?_, below_next hb3 hbr⟩
      unfold leftP
      rw [HGP.out, ← HK2.out]
      rfl
end Go.Proofs.YtbihaoadgcckhaaGreat
