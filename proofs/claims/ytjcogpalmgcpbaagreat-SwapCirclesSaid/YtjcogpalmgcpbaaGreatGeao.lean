/- The examples of the chapter: quadriviumlaw28.sanity returns true. -/
import Derived.Test.YtjcogpalmgcpbaaGreatGean
/- market.Check: whether a deal is permitted. -/
namespace Go.Proofs.YtjcogpalmgcpbaaGreat
open Go Go.Proofs Go.RowKit Go.Maps Go.Sort Go.Lib
attribute [local go_sem] Seat.cells

/-- A catalog and who has met what, as a world holds them. -/
structure CatIn (w : World) (ov mv : Value) (L : List Off) (M : List Seat) : Prop where
  off : RowIn Off.cells w ov L
  ok : ∀ o ∈ L, OffOk w o ∧ o.few
  code : ∀ o ∈ L, o.code.size ≤ maxLen
  met : RowIn Seat.cells w mv M
  wf : ∀ s ∈ M, s.wf
  lo : L.length ≤ 1000000
  lm : M.length ≤ 1000000
theorem CatIn.below {w w' : World} {ov mv : Value} {L : List Off} {M : List Seat} (h : CatIn w ov mv L M) (hb : RowKit.Below w.heap.size w w') : CatIn w' ov mv L M :=
  ⟨h.off.below hb, fun o ho => ⟨(h.ok o ho).1.below hb, (h.ok o ho).2⟩, h.code, h.met.below hb, h.wf, h.lo, h.lm⟩




theorem checkP_step {L : List Off} {M : List Seat} {most : Int} {l : List Seat} {k : Nat} {s : Seat} (h : checkP L M most l k = 0) (hs : l[k]? = some s) : checkP L M most l (k + 1) = fitsP L M most (l.take k) s := by
  show (if checkP L M most l k = 0 then (match l[k]? with | some s => fitsP L M most (l.take k) s | none => 0) else checkP L M most l k) = _
  rw [if_pos h, hs]
theorem checkP_stop {L : List Off} {M : List Seat} {most : Int} {l : List Seat} {k : Nat} (h : checkP L M most l k ≠ 0) : ∀ n, k ≤ n → checkP L M most l n = checkP L M most l k := by
  intro n hn
  induction n with
  | zero => obtain rfl : k = 0 := by omega
            rfl
  | succ n ih =>
    rcases Nat.lt_or_ge n k with h' | h'
    · obtain rfl : k = n + 1 := by omega
      rfl
    · have ih := ih h'
      show (if checkP L M most l n = 0 then (match l[n]? with | some s => fitsP L M most (l.take n) s | none => 0) else checkP L M most l n) = _
      rw [if_neg (by rw [ih]; exact h), ih]
set_option maxHeartbeats 4000000 in
set_option maxRecDepth 100000 in
theorem check_any (ov mv sv wv : Value) (L : List Off) (M : List Seat) (most : Int) (l W : List Seat) (w : World) (hc : CatIn w ov mv L M) (hs : RowIn Seat.cells w sv l) (hw : RowIn Seat.cells w wv W) (hl : l.length ≤ 1000000) (hwf : ∀ x ∈ l, x.wf) :
    Calls Tryz.prog 9 #[ov, mv, .int .i64 most, .agg #[sv, wv]] w fun e w' => e = .returned (.int .i64 (checkP L M most l l.length)) ∧ RowKit.Below w.heap.size w w' := by
  obtain ⟨p1, c1, rfl, _⟩ := hc.off.form
  obtain ⟨p2, c2, rfl, _⟩ := hc.met.form
  obtain ⟨p3, c3, rfl, hlc⟩ := hs.form
  obtain ⟨p4, c4, rfl, _⟩ := hw.form
  have HC := Lib.hid hc
  have HS := Lib.hid hs
  have HWF := Lib.hid hwf
  have hb0 := below_alloc1 w (.cells #[.slice p3 l.length c3, .slice p4 W.length c4] 31)
  have hx0 := heap_alloc_new w (.cells #[.slice p3 l.length c3, .slice p4 W.length c4] 31)
  have hc0 := hc.below hb0
  have cp := prepare_any _ _ L M most _ hc0.off hc0.met hc0.code hc0.wf hc0.lo hc0.lm
  clear hc hs hw hwf hc0
  go_enter Tryz.func9, Tryz.ntmps9
  go_wp2_with fail
  refine cp.mono ?_
  rintro _ w1 ⟨b1, b2, rfl, hRu, hb1⟩
  clear cp
  have hb2 := below_alloc1 w1 (.cells #[.map (some b1), .map (some b2), .int .i64 most] 59)
  have hRu2 := hRu.below hb2
  have hB2 := below_next (below_next hb0 hb1) hb2
  have hx1 := (hb1.block w.heap.size (by simp)).trans hx0
  have hx2 := (hb2.block w.heap.size (Array.getElem?_eq_some_iff.1 hx1).1).trans hx1
  have hg2 := heap_alloc_new w1 (.cells #[.map (some b1), .map (some b2), .int .i64 most] 59)
  have hd2 : ∀ j, (w1.alloc (.cells #[.map (some b1), .map (some b2), .int .i64 most] 59)).cell? ⟨w.heap.size, j, none⟩ = (#[.slice p3 l.length c3, .slice p4 W.length c4] : Array Value)[j]? := fun j => Lib.cell_of_heap hx2 j
  clear hRu hb0 hb1 hb2 hx0 hx1
  go_wp2_with fail
  generalize hgr : w1.heap.size = gr at hg2 ⊢
  generalize w1.alloc _ = w2 at hB2 hRu2 hx2 hg2 hd2 ⊢
  have lx := (Array.getElem?_eq_some_iff.1 hx2).1
  have lg := (Array.getElem?_eq_some_iff.1 hg2).1
  have HX := Lib.hid hx2
  have HG := Lib.hid hg2
  have HR := Lib.hid hRu2
  have HB := Lib.hid hB2
  clear hd2 hx2 hg2 hRu2 hB2
  go_loopw [20] (fun i wr => ∃ k : Nat, k ≤ l.length ∧ i = .int .i64 k ∧ Hid (checkP L M most l k = 0) ∧ RowKit.Below w2.heap.size w2 wr) (fun i _ => l.length - (RowKit.intOf i).toNat)
  case atStart => exact ⟨0, Nat.zero_le _, rfl, Lib.hid rfl, Below.refl _ _⟩
  case round =>
    obtain ⟨k, hk, rfl, HK, hbr⟩ := hrel
    by_cases hlt : k < l.length
    · obtain ⟨g, o, c', hv, _, hgl, hx⟩ := HS.out.at_ (k := 2) (fun _ => rfl) (by omega)
      have e1 := (Value.slice.inj hv).1
      subst e1
      have hz := List.getElem?_eq_getElem hlt
      have hat := hx k _ hz
      have HXW := Lib.hid (HWF.out _ (List.getElem_mem hlt))
      have HST := Lib.hid (checkP_step HK.out hz)
      have HSO := Lib.hid (checkP_stop (L := L) (M := M) (most := most) (l := l) (k := k + 1))
      generalize l[k] = x at hz hat HXW HST
      have hbw : RowKit.Below w.heap.size w wr := HB.out.trans (hbr.mono HB.out.size)
      have hatk : wr.rangeAt g (o + k * 2) x.cells := fun j v hj => by rw [hbw.cell (p := ⟨g, o + k * 2 + j, none⟩) hgl]; exact hat j v hj
      have hb3 : RowKit.Below w2.heap.size w2 (wr.alloc (.cells #[.int .i64 x.student, .string x.code] 38)) := hbr.alloc hbr.size _
      have hbw3 := HB.out.trans (hb3.mono HB.out.size)
      have hbx : ∀ j, (wr.alloc (.cells #[.int .i64 x.student, .string x.code] 38)).cell? ⟨wr.heap.size, j, none⟩ = (#[.int .i64 x.student, .string x.code] : Array Value)[j]? := fun j => Lib.cell_of_heap (heap_alloc_new wr _) j
      have hgc : ∀ j, (wr.alloc (.cells #[.int .i64 x.student, .string x.code] 38)).cell? ⟨gr, j, none⟩ = (#[.map (some b1), .map (some b2), .int .i64 most] : Array Value)[j]? := fun j => (hb3.cell (p := ⟨gr, j, none⟩) lg).trans (Lib.cell_of_heap HG.out j)
      have hdc : ∀ j, (wr.alloc (.cells #[.int .i64 x.student, .string x.code] 38)).cell? ⟨w.heap.size, j, none⟩ = (#[.slice (some ⟨g, o, none⟩) l.length c3, .slice p4 W.length c4] : Array Value)[j]? := fun j => (hb3.cell (p := ⟨w.heap.size, j, none⟩) lx).trans (Lib.cell_of_heap HX.out j)
      have htk : (l.take k).length = k := by simp; omega
      have hrt := (HS.out.below hbw3).take (m := k) rfl (by omega)
      have hc3 := HC.out.below hbw3
      have cft := fits_any b1 b2 L M most (.slice (some ⟨g, o, none⟩) k c3) (l.take k) x (wr.alloc (.cells #[.int .i64 x.student, .string x.code] 38)).drew ((HR.out.below hb3).below (Below.refl _ _).drew) (fun o ho => ⟨(hc3.ok o ho).1.below (Below.refl _ _).drew, (hc3.ok o ho).2⟩) (hrt.below (Below.refl _ _).drew) (by omega) HXW.out (fun y hy => HWF.out y (List.mem_of_mem_take hy))
      have i1 : (0 : Int) ≤ (k : Int) := by omega
      have i2 : (k : Int) ≤ (l.length : Int) := by omega
      have i3 : (k : Int) ≤ (c3 : Int) := by omega
      generalize fitsP L M most (l.take k) x = e at HST cft
      have HE := Lib.hid hb3
      clear hv hx hz hat hbw hbw3 hb3 hrt hc3 htk
      go_wp2_with ((with_reducible refine wpList_load_mid (op := ⟨some 24, _, _, _, _, _⟩) ?_ 38 (.tmp 23) ?_ g (o + k * 2) ?_ x.cells _ ?_ Tryz.underlying38 ?_ ?_ ?_); rfl; rfl; rfl; exact hatk; rfl; kernel_rfl)
      have lx3 : w.heap.size < (wr.alloc (.cells #[.int .i64 x.student, .string x.code] 38)).heap.size := Nat.lt_of_lt_of_le lx HE.out.size
      have lg3 : gr < (wr.alloc (.cells #[.int .i64 x.student, .string x.code] 38)).heap.size := Nat.lt_of_lt_of_le lg HE.out.size
      have ls3 : wr.heap.size < (wr.alloc (.cells #[.int .i64 x.student, .string x.code] 38)).heap.size := by simp
      generalize wr.alloc _ = w3 at hbx hgc hdc cft HE lx3 lg3 ls3 ⊢
      have keepS : ∀ w', RowKit.Below w3.heap.size w3 w' → RowKit.Below w3.heap.size w3 w' ∧ (∀ j, w'.cell? ⟨wr.heap.size, j, none⟩ = (#[.int .i64 x.student, .string x.code] : Array Value)[j]?) ∧ (∀ j, w'.cell? ⟨gr, j, none⟩ = (#[.map (some b1), .map (some b2), .int .i64 most] : Array Value)[j]?) ∧ (∀ j, w'.cell? ⟨w.heap.size, j, none⟩ = (#[.slice (some ⟨g, o, none⟩) l.length c3, .slice p4 W.length c4] : Array Value)[j]?) :=
        fun w' hb => ⟨hb, fun j => (hb.cell (p := ⟨wr.heap.size, j, none⟩) ls3).trans (hbx j), fun j => (hb.cell (p := ⟨gr, j, none⟩) lg3).trans (hgc j), fun j => (hb.cell (p := ⟨w.heap.size, j, none⟩) lx3).trans (hdc j)⟩
      have hS0 := keepS _ (Below.refl w3.heap.size w3).drew
      go_region_held3 (fun w' => RowKit.Below w3.heap.size w3 w' ∧ (∀ j, w'.cell? ⟨wr.heap.size, j, none⟩ = (#[.int .i64 x.student, .string x.code] : Array Value)[j]?) ∧ (∀ j, w'.cell? ⟨gr, j, none⟩ = (#[.map (some b1), .map (some b2), .int .i64 most] : Array Value)[j]?) ∧ (∀ j, w'.cell? ⟨w.heap.size, j, none⟩ = (#[.slice (some ⟨g, o, none⟩) l.length c3, .slice p4 W.length c4] : Array Value)[j]?)) (first | exact hS0 | assumption)
        (first | (go_at_call 21; refine cft.mono ?_; rintro _ w4 ⟨rfl, hb4⟩; have hS4 := keepS w4 (below_next (Below.refl _ _).drew hb4)))
      have HB4 := Lib.hid (below_next HE.out hS4.1)
      clear hS0 hS4 keepS cft hbx hgc hdc
      by_cases he : e = 0
      · subst he
        have HK2 : Hid (checkP L M most l (k + 1) = 0) := Lib.hid HST.out
        go_wp2_with fail
        go_roundw
        case rel => exact ⟨k + 1, by omega, by go_num, HK2, HB4.out⟩
        case measure => simp [RowKit.intOf]; omega
      · have he2 : (e != 0) = true := by simpa using he
        have HF := Lib.hid (HSO.out (by rw [HST.out]; exact he) l.length (by omega))
        have hbw : RowKit.Below w.heap.size w w4 := HB.out.trans (HB4.out.mono HB.out.size)
        clear he
        go_wp2_with fail
        go_ret
        exact ⟨ret_int (by rw [HF.out, HST.out]), hbw⟩
    · obtain rfl : k = l.length := by omega
      have hbw : RowKit.Below w.heap.size w wr := HB.out.trans (hbr.mono HB.out.size)
      go_wp2_with fail
      go_ret
      exact ⟨ret_int HK.out.symm, hbw⟩
end Go.Proofs.YtjcogpalmgcpbaaGreat
/- Equality of lists of seats and of deals. -/
namespace Go.Proofs.YtjcogpalmgcpbaaGreat
open Go Go.Proofs Go.RowKit Go.Maps Go.Sort Go.Lib
attribute [local go_sem] Seat.cells
attribute [local go_sem ↓] seat_eql seat_neq

set_option maxHeartbeats 1000000 in
theorem sameSeats_any (a b : Value) (A B : List Seat) (w : World) (ha : RowIn Seat.cells w a A) (hb : RowIn Seat.cells w b B) (lA : A.length ≤ 1000000) (lB : B.length ≤ 1000000) :
    Calls Tryz.prog 25 #[a, b] w fun e w' => e = .returned (.bool (decide (A = B))) ∧ RowKit.Below w.heap.size w w' := by
  obtain ⟨p1, c1, rfl, _⟩ := ha.form
  obtain ⟨p2, c2, rfl, _⟩ := hb.form
  have HA := Lib.hid ha
  have HB := Lib.hid hb
  clear ha hb
  by_cases hlen : A.length = B.length
  · have hL := Lib.hid hlen
    have hne : ((A.length : Int) != (B.length : Int)) = false := by simp [hlen]
    clear hlen
    go_enter Tryz.func25, Tryz.ntmps25
    go_wp2_with fail
    go_loopw [5] (fun i wr => ∃ k : Nat, k ≤ A.length ∧ i = .int .i64 k ∧ Hid (A.take k = B.take k) ∧ RowKit.Below w.heap.size w wr) (fun i _ => A.length - (RowKit.intOf i).toNat)
    case atStart => exact ⟨0, Nat.zero_le _, rfl, Lib.hid rfl, Below.refl _ _⟩
    case round =>
      obtain ⟨k, hk, rfl, HK, hbr⟩ := hrel
      by_cases hlt : k < A.length
      · have hlt2 : k < B.length := by have := hL.out; omega
        obtain ⟨g, o, c', hv, _, hgl, hx⟩ := HA.out.at_ (k := 2) (fun _ => rfl) (by omega)
        have e1 := (Value.slice.inj hv).1
        subst e1
        obtain ⟨g2, o2, c2', hv2, _, hgl2, hx2⟩ := HB.out.at_ (k := 2) (fun _ => rfl) (by omega)
        have e2 := (Value.slice.inj hv2).1
        subst e2
        have hz := List.getElem?_eq_getElem hlt
        have hz2 := List.getElem?_eq_getElem hlt2
        have hat := hx k _ hz
        have hat2 := hx2 k _ hz2
        have HT := Lib.hid (take_one hz)
        have HT2 := Lib.hid (take_one hz2)
        have HI := Lib.hid (show A = B → A[k] = B[k] from fun e => by subst e; rfl)
        generalize A[k] = x at hz hat HT HI
        generalize B[k] = y at hz2 hat2 HT2 HI
        have x0 : wr.cell? ⟨g, o + k * 2, none⟩ = some (.int .i64 x.student) := by rw [hbr.cell (p := ⟨g, o + k * 2, none⟩) hgl]; exact hat 0 _ rfl
        have x1 : wr.cell? ⟨g, o + k * 2 + 1, none⟩ = some (.string x.code) := by rw [hbr.cell (p := ⟨g, o + k * 2 + 1, none⟩) hgl]; exact hat 1 _ rfl
        have y0 : wr.cell? ⟨g2, o2 + k * 2, none⟩ = some (.int .i64 y.student) := by rw [hbr.cell (p := ⟨g2, o2 + k * 2, none⟩) hgl2]; exact hat2 0 _ rfl
        have y1 : wr.cell? ⟨g2, o2 + k * 2 + 1, none⟩ = some (.string y.code) := by rw [hbr.cell (p := ⟨g2, o2 + k * 2 + 1, none⟩) hgl2]; exact hat2 1 _ rfl
        have hG : ∃ G, eqSeat ⟨x.student, x.code⟩ ⟨y.student, y.code⟩ = G := ⟨_, rfl⟩
        obtain ⟨G, hG⟩ := hG
        have HG : Hid (eqSeat x y = G) := Lib.hid hG
        have hln : (k : Int) < (B.length : Int) := by omega
        clear hv hx hz hat hv2 hx2 hz2 hat2
        cases G
        · go_wp2_with fail
          go_quiet (fail)
          go_wp2_with fail
          go_ret
          refine ⟨ret_bool ?_, blw_drewN hbr _⟩
          rw [eq_comm, decide_eq_false_iff_not]
          intro e
          have := HI.out e
          rw [(eqSeat_iff x y).2 this] at HG
          cases HG.out
        · go_wp2_with fail
          go_quiet (fail)
          go_wp2_with fail
          go_roundw
          case rel => exact ⟨k + 1, by omega, by go_num, Lib.hid (by rw [HT.out, HT2.out, HK.out, (eqSeat_iff x y).1 HG.out]), blw_drewN hbr _⟩
          case measure => simp [RowKit.intOf]; omega
      · obtain rfl : k = A.length := by omega
        have hk2 := HK.out
        rw [List.take_length, hL.out, List.take_length] at hk2
        go_wp2_with fail
        go_ret
        exact ⟨ret_bool (by rw [decide_eq_true hk2]), hbr⟩
  · have hne : ((A.length : Int) != (B.length : Int)) = true := by simp; omega
    have HN := Lib.hid hlen
    clear hlen
    go_enter Tryz.func25, Tryz.ntmps25
    go_wp2_with fail
    go_ret
    exact ⟨ret_bool (by rw [eq_comm, decide_eq_false_iff_not]; intro e; exact HN.out (by rw [e])), Below.refl _ _⟩










































































set_option maxHeartbeats 1000000 in
theorem hasSeat_any (v : Value) (l : List Seat) (s : Seat) (w : World) (h : RowIn Seat.cells w v l) (hl : l.length ≤ 1000000) :
    Calls Tryz.prog 31 #[v, .agg #[.int .i64 s.student, .string s.code]] w fun e w' => e = .returned (.bool (decide (s ∈ l))) ∧ RowKit.Below w.heap.size w w' := by
  obtain ⟨q, c, rfl, _⟩ := h.form
  have hb0 : RowKit.Below w.heap.size w (w.alloc (.cells s.cells.toArray 38)) := below_alloc1 _ _
  have H := Lib.hid h
  have hc0 : ∀ j, (w.alloc (.cells s.cells.toArray 38)).cell? ⟨w.heap.size, j, none⟩ = s.cells.toArray[j]? := fun j => Lib.cell_of_heap (heap_alloc_new w _) j
  clear h
  go_enter Tryz.func31, Tryz.ntmps31
  simp only [Seat.cells] at hb0 hc0
  go_wp2_with fail
  generalize w.alloc _ = w0 at hb0 hc0 ⊢
  go_loopw [5] (fun i wr => ∃ k : Nat, k ≤ l.length ∧ i = .int .i64 k ∧ Hid (s ∉ l.take k) ∧ RowKit.Below w.heap.size w wr ∧ (∀ j, wr.cell? ⟨w.heap.size, j, none⟩ = (#[.int .i64 s.student, .string s.code] : Array Value)[j]?)) (fun i _ => l.length - (RowKit.intOf i).toNat)
  case atStart => exact ⟨0, Nat.zero_le _, rfl, Lib.hid (by simp), hb0, hc0⟩
  case round =>
    clear hb0 hc0
    obtain ⟨k, hk, rfl, HK, hb0, hc0⟩ := hrel
    by_cases hlt : k < l.length
    · obtain ⟨b, o, c', hv, _, hbl, hx⟩ := H.out.at_ (k := 2) (fun _ => rfl) (by omega)
      have e1 := (Value.slice.inj hv).1
      subst e1
      have hz := List.getElem?_eq_getElem hlt
      have hat := hx k _ hz
      generalize l[k] = x at hz hat
      have h0 : wr.cell? ⟨b, o + k * 2, none⟩ = some (.int .i64 x.student) := by rw [hb0.cell (p := ⟨b, o + k * 2, none⟩) hbl]; exact hat 0 _ rfl
      have h1 : wr.cell? ⟨b, o + k * 2 + 1, none⟩ = some (.string x.code) := by rw [hb0.cell (p := ⟨b, o + k * 2 + 1, none⟩) hbl]; exact hat 1 _ rfl
      have HZ := Lib.hid hz
      clear hv hx hz hat
      obtain ⟨G, hG⟩ : ∃ G, eqSeat ⟨x.student, x.code⟩ ⟨s.student, s.code⟩ = G := ⟨_, rfl⟩
      have HG : Hid (eqSeat x s = G) := Lib.hid hG
      cases G
      · go_wp2_with fail
        go_quiet (fail)
        go_wp2_with fail
        go_roundw
        case rel => exact ⟨k + 1, by omega, by go_num, Lib.hid (not_take HZ.out HK.out (by rw [Bool.eq_false_iff]; intro e; have := (eqSeat_iff s x).1 e; subst this; rw [(eqSeat_iff s s).2 rfl] at HG; cases HG.out)), blw_drewN hb0 _, hc0⟩
        case measure => simp [RowKit.intOf]; omega
      · go_wp2_with fail
        go_quiet (fail)
        go_wp2_with fail
        go_ret
        exact ⟨ret_bool (by rw [eq_comm, decide_eq_true_eq, ← (eqSeat_iff x s).1 HG.out]; exact List.mem_of_getElem? HZ.out), blw_drewN hb0 _⟩
    · obtain rfl : k = l.length := by omega
      have hk2 := HK.out
      rw [List.take_length] at hk2
      go_wp2_with fail
      go_ret
      exact ⟨ret_bool (by rw [decide_eq_false hk2]), hb0⟩
/-- A deal as a value. -/
structure DealIn (w : World) (v : Value) (d : Deal) : Prop where
  val : ∃ p c q e, v = .agg #[.slice p d.seats.length c, .slice q d.waits.length e] ∧ RowIn Seat.cells w (.slice p d.seats.length c) d.seats ∧ RowIn Seat.cells w (.slice q d.waits.length e) d.waits
  ls : d.seats.length ≤ 1000000
  lw : d.waits.length ≤ 1000000
theorem DealIn.below {w w' : World} {v : Value} {d : Deal} (h : DealIn w v d) (hb : RowKit.Below w.heap.size w w') : DealIn w' v d := by
  obtain ⟨⟨p, c, q, e, h1, h2, h3⟩, h4, h5⟩ := h
  exact ⟨⟨p, c, q, e, h1, h2.below hb, h3.below hb⟩, h4, h5⟩
theorem DealIn.mk' {w : World} {sv wv : Value} {d : Deal} (hs : RowIn Seat.cells w sv d.seats) (hw : RowIn Seat.cells w wv d.waits) (h1 : d.seats.length ≤ 1000000) (h2 : d.waits.length ≤ 1000000) : DealIn w (.agg #[sv, wv]) d := by
  obtain ⟨p, c, rfl, _⟩ := hs.form
  obtain ⟨q, e, rfl, _⟩ := hw.form
  exact ⟨⟨p, c, q, e, rfl, hs, hw⟩, h1, h2⟩
def sameD (a b : Deal) : Bool := decide (a.seats = b.seats) && decide (a.waits = b.waits)
theorem sameD_refl (a : Deal) : sameD a a = true := by simp [sameD]
set_option maxRecDepth 100000 in
theorem refSame_any (x y : Value) (a b : Deal) (w : World) (hx : DealIn w x a) (hy : DealIn w y b) :
    Calls Tryz.prog 13 #[x, y] w fun e w' => e = .returned (.bool (sameD a b)) ∧ RowKit.Below w.heap.size w w' := by
  obtain ⟨⟨p, c, q, e, rfl, h2, h3⟩, h4, h5⟩ := hx
  obtain ⟨⟨p', c', q', e', rfl, k2, k3⟩, k4, k5⟩ := hy
  have hb2 := (below_alloc1 w (.cells #[.slice p a.seats.length c, .slice q a.waits.length e] 31)).alloc (by simp) (.cells #[.slice p' b.seats.length c', .slice q' b.waits.length e'] 31)
  have t2 : ∀ j, ((w.alloc (.cells #[.slice p a.seats.length c, .slice q a.waits.length e] 31)).alloc (.cells #[.slice p' b.seats.length c', .slice q' b.waits.length e'] 31)).cell? ⟨w.heap.size, j, none⟩ = (#[.slice p a.seats.length c, .slice q a.waits.length e] : Array Value)[j]? := fun j => ((below_alloc1 (w.alloc (.cells #[.slice p a.seats.length c, .slice q a.waits.length e] 31)) _).cell (p := ⟨w.heap.size, j, none⟩) (by simp)).trans (Lib.cell_of_heap (heap_alloc_new w _) j)
  have t3 : ∀ j, ((w.alloc (.cells #[.slice p a.seats.length c, .slice q a.waits.length e] 31)).alloc (.cells #[.slice p' b.seats.length c', .slice q' b.waits.length e'] 31)).cell? ⟨w.heap.size + 1, j, none⟩ = (#[.slice p' b.seats.length c', .slice q' b.waits.length e'] : Array Value)[j]? := fun j => Lib.cell_of_heap (new_two w _ _) j
  have c1 := sameSeats_any _ _ a.seats b.seats _ (h2.below hb2) (k2.below hb2) h4 k4
  have HA := Lib.hid (h3.below hb2)
  have HB := Lib.hid (k3.below hb2)
  have l1 : w.heap.size + 1 < ((w.alloc (.cells #[.slice p a.seats.length c, .slice q a.waits.length e] 31)).alloc (.cells #[.slice p' b.seats.length c', .slice q' b.waits.length e'] 31)).heap.size := by simp
  clear h2 h3 k2 k3
  go_enter Tryz.func13, Tryz.ntmps13
  go_wp2_with fail
  generalize (w.alloc _).alloc _ = w2 at hb2 t2 t3 c1 HA HB l1 ⊢
  have HS := Lib.hid (show sameD a b = (decide (a.seats = b.seats) && decide (a.waits = b.waits)) from rfl)
  generalize decide (a.seats = b.seats) = t at c1 HS
  refine c1.mono ?_
  rintro _ w3 ⟨rfl, hb3⟩
  have hb := below_next hb2 hb3
  cases t
  · go_wp2_with fail
    go_ret
    exact ⟨ret_bool (by rw [HS.out]; rfl), hb⟩
  · have u2 : ∀ j, w3.cell? ⟨w.heap.size, j, none⟩ = (#[.slice p a.seats.length c, .slice q a.waits.length e] : Array Value)[j]? := fun j => (hb3.cell (p := ⟨w.heap.size, j, none⟩) (by show w.heap.size < w2.heap.size; omega)).trans (t2 j)
    have u3 : ∀ j, w3.cell? ⟨w.heap.size + 1, j, none⟩ = (#[.slice p' b.seats.length c', .slice q' b.waits.length e'] : Array Value)[j]? := fun j => (hb3.cell (p := ⟨w.heap.size + 1, j, none⟩) l1).trans (t3 j)
    have c2 := sameSeats_any _ _ a.waits b.waits w3 (HA.out.below hb3) (HB.out.below hb3) h5 k5
    clear c1 t2 t3 hb3
    go_wp2_with fail
    refine c2.mono ?_
    rintro _ w4 ⟨rfl, hb4⟩
    go_wp2_with fail
    go_ret
    exact ⟨ret_bool (by rw [HS.out]; rfl), below_next hb hb4⟩
end Go.Proofs.YtjcogpalmgcpbaaGreat
/- market.Same: whether two deals are equal. -/
namespace Go.Proofs.YtjcogpalmgcpbaaGreat
open Go Go.Proofs Go.RowKit Go.Maps Go.Sort Go.Lib

/-- Two slices of seats side by side. -/
structure Pr where
  p : Option Addr
  c : Nat
  q : Option Addr
  e : Nat
  A : List Seat
  B : List Seat
def Pr.cells (z : Pr) : List Value := [.slice z.p z.A.length z.c, .slice z.q z.B.length z.e]
attribute [local go_sem] Pr.cells
structure PrOk (w : World) (z : Pr) : Prop where
  a : RowIn Seat.cells w (.slice z.p z.A.length z.c) z.A
  b : RowIn Seat.cells w (.slice z.q z.B.length z.e) z.B
  la : z.A.length ≤ 1000000
  lb : z.B.length ≤ 1000000
theorem PrOk.below {w w' : World} {z : Pr} (h : PrOk w z) (hb : RowKit.Below w.heap.size w w') : PrOk w' z := ⟨h.a.below hb, h.b.below hb, h.la, h.lb⟩










































































































end Go.Proofs.YtjcogpalmgcpbaaGreat
/- quadriviumref28.Met: who has met what. -/
namespace Go.Proofs.YtjcogpalmgcpbaaGreat
open Go Go.Proofs Go.RowKit Go.Maps Go.Sort Go.Lib
attribute [local go_sem] Seat.cells

/-- All seats of the students 1 to 5. -/
def metAll : List Seat := [1, 2, 3, 4, 5].flatMap fun s => codesL.map fun c => ⟨s, c⟩
def MetOk (bits : Int) (j : Nat) (M : List Seat) : Prop := M.length ≤ j ∧ (∀ s ∈ M, s.wf) ∧ (bits = 0 → M = metAll.take j)
theorem metAll_at {s k : Nat} (h1 : 1 ≤ s) (h5 : s ≤ 5) (hk : k < 6) {c : ByteArray} (hc : codesL[k]? = some c) : metAll[6 * (s - 1) + k]? = some ⟨s, c⟩ := by
  have hs : s = 1 ∨ s = 2 ∨ s = 3 ∨ s = 4 ∨ s = 5 := by omega
  have hkk : k = 0 ∨ k = 1 ∨ k = 2 ∨ k = 3 ∨ k = 4 ∨ k = 5 := by omega
  rcases hs with rfl | rfl | rfl | rfl | rfl <;> rcases hkk with rfl | rfl | rfl | rfl | rfl | rfl <;> (simp only [codesL] at hc; injection hc with hc; subst hc; rfl)
theorem MetOk.yes {bits : Int} {s k : Nat} {M : List Seat} {c : ByteArray} (h : MetOk bits (6 * (s - 1) + k) M) (h1 : 1 ≤ s) (h5 : s ≤ 5) (hk : k < 6) (hc : codesL[k]? = some c) : MetOk bits (6 * (s - 1) + (k + 1)) (M ++ [⟨s, c⟩]) := by
  have hcl : c.size ≤ 2 := by
    have hkk : k = 0 ∨ k = 1 ∨ k = 2 ∨ k = 3 ∨ k = 4 ∨ k = 5 := by omega
    rcases hkk with rfl | rfl | rfl | rfl | rfl | rfl <;> (simp only [codesL] at hc; injection hc with hc; subst hc; decide)
  refine ⟨by simp; have := h.1; omega, fun x hx => ?_, fun hb => ?_⟩
  · rw [List.mem_append, List.mem_singleton] at hx
    rcases hx with hx | rfl
    · exact h.2.1 x hx
    · refine ⟨?_, by unfold maxLen; show c.size ≤ _; omega⟩
      have hs : s = 1 ∨ s = 2 ∨ s = 3 ∨ s = 4 ∨ s = 5 := by omega
      rcases hs with rfl | rfl | rfl | rfl | rfl <;> rfl
  · rw [h.2.2 hb, show 6 * (s - 1) + (k + 1) = 6 * (s - 1) + k + 1 by omega, take_one (metAll_at h1 h5 hk hc)]
theorem MetOk.no {bits : Int} {j : Nat} {M : List Seat} (h : MetOk bits j M) (hb : bits ≠ 0) : MetOk bits (j + 1) M := ⟨by have := h.1; omega, h.2.1, fun e => absurd e hb⟩
def MetSt (bits : Int) (w1 : World) (j : Nat) (v : Value) (wr : World) : Prop := ∃ (M : List Seat) (p : Option Addr) (c : Nat), v = .slice p M.length c ∧ MetOk bits j M ∧ wr.ownsRow w1.heap.size 38 2 (.slice p M.length c) M.length (flatE Seat.cells M) ∧ RowKit.Below w1.heap.size w1 wr





























































































end Go.Proofs.YtjcogpalmgcpbaaGreat
/- quadriviumlaw28.deals: an example of the chapter. -/
namespace Go.Proofs.YtjcogpalmgcpbaaGreat
open Go Go.Proofs Go.RowKit Go.Maps Go.Sort Go.Lib
attribute [local go_sem] Seat.cells Req.cells

structure Asked where
  student : Int
  code : ByteArray
  give : ByteArray
  priority : Int
def Asked.cells (a : Asked) : List Value := [.int .i64 a.student, .string a.code, .string a.give, .int .i64 a.priority]
attribute [local go_sem] Asked.cells
def askR (k : Nat) (a : Asked) : Req := ⟨1, (k : Int) + 1, false, a.student, 4, a.code, a.give, a.priority, 400⟩
def asksR (l : List Asked) : List Req := l.mapIdx askR
theorem asksR_snoc (l : List Asked) (a : Asked) : asksR (l ++ [a]) = asksR l ++ [askR l.length a] := by
  unfold asksR; rw [List.mapIdx_append]; simp
/-- The catalog of the examples; x and y: where the lists of times lie. -/
def cat0 (x y : Nat) : List Off := [⟨⟨#[65, 49]⟩, 5, 1, some ⟨x, 0, none⟩, 1, none, 0, [1], []⟩, ⟨⟨#[66, 49]⟩, 6, 2, some ⟨y, 0, none⟩, 1, none, 0, [1], []⟩, ⟨⟨#[67, 49]⟩, 10, 9, none, 0, none, 0, [], []⟩]




theorem cat0_in (w : World) (h : Nat) (hh : w.heap.size = h) (w3 : World) (h3 : w3 = ((w.alloc (.cells #[.int .i64 1] 3)).alloc (.cells #[.int .i64 1] 3)).alloc (.cells #[.string ⟨#[65, 49]⟩, .int .i64 5, .int .i64 1, .slice (some ⟨h, 0, none⟩) 1 1, .slice none 0 0, .string ⟨#[66, 49]⟩, .int .i64 6, .int .i64 2, .slice (some ⟨h + 1, 0, none⟩) 1 1, .slice none 0 0, .string ⟨#[67, 49]⟩, .int .i64 10, .int .i64 9, .slice none 0 0, .slice none 0 0] 72)) :
    RowIn Off.cells w3 (.slice (some ⟨h + 1 + 1, 0, none⟩) 3 3) (cat0 h (h + 1)) ∧ (∀ o ∈ cat0 h (h + 1), OffOk w3 o ∧ o.few) ∧ RowKit.Below w.heap.size w w3 := by
  have r1 := rowIn_lit (enc := encI) (e := 3) w [1] #[.int .i64 1] h hh rfl 1 rfl
  have r2 := rowIn_lit (enc := encI) (e := 3) (w.alloc (.cells #[.int .i64 1] 3)) [1] #[.int .i64 1] (h + 1) (by simp [hh]) rfl 1 rfl
  have b1 := below_alloc1 (w.alloc (.cells #[.int .i64 1] 3)) (.cells #[.int .i64 1] 3)
  have b2 := below_alloc1 ((w.alloc (.cells #[.int .i64 1] 3)).alloc (.cells #[.int .i64 1] 3)) (.cells #[.string ⟨#[65, 49]⟩, .int .i64 5, .int .i64 1, .slice (some ⟨h, 0, none⟩) 1 1, .slice none 0 0, .string ⟨#[66, 49]⟩, .int .i64 6, .int .i64 2, .slice (some ⟨h + 1, 0, none⟩) 1 1, .slice none 0 0, .string ⟨#[67, 49]⟩, .int .i64 10, .int .i64 9, .slice none 0 0, .slice none 0 0] 72)
  have r3 := rowIn_lit (enc := Off.cells) (e := 72) ((w.alloc (.cells #[.int .i64 1] 3)).alloc (.cells #[.int .i64 1] 3)) (cat0 h (h + 1)) #[.string ⟨#[65, 49]⟩, .int .i64 5, .int .i64 1, .slice (some ⟨h, 0, none⟩) 1 1, .slice none 0 0, .string ⟨#[66, 49]⟩, .int .i64 6, .int .i64 2, .slice (some ⟨h + 1, 0, none⟩) 1 1, .slice none 0 0, .string ⟨#[67, 49]⟩, .int .i64 10, .int .i64 9, .slice none 0 0, .slice none 0 0] (h + 1 + 1) (by simp [hh]) rfl 3 rfl
  subst h3
  refine ⟨r3, fun o ho => ?_, ((below_alloc1 w _).alloc (by simp) _).alloc (by simp <;> omega) _⟩
  simp only [cat0, List.mem_cons, List.not_mem_nil, or_false] at ho
  rcases ho with rfl | rfl | rfl
  · exact ⟨⟨(r1.below b1).below b2, RowIn.nil _ _⟩, by show 1 ≤ 1000000000000; omega⟩
  · exact ⟨⟨r2.below b2, RowIn.nil _ _⟩, by show 1 ≤ 1000000000000; omega⟩
  · exact ⟨⟨RowIn.nil _ _, RowIn.nil _ _⟩, by show 0 ≤ 1000000000000; omega⟩
theorem actR_len_le {M R : List Req} (h : IsSet M R) : (actR M).length ≤ R.length := Nat.le_trans (keepR_len _ _) (isSet_len h)































































































end Go.Proofs.YtjcogpalmgcpbaaGreat
namespace Go.Proofs.YtjcogpalmgcpbaaGreat
open Go Go.Proofs Go.RowKit Go.Maps Go.Sort Go.Lib
attribute [local go_sem] Seat.cells Asked.cells

instance fitsDec (r : Req) : Decidable r.fits := by unfold Req.fits Req.wf; infer_instance
theorem ord_is {R O : List Req} (h1 : ∀ r ∈ R, chkR r = 0 ∧ r.cancel = false) (h2 : R.Pairwise fun a b => numR a ≠ numR b) (h3 : IsOrd O R) : ∀ O', ActOrd R O' → O' = O :=
  fun _ h => (h.whole h1 h2).same h3 fun _ => Iff.rfl
















































































































































































end Go.Proofs.YtjcogpalmgcpbaaGreat
