/- market.Check: whether a deal is permitted. -/
import Derived.Test.YtjcogpalmgcpbaaMkDl
namespace Go.Proofs.Ytjcogpalmgcpbaa
open Go Go.Proofs Go.RowKit Go.Maps Go.Sort Go.Lib
attribute [local go_sem] Seat.cells

/-- A catalog and who has met what, as a world holds them. -/
structure CatIn (w : World) (ov mv : Value) (L : List Off) (M : List Seat) : Prop where
  off : RowIn Off.cells w ov L
  ok : ∀ o ∈ L, OffOk w o ∧ o.few
  code : ∀ o ∈ L, o.code.size ≤ maxLen
  met : RowIn Seat.cells w mv M
  wf : ∀ s ∈ M, s.wf
  lo : L.length ≤ 1000000
  lm : M.length ≤ 1000000
theorem CatIn.below {w w' : World} {ov mv : Value} {L : List Off} {M : List Seat} (h : CatIn w ov mv L M) (hb : RowKit.Below w.heap.size w w') : CatIn w' ov mv L M :=
  ⟨h.off.below hb, fun o ho => ⟨(h.ok o ho).1.below hb, (h.ok o ho).2⟩, h.code, h.met.below hb, h.wf, h.lo, h.lm⟩




theorem checkP_step {L : List Off} {M : List Seat} {most : Int} {l : List Seat} {k : Nat} {s : Seat} (h : checkP L M most l k = 0) (hs : l[k]? = some s) : checkP L M most l (k + 1) = fitsP L M most (l.take k) s := by
  show (if checkP L M most l k = 0 then (match l[k]? with | some s => fitsP L M most (l.take k) s | none => 0) else checkP L M most l k) = _
  rw [if_pos h, hs]
theorem checkP_stop {L : List Off} {M : List Seat} {most : Int} {l : List Seat} {k : Nat} (h : checkP L M most l k ≠ 0) : ∀ n, k ≤ n → checkP L M most l n = checkP L M most l k := by
  intro n hn
  induction n with
  | zero => obtain rfl : k = 0 := by omega
            rfl
  | succ n ih =>
    rcases Nat.lt_or_ge n k with h' | h'
    · obtain rfl : k = n + 1 := by omega
      rfl
    · have ih := ih h'
      show (if checkP L M most l n = 0 then (match l[n]? with | some s => fitsP L M most (l.take n) s | none => 0) else checkP L M most l n) = _
      rw [if_neg (by rw [ih]; exact h), ih]
set_option maxHeartbeats 4000000 in
set_option maxRecDepth 100000 in
theorem check_any (ov mv sv wv : Value) (L : List Off) (M : List Seat) (most : Int) (l W : List Seat) (w : World) (hc : CatIn w ov mv L M) (hs : RowIn Seat.cells w sv l) (hw : RowIn Seat.cells w wv W) (hl : l.length ≤ 1000000) (hwf : ∀ x ∈ l, x.wf) :
    Calls Try.prog 5 #[ov, mv, .int .i64 most, .agg #[sv, wv]] w fun e w' => e = .returned (.int .i64 (checkP L M most l l.length)) ∧ RowKit.Below w.heap.size w w' := by
  obtain ⟨p1, c1, rfl, _⟩ := hc.off.form
  obtain ⟨p2, c2, rfl, _⟩ := hc.met.form
  obtain ⟨p3, c3, rfl, hlc⟩ := hs.form
  obtain ⟨p4, c4, rfl, _⟩ := hw.form
  have HC := Lib.hid hc
  have HS := Lib.hid hs
  have HWF := Lib.hid hwf
  have hb0 := below_alloc1 w (.cells #[.slice p3 l.length c3, .slice p4 W.length c4] 35)
  have hx0 := heap_alloc_new w (.cells #[.slice p3 l.length c3, .slice p4 W.length c4] 35)
  have hc0 := hc.below hb0
  have cp := prepare_any _ _ L M most _ hc0.off hc0.met hc0.code hc0.wf hc0.lo hc0.lm
  clear hc hs hw hwf hc0
  go_enter Try.func5, Try.ntmps5
  go_wp2_with fail
  refine cp.mono ?_
  rintro _ w1 ⟨b1, b2, rfl, hRu, hb1⟩
  clear cp
  have hb2 := below_alloc1 w1 (.cells #[.map (some b1), .map (some b2), .int .i64 most] 55)
  have hRu2 := hRu.below hb2
  have hB2 := below_next (below_next hb0 hb1) hb2
  have hx1 := (hb1.block w.heap.size (by simp)).trans hx0
  have hx2 := (hb2.block w.heap.size (Array.getElem?_eq_some_iff.1 hx1).1).trans hx1
  have hg2 := heap_alloc_new w1 (.cells #[.map (some b1), .map (some b2), .int .i64 most] 55)
  have hd2 : ∀ j, (w1.alloc (.cells #[.map (some b1), .map (some b2), .int .i64 most] 55)).cell? ⟨w.heap.size, j, none⟩ = (#[.slice p3 l.length c3, .slice p4 W.length c4] : Array Value)[j]? := fun j => Lib.cell_of_heap hx2 j
  clear hRu hb0 hb1 hb2 hx0 hx1
  go_wp2_with fail
  generalize hgr : w1.heap.size = gr at hg2 ⊢
  generalize w1.alloc _ = w2 at hB2 hRu2 hx2 hg2 hd2 ⊢
  have lx := (Array.getElem?_eq_some_iff.1 hx2).1
  have lg := (Array.getElem?_eq_some_iff.1 hg2).1
  have HX := Lib.hid hx2
  have HG := Lib.hid hg2
  have HR := Lib.hid hRu2
  have HB := Lib.hid hB2
  clear hd2 hx2 hg2 hRu2 hB2
  go_loopw [20] (fun i wr => ∃ k : Nat, k ≤ l.length ∧ i = .int .i64 k ∧ Hid (checkP L M most l k = 0) ∧ RowKit.Below w2.heap.size w2 wr) (fun i _ => l.length - (RowKit.intOf i).toNat)
  case atStart => exact ⟨0, Nat.zero_le _, rfl, Lib.hid rfl, Below.refl _ _⟩
  case round =>
    obtain ⟨k, hk, rfl, HK, hbr⟩ := hrel
    by_cases hlt : k < l.length
    · obtain ⟨g, o, c', hv, _, hgl, hx⟩ := HS.out.at_ (k := 2) (fun _ => rfl) (by omega)
      have e1 := (Value.slice.inj hv).1
      subst e1
      have hz := List.getElem?_eq_getElem hlt
      have hat := hx k _ hz
      have HXW := Lib.hid (HWF.out _ (List.getElem_mem hlt))
      have HST := Lib.hid (checkP_step HK.out hz)
      have HSO := Lib.hid (checkP_stop (L := L) (M := M) (most := most) (l := l) (k := k + 1))
      generalize l[k] = x at hz hat HXW HST
      have hbw : RowKit.Below w.heap.size w wr := HB.out.trans (hbr.mono HB.out.size)
      have hatk : wr.rangeAt g (o + k * 2) x.cells := fun j v hj => by rw [hbw.cell (p := ⟨g, o + k * 2 + j, none⟩) hgl]; exact hat j v hj
      have hb3 : RowKit.Below w2.heap.size w2 (wr.alloc (.cells #[.int .i64 x.student, .string x.code] 32)) := hbr.alloc hbr.size _
      have hbw3 := HB.out.trans (hb3.mono HB.out.size)
      have hbx : ∀ j, (wr.alloc (.cells #[.int .i64 x.student, .string x.code] 32)).cell? ⟨wr.heap.size, j, none⟩ = (#[.int .i64 x.student, .string x.code] : Array Value)[j]? := fun j => Lib.cell_of_heap (heap_alloc_new wr _) j
      have hgc : ∀ j, (wr.alloc (.cells #[.int .i64 x.student, .string x.code] 32)).cell? ⟨gr, j, none⟩ = (#[.map (some b1), .map (some b2), .int .i64 most] : Array Value)[j]? := fun j => (hb3.cell (p := ⟨gr, j, none⟩) lg).trans (Lib.cell_of_heap HG.out j)
      have hdc : ∀ j, (wr.alloc (.cells #[.int .i64 x.student, .string x.code] 32)).cell? ⟨w.heap.size, j, none⟩ = (#[.slice (some ⟨g, o, none⟩) l.length c3, .slice p4 W.length c4] : Array Value)[j]? := fun j => (hb3.cell (p := ⟨w.heap.size, j, none⟩) lx).trans (Lib.cell_of_heap HX.out j)
      have htk : (l.take k).length = k := by simp; omega
      have hrt := (HS.out.below hbw3).take (m := k) rfl (by omega)
      have hc3 := HC.out.below hbw3
      have cft := fits_any b1 b2 L M most (.slice (some ⟨g, o, none⟩) k c3) (l.take k) x (wr.alloc (.cells #[.int .i64 x.student, .string x.code] 32)).drew ((HR.out.below hb3).below (Below.refl _ _).drew) (fun o ho => ⟨(hc3.ok o ho).1.below (Below.refl _ _).drew, (hc3.ok o ho).2⟩) (hrt.below (Below.refl _ _).drew) (by omega) HXW.out (fun y hy => HWF.out y (List.mem_of_mem_take hy))
      have i1 : (0 : Int) ≤ (k : Int) := by omega
      have i2 : (k : Int) ≤ (l.length : Int) := by omega
      have i3 : (k : Int) ≤ (c3 : Int) := by omega
      generalize fitsP L M most (l.take k) x = e at HST cft
      have HE := Lib.hid hb3
      clear hv hx hz hat hbw hbw3 hb3 hrt hc3 htk
      go_wp2_with ((with_reducible refine wpList_load_mid (op := ⟨some 24, _, _, _, _, _⟩) ?_ 32 (.tmp 23) ?_ g (o + k * 2) ?_ x.cells _ ?_ Try.underlying32 ?_ ?_ ?_); rfl; rfl; rfl; exact hatk; rfl; kernel_rfl)
      have lx3 : w.heap.size < (wr.alloc (.cells #[.int .i64 x.student, .string x.code] 32)).heap.size := Nat.lt_of_lt_of_le lx HE.out.size
      have lg3 : gr < (wr.alloc (.cells #[.int .i64 x.student, .string x.code] 32)).heap.size := Nat.lt_of_lt_of_le lg HE.out.size
      have ls3 : wr.heap.size < (wr.alloc (.cells #[.int .i64 x.student, .string x.code] 32)).heap.size := by simp
      generalize wr.alloc _ = w3 at hbx hgc hdc cft HE lx3 lg3 ls3 ⊢
      have keepS : ∀ w', RowKit.Below w3.heap.size w3 w' → RowKit.Below w3.heap.size w3 w' ∧ (∀ j, w'.cell? ⟨wr.heap.size, j, none⟩ = (#[.int .i64 x.student, .string x.code] : Array Value)[j]?) ∧ (∀ j, w'.cell? ⟨gr, j, none⟩ = (#[.map (some b1), .map (some b2), .int .i64 most] : Array Value)[j]?) ∧ (∀ j, w'.cell? ⟨w.heap.size, j, none⟩ = (#[.slice (some ⟨g, o, none⟩) l.length c3, .slice p4 W.length c4] : Array Value)[j]?) :=
        fun w' hb => ⟨hb, fun j => (hb.cell (p := ⟨wr.heap.size, j, none⟩) ls3).trans (hbx j), fun j => (hb.cell (p := ⟨gr, j, none⟩) lg3).trans (hgc j), fun j => (hb.cell (p := ⟨w.heap.size, j, none⟩) lx3).trans (hdc j)⟩
      have hS0 := keepS _ (Below.refl w3.heap.size w3).drew
      go_region_held3 (fun w' => RowKit.Below w3.heap.size w3 w' ∧ (∀ j, w'.cell? ⟨wr.heap.size, j, none⟩ = (#[.int .i64 x.student, .string x.code] : Array Value)[j]?) ∧ (∀ j, w'.cell? ⟨gr, j, none⟩ = (#[.map (some b1), .map (some b2), .int .i64 most] : Array Value)[j]?) ∧ (∀ j, w'.cell? ⟨w.heap.size, j, none⟩ = (#[.slice (some ⟨g, o, none⟩) l.length c3, .slice p4 W.length c4] : Array Value)[j]?)) (first | exact hS0 | assumption)
        (first | (go_at_call 14; refine cft.mono ?_; rintro _ w4 ⟨rfl, hb4⟩; have hS4 := keepS w4 (below_next (Below.refl _ _).drew hb4)))
      have HB4 := Lib.hid (below_next HE.out hS4.1)
      clear hS0 hS4 keepS cft hbx hgc hdc
      by_cases he : e = 0
      · subst he
        have HK2 : Hid (checkP L M most l (k + 1) = 0) := Lib.hid HST.out
        go_wp2_with fail
        go_roundw
        case rel => exact ⟨k + 1, by omega, by go_num, HK2, HB4.out⟩
        case measure => simp [RowKit.intOf]; omega
      · have he2 : (e != 0) = true := by simpa using he
        have HF := Lib.hid (HSO.out (by rw [HST.out]; exact he) l.length (by omega))
        have hbw : RowKit.Below w.heap.size w w4 := HB.out.trans (HB4.out.mono HB.out.size)
        clear he
        go_wp2_with fail
        go_ret
        exact ⟨ret_int (by rw [HF.out, HST.out]), hbw⟩
    · obtain rfl : k = l.length := by omega
      have hbw : RowKit.Below w.heap.size w wr := HB.out.trans (hbr.mono HB.out.size)
      go_wp2_with fail
      go_ret
      exact ⟨ret_int HK.out.symm, hbw⟩
end Go.Proofs.Ytjcogpalmgcpbaa
