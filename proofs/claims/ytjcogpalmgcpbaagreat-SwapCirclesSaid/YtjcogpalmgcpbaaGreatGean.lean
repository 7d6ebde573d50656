/- market.Deal, walked: what it deals out. -/
import Derived.Test.YtjcogpalmgcpbaaGreatGeal
import Derived.Test.YtjcogpalmgcpbaaGreatGeaj
import Derived.Test.YtjcogpalmgcpbaaGreatShelf
import Derived.Test.YtjcogpalmgcpbaaGreatGeab
import Derived.BigRegion
/- market.rules.fits: the error of a seat. -/
namespace Go.Proofs.YtjcogpalmgcpbaaGreat
open Go Go.Proofs Go.RowKit Go.Maps Go.Sort Go.Lib
attribute [local go_sem] Seat.cells Off.cells

theorem fitsP_bools (L : List Off) (met : List Seat) (most : Int) (l : List Seat) (s : Seat) : fitsP L met most l s =
    if (!(findO L s.code).isSome) = true then 5 else if decide (s ∈ l) = true then 6 else if (!decide (s ∈ met)) = true then 13 else if decide ((getO L s.code).places ≤ (takenF l s.code : Int)) = true then 50
    else if clashF L (getO L s.code) l s.student = true then 51 else if decide (most < creditsF L l s.student (getO L s.code).credits) = true then 3 else 0 := by
  unfold fitsP
  cases findO L s.code <;> simp
theorem getO_few {L : List Off} (h : ∀ o ∈ L, o.few) (c : ByteArray) : (getO L c).few := by
  unfold getO
  cases hf : findO L c with
  | none => exact Nat.zero_le _
  | some o => exact h o (List.mem_of_find?_eq_some hf)
theorem takenF_le (l : List Seat) (c : ByteArray) : takenF l c ≤ l.length := List.countP_le_length
theorem creditsF_snoc (L : List Off) (l : List Seat) (x : Seat) (st c0 : Int) : creditsF L (l ++ [x]) st c0 = addC L st (creditsF L l st c0) x := by unfold creditsF; rw [List.foldl_append]; rfl
theorem clashF_snoc (L : List Off) (o : Off) (l : List Seat) (x : Seat) (st : Int) : clashF L o (l ++ [x]) st = (clashF L o l st || (decide (x.student = st) && clashO o (getO L x.code))) := by unfold clashF; simp [List.any_append]
theorem three_new (w : World) (a b c : Obj) : ((((w.alloc a).alloc b).alloc c).heap[w.heap.size]? = some a ∧ (((w.alloc a).alloc b).alloc c).heap[w.heap.size + 1]? = some b ∧ (((w.alloc a).alloc b).alloc c).heap[w.heap.size + 1 + 1]? = some c) := by
  refine ⟨?_, ?_, ?_⟩
  · exact ((below_alloc1 ((w.alloc a).alloc b) c).block w.heap.size (by simp; omega)).trans (((below_alloc1 (w.alloc a) b).block w.heap.size (by simp)).trans (heap_alloc_new w a))
  · exact ((below_alloc1 ((w.alloc a).alloc b) c).block (w.heap.size + 1) (by simp)).trans (new_two w a b)
  · have := new_two (w.alloc a) b c
    simpa using this
set_option maxHeartbeats 8000000 in
set_option maxRecDepth 100000 in
theorem fits_any (b1 b2 : Nat) (L : List Off) (M : List Seat) (most : Int) (lv : Value) (l : List Seat) (s : Seat) (w : World) (hr : RulesAt w b1 b2 L M) (ho : ∀ o ∈ L, OffOk w o ∧ o.few) (hl : RowIn Seat.cells w lv l) (hn : l.length ≤ 1000000) (hs : s.wf) (hls : ∀ x ∈ l, x.wf) :
    Calls Tryz.prog 21 #[.agg #[.map (some b1), .map (some b2), .int .i64 most], lv, .agg #[.int .i64 s.student, .string s.code]] w fun e w' => e = .returned (.int .i64 (fitsP L M most l s)) ∧ RowKit.Below w.heap.size w w' := by
  obtain ⟨p1, c1, rfl, _⟩ := hl.form
  have HR := Lib.hid hr
  have HO := Lib.hid ho
  have HL := Lib.hid hl
  have HS := Lib.hid hs
  have HLS := Lib.hid hls
  obtain ⟨⟨n1, D1, o1, o2⟩, ⟨n2, D2, m1, m2⟩⟩ := hr
  have HD1 := Lib.hid o2
  have HM := Lib.hid (m2 s hs)
  obtain ⟨hhas, hat0⟩ := o2 s.code
  have hkey := key_code s.code hs.2
  have HFB := Lib.hid (fitsP_bools L M most l s)
  generalize hok : (findO L s.code).isSome = ok at hhas HFB
  generalize hoo : getO L s.code = o at hat0 HFB
  have own1 := (o1.alloc (.cells #[.map (some b1), .map (some b2), .int .i64 most] 59)).alloc (.cells #[.int .i64 s.student, .string s.code] 38)
  have HO1 := Lib.hid o1
  have HM1 := Lib.hid m1
  have hT := three_new w (.cells #[.map (some b1), .map (some b2), .int .i64 most] 59) (.cells #[.int .i64 s.student, .string s.code] 38) (.cells o.cells.toArray 72)
  have hB := ((below_alloc1 w (.cells #[.map (some b1), .map (some b2), .int .i64 most] 59)).alloc (by simp) (.cells #[.int .i64 s.student, .string s.code] 38)).alloc (by simp <;> omega) (.cells o.cells.toArray 72)
  clear ho hl hs hls o2 m2 o1 m1
  simp only [Off.cells] at hT hB
  go_enter Tryz.func21, Tryz.ntmps21
  go_wp2_with (at_lookup; refine wpList_lookup_held_ok _ rfl _ _ 56 rfl 9 72 str_keyed Tryz.underlying56 (Tryz.zeroValue72 _) b1 n1 D1 rfl own1 _ (litC s.code) rfl hkey _ hat0 ok hhas ?_)
  generalize ((w.alloc _).alloc _).alloc _ = w1 at hT hB ⊢
  obtain ⟨t1, t2, t3⟩ := hT
  have lt1 := (Array.getElem?_eq_some_iff.1 t1).1
  have lt2 := (Array.getElem?_eq_some_iff.1 t2).1
  have lt3 := (Array.getElem?_eq_some_iff.1 t3).1
  generalize hg1 : w.heap.size = g1 at t1 t2 t3 lt1 lt2 lt3 ⊢
  have hc1 : ∀ j, w1.cell? ⟨g1, j, none⟩ = (#[.map (some b1), .map (some b2), .int .i64 most] : Array Value)[j]? := fun j => Lib.cell_of_heap t1 j
  have hc2 : ∀ j, w1.cell? ⟨g1 + 1, j, none⟩ = (#[.int .i64 s.student, .string s.code] : Array Value)[j]? := fun j => Lib.cell_of_heap t2 j
  have hc3 : ∀ j, w1.cell? ⟨g1 + 1 + 1, j, none⟩ = (#[.string o.code, .int .i64 o.credits, .int .i64 o.places, .slice o.sp o.slots.length o.sc, .slice o.np o.needs.length o.nc] : Array Value)[j]? := fun j => Lib.cell_of_heap t3 j
  clear t1 t2 t3 own1 hat0 hhas
  go_quiet (fail)
  go_wp2_with fail
  have HC1 := Lib.hid hc1
  have HC2 := Lib.hid hc2
  have HC3 := Lib.hid hc3
  have HB := Lib.hid hB
  clear hc1 hc2 hc3 hB
  go_loopw [9, 10, 11, 27] (fun v9 v10 v11 i wr => ∃ (k n : Nat) (c : Int) (q : Bool), k ≤ l.length ∧ n ≤ k ∧ v9 = .int .i64 n ∧ v10 = .int .i64 c ∧ v11 = .bool q ∧ i = .int .i64 k ∧ Hid (n = takenF (l.take k) s.code ∧ c = creditsF L (l.take k) s.student o.credits ∧ q = clashF L o (l.take k) s.student) ∧ RowKit.Below w1.heap.size w1 wr) (fun _ _ _ i _ => l.length - (RowKit.intOf i).toNat)
  case atStart => exact ⟨0, 0, _, _, Nat.zero_le _, Nat.le_refl _, rfl, rfl, rfl, rfl, Lib.hid ⟨rfl, rfl, rfl⟩, blw_drewN (Below.refl _ _) _⟩
  case round =>
    obtain ⟨k, n, c, q, hk, hnk, rfl, rfl, rfl, rfl, HI, hbr⟩ := hrel
    by_cases hlt : k < l.length
    · obtain ⟨g, of, c', hv, _, hgl, hx⟩ := HL.out.at_ (k := 2) (fun _ => rfl) (by omega)
      have e1 := (Value.slice.inj hv).1
      subst e1
      have hz := List.getElem?_eq_getElem hlt
      have hat := hx k _ hz
      have HX := Lib.hid (HLS.out _ (List.getElem_mem hlt))
      have HTK := Lib.hid (take_one hz)
      generalize l[k] = x at hz hat HX HTK
      obtain ⟨xs, xc⟩ := x
      have hbw : RowKit.Below w.heap.size w wr := HB.out.trans (hbr.mono HB.out.size)
      have hatk : wr.rangeAt g (of + k * 2) [.int .i64 xs, .string xc] := fun j v hj => by rw [hbw.cell (p := ⟨g, of + k * 2 + j, none⟩) hgl]; exact hat j v hj
      have hb2 : RowKit.Below w1.heap.size w1 (wr.alloc (.cells #[.int .i64 xs, .string xc] 38)) := hbr.alloc hbr.size _
      have hbx : ∀ j, (wr.alloc (.cells #[.int .i64 xs, .string xc] 38)).cell? ⟨wr.heap.size, j, none⟩ = (#[.int .i64 xs, .string xc] : Array Value)[j]? := fun j => Lib.cell_of_heap (heap_alloc_new wr _) j
      have d1 : ∀ j, (wr.alloc (.cells #[.int .i64 xs, .string xc] 38)).cell? ⟨g1, j, none⟩ = (#[.map (some b1), .map (some b2), .int .i64 most] : Array Value)[j]? := fun j => by rw [hb2.cell (p := ⟨g1, j, none⟩) lt1]; exact HC1.out j
      have d2 : ∀ j, (wr.alloc (.cells #[.int .i64 xs, .string xc] 38)).cell? ⟨g1 + 1, j, none⟩ = (#[.int .i64 s.student, .string s.code] : Array Value)[j]? := fun j => by rw [hb2.cell (p := ⟨g1 + 1, j, none⟩) lt2]; exact HC2.out j
      have hsz1 : wr.heap.size < (wr.alloc (.cells #[.int .i64 xs, .string xc] 38)).heap.size := by simp
      have hwrap : IntKind.i64.wrap ((n : Int) + 1) = ((n + 1 : Nat) : Int) := by rw [IntWalk.i64_in _ (by omega)]; omega
      clear hv hx hz hat
      generalize hG : (xc.toList == s.code.toList) = g2
      have HT : Hid (takenF (l.take (k + 1)) s.code = n + if g2 = true then 1 else 0) := Lib.hid (by
        rw [HTK.out, takenF_snoc, ← HI.out.1, ← hG]
        congr 1
        by_cases h : xc.toList = s.code.toList <;> simp [h])
      by_cases hst : xs = s.student
      · subst hst
        generalize hy : getO L xc = y
        have hyo : OffOk w y := by rw [← hy]; exact getO_ok (fun o h => (HO.out o h).1) _
        have hyf : y.few := by rw [← hy]; exact getO_few (fun o h => (HO.out o h).2) _
        have hbw2 : RowKit.Below w.heap.size w (wr.alloc (.cells #[.int .i64 s.student, .string xc] 38)) := HB.out.trans (hb2.mono HB.out.size)
        have own2 := HO1.out.kept (row := none) (below_grows hbw2) (by simp)
        have hkx := key_code xc HX.out.2
        have haty := (HD1.out xc).2
        rw [hy] at haty
        have hcw : ∃ c', IntKind.i64.wrap (c + y.credits) = c' := ⟨_, rfl⟩
        obtain ⟨c', hcw⟩ := hcw
        have HCr : Hid (creditsF L (l.take (k + 1)) s.student o.credits = c') := Lib.hid (by
          rw [HTK.out, creditsF_snoc, ← HI.out.2.1]
          unfold addC; rw [if_pos rfl, hy, hcw])
        have HCl : Hid (clashF L o (l.take (k + 1)) s.student = (q || clashO o y)) := Lib.hid (by
          rw [HTK.out, clashF_snoc, ← HI.out.2.2, decide_eq_true rfl, hy]; simp)
        have hb3 := hb2.alloc hb2.size (.cells y.cells.toArray 72)
        have hbw3 := hbw2.alloc hbw2.size (.cells y.cells.toArray 72)
        have hby : ∀ j, ((wr.alloc (.cells #[.int .i64 s.student, .string xc] 38)).alloc (.cells y.cells.toArray 72)).cell? ⟨wr.heap.size + 1, j, none⟩ = y.cells.toArray[j]? := fun j => Lib.cell_of_heap (new_two _ _ _) j
        have d3 : ∀ j, ((wr.alloc (.cells #[.int .i64 s.student, .string xc] 38)).alloc (.cells y.cells.toArray 72)).cell? ⟨g1 + 1 + 1, j, none⟩ = (#[.string o.code, .int .i64 o.credits, .int .i64 o.places, .slice o.sp o.slots.length o.sc, .slice o.np o.needs.length o.nc] : Array Value)[j]? := fun j => by rw [hb3.cell (p := ⟨g1 + 1 + 1, j, none⟩) lt3]; exact HC3.out j
        have HOO : Hid (OffOk w o ∧ o.few) := Lib.hid (by rw [← hoo]; exact ⟨getO_ok (fun o h => (HO.out o h).1) _, getO_few (fun o h => (HO.out o h).2) _⟩)
        have HY := Lib.hid hyo
        have HYF := Lib.hid hyf
        have HCW := Lib.hid hcw
        clear hy hyo hyf
        simp only [Off.cells] at hb3 hbw3 hby d3
        cases g2
        · cases q
          · go_wp2_with (first
              | ((with_reducible refine wpList_load_mid (op := ⟨some 30, _, _, _, _, _⟩) ?_ 38 (.tmp 29) ?_ g (of + k * 2) ?_ [.int .i64 s.student, .string xc] _ ?_ Tryz.underlying38 ?_ ?_ ?_); rfl; rfl; rfl; exact hatk; rfl; kernel_rfl)
              | (at_lookup; refine wpList_lookup_held _ rfl _ _ 56 rfl 9 72 str_keyed Tryz.underlying56 (Tryz.zeroValue72 _) b1 n1 D1 rfl own2 _ (litC xc) rfl hkx _ haty ?_))
            refine (clash_any o y _ (HOO.out.1.slots.below hbw3) (HY.out.slots.below hbw3) HOO.out.2 HYF.out).mono ?_
            rintro _ w4 ⟨rfl, hb4⟩
            go_wp2_with fail
            go_roundw
            case rel => exact ⟨k + 1, n, c', clashO o y, by omega, by omega, rfl, rfl, rfl, by go_num, Lib.hid ⟨by rw [HT.out]; rfl, HCr.out.symm, by rw [HCl.out]; rfl⟩, below_next hb3 hb4⟩
            case measure => simp [RowKit.intOf]; omega
          · go_wp2_with (first
              | ((with_reducible refine wpList_load_mid (op := ⟨some 30, _, _, _, _, _⟩) ?_ 38 (.tmp 29) ?_ g (of + k * 2) ?_ [.int .i64 s.student, .string xc] _ ?_ Tryz.underlying38 ?_ ?_ ?_); rfl; rfl; rfl; exact hatk; rfl; kernel_rfl)
              | (at_lookup; refine wpList_lookup_held _ rfl _ _ 56 rfl 9 72 str_keyed Tryz.underlying56 (Tryz.zeroValue72 _) b1 n1 D1 rfl own2 _ (litC xc) rfl hkx _ haty ?_))
            go_roundw
            case rel => exact ⟨k + 1, n, c', true, by omega, by omega, rfl, rfl, rfl, by go_num, Lib.hid ⟨by rw [HT.out]; rfl, HCr.out.symm, by rw [HCl.out]; rfl⟩, hb3⟩
            case measure => simp [RowKit.intOf]; omega
        · cases q
          · go_wp2_with (first
              | ((with_reducible refine wpList_load_mid (op := ⟨some 30, _, _, _, _, _⟩) ?_ 38 (.tmp 29) ?_ g (of + k * 2) ?_ [.int .i64 s.student, .string xc] _ ?_ Tryz.underlying38 ?_ ?_ ?_); rfl; rfl; rfl; exact hatk; rfl; kernel_rfl)
              | (at_lookup; refine wpList_lookup_held _ rfl _ _ 56 rfl 9 72 str_keyed Tryz.underlying56 (Tryz.zeroValue72 _) b1 n1 D1 rfl own2 _ (litC xc) rfl hkx _ haty ?_))
            refine (clash_any o y _ (HOO.out.1.slots.below hbw3) (HY.out.slots.below hbw3) HOO.out.2 HYF.out).mono ?_
            rintro _ w4 ⟨rfl, hb4⟩
            go_wp2_with fail
            go_roundw
            case rel => exact ⟨k + 1, n + 1, c', clashO o y, by omega, by omega, by go_num, rfl, rfl, by go_num, Lib.hid ⟨by rw [HT.out]; rfl, HCr.out.symm, by rw [HCl.out]; rfl⟩, below_next hb3 hb4⟩
            case measure => simp [RowKit.intOf]; omega
          · go_wp2_with (first
              | ((with_reducible refine wpList_load_mid (op := ⟨some 30, _, _, _, _, _⟩) ?_ 38 (.tmp 29) ?_ g (of + k * 2) ?_ [.int .i64 s.student, .string xc] _ ?_ Tryz.underlying38 ?_ ?_ ?_); rfl; rfl; rfl; exact hatk; rfl; kernel_rfl)
              | (at_lookup; refine wpList_lookup_held _ rfl _ _ 56 rfl 9 72 str_keyed Tryz.underlying56 (Tryz.zeroValue72 _) b1 n1 D1 rfl own2 _ (litC xc) rfl hkx _ haty ?_))
            go_roundw
            case rel => exact ⟨k + 1, n + 1, c', true, by omega, by omega, by go_num, rfl, rfl, by go_num, Lib.hid ⟨by rw [HT.out]; rfl, HCr.out.symm, by rw [HCl.out]; rfl⟩, hb3⟩
            case measure => simp [RowKit.intOf]; omega
      · have HCl : Hid (creditsF L (l.take (k + 1)) s.student o.credits = c ∧ clashF L o (l.take (k + 1)) s.student = q) := Lib.hid (by
          rw [HTK.out, creditsF_snoc, clashF_snoc, ← HI.out.2.1, ← HI.out.2.2]
          exact ⟨by unfold addC; rw [if_neg hst], by rw [decide_eq_false hst]; simp⟩)
        have hst2 : (xs == s.student) = false := by simpa using hst
        cases g2
        · go_wp2_with ((with_reducible refine wpList_load_mid (op := ⟨some 30, _, _, _, _, _⟩) ?_ 38 (.tmp 29) ?_ g (of + k * 2) ?_ [.int .i64 xs, .string xc] _ ?_ Tryz.underlying38 ?_ ?_ ?_); rfl; rfl; rfl; exact hatk; rfl; kernel_rfl)
          go_roundw
          case rel => exact ⟨k + 1, n, c, q, by omega, by omega, rfl, rfl, rfl, by go_num, Lib.hid ⟨by rw [HT.out]; rfl, HCl.out.1.symm, HCl.out.2.symm⟩, hb2⟩
          case measure => simp [RowKit.intOf]; omega
        · go_wp2_with ((with_reducible refine wpList_load_mid (op := ⟨some 30, _, _, _, _, _⟩) ?_ 38 (.tmp 29) ?_ g (of + k * 2) ?_ [.int .i64 xs, .string xc] _ ?_ Tryz.underlying38 ?_ ?_ ?_); rfl; rfl; rfl; exact hatk; rfl; kernel_rfl)
          go_roundw
          case rel => exact ⟨k + 1, n + 1, c, q, by omega, by omega, by go_num, rfl, rfl, by go_num, Lib.hid ⟨by rw [HT.out]; rfl, HCl.out.1.symm, HCl.out.2.symm⟩, hb2⟩
          case measure => simp [RowKit.intOf]; omega
    · obtain rfl : k = l.length := by omega
      have hi := HI.out
      rw [List.take_length] at hi
      obtain ⟨hi1, hi2, hi3⟩ := hi
      have hbw : RowKit.Below w.heap.size w wr := HB.out.trans (hbr.mono HB.out.size)
      have d1 : ∀ j, wr.cell? ⟨g1, j, none⟩ = (#[.map (some b1), .map (some b2), .int .i64 most] : Array Value)[j]? := fun j => by rw [hbr.cell (p := ⟨g1, j, none⟩) lt1]; exact HC1.out j
      have d2 : ∀ j, wr.cell? ⟨g1 + 1, j, none⟩ = (#[.int .i64 s.student, .string s.code] : Array Value)[j]? := fun j => by rw [hbr.cell (p := ⟨g1 + 1, j, none⟩) lt2]; exact HC2.out j
      have HF : Hid (fitsP L M most l s = if (!ok) = true then 5 else if decide (s ∈ l) = true then 6 else if (!decide (s ∈ M)) = true then 13 else if decide (o.places ≤ (n : Int)) = true then 50
        else if q = true then 51 else if decide (most < c) = true then 3 else 0) := Lib.hid (by rw [HFB.out, hi1, hi2, hi3])
      clear hi1 hi2 hi3 HFB hok
      cases ok
      · go_wp2_with fail
        go_ret
        exact ⟨ret_int (by rw [HF.out]; rfl), hbw⟩
      · go_wp2_with fail
        refine (contains_seats _ l s wr (HL.out.below hbw) hn).mono ?_
        rintro _ w4 ⟨rfl, hb4⟩
        have hb5 := below_next hbr hb4
        have hbw5 := below_next hbw hb4
        have e1 : ∀ j, w4.cell? ⟨g1, j, none⟩ = (#[.map (some b1), .map (some b2), .int .i64 most] : Array Value)[j]? := fun j => by rw [hb5.cell (p := ⟨g1, j, none⟩) lt1]; exact HC1.out j
        have e2 : ∀ j, w4.cell? ⟨g1 + 1, j, none⟩ = (#[.int .i64 s.student, .string s.code] : Array Value)[j]? := fun j => by rw [hb5.cell (p := ⟨g1 + 1, j, none⟩) lt2]; exact HC2.out j
        have e3 : ∀ j, w4.cell? ⟨g1 + 1 + 1, j, none⟩ = (#[.string o.code, .int .i64 o.credits, .int .i64 o.places, .slice o.sp o.slots.length o.sc, .slice o.np o.needs.length o.nc] : Array Value)[j]? := fun j => by rw [hb5.cell (p := ⟨g1 + 1 + 1, j, none⟩) lt3]; exact HC3.out j
        have own5 := HM1.out.kept (row := none) (below_grows hbw5) (by simp)
        have hks := key_seat s HS.out
        have hatm := HM.out
        clear hbr hbw d1 d2 hb4
        generalize decide (s ∈ l) = q1 at HF ⊢
        generalize decide (s ∈ M) = q2 at HF hatm
        generalize hq3 : decide (o.places ≤ (n : Int)) = q3 at HF
        generalize hq4 : decide (most < c) = q4 at HF
        have hz := Tryz.zeroValue4 w4
        cases q1
        · cases q2
          · go_wp2_with (at_lookup; refine wpList_lookup_own_bool _ rfl _ _ 57 rfl 38 4 st_keyed Tryz.underlying57 Tryz.underlying4 hz b2 n2 D2 rfl own5 _ (litS s) rfl hks _ hatm ?_)
            go_ret
            exact ⟨ret_int (by rw [HF.out]; rfl), hbw5⟩
          · cases q3
            · have p3 : (decide ((n : Int) ≥ o.places)) = false := hq3
              cases q
              · cases q4
                · have p4 : (decide (c > most)) = false := hq4
                  go_wp2_with (at_lookup; refine wpList_lookup_own_bool _ rfl _ _ 57 rfl 38 4 st_keyed Tryz.underlying57 Tryz.underlying4 hz b2 n2 D2 rfl own5 _ (litS s) rfl hks _ hatm ?_)
                  go_ret
                  exact ⟨ret_int (by rw [HF.out]; rfl), hbw5⟩
                · have p4 : (decide (c > most)) = true := hq4
                  go_wp2_with (at_lookup; refine wpList_lookup_own_bool _ rfl _ _ 57 rfl 38 4 st_keyed Tryz.underlying57 Tryz.underlying4 hz b2 n2 D2 rfl own5 _ (litS s) rfl hks _ hatm ?_)
                  go_ret
                  exact ⟨ret_int (by rw [HF.out]; rfl), hbw5⟩
              · go_wp2_with (at_lookup; refine wpList_lookup_own_bool _ rfl _ _ 57 rfl 38 4 st_keyed Tryz.underlying57 Tryz.underlying4 hz b2 n2 D2 rfl own5 _ (litS s) rfl hks _ hatm ?_)
                go_ret
                exact ⟨ret_int (by rw [HF.out]; rfl), hbw5⟩
            · have p3 : (decide ((n : Int) ≥ o.places)) = true := hq3
              go_wp2_with (at_lookup; refine wpList_lookup_own_bool _ rfl _ _ 57 rfl 38 4 st_keyed Tryz.underlying57 Tryz.underlying4 hz b2 n2 D2 rfl own5 _ (litS s) rfl hks _ hatm ?_)
              go_ret
              exact ⟨ret_int (by rw [HF.out]; rfl), hbw5⟩
        · go_wp2_with fail
          go_ret
          exact ⟨ret_int (by rw [HF.out]; rfl), hbw5⟩
end Go.Proofs.YtjcogpalmgcpbaaGreat
/- market.compare: the order in which requests are dealt with. -/
namespace Go.Proofs.YtjcogpalmgcpbaaGreat
open Go Go.Proofs Go.RowKit Go.Maps Go.Sort Go.Lib
attribute [local go_sem] Req.cells

def tailB (a b : Req) : List Int := [Lib.compareInt b.priority a.priority, Lib.compareInt a.day b.day, Lib.compareInt a.server b.server, Lib.compareInt a.seq b.seq]
theorem orL_tailB (a b : Req) : orL (tailB a b) = cmpB a b := by
  unfold tailB cmpB
  simp only [orL]
  split <;> (try split) <;> (try split) <;> (try split) <;> simp_all






















end Go.Proofs.YtjcogpalmgcpbaaGreat
/- course.clone and course.Find. -/
namespace Go.Proofs.YtjcogpalmgcpbaaGreat
open Go Go.Proofs Go.RowKit Go.Maps Go.Sort Go.Lib
attribute [local go_sem] Off.cells

theorem flatI : ∀ L : List Int, flatE encI L = L.map (Value.int .i64)
  | [] => rfl
  | n :: L => by rw [show flatE encI (n :: L) = encI n ++ flatE encI L from rfl, flatI L]; rfl
theorem flatT : ∀ L : List ByteArray, flatE encT L = L.map Value.string
  | [] => rfl
  | n :: L => by rw [show flatE encT (n :: L) = encT n ++ flatE encT L from rfl, flatT L]; rfl
theorem cloneI_any (p : Option Addr) (c : Nat) (L : List Int) (w : World) (h : RowIn encI w (.slice p L.length c) L) (hl : L.length ≤ 1000000000000) :
    Calls Tryz.prog 59 #[.slice p L.length c] w fun e w' => ∃ p' c', e = .returned (.slice p' L.length c') ∧ RowIn encI w' (.slice p' L.length c') L ∧ (∀ a, p' = some a → w.heap.size ≤ a.block) ∧ RowKit.Below w.heap.size w w' := by
  obtain ⟨q, c2, hv, hc, hz, hr⟩ := h
  injection hv with e1 _ e3
  subst e1; subst e3
  have fin : ∀ (v' : Value) (n : Nat) (xs : List Value) (w' : World), n = L.length → xs = flatE encI L → w'.ownsRow w.heap.size 3 1 v' n xs → RowKit.Below w.heap.size w w' → ∃ p' c', Ending.returned v' = .returned (.slice p' L.length c') ∧ RowIn encI w' (.slice p' L.length c') L ∧ (∀ a, p' = some a → w.heap.size ≤ a.block) ∧ RowKit.Below w.heap.size w w' := fun v' n xs w' hn hx ho hb => by
    subst hn; subst hx
    have hin := rowIn_own (k := 1) (fun _ => rfl) (by omega) ho
    obtain ⟨p', c', rfl, _⟩ := hin.form
    exact ⟨p', c', rfl, hin, fun a ha => (ho.lt a.block (by rw [ha]; rfl)).1, hb⟩
  rcases p with _ | ad
  · obtain rfl := hz rfl
    obtain rfl : L = [] := List.eq_nil_of_length_eq_zero (by omega)
    refine (Tryz.slices_Clone_int_nil 0 0 w).mono ?_
    rintro _ w' ⟨rfl, rfl⟩
    exact ⟨none, 0, rfl, RowIn.nil _ _, fun a ha => (by cases ha), Below.refl _ _⟩
  · rcases Nat.eq_zero_or_pos L.length with h0 | h0
    · obtain rfl : L = [] := List.eq_nil_of_length_eq_zero h0
      refine (Tryz.slices_Clone_int_zero ad c w).mono ?_
      rintro _ w' ⟨v', rfl, ho, _, hb⟩
      exact fin v' 0 [] w' rfl rfl ho hb
    · obtain ⟨b, o, hp, _, hx⟩ := hr h0
      obtain rfl := Option.some.inj hp
      refine (Tryz.slices_Clone_int b o L.length c L w (Nat.le_refl _) (by omega) fun j hj => hx j _ ?_).mono ?_
      · rw [flatI, List.getElem?_map, List.getElem?_eq_getElem hj, Option.map_some, List.getD_eq_getElem?_getD, List.getElem?_eq_getElem hj]; rfl
      rintro _ w' ⟨v', rfl, ho, _, hb⟩
      exact fin v' _ _ w' rfl (by rw [List.take_length, flatI]) ho hb



























/-- Equal but for where the lists lie. -/
structure SameOff (o' o : Off) : Prop where
  code : o'.code = o.code
  credits : o'.credits = o.credits
  places : o'.places = o.places
  slots : o'.slots = o.slots
  needs : o'.needs = o.needs










/-- Where an offer stands. -/
def IdxO (L : List Off) (c : ByteArray) (k : Int) : Prop := (k = -1 ∧ findO L c = none) ∨ ∃ (j : Nat) (o : Off), k = j ∧ L[j]? = some o ∧ findO L c = some o

























































end Go.Proofs.YtjcogpalmgcpbaaGreat
/- slices.Values over requests: the iterator gives the list. -/
namespace Go.Proofs.YtjcogpalmgcpbaaGreat
open Go Go.Proofs Go.RowKit Go.Maps Go.Sort Go.Lib
attribute [local go_sem] Req.cells








































































theorem ins_list (ks : List Req) : ∃ ts : List Req, Go.Sort.insertionSort (ltOf cmpB) ks.toArray 0 ks.length = ts.toArray ∧ ts.Perm ks ∧ ts.Pairwise fun a b => ltOf cmpB b a = false := by
  obtain ⟨⟨h1, _, h3⟩, h4⟩ := insertionSort_holds (lt := ltOf cmpB) swoB ks.toArray 0 ks.length (Nat.zero_le _) (by simp)
  generalize Go.Sort.insertionSort (ltOf cmpB) ks.toArray 0 ks.length = d at h1 h3 h4
  obtain ⟨ts⟩ := d
  have hl : ts.length = ks.length := by simpa using h1
  refine ⟨ts, rfl, ?_, ?_⟩
  · have e1 : (List.toArray ts).extract 0 ks.length = List.toArray ts := by rw [← hl]; simp
    have e2 : ks.toArray.extract 0 ks.length = ks.toArray := by simp
    rw [e1, e2] at h3
    exact h3
  · rw [List.pairwise_iff_getElem]
    intro i j hi hj hij
    have := h4 i j (Nat.zero_le _) hij (by omega)
    rw [getElem!_pos _ _ (by simpa using hj), getElem!_pos _ _ (by simpa using hi)] at this
    simpa using this






































theorem wide_fn (f : FuncId) : Fence.wide.fn f := by trivial
theorem collect_any (g : Nat) (lb : Array Value) (eg : ∀ args w, (callFunc g args).run Tryz.prog w = .ok (.enter g args) w) (S : List Req → Prop) (N : Nat) (hN : N ≤ 1000000) (w : World) (hseq : SeqGivesB Fence.wide 1 Tryz.prog g lb Req.val S N w) :
    Calls Tryz.prog 79 #[.func (.func g) #[] lb] w fun e w' => ∃ (v : Value) (ks : List Req), e = .returned v ∧ S ks ∧ w'.ownsRow w.heap.size 41 9 v ks.length (reqCells ks) ∧ (v = .slice none 0 0 ↔ ks = []) ∧ RowKit.Below w.heap.size w w' :=
  callsIn_wide.1 (collect_in Fence.wide 3 (wide_fn _) (wide_fn _) rfl (by omega) g lb (wide_fn _) eg S N (by unfold maxLen; omega) (by omega) w hseq)





























end Go.Proofs.YtjcogpalmgcpbaaGreat
/- course.clone: an offer with lists of its own. -/
namespace Go.Proofs.YtjcogpalmgcpbaaGreat
open Go Go.Proofs Go.RowKit Go.Maps Go.Sort Go.Lib
attribute [local go_sem] Off.cells

/-- A row that lies above the block b. -/
def FarRow {α : Type} (enc : α → List Value) (b : Nat) (L : List α) (w : World) (u : Value) : Prop := ∃ p c, u = .slice p L.length c ∧ RowIn enc w (.slice p L.length c) L ∧ ∀ a, p = some a → b < a.block
section
variable {α : Type} {enc : α → List Value} {L : List α} {w w' : World} {u : Value} {b : Nat}
theorem FarRow.below (h : FarRow enc b L w u) (hb : RowKit.Below w.heap.size w w') : FarRow enc b L w' u := by
  obtain ⟨p, c, rfl, h1, h2⟩ := h
  exact ⟨p, c, rfl, h1.below hb, h2⟩
theorem FarRow.set {b' : Nat} (h : FarRow enc b L w u) (hb : b' ≤ b) (j : Nat) (v : Value) : FarRow enc b L (w.setCell ⟨b', j, none⟩ v) u := by
  obtain ⟨p, c, rfl, ⟨p1, c1, e, hc, hz, hr⟩, h2⟩ := h
  injection e with e1 _ e3
  subst e1; subst e3
  refine ⟨p, c, rfl, ⟨p, c, rfl, hc, hz, fun hl => ?_⟩, h2⟩
  obtain ⟨b1, o1, rfl, hb1, hx⟩ := hr hl
  have hne : b1 ≠ b' := by have : b < b1 := h2 _ rfl; omega
  refine ⟨b1, o1, rfl, by rw [World.size_setCell]; exact hb1, fun i v' hi => ?_⟩
  rw [World.cell?_of_block (a := ⟨b1, o1 + i, none⟩) (Below.heap_setCell _ _ _ _ hne)]
  exact hx i v' hi
theorem FarRow.mono {b' : Nat} (h : FarRow enc b L w u) (hb : b' ≤ b) : FarRow enc b' L w u := by
  obtain ⟨p, c, e, h1, h2⟩ := h
  exact ⟨p, c, e, h1, fun a ha => Nat.lt_of_le_of_lt hb (h2 a ha)⟩
theorem FarRow.row (h : FarRow enc b L w u) : RowIn enc w u L := by
  obtain ⟨p, c, rfl, h1, _⟩ := h
  exact h1
end
theorem off_set {w : World} {b : Nat} {c : ByteArray} {cr pl x y : Value} (h : w.heap[b]? = some (.cells #[.string c, cr, pl, x, y] 72 (0, 0))) (v : Value) :
    (w.setCell ⟨b, 3, none⟩ v).heap[b]? = some (.cells #[.string c, cr, pl, v, y] 72 (0, 0)) ∧ (w.setCell ⟨b, 4, none⟩ v).heap[b]? = some (.cells #[.string c, cr, pl, x, v] 72 (0, 0)) := by
  constructor <;> simp [World.setCell, Array.getElem?_modify, h]













































































































































































/-- Five stores into a result's cells. -/
theorem off_store {w : World} {b : Nat} {z0 z1 z2 z3 z4 : Value} (h : w.heap[b]? = some (.cells #[z0, z1, z2, z3, z4] 72 (0, 0))) (v0 v1 v2 v3 v4 : Value) :
    (((((w.setCell ⟨b, 0, none⟩ v0).setCell ⟨b, 1, none⟩ v1).setCell ⟨b, 2, none⟩ v2).setCell ⟨b, 3, none⟩ v3).setCell ⟨b, 4, none⟩ v4).heap[b]? = some (.cells #[v0, v1, v2, v3, v4] 72 (0, 0)) := by
  simp [World.setCell, Array.getElem?_modify, h]
theorem off_results {fn : Func} {p u : Tmp} (h : fn.results = #[.cell p 72, .tmp u]) (tmps : Array Value) (w : World) (g : Nat) (cs : Array Value) (hs : cs.size = 5) (hp : tmps.getD p undef = .pointer (some ⟨g, 0, none⟩)) (hg : w.heap[g]? = some (.cells cs 72 (0, 0))) :
    (results fn tmps).run Tryz.prog w = .ok (.tuple #[.agg cs, tmps.getD u undef]) w := by
  rw [results_cell_tmp h, hp]
  have hz : (Tryz.prog.info? 72).map (·.size) = some 5 := by kernel_rfl
  have := run_loadVar_row (P := Tryz.prog) w g 72 72 cs (0, 0) _ hg Tryz.underlying72 rfl (by rw [hz, hs])
  simp only [asAddr, Sem.run_pure, Result.andThen_ok, this]
/-- What Find leaves. -/
def FindPost (L : List Off) (c : ByteArray) (w : World) (e : Ending) (w' : World) : Prop := ∃ o' : Off, e = .returned (.tuple #[o'.val, .bool (findO L c).isSome]) ∧ SameOff o' (getO L c) ∧ OffOk w' o' ∧ RowKit.Below w.heap.size w w'





































































end Go.Proofs.YtjcogpalmgcpbaaGreat
namespace Go.Proofs.YtjcogpalmgcpbaaGreat
open Go Go.Proofs Go.RowKit Go.Maps Go.Sort Go.Lib
attribute [local go_sem] Seat.cells Req.cells

/-- A deal while it is made: its box, its rows. -/
structure DSt (w0 : World) (db : Nat) (d : Deal) (sv wv : Value) (w : World) : Prop where
  keep : w0.grownBy w (some db)
  box : w.heap[db]? = some (.cells #[sv, wv] 31 (0, 0))
  seats : w.ownsRow w0.heap.size 38 2 sv d.seats.length (flatE Seat.cells d.seats)
  waits : w.ownsRow w0.heap.size 38 2 wv d.waits.length (flatE Seat.cells d.waits)
  apart : sv.ownBlock = none ∨ sv.ownBlock ≠ wv.ownBlock
  low : db < w0.heap.size
variable {w0 w w' w'' : World} {db : Nat} {d : Deal} {sv wv v' ov : Value} {X : List Seat} {s : Seat}
theorem DSt.lt (h : DSt w0 db d sv wv w) : db < w.heap.size := (Array.getElem?_eq_some_iff.1 h.box).1
theorem DSt.size (h : DSt w0 db d sv wv w) : w0.heap.size ≤ w.heap.size := h.keep.size
theorem DSt.below (h : DSt w0 db d sv wv w) (hb : RowKit.Below w.heap.size w w') : DSt w0 db d sv wv w' :=
  ⟨grows_trans h.keep (below_grows hb), (hb.block db h.lt).trans h.box, h.seats.kept (row := none) (below_grows hb) (by cases sv.ownBlock <;> simp), h.waits.kept (row := none) (below_grows hb) (by cases wv.ownBlock <;> simp), h.apart, h.low⟩
theorem DSt.cell (h : DSt w0 db d sv wv w) (j : Nat) : w.cell? ⟨db, j, none⟩ = (#[sv, wv] : Array Value)[j]? := Lib.cell_of_heap h.box j
theorem DSt.frozen (h : DSt w0 db d sv wv w) (j : Nat) : w.frozen? ⟨db, j, none⟩ = false := Lib.frozen_of_heap h.box j
theorem grow_keep {w0 w w' : World} {db : Nat} {row : Option Nat} (h : w0.grownBy w (some db)) (hg : w.grownBy w' row) (hr : ∀ q, row = some q → w0.heap.size ≤ q) : w0.grownBy w' (some db) :=
  ⟨hg.1.trans h.1, hg.2.trans h.2, hg.3.trans h.3, Nat.le_trans h.size hg.size, fun i hi hne => (hg.block i (Nat.lt_of_lt_of_le hi h.size) (fun e => by have := hr i e.symm; omega)).trans (h.block i hi hne)⟩
theorem own_lo {w : World} {base k : Nat} {e : TypeId} {v : Value} {n : Nat} {xs : List Value} (h : w.ownsRow base e k v n xs) {q : Nat} (hq : v.ownBlock = some q) : base ≤ q ∧ q < w.heap.size := h.lt q hq
theorem own_form {w : World} {base k n : Nat} {e : TypeId} {v : Value} {xs : List Value} (h : w.ownsRow base e k v n xs) : ∃ p c, v = .slice p n c := by
  rcases h.2 with ⟨rfl, rfl⟩ | ⟨g, cap, _, rfl, _⟩
  · exact ⟨_, _, rfl⟩
  · exact ⟨_, _, rfl⟩
theorem own_set {w : World} {base k n : Nat} {e : TypeId} {v : Value} {xs : List Value} (h : w.ownsRow base e k v n xs) {b : Nat} (hb : b < base) (j : Nat) (u : Value) : (w.setCell ⟨b, j, none⟩ u).ownsRow base e k v n xs := by
  refine h.kept (row := some b) (Only.setCell w b j u 0) ?_
  cases hq : v.ownBlock with
  | none => exact .inl rfl
  | some q => exact .inr (by have := (own_lo h hq).1; intro e; injection e with e; omega)
theorem DSt.seat (h : DSt w0 db d sv wv w) (hb : RowKit.Below w.heap.size w w') (hA : AppT Seat.cells 2 38 w' w.heap.size ov X [s] v' w'') (ho : w'.ownsRow w.heap.size 38 2 ov X.length (flatE Seat.cells X)) :
    DSt w0 db ⟨X ++ [s], d.waits⟩ v' wv (w''.setCell ⟨db, 0, none⟩ v') := by
  have h1 := h.below hb
  have hov : ∀ q, ov.ownBlock = some q → w.heap.size ≤ q := fun q hq => (own_lo ho hq).1
  have hne : some db ≠ ov.ownBlock := fun e => by have := hov db e.symm; have := h.lt; omega
  have hbx : w''.heap[db]? = some (.cells #[sv, wv] 31 (0, 0)) := (hA.grown.block db h1.lt (fun e => hne e)).trans h1.box
  have hw : w''.ownsRow w0.heap.size 38 2 wv d.waits.length (flatE Seat.cells d.waits) := h1.waits.kept hA.grown (by
    cases hq : wv.ownBlock with
    | none => exact .inl rfl
    | some q => exact .inr (fun e => by have := hov q e.symm; have := (own_lo h.waits hq).2; omega))
  have hs : w''.ownsRow w0.heap.size 38 2 v' (X ++ [s]).length (flatE Seat.cells (X ++ [s])) := row_base hA.own h.size
  have hlt := h.low
  refine ⟨grows_trans (grow_keep h1.keep hA.grown (fun q hq => Nat.le_trans h.size (hov q hq))) (Only.setCell _ db 0 _ 0), by simp [World.setCell, Array.getElem?_modify, hbx], own_set hs hlt _ _, own_set hw hlt _ _, ?_, hlt⟩
  cases hq : v'.ownBlock with
  | none => exact .inl rfl
  | some q =>
    refine .inr fun e => ?_
    have h2 : w.heap.size ≤ q := (own_lo hA.own hq).1
    have h3 := (own_lo h.waits e.symm).2
    omega
theorem DSt.wait (h : DSt w0 db d sv wv w) (hb : RowKit.Below w.heap.size w w') (hA : AppT Seat.cells 2 38 w' w0.heap.size wv d.waits [s] v' w'') :
    DSt w0 db ⟨d.seats, d.waits ++ [s]⟩ sv v' (w''.setCell ⟨db, 1, none⟩ v') := by
  have h1 := h.below hb
  have hov : ∀ q, wv.ownBlock = some q → w0.heap.size ≤ q := fun q hq => (own_lo h.waits hq).1
  have hlt := h.low
  have hne : some db ≠ wv.ownBlock := fun e => by have := hov db e.symm; omega
  have hbx : w''.heap[db]? = some (.cells #[sv, wv] 31 (0, 0)) := (hA.grown.block db h1.lt (fun e => hne e)).trans h1.box
  have hw : w''.ownsRow w0.heap.size 38 2 sv d.seats.length (flatE Seat.cells d.seats) := h1.seats.kept hA.grown h.apart
  refine ⟨grows_trans (grow_keep h1.keep hA.grown hov) (Only.setCell _ db 1 _ 0), by simp [World.setCell, Array.getElem?_modify, hbx], own_set hw hlt _ _, own_set hA.own hlt _ _, ?_, hlt⟩
  cases hq : sv.ownBlock with
  | none => exact .inl rfl
  | some q =>
    refine .inr fun e => ?_
    rcases hA.block with h2 | h2
    · rw [h2, ← hq] at e
      rcases h.apart with h3 | h3
      · rw [hq] at h3; cases h3
      · exact h3 e
    · have := h2 q e.symm
      have := (own_lo h1.seats hq).2
      omega
theorem RulesAt.lt {b1 b2 : Nat} {L : List Off} {M : List Seat} (h : RulesAt w b1 b2 L M) : b1 < w.heap.size ∧ b2 < w.heap.size := by
  obtain ⟨⟨n1, D1, h1, _⟩, ⟨n2, D2, h3, _⟩⟩ := h
  exact ⟨h1.lt, h3.lt⟩
theorem RulesAt.grown {b1 b2 q : Nat} {L : List Off} {M : List Seat} (h : RulesAt w b1 b2 L M) (hg : w.grownBy w' (some q)) (h1 : b1 ≠ q) (h2 : b2 ≠ q) : RulesAt w' b1 b2 L M := by
  obtain ⟨⟨n1, D1, o1, o2⟩, ⟨n2, D2, o3, o4⟩⟩ := h
  exact ⟨⟨n1, D1, o1.kept hg (by simpa using h1), o2⟩, ⟨n2, D2, o3.kept hg (by simpa using h2), o4⟩⟩
theorem stepD_named {L : List Off} {M : List Seat} {most : Int} {d : Deal} {x : Req} {Ot : List Seat} {fin : Bool} (h1 : Ot = othersD d.seats x) (h2 : fin = fineD d.seats x) :
    stepD L M most d x = if fin = true ∧ fitsP L M most Ot (seatOf x) = 0 then ⟨Ot ++ [seatOf x], d.waits⟩ else if seatOf x ∈ d.waits then d else ⟨d.seats, d.waits ++ [seatOf x]⟩ := by
  rw [h1, h2]; rfl
theorem DSt.after (h : DSt w0 db d sv wv w) {row : Option Nat} (hg : w.grownBy w' row) (hr : ∀ q, row = some q → w0.heap.size ≤ q) : w'.heap[db]? = some (.cells #[sv, wv] 31 (0, 0)) :=
  (hg.block db h.lt (fun e => by have := hr db e.symm; have := h.low; omega)).trans h.box
def DealPost (L : List Off) (M : List Seat) (most : Int) (R : List Req) (w : World) (e : Ending) (w' : World) : Prop :=
  ∃ sv wv O, e = .returned (.agg #[sv, wv]) ∧ ActOrd R O ∧ RowIn Seat.cells w' sv (dealP L M most O).seats ∧ RowIn Seat.cells w' wv (dealP L M most O).waits ∧ RowKit.Below w.heap.size w w'
theorem ord_of {O A : List Req} (hp : O.Perm A) (hs : O.Pairwise fun a b => ltOf cmpB b a = false) (hn : A.Pairwise fun a b => numR a ≠ numR b) : IsOrd O A :=
  isOrd_of hp hn (hs.imp fun {a b} h h2 => by simp [ltOf] at h; omega)
theorem deal_wf {L : List Off} {M : List Seat} {most : Int} (O : List Req) : (∀ r ∈ O, (seatOf r).wf) → ∀ x ∈ (dealP L M most O).seats, x.wf := by
  refine snoc_ind (p := fun O => (∀ r ∈ O, (seatOf r).wf) → ∀ x ∈ (dealP L M most O).seats, x.wf) (fun _ x hx => by cases hx) (fun a x ih h y hy => ?_) O
  have ih := ih fun r hr => h r (List.mem_append_left _ hr)
  rw [dealP_snoc] at hy
  unfold stepD at hy
  split at hy
  · simp only [List.mem_append, List.mem_singleton] at hy
    rcases hy with hy | rfl
    · exact ih y ((others_sub _ _).subset hy)
    · exact h x (by simp)
  · split at hy <;> exact ih y hy
/-- One taken out of a list without repetition. -/
theorem out_filter : ∀ (l : List Seat) (k : Nat) (s : Seat), l.Nodup → l[k]? = some s → l.take k ++ l.drop (k + 1) = l.filter fun x => decide (x ≠ s)
  | [], k, s, _, h => by simp at h
  | a :: l, 0, s, hn, h => by
    simp only [List.getElem?_cons_zero, Option.some.injEq] at h
    subst h
    have h1 := (List.nodup_cons.1 hn).1
    have : l.filter (fun x => decide (x ≠ a)) = l := List.filter_eq_self.2 fun x hx => by simp; exact fun e => h1 (by rw [← e]; exact hx)
    rw [List.filter_cons, if_neg (by simp), this]; rfl
  | a :: l, k + 1, s, hn, h => by
    simp only [List.getElem?_cons_succ] at h
    have h1 := (List.nodup_cons.1 hn).1
    have hne : a ≠ s := fun e => h1 (by rw [e]; exact List.mem_of_getElem? h)
    have ih := out_filter l k s (List.nodup_cons.1 hn).2 h
    simp only [List.take_succ_cons, List.drop_succ_cons, List.cons_append, ih]
    simp [hne]
theorem give_test (g : ByteArray) : (!g.toList.isEmpty) = !decide (g.size = 0) := by
  rw [ByteArray.toList_eq, ba_size]
  cases g.data.toList <;> simp











































































































































































































































































































































end Go.Proofs.YtjcogpalmgcpbaaGreat
