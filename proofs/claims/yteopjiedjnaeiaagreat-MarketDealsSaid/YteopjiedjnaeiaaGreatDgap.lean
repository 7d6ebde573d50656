/- slices.Values over requests: the iterator gives the list. -/
import Derived.Test.YteopjiedjnaeiaaGreatDgan
import Derived.Test.YteopjiedjnaeiaaGreatDgal
import Derived.Test.YteopjiedjnaeiaaGreatShelf
import Derived.Test.YteopjiedjnaeiaaGreatDgab
import Derived.BigRegion
/- market.rules.fits: the error of a seat. -/
namespace Go.Proofs.YteopjiedjnaeiaaGreat
open Go Go.Proofs Go.RowKit Go.Maps Go.Sort Go.Lib
attribute [local go_sem] Seat.cells Off.cells

theorem fitsP_bools (L : List Off) (met : List Seat) (most : Int) (l : List Seat) (s : Seat) : fitsP L met most l s =
    if (!(findO L s.code).isSome) = true then 5 else if decide (s ∈ l) = true then 6 else if (!decide (s ∈ met)) = true then 13 else if decide ((getO L s.code).places ≤ (takenF l s.code : Int)) = true then 50
    else if clashF L (getO L s.code) l s.student = true then 51 else if decide (most < creditsF L l s.student (getO L s.code).credits) = true then 3 else 0 := by
  unfold fitsP
  cases findO L s.code <;> simp
theorem getO_few {L : List Off} (h : ∀ o ∈ L, o.few) (c : ByteArray) : (getO L c).few := by
  unfold getO
  cases hf : findO L c with
  | none => exact Nat.zero_le _
  | some o => exact h o (List.mem_of_find?_eq_some hf)
theorem takenF_le (l : List Seat) (c : ByteArray) : takenF l c ≤ l.length := List.countP_le_length
theorem creditsF_snoc (L : List Off) (l : List Seat) (x : Seat) (st c0 : Int) : creditsF L (l ++ [x]) st c0 = addC L st (creditsF L l st c0) x := by unfold creditsF; rw [List.foldl_append]; rfl
theorem clashF_snoc (L : List Off) (o : Off) (l : List Seat) (x : Seat) (st : Int) : clashF L o (l ++ [x]) st = (clashF L o l st || (decide (x.student = st) && clashO o (getO L x.code))) := by unfold clashF; simp [List.any_append]
theorem three_new (w : World) (a b c : Obj) : ((((w.alloc a).alloc b).alloc c).heap[w.heap.size]? = some a ∧ (((w.alloc a).alloc b).alloc c).heap[w.heap.size + 1]? = some b ∧ (((w.alloc a).alloc b).alloc c).heap[w.heap.size + 1 + 1]? = some c) := by
  refine ⟨?_, ?_, ?_⟩
  · exact ((below_alloc1 ((w.alloc a).alloc b) c).block w.heap.size (by simp; omega)).trans (((below_alloc1 (w.alloc a) b).block w.heap.size (by simp)).trans (heap_alloc_new w a))
  · exact ((below_alloc1 ((w.alloc a).alloc b) c).block (w.heap.size + 1) (by simp)).trans (new_two w a b)
  · have := new_two (w.alloc a) b c
    simpa using this
set_option maxHeartbeats 8000000 in
set_option maxRecDepth 100000 in
theorem fits_any (b1 b2 : Nat) (L : List Off) (M : List Seat) (most : Int) (lv : Value) (l : List Seat) (s : Seat) (w : World) (hr : RulesAt w b1 b2 L M) (ho : ∀ o ∈ L, OffOk w o ∧ o.few) (hl : RowIn Seat.cells w lv l) (hn : l.length ≤ 1000000) (hs : s.wf) (hls : ∀ x ∈ l, x.wf) :
    Calls Tryz.prog 26 #[.agg #[.map (some b1), .map (some b2), .int .i64 most], lv, .agg #[.int .i64 s.student, .string s.code]] w fun e w' => e = .returned (.int .i64 (fitsP L M most l s)) ∧ RowKit.Below w.heap.size w w' := by
  obtain ⟨p1, c1, rfl, _⟩ := hl.form
  have HR := Lib.hid hr
  have HO := Lib.hid ho
  have HL := Lib.hid hl
  have HS := Lib.hid hs
  have HLS := Lib.hid hls
  obtain ⟨⟨n1, D1, o1, o2⟩, ⟨n2, D2, m1, m2⟩⟩ := hr
  have HD1 := Lib.hid o2
  have HM := Lib.hid (m2 s hs)
  obtain ⟨hhas, hat0⟩ := o2 s.code
  have hkey := key_code s.code hs.2
  have HFB := Lib.hid (fitsP_bools L M most l s)
  generalize hok : (findO L s.code).isSome = ok at hhas HFB
  generalize hoo : getO L s.code = o at hat0 HFB
  have own1 := (o1.alloc (.cells #[.map (some b1), .map (some b2), .int .i64 most] 65)).alloc (.cells #[.int .i64 s.student, .string s.code] 53)
  have HO1 := Lib.hid o1
  have HM1 := Lib.hid m1
  have hT := three_new w (.cells #[.map (some b1), .map (some b2), .int .i64 most] 65) (.cells #[.int .i64 s.student, .string s.code] 53) (.cells o.cells.toArray 57)
  have hB := ((below_alloc1 w (.cells #[.map (some b1), .map (some b2), .int .i64 most] 65)).alloc (by simp) (.cells #[.int .i64 s.student, .string s.code] 53)).alloc (by simp <;> omega) (.cells o.cells.toArray 57)
  clear ho hl hs hls o2 m2 o1 m1
  simp only [Off.cells] at hT hB
  go_enter Tryz.func26, Tryz.ntmps26
  go_wp2_with (at_lookup; refine wpList_lookup_held_ok _ rfl _ _ 62 rfl 9 57 str_keyed Tryz.underlying62 (Tryz.zeroValue57 _) b1 n1 D1 rfl own1 _ (litC s.code) rfl hkey _ hat0 ok hhas ?_)
  generalize ((w.alloc _).alloc _).alloc _ = w1 at hT hB ⊢
  obtain ⟨t1, t2, t3⟩ := hT
  have lt1 := (Array.getElem?_eq_some_iff.1 t1).1
  have lt2 := (Array.getElem?_eq_some_iff.1 t2).1
  have lt3 := (Array.getElem?_eq_some_iff.1 t3).1
  generalize hg1 : w.heap.size = g1 at t1 t2 t3 lt1 lt2 lt3 ⊢
  have hc1 : ∀ j, w1.cell? ⟨g1, j, none⟩ = (#[.map (some b1), .map (some b2), .int .i64 most] : Array Value)[j]? := fun j => Lib.cell_of_heap t1 j
  have hc2 : ∀ j, w1.cell? ⟨g1 + 1, j, none⟩ = (#[.int .i64 s.student, .string s.code] : Array Value)[j]? := fun j => Lib.cell_of_heap t2 j
  have hc3 : ∀ j, w1.cell? ⟨g1 + 1 + 1, j, none⟩ = (#[.string o.code, .int .i64 o.credits, .int .i64 o.places, .slice o.sp o.slots.length o.sc, .slice o.np o.needs.length o.nc] : Array Value)[j]? := fun j => Lib.cell_of_heap t3 j
  clear t1 t2 t3 own1 hat0 hhas
  go_quiet (fail)
  go_wp2_with fail
  have HC1 := Lib.hid hc1
  have HC2 := Lib.hid hc2
  have HC3 := Lib.hid hc3
  have HB := Lib.hid hB
  clear hc1 hc2 hc3 hB
  go_loopw [9, 10, 11, 27] (fun v9 v10 v11 i wr => ∃ (k n : Nat) (c : Int) (q : Bool), k ≤ l.length ∧ n ≤ k ∧ v9 = .int .i64 n ∧ v10 = .int .i64 c ∧ v11 = .bool q ∧ i = .int .i64 k ∧ Hid (n = takenF (l.take k) s.code ∧ c = creditsF L (l.take k) s.student o.credits ∧ q = clashF L o (l.take k) s.student) ∧ RowKit.Below w1.heap.size w1 wr) (fun _ _ _ i _ => l.length - (RowKit.intOf i).toNat)
  case atStart => exact ⟨0, 0, _, _, Nat.zero_le _, Nat.le_refl _, rfl, rfl, rfl, rfl, Lib.hid ⟨rfl, rfl, rfl⟩, blw_drewN (Below.refl _ _) _⟩
  case round =>
    obtain ⟨k, n, c, q, hk, hnk, rfl, rfl, rfl, rfl, HI, hbr⟩ := hrel
    by_cases hlt : k < l.length
    · obtain ⟨g, of, c', hv, _, hgl, hx⟩ := HL.out.at_ (k := 2) (fun _ => rfl) (by omega)
      have e1 := (Value.slice.inj hv).1
      subst e1
      have hz := List.getElem?_eq_getElem hlt
      have hat := hx k _ hz
      have HX := Lib.hid (HLS.out _ (List.getElem_mem hlt))
      have HTK := Lib.hid (take_one hz)
      generalize l[k] = x at hz hat HX HTK
      obtain ⟨xs, xc⟩ := x
      have hbw : RowKit.Below w.heap.size w wr := HB.out.trans (hbr.mono HB.out.size)
      have hatk : wr.rangeAt g (of + k * 2) [.int .i64 xs, .string xc] := fun j v hj => by rw [hbw.cell (p := ⟨g, of + k * 2 + j, none⟩) hgl]; exact hat j v hj
      have hb2 : RowKit.Below w1.heap.size w1 (wr.alloc (.cells #[.int .i64 xs, .string xc] 53)) := hbr.alloc hbr.size _
      have hbx : ∀ j, (wr.alloc (.cells #[.int .i64 xs, .string xc] 53)).cell? ⟨wr.heap.size, j, none⟩ = (#[.int .i64 xs, .string xc] : Array Value)[j]? := fun j => Lib.cell_of_heap (heap_alloc_new wr _) j
      have d1 : ∀ j, (wr.alloc (.cells #[.int .i64 xs, .string xc] 53)).cell? ⟨g1, j, none⟩ = (#[.map (some b1), .map (some b2), .int .i64 most] : Array Value)[j]? := fun j => by rw [hb2.cell (p := ⟨g1, j, none⟩) lt1]; exact HC1.out j
      have d2 : ∀ j, (wr.alloc (.cells #[.int .i64 xs, .string xc] 53)).cell? ⟨g1 + 1, j, none⟩ = (#[.int .i64 s.student, .string s.code] : Array Value)[j]? := fun j => by rw [hb2.cell (p := ⟨g1 + 1, j, none⟩) lt2]; exact HC2.out j
      have hsz1 : wr.heap.size < (wr.alloc (.cells #[.int .i64 xs, .string xc] 53)).heap.size := by simp
      have hwrap : IntKind.i64.wrap ((n : Int) + 1) = ((n + 1 : Nat) : Int) := by rw [IntWalk.i64_in _ (by omega)]; omega
      clear hv hx hz hat
      generalize hG : (xc.toList == s.code.toList) = g2
      have HT : Hid (takenF (l.take (k + 1)) s.code = n + if g2 = true then 1 else 0) := Lib.hid (by
        rw [HTK.out, takenF_snoc, ← HI.out.1, ← hG]
        congr 1
        by_cases h : xc.toList = s.code.toList <;> simp [h])
      by_cases hst : xs = s.student
      · subst hst
        generalize hy : getO L xc = y
        have hyo : OffOk w y := by rw [← hy]; exact getO_ok (fun o h => (HO.out o h).1) _
        have hyf : y.few := by rw [← hy]; exact getO_few (fun o h => (HO.out o h).2) _
        have hbw2 : RowKit.Below w.heap.size w (wr.alloc (.cells #[.int .i64 s.student, .string xc] 53)) := HB.out.trans (hb2.mono HB.out.size)
        have own2 := HO1.out.kept (row := none) (below_grows hbw2) (by simp)
        have hkx := key_code xc HX.out.2
        have haty := (HD1.out xc).2
        rw [hy] at haty
        have hcw : ∃ c', IntKind.i64.wrap (c + y.credits) = c' := ⟨_, rfl⟩
        obtain ⟨c', hcw⟩ := hcw
        have HCr : Hid (creditsF L (l.take (k + 1)) s.student o.credits = c') := Lib.hid (by
          rw [HTK.out, creditsF_snoc, ← HI.out.2.1]
          unfold addC; rw [if_pos rfl, hy, hcw])
        have HCl : Hid (clashF L o (l.take (k + 1)) s.student = (q || clashO o y)) := Lib.hid (by
          rw [HTK.out, clashF_snoc, ← HI.out.2.2, decide_eq_true rfl, hy]; simp)
        have hb3 := hb2.alloc hb2.size (.cells y.cells.toArray 57)
        have hbw3 := hbw2.alloc hbw2.size (.cells y.cells.toArray 57)
        have hby : ∀ j, ((wr.alloc (.cells #[.int .i64 s.student, .string xc] 53)).alloc (.cells y.cells.toArray 57)).cell? ⟨wr.heap.size + 1, j, none⟩ = y.cells.toArray[j]? := fun j => Lib.cell_of_heap (new_two _ _ _) j
        have d3 : ∀ j, ((wr.alloc (.cells #[.int .i64 s.student, .string xc] 53)).alloc (.cells y.cells.toArray 57)).cell? ⟨g1 + 1 + 1, j, none⟩ = (#[.string o.code, .int .i64 o.credits, .int .i64 o.places, .slice o.sp o.slots.length o.sc, .slice o.np o.needs.length o.nc] : Array Value)[j]? := fun j => by rw [hb3.cell (p := ⟨g1 + 1 + 1, j, none⟩) lt3]; exact HC3.out j
        have HOO : Hid (OffOk w o ∧ o.few) := Lib.hid (by rw [← hoo]; exact ⟨getO_ok (fun o h => (HO.out o h).1) _, getO_few (fun o h => (HO.out o h).2) _⟩)
        have HY := Lib.hid hyo
        have HYF := Lib.hid hyf
        have HCW := Lib.hid hcw
        clear hy hyo hyf
        simp only [Off.cells] at hb3 hbw3 hby d3
        cases g2
        · cases q
          · go_wp2_with (first
              | ((with_reducible refine wpList_load_mid (op := ⟨some 30, _, _, _, _, _⟩) ?_ 53 (.tmp 29) ?_ g (of + k * 2) ?_ [.int .i64 s.student, .string xc] _ ?_ Tryz.underlying53 ?_ ?_ ?_); rfl; rfl; rfl; exact hatk; rfl; kernel_rfl)
              | (at_lookup; refine wpList_lookup_held _ rfl _ _ 62 rfl 9 57 str_keyed Tryz.underlying62 (Tryz.zeroValue57 _) b1 n1 D1 rfl own2 _ (litC xc) rfl hkx _ haty ?_))
            refine (clash_any o y _ (HOO.out.1.slots.below hbw3) (HY.out.slots.below hbw3) HOO.out.2 HYF.out).mono ?_
            rintro _ w4 ⟨rfl, hb4⟩
            go_wp2_with fail
            go_roundw
            case rel => exact ⟨k + 1, n, c', clashO o y, by omega, by omega, rfl, rfl, rfl, by go_num, Lib.hid ⟨by rw [HT.out]; rfl, HCr.out.symm, by rw [HCl.out]; rfl⟩, below_next hb3 hb4⟩
            case measure => simp [RowKit.intOf]; omega
          · go_wp2_with (first
              | ((with_reducible refine wpList_load_mid (op := ⟨some 30, _, _, _, _, _⟩) ?_ 53 (.tmp 29) ?_ g (of + k * 2) ?_ [.int .i64 s.student, .string xc] _ ?_ Tryz.underlying53 ?_ ?_ ?_); rfl; rfl; rfl; exact hatk; rfl; kernel_rfl)
              | (at_lookup; refine wpList_lookup_held _ rfl _ _ 62 rfl 9 57 str_keyed Tryz.underlying62 (Tryz.zeroValue57 _) b1 n1 D1 rfl own2 _ (litC xc) rfl hkx _ haty ?_))
            go_roundw
            case rel => exact ⟨k + 1, n, c', true, by omega, by omega, rfl, rfl, rfl, by go_num, Lib.hid ⟨by rw [HT.out]; rfl, HCr.out.symm, by rw [HCl.out]; rfl⟩, hb3⟩
            case measure => simp [RowKit.intOf]; omega
        · cases q
          · go_wp2_with (first
              | ((with_reducible refine wpList_load_mid (op := ⟨some 30, _, _, _, _, _⟩) ?_ 53 (.tmp 29) ?_ g (of + k * 2) ?_ [.int .i64 s.student, .string xc] _ ?_ Tryz.underlying53 ?_ ?_ ?_); rfl; rfl; rfl; exact hatk; rfl; kernel_rfl)
              | (at_lookup; refine wpList_lookup_held _ rfl _ _ 62 rfl 9 57 str_keyed Tryz.underlying62 (Tryz.zeroValue57 _) b1 n1 D1 rfl own2 _ (litC xc) rfl hkx _ haty ?_))
            refine (clash_any o y _ (HOO.out.1.slots.below hbw3) (HY.out.slots.below hbw3) HOO.out.2 HYF.out).mono ?_
            rintro _ w4 ⟨rfl, hb4⟩
            go_wp2_with fail
            go_roundw
            case rel => exact ⟨k + 1, n + 1, c', clashO o y, by omega, by omega, by go_num, rfl, rfl, by go_num, Lib.hid ⟨by rw [HT.out]; rfl, HCr.out.symm, by rw [HCl.out]; rfl⟩, below_next hb3 hb4⟩
            case measure => simp [RowKit.intOf]; omega
          · go_wp2_with (first
              | ((with_reducible refine wpList_load_mid (op := ⟨some 30, _, _, _, _, _⟩) ?_ 53 (.tmp 29) ?_ g (of + k * 2) ?_ [.int .i64 s.student, .string xc] _ ?_ Tryz.underlying53 ?_ ?_ ?_); rfl; rfl; rfl; exact hatk; rfl; kernel_rfl)
              | (at_lookup; refine wpList_lookup_held _ rfl _ _ 62 rfl 9 57 str_keyed Tryz.underlying62 (Tryz.zeroValue57 _) b1 n1 D1 rfl own2 _ (litC xc) rfl hkx _ haty ?_))
            go_roundw
            case rel => exact ⟨k + 1, n + 1, c', true, by omega, by omega, by go_num, rfl, rfl, by go_num, Lib.hid ⟨by rw [HT.out]; rfl, HCr.out.symm, by rw [HCl.out]; rfl⟩, hb3⟩
            case measure => simp [RowKit.intOf]; omega
      · have HCl : Hid (creditsF L (l.take (k + 1)) s.student o.credits = c ∧ clashF L o (l.take (k + 1)) s.student = q) := Lib.hid (by
          rw [HTK.out, creditsF_snoc, clashF_snoc, ← HI.out.2.1, ← HI.out.2.2]
          exact ⟨by unfold addC; rw [if_neg hst], by rw [decide_eq_false hst]; simp⟩)
        have hst2 : (xs == s.student) = false := by simpa using hst
        cases g2
        · go_wp2_with ((with_reducible refine wpList_load_mid (op := ⟨some 30, _, _, _, _, _⟩) ?_ 53 (.tmp 29) ?_ g (of + k * 2) ?_ [.int .i64 xs, .string xc] _ ?_ Tryz.underlying53 ?_ ?_ ?_); rfl; rfl; rfl; exact hatk; rfl; kernel_rfl)
          go_roundw
          case rel => exact ⟨k + 1, n, c, q, by omega, by omega, rfl, rfl, rfl, by go_num, Lib.hid ⟨by rw [HT.out]; rfl, HCl.out.1.symm, HCl.out.2.symm⟩, hb2⟩
          case measure => simp [RowKit.intOf]; omega
        · go_wp2_with ((with_reducible refine wpList_load_mid (op := ⟨some 30, _, _, _, _, _⟩) ?_ 53 (.tmp 29) ?_ g (of + k * 2) ?_ [.int .i64 xs, .string xc] _ ?_ Tryz.underlying53 ?_ ?_ ?_); rfl; rfl; rfl; exact hatk; rfl; kernel_rfl)
          go_roundw
          case rel => exact ⟨k + 1, n + 1, c, q, by omega, by omega, by go_num, rfl, rfl, by go_num, Lib.hid ⟨by rw [HT.out]; rfl, HCl.out.1.symm, HCl.out.2.symm⟩, hb2⟩
          case measure => simp [RowKit.intOf]; omega
    · obtain rfl : k = l.length := by omega
      have hi := HI.out
      rw [List.take_length] at hi
      obtain ⟨hi1, hi2, hi3⟩ := hi
      have hbw : RowKit.Below w.heap.size w wr := HB.out.trans (hbr.mono HB.out.size)
      have d1 : ∀ j, wr.cell? ⟨g1, j, none⟩ = (#[.map (some b1), .map (some b2), .int .i64 most] : Array Value)[j]? := fun j => by rw [hbr.cell (p := ⟨g1, j, none⟩) lt1]; exact HC1.out j
      have d2 : ∀ j, wr.cell? ⟨g1 + 1, j, none⟩ = (#[.int .i64 s.student, .string s.code] : Array Value)[j]? := fun j => by rw [hbr.cell (p := ⟨g1 + 1, j, none⟩) lt2]; exact HC2.out j
      have HF : Hid (fitsP L M most l s = if (!ok) = true then 5 else if decide (s ∈ l) = true then 6 else if (!decide (s ∈ M)) = true then 13 else if decide (o.places ≤ (n : Int)) = true then 50
        else if q = true then 51 else if decide (most < c) = true then 3 else 0) := Lib.hid (by rw [HFB.out, hi1, hi2, hi3])
      clear hi1 hi2 hi3 HFB hok
      cases ok
      · go_wp2_with fail
        go_ret
        exact ⟨ret_int (by rw [HF.out]; rfl), hbw⟩
      · go_wp2_with fail
        refine (contains_seats _ l s wr (HL.out.below hbw) hn).mono ?_
        rintro _ w4 ⟨rfl, hb4⟩
        have hb5 := below_next hbr hb4
        have hbw5 := below_next hbw hb4
        have e1 : ∀ j, w4.cell? ⟨g1, j, none⟩ = (#[.map (some b1), .map (some b2), .int .i64 most] : Array Value)[j]? := fun j => by rw [hb5.cell (p := ⟨g1, j, none⟩) lt1]; exact HC1.out j
        have e2 : ∀ j, w4.cell? ⟨g1 + 1, j, none⟩ = (#[.int .i64 s.student, .string s.code] : Array Value)[j]? := fun j => by rw [hb5.cell (p := ⟨g1 + 1, j, none⟩) lt2]; exact HC2.out j
        have e3 : ∀ j, w4.cell? ⟨g1 + 1 + 1, j, none⟩ = (#[.string o.code, .int .i64 o.credits, .int .i64 o.places, .slice o.sp o.slots.length o.sc, .slice o.np o.needs.length o.nc] : Array Value)[j]? := fun j => by rw [hb5.cell (p := ⟨g1 + 1 + 1, j, none⟩) lt3]; exact HC3.out j
        have own5 := HM1.out.kept (row := none) (below_grows hbw5) (by simp)
        have hks := key_seat s HS.out
        have hatm := HM.out
        clear hbr hbw d1 d2 hb4
        generalize decide (s ∈ l) = q1 at HF ⊢
        generalize decide (s ∈ M) = q2 at HF hatm
        generalize hq3 : decide (o.places ≤ (n : Int)) = q3 at HF
        generalize hq4 : decide (most < c) = q4 at HF
        have hz := Tryz.zeroValue4 w4
        cases q1
        · cases q2
          · go_wp2_with (at_lookup; refine wpList_lookup_own_bool _ rfl _ _ 63 rfl 53 4 st_keyed Tryz.underlying63 Tryz.underlying4 hz b2 n2 D2 rfl own5 _ (litS s) rfl hks _ hatm ?_)
            go_ret
            exact ⟨ret_int (by rw [HF.out]; rfl), hbw5⟩
          · cases q3
            · have p3 : (decide ((n : Int) ≥ o.places)) = false := hq3
              cases q
              · cases q4
                · have p4 : (decide (c > most)) = false := hq4
                  go_wp2_with (at_lookup; refine wpList_lookup_own_bool _ rfl _ _ 63 rfl 53 4 st_keyed Tryz.underlying63 Tryz.underlying4 hz b2 n2 D2 rfl own5 _ (litS s) rfl hks _ hatm ?_)
                  go_ret
                  exact ⟨ret_int (by rw [HF.out]; rfl), hbw5⟩
                · have p4 : (decide (c > most)) = true := hq4
                  go_wp2_with (at_lookup; refine wpList_lookup_own_bool _ rfl _ _ 63 rfl 53 4 st_keyed Tryz.underlying63 Tryz.underlying4 hz b2 n2 D2 rfl own5 _ (litS s) rfl hks _ hatm ?_)
                  go_ret
                  exact ⟨ret_int (by rw [HF.out]; rfl), hbw5⟩
              · go_wp2_with (at_lookup; refine wpList_lookup_own_bool _ rfl _ _ 63 rfl 53 4 st_keyed Tryz.underlying63 Tryz.underlying4 hz b2 n2 D2 rfl own5 _ (litS s) rfl hks _ hatm ?_)
                go_ret
                exact ⟨ret_int (by rw [HF.out]; rfl), hbw5⟩
            · have p3 : (decide ((n : Int) ≥ o.places)) = true := hq3
              go_wp2_with (at_lookup; refine wpList_lookup_own_bool _ rfl _ _ 63 rfl 53 4 st_keyed Tryz.underlying63 Tryz.underlying4 hz b2 n2 D2 rfl own5 _ (litS s) rfl hks _ hatm ?_)
              go_ret
              exact ⟨ret_int (by rw [HF.out]; rfl), hbw5⟩
        · go_wp2_with fail
          go_ret
          exact ⟨ret_int (by rw [HF.out]; rfl), hbw5⟩
end Go.Proofs.YteopjiedjnaeiaaGreat
/- market.compare: the order in which requests are dealt with. -/
namespace Go.Proofs.YteopjiedjnaeiaaGreat
open Go Go.Proofs Go.RowKit Go.Maps Go.Sort Go.Lib
attribute [local go_sem] Req.cells

def tailB (a b : Req) : List Int := [Lib.compareInt b.priority a.priority, Lib.compareInt a.day b.day, Lib.compareInt a.server b.server, Lib.compareInt a.seq b.seq]
theorem orL_tailB (a b : Req) : orL (tailB a b) = cmpB a b := by
  unfold tailB cmpB
  simp only [orL]
  split <;> (try split) <;> (try split) <;> (try split) <;> simp_all
set_option maxHeartbeats 4000000 in
set_option maxRecDepth 100000 in
theorem compareB_any (a b : Req) (w : World) : Calls Tryz.prog 22 #[a.val, b.val] w fun x w' => x = .returned (.int .i64 (cmpB a b)) ∧ Grows w w' := by
  rw [← orL_tailB]
  have g2 : Grows w ((w.alloc (.cells a.cells 39)).alloc (.cells b.cells 39)) := (Grows.al w _).trans (Grows.al _ _)
  have hA : ReqBox ((w.alloc (.cells a.cells 39)).alloc (.cells b.cells 39)) w.heap.size a := (ReqBox.new w a).below (below_al _ _)
  have hB : ReqBox ((w.alloc (.cells a.cells 39)).alloc (.cells b.cells 39)) (w.heap.size + 1) b := new_two w _ _
  go_enter Tryz.func22, Tryz.ntmps22
  simp only [Req.cells] at g2 hA hB
  go_wp2_with fail
  generalize (w.alloc _).alloc _ = wr at g2 hA hB ⊢
  have hor : (wr.alloc (.cells #[.int .i64 (Lib.compareInt b.priority a.priority), .int .i64 (Lib.compareInt a.day b.day), .int .i64 (Lib.compareInt a.server b.server), .int .i64 (Lib.compareInt a.seq b.seq)] 3)).drew.heap[wr.heap.size]? = some (.cells ((tailB a b).map (Value.int .i64)).toArray 3 (0, 0)) := heap_alloc_new wr _
  have hO : Calls Tryz.prog 42 #[.slice (some ⟨wr.heap.size, 0, none⟩) 4 4] (wr.alloc (.cells #[.int .i64 (Lib.compareInt b.priority a.priority), .int .i64 (Lib.compareInt a.day b.day), .int .i64 (Lib.compareInt a.server b.server), .int .i64 (Lib.compareInt a.seq b.seq)] 3)).drew fun x w' => x = .returned (.int .i64 (orL (tailB a b))) ∧ _ = w' := orL_any wr.heap.size (tailB a b) _ hor (by show 4 ≤ 1000; omega)
  have hS0 : Grows wr wr.drew ∧ (∀ j, wr.drew.cell? ⟨w.heap.size, j, none⟩ = a.cells[j]?) ∧ (∀ j, wr.drew.cell? ⟨w.heap.size + 1, j, none⟩ = b.cells[j]?) := ⟨(Grows.refl _).drew, hA.cell, hB.cell⟩
  have hS1 := fun o => (show Grows wr (wr.alloc o).drew ∧ (∀ j, (wr.alloc o).drew.cell? ⟨w.heap.size, j, none⟩ = a.cells[j]?) ∧ (∀ j, (wr.alloc o).drew.cell? ⟨w.heap.size + 1, j, none⟩ = b.cells[j]?) from ⟨(Grows.al wr o).drew, (hA.below (below_al wr o)).cell, (hB.below (below_al wr o)).cell⟩)
  go_region_held3 (fun w' => Grows wr w' ∧ (∀ j, w'.cell? ⟨w.heap.size, j, none⟩ = a.cells[j]?) ∧ (∀ j, w'.cell? ⟨w.heap.size + 1, j, none⟩ = b.cells[j]?)) (first | exact hS0 | exact hS1 _ | assumption)
    (first
      | ((with_reducible refine (Tryz.cmp_Compare_int _ _ _).mono ?_); rintro x w1 ⟨rfl, rfl⟩)
      | ((with_reducible refine hO.mono ?_); rintro x w1 ⟨rfl, rfl⟩))
  go_wp2_with fail
  go_ret
  exact ⟨rfl, g2.trans (Grows.al wr _).drew⟩
end Go.Proofs.YteopjiedjnaeiaaGreat
/- course.clone and course.Find. -/
namespace Go.Proofs.YteopjiedjnaeiaaGreat
open Go Go.Proofs Go.RowKit Go.Maps Go.Sort Go.Lib
attribute [local go_sem] Off.cells

theorem flatI : ∀ L : List Int, flatE encI L = L.map (Value.int .i64)
  | [] => rfl
  | n :: L => by rw [show flatE encI (n :: L) = encI n ++ flatE encI L from rfl, flatI L]; rfl
theorem flatT : ∀ L : List ByteArray, flatE encT L = L.map Value.string
  | [] => rfl
  | n :: L => by rw [show flatE encT (n :: L) = encT n ++ flatE encT L from rfl, flatT L]; rfl






















































/-- Equal but for where the lists lie. -/
structure SameOff (o' o : Off) : Prop where
  code : o'.code = o.code
  credits : o'.credits = o.credits
  places : o'.places = o.places
  slots : o'.slots = o.slots
  needs : o'.needs = o.needs










/-- Where an offer stands. -/
def IdxO (L : List Off) (c : ByteArray) (k : Int) : Prop := (k = -1 ∧ findO L c = none) ∨ ∃ (j : Nat) (o : Off), k = j ∧ L[j]? = some o ∧ findO L c = some o

























































end Go.Proofs.YteopjiedjnaeiaaGreat
/- course.clone: an offer with lists of its own. -/
namespace Go.Proofs.YteopjiedjnaeiaaGreat
open Go Go.Proofs Go.RowKit Go.Maps Go.Sort Go.Lib
attribute [local go_sem] Off.cells

/-- A row that lies above the block b. -/
def FarRow {α : Type} (enc : α → List Value) (b : Nat) (L : List α) (w : World) (u : Value) : Prop := ∃ p c, u = .slice p L.length c ∧ RowIn enc w (.slice p L.length c) L ∧ ∀ a, p = some a → b < a.block
section
variable {α : Type} {enc : α → List Value} {L : List α} {w w' : World} {u : Value} {b : Nat}
theorem FarRow.below (h : FarRow enc b L w u) (hb : RowKit.Below w.heap.size w w') : FarRow enc b L w' u := by
  obtain ⟨p, c, rfl, h1, h2⟩ := h
  exact ⟨p, c, rfl, h1.below hb, h2⟩
theorem FarRow.set {b' : Nat} (h : FarRow enc b L w u) (hb : b' ≤ b) (j : Nat) (v : Value) : FarRow enc b L (w.setCell ⟨b', j, none⟩ v) u := by
  obtain ⟨p, c, rfl, ⟨p1, c1, e, hc, hz, hr⟩, h2⟩ := h
  injection e with e1 _ e3
  subst e1; subst e3
  refine ⟨p, c, rfl, ⟨p, c, rfl, hc, hz, fun hl => ?_⟩, h2⟩
  obtain ⟨b1, o1, rfl, hb1, hx⟩ := hr hl
  have hne : b1 ≠ b' := by have : b < b1 := h2 _ rfl; omega
  refine ⟨b1, o1, rfl, by rw [World.size_setCell]; exact hb1, fun i v' hi => ?_⟩
  rw [World.cell?_of_block (a := ⟨b1, o1 + i, none⟩) (Below.heap_setCell _ _ _ _ hne)]
  exact hx i v' hi
theorem FarRow.mono {b' : Nat} (h : FarRow enc b L w u) (hb : b' ≤ b) : FarRow enc b' L w u := by
  obtain ⟨p, c, e, h1, h2⟩ := h
  exact ⟨p, c, e, h1, fun a ha => Nat.lt_of_le_of_lt hb (h2 a ha)⟩
theorem FarRow.row (h : FarRow enc b L w u) : RowIn enc w u L := by
  obtain ⟨p, c, rfl, h1, _⟩ := h
  exact h1
end
theorem off_set {w : World} {b : Nat} {c : ByteArray} {cr pl x y : Value} (h : w.heap[b]? = some (.cells #[.string c, cr, pl, x, y] 57 (0, 0))) (v : Value) :
    (w.setCell ⟨b, 3, none⟩ v).heap[b]? = some (.cells #[.string c, cr, pl, v, y] 57 (0, 0)) ∧ (w.setCell ⟨b, 4, none⟩ v).heap[b]? = some (.cells #[.string c, cr, pl, x, v] 57 (0, 0)) := by
  constructor <;> simp [World.setCell, Array.getElem?_modify, h]













































































































































































/-- Five stores into a result's cells. -/
theorem off_store {w : World} {b : Nat} {z0 z1 z2 z3 z4 : Value} (h : w.heap[b]? = some (.cells #[z0, z1, z2, z3, z4] 57 (0, 0))) (v0 v1 v2 v3 v4 : Value) :
    (((((w.setCell ⟨b, 0, none⟩ v0).setCell ⟨b, 1, none⟩ v1).setCell ⟨b, 2, none⟩ v2).setCell ⟨b, 3, none⟩ v3).setCell ⟨b, 4, none⟩ v4).heap[b]? = some (.cells #[v0, v1, v2, v3, v4] 57 (0, 0)) := by
  simp [World.setCell, Array.getElem?_modify, h]
theorem off_results {fn : Func} {p u : Tmp} (h : fn.results = #[.cell p 57, .tmp u]) (tmps : Array Value) (w : World) (g : Nat) (cs : Array Value) (hs : cs.size = 5) (hp : tmps.getD p undef = .pointer (some ⟨g, 0, none⟩)) (hg : w.heap[g]? = some (.cells cs 57 (0, 0))) :
    (results fn tmps).run Tryz.prog w = .ok (.tuple #[.agg cs, tmps.getD u undef]) w := by
  rw [results_cell_tmp h, hp]
  have hz : (Tryz.prog.info? 57).map (·.size) = some 5 := by kernel_rfl
  have := run_loadVar_row (P := Tryz.prog) w g 57 57 cs (0, 0) _ hg Tryz.underlying57 rfl (by rw [hz, hs])
  simp only [asAddr, Sem.run_pure, Result.andThen_ok, this]
/-- What Find leaves. -/
def FindPost (L : List Off) (c : ByteArray) (w : World) (e : Ending) (w' : World) : Prop := ∃ o' : Off, e = .returned (.tuple #[o'.val, .bool (findO L c).isSome]) ∧ SameOff o' (getO L c) ∧ OffOk w' o' ∧ RowKit.Below w.heap.size w w'





































































end Go.Proofs.YteopjiedjnaeiaaGreat
namespace Go.Proofs.YteopjiedjnaeiaaGreat
open Go Go.Proofs Go.RowKit Go.Maps Go.Sort Go.Lib
attribute [local go_sem] Req.cells

set_option maxRecDepth 100000 in
set_option maxHeartbeats 2000000 in
theorem values1_in (F : Fence) (n : Nat) (h10 : F.fn 37) (hro : F.round = none) (hn : 1 ≤ n) (l Bm : Nat) (v : Value) (L : List Req) (J : List Req → World → Prop)
    (hY : ∀ pre x W, J pre W → pre.length < L.length → YieldAt F (n - 1) Tryz.prog l #[x.val] W fun e W' => e = .returned (.bool true) ∧ J (pre ++ [x]) W' ∧ KeepsWalks W W')
    (W0 W : World) (hW : RowKit.Below W0.heap.size W0 W) (hJ : AbidesFrom W.heap.size J) (hJk : ∀ pre W1, J pre W1 → RowKit.Below W0.heap.size W0 W1) (hm : W0.cell? ⟨Bm, 0, none⟩ = some v) (hBm : Bm < W0.heap.size) (hv : ReqsIn W0 v L) (hlL : L.length ≤ 1000000) (h0 : J [] W) :
    CallsIn F n Tryz.prog 37 #[.func (.yield l) #[] #[], .pointer (some ⟨Bm, 0, none⟩)] W fun e W' => (∃ v, e = .returned v) ∧ ∃ ks : List Req, ks = L ∧ J ks W' := by
  obtain ⟨p, c, rfl, _⟩ := hv.form
  have hmW : W.cell? ⟨Bm, 0, none⟩ = some (.slice p L.length c) := (hW.cell (p := ⟨Bm, 0, none⟩) hBm).trans hm
  refine callsIn_of_wp Tryz.func37 rfl h10 ?_ hro
  simp only [Tryz.ntmps37, List.size_toArray, List.length_cons, List.length_nil, Nat.reduceAdd, Nat.reduceSub, Array.replicate_succ, Array.replicate_zero, List.push_toArray, List.append_toArray, List.nil_append, List.cons_append]
  gi_wp2
  gi_loopw [7] (fun i wr => ∃ k : Nat, k ≤ L.length ∧ i = .int .i64 k ∧ J (L.take k) wr) (fun i _ => L.length - (RowKit.intOf i).toNat)
  case atStart => exact ⟨0, Nat.zero_le _, rfl, h0⟩
  case round =>
    obtain ⟨k, hk, rfl, hJs⟩ := hrel
    have hbw := hJk _ _ hJs
    by_cases hlt : k < L.length
    · obtain ⟨b, o, c', hv', _, hbl, hx⟩ := hv.at_ (by omega)
      have e1 := (Value.slice.inj hv').1
      subst e1
      have hz := List.getElem?_eq_getElem hlt
      have hat := (hx k _ hz).below hbw hbl
      have hJ3 := hJ _ wr (wr.alloc (.cells (Req.cells L[k]) 39)) none hJs (World.grownBy_alloc wr _ none) (fun r e => by cases e)
      obtain ⟨fn, tmps, assign, body, hy, hR⟩ := hY (L.take k) L[k] (wr.alloc (.cells (Req.cells L[k]) 39)) hJ3 (by simp; omega)
      rw [← take_one hz] at hR
      generalize L[k] = x at hat hJ3 hy hR
      simp only [Req.val, Req.cells] at hy
      have c0 := hat 0 _ rfl
      have c1 := hat 1 _ rfl
      have c2 := hat 2 _ rfl
      have c3 := hat 3 _ rfl
      have c4 := hat 4 _ rfl
      have c5 := hat 5 _ rfl
      have c6 := hat 6 _ rfl
      have c7 := hat 7 _ rfl
      have c8 := hat 8 _ rfl
      rw [Nat.add_zero] at c0
      clear hat
      gi_wp2
      refine hR.mono ?_
      rintro e W3 ⟨rfl, hJ4, hk3⟩
      gi_wp2
      go_roundw
      case rel => exact ⟨k + 1, by omega, by go_num, hJ4⟩
      case measure => simp [RowKit.intOf]; omega
    · obtain rfl : k = L.length := by omega
      rw [List.take_length] at hJs
      gi_wp2
      go_end0
      exact ⟨⟨_, rfl⟩, L, rfl, hJs⟩
theorem values_in (F : Fence) (n : Nat) (h7 : F.fn 20) (hro : F.round = none) (p : Option Addr) (m c : Nat) (w : World) :
    CallsIn F n Tryz.prog 20 #[.slice p m c] w fun e w' => e = .returned (.func (.func 37) #[] #[.pointer (some ⟨w.heap.size, 0, none⟩)]) ∧ w' = w.alloc (.cells #[.slice p m c] 30) := by
  refine callsIn_of_wp Tryz.func20 rfl h7 ?_ hro
  simp only [Tryz.ntmps20, List.size_toArray, List.length_cons, List.length_nil, Nat.reduceAdd, Nat.reduceSub, Array.replicate_succ, Array.replicate_zero, List.push_toArray, List.append_toArray, List.nil_append, List.cons_append]
  gi_wp2
  go_ret
  exact ⟨rfl, rfl⟩
theorem values_gives (F : Fence) (n : Nat) (h10 : F.fn 37) (hro : F.round = none) (hn : 1 ≤ n) (Bm : Nat) (v : Value) (L : List Req) (w : World) (hBm : Bm < w.heap.size)
    (hm : w.cell? ⟨Bm, 0, none⟩ = some v) (hv : ReqsIn w v L) (hlL : L.length ≤ 1000000) :
    SeqGivesB F n Tryz.prog 37 #[.pointer (some ⟨Bm, 0, none⟩)] Req.val (fun ks => ks = L) L.length w := fun l J W hW hJ hJk hY h0 =>
  values1_in F n h10 hro hn l Bm v L J hY w W hW hJ hJk hm hBm hv hlL h0
theorem insB_any (blk off cap a b : Nat) (d : Array Req) (w : World) (hH : HoldsK encR 9 w blk off d) (hblk : blk < w.heap.size) (hab : a ≤ b) (hb : b ≤ d.size) (hsz : d.size < 4611686018427387904) :
    Calls Tryz.prog 65 #[.slice (some ⟨blk, off, none⟩) d.size cap, .int .i64 a, .int .i64 b, .func (.func 22) #[] #[]] w fun e w' =>
      e = .returned (.tuple #[]) ∧ ∃ n os, w' = sortWorldK encR 9 w blk off n (Go.Sort.insertionSort (ltOf cmpB) d a b) os :=
  AnyQ.insertionSortCmpFunc (P := Tryz.prog) (ρ := Tryz.sortReq_ren) { Tryz.sortReq with } 9 Tryz.isAgg39 Tryz.sizeOf39 encR (fun _ => rfl) (fun x v hv => by
      simp [encR, Req.cells] at hv
      rcases hv with rfl | rfl | rfl | rfl | rfl | rfl | rfl | rfl | rfl <;> rfl) cmpB 22 #[] blk off cap a b d w (enters_of Tryz.func22 (by kernel_rfl) rfl)
    (fun m os dk _ x y => compareB_any x y _) hH hblk hab hb hsz
/-- What a stable sort is asked for, up to N requests. -/
def SortsB (N : Nat) : Prop := ∀ (blk cap : Nat) (ks : List Req) (W : World), HoldsK encR 9 W blk 0 ks.toArray → blk < W.heap.size → ks.length ≤ N →
    Calls Tryz.prog 36 #[.slice (some ⟨blk, 0, none⟩) ks.length cap, .func (.func 22) #[] #[]] W fun e w' => e = .returned (.tuple #[]) ∧ ∃ k os ts, w' = sortWorldK encR 9 W blk 0 k (List.toArray ts) os ∧ ts.Perm ks ∧ ts.Pairwise fun a b => ltOf cmpB b a = false
theorem ins_list (ks : List Req) : ∃ ts : List Req, Go.Sort.insertionSort (ltOf cmpB) ks.toArray 0 ks.length = ts.toArray ∧ ts.Perm ks ∧ ts.Pairwise fun a b => ltOf cmpB b a = false := by
  obtain ⟨⟨h1, _, h3⟩, h4⟩ := insertionSort_holds (lt := ltOf cmpB) swoB ks.toArray 0 ks.length (Nat.zero_le _) (by simp)
  generalize Go.Sort.insertionSort (ltOf cmpB) ks.toArray 0 ks.length = d at h1 h3 h4
  obtain ⟨ts⟩ := d
  have hl : ts.length = ks.length := by simpa using h1
  refine ⟨ts, rfl, ?_, ?_⟩
  · have e1 : (List.toArray ts).extract 0 ks.length = List.toArray ts := by rw [← hl]; simp
    have e2 : ks.toArray.extract 0 ks.length = ks.toArray := by simp
    rw [e1, e2] at h3
    exact h3
  · rw [List.pairwise_iff_getElem]
    intro i j hi hj hij
    have := h4 i j (Nat.zero_le _) hij (by omega)
    rw [getElem!_pos _ _ (by simpa using hj), getElem!_pos _ _ (by simpa using hi)] at this
    simpa using this
theorem insB_none (p : Option Addr) (cap : Nat) (W : World) :
    Calls Tryz.prog 65 #[.slice p 0 cap, .int .i64 0, .int .i64 0, .func (.func 22) #[] #[]] W fun e w' => e = .returned (.tuple #[]) ∧ w' = W :=
  AnyF.insertionSortCmpFunc_none (P := Tryz.prog) (ρ := Tryz.sortReq_ren) { Tryz.sortReq with } p cap _ W
/-- .. of one insertion sort. -/
theorem stable_few (p : Option Addr) (n cap : Nat) (W : World) (Q : World → Prop) (hn : n ≤ 19)
    (ci : Calls Tryz.prog 65 #[.slice p n cap, .int .i64 0, .int .i64 n, .func (.func 22) #[] #[]] W fun e w' => e = .returned (.tuple #[]) ∧ Q w') :
    Calls Tryz.prog 36 #[.slice p n cap, .func (.func 22) #[] #[]] W fun e w' => e = .returned (.tuple #[]) ∧ Q w' := by
  have hs : Calls Tryz.prog 51 #[.slice p n cap, .int .i64 n, .func (.func 22) #[] #[]] W fun e w' => e = .returned (.tuple #[]) ∧ Q w' := by
    have h20 : decide ((20 : Int) ≤ (n : Int)) = false := by rw [decide_eq_false_iff_not]; omega
    have h20' : decide ((20 : Int) < (n : Int)) = false := by rw [decide_eq_false_iff_not]; omega
    go_enter Tryz.func51, Tryz.ntmps51
    go_wp2_with fail
    refine wp_loop_rounds 1 ?_
    rw [rounds_succ]
    go_wp2_with fail
    refine ci.mono ?_
    rintro _ w1 ⟨rfl, hQ⟩
    go_wp2_with fail
    refine wp_loop_rounds 1 ?_
    rw [rounds_succ]
    go_wp2_with fail
    exact ⟨rfl, _, results_none rfl _ _ _, rfl, hQ⟩
  go_enter Tryz.func36, Tryz.ntmps36
  go_wp2_with fail
  refine hs.mono ?_
  rintro _ w1 ⟨rfl, hQ⟩
  go_wp2_with fail
  exact ⟨rfl, _, results_none rfl _ _ _, rfl, hQ⟩
theorem stable_none (p : Option Addr) (cap : Nat) (W : World) :
    Calls Tryz.prog 36 #[.slice p 0 cap, .func (.func 22) #[] #[]] W fun e w' => e = .returned (.tuple #[]) ∧ w' = W :=
  stable_few p 0 cap W (fun w' => w' = W) (by omega) (insB_none p cap W)
theorem sortsB_19 : SortsB 19 := fun blk cap ks W hH hblk hl => by
  obtain ⟨ts, h1, h2, h3⟩ := ins_list ks
  have ci := insB_any blk 0 cap 0 ks.length ks.toArray W hH hblk (Nat.zero_le _) (by simp) (by simp; omega)
  rw [h1] at ci
  simp only [List.size_toArray] at ci
  exact stable_few (some ⟨blk, 0, none⟩) ks.length cap W (fun w' => ∃ k os ts, w' = sortWorldK encR 9 W blk 0 k (List.toArray ts) os ∧ ts.Perm ks ∧ ts.Pairwise fun a b => ltOf cmpB b a = false) hl
    (ci.mono fun e w' ⟨he, n, os, hw⟩ => ⟨he, n, os, ts, hw, h2, h3⟩)
theorem wide_fn (f : FuncId) : Fence.wide.fn f := by trivial
theorem collect_any (g : Nat) (lb : Array Value) (eg : ∀ args w, (callFunc g args).run Tryz.prog w = .ok (.enter g args) w) (S : List Req → Prop) (N : Nat) (hN : N ≤ 1000000) (w : World) (hseq : SeqGivesB Fence.wide 1 Tryz.prog g lb Req.val S N w) :
    Calls Tryz.prog 35 #[.func (.func g) #[] lb] w fun e w' => ∃ (v : Value) (ks : List Req), e = .returned v ∧ S ks ∧ w'.ownsRow w.heap.size 39 9 v ks.length (reqCells ks) ∧ (v = .slice none 0 0 ↔ ks = []) ∧ RowKit.Below w.heap.size w w' :=
  callsIn_wide.1 (collect_in Fence.wide 3 (wide_fn _) (wide_fn _) rfl (by omega) g lb (wide_fn _) eg S N (by unfold maxLen; omega) (by omega) w hseq)
set_option maxRecDepth 100000 in
theorem sortedStable_any (N : Nat) (hS : SortsB N) (hN : N ≤ 1000000) (Bm : Nat) (v : Value) (L : List Req) (w : World) (hBm : Bm < w.heap.size) (hm : w.cell? ⟨Bm, 0, none⟩ = some v) (hv : ReqsIn w v L) (hl : L.length ≤ N) :
    Calls Tryz.prog 19 #[.func (.func 37) #[] #[.pointer (some ⟨Bm, 0, none⟩)], .func (.func 22) #[] #[]] w fun e w' => ∃ (v : Value) (ts : List Req), e = .returned v ∧ ts.Perm L ∧ (ts.Pairwise fun a b => ltOf cmpB b a = false) ∧
      w'.ownsRow w.heap.size 39 9 v ts.length (reqCells ts) ∧ RowKit.Below w.heap.size w w' := by
  have hseq := values_gives Fence.wide 1 (wide_fn _) rfl (by omega) Bm v L w hBm hm hv (by omega)
  have hc := collect_any 37 #[.pointer (some ⟨Bm, 0, none⟩)] (enters_of Tryz.func37 (by kernel_rfl) rfl) (fun ks => ks = L) L.length (by omega) w hseq
  clear hseq hm hv
  go_enter Tryz.func19, Tryz.ntmps19
  go_wp2_with fail
  refine hc.mono ?_
  rintro _ w1 ⟨v1, ks, rfl, rfl, hrow, hnil, hb⟩
  rcases hrow.2 with ⟨rfl, hz⟩ | ⟨gb, cap, cur, rfl, hbase, hgb, r1, r2, r3, r4⟩
  · obtain rfl : ks = [] := List.eq_nil_of_length_eq_zero hz
    go_wp2_with fail
    refine (stable_none none 0 w1).mono ?_
    rintro _ _ ⟨rfl, rfl⟩
    go_wp2_with fail
    go_ret
    exact ⟨_, [], rfl, List.Perm.refl _, List.Pairwise.nil, by simpa using hrow, hb⟩
  · have hH : HoldsK encR 9 w1 gb 0 ks.toArray := holdsK_of_block hgb r4
    have hgl : gb < w1.heap.size := (Array.getElem?_eq_some_iff.1 hgb).1
    have cs := hS gb cap ks w1 hH hgl hl
    clear hH hnil
    go_wp2_with fail
    refine cs.mono ?_
    rintro _ _ ⟨rfl, kk, os, ts, rfl, hp, hs⟩
    go_wp2_with fail
    go_ret
    exact ⟨_, ts, rfl, hp, hs, by rw [hp.length_eq]; exact ownsRow_sortK hp.length_eq hbase hgb r1 r2 r3, hb.grown (grownBy_sortK _) hb.size (fun j hj => by cases hj; exact hbase)⟩
end Go.Proofs.YteopjiedjnaeiaaGreat
