/- market.rules.fits: the error of a seat. -/
import Derived.Test.YtjcogpalmgcpbaaMkPr
namespace Go.Proofs.Ytjcogpalmgcpbaa
open Go Go.Proofs Go.RowKit Go.Maps Go.Sort Go.Lib
attribute [local go_sem] Seat.cells Off.cells

theorem fitsP_bools (L : List Off) (met : List Seat) (most : Int) (l : List Seat) (s : Seat) : fitsP L met most l s =
    if (!(findO L s.code).isSome) = true then 5 else if decide (s ∈ l) = true then 6 else if (!decide (s ∈ met)) = true then 13 else if decide ((getO L s.code).places ≤ (takenF l s.code : Int)) = true then 50
    else if clashF L (getO L s.code) l s.student = true then 51 else if decide (most < creditsF L l s.student (getO L s.code).credits) = true then 3 else 0 := by
  unfold fitsP
  cases findO L s.code <;> simp
theorem getO_few {L : List Off} (h : ∀ o ∈ L, o.few) (c : ByteArray) : (getO L c).few := by
  unfold getO
  cases hf : findO L c with
  | none => exact Nat.zero_le _
  | some o => exact h o (List.mem_of_find?_eq_some hf)
theorem takenF_le (l : List Seat) (c : ByteArray) : takenF l c ≤ l.length := List.countP_le_length
theorem creditsF_snoc (L : List Off) (l : List Seat) (x : Seat) (st c0 : Int) : creditsF L (l ++ [x]) st c0 = addC L st (creditsF L l st c0) x := by unfold creditsF; rw [List.foldl_append]; rfl
theorem clashF_snoc (L : List Off) (o : Off) (l : List Seat) (x : Seat) (st : Int) : clashF L o (l ++ [x]) st = (clashF L o l st || (decide (x.student = st) && clashO o (getO L x.code))) := by unfold clashF; simp [List.any_append]
theorem three_new (w : World) (a b c : Obj) : ((((w.alloc a).alloc b).alloc c).heap[w.heap.size]? = some a ∧ (((w.alloc a).alloc b).alloc c).heap[w.heap.size + 1]? = some b ∧ (((w.alloc a).alloc b).alloc c).heap[w.heap.size + 1 + 1]? = some c) := by
  refine ⟨?_, ?_, ?_⟩
  · exact ((below_alloc1 ((w.alloc a).alloc b) c).block w.heap.size (by simp; omega)).trans (((below_alloc1 (w.alloc a) b).block w.heap.size (by simp)).trans (heap_alloc_new w a))
  · exact ((below_alloc1 ((w.alloc a).alloc b) c).block (w.heap.size + 1) (by simp)).trans (new_two w a b)
  · have := new_two (w.alloc a) b c
    simpa using this
set_option maxHeartbeats 8000000 in
set_option maxRecDepth 100000 in
theorem fits_any (b1 b2 : Nat) (L : List Off) (M : List Seat) (most : Int) (lv : Value) (l : List Seat) (s : Seat) (w : World) (hr : RulesAt w b1 b2 L M) (ho : ∀ o ∈ L, OffOk w o ∧ o.few) (hl : RowIn Seat.cells w lv l) (hn : l.length ≤ 1000000) (hs : s.wf) (hls : ∀ x ∈ l, x.wf) :
    Calls Try.prog 14 #[.agg #[.map (some b1), .map (some b2), .int .i64 most], lv, .agg #[.int .i64 s.student, .string s.code]] w fun e w' => e = .returned (.int .i64 (fitsP L M most l s)) ∧ RowKit.Below w.heap.size w w' := by
  obtain ⟨p1, c1, rfl, _⟩ := hl.form
  have HR := Lib.hid hr
  have HO := Lib.hid ho
  have HL := Lib.hid hl
  have HS := Lib.hid hs
  have HLS := Lib.hid hls
  obtain ⟨⟨n1, D1, o1, o2⟩, ⟨n2, D2, m1, m2⟩⟩ := hr
  have HD1 := Lib.hid o2
  have HM := Lib.hid (m2 s hs)
  obtain ⟨hhas, hat0⟩ := o2 s.code
  have hkey := key_code s.code hs.2
  have HFB := Lib.hid (fitsP_bools L M most l s)
  generalize hok : (findO L s.code).isSome = ok at hhas HFB
  generalize hoo : getO L s.code = o at hat0 HFB
  have own1 := (o1.alloc (.cells #[.map (some b1), .map (some b2), .int .i64 most] 55)).alloc (.cells #[.int .i64 s.student, .string s.code] 32)
  have HO1 := Lib.hid o1
  have HM1 := Lib.hid m1
  have hT := three_new w (.cells #[.map (some b1), .map (some b2), .int .i64 most] 55) (.cells #[.int .i64 s.student, .string s.code] 32) (.cells o.cells.toArray 29)
  have hB := ((below_alloc1 w (.cells #[.map (some b1), .map (some b2), .int .i64 most] 55)).alloc (by simp) (.cells #[.int .i64 s.student, .string s.code] 32)).alloc (by simp <;> omega) (.cells o.cells.toArray 29)
  clear ho hl hs hls o2 m2 o1 m1
  simp only [Off.cells] at hT hB
  go_enter Try.func14, Try.ntmps14
  go_wp2_with (at_lookup; refine wpList_lookup_held_ok _ rfl _ _ 52 rfl 9 29 str_keyed Try.underlying52 (Try.zeroValue29 _) b1 n1 D1 rfl own1 _ (litC s.code) rfl hkey _ hat0 ok hhas ?_)
  generalize ((w.alloc _).alloc _).alloc _ = w1 at hT hB ⊢
  obtain ⟨t1, t2, t3⟩ := hT
  have lt1 := (Array.getElem?_eq_some_iff.1 t1).1
  have lt2 := (Array.getElem?_eq_some_iff.1 t2).1
  have lt3 := (Array.getElem?_eq_some_iff.1 t3).1
  generalize hg1 : w.heap.size = g1 at t1 t2 t3 lt1 lt2 lt3 ⊢
  have hc1 : ∀ j, w1.cell? ⟨g1, j, none⟩ = (#[.map (some b1), .map (some b2), .int .i64 most] : Array Value)[j]? := fun j => Lib.cell_of_heap t1 j
  have hc2 : ∀ j, w1.cell? ⟨g1 + 1, j, none⟩ = (#[.int .i64 s.student, .string s.code] : Array Value)[j]? := fun j => Lib.cell_of_heap t2 j
  have hc3 : ∀ j, w1.cell? ⟨g1 + 1 + 1, j, none⟩ = (#[.string o.code, .int .i64 o.credits, .int .i64 o.places, .slice o.sp o.slots.length o.sc, .slice o.np o.needs.length o.nc] : Array Value)[j]? := fun j => Lib.cell_of_heap t3 j
  clear t1 t2 t3 own1 hat0 hhas
  go_quiet (fail)
  go_wp2_with fail
  have HC1 := Lib.hid hc1
  have HC2 := Lib.hid hc2
  have HC3 := Lib.hid hc3
  have HB := Lib.hid hB
  clear hc1 hc2 hc3 hB
  go_loopw [9, 10, 11, 27] (fun v9 v10 v11 i wr => ∃ (k n : Nat) (c : Int) (q : Bool), k ≤ l.length ∧ n ≤ k ∧ v9 = .int .i64 n ∧ v10 = .int .i64 c ∧ v11 = .bool q ∧ i = .int .i64 k ∧ Hid (n = takenF (l.take k) s.code ∧ c = creditsF L (l.take k) s.student o.credits ∧ q = clashF L o (l.take k) s.student) ∧ RowKit.Below w1.heap.size w1 wr) (fun _ _ _ i _ => l.length - (RowKit.intOf i).toNat)
  case atStart => exact ⟨0, 0, _, _, Nat.zero_le _, Nat.le_refl _, rfl, rfl, rfl, rfl, Lib.hid ⟨rfl, rfl, rfl⟩, blw_drewN (Below.refl _ _) _⟩
  case round =>
    obtain ⟨k, n, c, q, hk, hnk, rfl, rfl, rfl, rfl, HI, hbr⟩ := hrel
    by_cases hlt : k < l.length
    · obtain ⟨g, of, c', hv, _, hgl, hx⟩ := HL.out.at_ (k := 2) (fun _ => rfl) (by omega)
      have e1 := (Value.slice.inj hv).1
      subst e1
      have hz := List.getElem?_eq_getElem hlt
      have hat := hx k _ hz
      have HX := Lib.hid (HLS.out _ (List.getElem_mem hlt))
      have HTK := Lib.hid (take_one hz)
      generalize l[k] = x at hz hat HX HTK
      obtain ⟨xs, xc⟩ := x
      have hbw : RowKit.Below w.heap.size w wr := HB.out.trans (hbr.mono HB.out.size)
      have hatk : wr.rangeAt g (of + k * 2) [.int .i64 xs, .string xc] := fun j v hj => by rw [hbw.cell (p := ⟨g, of + k * 2 + j, none⟩) hgl]; exact hat j v hj
      have hb2 : RowKit.Below w1.heap.size w1 (wr.alloc (.cells #[.int .i64 xs, .string xc] 32)) := hbr.alloc hbr.size _
      have hbx : ∀ j, (wr.alloc (.cells #[.int .i64 xs, .string xc] 32)).cell? ⟨wr.heap.size, j, none⟩ = (#[.int .i64 xs, .string xc] : Array Value)[j]? := fun j => Lib.cell_of_heap (heap_alloc_new wr _) j
      have d1 : ∀ j, (wr.alloc (.cells #[.int .i64 xs, .string xc] 32)).cell? ⟨g1, j, none⟩ = (#[.map (some b1), .map (some b2), .int .i64 most] : Array Value)[j]? := fun j => by rw [hb2.cell (p := ⟨g1, j, none⟩) lt1]; exact HC1.out j
      have d2 : ∀ j, (wr.alloc (.cells #[.int .i64 xs, .string xc] 32)).cell? ⟨g1 + 1, j, none⟩ = (#[.int .i64 s.student, .string s.code] : Array Value)[j]? := fun j => by rw [hb2.cell (p := ⟨g1 + 1, j, none⟩) lt2]; exact HC2.out j
      have hsz1 : wr.heap.size < (wr.alloc (.cells #[.int .i64 xs, .string xc] 32)).heap.size := by simp
      have hwrap : IntKind.i64.wrap ((n : Int) + 1) = ((n + 1 : Nat) : Int) := by rw [IntWalk.i64_in _ (by omega)]; omega
      clear hv hx hz hat
      generalize hG : (xc.toList == s.code.toList) = g2
      have HT : Hid (takenF (l.take (k + 1)) s.code = n + if g2 = true then 1 else 0) := Lib.hid (by
        rw [HTK.out, takenF_snoc, ← HI.out.1, ← hG]
        congr 1
        by_cases h : xc.toList = s.code.toList <;> simp [h])
      by_cases hst : xs = s.student
      · subst hst
        generalize hy : getO L xc = y
        have hyo : OffOk w y := by rw [← hy]; exact getO_ok (fun o h => (HO.out o h).1) _
        have hyf : y.few := by rw [← hy]; exact getO_few (fun o h => (HO.out o h).2) _
        have hbw2 : RowKit.Below w.heap.size w (wr.alloc (.cells #[.int .i64 s.student, .string xc] 32)) := HB.out.trans (hb2.mono HB.out.size)
        have own2 := HO1.out.kept (row := none) (below_grows hbw2) (by simp)
        have hkx := key_code xc HX.out.2
        have haty := (HD1.out xc).2
        rw [hy] at haty
        have hcw : ∃ c', IntKind.i64.wrap (c + y.credits) = c' := ⟨_, rfl⟩
        obtain ⟨c', hcw⟩ := hcw
        have HCr : Hid (creditsF L (l.take (k + 1)) s.student o.credits = c') := Lib.hid (by
          rw [HTK.out, creditsF_snoc, ← HI.out.2.1]
          unfold addC; rw [if_pos rfl, hy, hcw])
        have HCl : Hid (clashF L o (l.take (k + 1)) s.student = (q || clashO o y)) := Lib.hid (by
          rw [HTK.out, clashF_snoc, ← HI.out.2.2, decide_eq_true rfl, hy]; simp)
        have hb3 := hb2.alloc hb2.size (.cells y.cells.toArray 29)
        have hbw3 := hbw2.alloc hbw2.size (.cells y.cells.toArray 29)
        have hby : ∀ j, ((wr.alloc (.cells #[.int .i64 s.student, .string xc] 32)).alloc (.cells y.cells.toArray 29)).cell? ⟨wr.heap.size + 1, j, none⟩ = y.cells.toArray[j]? := fun j => Lib.cell_of_heap (new_two _ _ _) j
        have d3 : ∀ j, ((wr.alloc (.cells #[.int .i64 s.student, .string xc] 32)).alloc (.cells y.cells.toArray 29)).cell? ⟨g1 + 1 + 1, j, none⟩ = (#[.string o.code, .int .i64 o.credits, .int .i64 o.places, .slice o.sp o.slots.length o.sc, .slice o.np o.needs.length o.nc] : Array Value)[j]? := fun j => by rw [hb3.cell (p := ⟨g1 + 1 + 1, j, none⟩) lt3]; exact HC3.out j
        have HOO : Hid (OffOk w o ∧ o.few) := Lib.hid (by rw [← hoo]; exact ⟨getO_ok (fun o h => (HO.out o h).1) _, getO_few (fun o h => (HO.out o h).2) _⟩)
        have HY := Lib.hid hyo
        have HYF := Lib.hid hyf
        have HCW := Lib.hid hcw
        clear hy hyo hyf
        simp only [Off.cells] at hb3 hbw3 hby d3
        cases g2
        · cases q
          · go_wp2_with (first
              | ((with_reducible refine wpList_load_mid (op := ⟨some 30, _, _, _, _, _⟩) ?_ 32 (.tmp 29) ?_ g (of + k * 2) ?_ [.int .i64 s.student, .string xc] _ ?_ Try.underlying32 ?_ ?_ ?_); rfl; rfl; rfl; exact hatk; rfl; kernel_rfl)
              | (at_lookup; refine wpList_lookup_held _ rfl _ _ 52 rfl 9 29 str_keyed Try.underlying52 (Try.zeroValue29 _) b1 n1 D1 rfl own2 _ (litC xc) rfl hkx _ haty ?_))
            refine (clash_any o y _ (HOO.out.1.slots.below hbw3) (HY.out.slots.below hbw3) HOO.out.2 HYF.out).mono ?_
            rintro _ w4 ⟨rfl, hb4⟩
            go_wp2_with fail
            go_roundw
            case rel => exact ⟨k + 1, n, c', clashO o y, by omega, by omega, rfl, rfl, rfl, by go_num, Lib.hid ⟨by rw [HT.out]; rfl, HCr.out.symm, by rw [HCl.out]; rfl⟩, below_next hb3 hb4⟩
            case measure => simp [RowKit.intOf]; omega
          · go_wp2_with (first
              | ((with_reducible refine wpList_load_mid (op := ⟨some 30, _, _, _, _, _⟩) ?_ 32 (.tmp 29) ?_ g (of + k * 2) ?_ [.int .i64 s.student, .string xc] _ ?_ Try.underlying32 ?_ ?_ ?_); rfl; rfl; rfl; exact hatk; rfl; kernel_rfl)
              | (at_lookup; refine wpList_lookup_held _ rfl _ _ 52 rfl 9 29 str_keyed Try.underlying52 (Try.zeroValue29 _) b1 n1 D1 rfl own2 _ (litC xc) rfl hkx _ haty ?_))
            go_roundw
            case rel => exact ⟨k + 1, n, c', true, by omega, by omega, rfl, rfl, rfl, by go_num, Lib.hid ⟨by rw [HT.out]; rfl, HCr.out.symm, by rw [HCl.out]; rfl⟩, hb3⟩
            case measure => simp [RowKit.intOf]; omega
        · cases q
          · go_wp2_with (first
              | ((with_reducible refine wpList_load_mid (op := ⟨some 30, _, _, _, _, _⟩) ?_ 32 (.tmp 29) ?_ g (of + k * 2) ?_ [.int .i64 s.student, .string xc] _ ?_ Try.underlying32 ?_ ?_ ?_); rfl; rfl; rfl; exact hatk; rfl; kernel_rfl)
              | (at_lookup; refine wpList_lookup_held _ rfl _ _ 52 rfl 9 29 str_keyed Try.underlying52 (Try.zeroValue29 _) b1 n1 D1 rfl own2 _ (litC xc) rfl hkx _ haty ?_))
            refine (clash_any o y _ (HOO.out.1.slots.below hbw3) (HY.out.slots.below hbw3) HOO.out.2 HYF.out).mono ?_
            rintro _ w4 ⟨rfl, hb4⟩
            go_wp2_with fail
            go_roundw
            case rel => exact ⟨k + 1, n + 1, c', clashO o y, by omega, by omega, by go_num, rfl, rfl, by go_num, Lib.hid ⟨by rw [HT.out]; rfl, HCr.out.symm, by rw [HCl.out]; rfl⟩, below_next hb3 hb4⟩
            case measure => simp [RowKit.intOf]; omega
          · go_wp2_with (first
              | ((with_reducible refine wpList_load_mid (op := ⟨some 30, _, _, _, _, _⟩) ?_ 32 (.tmp 29) ?_ g (of + k * 2) ?_ [.int .i64 s.student, .string xc] _ ?_ Try.underlying32 ?_ ?_ ?_); rfl; rfl; rfl; exact hatk; rfl; kernel_rfl)
              | (at_lookup; refine wpList_lookup_held _ rfl _ _ 52 rfl 9 29 str_keyed Try.underlying52 (Try.zeroValue29 _) b1 n1 D1 rfl own2 _ (litC xc) rfl hkx _ haty ?_))
            go_roundw
            case rel => exact ⟨k + 1, n + 1, c', true, by omega, by omega, by go_num, rfl, rfl, by go_num, Lib.hid ⟨by rw [HT.out]; rfl, HCr.out.symm, by rw [HCl.out]; rfl⟩, hb3⟩
            case measure => simp [RowKit.intOf]; omega
      · have HCl : Hid (creditsF L (l.take (k + 1)) s.student o.credits = c ∧ clashF L o (l.take (k + 1)) s.student = q) := Lib.hid (by
          rw [HTK.out, creditsF_snoc, clashF_snoc, ← HI.out.2.1, ← HI.out.2.2]
          exact ⟨by unfold addC; rw [if_neg hst], by rw [decide_eq_false hst]; simp⟩)
        have hst2 : (xs == s.student) = false := by simpa using hst
        cases g2
        · go_wp2_with ((with_reducible refine wpList_load_mid (op := ⟨some 30, _, _, _, _, _⟩) ?_ 32 (.tmp 29) ?_ g (of + k * 2) ?_ [.int .i64 xs, .string xc] _ ?_ Try.underlying32 ?_ ?_ ?_); rfl; rfl; rfl; exact hatk; rfl; kernel_rfl)
          go_roundw
          case rel => exact ⟨k + 1, n, c, q, by omega, by omega, rfl, rfl, rfl, by go_num, Lib.hid ⟨by rw [HT.out]; rfl, HCl.out.1.symm, HCl.out.2.symm⟩, hb2⟩
          case measure => simp [RowKit.intOf]; omega
        · go_wp2_with ((with_reducible refine wpList_load_mid (op := ⟨some 30, _, _, _, _, _⟩) ?_ 32 (.tmp 29) ?_ g (of + k * 2) ?_ [.int .i64 xs, .string xc] _ ?_ Try.underlying32 ?_ ?_ ?_); rfl; rfl; rfl; exact hatk; rfl; kernel_rfl)
          go_roundw
          case rel => exact ⟨k + 1, n + 1, c, q, by omega, by omega, by go_num, rfl, rfl, by go_num, Lib.hid ⟨by rw [HT.out]; rfl, HCl.out.1.symm, HCl.out.2.symm⟩, hb2⟩
          case measure => simp [RowKit.intOf]; omega
    · obtain rfl : k = l.length := by omega
      have hi := HI.out
      rw [List.take_length] at hi
      obtain ⟨hi1, hi2, hi3⟩ := hi
      have hbw : RowKit.Below w.heap.size w wr := HB.out.trans (hbr.mono HB.out.size)
      have d1 : ∀ j, wr.cell? ⟨g1, j, none⟩ = (#[.map (some b1), .map (some b2), .int .i64 most] : Array Value)[j]? := fun j => by rw [hbr.cell (p := ⟨g1, j, none⟩) lt1]; exact HC1.out j
      have d2 : ∀ j, wr.cell? ⟨g1 + 1, j, none⟩ = (#[.int .i64 s.student, .string s.code] : Array Value)[j]? := fun j => by rw [hbr.cell (p := ⟨g1 + 1, j, none⟩) lt2]; exact HC2.out j
      have HF : Hid (fitsP L M most l s = if (!ok) = true then 5 else if decide (s ∈ l) = true then 6 else if (!decide (s ∈ M)) = true then 13 else if decide (o.places ≤ (n : Int)) = true then 50
        else if q = true then 51 else if decide (most < c) = true then 3 else 0) := Lib.hid (by rw [HFB.out, hi1, hi2, hi3])
      clear hi1 hi2 hi3 HFB hok
      cases ok
      · go_wp2_with fail
        go_ret
        exact ⟨ret_int (by rw [HF.out]; rfl), hbw⟩
      · go_wp2_with fail
        refine (contains_seats _ l s wr (HL.out.below hbw) hn).mono ?_
        rintro _ w4 ⟨rfl, hb4⟩
        have hb5 := below_next hbr hb4
        have hbw5 := below_next hbw hb4
        have e1 : ∀ j, w4.cell? ⟨g1, j, none⟩ = (#[.map (some b1), .map (some b2), .int .i64 most] : Array Value)[j]? := fun j => by rw [hb5.cell (p := ⟨g1, j, none⟩) lt1]; exact HC1.out j
        have e2 : ∀ j, w4.cell? ⟨g1 + 1, j, none⟩ = (#[.int .i64 s.student, .string s.code] : Array Value)[j]? := fun j => by rw [hb5.cell (p := ⟨g1 + 1, j, none⟩) lt2]; exact HC2.out j
        have e3 : ∀ j, w4.cell? ⟨g1 + 1 + 1, j, none⟩ = (#[.string o.code, .int .i64 o.credits, .int .i64 o.places, .slice o.sp o.slots.length o.sc, .slice o.np o.needs.length o.nc] : Array Value)[j]? := fun j => by rw [hb5.cell (p := ⟨g1 + 1 + 1, j, none⟩) lt3]; exact HC3.out j
        have own5 := HM1.out.kept (row := none) (below_grows hbw5) (by simp)
        have hks := key_seat s HS.out
        have hatm := HM.out
        clear hbr hbw d1 d2 hb4
        generalize decide (s ∈ l) = q1 at HF ⊢
        generalize decide (s ∈ M) = q2 at HF hatm
        generalize hq3 : decide (o.places ≤ (n : Int)) = q3 at HF
        generalize hq4 : decide (most < c) = q4 at HF
        have hz := Try.zeroValue4 w4
        cases q1
        · cases q2
          · go_wp2_with (at_lookup; refine wpList_lookup_own_bool _ rfl _ _ 53 rfl 32 4 st_keyed Try.underlying53 Try.underlying4 hz b2 n2 D2 rfl own5 _ (litS s) rfl hks _ hatm ?_)
            go_ret
            exact ⟨ret_int (by rw [HF.out]; rfl), hbw5⟩
          · cases q3
            · have p3 : (decide ((n : Int) ≥ o.places)) = false := hq3
              cases q
              · cases q4
                · have p4 : (decide (c > most)) = false := hq4
                  go_wp2_with (at_lookup; refine wpList_lookup_own_bool _ rfl _ _ 53 rfl 32 4 st_keyed Try.underlying53 Try.underlying4 hz b2 n2 D2 rfl own5 _ (litS s) rfl hks _ hatm ?_)
                  go_ret
                  exact ⟨ret_int (by rw [HF.out]; rfl), hbw5⟩
                · have p4 : (decide (c > most)) = true := hq4
                  go_wp2_with (at_lookup; refine wpList_lookup_own_bool _ rfl _ _ 53 rfl 32 4 st_keyed Try.underlying53 Try.underlying4 hz b2 n2 D2 rfl own5 _ (litS s) rfl hks _ hatm ?_)
                  go_ret
                  exact ⟨ret_int (by rw [HF.out]; rfl), hbw5⟩
              · go_wp2_with (at_lookup; refine wpList_lookup_own_bool _ rfl _ _ 53 rfl 32 4 st_keyed Try.underlying53 Try.underlying4 hz b2 n2 D2 rfl own5 _ (litS s) rfl hks _ hatm ?_)
                go_ret
                exact ⟨ret_int (by rw [HF.out]; rfl), hbw5⟩
            · have p3 : (decide ((n : Int) ≥ o.places)) = true := hq3
              go_wp2_with (at_lookup; refine wpList_lookup_own_bool _ rfl _ _ 53 rfl 32 4 st_keyed Try.underlying53 Try.underlying4 hz b2 n2 D2 rfl own5 _ (litS s) rfl hks _ hatm ?_)
              go_ret
              exact ⟨ret_int (by rw [HF.out]; rfl), hbw5⟩
        · go_wp2_with fail
          go_ret
          exact ⟨ret_int (by rw [HF.out]; rfl), hbw5⟩
end Go.Proofs.Ytjcogpalmgcpbaa
