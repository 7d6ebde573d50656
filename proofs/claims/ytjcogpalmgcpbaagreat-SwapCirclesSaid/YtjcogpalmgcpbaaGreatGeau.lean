/- Exchanges of places in plain words. -/
import Derived.Test.YtjcogpalmgcpbaaGreatGeat
import Derived.Test.YtjcogpalmgcpbaaGreatGeam
import Derived.Test.YtjcogpalmgcpbaaGreatGean
import Derived.Test.YtjcogpalmgcpbaaGreatGeao
import Derived.Deep.DeepCutAuto
import Derived.Test.YtjcogpalmgcpbaaGreatGeaj
/- The reference of layer 28: Deal. -/
namespace Go.Proofs.YtjcogpalmgcpbaaGreat
open Go Go.Proofs Go.RowKit Go.Maps Go.Sort Go.Lib
attribute [local go_sem] Req.cells
attribute [local go_sem ↓] seat_load

def RefDealPost (L : List Off) (M : List Seat) (most : Int) (R : List Req) (w : World) (e : Ending) (w' : World) : Prop :=
  ∃ v A, e = .returned v ∧ IsSet A R ∧ DealIn w' v (dealP L M most (ordP (actR A) (actR A).length)) ∧ RowKit.Below w.heap.size w w'
theorem DSt.seat2 {w0 w w' : World} {db : Nat} {d : Deal} {sv wv v' : Value} {X : List Seat} (h : DSt w0 db d sv wv w) {w1 : World} (hb : RowKit.Below w.heap.size w w1) (hg : w1.grownBy w' (some db)) (hx : w'.heap[db]? = some (.cells #[v', wv] 31 (0, 0))) (ho : w'.ownsRow w1.heap.size 38 2 v' X.length (flatE Seat.cells X)) :
    DSt w0 db ⟨X, d.waits⟩ v' wv w' := by
  have h1 := h.below hb
  have hlt := h.low
  refine ⟨grows_trans h1.keep hg, hx, row_base ho h1.size, h1.waits.kept hg ?_, ?_, hlt⟩
  · cases hq : wv.ownBlock with
    | none => exact .inl rfl
    | some q => exact .inr (fun e => by have h2 := (own_lo h.waits hq).1; injection e with e; omega)
  · cases hq : v'.ownBlock with
    | none => exact .inl rfl
    | some q =>
      refine .inr fun e => ?_
      have h2 : w1.heap.size ≤ q := (own_lo ho hq).1
      have h3 := (own_lo h1.waits e.symm).2
      omega
theorem far_box {w : World} {g o db : Nat} {x : Req} {t : TypeId} (h : w.rangeAt g o x.cells.toList) (hb : w.heap[db]? = some (.cells #[.slice none 0 0, .slice none 0 0] t (0, 0))) : g ≠ db := fun e => by
  subst e
  have h1 := h 0 _ rfl
  rw [Nat.add_zero, Lib.cell_of_heap hb] at h1
  match o, h1 with
  | 0, h1 => cases h1
  | 1, h1 => cases h1
  | n + 2, h1 => simp at h1
set_option maxHeartbeats 16000000 in
set_option maxRecDepth 100000 in
theorem refDeal_any (ov mv lv : Value) (L : List Off) (M : List Seat) (most : Int) (R : List Req) (w : World) (hO : RowIn Off.cells w ov L) (lo : L.length ≤ 1000000) (ho : FewO w L) (hM : RowIn Seat.cells w mv M) (lm : M.length ≤ 1000000) (hR : ReqsIn w lv R) (lR : R.length ≤ 800) (hs : ∀ r ∈ R, r.Small) :
    Calls Tryz.prog 18 #[ov, mv, .int .i64 most, lv] w (RefDealPost L M most R w) := by
  have hbb := (below_alloc1 w (.cells #[.slice none 0 0, .slice none 0 0] 31)).alloc (by simp) (.cells #[.slice none 0 0, .slice none 0 0] 31)
  have hx8 : ((w.alloc (.cells #[.slice none 0 0, .slice none 0 0] 31)).alloc (.cells #[.slice none 0 0, .slice none 0 0] 31)).heap[w.heap.size]? = some (.cells #[.slice none 0 0, .slice none 0 0] 31 (0, 0)) := by rw [(below_alloc1 _ _).block _ (by simp)]; exact heap_alloc_new w _
  have hx9 := new_two w (.cells #[.slice none 0 0, .slice none 0 0] 31) (.cells #[.slice none 0 0, .slice none 0 0] 31)
  have HO := Lib.hid hO
  have HW := Lib.hid ho
  have HM := Lib.hid hM
  have HR := Lib.hid hR
  have HS := Lib.hid hs
  obtain ⟨p1, c1, rfl, _⟩ := hO.form
  obtain ⟨pm, cm, rfl, _⟩ := hM.form
  clear hO ho hM hR hs
  go_enter Tryz.func18, Tryz.ntmps18
  go_upto_region 2 with fail
  generalize World.alloc _ _ = W at hbb hx8 hx9 ⊢
  go_wp2_with fail
  refine (refActive_any lv R W (HR.out.below hbb) (by omega) HS.out).mono ?_
  rintro _ w1 ⟨v1, A, rfl, hA, hr1, hb1⟩
  have hlA : (actR A).length ≤ R.length := Nat.le_trans (keepR_len _ _) (isSet_len hA)
  have HA := Lib.hid hA
  clear hA
  go_wp2_with fail
  refine (refOrder_any v1 (actR A) w1 hr1 (by omega)).mono ?_
  rintro _ w2 ⟨v2, rfl, hr2, hb2⟩
  obtain ⟨O, hOe⟩ : ∃ O, ordP (actR A) (actR A).length = O := ⟨_, rfl⟩
  have hlO : O.length ≤ 800 := by rw [← hOe, ordP_len]; omega
  rw [hOe] at hr2
  have HOE := Lib.hid hOe
  clear hOe hlA
  obtain ⟨pO, cO, rfl, _⟩ := hr2.form
  have hW2 := below_next hb1 hb2
  have HB2 : Hid (RowKit.Below w.heap.size w w2) := Lib.hid (below_next hbb hW2)
  have hx8' := (hW2.block w.heap.size (Array.getElem?_eq_some_iff.1 hx8).1).trans hx8
  have hx9' := (hW2.block (w.heap.size + 1) (Array.getElem?_eq_some_iff.1 hx9).1).trans hx9
  have hst : DSt w2 (w.heap.size + 1) ⟨[], []⟩ (.slice none 0 0) (.slice none 0 0) w2 := ⟨below_grows (Below.refl _ _), hx9', World.ownsRow_nil _ _ _ _, World.ownsRow_nil _ _ _ _, .inl rfl, (Array.getElem?_eq_some_iff.1 hx9').1⟩
  have hl8 : w.heap.size + 1 < w2.heap.size := (Array.getElem?_eq_some_iff.1 hx9').1
  have HX8 := Lib.hid hx8'
  have HRO := Lib.hid hr2
  have HX9 := Lib.hid hx9'
  have hdbe : w.heap.size + 1 = w.heap.size + 1 := rfl
  generalize hdb : w.heap.size + 1 = db at hst HX9 hl8 hx9 hx9' hdbe
  clear hr1 hr2 hb1 hb2 hW2 hx8 hx9 hx8' hx9' hbb
  go_wp2_with fail
  go_loopw [11] (fun i wr => ∃ (k : Nat) (sv wv : Value), k ≤ O.length ∧ i = .int .i64 k ∧ DSt w2 db (dealP L M most (O.take k)) sv wv wr) (fun i _ => O.length - (RowKit.intOf i).toNat)
  case atStart => exact ⟨0, _, _, Nat.zero_le _, rfl, hst⟩
  case round =>
    clear hst
    obtain ⟨k, sv, wv, hk, rfl, hst⟩ := hrel
    obtain ⟨ps, cs, rfl⟩ := own_form hst.seats
    obtain ⟨pw, cw, rfl⟩ := own_form hst.waits
    by_cases hlt : k < O.length
    · obtain ⟨g, o, c', hv, _, hgl, hx⟩ := HRO.out.at_ (by omega)
      have e1 := (Value.slice.inj hv).1
      subst e1
      have hz := List.getElem?_eq_getElem hlt
      have hgb := far_box (hx k _ hz) HX9.out
      have hatk := (hx k _ hz).grown hst.keep (by simp; omega)
      have HTK := Lib.hid (take_one hz)
      generalize O[k] = x at hz hatk HTK
      have hdl := deal_len (L := L) (met := M) (most := most) (O.take k)
      have hdl1 : (dealP L M most (O.take k)).seats.length ≤ 800 := by have := hdl.1; simp at this; omega
      have hdl2 : (dealP L M most (O.take k)).waits.length ≤ 800 := by have := hdl.2; simp at this; omega
      have HSN := Lib.hid (dealP_snoc L M most (O.take k) x)
      rw [← HTK.out] at HSN
      generalize dealP L M most (O.take k) = d at hst hdl1 hdl2 HSN
      clear hv hx hz hdl
      have hb2 := (below_alloc1 wr (.cells x.cells 41)).alloc (by simp) (.cells #[.int .i64 x.student, .string x.code] 38)
      have hst2 := hst.below hb2
      have hbx : ∀ j, (wr.alloc (.cells x.cells 41)).cell? ⟨wr.heap.size, j, none⟩ = x.cells[j]? := fun j => Lib.cell_of_heap (heap_alloc_new wr _) j
      have hbx2 : ∀ j, ((wr.alloc (.cells x.cells 41)).alloc (.cells #[.int .i64 x.student, .string x.code] 38)).cell? ⟨wr.heap.size, j, none⟩ = x.cells[j]? := fun j => by rw [(below_alloc1 (wr.alloc (.cells x.cells 41)) _).cell (p := ⟨wr.heap.size, j, none⟩) (by simp)]; exact hbx j
      have hs2 := new_two wr (.cells x.cells 41) (.cells #[.int .i64 x.student, .string x.code] 38)
      have hdc2 := hst2.cell
      have HST := Lib.hid hst
      simp only [Req.cells] at hb2 hst2 hbx hbx2 hs2 hdc2
      clear hst
      go_upto_region 8 with ((with_reducible refine wpList_load_mid (op := ⟨some 29, _, _, _, _, _⟩) ?_ 41 (.tmp 28) ?_ g (o + k * 9) ?_ (Req.cells x).toList _ ?_ Tryz.underlying41 ?_ ?_ ?_); rfl; rfl; rfl; exact hatk; rfl; kernel_rfl)
      clear hbx hatk
      generalize World.alloc (World.alloc wr _) _ = wr2 at hb2 hst2 hbx2 hs2 hdc2 ⊢
      obtain ⟨t, hT⟩ : ∃ t, (!x.give.toList.isEmpty) = t := ⟨_, rfl⟩
      have HT : Hid (t = !decide (x.give.size = 0)) := Lib.hid (by rw [← hT]; exact give_test x.give)
      obtain ⟨Ot, hOt⟩ : ∃ Ot, Ot = othersD d.seats x := ⟨_, rfl⟩
      obtain ⟨fin, hfin⟩ : ∃ fin, fin = fineD d.seats x := ⟨_, rfl⟩
      have HOt := Lib.hid hOt
      have Hfin := Lib.hid hfin
      clear hOt hfin
      have HS0 := Lib.hid (rowIn_own (enc := Seat.cells) (fun _ => rfl) (by decide) hst2.seats)
      go_upto_if 39 with fail
      go_cut [14, 15, 16] (fun v14 v15 v16 wx => ∃ p c, v14 = .slice p Ot.length c ∧ v15 = .bool fin ∧ v16 = v16 ∧ Hid (RowIn Seat.cells wx (.slice p Ot.length c) Ot) ∧ Hid (RowKit.Below wr2.heap.size wr2 wx))
      case first =>
        cases t
        · have hg0 : x.give.size = 0 := by have := HT.out; simpa using this
          have hOd : Ot = d.seats := by rw [HOt.out, others_none hg0]
          have hfd : fin = true := by rw [Hfin.out, fine_none hg0]
          go_wp2_with fail
          go_meet
          case rel => exact ⟨ps, cs, by rw [hOd], by rw [hfd], trivial, by rw [hOd]; exact HS0, Lib.hid (Below.refl _ _)⟩
        · have hg1 : ¬ x.give.size = 0 := by have := HT.out; simpa using this
          have HOd : Hid (Ot = d.seats.filter fun y => decide (y ≠ giveOf x)) := Lib.hid (by rw [HOt.out]; unfold othersD; rw [if_neg hg1])
          have Hfd : Hid (fin = decide (giveOf x ∈ d.seats)) := Lib.hid (by rw [Hfin.out]; unfold fineD; rw [decide_eq_false hg1]; rfl)
          have hb3 := below_alloc1 wr2 (.cells #[.int .i64 x.student, .string x.give] 38)
          have hgv : ∀ j, (wr2.alloc (.cells #[.int .i64 x.student, .string x.give] 38)).cell? ⟨wr2.heap.size, j, none⟩ = (#[.int .i64 x.student, .string x.give] : Array Value)[j]? := fun j => Lib.cell_of_heap (heap_alloc_new wr2 _) j
          have hdc3 := (hst2.below hb3).cell
          have chs := hasSeat_any (.slice ps d.seats.length cs) d.seats (giveOf x) _ (HS0.out.below hb3) (by omega)
          go_wp2_with fail
          refine chs.mono ?_
          rintro _ w4 ⟨rfl, hb4⟩
          have hB4 := below_next hb3 hb4
          have hdc4 := (hst2.below hB4).cell
          have hgv4 : ∀ j, w4.cell? ⟨wr2.heap.size, j, none⟩ = (#[.int .i64 x.student, .string x.give] : Array Value)[j]? := fun j => (hb4.cell (p := ⟨wr2.heap.size, j, none⟩) (by simp)).trans (hgv j)
          have cwo := refWithout_any (.slice ps d.seats.length cs) d.seats (giveOf x) w4 (HS0.out.below hB4) (by omega)
          clear chs hgv hdc3 hg1
          go_wp2_with fail
          refine cwo.mono ?_
          rintro _ w5 ⟨p5, c5, rfl, hr5, hb5⟩
          have HB5 := Lib.hid (below_next hB4 hb5)
          have HR5 := Lib.hid hr5
          clear cwo hr5 hb5 hb4 hb3 hB4
          go_wp2_with fail
          go_meet
          case rel => exact ⟨p5, c5, by rw [HOd.out]; simp, by rw [Hfd.out], trivial, by rw [HOd.out]; exact HR5, HB5⟩
      case rest =>
        obtain ⟨p, c, rfl, rfl, _, HO4, HB4⟩ := hcut
        have HST2 := Lib.hid (stepD_named (L := L) (M := M) (most := most) HOt.out Hfin.out)
        have hOl2 : Ot.length ≤ 800 := by rw [HOt.out]; exact Nat.le_trans (others_sub _ _).length_le hdl1
        have hb4 := HB4.out
        have hsW := hst2.below hb4
        have hcW := hsW.cell
        have hsc : ∀ j, wc.cell? ⟨wr.heap.size + 1, j, none⟩ = (#[.int .i64 x.student, .string x.code] : Array Value)[j]? := fun j => Lib.cell_of_heap ((hb4.block _ (lt_of_heap hs2)).trans hs2) j
        have hBwc : RowKit.Below w.heap.size w wc := below_next (below_next (HB2.out.grown HST.out.keep HB2.out.size (fun q hq => by injection hq with hq; omega)) hb2) hb4
        have cft := refFits_any (.slice p1 L.length c1) (.slice pm M.length cm) (.slice p Ot.length c) L M most Ot (seatOf x) wc (HO.out.below hBwc) lo (HW.out.below hBwc) (HM.out.below hBwc) lm HO4.out (by omega)
        clear hBwc hbx2 hdc2
        cases fin
        · have HStep : Hid (dealP L M most (O.take (k + 1)) = if seatOf x ∈ d.waits then d else ⟨d.seats, d.waits ++ [seatOf x]⟩) := Lib.hid (by rw [HSN.out, HST2.out, if_neg (by simp)])
          clear cft
          have cc := hasSeat_any (.slice pw d.waits.length cw) d.waits (seatOf x) wc (rowIn_own (fun _ => rfl) (by decide) hsW.waits) (by omega)
          have HBW := Lib.hid hb4
          go_wp2_with fail
          refine cc.mono ?_
          rintro _ w8 ⟨rfl, hb8⟩
          have HB8 := Lib.hid (below_next HBW.out hb8)
          by_cases hin : seatOf x ∈ d.waits
          · have hd1 : (decide (seatOf x ∈ d.waits)) = true := decide_eq_true hin
            have HN : Hid (dealP L M most (O.take (k + 1)) = d) := Lib.hid (by rw [HStep.out, if_pos hin])
            have hst8 := hst2.below HB8.out
            rw [hd1]
            clear hin hd1 hb8 hcW hsc cc
            go_wp2_with fail
            go_roundw
            case rel => exact ⟨k + 1, _, _, by omega, by go_num, by rw [HN.out]; exact hst8⟩
            case measure => simp [RowKit.intOf]; omega
          · have hd1 : (decide (seatOf x ∈ d.waits)) = false := decide_eq_false hin
            have HN : Hid (dealP L M most (O.take (k + 1)) = ⟨d.seats, d.waits ++ [seatOf x]⟩) := Lib.hid (by rw [HStep.out, if_neg hin])
            have hst8 := hst2.below HB8.out
            have hc8 := hst8.cell
            have hs8 : ∀ j, w8.cell? ⟨wr.heap.size + 1, j, none⟩ = (#[.int .i64 x.student, .string x.code] : Array Value)[j]? := fun j => Lib.cell_of_heap ((HB8.out.block _ (lt_of_heap hs2)).trans hs2) j
            have hb9 : RowKit.Below wr2.heap.size wr2 (w8.alloc (.cells #[.int .i64 x.student, .string x.code] 38)) := HB8.out.alloc HB8.out.size _
            have hst9 := hst2.below hb9
            have hown9 := hst9.waits
            have hlit := rowIn_lit (enc := Seat.cells) (e := 38) w8 [seatOf x] #[.int .i64 x.student, .string x.code] w8.heap.size rfl rfl 1 rfl
            have hsz9 := hst9.size
            rw [hd1]
            clear hin hd1 hb8 hcW hsc cc
            go_wp2_with (at_builtin; refine wpList_append_row seatT rfl (.tmp 76) (.tmp 78) rfl w2.heap.size _ _ d.waits [seatOf x] rfl rfl hown9 hlit (by simp; omega) hsz9 ?_; intro v9 w9 hA9; obtain ⟨p9, c9, rfl⟩ := own_form hA9.own; have hbx9 := hst9.after hA9.grown (fun q hq => (own_lo hown9 hq).1); have hc9 : ∀ j, w9.cell? ⟨db, j, none⟩ = (#[.slice ps d.seats.length cs, .slice pw d.waits.length cw] : Array Value)[j]? := fun j => Lib.cell_of_heap hbx9 j; have hf9 : ∀ j, w9.frozen? ⟨db, j, none⟩ = false := fun j => Lib.frozen_of_heap hbx9 j)
            have hstF := hst2.wait hb9 hA9
            simp only [List.length_append, List.length_singleton] at hstF
            go_roundw
            case rel => exact ⟨k + 1, _, _, by omega, by go_num, by rw [HN.out]; exact hstF⟩
            case measure => simp [RowKit.intOf]; omega
        · go_wp2_with fail
          refine cft.mono ?_
          rintro _ w7 ⟨rfl, hb7⟩
          have hB7 := below_next hb4 hb7
          have HR7 := Lib.hid (HO4.out.below hb7)
          have hsW7 := hst2.below hB7
          clear hb7 cft hcW hsc
          by_cases he : fitsP L M most Ot (seatOf x) = 0
          · have HN : Hid (dealP L M most (O.take (k + 1)) = ⟨Ot ++ [seatOf x], d.waits⟩) := Lib.hid (by rw [HSN.out, HST2.out, if_pos ⟨by trivial, he⟩])
            have HB7 := Lib.hid hB7
            rw [he]
            clear he hb4 hsW
            go_wp2_with fail
            refine dl_r15 db (wr.heap.size + 1) p c (.slice ps d.seats.length cs) (.slice pw d.waits.length cw) Ot (seatOf x) w7 _ hsW7.box ((hB7.block _ (lt_of_heap hs2)).trans hs2) (by have := HST.out.lt; omega) HR7.out (by omega) ?_
            intro u63 u65 u67 u68 u69 p9 c9 wx hg9 hx9 ho9
            have hstF := hst2.seat2 HB7.out hg9 hx9 ho9
            have HSF := Lib.hid hstF
            clear hstF hg9 hx9 ho9 hsW7 hB7
            go_wp2_with fail
            go_roundw
            case rel => exact ⟨k + 1, _, _, by omega, by go_num, by rw [HN.out]; exact HSF.out⟩
            case measure => simp [RowKit.intOf]; omega
          · have HStep : Hid (dealP L M most (O.take (k + 1)) = if seatOf x ∈ d.waits then d else ⟨d.seats, d.waits ++ [seatOf x]⟩) := Lib.hid (by rw [HSN.out, HST2.out, if_neg (fun h => he h.2)])
            have hcW := hsW7.cell
            have hsc : ∀ j, w7.cell? ⟨wr.heap.size + 1, j, none⟩ = (#[.int .i64 x.student, .string x.code] : Array Value)[j]? := fun j => Lib.cell_of_heap ((hB7.block _ (lt_of_heap hs2)).trans hs2) j
            generalize fitsP L M most Ot (seatOf x) = e at he ⊢
            have he2 : (e == 0) = false := by simpa using he
            clear he
            have cc := hasSeat_any (.slice pw d.waits.length cw) d.waits (seatOf x) w7 (rowIn_own (fun _ => rfl) (by decide) hsW7.waits) (by omega)
            have HBW := Lib.hid hB7
            go_wp2_with fail
            refine cc.mono ?_
            rintro _ w8 ⟨rfl, hb8⟩
            have HB8 := Lib.hid (below_next HBW.out hb8)
            by_cases hin : seatOf x ∈ d.waits
            · have hd1 : (decide (seatOf x ∈ d.waits)) = true := decide_eq_true hin
              have HN : Hid (dealP L M most (O.take (k + 1)) = d) := Lib.hid (by rw [HStep.out, if_pos hin])
              have hst8 := hst2.below HB8.out
              rw [hd1]
              clear hin hd1 hb8 hcW hsc cc
              go_wp2_with fail
              go_roundw
              case rel => exact ⟨k + 1, _, _, by omega, by go_num, by rw [HN.out]; exact hst8⟩
              case measure => simp [RowKit.intOf]; omega
            · have hd1 : (decide (seatOf x ∈ d.waits)) = false := decide_eq_false hin
              have HN : Hid (dealP L M most (O.take (k + 1)) = ⟨d.seats, d.waits ++ [seatOf x]⟩) := Lib.hid (by rw [HStep.out, if_neg hin])
              have hst8 := hst2.below HB8.out
              have hc8 := hst8.cell
              have hs8 : ∀ j, w8.cell? ⟨wr.heap.size + 1, j, none⟩ = (#[.int .i64 x.student, .string x.code] : Array Value)[j]? := fun j => Lib.cell_of_heap ((HB8.out.block _ (lt_of_heap hs2)).trans hs2) j
              have hb9 : RowKit.Below wr2.heap.size wr2 (w8.alloc (.cells #[.int .i64 x.student, .string x.code] 38)) := HB8.out.alloc HB8.out.size _
              have hst9 := hst2.below hb9
              have hown9 := hst9.waits
              have hlit := rowIn_lit (enc := Seat.cells) (e := 38) w8 [seatOf x] #[.int .i64 x.student, .string x.code] w8.heap.size rfl rfl 1 rfl
              have hsz9 := hst9.size
              rw [hd1]
              clear hin hd1 hb8 hcW hsc cc
              go_wp2_with (at_builtin; refine wpList_append_row seatT rfl (.tmp 76) (.tmp 78) rfl w2.heap.size _ _ d.waits [seatOf x] rfl rfl hown9 hlit (by simp; omega) hsz9 ?_; intro v9 w9 hA9; obtain ⟨p9, c9, rfl⟩ := own_form hA9.own; have hbx9 := hst9.after hA9.grown (fun q hq => (own_lo hown9 hq).1); have hc9 : ∀ j, w9.cell? ⟨db, j, none⟩ = (#[.slice ps d.seats.length cs, .slice pw d.waits.length cw] : Array Value)[j]? := fun j => Lib.cell_of_heap hbx9 j; have hf9 : ∀ j, w9.frozen? ⟨db, j, none⟩ = false := fun j => Lib.frozen_of_heap hbx9 j)
              have hstF := hst2.wait hb9 hA9
              simp only [List.length_append, List.length_singleton] at hstF
              go_roundw
              case rel => exact ⟨k + 1, _, _, by omega, by go_num, by rw [HN.out]; exact hstF⟩
              case measure => simp [RowKit.intOf]; omega
    · obtain rfl : k = O.length := by omega
      rw [List.take_length] at hst
      have hcell := hst.cell
      have hBw : RowKit.Below w.heap.size w wr := HB2.out.grown hst.keep HB2.out.size (fun q hq => by injection hq with hq; omega)
      have hrb := (hst.keep.block w.heap.size (by omega) (by simp; omega)).trans HX8.out
      have hfr : ∀ j, wr.frozen? ⟨w.heap.size, j, none⟩ = false := fun j => Lib.frozen_of_heap hrb j
      have hrc : ∀ j, wr.cell? ⟨w.heap.size, j, none⟩ = (#[.slice none 0 0, .slice none 0 0] : Array Value)[j]? := fun j => Lib.cell_of_heap hrb j
      have hdl := deal_len (L := L) (met := M) (most := most) O
      have HS := Lib.hid hst
      have hne : ¬ (db = w.heap.size) := by omega
      have lre : w.heap.size < w2.heap.size := by omega
      clear hst
      go_wp2_with fail
      have h := HS.out
      have hg2 := grows_trans (Only.setCell wr w.heap.size 0 (.slice ps (dealP L M most O).seats.length cs) 0) (Only.setCell _ w.heap.size 1 (.slice pw (dealP L M most O).waits.length cw) 0)
      refine bodyPost_ret (v := .agg #[.slice ps (dealP L M most O).seats.length cs, .slice pw (dealP L M most O).waits.length cw]) (results_cell_row (P := Tryz.prog) Tryz.results18 _ _ w.heap.size 31 #[.slice ps (dealP L M most O).seats.length cs, .slice pw (dealP L M most O).waits.length cw] (0, 0) _ rfl ?_ Tryz.underlying31 rfl (by kernel_rfl)) rfl
        ⟨_, A, rfl, HA.out, by rw [HOE.out]; exact DealIn.mk' (rowIn_own (fun _ => rfl) (by decide) (own_set (own_set h.seats lre 0 _) lre 1 _)) (rowIn_own (fun _ => rfl) (by decide) (own_set (own_set h.waits lre 0 _) lre 1 _)) (by omega) (by omega), hBw.grown hg2 hBw.size (fun q hq => by injection hq with hq; subst hq; exact Nat.le_refl _)⟩
      simp [World.setCell, Array.getElem?_modify, hrb]
end Go.Proofs.YtjcogpalmgcpbaaGreat
namespace Go.Proofs.YtjcogpalmgcpbaaGreat
open Go Go.Proofs Go.RowKit Go.Sort Go.Lib

instance : DecidableEq Req := fun a b => decidable_of_iff _ (eqReq_iff a b)
theorem eqReq_dec (a b : Req) : eqReq a b = decide (a = b) := by rw [Bool.eq_iff_iff, eqReq_iff, decide_eq_true_eq]
/-- The set that a list is. -/
noncomputable def setOf (l : List Req) : List Req := by classical exact if h : ∃ M, IsSet M l then h.choose else []
theorem setOf_eq {M l : List Req} (h : IsSet M l) : setOf l = M := by
  unfold setOf
  rw [dif_pos ⟨M, h⟩]
  exact IsSet.eq (Exists.choose_spec (⟨M, h⟩ : ∃ M, IsSet M l)) h (fun _ => Iff.rfl)
noncomputable def actS (l : List Req) : List Req := actR (setOf l)
theorem actS_eq {M l : List Req} (h : IsSet M l) : actS l = actR M := by unfold actS; rw [setOf_eq h]
def reqZ : Req := ⟨0, 0, false, 0, 0, ⟨#[]⟩, ⟨#[]⟩, 0, 0⟩
def atR (l : List Req) (n : Nat) : Req := (l[n]?).getD reqZ
theorem atR_get {l : List Req} {n : Nat} {r : Req} (h : l[n]? = some r) : atR l n = r := by unfold atR; rw [h]; rfl
theorem atR_mem {l : List Req} {n : Nat} (h : n < l.length) : atR l n ∈ l := by
  rw [atR_get (List.getElem?_eq_getElem h)]; exact List.getElem_mem h
/-- .. can be exchanged. -/
def canB (A : List Req) (d : Deal) (r : Req) : Bool :=
  !decide (r.give.size = 0) && !decide (r.give = r.code) && decide (giveOf r ∈ d.seats) && decide (seatOf r ∈ d.waits) && !decide (seatOf r ∈ d.seats) && decide (r ∈ A)
structure CanR (A : List Req) (d : Deal) (r : Req) : Prop where
  give : r.give.size ≠ 0
  ne : r.give ≠ r.code
  has : giveOf r ∈ d.seats
  wait : seatOf r ∈ d.waits
  not : seatOf r ∉ d.seats
  act : r ∈ A
theorem canB_iff {A : List Req} {d : Deal} {r : Req} : canB A d r = true ↔ CanR A d r := by
  unfold canB
  simp only [Bool.and_eq_true, Bool.not_eq_true', decide_eq_false_iff_not, decide_eq_true_eq]
  exact ⟨fun ⟨⟨⟨⟨⟨a, b⟩, c⟩, d⟩, e⟩, f⟩ => ⟨a, b, c, d, e, f⟩, fun h => ⟨⟨⟨⟨⟨h.give, h.ne⟩, h.has⟩, h.wait⟩, h.not⟩, h.act⟩⟩
/-- The first k of them that can. -/
def canTo (A : List Req) (d : Deal) (l : List Req) (k : Nat) : List Nat := (List.range k).filter fun i => canB A d (atR l i)
def canP (A : List Req) (d : Deal) (l : List Req) : List Nat := canTo A d l l.length
theorem canTo_succ (A : List Req) (d : Deal) (l : List Req) (k : Nat) : canTo A d l (k + 1) = canTo A d l k ++ if canB A d (atR l k) = true then [k] else [] := by
  unfold canTo
  rw [List.range_succ, List.filter_append]
  congr 1
  by_cases h : canB A d (atR l k) = true <;> simp [h]
theorem canTo_len (A : List Req) (d : Deal) (l : List Req) (k : Nat) : (canTo A d l k).length ≤ k := by
  have := List.length_filter_le (fun i => canB A d (atR l i)) (List.range k)
  rw [List.length_range] at this
  exact this
theorem mem_canP {A : List Req} {d : Deal} {l : List Req} {n : Nat} : n ∈ canP A d l ↔ n < l.length ∧ CanR A d (atR l n) := by
  unfold canP canTo
  rw [List.mem_filter, List.mem_range, canB_iff]
def followsB (l : List Req) (c : List Nat) (n : Nat) : Bool :=
  c.isEmpty || (decide (c.headD 0 < n) && decide ((atR l (c.getLastD 0)).code = (atR l n).give) && !(c.any fun k => decide ((atR l k).student = (atR l n).student)))
def closesB (l : List Req) (c : List Nat) : Bool := decide ((atR l (c.getLastD 0)).code = (atR l (c.headD 0)).give)
/-- The circles that begin in a way, with m more. -/
def extP (l : List Req) (can : List Nat) : Nat → List Nat → List (List Nat)
  | 0, c => if closesB l c = true then [c] else []
  | m + 1, c => can.flatMap fun n => if followsB l c n = true then extP l can m (c ++ [n]) else []
/-- Each one follows. -/
def Chain (l : List Req) (can c : List Nat) : Prop := ∀ i n, c[i]? = some n → n ∈ can ∧ followsB l (c.take i) n = true
theorem chain_nil (l : List Req) (can : List Nat) : Chain l can [] := fun i n h => by simp at h
theorem chain_snoc {l : List Req} {can c : List Nat} {n : Nat} : Chain l can (c ++ [n]) ↔ Chain l can c ∧ n ∈ can ∧ followsB l c n = true := by
  constructor
  · intro h
    refine ⟨fun i x hi => ?_, ?_⟩
    · have hlt : i < c.length := (List.getElem?_eq_some_iff.1 hi).1
      have := h i x (by rw [List.getElem?_append_left hlt]; exact hi)
      rwa [List.take_append_of_le_length (by omega)] at this
    · have := h c.length n (by simp)
      simpa using this
  · rintro ⟨h1, h2⟩ i x hi
    rcases Nat.lt_trichotomy i c.length with h' | h' | h'
    · rw [List.getElem?_append_left h'] at hi
      rw [List.take_append_of_le_length (by omega)]
      exact h1 i x hi
    · subst h'
      simp at hi
      subst hi
      simpa using h2
    · rw [List.getElem?_eq_none (by simp; omega)] at hi; cases hi
theorem mem_ext {l : List Req} {can : List Nat} : ∀ (m : Nat) (c x : List Nat), Chain l can c → (x ∈ extP l can m c ↔ ∃ s, x = c ++ s ∧ s.length = m ∧ Chain l can x ∧ closesB l x = true)
  | 0, c, x, hc => by
    unfold extP
    constructor
    · intro h
      split at h
      · rename_i h2
        rw [List.mem_singleton] at h
        subst h
        exact ⟨[], by simp, rfl, hc, h2⟩
      · cases h
    · rintro ⟨s, rfl, hs, h1, h2⟩
      have : s = [] := List.eq_nil_of_length_eq_zero hs
      subst this
      rw [List.append_nil] at h2 ⊢
      rw [if_pos h2]; simp
  | m + 1, c, x, hc => by
    unfold extP
    rw [List.mem_flatMap]
    constructor
    · rintro ⟨n, hn, h⟩
      split at h
      · rename_i hf
        obtain ⟨s, rfl, hs, h1, h2⟩ := (mem_ext m (c ++ [n]) x (chain_snoc.2 ⟨hc, hn, hf⟩)).1 h
        exact ⟨n :: s, by simp, by simp [hs], h1, h2⟩
      · cases h
    · rintro ⟨s, rfl, hs, h1, h2⟩
      cases s with
      | nil => simp at hs
      | cons n s =>
        have hn := h1 c.length n (by simp)
        rw [List.take_left] at hn
        refine ⟨n, hn.1, ?_⟩
        rw [if_pos hn.2]
        exact (mem_ext m (c ++ [n]) _ (chain_snoc.2 ⟨hc, hn⟩)).2 ⟨s, by simp, by simpa using hs, h1, h2⟩
theorem mem_circles {l : List Req} {can : List Nat} {m : Nat} {x : List Nat} : x ∈ extP l can m [] ↔ x.length = m ∧ Chain l can x ∧ closesB l x = true := by
  rw [mem_ext m [] x (chain_nil _ _)]
  constructor
  · rintro ⟨s, rfl, h⟩; simpa using h
  · exact fun h => ⟨x, rfl, h⟩
/-- .. is a circle. -/
def isB (l : List Req) (can c : List Nat) : Bool :=
  decide (2 ≤ c.length) && decide (c.length ≤ 4) && (List.range c.length).all (fun i => decide (c.getD i 0 ∈ can) && followsB l (c.take i) (c.getD i 0)) && closesB l c
theorem isB_iff {l : List Req} {can c : List Nat} : isB l can c = true ↔ 2 ≤ c.length ∧ c.length ≤ 4 ∧ Chain l can c ∧ closesB l c = true := by
  unfold isB
  simp only [Bool.and_eq_true, decide_eq_true_eq, List.all_eq_true, List.mem_range]
  constructor
  · rintro ⟨⟨⟨h1, h2⟩, h3⟩, h4⟩
    refine ⟨h1, h2, fun i n hi => ?_, h4⟩
    have hlt : i < c.length := (List.getElem?_eq_some_iff.1 hi).1
    have := h3 i hlt
    rw [List.getD_eq_getElem?_getD, hi] at this
    exact this
  · rintro ⟨h1, h2, h3, h4⟩
    refine ⟨⟨⟨h1, h2⟩, fun i hi => ?_⟩, h4⟩
    have := h3 i _ (List.getElem?_eq_getElem hi)
    rw [List.getD_eq_getElem?_getD, List.getElem?_eq_getElem hi]
    exact this
/-- The deal after requests are met in turn. -/
def turn1 (d : Deal) (r : Req) : Deal := ⟨d.seats.replace (giveOf r) (seatOf r), d.waits.erase (seatOf r)⟩
def turnR (d : Deal) (rs : List Req) : Deal := rs.foldl turn1 d
def turnP (l : List Req) (d : Deal) (c : List Nat) : Deal := turnR d (c.map (atR l))
def allC (l : List Req) (can : List Nat) : List (List Nat) := extP l can 2 [] ++ extP l can 3 [] ++ extP l can 4 []
def goodC (L : List Off) (M : List Seat) (most : Int) (l : List Req) (d : Deal) (c : List Nat) : Bool := decide (checkP L M most (turnP l d c).seats (turnP l d c).seats.length = 0)
noncomputable def circleP (L : List Off) (M : List Seat) (most : Int) (l : List Req) (d : Deal) : Option (List Nat) := (allC l (canP (actS l) d l)).find? (goodC L M most l d)
theorem mem_allC {l : List Req} {can x : List Nat} : x ∈ allC l can ↔ isB l can x = true := by
  unfold allC
  rw [List.mem_append, List.mem_append, mem_circles, mem_circles, mem_circles, isB_iff]
  constructor
  · rintro ((⟨h, h2⟩ | ⟨h, h2⟩) | ⟨h, h2⟩) <;> exact ⟨by omega, by omega, h2⟩
  · rintro ⟨h1, h2, h3⟩
    have : x.length = 2 ∨ x.length = 3 ∨ x.length = 4 := by omega
    rcases this with h | h | h
    · exact .inl (.inl ⟨h, h3⟩)
    · exact .inl (.inr ⟨h, h3⟩)
    · exact .inr ⟨h, h3⟩
/-- What trading leads to. -/
inductive Reach (L : List Off) (M : List Seat) (most : Int) (l : List Req) : Deal → Deal → Prop where
  | refl (d : Deal) : Reach L M most l d d
  | step {d e : Deal} {c : List Nat} (h : circleP L M most l d = some c) (t : Reach L M most l (turnP l d c) e) : Reach L M most l d e
theorem Reach.snoc {L : List Off} {M : List Seat} {most : Int} {l : List Req} {d e : Deal} {c : List Nat} (h : Reach L M most l d e) (hc : circleP L M most l e = some c) : Reach L M most l d (turnP l e c) := by
  induction h with
  | refl d => exact .step hc (.refl _)
  | step h _ ih => exact .step h (ih hc)
theorem Reach.stop {L : List Off} {M : List Seat} {most : Int} {l : List Req} {d e : Deal} (h : Reach L M most l d e) (hd : circleP L M most l d = none) : e = d := by
  cases h with
  | refl => rfl
  | step h _ => rw [hd] at h; cases h

/-! ### What one turn does -/
/-- The requests of a circle. -/
structure Ring (A : List Req) (d : Deal) (rs : List Req) : Prop where
  far : rs.Pairwise fun a b => a.student ≠ b.student
  can : ∀ r ∈ rs, CanR A d r
theorem last_getD (c : List Nat) (n : Nat) : (c ++ [n]).getLastD 0 = n := by simp
theorem follows_far {l : List Req} {c : List Nat} {n : Nat} (h : followsB l c n = true) : ∀ k ∈ c, (atR l k).student ≠ (atR l n).student := by
  intro k hk
  unfold followsB at h
  cases c with
  | nil => cases hk
  | cons a c =>
    simp only [List.isEmpty_cons, Bool.false_or, Bool.and_eq_true, Bool.not_eq_true', List.any_eq_false, decide_eq_true_eq] at h
    exact h.2 k hk
theorem chain_far {l : List Req} {can : List Nat} (c : List Nat) : Chain l can c → (c.map (atR l)).Pairwise fun a b => a.student ≠ b.student := by
  refine snoc_ind (p := fun c => Chain l can c → (c.map (atR l)).Pairwise fun a b => a.student ≠ b.student) (fun _ => List.Pairwise.nil) (fun a x ih h => ?_) c
  rw [chain_snoc] at h
  rw [List.map_append, List.map_singleton, List.pairwise_append]
  refine ⟨ih h.1, List.pairwise_singleton _ _, fun u hu v hv => ?_⟩
  rw [List.mem_singleton] at hv
  subst hv
  obtain ⟨k, hk, rfl⟩ := List.mem_map.1 hu
  exact follows_far h.2.2 k hk
theorem chain_ring {A : List Req} {d : Deal} {l : List Req} {c : List Nat} (h : Chain l (canP A d l) c) : Ring A d (c.map (atR l)) where
  far := chain_far c h
  can r hr := by
    obtain ⟨n, hn, rfl⟩ := List.mem_map.1 hr
    obtain ⟨i, hi⟩ := List.mem_iff_getElem?.1 hn
    exact (mem_canP.1 (h i n hi).1).2
theorem turnR_cons (d : Deal) (r : Req) (rs : List Req) : turnR d (r :: rs) = turnR (turn1 d r) rs := rfl
theorem repl_cons (y : Seat) (l : List Seat) (a b : Seat) : (y :: l).replace a b = if a = y then b :: l else y :: l.replace a b := by
  rw [List.replace_cons]
  by_cases h : a = y
  · subst h; simp
  · rw [if_neg h, beq_eq_false_iff_ne.2 h]
theorem mem_replace {l : List Seat} {a b x : Seat} (hx : x ≠ a) (h : x ∈ l) : x ∈ l.replace a b := by
  induction l with
  | nil => cases h
  | cons y l ih =>
    rw [repl_cons]
    by_cases hy : a = y
    · rw [if_pos hy]
      rcases List.mem_cons.1 h with rfl | h
      · exact absurd hy.symm hx
      · exact List.mem_cons_of_mem _ h
    · rw [if_neg hy]
      rcases List.mem_cons.1 h with rfl | h
      · exact List.mem_cons_self
      · exact List.mem_cons_of_mem _ (ih h)
theorem of_replace {l : List Seat} {a b x : Seat} (hx : x ≠ b) (h : x ∈ l.replace a b) : x ∈ l := by
  induction l with
  | nil => simp at h
  | cons y l ih =>
    rw [repl_cons] at h
    split at h
    · rcases List.mem_cons.1 h with rfl | h
      · exact absurd rfl hx
      · exact List.mem_cons_of_mem _ h
    · rcases List.mem_cons.1 h with rfl | h
      · exact List.mem_cons_self
      · exact List.mem_cons_of_mem _ (ih h)
theorem in_replace {l : List Seat} {a : Seat} (b : Seat) (h : a ∈ l) : b ∈ l.replace a b := by
  induction l with
  | nil => cases h
  | cons y l ih =>
    rw [repl_cons]
    by_cases hy : a = y
    · rw [if_pos hy]; exact List.mem_cons_self
    · rw [if_neg hy]
      rcases List.mem_cons.1 h with rfl | h
      · exact absurd rfl hy
      · exact List.mem_cons_of_mem _ (ih h)
theorem len_replace (l : List Seat) (a b : Seat) : (l.replace a b).length = l.length := List.length_replace
theorem map_replace {β : Type} (f : Seat → β) {a b : Seat} (h : f a = f b) : ∀ l : List Seat, (l.replace a b).map f = l.map f
  | [] => by simp
  | y :: l => by
    rw [repl_cons]
    split
    · rename_i hy
      subst hy
      rw [List.map_cons, List.map_cons, h]
    · rw [List.map_cons, List.map_cons, map_replace f h l]
theorem count_replace (p : Seat → Bool) {a b : Seat} : ∀ {l : List Seat}, a ∈ l → (l.replace a b).countP p + (if p a = true then 1 else 0) = l.countP p + (if p b = true then 1 else 0)
  | [], h => by cases h
  | y :: l, h => by
    rw [repl_cons]
    by_cases hy : a = y
    · rw [if_pos hy]
      subst hy
      rw [List.countP_cons, List.countP_cons]
      omega
    · rw [if_neg hy]
      have hm : a ∈ l := by
        rcases List.mem_cons.1 h with rfl | h
        · exact absurd rfl hy
        · exact h
      have := count_replace p (b := b) hm
      rw [List.countP_cons, List.countP_cons]
      omega
theorem Ring.tail {A : List Req} {d : Deal} {r : Req} {rs : List Req} (h : Ring A d (r :: rs)) : Ring A (turn1 d r) rs where
  far := (List.pairwise_cons.1 h.far).2
  can x hx := by
    have hne := (List.pairwise_cons.1 h.far).1 x hx
    have hc := h.can x (List.mem_cons_of_mem _ hx)
    refine ⟨hc.give, hc.ne, mem_replace (fun e => hne (congrArg Seat.student e).symm) hc.has, ?_, fun hm => hc.not (of_replace (fun e => hne (congrArg Seat.student e).symm) hm), hc.act⟩
    exact (List.mem_erase_of_ne (fun e => hne (congrArg Seat.student e).symm)).2 hc.wait
theorem Ring.head {A : List Req} {d : Deal} {r : Req} {rs : List Req} (h : Ring A d (r :: rs)) : CanR A d r := h.can r List.mem_cons_self
section
variable {A : List Req}
theorem turn_students : ∀ (rs : List Req) (d : Deal), (turnR d rs).seats.map Seat.student = d.seats.map Seat.student
  | [], _ => rfl
  | r :: rs, d => by
    rw [turnR_cons, turn_students rs]
    exact map_replace Seat.student (a := giveOf r) (b := seatOf r) rfl d.seats
theorem turn_len (rs : List Req) (d : Deal) : (turnR d rs).seats.length = d.seats.length := by
  have := congrArg List.length (turn_students rs d)
  simpa using this
theorem turn_waits_len : ∀ (rs : List Req) (d : Deal), Ring A d rs → (turnR d rs).waits.length + rs.length = d.waits.length
  | [], _, _ => rfl
  | r :: rs, d, h => by
    rw [turnR_cons]
    have h1 := turn_waits_len rs (turn1 d r) h.tail
    have h2 : (turn1 d r).waits.length = d.waits.length - 1 := List.length_erase_of_mem h.head.wait
    have h3 := List.length_pos_of_mem h.head.wait
    rw [List.length_cons]
    omega
theorem turn_waits_sub : ∀ (rs : List Req) (d : Deal) {x : Seat}, x ∈ (turnR d rs).waits → x ∈ d.waits
  | [], _, _, h => h
  | r :: rs, d, _, h => List.mem_of_mem_erase (turn_waits_sub rs (turn1 d r) h)
theorem turn_waits_out : ∀ (rs : List Req) (d : Deal) {x : Seat}, x ∈ d.waits → x ∈ (turnR d rs).waits ∨ ∃ r ∈ rs, x = seatOf r
  | [], _, _, h => .inl h
  | r :: rs, d, x, h => by
    by_cases hx : x = seatOf r
    · exact .inr ⟨r, List.mem_cons_self, hx⟩
    · rcases turn_waits_out rs (turn1 d r) ((List.mem_erase_of_ne hx).2 h) with h2 | ⟨y, hy, e⟩
      · exact .inl h2
      · exact .inr ⟨y, List.mem_cons_of_mem _ hy, e⟩
theorem turn_count (p : Seat → Bool) : ∀ (rs : List Req) (d : Deal), Ring A d rs → (turnR d rs).seats.countP p + (rs.map giveOf).countP p = d.seats.countP p + (rs.map seatOf).countP p
  | [], _, _ => by simp [turnR]
  | r :: rs, d, h => by
    rw [turnR_cons, List.map_cons, List.map_cons, List.countP_cons, List.countP_cons]
    have h1 := turn_count p rs (turn1 d r) h.tail
    have h2 := count_replace p (b := seatOf r) h.head.has
    have h3 : (turn1 d r).seats = d.seats.replace (giveOf r) (seatOf r) := rfl
    rw [h3] at h1
    omega
/-- A seat of another student stays. -/
theorem turn_other : ∀ (rs : List Req) (d : Deal) {x : Seat}, (∀ r ∈ rs, r.student ≠ x.student) → (x ∈ (turnR d rs).seats ↔ x ∈ d.seats)
  | [], _, _, _ => Iff.rfl
  | r :: rs, d, x, h => by
    have hr := h r List.mem_cons_self
    rw [turnR_cons, turn_other rs _ (fun y hy => h y (List.mem_cons_of_mem _ hy))]
    exact ⟨of_replace (fun e => hr (congrArg Seat.student e).symm), mem_replace (fun e => hr (congrArg Seat.student e).symm)⟩
theorem turn_gets : ∀ (rs : List Req) (d : Deal), Ring A d rs → ∀ r ∈ rs, seatOf r ∈ (turnR d rs).seats
  | [], _, _, _, hr => by cases hr
  | x :: rs, d, h, r, hr => by
    rw [turnR_cons]
    rcases List.mem_cons.1 hr with rfl | hr
    · have hf := (List.pairwise_cons.1 h.far).1
      exact (turn_other rs (turn1 d r) (fun y hy => (hf y hy).symm)).2 (in_replace _ h.head.has)
    · exact turn_gets rs _ h.tail r hr
theorem nodup_replace {l : List Seat} {a b : Seat} (hn : l.Nodup) (hb : b ∉ l) : (l.replace a b).Nodup := by
  induction l with
  | nil => simp
  | cons y l ih =>
    rw [List.nodup_cons] at hn
    have hbl : b ∉ l := fun h => hb (List.mem_cons_of_mem _ h)
    rw [repl_cons]
    split
    · rw [List.nodup_cons]; exact ⟨hbl, hn.2⟩
    · rw [List.nodup_cons]
      refine ⟨fun h => hn.1 (of_replace (fun e => hb (by rw [← e]; exact List.mem_cons_self)) h), ih hn.2 hbl⟩
theorem not_replace {l : List Seat} {a b : Seat} (hn : l.Nodup) (hab : a ≠ b) : a ∉ l.replace a b := by
  induction l with
  | nil => simp
  | cons y l ih =>
    rw [List.nodup_cons] at hn
    rw [repl_cons]
    by_cases hy : a = y
    · rw [if_pos hy]
      subst hy
      intro h
      rcases List.mem_cons.1 h with h | h
      · exact hab h
      · exact hn.1 h
    · rw [if_neg hy]
      intro h
      rcases List.mem_cons.1 h with rfl | h
      · exact absurd rfl hy
      · exact ih hn.2 h
theorem turn_gives : ∀ (rs : List Req) (d : Deal), Ring A d rs → d.seats.Nodup → ∀ r ∈ rs, giveOf r ∉ (turnR d rs).seats
  | [], _, _, _, _, hr => by cases hr
  | x :: rs, d, h, hn, r, hr => by
    rw [turnR_cons]
    rcases List.mem_cons.1 hr with rfl | hr
    · have hf := (List.pairwise_cons.1 h.far).1
      rw [turn_other rs (turn1 d r) (x := giveOf r) (fun y hy => (hf y hy).symm)]
      exact not_replace hn (fun e => h.head.ne (congrArg Seat.code e))
    · exact turn_gives rs _ h.tail (nodup_replace hn h.head.not) r hr
end
end Go.Proofs.YtjcogpalmgcpbaaGreat
