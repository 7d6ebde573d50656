/- The reference of layer 28: without, before, Order, Deal. -/
import Derived.Test.YteopjiedjnaeiaaGreatDgau
import Derived.Test.YteopjiedjnaeiaaGreatDgar
import Derived.Test.YteopjiedjnaeiaaGreatDgas
import Derived.Test.YteopjiedjnaeiaaGreatDgaa
import Derived.Test.YteopjiedjnaeiaaGreatDgai
import Derived.Lib.SmallJoins
import Derived.ProofKit
import Derived.LaidMore
import Derived.LaidSub
import Derived.LaidHandle
import Derived.OpenShut
import Derived.Carry
import Derived.ChangeSame
import Derived.Stop.Joined
import Derived.Deep.CutBlock
/- The reference of layer 28: Fits. -/
namespace Go.Proofs.YteopjiedjnaeiaaGreat
open Go Go.Proofs Go.RowKit Go.Maps Go.Sort Go.Lib
attribute [local go_sem] Off.cells
attribute [local go_sem ↓] seat_load

theorem clashO_same {a a' b b' : Off} (ha : SameOff a' a) (hb : SameOff b' b) : clashO a' b' = clashO a b := by
  unfold clashO
  rw [ha.slots, hb.slots]
def FewO (w : World) (L : List Off) : Prop := ∀ o ∈ L, OffOk w o ∧ o.slots.length ≤ 1000000 ∧ o.needs.length ≤ 1000000
theorem FewO.below {w w' : World} {L : List Off} (h : FewO w L) (hb : RowKit.Below w.heap.size w w') : FewO w' L := fun o ho => ⟨(h o ho).1.below hb, (h o ho).2⟩
theorem FewO.get {w : World} {L : List Off} (h : FewO w L) (c : ByteArray) : (getO L c).slots.length ≤ 1000000 := by
  unfold getO
  cases hf : findO L c with
  | none => exact Nat.zero_le _
  | some o => exact (h o (List.mem_of_find?_eq_some hf)).2.1
set_option maxHeartbeats 8000000 in
set_option maxRecDepth 100000 in
theorem refFits_any (ov mv lv : Value) (L : List Off) (M : List Seat) (most : Int) (l : List Seat) (s : Seat) (w : World) (hO : RowIn Off.cells w ov L) (lo : L.length ≤ 1000000) (ho : FewO w L) (hM : RowIn Seat.cells w mv M) (lm : M.length ≤ 1000000) (hl : RowIn Seat.cells w lv l) (hn : l.length ≤ 1000000) :
    Calls Tryz.prog 32 #[ov, mv, .int .i64 most, lv, .agg #[.int .i64 s.student, .string s.code]] w fun e w' => e = .returned (.int .i64 (fitsP L M most l s)) ∧ RowKit.Below w.heap.size w w' := by
  have hb1 := below_alloc1 w (.cells #[.int .i64 s.student, .string s.code] 53)
  have hx9 := heap_alloc_new w (.cells #[.int .i64 s.student, .string s.code] 53)
  have HFB := Lib.hid (fitsP_bools L M most l s)
  obtain ⟨ol, oc, rfl, _⟩ := hO.form
  obtain ⟨pl, cl, rfl, _⟩ := hl.form
  have HO := Lib.hid hO
  have HW := Lib.hid ho
  have HM := Lib.hid hM
  have HL := Lib.hid hl
  clear hO ho hM hl
  go_enter Tryz.func32, Tryz.ntmps32
  go_upto_region 1 with fail
  obtain ⟨b9, hb9⟩ : ∃ q, w.heap.size = q := ⟨_, rfl⟩
  rw [hb9] at hx9 ⊢
  generalize w.alloc _ = w1 at hb1 hx9 ⊢
  have hc9 : ∀ j, w1.cell? ⟨b9, j, none⟩ = (#[.int .i64 s.student, .string s.code] : Array Value)[j]? := fun j => Lib.cell_of_heap hx9 j
  go_wp2_with fail
  refine (refFind_any _ L s.code w1 (HO.out.below hb1) lo (HW.out.below hb1)).mono ?_
  rintro _ w2 ⟨o, rfl, hso, hok, hb2⟩
  have hb3 := below_alloc1 w2 (.cells #[.string o.code, .int .i64 o.credits, .int .i64 o.places, .slice o.sp o.slots.length o.sc, .slice o.np o.needs.length o.nc] 57)
  have hx11 := heap_alloc_new w2 (.cells #[.string o.code, .int .i64 o.credits, .int .i64 o.places, .slice o.sp o.slots.length o.sc, .slice o.np o.needs.length o.nc] 57)
  replace hb1 := below_next hb1 (below_next hb2 hb3)
  replace hx9 := ((below_next hb2 hb3).block _ (lt_of_heap hx9)).trans hx9
  have HSO := Lib.hid hso
  have HOK := Lib.hid (hok.below hb3)
  clear hc9 hb2 hb3 hso hok
  generalize hfo : (findO L s.code).isSome = ok at HFB ⊢
  go_upto_region 2 with fail
  obtain ⟨b11, hb11⟩ : ∃ q, w2.heap.size = q := ⟨_, rfl⟩
  rw [hb11] at hx11 ⊢
  generalize w2.alloc _ = w3 at hb1 hx9 hx11 HOK ⊢
  clear hb9 hb11 hfo
  cases ok
  · go_wp2_with fail
    go_ret
    exact ⟨ret_int (by rw [HFB.out]; rfl), hb1⟩
  have hc9 : ∀ j, w3.cell? ⟨b9, j, none⟩ = (#[.int .i64 s.student, .string s.code] : Array Value)[j]? := fun j => Lib.cell_of_heap hx9 j
  go_wp2_with fail
  refine (hasSeat_any _ l s w3 (HL.out.below hb1) hn).mono ?_
  rintro _ w4 ⟨rfl, hb2⟩
  replace hb1 := below_next hb1 hb2
  replace hx9 := (hb2.block _ (lt_of_heap hx9)).trans hx9
  replace hx11 := (hb2.block _ (lt_of_heap hx11)).trans hx11
  replace HOK := Lib.hid (HOK.out.below hb2)
  clear hc9 hb2
  generalize decide (s ∈ l) = q1 at HFB ⊢
  cases q1
  rotate_left
  · go_wp2_with fail
    go_ret
    exact ⟨ret_int (by rw [HFB.out]; rfl), hb1⟩
  have hc9 : ∀ j, w4.cell? ⟨b9, j, none⟩ = (#[.int .i64 s.student, .string s.code] : Array Value)[j]? := fun j => Lib.cell_of_heap hx9 j
  go_wp2_with fail
  refine (hasSeat_any _ M s w4 (HM.out.below hb1) lm).mono ?_
  rintro _ w5 ⟨rfl, hb2⟩
  replace hb1 := below_next hb1 hb2
  replace hx9 := (hb2.block _ (lt_of_heap hx9)).trans hx9
  replace hx11 := (hb2.block _ (lt_of_heap hx11)).trans hx11
  replace HOK := Lib.hid (HOK.out.below hb2)
  clear hc9 hb2
  generalize decide (s ∈ M) = q2 at HFB ⊢
  cases q2
  · go_wp2_with fail
    go_ret
    exact ⟨ret_int (by rw [HFB.out]; rfl), hb1⟩
  have hc11 : ∀ j, w5.cell? ⟨b11, j, none⟩ = (#[.string o.code, .int .i64 o.credits, .int .i64 o.places, .slice o.sp o.slots.length o.sc, .slice o.np o.needs.length o.nc] : Array Value)[j]? := fun j => Lib.cell_of_heap hx11 j
  go_wp2_with fail
  clear hc11
  have HX9 := Lib.hid hx9
  have HX11 := Lib.hid hx11
  have HB := Lib.hid hb1
  clear hx9 hx11 hb1
  go_loopw [13, 14, 15, 16] (fun v13 v14 v15 i wr => ∃ (k n : Nat) (c : Int) (q : Bool), k ≤ l.length ∧ n ≤ k ∧ v13 = .int .i64 n ∧ v14 = .int .i64 c ∧ v15 = .bool q ∧ i = .int .i64 k ∧ Hid (n = takenF (l.take k) s.code ∧ c = creditsF L (l.take k) s.student o.credits ∧ q = clashF L (getO L s.code) (l.take k) s.student) ∧ RowKit.Below w5.heap.size w5 wr) (fun _ _ _ i _ => l.length - (RowKit.intOf i).toNat)
  case atStart => exact ⟨0, 0, _, _, Nat.zero_le _, Nat.le_refl _, rfl, rfl, rfl, rfl, Lib.hid ⟨rfl, rfl, rfl⟩, Below.refl _ _⟩
  case round =>
    obtain ⟨k, n, c, q, hk, hnk, rfl, rfl, rfl, rfl, HI, hbr⟩ := hrel
    by_cases hlt : k < l.length
    · obtain ⟨g, of, c', hv, _, hgl, hx⟩ := HL.out.at_ (k := 2) (fun _ => rfl) (by omega)
      have e1 := (Value.slice.inj hv).1
      subst e1
      have hz := List.getElem?_eq_getElem hlt
      have hat := hx k _ hz
      have HTK := Lib.hid (take_one hz)
      generalize l[k] = x at hz hat HTK
      obtain ⟨xs, xc⟩ := x
      have hbw : RowKit.Below w.heap.size w wr := HB.out.trans (hbr.mono HB.out.size)
      have h0 : wr.cell? ⟨g, of + k * 2, none⟩ = some (.int .i64 xs) := by rw [hbw.cell (p := ⟨g, of + k * 2, none⟩) hgl]; exact hat 0 _ rfl
      have h1 : wr.cell? ⟨g, of + k * 2 + 1, none⟩ = some (.string xc) := by rw [hbw.cell (p := ⟨g, of + k * 2 + 1, none⟩) hgl]; exact hat 1 _ rfl
      have hc9 : ∀ j, wr.cell? ⟨b9, j, none⟩ = (#[.int .i64 s.student, .string s.code] : Array Value)[j]? := fun j => Lib.cell_of_heap ((hbr.block _ (lt_of_heap HX9.out)).trans HX9.out) j
      have hwrap : IntKind.i64.wrap ((n : Int) + 1) = ((n + 1 : Nat) : Int) := by rw [IntWalk.i64_in _ (by omega)]; omega
      have HAT := Lib.hid hat
      clear hv hx hz hat
      generalize hG : (xc.toList == s.code.toList) = g2
      have HT : Hid (takenF (l.take (k + 1)) s.code = n + if g2 = true then 1 else 0) := Lib.hid (by
        rw [HTK.out, takenF_snoc, ← HI.out.1, ← hG]
        congr 1
        by_cases h : xc.toList = s.code.toList <;> simp [h])
      by_cases hst : xs = s.student
      · subst hst
        have ht : (s.student == s.student) = true := by simp
        cases g2
        · go_wp2_with fail
          go_quiet (fail)
          go_wp2_with fail
          go_quiet (fail)
          generalize hW2 : World.drewN _ _ = W2
          have hb2 : RowKit.Below w5.heap.size w5 W2 := by rw [← hW2]; exact blw_drewN (blw_drewN hbr _) _
          have hbw2 : RowKit.Below w.heap.size w W2 := HB.out.trans (hb2.mono HB.out.size)
          have g0 : W2.cell? ⟨g, of + k * 2, none⟩ = some (.int .i64 s.student) := by rw [hbw2.cell (p := ⟨g, of + k * 2, none⟩) hgl]; exact HAT.out 0 _ rfl
          have g1 : W2.cell? ⟨g, of + k * 2 + 1, none⟩ = some (.string xc) := by rw [hbw2.cell (p := ⟨g, of + k * 2 + 1, none⟩) hgl]; exact HAT.out 1 _ rfl
          clear hW2 h0 h1 hc9
          go_wp2_with fail
          refine (refFind_any _ L xc W2 (HO.out.below hbw2) lo (HW.out.below hbw2)).mono ?_
          rintro _ w6 ⟨y, rfl, hsy, hoy, hb6⟩
          have hb7 := below_alloc1 w6 (.cells #[.string y.code, .int .i64 y.credits, .int .i64 y.places, .slice y.sp y.slots.length y.sc, .slice y.np y.needs.length y.nc] 57)
          have hx17 := heap_alloc_new w6 (.cells #[.string y.code, .int .i64 y.credits, .int .i64 y.places, .slice y.sp y.slots.length y.sc, .slice y.np y.needs.length y.nc] 57)
          have hb8 := below_next hb2 (below_next hb6 hb7)
          have HOY := Lib.hid (hoy.below hb7)
          have HSY := Lib.hid hsy
          clear hoy hsy hb6 hb7 g0 g1 hb2 hbw2
          go_upto_region 18 with fail
          obtain ⟨b17, hb17⟩ : ∃ b, w6.heap.size = b := ⟨_, rfl⟩
          rw [hb17] at hx17 ⊢
          generalize w6.alloc _ = w7 at hx17 hb8 HOY ⊢
          clear hb17
          have hc11 : ∀ j, w7.cell? ⟨b11, j, none⟩ = (#[.string o.code, .int .i64 o.credits, .int .i64 o.places, .slice o.sp o.slots.length o.sc, .slice o.np o.needs.length o.nc] : Array Value)[j]? := fun j => Lib.cell_of_heap ((hb8.block _ (lt_of_heap HX11.out)).trans HX11.out) j
          have hc17 : ∀ j, w7.cell? ⟨b17, j, none⟩ = (#[.string y.code, .int .i64 y.credits, .int .i64 y.places, .slice y.sp y.slots.length y.sc, .slice y.np y.needs.length y.nc] : Array Value)[j]? := fun j => Lib.cell_of_heap hx17 j
          have cc := refClash_any o y w7 (HOK.out.slots.below hb8) HOY.out.slots (by rw [HSO.out.slots]; exact HW.out.get _) (by rw [HSY.out.slots]; exact HW.out.get _)
          rw [clashO_same HSO.out HSY.out] at cc
          go_wp2_with fail
          refine cc.mono ?_
          rintro _ w8 ⟨rfl, hb9'⟩
          have hc17' : ∀ j, w8.cell? ⟨b17, j, none⟩ = (#[.string y.code, .int .i64 y.credits, .int .i64 y.places, .slice y.sp y.slots.length y.sc, .slice y.np y.needs.length y.nc] : Array Value)[j]? := fun j => Lib.cell_of_heap ((hb9'.block _ (lt_of_heap hx17)).trans hx17) j
          have HBF := Lib.hid (below_next hb8 hb9')
          obtain ⟨c2, hcw⟩ : ∃ c2, IntKind.i64.wrap (c + y.credits) = c2 := ⟨_, rfl⟩
          have HCr : Hid (creditsF L (l.take (k + 1)) s.student o.credits = c2) := Lib.hid (by
            rw [HTK.out, creditsF_snoc, ← HI.out.2.1]
            unfold addC; rw [if_pos rfl]
            show IntKind.i64.wrap (c + (getO L xc).credits) = c2
            rw [← HSY.out.credits, hcw])
          have HCl : Hid (clashF L (getO L s.code) (l.take (k + 1)) s.student = (q || clashO (getO L s.code) (getO L xc))) := Lib.hid (by
            rw [HTK.out, clashF_snoc, ← HI.out.2.2, decide_eq_true rfl]; simp)
          have HCW := Lib.hid hcw
          clear cc hc11 hc17 hb8 hb9' hx17
          generalize clashO (getO L s.code) (getO L xc) = m at HCl ⊢
          cases q
          · go_wp2_with fail
            go_roundw
            case rel => exact ⟨k + 1, n, c2, m, by omega, by omega, by first | rfl | go_num, rfl, rfl, by go_num, Lib.hid ⟨by rw [HT.out]; rfl, HCr.out.symm, by rw [HCl.out]; rfl⟩, HBF.out⟩
            case measure => simp [RowKit.intOf]; omega
          · go_wp2_with fail
            go_roundw
            case rel => exact ⟨k + 1, n, c2, true, by omega, by omega, by first | rfl | go_num, rfl, rfl, by go_num, Lib.hid ⟨by rw [HT.out]; rfl, HCr.out.symm, by rw [HCl.out]; rfl⟩, HBF.out⟩
            case measure => simp [RowKit.intOf]; omega
        · go_wp2_with fail
          go_quiet (fail)
          go_wp2_with fail
          go_quiet (fail)
          generalize hW2 : World.drewN _ _ = W2
          have hb2 : RowKit.Below w5.heap.size w5 W2 := by rw [← hW2]; exact blw_drewN (blw_drewN hbr _) _
          have hbw2 : RowKit.Below w.heap.size w W2 := HB.out.trans (hb2.mono HB.out.size)
          have g0 : W2.cell? ⟨g, of + k * 2, none⟩ = some (.int .i64 s.student) := by rw [hbw2.cell (p := ⟨g, of + k * 2, none⟩) hgl]; exact HAT.out 0 _ rfl
          have g1 : W2.cell? ⟨g, of + k * 2 + 1, none⟩ = some (.string xc) := by rw [hbw2.cell (p := ⟨g, of + k * 2 + 1, none⟩) hgl]; exact HAT.out 1 _ rfl
          clear hW2 h0 h1 hc9
          go_wp2_with fail
          refine (refFind_any _ L xc W2 (HO.out.below hbw2) lo (HW.out.below hbw2)).mono ?_
          rintro _ w6 ⟨y, rfl, hsy, hoy, hb6⟩
          have hb7 := below_alloc1 w6 (.cells #[.string y.code, .int .i64 y.credits, .int .i64 y.places, .slice y.sp y.slots.length y.sc, .slice y.np y.needs.length y.nc] 57)
          have hx17 := heap_alloc_new w6 (.cells #[.string y.code, .int .i64 y.credits, .int .i64 y.places, .slice y.sp y.slots.length y.sc, .slice y.np y.needs.length y.nc] 57)
          have hb8 := below_next hb2 (below_next hb6 hb7)
          have HOY := Lib.hid (hoy.below hb7)
          have HSY := Lib.hid hsy
          clear hoy hsy hb6 hb7 g0 g1 hb2 hbw2
          go_upto_region 18 with fail
          obtain ⟨b17, hb17⟩ : ∃ b, w6.heap.size = b := ⟨_, rfl⟩
          rw [hb17] at hx17 ⊢
          generalize w6.alloc _ = w7 at hx17 hb8 HOY ⊢
          clear hb17
          have hc11 : ∀ j, w7.cell? ⟨b11, j, none⟩ = (#[.string o.code, .int .i64 o.credits, .int .i64 o.places, .slice o.sp o.slots.length o.sc, .slice o.np o.needs.length o.nc] : Array Value)[j]? := fun j => Lib.cell_of_heap ((hb8.block _ (lt_of_heap HX11.out)).trans HX11.out) j
          have hc17 : ∀ j, w7.cell? ⟨b17, j, none⟩ = (#[.string y.code, .int .i64 y.credits, .int .i64 y.places, .slice y.sp y.slots.length y.sc, .slice y.np y.needs.length y.nc] : Array Value)[j]? := fun j => Lib.cell_of_heap hx17 j
          have cc := refClash_any o y w7 (HOK.out.slots.below hb8) HOY.out.slots (by rw [HSO.out.slots]; exact HW.out.get _) (by rw [HSY.out.slots]; exact HW.out.get _)
          rw [clashO_same HSO.out HSY.out] at cc
          go_wp2_with fail
          refine cc.mono ?_
          rintro _ w8 ⟨rfl, hb9'⟩
          have hc17' : ∀ j, w8.cell? ⟨b17, j, none⟩ = (#[.string y.code, .int .i64 y.credits, .int .i64 y.places, .slice y.sp y.slots.length y.sc, .slice y.np y.needs.length y.nc] : Array Value)[j]? := fun j => Lib.cell_of_heap ((hb9'.block _ (lt_of_heap hx17)).trans hx17) j
          have HBF := Lib.hid (below_next hb8 hb9')
          obtain ⟨c2, hcw⟩ : ∃ c2, IntKind.i64.wrap (c + y.credits) = c2 := ⟨_, rfl⟩
          have HCr : Hid (creditsF L (l.take (k + 1)) s.student o.credits = c2) := Lib.hid (by
            rw [HTK.out, creditsF_snoc, ← HI.out.2.1]
            unfold addC; rw [if_pos rfl]
            show IntKind.i64.wrap (c + (getO L xc).credits) = c2
            rw [← HSY.out.credits, hcw])
          have HCl : Hid (clashF L (getO L s.code) (l.take (k + 1)) s.student = (q || clashO (getO L s.code) (getO L xc))) := Lib.hid (by
            rw [HTK.out, clashF_snoc, ← HI.out.2.2, decide_eq_true rfl]; simp)
          have HCW := Lib.hid hcw
          clear cc hc11 hc17 hb8 hb9' hx17
          generalize clashO (getO L s.code) (getO L xc) = m at HCl ⊢
          cases q
          · go_wp2_with fail
            go_roundw
            case rel => exact ⟨k + 1, n + 1, c2, m, by omega, by omega, by first | rfl | go_num, rfl, rfl, by go_num, Lib.hid ⟨by rw [HT.out]; rfl, HCr.out.symm, by rw [HCl.out]; rfl⟩, HBF.out⟩
            case measure => simp [RowKit.intOf]; omega
          · go_wp2_with fail
            go_roundw
            case rel => exact ⟨k + 1, n + 1, c2, true, by omega, by omega, by first | rfl | go_num, rfl, rfl, by go_num, Lib.hid ⟨by rw [HT.out]; rfl, HCr.out.symm, by rw [HCl.out]; rfl⟩, HBF.out⟩
            case measure => simp [RowKit.intOf]; omega
      · have ht : (xs == s.student) = false := by simpa using hst
        have HCr : Hid (creditsF L (l.take (k + 1)) s.student o.credits = c) := Lib.hid (by
          rw [HTK.out, creditsF_snoc, ← HI.out.2.1]
          unfold addC; rw [if_neg hst])
        have HCl : Hid (clashF L (getO L s.code) (l.take (k + 1)) s.student = q) := Lib.hid (by
          rw [HTK.out, clashF_snoc, ← HI.out.2.2, decide_eq_false hst]; simp)
        clear hst
        cases g2
        · go_wp2_with fail
          go_quiet (fail)
          go_wp2_with fail
          go_quiet (fail)
          go_wp2_with fail
          go_roundw
          case rel => exact ⟨k + 1, n, c, q, by omega, by omega, by first | rfl | go_num, rfl, rfl, by go_num, Lib.hid ⟨by rw [HT.out]; rfl, HCr.out.symm, HCl.out.symm⟩, blw_drewN hbr _⟩
          case measure => simp [RowKit.intOf]; omega
        · go_wp2_with fail
          go_quiet (fail)
          go_wp2_with fail
          go_quiet (fail)
          go_wp2_with fail
          go_roundw
          case rel => exact ⟨k + 1, n + 1, c, q, by omega, by omega, by first | rfl | go_num, rfl, rfl, by go_num, Lib.hid ⟨by rw [HT.out]; rfl, HCr.out.symm, HCl.out.symm⟩, blw_drewN hbr _⟩
          case measure => simp [RowKit.intOf]; omega
    · obtain rfl : k = l.length := by omega
      have hi := HI.out
      rw [List.take_length] at hi
      obtain ⟨hi1, hi2, hi3⟩ := hi
      have hbw : RowKit.Below w.heap.size w wr := HB.out.trans (hbr.mono HB.out.size)
      have hc11 : ∀ j, wr.cell? ⟨b11, j, none⟩ = (#[.string o.code, .int .i64 o.credits, .int .i64 o.places, .slice o.sp o.slots.length o.sc, .slice o.np o.needs.length o.nc] : Array Value)[j]? := fun j => Lib.cell_of_heap ((hbr.block _ (lt_of_heap HX11.out)).trans HX11.out) j
      have HF : Hid (fitsP L M most l s = if decide (o.places ≤ (n : Int)) = true then 50 else if q = true then 51 else if decide (most < c) = true then 3 else 0) := Lib.hid (by rw [HFB.out, hi1, hi2, hi3, ← HSO.out.places, ← HSO.out.credits]; rfl)
      clear hi1 hi2 hi3 HFB HI
      generalize hq3 : decide (o.places ≤ (n : Int)) = q3 at HF
      generalize hq4 : decide (most < c) = q4 at HF
      have p3 : (decide ((n : Int) ≥ o.places)) = q3 := hq3
      have p4 : (decide (c > most)) = q4 := hq4
      clear hq3 hq4
      cases q3
      · cases q
        · cases q4
          · go_wp2_with fail
            go_ret
            exact ⟨ret_int (by rw [HF.out]; rfl), hbw⟩
          · go_wp2_with fail
            go_ret
            exact ⟨ret_int (by rw [HF.out]; rfl), hbw⟩
        · go_wp2_with fail
          go_ret
          exact ⟨ret_int (by rw [HF.out]; rfl), hbw⟩
      · go_wp2_with fail
        go_ret
        exact ⟨ret_int (by rw [HF.out]; rfl), hbw⟩
end Go.Proofs.YteopjiedjnaeiaaGreat
/- The law MarketOrder: two regions as pieces. -/
namespace Go.Proofs.YteopjiedjnaeiaaGreat
open Go Go.Proofs Go.RowKit Go.Maps Go.Sort Go.Lib
attribute [local go_sem] Req.cells

theorem flow_deal_at {ops : Array Oper} {Q : Exit → Act → World → Prop} {S : World → Prop} {i : Nat} {σ : List (Nat × Bool)} {a : Act} {w : World} (oi : Oper) (sv wv : Value) (g : Nat) (hi : ops[i]? = some oi) (hw : Region.wanted oi (yielded ops a.tmps) = true)
    (p : Operand) (ho : oi.op = .load 45 p) (hp : a.eval p = .pointer (some ⟨g, 0, none⟩)) (hc : ∀ w, S w → w.rangeAt g 0 [sv, wv])
    (h : wpFlow Tryz.prog ops Q S σ (a.put oi.dst (.agg #[sv, wv])) w) : wpFlow Tryz.prog ops Q S ((i, true) :: σ) a w :=
  flow_take oi (.agg #[sv, wv]) hi hw (fun w hS => by
    have hl : (Instr.loadAt 45 (.pointer (some ⟨g, 0, none⟩))).run Tryz.prog w = .ok (.agg #[sv, wv]) w := run_loadAt_mid w g 0 45 [sv, wv] _ (hc w hS) Tryz.underlying45 rfl (by kernel_rfl)
    unfold execOp
    simp only [ho, hp, Sem.run_bind, Sem.run_pure, hl, Result.andThen_ok]) h
/-- A list that is dealt with in the order O. -/
structure Again (O R : List Req) : Prop where
  len : R.length ≤ 1000
  fits : ∀ r ∈ R, r.fits
  few : ∀ M, IsSet M R → (actR M).length ≤ 19
  ord : ∀ O', ActOrd R O' → O' = O
theorem deal_again {W0 w : World} {ov mv lv : Value} {L : List Off} {M : List Seat} {most : Int} {O R : List Req} (hB : RowKit.Below W0.heap.size W0 w) (hc : CatIn W0 ov mv L M) (lO : O.length ≤ 1000) (h : Again O R) (hr : ReqsIn w lv R) :
    Calls Tryz.prog 10 #[ov, mv, .int .i64 most, lv] w fun e w' => ∃ sv wv, e = .returned (.agg #[sv, wv]) ∧ DealIn w' (.agg #[sv, wv]) (dealP L M most O) ∧ RowKit.Below w.heap.size w w' := by
  refine (deal_cat 19 sortsB_19 (by omega) ov mv lv L M most R w (hc.below hB) hr (by have := h.len; omega) h.fits h.few).mono ?_
  rintro _ w' ⟨sv, wv, O', rfl, hO, hs, hw, hb⟩
  obtain rfl := h.ord O' hO
  have hl := deal_len (L := L) (met := M) (most := most) O'
  exact ⟨sv, wv, rfl, DealIn.mk' hs hw (by omega) (by omega), hb⟩




theorem or_keep {W0 w w' : World} {tv av : Value} {T C : List Req} (h : RowKit.Below W0.heap.size W0 w ∧ ReqsIn w tv T ∧ ReqsIn w av C) (hb : RowKit.Below w.heap.size w w') : RowKit.Below W0.heap.size W0 w' ∧ ReqsIn w' tv T ∧ ReqsIn w' av C := ⟨below_next h.1 hb, h.2.1.below hb, h.2.2.below hb⟩
















































































































theorem ord_r5_form {w : World} {va : Value} {A : List Req} (h : ReqsIn w va A) : (va = .slice none 0 0 ∧ A = []) ∨ ∃ b o c, va = .slice (some ⟨b, o, none⟩) A.length c ∧ A.length ≤ c := by
  rcases h with h | ⟨b, o, c, h1, h2, _⟩
  · exact .inl h
  · exact .inr ⟨b, o, c, h1, h2⟩















theorem or_at {W0 w : World} {g : Nat} {sv wv : Value} (h : g < W0.heap.size ∧ ∀ j, W0.cell? ⟨g, j, none⟩ = (#[sv, wv] : Array Value)[j]?) (hB : RowKit.Below W0.heap.size W0 w) : w.rangeAt g 0 [sv, wv] := by
  intro j u hj
  rw [Nat.zero_add, hB.cell (p := ⟨g, j, none⟩) h.1, h.2 j]
  simpa using hj


































































































































end Go.Proofs.YteopjiedjnaeiaaGreat
/- From 'it returned true and below the old heap nothing has turned' to the row's post; arguments opened by their outer form; the table off the row's condition. -/
namespace Go.Proofs.YteopjiedjnaeiaaGreat
open Go Go.ChangeShapes Go.WideShapes Go.ChangeAt Go.WideElems Go.RowKit Go.Lib

theorem A_laidOut : laidOutB Tryz.prog = true := by kernel_rfl
theorem own : ownKnob Tryz.prog.godebug = none := by kernel_rfl

section
variable {H : Type} {enc : TypeId × Value → H} {P : Program}
theorem trodAll_stays (hl : laidOutB P = true) {W W' : World} {sp' : Nat → Bool} : ∀ {ts : List TypeId} {vs : List Value} {ds : List (DataW H)} {ps : List MemPlace},
    (∀ t ∈ ts, P.readableRec t = true ∧ t < P.types.size) → DataW.TrodAll enc P W 0 (fun _ => true) true ts vs ds ps → (∀ p ∈ ps, W.sameAt W' p) → (∀ p ∈ ps, sp' p.block = true) → DataW.TrodAll enc P W' 0 sp' true ts vs ds ps
  | [], [], [], _, _, h, _, _ => h
  | [], [], _ :: _, _, _, h, _, _ => h.elim
  | [], _ :: _, _, _, _, h, _, _ => h.elim
  | _ :: _, [], _, _, _, h, _, _ => h.elim
  | _ :: _, _ :: _, [], _, _, h, _, _ => h.elim
  | t :: ts, v :: vs, d :: ds, ps, ht, h, h1, h2 => by
    obtain ⟨p, q, hp, hq, rfl⟩ := h
    exact ⟨p, q, Trod_stays hl (ht t (by simp)).1 (ht t (by simp)).2 hp (fun x hx => h1 x (by simp [hx])) (fun x hx => h2 x (by simp [hx])),
      trodAll_stays hl (fun u hu => ht u (by simp [hu])) hq (fun x hx => h1 x (by simp [hx])) (fun x hx => h2 x (by simp [hx])), rfl⟩

/-- The post of a law: true, the arguments read as they did. -/
theorem law_post {f : Func} {s : ChangeSpec} {W W' : World} {args : Array Value} {ds : List (DataW H)} {p : List MemPlace} {tb : TypeId} (hl : laidOutB P = true)
    (hts : ∀ t ∈ f.params.toList, P.readableRec t = true ∧ t < P.types.size) (hv : s.vars = []) (hr : f.resultTypes = #[tb]) (hb : P.underlying tb = some .bool)
    (hf : s.fn H (ds ++ []) = { results := [.lit (.bool true)], args := ds })
    (hW : DataW.Whole enc P f.params.toList s.vars false W args.toList ds [] p) (hA : DataW.TrodAll enc P W 0 (fun _ => true) true f.params.toList args.toList ds p) (hbe : Below W.heap.size W W') :
    s.post enc P f false true false false W args (.bool true) W' := by
  have hlt : ∀ x ∈ p, x.block < W.heap.size := fun x hx => hW.lt x hx
  have hsame : ∀ x ∈ p, W.sameAt W' x := fun x hx => hbe.same (hlt x hx)
  have hargs : ∀ sp : Nat → Bool, (∀ x ∈ p, sp x.block = true) → DataW.TrodAll enc P W' 0 sp true f.params.toList args.toList (s.fn H (ds ++ [])).args p := fun sp h => by
    rw [hf]; exact trodAll_stays hl hts hA hsame h
  have hvars : ∀ sp : Nat → Bool, DataW.TrodVars enc P W' sp s.vars (s.fn H (ds ++ [])).vars [] := fun sp => by
    rw [hf, hv]; rfl
  have hold : ∀ x ∈ p, (fun b => decide (b < W.heap.size)) x.block = true := fun x hx => by simpa using hlt x hx
  have hres : ∀ (b : Nat) (sp : Nat → Bool) (hd : Bool), DataW.TrodAll enc P W' b sp hd f.resultTypes.toList ((Value.bool true).resultList f.resultTypes.size) (s.fn H (ds ++ [])).results [] := fun b sp hd => by
    rw [hf, hr]; exact trodAll_mk1 (shut_bool hb true)
  refine ⟨ds, [], p, [], p, [], hW, hres _ _ _, hargs _ hold, hvars _, World.keptBut_mono (fun x hx => ⟨hx, ?_⟩) (hbe.frame (· ∈ p)), fun _ => ?_⟩
  · simpa using hx
  · obtain ⟨_, _, _, _, _, hz, hn⟩ := hW
    refine ⟨ok_one hr rfl (okWide_bool_mk hb _), _, _, ([] ++ p) ++ [], ⟨[] ++ p, [], trodAll_append (hargs _ (fun _ _ => rfl)) (hres _ _ _), hvars _, rfl, ?_, ?_⟩, ?_⟩
    · intro b off hp
      have hin : MemPlace.cell b off ∈ p := by simpa using hp
      rw [hbe.frozen (hlt _ hin)]
      exact hz b off hin
    · intro ha; simpa using hn ha
    · intro x hx _; simpa using hx
end

/-! Arguments by their outer form. -/
section
variable {P : Program} {w : World} {r : Go.Reach} {b0 : Nat} {t : TypeId}
theorem cell_int {k : IntKind} {v : Value} (ht : P.underlying t = some (.int k)) (h : Cell.okWide P w r b0 t v) : ∃ n, v = .int k n ∧ k.has n := by
  unfold Cell.okWide at h
  rw [ht] at h
  unfold Cell.ok at h
  rw [ht] at h
  cases v <;> simp_all
theorem cell_string {v : Value} (ht : P.underlying t = some .string) (h : Cell.okWide P w r b0 t v) : ∃ s, v = .string s ∧ (s.size : Int) ≤ IntKind.i64.max := by
  unfold Cell.okWide at h
  rw [ht] at h
  unfold Cell.ok at h
  rw [ht] at h
  cases v <;> simp_all
end
theorem has_i64 {n : Int} (h : IntKind.i64.has n) : I64 n := by
  simp [IntKind.has, IntKind.min, IntKind.max, IntKind.signed, IntKind.bits] at h
  unfold I64; omega

theorem no_path {w : World} {a : Addr} {v : Value} (h : w.cell? a = some v) : ∃ b o, a = ⟨b, o, none⟩ := by
  obtain ⟨b, o, path⟩ := a
  cases path with
  | none => exact ⟨b, o, rfl⟩
  | some q => simp [World.cell?] at h; split at h <;> cases h
theorem add_at (b o k : Nat) : (⟨b, o, none⟩ : Addr).add k = ⟨b, o + k, none⟩ := by unfold Addr.add; split <;> simp_all
theorem add_zero (a : Addr) : a.add 0 = a := by unfold Addr.add; rw [if_pos rfl]
theorem memD {α : Type} {l : List α} {k : Nat} (h : k < l.length) (d : α) : l.getD k d ∈ l := by
  rw [List.getD_eq_getElem?_getD, List.getElem?_eq_getElem h]; exact List.getElem_mem h
theorem wf_i64 {n : Int} (h : Lit.wf (.int .i64 n)) : I64 n := by
  simp [Lit.wf, IntKind.min, IntKind.max, IntKind.signed, IntKind.bits] at h
  unfold I64; omega
section
variable {H : Type} {enc : TypeId × Value → H} {w : World} {held : Bool} {fuel : Nat} {c : Value} {y : DataW H × List MemPlace}
/-- A slice of ints that came in. -/
theorem ints_in (h : DataW.trod enc Tryz.prog w 0 (fun _ => true) held fuel 22 [c] = some y) : ∃ A n cc, c = .slice A n cc ∧ IntsIn w.heap.size A n w := by
  rcases open_ints Tryz.underlying22 Tryz.underlying3 (by kernel_rfl) h with ⟨hc, hx⟩ | ⟨a, len, cap, zs, hc, _, hl, hm, hz, hx, hcell, hwf⟩
  · simp at hc
    exact ⟨none, 0, 0, hc, by omega, fun j hj => by omega⟩
  · simp at hc
    subst hc
    simp only [if_true] at hz
    refine ⟨some a, len, cap, rfl, by unfold maxLen at hm; omega, fun j hj => ?_⟩
    have h1 := hcell j (by omega)
    have h0 := hcell 0 (by omega)
    rw [add_zero] at h0
    obtain ⟨b, o, rfl⟩ := no_path h0
    rw [add_at] at h1
    exact ⟨b, o, zs.getD j 0, rfl, World.block_lt_of_cell? w _ h1, h1, wf_i64 (hwf _ (memD (by omega) 0))⟩
/-- A slice of slices of ints that came in. -/
theorem intss_in (h : DataW.trod enc Tryz.prog w 0 (fun _ => true) held fuel 23 [c] = some y) : ∃ A n cc, c = .slice A n cc ∧ IntssIn w.heap.size A n w := by
  have hcc : Tryz.prog.cellsOf 22 = 1 := by kernel_rfl
  rcases DataW.trod_slice Tryz.underlying23 h with ⟨hc, hx⟩ | ⟨a, len, cap, elems, rest, m, _, hc, -, hb, hl, hm, hlen, hel, -, -⟩
  · simp at hc
    exact ⟨none, 0, 0, hc, by omega, fun j hj => by omega⟩
  · simp at hc
    subst hc
    rw [hcc] at hel
    refine ⟨some a, len, cap, rfl, by unfold maxLen at hm; omega, fun j hj => ?_⟩
    have get : ∀ i, i < len → ∃ c0 A n cc, w.cell? (a.add i) = some c0 ∧ c0 = .slice A n cc ∧ IntsIn w.heap.size A n w := fun i hi => by
      have h1 := hel i hi
      rw [List.getElem?_eq_getElem (by omega), Option.bind_eq_some_iff] at h1
      obtain ⟨cs, h2, h3⟩ := h1
      have h4 := World.cells?_some h2
      match cs, h4.1 with
      | [c0], _ =>
        obtain ⟨A, n, cc, rfl, hi⟩ := ints_in h3
        have h5 := h4.2.2 0 (by omega)
        rw [add_zero, Nat.mul_one] at h5
        exact ⟨_, A, n, cc, by simpa using h5, rfl, hi⟩
    obtain ⟨c0, _, _, _, g0, _⟩ := get 0 (by omega)
    rw [add_zero] at g0
    obtain ⟨b, o, rfl⟩ := no_path g0
    obtain ⟨c1, A, n, cc, g1, rfl, hi⟩ := get j hj
    rw [add_at] at g1
    exact ⟨b, o, A, n, cc, rfl, World.block_lt_of_cell? w _ g1, g1, hi⟩
end
section
variable {H : Type} {enc : TypeId × Value → H} {P : Program} {w : World} {base : Nat} {spare : Nat → Bool} {held : Bool}
theorem trod_struct4 {t : TypeId} {f0 f1 f2 f3 : Field} {fuel : Nat} {cs : List Value} {x : DataW H × List MemPlace} (ht : P.underlying t = some (.struct #[f0, f1, f2, f3])) (h : DataW.trod enc P w base spare held fuel t cs = some x) :
    ∃ y0 y1 n, DataW.trod enc P w base spare held n f0.type ((cs.drop f0.offset).take (P.cellsOf f0.type)) = some y0 ∧
      DataW.trod enc P w base spare held n f1.type ((cs.drop f1.offset).take (P.cellsOf f1.type)) = some y1 := by
  obtain ⟨xs, n, _, rfl, hl, hlen, hf⟩ := DataW.trod_struct ht h
  match xs, hlen with
  | [y0, y1, y2, y3], _ => exact ⟨y0, y1, n, by simpa using hf 0 f0 rfl, by simpa using hf 1 f1 rfl⟩
end
theorem case_info : ∃ f0 f1 f2 f3, Tryz.prog.underlying 26 = some (.struct #[f0, f1, f2, f3]) ∧ (f0.type, f1.type, f0.offset, f1.offset) = (22, 23, 0, 1) :=
  ⟨_, _, _, _, Tryz.underlying26, by kernel_rfl⟩
/-- A case by value. -/
structure CaseIn (w : World) (v : Value) (A0 A1 : Option Addr) (n0 n1 c0 c1 : Nat) (q m : Int) : Prop where
  eq : v = .agg #[.slice A0 n0 c0, .slice A1 n1 c1, .int .u32 q, .int .u8 m]
  h0 : IntsIn w.heap.size A0 n0 w
  h1 : IntssIn w.heap.size A1 n1 w
  q0 : 0 ≤ q
  q1 : q ≤ 4294967295
  m0 : 0 ≤ m
  m1 : m ≤ 255
theorem wf_u8 {n : Int} (h : Lit.wf (.int .u8 n)) : 0 ≤ n ∧ n ≤ 255 := by
  simp [Lit.wf, IntKind.min, IntKind.max, IntKind.signed, IntKind.bits] at h
  omega
theorem has_u8 {n : Int} (h : IntKind.u8.has n) : 0 ≤ n ∧ n ≤ 255 := by
  simp [IntKind.has, IntKind.min, IntKind.max, IntKind.signed, IntKind.bits] at h
  omega
theorem has_u32 {n : Int} (h : IntKind.u32.has n) : 0 ≤ n ∧ n ≤ 4294967295 := by
  simp [IntKind.has, IntKind.min, IntKind.max, IntKind.signed, IntKind.bits] at h
  omega
set_option maxRecDepth 100000 in
theorem open_case {H : Type} {enc : TypeId × Value → H} {w : World} {held : Bool} {r : Go.Reach} {b0 : Nat} {v : Value} {d : DataW H} {p : List MemPlace} (h : DataW.Trod enc Tryz.prog w 0 (fun _ => true) held 26 v d p) (hv : Value.okWide Tryz.prog w r b0 26 v) :
    ∃ A0 A1 n0 n1 c0 c1 q m, CaseIn w v A0 A1 n0 n1 c0 c1 q m := by
  unfold Value.okWide at hv
  rw [Tryz.underlying26] at hv
  obtain ⟨cs, rfl, hsz, ts, hts, _, hat⟩ := hv
  have hc : Tryz.prog.cellTypes Tryz.prog.depth 26 = some [22, 23, 24, 5] := by kernel_rfl
  have hn : Tryz.prog.cellsOf 26 = 4 := by kernel_rfl
  obtain rfl := Option.some.inj (hts.symm.trans hc)
  rw [hn] at hsz
  obtain ⟨l⟩ := cs
  match l, hsz with
  | [c0, c1, c2, c3], _ =>
    obtain ⟨t2, r2, o2⟩ := hat 2 c2 rfl
    obtain rfl : 24 = t2 := Option.some.inj r2
    obtain ⟨x2, rfl, y2⟩ := cell_int Tryz.underlying24 o2
    obtain ⟨t3, r3, o3⟩ := hat 3 c3 rfl
    obtain rfl : 5 = t3 := Option.some.inj r3
    obtain ⟨x3, rfl, y3⟩ := cell_int Tryz.underlying5 o3
    obtain ⟨fuel, hf⟩ := h
    obtain ⟨f0, f1, f2, f3, hu, ht⟩ := case_info
    simp only [Prod.mk.injEq] at ht
    obtain ⟨e0, e1, o0, o1⟩ := ht
    obtain ⟨z0, z1, m, g0, g1⟩ := trod_struct4 hu hf
    have ca : Tryz.prog.cellsOf 22 = 1 := by kernel_rfl
    have cb : Tryz.prog.cellsOf 23 = 1 := by kernel_rfl
    rw [e0, o0, ca] at g0
    rw [e1, o1, cb] at g1
    obtain ⟨A0, n0, k0, rfl, i0⟩ := ints_in (c := c0) g0
    obtain ⟨A1, n1, k1, rfl, i1⟩ := intss_in (c := c1) g1
    exact ⟨A0, A1, n0, n1, k0, k1, x2, x3, rfl, i0, i1, (has_u32 y2).1, (has_u32 y2).2, (has_u8 y3).1, (has_u8 y3).2⟩
end Go.Proofs.YteopjiedjnaeiaaGreat
namespace Go.Proofs.YteopjiedjnaeiaaGreat
open Go Go.Proofs Go.RowKit Go.Maps Go.Sort Go.Lib
attribute [local go_sem ↓] seat_eql seat_neq

theorem filter_take {l : List Seat} {p : Seat → Bool} {k : Nat} {x : Seat} (hk : l[k]? = some x) : (l.take (k + 1)).filter p = (l.take k).filter p ++ if p x = true then [x] else [] := by
  rw [List.take_add_one, hk, List.filter_append]
  congr 1
  by_cases h : p x = true <;> simp [h]
set_option maxHeartbeats 4000000 in
set_option maxRecDepth 100000 in
theorem refWithout_any (lv : Value) (l : List Seat) (s : Seat) (w : World) (h : RowIn Seat.cells w lv l) (hn : l.length ≤ 999999) :
    Calls Tryz.prog 31 #[lv, .agg #[.int .i64 s.student, .string s.code]] w fun e w' => ∃ p c, e = .returned (.slice p (l.filter fun x => decide (x ≠ s)).length c) ∧ RowIn Seat.cells w' (.slice p (l.filter fun x => decide (x ≠ s)).length c) (l.filter fun x => decide (x ≠ s)) ∧ RowKit.Below w.heap.size w w' := by
  obtain ⟨q, c0, rfl, _⟩ := h.form
  have hb0 := below_alloc1 w (.cells #[.int .i64 s.student, .string s.code] 53)
  have hx0 := heap_alloc_new w (.cells #[.int .i64 s.student, .string s.code] 53)
  have H := Lib.hid h
  clear h
  go_enter Tryz.func31, Tryz.ntmps31
  go_upto_region 1 with fail
  obtain ⟨b3, hb3⟩ : ∃ b, w.heap.size = b := ⟨_, rfl⟩
  rw [hb3] at hx0 ⊢
  generalize w.alloc _ = W at hb0 hx0 ⊢
  clear hb3
  go_wp2_with fail
  go_loopw [5, 6] (fun v i wr => ∃ (k : Nat) (X : List Seat) (p : Option Addr) (c : Nat), k ≤ l.length ∧ i = .int .i64 k ∧ v = .slice p X.length c ∧ Hid (X = (l.take k).filter fun x => decide (x ≠ s)) ∧ X.length ≤ k ∧ wr.ownsRow W.heap.size 53 2 (.slice p X.length c) X.length (flatE Seat.cells X) ∧ RowKit.Below W.heap.size W wr) (fun _ i _ => l.length - (RowKit.intOf i).toNat)
  case atStart => exact ⟨0, [], none, 0, Nat.zero_le _, rfl, rfl, Lib.hid rfl, Nat.le_refl _, ⟨rfl, .inl ⟨rfl, rfl⟩⟩, Below.refl _ _⟩
  case round =>
    obtain ⟨k, X, p, c, hk, rfl, rfl, HX, hXk, hown, hbr⟩ := hrel
    have hbw := below_next hb0 hbr
    by_cases hlt : k < l.length
    · obtain ⟨g, of, c', hv, _, hgl, hx⟩ := H.out.at_ (k := 2) (fun _ => rfl) (by omega)
      have e1 := (Value.slice.inj hv).1
      subst e1
      have hz := List.getElem?_eq_getElem hlt
      have hat := hx k _ hz
      have HTK := Lib.hid (filter_take (p := fun x => decide (x ≠ s)) hz)
      generalize l[k] = x at hz hat HTK
      have h0 : wr.cell? ⟨g, of + k * 2, none⟩ = some (.int .i64 x.student) := by rw [hbw.cell (p := ⟨g, of + k * 2, none⟩) hgl]; exact hat 0 _ rfl
      have h1 : wr.cell? ⟨g, of + k * 2 + 1, none⟩ = some (.string x.code) := by rw [hbw.cell (p := ⟨g, of + k * 2 + 1, none⟩) hgl]; exact hat 1 _ rfl
      have hc3 : ∀ j, wr.cell? ⟨b3, j, none⟩ = (#[.int .i64 s.student, .string s.code] : Array Value)[j]? := fun j => Lib.cell_of_heap ((hbr.block _ (lt_of_heap hx0)).trans hx0) j
      clear hv hx hz
      obtain ⟨G, hG⟩ : ∃ G, eqSeat ⟨x.student, x.code⟩ ⟨s.student, s.code⟩ = G := ⟨_, rfl⟩
      have HG : Hid (eqSeat x s = G) := Lib.hid hG
      have HOWN := Lib.hid hown
      clear hown
      cases G
      · have HA := Lib.hid hat
        clear hat
        have HF : Hid ((l.take (k + 1)).filter (fun x => decide (x ≠ s)) = X ++ [x]) := Lib.hid (by
          rw [HTK.out, ← HX.out, if_pos]
          rw [decide_eq_true_eq]
          intro e
          rw [(eqSeat_iff x s).2 e] at HG
          cases HG.out)
        go_wp2_with fail
        go_quiet (fail)
        generalize hW2 : World.drewN _ _ = W2
        have hb2 : RowKit.Below W.heap.size W W2 := by rw [← hW2]; exact blw_drewN hbr _
        have hown2 : W2.ownsRow W.heap.size 53 2 (.slice p X.length c) X.length (flatE Seat.cells X) := by rw [← hW2]; exact HOWN.out
        have hbw2 := below_next hb0 hb2
        have g0 : W2.cell? ⟨g, of + k * 2, none⟩ = some (.int .i64 x.student) := by rw [hbw2.cell (p := ⟨g, of + k * 2, none⟩) hgl]; exact HA.out 0 _ rfl
        have g1 : W2.cell? ⟨g, of + k * 2 + 1, none⟩ = some (.string x.code) := by rw [hbw2.cell (p := ⟨g, of + k * 2 + 1, none⟩) hgl]; exact HA.out 1 _ rfl
        have hlit := rowIn_lit (enc := Seat.cells) (e := 53) W2 [x] #[.int .i64 x.student, .string x.code] W2.heap.size rfl rfl 1 rfl
        have hb4 := below_next hb2 (below_alloc1 W2 (.cells #[.int .i64 x.student, .string x.code] 53))
        have hown4 := hown2.alloc (.cells #[.int .i64 x.student, .string x.code] 53)
        have HOWN4 := Lib.hid hown4
        have HLIT := Lib.hid hlit
        have hlow := hb4.size
        clear hW2 h0 h1 hc3 hown2 hown4 hlit
        go_wp2_with (at_builtin; refine wpList_append_row seatT rfl (.tmp 19) (.tmp 24) rfl W.heap.size (.slice p X.length c) _ X [x] rfl rfl HOWN4.out HLIT.out (by simp; omega) hlow ?_; intro v5 w5 hA5; obtain ⟨p5, c5, rfl⟩ := own_form hA5.own)
        have hb5 := hb4.grown hA5.grown hb4.size (fun q hq => (own_lo HOWN4.out hq).1)
        go_roundw
        case rel => exact ⟨k + 1, X ++ [x], p5, c5, by omega, by go_num, by simp, Lib.hid HF.out.symm, by simp; omega, hA5.own, hb5⟩
        case measure => simp [RowKit.intOf]; omega
      · have HF : Hid ((l.take (k + 1)).filter (fun x => decide (x ≠ s)) = X) := Lib.hid (by
          rw [HTK.out, ← HX.out, if_neg, List.append_nil]
          rw [decide_eq_true_eq]
          intro e
          exact e ((eqSeat_iff x s).1 HG.out))
        clear hat
        go_wp2_with fail
        go_quiet (fail)
        go_wp2_with fail
        go_roundw
        case rel => exact ⟨k + 1, X, p, c, by omega, by go_num, rfl, Lib.hid HF.out.symm, by omega, HOWN.out, blw_drewN hbr _⟩
        case measure => simp [RowKit.intOf]; omega
    · obtain rfl : k = l.length := by omega
      have hX := HX.out
      rw [List.take_length] at hX
      have hr := rowIn_own seatT.len seatT.pos hown
      go_wp2_with fail
      go_ret
      subst hX
      exact ⟨_, _, rfl, hr, hbw⟩
/-- .. comes before another one, as the reference says it. -/
def befR (a b : Req) : Bool :=
  if (a.priority != b.priority) = true then decide (b.priority < a.priority) else if (a.day != b.day) = true then decide (a.day < b.day) else if (a.server != b.server) = true then decide (a.server < b.server) else decide (a.seq < b.seq)
theorem cmpI_lt {x y : Int} : Lib.compareInt x y < 0 ↔ x < y := by
  unfold Lib.compareInt
  split
  · simp [*]
  · split <;> simp [*]
theorem cmpI_zero {x y : Int} : Lib.compareInt x y = 0 ↔ x = y := by
  unfold Lib.compareInt
  split
  · simp; omega
  · split
    · simp; omega
    · simp; omega
theorem befR_iff (a b : Req) : befR a b = true ↔ cmpB a b < 0 := by
  unfold befR cmpB
  by_cases h1 : a.priority = b.priority
  · rw [if_neg (by simp [h1]), if_pos (cmpI_zero.2 h1.symm)]
    by_cases h2 : a.day = b.day
    · rw [if_neg (by simp [h2]), if_pos (cmpI_zero.2 h2)]
      by_cases h3 : a.server = b.server
      · rw [if_neg (by simp [h3]), if_pos (cmpI_zero.2 h3), decide_eq_true_eq, cmpI_lt]
      · rw [if_pos (by simpa using h3), if_neg (fun e => h3 (cmpI_zero.1 e)), decide_eq_true_eq, cmpI_lt]
    · rw [if_pos (by simpa using h2), if_neg (fun e => h2 (cmpI_zero.1 e)), decide_eq_true_eq, cmpI_lt]
  · rw [if_pos (by simpa using h1), if_neg (fun e => h1 (cmpI_zero.1 e).symm), decide_eq_true_eq, cmpI_lt]
set_option maxHeartbeats 4000000 in
set_option maxRecDepth 100000 in
theorem before_any (a b : Req) (w : World) :
    Calls Tryz.prog 45 #[a.val, b.val] w fun e w' => e = .returned (.bool (befR a b)) ∧ RowKit.Below w.heap.size w w' := by
  have hbb := (below_alloc1 w (.cells a.cells 39)).alloc (by simp) (.cells b.cells 39)
  have hx0 : ((w.alloc (.cells a.cells 39)).alloc (.cells b.cells 39)).heap[w.heap.size]? = some (.cells a.cells 39 (0, 0)) := by rw [(below_alloc1 _ _).block _ (by simp)]; exact heap_alloc_new w _
  have hx1 := new_two w (.cells a.cells 39) (.cells b.cells 39)
  have hF : befR a b = befR a b := rfl
  conv at hF => rhs; unfold befR
  have HF := Lib.hid hF
  clear hF
  go_enter Tryz.func45, Tryz.ntmps45
  simp only [Req.cells] at hbb hx0 hx1
  simp only [Req.val]
  go_upto_block 0 with fail
  generalize World.alloc _ _ = W at hbb hx0 hx1 ⊢
  have c0 : ∀ j, W.cell? ⟨w.heap.size, j, none⟩ = (#[.int .i64 a.server, .int .i64 a.seq, .bool a.cancel, .int .i64 a.student, .int .i64 a.term, .string a.code, .string a.give, .int .i64 a.priority, .int .i64 a.day] : Array Value)[j]? := fun j => Lib.cell_of_heap hx0 j
  have c1 : ∀ j, W.cell? ⟨w.heap.size + 1, j, none⟩ = (#[.int .i64 b.server, .int .i64 b.seq, .bool b.cancel, .int .i64 b.student, .int .i64 b.term, .string b.code, .string b.give, .int .i64 b.priority, .int .i64 b.day] : Array Value)[j]? := fun j => Lib.cell_of_heap hx1 j
  clear hx0 hx1
  generalize hp : (a.priority != b.priority) = p at HF
  generalize hd : (a.day != b.day) = d at HF
  generalize hs : (a.server != b.server) = s at HF
  have q1 : decide (a.priority > b.priority) = decide (b.priority < a.priority) := rfl
  cases p
  · cases d
    · cases s
      · go_wp2_with fail
        go_ret
        exact ⟨ret_bool (by rw [HF.out]; rfl), hbb⟩
      · go_wp2_with fail
        go_ret
        exact ⟨ret_bool (by rw [HF.out]; rfl), hbb⟩
    · go_wp2_with fail
      go_ret
      exact ⟨ret_bool (by rw [HF.out]; rfl), hbb⟩
  · go_wp2_with fail
    go_ret
    exact ⟨ret_bool (by rw [HF.out]; rfl), hbb⟩
end Go.Proofs.YteopjiedjnaeiaaGreat
