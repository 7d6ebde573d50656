/- MarketFirst in plain words: requests without Give, each with a number of its own; one that comes last, and one that comes first. -/
import Derived.Test.YtjcogpalmgcpbaaGreatGeaq
import Derived.Test.YtjcogpalmgcpbaaGreatGeao
import Derived.Test.YtjcogpalmgcpbaaGreatGeap
import Derived.Lib.SmallJoins
import Derived.ProofKit
import Derived.LaidMore
import Derived.LaidSub
import Derived.LaidHandle
import Derived.OpenShut
import Derived.Carry
import Derived.ChangeSame
import Derived.Stop.Joined
/- The reference of layer 28: Fits. -/
namespace Go.Proofs.YtjcogpalmgcpbaaGreat
open Go Go.Proofs Go.RowKit Go.Maps Go.Sort Go.Lib
attribute [local go_sem] Off.cells
attribute [local go_sem ↓] seat_load

theorem clashO_same {a a' b b' : Off} (ha : SameOff a' a) (hb : SameOff b' b) : clashO a' b' = clashO a b := by
  unfold clashO
  rw [ha.slots, hb.slots]
def FewO (w : World) (L : List Off) : Prop := ∀ o ∈ L, OffOk w o ∧ o.slots.length ≤ 1000000 ∧ o.needs.length ≤ 1000000
theorem FewO.below {w w' : World} {L : List Off} (h : FewO w L) (hb : RowKit.Below w.heap.size w w') : FewO w' L := fun o ho => ⟨(h o ho).1.below hb, (h o ho).2⟩
theorem FewO.get {w : World} {L : List Off} (h : FewO w L) (c : ByteArray) : (getO L c).slots.length ≤ 1000000 := by
  unfold getO
  cases hf : findO L c with
  | none => exact Nat.zero_le _
  | some o => exact (h o (List.mem_of_find?_eq_some hf)).2.1
set_option maxHeartbeats 8000000 in
set_option maxRecDepth 100000 in
theorem refFits_any (ov mv lv : Value) (L : List Off) (M : List Seat) (most : Int) (l : List Seat) (s : Seat) (w : World) (hO : RowIn Off.cells w ov L) (lo : L.length ≤ 1000000) (ho : FewO w L) (hM : RowIn Seat.cells w mv M) (lm : M.length ≤ 1000000) (hl : RowIn Seat.cells w lv l) (hn : l.length ≤ 1000000) :
    Calls Tryz.prog 33 #[ov, mv, .int .i64 most, lv, .agg #[.int .i64 s.student, .string s.code]] w fun e w' => e = .returned (.int .i64 (fitsP L M most l s)) ∧ RowKit.Below w.heap.size w w' := by
  have hb1 := below_alloc1 w (.cells #[.int .i64 s.student, .string s.code] 38)
  have hx9 := heap_alloc_new w (.cells #[.int .i64 s.student, .string s.code] 38)
  have HFB := Lib.hid (fitsP_bools L M most l s)
  obtain ⟨ol, oc, rfl, _⟩ := hO.form
  obtain ⟨pl, cl, rfl, _⟩ := hl.form
  have HO := Lib.hid hO
  have HW := Lib.hid ho
  have HM := Lib.hid hM
  have HL := Lib.hid hl
  clear hO ho hM hl
  go_enter Tryz.func33, Tryz.ntmps33
  go_upto_region 1 with fail
  obtain ⟨b9, hb9⟩ : ∃ q, w.heap.size = q := ⟨_, rfl⟩
  rw [hb9] at hx9 ⊢
  generalize w.alloc _ = w1 at hb1 hx9 ⊢
  have hc9 : ∀ j, w1.cell? ⟨b9, j, none⟩ = (#[.int .i64 s.student, .string s.code] : Array Value)[j]? := fun j => Lib.cell_of_heap hx9 j
  go_wp2_with fail
  refine (refFind_any _ L s.code w1 (HO.out.below hb1) lo (HW.out.below hb1)).mono ?_
  rintro _ w2 ⟨o, rfl, hso, hok, hb2⟩
  have hb3 := below_alloc1 w2 (.cells #[.string o.code, .int .i64 o.credits, .int .i64 o.places, .slice o.sp o.slots.length o.sc, .slice o.np o.needs.length o.nc] 72)
  have hx11 := heap_alloc_new w2 (.cells #[.string o.code, .int .i64 o.credits, .int .i64 o.places, .slice o.sp o.slots.length o.sc, .slice o.np o.needs.length o.nc] 72)
  replace hb1 := below_next hb1 (below_next hb2 hb3)
  replace hx9 := ((below_next hb2 hb3).block _ (lt_of_heap hx9)).trans hx9
  have HSO := Lib.hid hso
  have HOK := Lib.hid (hok.below hb3)
  clear hc9 hb2 hb3 hso hok
  generalize hfo : (findO L s.code).isSome = ok at HFB ⊢
  go_upto_region 2 with fail
  obtain ⟨b11, hb11⟩ : ∃ q, w2.heap.size = q := ⟨_, rfl⟩
  rw [hb11] at hx11 ⊢
  generalize w2.alloc _ = w3 at hb1 hx9 hx11 HOK ⊢
  clear hb9 hb11 hfo
  cases ok
  · go_wp2_with fail
    go_ret
    exact ⟨ret_int (by rw [HFB.out]; rfl), hb1⟩
  have hc9 : ∀ j, w3.cell? ⟨b9, j, none⟩ = (#[.int .i64 s.student, .string s.code] : Array Value)[j]? := fun j => Lib.cell_of_heap hx9 j
  go_wp2_with fail
  refine (hasSeat_any _ l s w3 (HL.out.below hb1) hn).mono ?_
  rintro _ w4 ⟨rfl, hb2⟩
  replace hb1 := below_next hb1 hb2
  replace hx9 := (hb2.block _ (lt_of_heap hx9)).trans hx9
  replace hx11 := (hb2.block _ (lt_of_heap hx11)).trans hx11
  replace HOK := Lib.hid (HOK.out.below hb2)
  clear hc9 hb2
  generalize decide (s ∈ l) = q1 at HFB ⊢
  cases q1
  rotate_left
  · go_wp2_with fail
    go_ret
    exact ⟨ret_int (by rw [HFB.out]; rfl), hb1⟩
  have hc9 : ∀ j, w4.cell? ⟨b9, j, none⟩ = (#[.int .i64 s.student, .string s.code] : Array Value)[j]? := fun j => Lib.cell_of_heap hx9 j
  go_wp2_with fail
  refine (hasSeat_any _ M s w4 (HM.out.below hb1) lm).mono ?_
  rintro _ w5 ⟨rfl, hb2⟩
  replace hb1 := below_next hb1 hb2
  replace hx9 := (hb2.block _ (lt_of_heap hx9)).trans hx9
  replace hx11 := (hb2.block _ (lt_of_heap hx11)).trans hx11
  replace HOK := Lib.hid (HOK.out.below hb2)
  clear hc9 hb2
  generalize decide (s ∈ M) = q2 at HFB ⊢
  cases q2
  · go_wp2_with fail
    go_ret
    exact ⟨ret_int (by rw [HFB.out]; rfl), hb1⟩
  have hc11 : ∀ j, w5.cell? ⟨b11, j, none⟩ = (#[.string o.code, .int .i64 o.credits, .int .i64 o.places, .slice o.sp o.slots.length o.sc, .slice o.np o.needs.length o.nc] : Array Value)[j]? := fun j => Lib.cell_of_heap hx11 j
  go_wp2_with fail
  clear hc11
  have HX9 := Lib.hid hx9
  have HX11 := Lib.hid hx11
  have HB := Lib.hid hb1
  clear hx9 hx11 hb1
  go_loopw [13, 14, 15, 16] (fun v13 v14 v15 i wr => ∃ (k n : Nat) (c : Int) (q : Bool), k ≤ l.length ∧ n ≤ k ∧ v13 = .int .i64 n ∧ v14 = .int .i64 c ∧ v15 = .bool q ∧ i = .int .i64 k ∧ Hid (n = takenF (l.take k) s.code ∧ c = creditsF L (l.take k) s.student o.credits ∧ q = clashF L (getO L s.code) (l.take k) s.student) ∧ RowKit.Below w5.heap.size w5 wr) (fun _ _ _ i _ => l.length - (RowKit.intOf i).toNat)
  case atStart => exact ⟨0, 0, _, _, Nat.zero_le _, Nat.le_refl _, rfl, rfl, rfl, rfl, Lib.hid ⟨rfl, rfl, rfl⟩, Below.refl _ _⟩
  case round =>
    obtain ⟨k, n, c, q, hk, hnk, rfl, rfl, rfl, rfl, HI, hbr⟩ := hrel
    by_cases hlt : k < l.length
    · obtain ⟨g, of, c', hv, _, hgl, hx⟩ := HL.out.at_ (k := 2) (fun _ => rfl) (by omega)
      have e1 := (Value.slice.inj hv).1
      subst e1
      have hz := List.getElem?_eq_getElem hlt
      have hat := hx k _ hz
      have HTK := Lib.hid (take_one hz)
      generalize l[k] = x at hz hat HTK
      obtain ⟨xs, xc⟩ := x
      have hbw : RowKit.Below w.heap.size w wr := HB.out.trans (hbr.mono HB.out.size)
      have h0 : wr.cell? ⟨g, of + k * 2, none⟩ = some (.int .i64 xs) := by rw [hbw.cell (p := ⟨g, of + k * 2, none⟩) hgl]; exact hat 0 _ rfl
      have h1 : wr.cell? ⟨g, of + k * 2 + 1, none⟩ = some (.string xc) := by rw [hbw.cell (p := ⟨g, of + k * 2 + 1, none⟩) hgl]; exact hat 1 _ rfl
      have hc9 : ∀ j, wr.cell? ⟨b9, j, none⟩ = (#[.int .i64 s.student, .string s.code] : Array Value)[j]? := fun j => Lib.cell_of_heap ((hbr.block _ (lt_of_heap HX9.out)).trans HX9.out) j
      have hwrap : IntKind.i64.wrap ((n : Int) + 1) = ((n + 1 : Nat) : Int) := by rw [IntWalk.i64_in _ (by omega)]; omega
      have HAT := Lib.hid hat
      clear hv hx hz hat
      generalize hG : (xc.toList == s.code.toList) = g2
      have HT : Hid (takenF (l.take (k + 1)) s.code = n + if g2 = true then 1 else 0) := Lib.hid (by
        rw [HTK.out, takenF_snoc, ← HI.out.1, ← hG]
        congr 1
        by_cases h : xc.toList = s.code.toList <;> simp [h])
      by_cases hst : xs = s.student
      · subst hst
        have ht : (s.student == s.student) = true := by simp
        cases g2
        · go_wp2_with fail
          go_quiet (fail)
          go_wp2_with fail
          go_quiet (fail)
          generalize hW2 : World.drewN _ _ = W2
          have hb2 : RowKit.Below w5.heap.size w5 W2 := by rw [← hW2]; exact blw_drewN (blw_drewN hbr _) _
          have hbw2 : RowKit.Below w.heap.size w W2 := HB.out.trans (hb2.mono HB.out.size)
          have g0 : W2.cell? ⟨g, of + k * 2, none⟩ = some (.int .i64 s.student) := by rw [hbw2.cell (p := ⟨g, of + k * 2, none⟩) hgl]; exact HAT.out 0 _ rfl
          have g1 : W2.cell? ⟨g, of + k * 2 + 1, none⟩ = some (.string xc) := by rw [hbw2.cell (p := ⟨g, of + k * 2 + 1, none⟩) hgl]; exact HAT.out 1 _ rfl
          clear hW2 h0 h1 hc9
          go_wp2_with fail
          refine (refFind_any _ L xc W2 (HO.out.below hbw2) lo (HW.out.below hbw2)).mono ?_
          rintro _ w6 ⟨y, rfl, hsy, hoy, hb6⟩
          have hb7 := below_alloc1 w6 (.cells #[.string y.code, .int .i64 y.credits, .int .i64 y.places, .slice y.sp y.slots.length y.sc, .slice y.np y.needs.length y.nc] 72)
          have hx17 := heap_alloc_new w6 (.cells #[.string y.code, .int .i64 y.credits, .int .i64 y.places, .slice y.sp y.slots.length y.sc, .slice y.np y.needs.length y.nc] 72)
          have hb8 := below_next hb2 (below_next hb6 hb7)
          have HOY := Lib.hid (hoy.below hb7)
          have HSY := Lib.hid hsy
          clear hoy hsy hb6 hb7 g0 g1 hb2 hbw2
          go_upto_region 18 with fail
          obtain ⟨b17, hb17⟩ : ∃ b, w6.heap.size = b := ⟨_, rfl⟩
          rw [hb17] at hx17 ⊢
          generalize w6.alloc _ = w7 at hx17 hb8 HOY ⊢
          clear hb17
          have hc11 : ∀ j, w7.cell? ⟨b11, j, none⟩ = (#[.string o.code, .int .i64 o.credits, .int .i64 o.places, .slice o.sp o.slots.length o.sc, .slice o.np o.needs.length o.nc] : Array Value)[j]? := fun j => Lib.cell_of_heap ((hb8.block _ (lt_of_heap HX11.out)).trans HX11.out) j
          have hc17 : ∀ j, w7.cell? ⟨b17, j, none⟩ = (#[.string y.code, .int .i64 y.credits, .int .i64 y.places, .slice y.sp y.slots.length y.sc, .slice y.np y.needs.length y.nc] : Array Value)[j]? := fun j => Lib.cell_of_heap hx17 j
          have cc := refClash_any o y w7 (HOK.out.slots.below hb8) HOY.out.slots (by rw [HSO.out.slots]; exact HW.out.get _) (by rw [HSY.out.slots]; exact HW.out.get _)
          rw [clashO_same HSO.out HSY.out] at cc
          go_wp2_with fail
          refine cc.mono ?_
          rintro _ w8 ⟨rfl, hb9'⟩
          have hc17' : ∀ j, w8.cell? ⟨b17, j, none⟩ = (#[.string y.code, .int .i64 y.credits, .int .i64 y.places, .slice y.sp y.slots.length y.sc, .slice y.np y.needs.length y.nc] : Array Value)[j]? := fun j => Lib.cell_of_heap ((hb9'.block _ (lt_of_heap hx17)).trans hx17) j
          have HBF := Lib.hid (below_next hb8 hb9')
          obtain ⟨c2, hcw⟩ : ∃ c2, IntKind.i64.wrap (c + y.credits) = c2 := ⟨_, rfl⟩
          have HCr : Hid (creditsF L (l.take (k + 1)) s.student o.credits = c2) := Lib.hid (by
            rw [HTK.out, creditsF_snoc, ← HI.out.2.1]
            unfold addC; rw [if_pos rfl]
            show IntKind.i64.wrap (c + (getO L xc).credits) = c2
            rw [← HSY.out.credits, hcw])
          have HCl : Hid (clashF L (getO L s.code) (l.take (k + 1)) s.student = (q || clashO (getO L s.code) (getO L xc))) := Lib.hid (by
            rw [HTK.out, clashF_snoc, ← HI.out.2.2, decide_eq_true rfl]; simp)
          have HCW := Lib.hid hcw
          clear cc hc11 hc17 hb8 hb9' hx17
          generalize clashO (getO L s.code) (getO L xc) = m at HCl ⊢
          cases q
          · go_wp2_with fail
            go_roundw
            case rel => exact ⟨k + 1, n, c2, m, by omega, by omega, by first | rfl | go_num, rfl, rfl, by go_num, Lib.hid ⟨by rw [HT.out]; rfl, HCr.out.symm, by rw [HCl.out]; rfl⟩, HBF.out⟩
            case measure => simp [RowKit.intOf]; omega
          · go_wp2_with fail
            go_roundw
            case rel => exact ⟨k + 1, n, c2, true, by omega, by omega, by first | rfl | go_num, rfl, rfl, by go_num, Lib.hid ⟨by rw [HT.out]; rfl, HCr.out.symm, by rw [HCl.out]; rfl⟩, HBF.out⟩
            case measure => simp [RowKit.intOf]; omega
        · go_wp2_with fail
          go_quiet (fail)
          go_wp2_with fail
          go_quiet (fail)
          generalize hW2 : World.drewN _ _ = W2
          have hb2 : RowKit.Below w5.heap.size w5 W2 := by rw [← hW2]; exact blw_drewN (blw_drewN hbr _) _
          have hbw2 : RowKit.Below w.heap.size w W2 := HB.out.trans (hb2.mono HB.out.size)
          have g0 : W2.cell? ⟨g, of + k * 2, none⟩ = some (.int .i64 s.student) := by rw [hbw2.cell (p := ⟨g, of + k * 2, none⟩) hgl]; exact HAT.out 0 _ rfl
          have g1 : W2.cell? ⟨g, of + k * 2 + 1, none⟩ = some (.string xc) := by rw [hbw2.cell (p := ⟨g, of + k * 2 + 1, none⟩) hgl]; exact HAT.out 1 _ rfl
          clear hW2 h0 h1 hc9
          go_wp2_with fail
          refine (refFind_any _ L xc W2 (HO.out.below hbw2) lo (HW.out.below hbw2)).mono ?_
          rintro _ w6 ⟨y, rfl, hsy, hoy, hb6⟩
          have hb7 := below_alloc1 w6 (.cells #[.string y.code, .int .i64 y.credits, .int .i64 y.places, .slice y.sp y.slots.length y.sc, .slice y.np y.needs.length y.nc] 72)
          have hx17 := heap_alloc_new w6 (.cells #[.string y.code, .int .i64 y.credits, .int .i64 y.places, .slice y.sp y.slots.length y.sc, .slice y.np y.needs.length y.nc] 72)
          have hb8 := below_next hb2 (below_next hb6 hb7)
          have HOY := Lib.hid (hoy.below hb7)
          have HSY := Lib.hid hsy
          clear hoy hsy hb6 hb7 g0 g1 hb2 hbw2
          go_upto_region 18 with fail
          obtain ⟨b17, hb17⟩ : ∃ b, w6.heap.size = b := ⟨_, rfl⟩
          rw [hb17] at hx17 ⊢
          generalize w6.alloc _ = w7 at hx17 hb8 HOY ⊢
          clear hb17
          have hc11 : ∀ j, w7.cell? ⟨b11, j, none⟩ = (#[.string o.code, .int .i64 o.credits, .int .i64 o.places, .slice o.sp o.slots.length o.sc, .slice o.np o.needs.length o.nc] : Array Value)[j]? := fun j => Lib.cell_of_heap ((hb8.block _ (lt_of_heap HX11.out)).trans HX11.out) j
          have hc17 : ∀ j, w7.cell? ⟨b17, j, none⟩ = (#[.string y.code, .int .i64 y.credits, .int .i64 y.places, .slice y.sp y.slots.length y.sc, .slice y.np y.needs.length y.nc] : Array Value)[j]? := fun j => Lib.cell_of_heap hx17 j
          have cc := refClash_any o y w7 (HOK.out.slots.below hb8) HOY.out.slots (by rw [HSO.out.slots]; exact HW.out.get _) (by rw [HSY.out.slots]; exact HW.out.get _)
          rw [clashO_same HSO.out HSY.out] at cc
          go_wp2_with fail
          refine cc.mono ?_
          rintro _ w8 ⟨rfl, hb9'⟩
          have hc17' : ∀ j, w8.cell? ⟨b17, j, none⟩ = (#[.string y.code, .int .i64 y.credits, .int .i64 y.places, .slice y.sp y.slots.length y.sc, .slice y.np y.needs.length y.nc] : Array Value)[j]? := fun j => Lib.cell_of_heap ((hb9'.block _ (lt_of_heap hx17)).trans hx17) j
          have HBF := Lib.hid (below_next hb8 hb9')
          obtain ⟨c2, hcw⟩ : ∃ c2, IntKind.i64.wrap (c + y.credits) = c2 := ⟨_, rfl⟩
          have HCr : Hid (creditsF L (l.take (k + 1)) s.student o.credits = c2) := Lib.hid (by
            rw [HTK.out, creditsF_snoc, ← HI.out.2.1]
            unfold addC; rw [if_pos rfl]
            show IntKind.i64.wrap (c + (getO L xc).credits) = c2
            rw [← HSY.out.credits, hcw])
          have HCl : Hid (clashF L (getO L s.code) (l.take (k + 1)) s.student = (q || clashO (getO L s.code) (getO L xc))) := Lib.hid (by
            rw [HTK.out, clashF_snoc, ← HI.out.2.2, decide_eq_true rfl]; simp)
          have HCW := Lib.hid hcw
          clear cc hc11 hc17 hb8 hb9' hx17
          generalize clashO (getO L s.code) (getO L xc) = m at HCl ⊢
          cases q
          · go_wp2_with fail
            go_roundw
            case rel => exact ⟨k + 1, n + 1, c2, m, by omega, by omega, by first | rfl | go_num, rfl, rfl, by go_num, Lib.hid ⟨by rw [HT.out]; rfl, HCr.out.symm, by rw [HCl.out]; rfl⟩, HBF.out⟩
            case measure => simp [RowKit.intOf]; omega
          · go_wp2_with fail
            go_roundw
            case rel => exact ⟨k + 1, n + 1, c2, true, by omega, by omega, by first | rfl | go_num, rfl, rfl, by go_num, Lib.hid ⟨by rw [HT.out]; rfl, HCr.out.symm, by rw [HCl.out]; rfl⟩, HBF.out⟩
            case measure => simp [RowKit.intOf]; omega
      · have ht : (xs == s.student) = false := by simpa using hst
        have HCr : Hid (creditsF L (l.take (k + 1)) s.student o.credits = c) := Lib.hid (by
          rw [HTK.out, creditsF_snoc, ← HI.out.2.1]
          unfold addC; rw [if_neg hst])
        have HCl : Hid (clashF L (getO L s.code) (l.take (k + 1)) s.student = q) := Lib.hid (by
          rw [HTK.out, clashF_snoc, ← HI.out.2.2, decide_eq_false hst]; simp)
        clear hst
        cases g2
        · go_wp2_with fail
          go_quiet (fail)
          go_wp2_with fail
          go_quiet (fail)
          go_wp2_with fail
          go_roundw
          case rel => exact ⟨k + 1, n, c, q, by omega, by omega, by first | rfl | go_num, rfl, rfl, by go_num, Lib.hid ⟨by rw [HT.out]; rfl, HCr.out.symm, HCl.out.symm⟩, blw_drewN hbr _⟩
          case measure => simp [RowKit.intOf]; omega
        · go_wp2_with fail
          go_quiet (fail)
          go_wp2_with fail
          go_quiet (fail)
          go_wp2_with fail
          go_roundw
          case rel => exact ⟨k + 1, n + 1, c, q, by omega, by omega, by first | rfl | go_num, rfl, rfl, by go_num, Lib.hid ⟨by rw [HT.out]; rfl, HCr.out.symm, HCl.out.symm⟩, blw_drewN hbr _⟩
          case measure => simp [RowKit.intOf]; omega
    · obtain rfl : k = l.length := by omega
      have hi := HI.out
      rw [List.take_length] at hi
      obtain ⟨hi1, hi2, hi3⟩ := hi
      have hbw : RowKit.Below w.heap.size w wr := HB.out.trans (hbr.mono HB.out.size)
      have hc11 : ∀ j, wr.cell? ⟨b11, j, none⟩ = (#[.string o.code, .int .i64 o.credits, .int .i64 o.places, .slice o.sp o.slots.length o.sc, .slice o.np o.needs.length o.nc] : Array Value)[j]? := fun j => Lib.cell_of_heap ((hbr.block _ (lt_of_heap HX11.out)).trans HX11.out) j
      have HF : Hid (fitsP L M most l s = if decide (o.places ≤ (n : Int)) = true then 50 else if q = true then 51 else if decide (most < c) = true then 3 else 0) := Lib.hid (by rw [HFB.out, hi1, hi2, hi3, ← HSO.out.places, ← HSO.out.credits]; rfl)
      clear hi1 hi2 hi3 HFB HI
      generalize hq3 : decide (o.places ≤ (n : Int)) = q3 at HF
      generalize hq4 : decide (most < c) = q4 at HF
      have p3 : (decide ((n : Int) ≥ o.places)) = q3 := hq3
      have p4 : (decide (c > most)) = q4 := hq4
      clear hq3 hq4
      cases q3
      · cases q
        · cases q4
          · go_wp2_with fail
            go_ret
            exact ⟨ret_int (by rw [HF.out]; rfl), hbw⟩
          · go_wp2_with fail
            go_ret
            exact ⟨ret_int (by rw [HF.out]; rfl), hbw⟩
        · go_wp2_with fail
          go_ret
          exact ⟨ret_int (by rw [HF.out]; rfl), hbw⟩
      · go_wp2_with fail
        go_ret
        exact ⟨ret_int (by rw [HF.out]; rfl), hbw⟩
end Go.Proofs.YtjcogpalmgcpbaaGreat
/- From 'it returned true and below the old heap nothing has turned' to the row's post; arguments opened by their outer form; the table off the row's condition. -/
namespace Go.Proofs.YtjcogpalmgcpbaaGreat
open Go Go.ChangeShapes Go.WideShapes Go.ChangeAt Go.WideElems Go.RowKit Go.Lib

theorem A_laidOut : laidOutB Tryz.prog = true := by kernel_rfl
theorem own : ownKnob Tryz.prog.godebug = none := by kernel_rfl

section
variable {H : Type} {enc : TypeId × Value → H} {P : Program}
theorem trodAll_stays (hl : laidOutB P = true) {W W' : World} {sp' : Nat → Bool} : ∀ {ts : List TypeId} {vs : List Value} {ds : List (DataW H)} {ps : List MemPlace},
    (∀ t ∈ ts, P.readableRec t = true ∧ t < P.types.size) → DataW.TrodAll enc P W 0 (fun _ => true) true ts vs ds ps → (∀ p ∈ ps, W.sameAt W' p) → (∀ p ∈ ps, sp' p.block = true) → DataW.TrodAll enc P W' 0 sp' true ts vs ds ps
  | [], [], [], _, _, h, _, _ => h
  | [], [], _ :: _, _, _, h, _, _ => h.elim
  | [], _ :: _, _, _, _, h, _, _ => h.elim
  | _ :: _, [], _, _, _, h, _, _ => h.elim
  | _ :: _, _ :: _, [], _, _, h, _, _ => h.elim
  | t :: ts, v :: vs, d :: ds, ps, ht, h, h1, h2 => by
    obtain ⟨p, q, hp, hq, rfl⟩ := h
    exact ⟨p, q, Trod_stays hl (ht t (by simp)).1 (ht t (by simp)).2 hp (fun x hx => h1 x (by simp [hx])) (fun x hx => h2 x (by simp [hx])),
      trodAll_stays hl (fun u hu => ht u (by simp [hu])) hq (fun x hx => h1 x (by simp [hx])) (fun x hx => h2 x (by simp [hx])), rfl⟩

/-- The post of a law: true, the arguments read as they did. -/
theorem law_post {f : Func} {s : ChangeSpec} {W W' : World} {args : Array Value} {ds : List (DataW H)} {p : List MemPlace} {tb : TypeId} (hl : laidOutB P = true)
    (hts : ∀ t ∈ f.params.toList, P.readableRec t = true ∧ t < P.types.size) (hv : s.vars = []) (hr : f.resultTypes = #[tb]) (hb : P.underlying tb = some .bool)
    (hf : s.fn H (ds ++ []) = { results := [.lit (.bool true)], args := ds })
    (hW : DataW.Whole enc P f.params.toList s.vars false W args.toList ds [] p) (hA : DataW.TrodAll enc P W 0 (fun _ => true) true f.params.toList args.toList ds p) (hbe : Below W.heap.size W W') :
    s.post enc P f false true false false W args (.bool true) W' := by
  have hlt : ∀ x ∈ p, x.block < W.heap.size := fun x hx => hW.lt x hx
  have hsame : ∀ x ∈ p, W.sameAt W' x := fun x hx => hbe.same (hlt x hx)
  have hargs : ∀ sp : Nat → Bool, (∀ x ∈ p, sp x.block = true) → DataW.TrodAll enc P W' 0 sp true f.params.toList args.toList (s.fn H (ds ++ [])).args p := fun sp h => by
    rw [hf]; exact trodAll_stays hl hts hA hsame h
  have hvars : ∀ sp : Nat → Bool, DataW.TrodVars enc P W' sp s.vars (s.fn H (ds ++ [])).vars [] := fun sp => by
    rw [hf, hv]; rfl
  have hold : ∀ x ∈ p, (fun b => decide (b < W.heap.size)) x.block = true := fun x hx => by simpa using hlt x hx
  have hres : ∀ (b : Nat) (sp : Nat → Bool) (hd : Bool), DataW.TrodAll enc P W' b sp hd f.resultTypes.toList ((Value.bool true).resultList f.resultTypes.size) (s.fn H (ds ++ [])).results [] := fun b sp hd => by
    rw [hf, hr]; exact trodAll_mk1 (shut_bool hb true)
  refine ⟨ds, [], p, [], p, [], hW, hres _ _ _, hargs _ hold, hvars _, World.keptBut_mono (fun x hx => ⟨hx, ?_⟩) (hbe.frame (· ∈ p)), fun _ => ?_⟩
  · simpa using hx
  · obtain ⟨_, _, _, _, _, hz, hn⟩ := hW
    refine ⟨ok_one hr rfl (okWide_bool_mk hb _), _, _, ([] ++ p) ++ [], ⟨[] ++ p, [], trodAll_append (hargs _ (fun _ _ => rfl)) (hres _ _ _), hvars _, rfl, ?_, ?_⟩, ?_⟩
    · intro b off hp
      have hin : MemPlace.cell b off ∈ p := by simpa using hp
      rw [hbe.frozen (hlt _ hin)]
      exact hz b off hin
    · intro ha; simpa using hn ha
    · intro x hx _; simpa using hx
end

/-! Arguments by their outer form. -/
section
variable {P : Program} {w : World} {r : Go.Reach} {b0 : Nat} {t : TypeId}
theorem cell_int {k : IntKind} {v : Value} (ht : P.underlying t = some (.int k)) (h : Cell.okWide P w r b0 t v) : ∃ n, v = .int k n ∧ k.has n := by
  unfold Cell.okWide at h
  rw [ht] at h
  unfold Cell.ok at h
  rw [ht] at h
  cases v <;> simp_all
theorem cell_string {v : Value} (ht : P.underlying t = some .string) (h : Cell.okWide P w r b0 t v) : ∃ s, v = .string s ∧ (s.size : Int) ≤ IntKind.i64.max := by
  unfold Cell.okWide at h
  rw [ht] at h
  unfold Cell.ok at h
  rw [ht] at h
  cases v <;> simp_all
end
theorem has_i64 {n : Int} (h : IntKind.i64.has n) : I64 n := by
  simp [IntKind.has, IntKind.min, IntKind.max, IntKind.signed, IntKind.bits] at h
  unfold I64; omega

theorem no_path {w : World} {a : Addr} {v : Value} (h : w.cell? a = some v) : ∃ b o, a = ⟨b, o, none⟩ := by
  obtain ⟨b, o, path⟩ := a
  cases path with
  | none => exact ⟨b, o, rfl⟩
  | some q => simp [World.cell?] at h; split at h <;> cases h
theorem add_at (b o k : Nat) : (⟨b, o, none⟩ : Addr).add k = ⟨b, o + k, none⟩ := by unfold Addr.add; split <;> simp_all
theorem add_zero (a : Addr) : a.add 0 = a := by unfold Addr.add; rw [if_pos rfl]
theorem memD {α : Type} {l : List α} {k : Nat} (h : k < l.length) (d : α) : l.getD k d ∈ l := by
  rw [List.getD_eq_getElem?_getD, List.getElem?_eq_getElem h]; exact List.getElem_mem h
theorem wf_i64 {n : Int} (h : Lit.wf (.int .i64 n)) : I64 n := by
  simp [Lit.wf, IntKind.min, IntKind.max, IntKind.signed, IntKind.bits] at h
  unfold I64; omega
section
variable {H : Type} {enc : TypeId × Value → H} {w : World} {held : Bool} {fuel : Nat} {c : Value} {y : DataW H × List MemPlace}
/-- A slice of ints that came in. -/
theorem ints_in (h : DataW.trod enc Tryz.prog w 0 (fun _ => true) held fuel 22 [c] = some y) : ∃ A n cc, c = .slice A n cc ∧ IntsIn w.heap.size A n w := by
  rcases open_ints Tryz.underlying22 Tryz.underlying3 (by kernel_rfl) h with ⟨hc, hx⟩ | ⟨a, len, cap, zs, hc, _, hl, hm, hz, hx, hcell, hwf⟩
  · simp at hc
    exact ⟨none, 0, 0, hc, by omega, fun j hj => by omega⟩
  · simp at hc
    subst hc
    simp only [if_true] at hz
    refine ⟨some a, len, cap, rfl, by unfold maxLen at hm; omega, fun j hj => ?_⟩
    have h1 := hcell j (by omega)
    have h0 := hcell 0 (by omega)
    rw [add_zero] at h0
    obtain ⟨b, o, rfl⟩ := no_path h0
    rw [add_at] at h1
    exact ⟨b, o, zs.getD j 0, rfl, World.block_lt_of_cell? w _ h1, h1, wf_i64 (hwf _ (memD (by omega) 0))⟩
/-- A slice of slices of ints that came in. -/
theorem intss_in (h : DataW.trod enc Tryz.prog w 0 (fun _ => true) held fuel 23 [c] = some y) : ∃ A n cc, c = .slice A n cc ∧ IntssIn w.heap.size A n w := by
  have hcc : Tryz.prog.cellsOf 22 = 1 := by kernel_rfl
  rcases DataW.trod_slice Tryz.underlying23 h with ⟨hc, hx⟩ | ⟨a, len, cap, elems, rest, m, _, hc, -, hb, hl, hm, hlen, hel, -, -⟩
  · simp at hc
    exact ⟨none, 0, 0, hc, by omega, fun j hj => by omega⟩
  · simp at hc
    subst hc
    rw [hcc] at hel
    refine ⟨some a, len, cap, rfl, by unfold maxLen at hm; omega, fun j hj => ?_⟩
    have get : ∀ i, i < len → ∃ c0 A n cc, w.cell? (a.add i) = some c0 ∧ c0 = .slice A n cc ∧ IntsIn w.heap.size A n w := fun i hi => by
      have h1 := hel i hi
      rw [List.getElem?_eq_getElem (by omega), Option.bind_eq_some_iff] at h1
      obtain ⟨cs, h2, h3⟩ := h1
      have h4 := World.cells?_some h2
      match cs, h4.1 with
      | [c0], _ =>
        obtain ⟨A, n, cc, rfl, hi⟩ := ints_in h3
        have h5 := h4.2.2 0 (by omega)
        rw [add_zero, Nat.mul_one] at h5
        exact ⟨_, A, n, cc, by simpa using h5, rfl, hi⟩
    obtain ⟨c0, _, _, _, g0, _⟩ := get 0 (by omega)
    rw [add_zero] at g0
    obtain ⟨b, o, rfl⟩ := no_path g0
    obtain ⟨c1, A, n, cc, g1, rfl, hi⟩ := get j hj
    rw [add_at] at g1
    exact ⟨b, o, A, n, cc, rfl, World.block_lt_of_cell? w _ g1, g1, hi⟩
end
section
variable {H : Type} {enc : TypeId × Value → H} {P : Program} {w : World} {base : Nat} {spare : Nat → Bool} {held : Bool}
theorem trod_struct4 {t : TypeId} {f0 f1 f2 f3 : Field} {fuel : Nat} {cs : List Value} {x : DataW H × List MemPlace} (ht : P.underlying t = some (.struct #[f0, f1, f2, f3])) (h : DataW.trod enc P w base spare held fuel t cs = some x) :
    ∃ y0 y1 n, DataW.trod enc P w base spare held n f0.type ((cs.drop f0.offset).take (P.cellsOf f0.type)) = some y0 ∧
      DataW.trod enc P w base spare held n f1.type ((cs.drop f1.offset).take (P.cellsOf f1.type)) = some y1 := by
  obtain ⟨xs, n, _, rfl, hl, hlen, hf⟩ := DataW.trod_struct ht h
  match xs, hlen with
  | [y0, y1, y2, y3], _ => exact ⟨y0, y1, n, by simpa using hf 0 f0 rfl, by simpa using hf 1 f1 rfl⟩
end


/-- A case by value. -/
structure CaseIn (w : World) (v : Value) (A0 A1 : Option Addr) (n0 n1 c0 c1 : Nat) (q m : Int) : Prop where
  eq : v = .agg #[.slice A0 n0 c0, .slice A1 n1 c1, .int .u32 q, .int .u8 m]
  h0 : IntsIn w.heap.size A0 n0 w
  h1 : IntssIn w.heap.size A1 n1 w
  q0 : 0 ≤ q
  q1 : q ≤ 4294967295
  m0 : 0 ≤ m
  m1 : m ≤ 255
theorem wf_u8 {n : Int} (h : Lit.wf (.int .u8 n)) : 0 ≤ n ∧ n ≤ 255 := by
  simp [Lit.wf, IntKind.min, IntKind.max, IntKind.signed, IntKind.bits] at h
  omega
theorem has_u8 {n : Int} (h : IntKind.u8.has n) : 0 ≤ n ∧ n ≤ 255 := by
  simp [IntKind.has, IntKind.min, IntKind.max, IntKind.signed, IntKind.bits] at h
  omega
theorem has_u32 {n : Int} (h : IntKind.u32.has n) : 0 ≤ n ∧ n ≤ 4294967295 := by
  simp [IntKind.has, IntKind.min, IntKind.max, IntKind.signed, IntKind.bits] at h
  omega































end Go.Proofs.YtjcogpalmgcpbaaGreat
namespace Go.Proofs.YtjcogpalmgcpbaaGreat
open Go Go.Proofs Go.RowKit Go.Maps Go.Sort Go.Lib

theorem fs_right : ∀ g ∈ codesL, codeL g.data.toList = true := by decide
theorem fs_size : ∀ g ∈ codesL, g.size = 2 := by decide
theorem fs_day : ∀ k : Nat, k < 20 → rightB (400 + k) = true := by decide
/-- A request as Single makes it: of number q, with a priority from lo to hi. -/
structure Pln (q lo hi : Int) (r : Req) : Prop where
  s0 : 1 ≤ r.server
  s1 : r.server ≤ 3
  sq : r.seq = q
  cn : r.cancel = false
  t0 : 1 ≤ r.student
  t1 : r.student ≤ 5
  tm : r.term = 4
  cd : r.code ∈ codesL
  gv : r.give = ⟨#[]⟩
  p0 : lo ≤ r.priority
  p1 : r.priority ≤ hi
  dy : ∃ k : Nat, k < 20 ∧ r.day = 400 + k
section
variable {q lo hi : Int} {r : Req}
theorem Pln.prio (h : Pln q lo hi r) {p lo' hi' : Int} (h0 : lo' ≤ p) (h1 : p ≤ hi') : Pln q lo' hi' { r with priority := p } :=
  ⟨h.s0, h.s1, h.sq, h.cn, h.t0, h.t1, h.tm, h.cd, h.gv, h0, h1, h.dy⟩
theorem Pln.chk (h : Pln q lo hi r) (hq : 1 ≤ q) (h0 : 0 ≤ lo) (h1 : hi ≤ 100) : chkR r = 0 := by
  obtain ⟨a, b, cc, d, f, g, k, p, y⟩ := r
  obtain ⟨s0, s1, sq, cn, t0, t1, tm, cd, gv, p0, p1, y0, hy, rfl⟩ := h
  simp only at s0 s1 sq cn t0 t1 tm cd gv p0 p1
  subst sq cn tm gv
  have heq : ¬ eqReq ⟨a, b, false, d, 4, g, ⟨#[]⟩, p, 400 + y0⟩ ⟨a, b, true, 0, 0, ⟨#[]⟩, ⟨#[]⟩, 0, 0⟩ = true := fun e => by
    have := congrArg Req.cancel ((eqReq_iff _ _).1 e)
    cases this
  have hgv : ¬ ((⟨#[]⟩ : ByteArray).toList ≠ [] ∧ codeL (⟨#[]⟩ : ByteArray).data.toList = false) := by
    rintro ⟨h, h2⟩
    exact h (by rw [ByteArray.toList_eq])
  have hkc : ¬ ((⟨#[]⟩ : ByteArray).toList == g.toList) = true := by
    rw [beq_iff_eq, req_ba]
    intro e
    have := fs_size g cd
    rw [← e] at this
    cases this
  rw [chkR_eq, if_neg (by omega), if_neg (by omega), if_neg (by omega), if_neg heq, if_neg (by decide), if_neg (by omega), if_neg (by omega), if_neg (by omega), if_neg (by omega), if_neg (by omega), if_neg (by omega),
    if_neg (by rw [fs_right g cd]; decide), if_neg hgv, if_neg hkc, if_neg (by rw [fs_day y0 hy]; decide)]
theorem Pln.small (h : Pln q lo hi r) (hq : -1000000 ≤ q) (hq2 : q ≤ 1000000) (h0 : -1000000 ≤ lo) (h1 : hi ≤ 1000000) : r.Small := by
  obtain ⟨a, b, cc, d, f, g, k, p, y⟩ := r
  obtain ⟨s0, s1, sq, cn, t0, t1, tm, cd, gv, p0, p1, y0, hy, rfl⟩ := h
  simp only at s0 s1 sq cn t0 t1 tm cd gv p0 p1
  subst sq cn tm gv
  have := fs_size g cd
  exact small_mk (by unfold I64; omega) (by omega) (by decide)
theorem Pln.none (h : Pln q lo hi r) : r.give.size = 0 := by rw [h.gv]; rfl
end
/-- The list of requests. -/
def PlnL (lo hi : Int) (A : List Req) : Prop := ∀ (k : Nat) (r : Req), A[k]? = some r → Pln ((k : Int) + 1) lo hi r
theorem PlnL.nil (lo hi : Int) : PlnL lo hi [] := fun k r h => by simp at h
theorem PlnL.snoc {lo hi : Int} {A : List Req} {r : Req} (h : PlnL lo hi A) (hr : Pln ((A.length : Int) + 1) lo hi r) : PlnL lo hi (A ++ [r]) := fun k x hk => by
  rcases Nat.lt_trichotomy k A.length with h' | h' | h'
  · rw [List.getElem?_append_left h'] at hk; exact h k x hk
  · subst h'
    simp at hk
    subst hk
    exact hr
  · rw [List.getElem?_eq_none (by simp; omega)] at hk; cases hk
section
variable {lo hi : Int} {A O : List Req} {r : Req}
theorem PlnL.mem (h : PlnL lo hi A) (hr : r ∈ A) : ∃ k : Nat, k < A.length ∧ Pln ((k : Int) + 1) lo hi r := by
  obtain ⟨k, hk, rfl⟩ := List.mem_iff_getElem.1 hr
  exact ⟨k, hk, h k _ (List.getElem?_eq_getElem hk)⟩
theorem PlnL.nums (h : PlnL lo hi A) : A.Pairwise fun a b => numR a ≠ numR b := by
  rw [List.pairwise_iff_getElem]
  intro i j hi' hj hij e
  have h1 := (h i _ (List.getElem?_eq_getElem hi')).sq
  have h2 := (h j _ (List.getElem?_eq_getElem hj)).sq
  have := congrArg Prod.snd e
  simp only [numR] at this
  omega
theorem PlnL.right (h : PlnL lo hi A) (h0 : 0 ≤ lo) (h1 : hi ≤ 100) : ∀ r ∈ A, chkR r = 0 ∧ r.cancel = false := fun r hr => by
  obtain ⟨k, hk, hp⟩ := h.mem hr
  exact ⟨hp.chk (by omega) h0 h1, hp.cn⟩
theorem PlnL.small (h : PlnL lo hi A) (hA : A.length ≤ 1000) (h0 : 0 ≤ lo) (h1 : hi ≤ 100) : ∀ r ∈ A, r.Small := fun r hr => by
  obtain ⟨k, hk, hp⟩ := h.mem hr
  exact hp.small (by omega) (by omega) (by omega) (by omega)
theorem PlnL.give (h : PlnL lo hi A) : ∀ r ∈ A, r.give.size = 0 := fun r hr => by
  obtain ⟨k, hk, hp⟩ := h.mem hr
  exact hp.none
theorem PlnL.ord (h : PlnL lo hi A) (h0 : 0 ≤ lo) (h1 : hi ≤ 100) (hO : ActOrd A O) : IsOrd O A := hO.whole (h.right h0 h1) h.nums
theorem pln_more {lo' hi' : Int} (h : PlnL lo hi A) (hA : A.length ≤ 12) (hr : Pln 100 lo' hi' r) : (A ++ [r]).Pairwise fun a b => numR a ≠ numR b := by
  rw [List.pairwise_append]
  refine ⟨h.nums, List.pairwise_singleton _ _, fun a ha b hb e => ?_⟩
  rw [List.mem_singleton] at hb
  subst hb
  obtain ⟨k, hk, hp⟩ := h.mem ha
  have := congrArg Prod.snd e
  simp only [numR] at this
  have h1 := hp.sq
  have h2 := hr.sq
  omega
theorem pln_right {lo' hi' : Int} (h : PlnL lo hi A) (h0 : 0 ≤ lo) (h1 : hi ≤ 100) (hr : Pln 100 lo' hi' r) (h0' : 0 ≤ lo') (h1' : hi' ≤ 100) : ∀ x ∈ A ++ [r], chkR x = 0 ∧ x.cancel = false := fun x hx => by
  rw [List.mem_append, List.mem_singleton] at hx
  rcases hx with hx | rfl
  · exact h.right h0 h1 x hx
  · exact ⟨hr.chk (by omega) h0' h1', hr.cn⟩
theorem pln_fits {lo' hi' : Int} (h : PlnL lo hi A) (hA : A.length ≤ 12) (h0 : 0 ≤ lo) (h1 : hi ≤ 100) (hr : Pln 100 lo' hi' r) (h0' : 0 ≤ lo') (h1' : hi' ≤ 100) : ∀ x ∈ A ++ [r], x.fits := fun x hx => by
  rw [List.mem_append, List.mem_singleton] at hx
  rcases hx with hx | rfl
  · exact (h.small (by omega) h0 h1 x hx).fits
  · exact (hr.small (by omega) (by omega) (by omega) (by omega)).fits
/-- With a last one. -/
theorem again_last (h : PlnL 1 4 A) (hA : A.length ≤ 12) (hO : IsOrd O A) (hr : Pln 100 0 0 r) : Again (O ++ [r]) (A ++ [r]) where
  len := by rw [List.length_append, List.length_singleton]; omega
  fits := pln_fits h hA (by omega) (by omega) hr (by omega) (by omega)
  few M hM := by
    have := actR_len_le hM
    rw [List.length_append, List.length_singleton] at this
    omega
  ord O' hO' := isOrd_last hO (hO'.whole (pln_right h (by omega) (by omega) hr (by omega) (by omega)) (pln_more h hA hr)) fun x hx => by
    obtain ⟨k, hk, hp⟩ := h.mem hx
    refine cmpB_prio ?_
    have h1 := hp.p0
    have h2 := hr.p1
    omega
/-- With a first one. -/
theorem again_first (h : PlnL 1 4 A) (hA : A.length ≤ 12) (hO : IsOrd O A) (hr : Pln 100 100 100 r) : Again (r :: O) (A ++ [r]) where
  len := by rw [List.length_append, List.length_singleton]; omega
  fits := pln_fits h hA (by omega) (by omega) hr (by omega) (by omega)
  few M hM := by
    have := actR_len_le hM
    rw [List.length_append, List.length_singleton] at this
    omega
  ord O' hO' := isOrd_first hO (hO'.whole (pln_right h (by omega) (by omega) hr (by omega) (by omega)) (pln_more h hA hr)) fun x hx => by
    obtain ⟨k, hk, hp⟩ := h.mem hx
    refine cmpB_prio ?_
    have h1 := hp.p1
    have h2 := hr.p0
    omega
theorem again_all (h : PlnL 1 4 A) (hA : A.length ≤ 12) (hO : ActOrd A O) : Again O A where
  len := by omega
  fits r hr := (h.small (by omega) (by omega) (by omega) r hr).fits
  few M hM := by
    have := actR_len_le hM
    omega
  ord _O' hO' := (h.ord (by omega) (by omega) hO').same (h.ord (by omega) (by omega) hO) fun _ => Iff.rfl
end
section
variable {L : List Off} {M : List Seat} {most : Int} {A O : List Req} {r : Req} {s : Seat}
/-- A seat that waits does not fit: with it, the seats are not permitted. -/
theorem wait_bad (hc : Calm L) (h : PlnL 1 4 A) (hA : A.length ≤ 12) (hO : IsOrd O A) (hs : s ∈ (dealP L M most O).waits) : ¬ checkP L M most ((dealP L M most O).seats ++ [s]) ((dealP L M most O).seats ++ [s]).length = 0 := by
  rw [checkP_ok, okS_snoc]
  rintro ⟨_, h2⟩
  have lO := hO.1.length_eq
  exact waits_unfit hc O (fun r hr => h.give r (hO.1.mem_iff.1 hr)) (by omega) hs h2
theorem last_seats (hr : r.give.size = 0) : (dealP L M most (O ++ [r])).seats.take (dealP L M most O).seats.length = (dealP L M most O).seats ∧ (dealP L M most O).seats.length ≤ (dealP L M most (O ++ [r])).seats.length ∧ (dealP L M most (O ++ [r])).seats.length ≤ (dealP L M most O).seats.length + 1 := by
  rcases deal_last (L := L) (met := M) (most := most) (O := O) hr with e | e <;> rw [e]
  · exact ⟨List.take_length, Nat.le_refl _, Nat.le_succ _⟩
  · refine ⟨by simp, by simp, by simp⟩
theorem first_seat (hc : Calm L) (h : PlnL 1 4 A) (hA : A.length ≤ 12) (hO : IsOrd O A) (hr : Pln 100 100 100 r) : ((dealP L M most (r :: O)).seats[0]? = some (seatOf r)) ↔ fitsP L M most [] (seatOf r) = 0 := by
  rw [← List.head?_eq_getElem?]
  have lO := hO.1.length_eq
  refine deal_first hc (fun x hx => ?_) (by omega)
  rcases List.mem_cons.1 hx with rfl | hx
  · exact hr.none
  · exact h.give x (hO.1.mem_iff.1 hx)
theorem fs_one (x : Seat) : checkP L M most [x] 1 = fitsP L M most [] x := by
  show (if (0 : Int) = 0 then fitsP L M most [] x else 0) = _
  simp
end
end Go.Proofs.YtjcogpalmgcpbaaGreat
