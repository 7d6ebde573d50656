/- The reference's Same: two lists are equal. -/
import Derived.Test.YtanmmooflhomoaaGreatDoorRqAc2
namespace Go.Proofs.YtanmmooflhomoaaGreatDoor
open Go Go.Proofs Go.RowKit Go.Maps Go.Sort Go.Lib
attribute [local go_sem] Req.cells
attribute [local go_sem ↓] req_eql_cells req_neq_cells

set_option maxHeartbeats 4000000 in
set_option maxRecDepth 100000 in
theorem same_any (a b : Value) (A B : List Req) (w : World) (ha : ReqsIn w a A) (hb : ReqsIn w b B) (hl : A.length ≤ 1000000) :
    Calls Tryz.prog 8 #[a, b] w fun e w' => ∃ t : Bool, e = .returned (.bool t) ∧ (t = true ↔ A = B) ∧ RowKit.Below w.heap.size w w' := by
  obtain ⟨ba, ca, rfl, hca⟩ := ha.form
  obtain ⟨bb, cb, rfl, hcb⟩ := hb.form
  have HA := Lib.hid ha
  have HB := Lib.hid hb
  clear ha hb
  by_cases hlen : A.length = B.length
  · have HL := Lib.hid hlen
    rw [← hlen] at HB ⊢
    clear hlen hcb
    go_enter Tryz.func8, Tryz.ntmps8
    go_wp2_with fail
    go_loopw [5] (fun i wr => ∃ k : Nat, k ≤ A.length ∧ i = .int .i64 k ∧ Hid (A.take k = B.take k) ∧ RowKit.Below w.heap.size w wr) (fun i _ => A.length - (RowKit.intOf i).toNat)
    case atStart => exact ⟨0, Nat.zero_le _, rfl, Lib.hid rfl, Below.refl _ _⟩
    case round =>
      obtain ⟨k, hk, rfl, HE, hB⟩ := hrel
      by_cases hlt : k < A.length
      · obtain ⟨g, o, c, hv, _, hgl, hat⟩ := HA.out.at_ (by omega)
        obtain ⟨g', o', c', hv', _, hgl', hat'⟩ := HB.out.at_ (by have := HL.out; omega)
        have hx := List.getElem?_eq_getElem hlt
        have hy := List.getElem?_eq_getElem (show k < B.length by have := HL.out; omega)
        generalize A[k] = x at hx
        generalize B[k] = y at hy
        have hatx := (hat k x hx).below hB hgl
        have haty := (hat' k y hy).below hB hgl'
        have e1 := (Value.slice.inj hv).1
        have e1' := (Value.slice.inj hv').1
        subst e1 e1'
        clear hv hv'
        have HX := Lib.hid hx
        have HY := Lib.hid hy
        clear hx hy hat hat'
        have HQ : Hid (eqReq x y = true ↔ x = y) := Lib.hid (eqReq_iff x y)
        have cx0 : wr.cell? ⟨g, o + k * 9, none⟩ = some (.int .i64 x.server) := hatx.cell 0 rfl
        have cx1 : wr.cell? ⟨g, o + k * 9 + 1, none⟩ = some (.int .i64 x.seq) := hatx.cell 1 rfl
        have cx2 : wr.cell? ⟨g, o + k * 9 + 2, none⟩ = some (.bool x.cancel) := hatx.cell 2 rfl
        have cx3 : wr.cell? ⟨g, o + k * 9 + 3, none⟩ = some (.int .i64 x.student) := hatx.cell 3 rfl
        have cx4 : wr.cell? ⟨g, o + k * 9 + 4, none⟩ = some (.int .i64 x.term) := hatx.cell 4 rfl
        have cx5 : wr.cell? ⟨g, o + k * 9 + 5, none⟩ = some (.string x.code) := hatx.cell 5 rfl
        have cx6 : wr.cell? ⟨g, o + k * 9 + 6, none⟩ = some (.string x.give) := hatx.cell 6 rfl
        have cx7 : wr.cell? ⟨g, o + k * 9 + 7, none⟩ = some (.int .i64 x.priority) := hatx.cell 7 rfl
        have cx8 : wr.cell? ⟨g, o + k * 9 + 8, none⟩ = some (.int .i64 x.day) := hatx.cell 8 rfl
        have cy0 : wr.cell? ⟨g', o' + k * 9, none⟩ = some (.int .i64 y.server) := haty.cell 0 rfl
        have cy1 : wr.cell? ⟨g', o' + k * 9 + 1, none⟩ = some (.int .i64 y.seq) := haty.cell 1 rfl
        have cy2 : wr.cell? ⟨g', o' + k * 9 + 2, none⟩ = some (.bool y.cancel) := haty.cell 2 rfl
        have cy3 : wr.cell? ⟨g', o' + k * 9 + 3, none⟩ = some (.int .i64 y.student) := haty.cell 3 rfl
        have cy4 : wr.cell? ⟨g', o' + k * 9 + 4, none⟩ = some (.int .i64 y.term) := haty.cell 4 rfl
        have cy5 : wr.cell? ⟨g', o' + k * 9 + 5, none⟩ = some (.string y.code) := haty.cell 5 rfl
        have cy6 : wr.cell? ⟨g', o' + k * 9 + 6, none⟩ = some (.string y.give) := haty.cell 6 rfl
        have cy7 : wr.cell? ⟨g', o' + k * 9 + 7, none⟩ = some (.int .i64 y.priority) := haty.cell 7 rfl
        have cy8 : wr.cell? ⟨g', o' + k * 9 + 8, none⟩ = some (.int .i64 y.day) := haty.cell 8 rfl
        go_wp2_with fail
        go_quiet (fail)
        change Hid (eqReq ⟨x.server, x.seq, x.cancel, x.student, x.term, x.code, x.give, x.priority, x.day⟩ ⟨y.server, y.seq, y.cancel, y.student, y.term, y.code, y.give, y.priority, y.day⟩ = true ↔ x = y) at HQ
        generalize eqReq ⟨x.server, x.seq, x.cancel, x.student, x.term, x.code, x.give, x.priority, x.day⟩ ⟨y.server, y.seq, y.cancel, y.student, y.term, y.code, y.give, y.priority, y.day⟩ = t at HQ ⊢
        have hB2 : RowKit.Below w.heap.size w (wr.drewN nq) := hB.trans ⟨rfl, rfl, rfl, Nat.le_refl _, fun _ _ => rfl⟩
        cases t
        · have HN : Hid (A ≠ B) := Lib.hid fun e => by
            have h1 := HX.out
            rw [e, HY.out] at h1
            have := HQ.out.2 (Option.some.inj h1).symm
            cases this
          go_wp2_with fail
          go_ret
          exact ⟨false, rfl, ⟨fun h => (by cases h), fun h => absurd h HN.out⟩, hB2⟩
        · have HE' : Hid (A.take (k + 1) = B.take (k + 1)) := Lib.hid (by rw [take_snoc HX.out, take_snoc HY.out, HE.out, HQ.out.1 rfl])
          go_wp2_with fail
          go_roundw
          case rel => exact ⟨k + 1, by omega, by go_num, HE', hB2⟩
          case measure => simp [RowKit.intOf]; omega
      · obtain rfl : k = A.length := by omega
        go_wp2_with fail
        go_ret
        exact ⟨true, rfl, (by have h := HE.out; rw [List.take_length] at h; rw [HL.out, List.take_length] at h; simp [h]), hB⟩
  · have hne : ((A.length : Int) != (B.length : Int)) = true := by rw [bne_iff_ne]; omega
    go_enter Tryz.func8, Tryz.ntmps8
    go_wp2_with fail
    go_ret
    exact ⟨false, rfl, ⟨fun h => (by cases h), fun h => absurd (congrArg List.length h) hlen⟩, Below.refl _ _⟩
end Go.Proofs.YtanmmooflhomoaaGreatDoor
