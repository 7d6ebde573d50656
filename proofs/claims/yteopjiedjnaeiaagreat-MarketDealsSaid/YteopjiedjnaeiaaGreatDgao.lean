/- The reference's Active, walked. -/
import Derived.Test.YteopjiedjnaeiaaGreatDgam
import Derived.Test.YteopjiedjnaeiaaGreatDgan
namespace Go.Proofs.YteopjiedjnaeiaaGreat
open Go Go.Proofs Go.RowKit Go.Sort Go.Lib
attribute [local go_sem] Req.cells

/-- The place of the first right one. -/
def BestIs (M G : List Req) (bz : Int) : Prop := (firstOk G = none ∧ bz = -1) ∨ ∃ (j : Nat) (z : Req), firstOk G = some z ∧ bz = (j : Int) ∧ M[j]? = some z
theorem best_snoc {M G : List Req} {e : Nat} {y : Req} {bz : Int} (hy : M[e]? = some y) (h : BestIs M G bz) : BestIs M (G ++ [y]) (if bz < 0 ∧ chkR y = 0 then (e : Int) else bz) := by
  unfold BestIs at *
  rw [firstOk_snoc]
  rcases h with ⟨h1, rfl⟩ | ⟨j, z, h1, rfl, h2⟩
  · rw [h1]
    by_cases hc : chkR y = 0
    · right; exact ⟨e, y, by simp [hc], by simp [hc], hy⟩
    · left; exact ⟨by simp [hc], by simp [hc]⟩
  · right
    exact ⟨j, z, by rw [h1]; rfl, by rw [if_neg (by omega)], h2⟩
theorem any_snoc (G : List Req) (y : Req) : (G ++ [y]).any (·.cancel) = (G.any (·.cancel) || y.cancel) := by simp
set_option maxHeartbeats 16000000 in
set_option maxRecDepth 100000 in
theorem refActive_any (v : Value) (L : List Req) (w : World) (hv : ReqsIn w v L) (hl : L.length ≤ 900) (hs : ∀ r ∈ L, r.fits) :
    Calls Tryz.prog 29 #[v] w fun x w' => ∃ v' M, x = .returned v' ∧ IsSet M L ∧ ReqsIn w' v' (actR M) ∧ RowKit.Below w.heap.size w w' := by
  have cj := refJoin_any v (.slice none 0 0) L [] w hv (.inl ⟨rfl, rfl⟩) (by simpa using hl)
  rw [List.append_nil] at cj
  have HS := Lib.hid hs
  clear hs hv
  go_enter Tryz.func29, Tryz.ntmps29
  go_wp2_with fail
  refine cj.mono ?_
  rintro _ w1 ⟨vM, M, rfl, hM, hr, hb1⟩
  have HM := Lib.hid hM
  have hml := put_len hM
  have HR := Lib.hid hr
  have HSM := Lib.hid (fun r hr => HS.out r ((hM.2 r).1 hr) : ∀ r ∈ M, r.fits)
  obtain ⟨sM, cM, rfl, _⟩ := hr.form
  clear cj hM hr
  go_wp2_with fail
  go_loopw [4, 5] (fun u i wr => ∃ k : Nat, k ≤ M.length ∧ i = .int .i64 k ∧ Hid (CutAt M k) ∧ wr.ownsRow w1.heap.size 39 9 u (keepR (canK M) (M.take k)).length (reqCells (keepR (canK M) (M.take k))) ∧ RowKit.Below w1.heap.size w1 wr) (fun _ i _ => M.length - (RowKit.intOf i).toNat)
  case atStart => exact ⟨0, Nat.zero_le _, rfl, Lib.hid (cut_zero M), World.ownsRow_nil _ _ _ _, Below.refl _ _⟩
  case round =>
    obtain ⟨k, hk, rfl, HC, hown, hbr⟩ := hrel
    by_cases hlt : k < M.length
    · obtain ⟨b, o, c', hv, _, hgl, hat⟩ := HR.out.at_ (by omega)
      have e1 := (Value.slice.inj hv).1
      subst e1
      have hx := List.getElem?_eq_getElem hlt
      generalize M[k] = x at hx
      have HX := Lib.hid hx
      have HAT := Lib.hid hat
      clear hv hat hx
      go_wp2_with fail
      obtain ⟨wo, rfl⟩ : ∃ wo, wo = wr := ⟨_, rfl⟩
      go_loopw [6, 7, 8] (fun e bv c wr => ∃ (en : Nat) (cb : Bool) (bz : Int), k ≤ en ∧ en ≤ M.length ∧ e = .int .i64 en ∧ bv = .int .i64 bz ∧ c = .bool cb ∧ Hid (∀ z ∈ (M.take en).drop k, numR z = numR x) ∧ Hid (cb = ((M.take en).drop k).any (·.cancel)) ∧ Hid (BestIs M ((M.take en).drop k) bz) ∧ RowKit.Below wo.heap.size wo wr) (fun e _ _ _ => M.length - (RowKit.intOf e).toNat)
      case atStart => exact ⟨k, false, -1, Nat.le_refl _, hk, rfl, rfl, rfl, Lib.hid (by simp), Lib.hid (by simp), Lib.hid (.inl ⟨by simp [firstOk], rfl⟩), Below.refl _ _⟩
      case round =>
        obtain ⟨en, cb, bz, hke, hen, rfl, rfl, rfl, HG, HB, HZ, hb2⟩ := hrel
        by_cases hel0 : en < M.length
        · have hy := List.getElem?_eq_getElem hel0
          generalize M[en] = y at hy
          have haty := (HAT.out en y hy).below (below_next hbr hb2) hgl
          have hatx := (HAT.out k x HX.out).below (below_next hbr hb2) hgl
          have cy0 : wr.cell? ⟨b, o + en * 9, none⟩ = some (.int .i64 y.server) := haty.cell 0 rfl
          have cy1 : wr.cell? ⟨b, o + en * 9 + 1, none⟩ = some (.int .i64 y.seq) := haty.cell 1 rfl
          have cy2 : wr.cell? ⟨b, o + en * 9 + 2, none⟩ = some (.bool y.cancel) := haty.cell 2 rfl
          have cx0 : wr.cell? ⟨b, o + k * 9, none⟩ = some (.int .i64 x.server) := hatx.cell 0 rfl
          have cx1 : wr.cell? ⟨b, o + k * 9 + 1, none⟩ = some (.int .i64 x.seq) := hatx.cell 1 rfl
          have hel : (en : Int) < (M.length : Int) := by omega
          have hkl2 : (k : Int) < (M.length : Int) := by omega
          have HY := Lib.hid hy
          clear hy
          by_cases e0 : y.server = x.server
          · by_cases e1 : y.seq = x.seq
            · have HNY : Hid (numR y = numR x) := Lib.hid (by simp [numR, e0, e1])
              have f0 : (y.server == x.server) = true := by simpa using e0
              have f1 : (y.seq == x.seq) = true := by simpa using e1
              clear e0 e1
              have HSEG := Lib.hid (seg_snoc (k := k) hke HY.out)
              have hsy := HSM.out y (List.mem_of_getElem? HY.out)
              have HBW : RowKit.Below wo.heap.size wo (wr.drewN 0) := hb2
              go_wp2_with fail
              go_quiet (fail)
              replace HBW : RowKit.Below wo.heap.size wo (wr.drewN nq) := hb2.trans ⟨rfl, rfl, rfl, Nat.le_refl _, fun _ _ => rfl⟩
              have haty2 : ReqAt (wr.drewN nq) b (o + en * 9) y := haty
              have cz2 : (wr.drewN nq).cell? ⟨b, o + en * 9 + 2, none⟩ = some (.bool y.cancel) := cy2
              clear cy0 cy1 cy2 cx0 cx1 hatx haty hb2
              generalize wr.drewN nq = w5 at HBW haty2 cz2 ⊢
              obtain ⟨y0, y1, y2, y3, y4, y5, y6, y7, y8⟩ := y
              simp only at f0 f1 cz2
              cases cb
              · cases y2
                · obtain ⟨hf, hz⟩ | ⟨j, z, hf, hz, hj⟩ := HZ.out
                  · have HZ0 : Hid (bz = -1) := Lib.hid hz
                    subst hz
                    have cc := fun w => rfCheck_any ⟨y0, y1, false, y3, y4, y5, y6, y7, y8⟩ hsy.2.1 hsy.2.2 w
                    have HCH : Hid (chkR ⟨y0, y1, false, y3, y4, y5, y6, y7, y8⟩ = chkR ⟨y0, y1, false, y3, y4, y5, y6, y7, y8⟩) := Lib.hid rfl
                    generalize hn : chkR ⟨y0, y1, false, y3, y4, y5, y6, y7, y8⟩ = n at cc
                    have HNN := Lib.hid hn
                    clear hn HCH
                    by_cases hn0 : n = 0
                    · have hn1 : (n == 0) = true := by simp [hn0]
                      have HN0 := Lib.hid hn0
                      clear hn0
                      go_wp2_with ((with_reducible refine wpList_load_g (op := ⟨some 60, _, _, _, _, _⟩) ?_ 39 (.tmp 59) ?_ b (o + en * 9) ?_ (Req.cells ⟨y0, y1, false, y3, y4, y5, y6, y7, y8⟩).toList _ ?_ Tryz.underlying39 ?_ ?_ ?_); rfl; rfl; rfl; exact haty2; rfl; kernel_rfl)
                      refine (cc _).mono ?_
                      rintro _ w6 ⟨rfl, hb⟩
                      replace HBW := below_next HBW hb
                      clear cc hb haty2 cz2
                      go_wp2_with fail
                      go_roundw
                      case rel => exact ⟨en + 1, _, _, by omega, by omega, by go_num, rfl, rfl, Lib.hid (by rw [HSEG.out]; intro z hz; rcases List.mem_append.1 hz with h | h; exact HG.out z h; obtain rfl := List.mem_singleton.1 h; exact HNY.out), Lib.hid (by rw [HSEG.out, any_snoc, ← HB.out]; simp), Lib.hid (by rw [HSEG.out]; have := best_snoc HY.out HZ.out; rw [if_pos ⟨by omega, HNN.out.trans HN0.out⟩] at this; exact this), HBW⟩
                      case measure => simp [RowKit.intOf]; omega
                    · have hn1 : (n == 0) = false := by simp [hn0]
                      have HN0 := Lib.hid hn0
                      clear hn0
                      go_wp2_with ((with_reducible refine wpList_load_g (op := ⟨some 60, _, _, _, _, _⟩) ?_ 39 (.tmp 59) ?_ b (o + en * 9) ?_ (Req.cells ⟨y0, y1, false, y3, y4, y5, y6, y7, y8⟩).toList _ ?_ Tryz.underlying39 ?_ ?_ ?_); rfl; rfl; rfl; exact haty2; rfl; kernel_rfl)
                      refine (cc _).mono ?_
                      rintro _ w6 ⟨rfl, hb⟩
                      replace HBW := below_next HBW hb
                      clear cc hb haty2 cz2
                      go_wp2_with fail
                      go_roundw
                      case rel => exact ⟨en + 1, _, _, by omega, by omega, by go_num, rfl, rfl, Lib.hid (by rw [HSEG.out]; intro z hz; rcases List.mem_append.1 hz with h | h; exact HG.out z h; obtain rfl := List.mem_singleton.1 h; exact HNY.out), Lib.hid (by rw [HSEG.out, any_snoc, ← HB.out]; simp), Lib.hid (by rw [HSEG.out]; have := best_snoc HY.out HZ.out; rw [if_neg (fun h => HN0.out (HNN.out.symm.trans h.2))] at this; exact this), HBW⟩
                      case measure => simp [RowKit.intOf]; omega
                  · subst hz
                    have hj0 : ¬ ((j : Int) < 0) := by omega
                    clear hj hf
                    go_wp2_with fail
                    go_roundw
                    case rel => exact ⟨en + 1, _, _, by omega, by omega, by go_num, rfl, rfl, Lib.hid (by rw [HSEG.out]; intro z hz; rcases List.mem_append.1 hz with h | h; exact HG.out z h; obtain rfl := List.mem_singleton.1 h; exact HNY.out), Lib.hid (by rw [HSEG.out, any_snoc, ← HB.out]; simp), Lib.hid (by rw [HSEG.out]; have := best_snoc HY.out HZ.out; rw [if_neg (fun h => absurd h.1 (by omega))] at this; exact this), HBW⟩
                    case measure => simp [RowKit.intOf]; omega
                · obtain ⟨hf, hz⟩ | ⟨j, z, hf, hz, hj⟩ := HZ.out
                  · have HZ0 : Hid (bz = -1) := Lib.hid hz
                    subst hz
                    have cc := fun w => rfCheck_any ⟨y0, y1, true, y3, y4, y5, y6, y7, y8⟩ hsy.2.1 hsy.2.2 w
                    have HCH : Hid (chkR ⟨y0, y1, true, y3, y4, y5, y6, y7, y8⟩ = chkR ⟨y0, y1, true, y3, y4, y5, y6, y7, y8⟩) := Lib.hid rfl
                    generalize hn : chkR ⟨y0, y1, true, y3, y4, y5, y6, y7, y8⟩ = n at cc
                    have HNN := Lib.hid hn
                    clear hn HCH
                    by_cases hn0 : n = 0
                    · have hn1 : (n == 0) = true := by simp [hn0]
                      have HN0 := Lib.hid hn0
                      clear hn0
                      go_wp2_with ((with_reducible refine wpList_load_g (op := ⟨some 60, _, _, _, _, _⟩) ?_ 39 (.tmp 59) ?_ b (o + en * 9) ?_ (Req.cells ⟨y0, y1, true, y3, y4, y5, y6, y7, y8⟩).toList _ ?_ Tryz.underlying39 ?_ ?_ ?_); rfl; rfl; rfl; exact haty2; rfl; kernel_rfl)
                      refine (cc _).mono ?_
                      rintro _ w6 ⟨rfl, hb⟩
                      replace HBW := below_next HBW hb
                      clear cc hb haty2 cz2
                      go_wp2_with fail
                      go_roundw
                      case rel => exact ⟨en + 1, _, _, by omega, by omega, by go_num, rfl, rfl, Lib.hid (by rw [HSEG.out]; intro z hz; rcases List.mem_append.1 hz with h | h; exact HG.out z h; obtain rfl := List.mem_singleton.1 h; exact HNY.out), Lib.hid (by rw [HSEG.out, any_snoc, ← HB.out]; simp), Lib.hid (by rw [HSEG.out]; have := best_snoc HY.out HZ.out; rw [if_pos ⟨by omega, HNN.out.trans HN0.out⟩] at this; exact this), HBW⟩
                      case measure => simp [RowKit.intOf]; omega
                    · have hn1 : (n == 0) = false := by simp [hn0]
                      have HN0 := Lib.hid hn0
                      clear hn0
                      go_wp2_with ((with_reducible refine wpList_load_g (op := ⟨some 60, _, _, _, _, _⟩) ?_ 39 (.tmp 59) ?_ b (o + en * 9) ?_ (Req.cells ⟨y0, y1, true, y3, y4, y5, y6, y7, y8⟩).toList _ ?_ Tryz.underlying39 ?_ ?_ ?_); rfl; rfl; rfl; exact haty2; rfl; kernel_rfl)
                      refine (cc _).mono ?_
                      rintro _ w6 ⟨rfl, hb⟩
                      replace HBW := below_next HBW hb
                      clear cc hb haty2 cz2
                      go_wp2_with fail
                      go_roundw
                      case rel => exact ⟨en + 1, _, _, by omega, by omega, by go_num, rfl, rfl, Lib.hid (by rw [HSEG.out]; intro z hz; rcases List.mem_append.1 hz with h | h; exact HG.out z h; obtain rfl := List.mem_singleton.1 h; exact HNY.out), Lib.hid (by rw [HSEG.out, any_snoc, ← HB.out]; simp), Lib.hid (by rw [HSEG.out]; have := best_snoc HY.out HZ.out; rw [if_neg (fun h => HN0.out (HNN.out.symm.trans h.2))] at this; exact this), HBW⟩
                      case measure => simp [RowKit.intOf]; omega
                  · subst hz
                    have hj0 : ¬ ((j : Int) < 0) := by omega
                    clear hj hf
                    go_wp2_with fail
                    go_roundw
                    case rel => exact ⟨en + 1, _, _, by omega, by omega, by go_num, rfl, rfl, Lib.hid (by rw [HSEG.out]; intro z hz; rcases List.mem_append.1 hz with h | h; exact HG.out z h; obtain rfl := List.mem_singleton.1 h; exact HNY.out), Lib.hid (by rw [HSEG.out, any_snoc, ← HB.out]; simp), Lib.hid (by rw [HSEG.out]; have := best_snoc HY.out HZ.out; rw [if_neg (fun h => absurd h.1 (by omega))] at this; exact this), HBW⟩
                    case measure => simp [RowKit.intOf]; omega
              · obtain ⟨hf, hz⟩ | ⟨j, z, hf, hz, hj⟩ := HZ.out
                · have HZ0 : Hid (bz = -1) := Lib.hid hz
                  subst hz
                  have cc := fun w => rfCheck_any ⟨y0, y1, y2, y3, y4, y5, y6, y7, y8⟩ hsy.2.1 hsy.2.2 w
                  have HCH : Hid (chkR ⟨y0, y1, y2, y3, y4, y5, y6, y7, y8⟩ = chkR ⟨y0, y1, y2, y3, y4, y5, y6, y7, y8⟩) := Lib.hid rfl
                  generalize hn : chkR ⟨y0, y1, y2, y3, y4, y5, y6, y7, y8⟩ = n at cc
                  have HNN := Lib.hid hn
                  clear hn HCH
                  by_cases hn0 : n = 0
                  · have hn1 : (n == 0) = true := by simp [hn0]
                    have HN0 := Lib.hid hn0
                    clear hn0
                    go_wp2_with ((with_reducible refine wpList_load_g (op := ⟨some 60, _, _, _, _, _⟩) ?_ 39 (.tmp 59) ?_ b (o + en * 9) ?_ (Req.cells ⟨y0, y1, y2, y3, y4, y5, y6, y7, y8⟩).toList _ ?_ Tryz.underlying39 ?_ ?_ ?_); rfl; rfl; rfl; exact haty2; rfl; kernel_rfl)
                    refine (cc _).mono ?_
                    rintro _ w6 ⟨rfl, hb⟩
                    replace HBW := below_next HBW hb
                    clear cc hb haty2 cz2
                    go_wp2_with fail
                    go_roundw
                    case rel => exact ⟨en + 1, _, _, by omega, by omega, by go_num, rfl, rfl, Lib.hid (by rw [HSEG.out]; intro z hz; rcases List.mem_append.1 hz with h | h; exact HG.out z h; obtain rfl := List.mem_singleton.1 h; exact HNY.out), Lib.hid (by rw [HSEG.out, any_snoc, ← HB.out]; simp), Lib.hid (by rw [HSEG.out]; have := best_snoc HY.out HZ.out; rw [if_pos ⟨by omega, HNN.out.trans HN0.out⟩] at this; exact this), HBW⟩
                    case measure => simp [RowKit.intOf]; omega
                  · have hn1 : (n == 0) = false := by simp [hn0]
                    have HN0 := Lib.hid hn0
                    clear hn0
                    go_wp2_with ((with_reducible refine wpList_load_g (op := ⟨some 60, _, _, _, _, _⟩) ?_ 39 (.tmp 59) ?_ b (o + en * 9) ?_ (Req.cells ⟨y0, y1, y2, y3, y4, y5, y6, y7, y8⟩).toList _ ?_ Tryz.underlying39 ?_ ?_ ?_); rfl; rfl; rfl; exact haty2; rfl; kernel_rfl)
                    refine (cc _).mono ?_
                    rintro _ w6 ⟨rfl, hb⟩
                    replace HBW := below_next HBW hb
                    clear cc hb haty2 cz2
                    go_wp2_with fail
                    go_roundw
                    case rel => exact ⟨en + 1, _, _, by omega, by omega, by go_num, rfl, rfl, Lib.hid (by rw [HSEG.out]; intro z hz; rcases List.mem_append.1 hz with h | h; exact HG.out z h; obtain rfl := List.mem_singleton.1 h; exact HNY.out), Lib.hid (by rw [HSEG.out, any_snoc, ← HB.out]; simp), Lib.hid (by rw [HSEG.out]; have := best_snoc HY.out HZ.out; rw [if_neg (fun h => HN0.out (HNN.out.symm.trans h.2))] at this; exact this), HBW⟩
                    case measure => simp [RowKit.intOf]; omega
                · subst hz
                  have hj0 : ¬ ((j : Int) < 0) := by omega
                  clear hj hf
                  go_wp2_with fail
                  go_roundw
                  case rel => exact ⟨en + 1, _, _, by omega, by omega, by go_num, rfl, rfl, Lib.hid (by rw [HSEG.out]; intro z hz; rcases List.mem_append.1 hz with h | h; exact HG.out z h; obtain rfl := List.mem_singleton.1 h; exact HNY.out), Lib.hid (by rw [HSEG.out, any_snoc, ← HB.out]; simp), Lib.hid (by rw [HSEG.out]; have := best_snoc HY.out HZ.out; rw [if_neg (fun h => absurd h.1 (by omega))] at this; exact this), HBW⟩
                  case measure => simp [RowKit.intOf]; omega
            · have f1 : (y.seq == x.seq) = false := by simpa using e1
              have HEND : Hid (∀ y, M[en]? = some y → numR y ≠ numR x) := Lib.hid (by intro y' hy' h; rw [HY.out] at hy'; obtain rfl := Option.some.inj hy'; simp only [numR, Prod.mk.injEq] at h; exact e1 h.2)
              have f0 : (y.server == x.server) = true := by simpa using e0
              clear e0 e1
              go_wp2_with fail
              go_quiet (fail)
              clear cy0 cy1 cy2 cx0 cx1 hatx haty
              have hkn : k < en := by
                rcases Nat.lt_or_ge k en with h | h
                · exact h
                · obtain rfl : en = k := by omega
                  exact absurd rfl (HEND.out x HX.out)
              have hcut := cut_next HM.out hkn HC.out HG.out HEND.out
              have hstep := group_step HM.out hkn HC.out hcut HG.out ⟨x, by
                have := List.mem_of_getElem? (l := (M.take en).drop k) (i := 0) (a := x) (by rw [List.getElem?_drop, Nat.add_zero, List.getElem?_take, if_pos hkn]; exact HX.out)
                exact this⟩
              rw [← HB.out] at hstep
              have hB3 : RowKit.Below wo.heap.size wo (wr.drewN nq) := hb2.trans ⟨rfl, rfl, rfl, Nat.le_refl _, fun _ _ => rfl⟩
              have hB4 := below_next hbr hB3
              have hown4 := hown.kept (below_grows (row := none) hB3) (by cases u4.ownBlock <;> simp)
              have HCUT := Lib.hid hcut
              have HST := Lib.hid hstep
              clear hcut hstep hown hb2 hB3 hbr
              generalize wr.drewN nq = w5 at hown4 hB4 ⊢
              cases cb
              · obtain ⟨hf, hz⟩ | ⟨j, z, hf, hz, hj⟩ := HZ.out
                · subst hz
                  have HST2 : Hid (keepR (canK M) (M.take en) = keepR (canK M) (M.take k)) := Lib.hid (by rw [HST.out]; simp [hf])
                  clear hf
                  go_wp2_with fail
                  go_roundw
                  case rel => exact ⟨en, by omega, rfl, HCUT, by rw [HST2.out]; exact hown4, hB4⟩
                  case measure => simp [RowKit.intOf]; omega
                · subst hz
                  have HST2 : Hid (keepR (canK M) (M.take en) = keepR (canK M) (M.take k) ++ [z]) := Lib.hid (by rw [HST.out]; simp [hf])
                  have hjl : j < M.length := (List.getElem?_eq_some_iff.1 hj).1
                  have hjl2 : (j : Int) < (M.length : Int) := by omega
                  have hatz := (HAT.out j z hj).below hB4 hgl
                  have hkl : (keepR (canK M) (M.take k)).length ≤ 900 := Nat.le_trans (keepR_len _ _) (by simp; omega)
                  clear hf hj
                  go_wp2_with (first
                    | ((with_reducible refine wpList_load_mid (op := ⟨some 77, _, _, _, _, _⟩) ?_ 39 (.tmp 76) ?_ b (o + j * 9) ?_ (Req.cells z).toList _ ?_ Tryz.underlying39 ?_ ?_ ?_); rfl; rfl; rfl; exact hatz; rfl; kernel_rfl)
                    | (at_builtin; refine wpList_append_reqs rfl (.tmp 73) (.tmp 78) rfl w1.heap.size _ _ (keepR (canK M) (M.take k)) [z] rfl rfl (hown4.alloc _) (reqs_one_at _ z _ rfl) (by simp; omega) (by have := hB4.size; simp; omega) ?_; intro v6 w6 hown6 hg6))
                  have hB6 : RowKit.Below w1.heap.size w1 w6 := (hB4.alloc hB4.size _).grown hg6 (by have := hB4.size; simp; omega) (fun q hq => (hown4.lt q hq).1)
                  go_wp2_with fail
                  go_roundw
                  case rel => exact ⟨en, by omega, rfl, HCUT, by rw [HST2.out]; exact hown6, hB6⟩
                  case measure => simp [RowKit.intOf]; omega
              · have hf : True := trivial
                have HST2 : Hid (keepR (canK M) (M.take en) = keepR (canK M) (M.take k)) := Lib.hid (by rw [HST.out]; simp)
                obtain ⟨_, hz⟩ | ⟨j, z, _, hz, _⟩ := HZ.out
                · subst hz
                  go_wp2_with fail
                  go_roundw
                  case rel => exact ⟨en, by omega, rfl, HCUT, by rw [HST2.out]; exact hown4, hB4⟩
                  case measure => simp [RowKit.intOf]; omega
                · subst hz
                  go_wp2_with fail
                  go_roundw
                  case rel => exact ⟨en, by omega, rfl, HCUT, by rw [HST2.out]; exact hown4, hB4⟩
                  case measure => simp [RowKit.intOf]; omega
          · have f0 : (y.server == x.server) = false := by simpa using e0
            have HEND : Hid (∀ y, M[en]? = some y → numR y ≠ numR x) := Lib.hid (by intro y' hy' h; rw [HY.out] at hy'; obtain rfl := Option.some.inj hy'; simp only [numR, Prod.mk.injEq] at h; exact e0 h.1)
            go_wp2_with fail
            go_quiet (fail)
            clear cy0 cy1 cy2 cx0 cx1 hatx haty
            have hkn : k < en := by
              rcases Nat.lt_or_ge k en with h | h
              · exact h
              · obtain rfl : en = k := by omega
                exact absurd rfl (HEND.out x HX.out)
            have hcut := cut_next HM.out hkn HC.out HG.out HEND.out
            have hstep := group_step HM.out hkn HC.out hcut HG.out ⟨x, by
              have := List.mem_of_getElem? (l := (M.take en).drop k) (i := 0) (a := x) (by rw [List.getElem?_drop, Nat.add_zero, List.getElem?_take, if_pos hkn]; exact HX.out)
              exact this⟩
            rw [← HB.out] at hstep
            have hB3 : RowKit.Below wo.heap.size wo (wr.drewN nq) := hb2.trans ⟨rfl, rfl, rfl, Nat.le_refl _, fun _ _ => rfl⟩
            have hB4 := below_next hbr hB3
            have hown4 := hown.kept (below_grows (row := none) hB3) (by cases u4.ownBlock <;> simp)
            have HCUT := Lib.hid hcut
            have HST := Lib.hid hstep
            clear hcut hstep hown hb2 hB3 hbr
            generalize wr.drewN nq = w5 at hown4 hB4 ⊢
            cases cb
            · obtain ⟨hf, hz⟩ | ⟨j, z, hf, hz, hj⟩ := HZ.out
              · subst hz
                have HST2 : Hid (keepR (canK M) (M.take en) = keepR (canK M) (M.take k)) := Lib.hid (by rw [HST.out]; simp [hf])
                clear hf
                go_wp2_with fail
                go_roundw
                case rel => exact ⟨en, by omega, rfl, HCUT, by rw [HST2.out]; exact hown4, hB4⟩
                case measure => simp [RowKit.intOf]; omega
              · subst hz
                have HST2 : Hid (keepR (canK M) (M.take en) = keepR (canK M) (M.take k) ++ [z]) := Lib.hid (by rw [HST.out]; simp [hf])
                have hjl : j < M.length := (List.getElem?_eq_some_iff.1 hj).1
                have hjl2 : (j : Int) < (M.length : Int) := by omega
                have hatz := (HAT.out j z hj).below hB4 hgl
                have hkl : (keepR (canK M) (M.take k)).length ≤ 900 := Nat.le_trans (keepR_len _ _) (by simp; omega)
                clear hf hj
                go_wp2_with (first
                  | ((with_reducible refine wpList_load_mid (op := ⟨some 77, _, _, _, _, _⟩) ?_ 39 (.tmp 76) ?_ b (o + j * 9) ?_ (Req.cells z).toList _ ?_ Tryz.underlying39 ?_ ?_ ?_); rfl; rfl; rfl; exact hatz; rfl; kernel_rfl)
                  | (at_builtin; refine wpList_append_reqs rfl (.tmp 73) (.tmp 78) rfl w1.heap.size _ _ (keepR (canK M) (M.take k)) [z] rfl rfl (hown4.alloc _) (reqs_one_at _ z _ rfl) (by simp; omega) (by have := hB4.size; simp; omega) ?_; intro v6 w6 hown6 hg6))
                have hB6 : RowKit.Below w1.heap.size w1 w6 := (hB4.alloc hB4.size _).grown hg6 (by have := hB4.size; simp; omega) (fun q hq => (hown4.lt q hq).1)
                go_wp2_with fail
                go_roundw
                case rel => exact ⟨en, by omega, rfl, HCUT, by rw [HST2.out]; exact hown6, hB6⟩
                case measure => simp [RowKit.intOf]; omega
            · have hf : True := trivial
              have HST2 : Hid (keepR (canK M) (M.take en) = keepR (canK M) (M.take k)) := Lib.hid (by rw [HST.out]; simp)
              obtain ⟨_, hz⟩ | ⟨j, z, _, hz, _⟩ := HZ.out
              · subst hz
                go_wp2_with fail
                go_roundw
                case rel => exact ⟨en, by omega, rfl, HCUT, by rw [HST2.out]; exact hown4, hB4⟩
                case measure => simp [RowKit.intOf]; omega
              · subst hz
                go_wp2_with fail
                go_roundw
                case rel => exact ⟨en, by omega, rfl, HCUT, by rw [HST2.out]; exact hown4, hB4⟩
                case measure => simp [RowKit.intOf]; omega
        · have hel : ¬ ((en : Int) < (M.length : Int)) := by omega
          have HEND : Hid (∀ y, M[en]? = some y → numR y ≠ numR x) := Lib.hid (by intro y hy; rw [List.getElem?_eq_none (by omega)] at hy; cases hy)
          go_wp2_with fail
          go_quiet (fail)
          have hkn : k < en := by
            rcases Nat.lt_or_ge k en with h | h
            · exact h
            · obtain rfl : en = k := by omega
              exact absurd rfl (HEND.out x HX.out)
          have hcut := cut_next HM.out hkn HC.out HG.out HEND.out
          have hstep := group_step HM.out hkn HC.out hcut HG.out ⟨x, by
            have := List.mem_of_getElem? (l := (M.take en).drop k) (i := 0) (a := x) (by rw [List.getElem?_drop, Nat.add_zero, List.getElem?_take, if_pos hkn]; exact HX.out)
            exact this⟩
          rw [← HB.out] at hstep
          have hB3 : RowKit.Below wo.heap.size wo (wr.drewN nq) := hb2.trans ⟨rfl, rfl, rfl, Nat.le_refl _, fun _ _ => rfl⟩
          have hB4 := below_next hbr hB3
          have hown4 := hown.kept (below_grows (row := none) hB3) (by cases u4.ownBlock <;> simp)
          have HCUT := Lib.hid hcut
          have HST := Lib.hid hstep
          clear hcut hstep hown hb2 hB3 hbr
          generalize wr.drewN nq = w5 at hown4 hB4 ⊢
          cases cb
          · obtain ⟨hf, hz⟩ | ⟨j, z, hf, hz, hj⟩ := HZ.out
            · subst hz
              have HST2 : Hid (keepR (canK M) (M.take en) = keepR (canK M) (M.take k)) := Lib.hid (by rw [HST.out]; simp [hf])
              clear hf
              go_wp2_with fail
              go_roundw
              case rel => exact ⟨en, by omega, rfl, HCUT, by rw [HST2.out]; exact hown4, hB4⟩
              case measure => simp [RowKit.intOf]; omega
            · subst hz
              have HST2 : Hid (keepR (canK M) (M.take en) = keepR (canK M) (M.take k) ++ [z]) := Lib.hid (by rw [HST.out]; simp [hf])
              have hjl : j < M.length := (List.getElem?_eq_some_iff.1 hj).1
              have hjl2 : (j : Int) < (M.length : Int) := by omega
              have hatz := (HAT.out j z hj).below hB4 hgl
              have hkl : (keepR (canK M) (M.take k)).length ≤ 900 := Nat.le_trans (keepR_len _ _) (by simp; omega)
              clear hf hj
              go_wp2_with (first
                | ((with_reducible refine wpList_load_mid (op := ⟨some 77, _, _, _, _, _⟩) ?_ 39 (.tmp 76) ?_ b (o + j * 9) ?_ (Req.cells z).toList _ ?_ Tryz.underlying39 ?_ ?_ ?_); rfl; rfl; rfl; exact hatz; rfl; kernel_rfl)
                | (at_builtin; refine wpList_append_reqs rfl (.tmp 73) (.tmp 78) rfl w1.heap.size _ _ (keepR (canK M) (M.take k)) [z] rfl rfl (hown4.alloc _) (reqs_one_at _ z _ rfl) (by simp; omega) (by have := hB4.size; simp; omega) ?_; intro v6 w6 hown6 hg6))
              have hB6 : RowKit.Below w1.heap.size w1 w6 := (hB4.alloc hB4.size _).grown hg6 (by have := hB4.size; simp; omega) (fun q hq => (hown4.lt q hq).1)
              go_wp2_with fail
              go_roundw
              case rel => exact ⟨en, by omega, rfl, HCUT, by rw [HST2.out]; exact hown6, hB6⟩
              case measure => simp [RowKit.intOf]; omega
          · have hf : True := trivial
            have HST2 : Hid (keepR (canK M) (M.take en) = keepR (canK M) (M.take k)) := Lib.hid (by rw [HST.out]; simp)
            obtain ⟨_, hz⟩ | ⟨j, z, _, hz, _⟩ := HZ.out
            · subst hz
              go_wp2_with fail
              go_roundw
              case rel => exact ⟨en, by omega, rfl, HCUT, by rw [HST2.out]; exact hown4, hB4⟩
              case measure => simp [RowKit.intOf]; omega
            · subst hz
              go_wp2_with fail
              go_roundw
              case rel => exact ⟨en, by omega, rfl, HCUT, by rw [HST2.out]; exact hown4, hB4⟩
              case measure => simp [RowKit.intOf]; omega
    · obtain rfl : k = M.length := by omega
      go_wp2_with fail
      go_ret
      refine ⟨_, M, rfl, HM.out, ?_, below_next hb1 hbr⟩
      have h := reqsIn_own hown
      rw [List.take_length] at h
      exact h
end Go.Proofs.YteopjiedjnaeiaaGreat
