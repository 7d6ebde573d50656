/- The law RequestJoins, walked: it returns true. -/
import Derived.Test.YtanmmooflhomoaaGreatDoorRqJoP
import Derived.Deep.DeepCutAuto
namespace Go.Proofs.YtanmmooflhomoaaGreatDoor
open Go Go.Proofs Go.RowKit Go.Sort Go.Lib
attribute [local go_sem] Req.cells

theorem RawIn.below {w w' : World} {v : Value} {L : List Req} (h : RawIn w v L) (hb : RowKit.Below w.heap.size w w') : RawIn w' v L := ⟨h.1, fun h0 => (h.2 h0).below hb⟩
set_option maxHeartbeats 16000000 in
set_option maxRecDepth 100000 in
theorem joins_law (A0 A1 A2 : Option Addr) (n0 n1 n2 c0 c1 c2 : Nat) (q0 q1 q2 : Int) (vr : Value) (Lr : List Req) (w : World) (h0 : IntssIn w.heap.size A0 n0 w) (h1 : IntssIn w.heap.size A1 n1 w) (h2 : IntssIn w.heap.size A2 n2 w) (i0 : I64 q0) (i1 : I64 q1) (i2 : I64 q2) (hr : RawIn w vr Lr) (hrw : ∀ r ∈ Lr, r.wf) (ht : Tabs w) :
    Calls Tryz.prog 3 #[.agg #[.slice A0 n0 c0, .slice A1 n1 c1, .slice A2 n2 c2, .int .i64 q0, .int .i64 q1, .int .i64 q2], vr] w fun x w' => x = .returned (.bool true) ∧ RowKit.Below w.heap.size w w' := by
  have H0 := Lib.hid h0
  have H1 := Lib.hid h1
  have H2 := Lib.hid h2
  have HT := Lib.hid ht
  have HRW := Lib.hid hrw
  have HRR := Lib.hid hr
  clear h0 h1 h2 ht hrw hr
  have hb0 : RowKit.Below w.heap.size w (w.alloc (.cells #[.slice A0 n0 c0, .slice A1 n1 c1, .slice A2 n2 c2, .int .i64 q0, .int .i64 q1, .int .i64 q2] 25)) := below_alloc1 _ _
  have hc0 : ∀ j, (w.alloc (.cells #[.slice A0 n0 c0, .slice A1 n1 c1, .slice A2 n2 c2, .int .i64 q0, .int .i64 q1, .int .i64 q2] 25)).cell? ⟨w.heap.size, j, none⟩ = (#[.slice A0 n0 c0, .slice A1 n1 c1, .slice A2 n2 c2, .int .i64 q0, .int .i64 q1, .int .i64 q2] : Array Value)[j]? := fun j => Lib.cell_of_heap (heap_alloc_new w _) j
  have hl0 : w.heap.size < (w.alloc (.cells #[.slice A0 n0 c0, .slice A1 n1 c1, .slice A2 n2 c2, .int .i64 q0, .int .i64 q1, .int .i64 q2] 25)).heap.size := by simp
  go_enter Tryz.func3, Tryz.ntmps3
  go_wp2_with fail
  generalize w.alloc _ = w0 at hb0 hc0 hl0 ⊢
  refine (sanity_any _ (HT.out.below hb0)).mono ?_
  rintro _ w1 ⟨rfl, hb⟩
  have hc1 := old_keep hl0 hb hc0
  have hb1 := below_next hb0 hb
  clear hb hc0 hb0 hl0
  go_wp2_with fail
  refine (case_any A0 A1 A2 n0 n1 n2 c0 c1 c2 q0 q1 q2 w1 (H0.out.at_ hb1) (H1.out.at_ hb1) (H2.out.at_ hb1) i0 i1 i2).mono ?_
  rintro _ w2 ⟨va, vb, vd, A, B, D, rfl, hC⟩
  have ra := reqsIn_own hC.a
  have rb := hC.b
  have od := row_base hC.d hb1.size
  have hne := hC.ne
  have ld := hC.ld
  have SD := Lib.hid hC.sd
  have hb2 := below_next hb1 hC.below
  have la := hC.la
  have lb := hC.lb
  have SA := Lib.hid hC.sa
  have SB := Lib.hid hC.sb
  clear hC hc1 hb1
  have rr := HRR.out.below hb2
  obtain ⟨sa, ca, hva, _⟩ := ra.form
  obtain ⟨sb, cb, hvb, _⟩ := rb.form
  subst hva hvb
  go_wp2_with fail
  refine (cut_any vr Lr _ rr HRW.out).mono ?_
  rintro _ w5 ⟨v20, C, rfl, lc, sc, rc, hb⟩
  have od5 := rows_below od hb
  replace ra := ra.below hb
  replace rb := rb.below hb
  replace hb2 := below_next hb2 hb
  have hB5 := hb
  obtain ⟨D2, hD2⟩ : ∃ D2, D2 = D ++ C := ⟨_, rfl⟩
  have HD2 := Lib.hid hD2
  have SD2 : Hid (∀ r ∈ D2, r.Small) := Lib.hid (by rw [hD2]; exact small_app SD.out sc)
  have ld2 : D2.length ≤ 22 := by rw [hD2]; simp; omega
  have HNE := Lib.hid hne
  have HT5 := Lib.hid (HT.out.below hb2)
  clear hD2 hb od rr sc hne
  go_wp2_with (at_builtin; refine wpList_append_reqs rfl (.tmp 18) (.tmp 20) rfl w.heap.size _ _ D C rfl rfl od5 rc (by omega) hb2.size ?_; intro v6 w6 hown6 hg6; rw [← HD2.out] at hown6; have hb6 : RowKit.Below w.heap.size w w6 := hb2.grown hg6 hb2.size (fun q hq => (od5.lt q hq).1); have ra6 : ReqsIn w6 (.slice sa A.length ca) A := ra.grown hg6 (by cases e : (Value.slice sa A.length ca).ownBlock with | none => exact .inl rfl | some q => right; intro h; exact (HNE.out q h.symm).1 e); have rb6 : ReqsIn w6 (.slice sb B.length cb) B := rb.grown hg6 (by cases e : (Value.slice sb B.length cb).ownBlock with | none => exact .inl rfl | some q => right; intro h; exact (HNE.out q h.symm).2 e); have rd6 := reqsIn_own hown6; obtain ⟨sd, cd, rfl⟩ := own_nil hown6)
  have hb8 : RowKit.Below w.heap.size w (w6.alloc (.cells #[.slice sa A.length ca, .slice sb B.length cb, .slice sb B.length cb, .slice sd D2.length cd, .slice sd D2.length cd, .slice sa A.length ca, .slice sa A.length ca, .slice sa A.length ca, .slice none 0 0, .slice sd D2.length cd] 31)) := hb6.alloc hb6.size _
  have hB8 : RowKit.Below w6.heap.size w6 (w6.alloc (.cells #[.slice sa A.length ca, .slice sb B.length cb, .slice sb B.length cb, .slice sd D2.length cd, .slice sd D2.length cd, .slice sa A.length ca, .slice sa A.length ca, .slice sa A.length ca, .slice none 0 0, .slice sd D2.length cd] 31)) := below_alloc1 _ _
  have hR : ∀ j, (w6.alloc (.cells #[.slice sa A.length ca, .slice sb B.length cb, .slice sb B.length cb, .slice sd D2.length cd, .slice sd D2.length cd, .slice sa A.length ca, .slice sa A.length ca, .slice sa A.length ca, .slice none 0 0, .slice sd D2.length cd] 31)).cell? ⟨w6.heap.size, j, none⟩ = (#[.slice sa A.length ca, .slice sb B.length cb, .slice sb B.length cb, .slice sd D2.length cd, .slice sd D2.length cd, .slice sa A.length ca, .slice sa A.length ca, .slice sa A.length ca, .slice none 0 0, .slice sd D2.length cd] : Array Value)[j]? := fun j => Lib.cell_of_heap (heap_alloc_new w6 _) j
  have hl8 : w6.heap.size < (w6.alloc (.cells #[.slice sa A.length ca, .slice sb B.length cb, .slice sb B.length cb, .slice sd D2.length cd, .slice sd D2.length cd, .slice sa A.length ca, .slice sa A.length ca, .slice sa A.length ca, .slice none 0 0, .slice sd D2.length cd] 31)).heap.size := by simp
  have ra8 := ra6.below hB8
  have rb8 := rb6.below hB8
  have rd8 := rd6.below hB8
  clear hown6 hg6 hb2 ra rb rc od5 HNE HD2 hB5 ra6 rb6 rd6 hb6 hB8
  generalize w6.alloc (.cells #[.slice sa A.length ca, .slice sb B.length cb, .slice sb B.length cb, .slice sd D2.length cd, .slice sd D2.length cd, .slice sa A.length ca, .slice sa A.length ca, .slice sa A.length ca, .slice none 0 0, .slice sd D2.length cd] 31) = w8 at hb8 hR hl8 ra8 rb8 rd8 ⊢
  generalize w6.heap.size = gb at hR hl8 ⊢
  have HGET : Hid (∀ k, k < 5 → ∃ sx cx sy cy X Y, w8.rangeAt gb (k * 2) [.slice sx X.length cx, .slice sy Y.length cy] ∧ ReqsIn w8 (.slice sx X.length cx) X ∧ ReqsIn w8 (.slice sy Y.length cy) Y ∧ X.length ≤ 30 ∧ Y.length ≤ 30 ∧ (∀ r ∈ X, r.Small) ∧ (∀ r ∈ Y, r.Small)) := Lib.hid (by
    have two : ∀ (o : Nat) (x y : Value), w8.cell? ⟨gb, o, none⟩ = some x → w8.cell? ⟨gb, o + 1, none⟩ = some y → w8.rangeAt gb o [x, y] := fun o x y hx hy j v hj => by
      match j, hj with
      | 0, hj => simp at hj; subst hj; simpa using hx
      | 1, hj => simp at hj; subst hj; exact hy
    intro k hk
    match k, hk with
    | 0, _ => exact ⟨sa, ca, sb, cb, A, B, two _ _ _ (hR 0) (hR 1), ra8, rb8, by omega, by omega, SA.out, SB.out⟩
    | 1, _ => exact ⟨sb, cb, sd, cd, B, D2, two _ _ _ (hR 2) (hR 3), rb8, rd8, by omega, by omega, SB.out, SD2.out⟩
    | 2, _ => exact ⟨sd, cd, sa, ca, D2, A, two _ _ _ (hR 4) (hR 5), rd8, ra8, by omega, by omega, SD2.out, SA.out⟩
    | 3, _ => exact ⟨sa, ca, sa, ca, A, A, two _ _ _ (hR 6) (hR 7), ra8, ra8, by omega, by omega, SA.out, SA.out⟩
    | 4, _ => exact ⟨none, 0, sd, cd, [], D2, two _ _ _ (hR 8) (hR 9), .inl ⟨rfl, rfl⟩, rd8, by simp, by omega, by simp, SD2.out⟩)
  have HW := Lib.hid hb8
  clear hR hb8 ra8 rb8 rd8
  go_loopw [38] (fun i wr => ∃ k : Nat, k ≤ 5 ∧ i = .int .i64 k ∧ RowKit.Below w8.heap.size w8 wr) (fun i _ => 5 - (RowKit.intOf i).toNat)
  case atStart => exact ⟨0, by omega, rfl, Below.refl _ _⟩
  case round =>
    obtain ⟨k, hk, rfl, hbr⟩ := hrel
    by_cases hlt : k < 5
    · obtain ⟨sx, cx, sy, cy, X, Y, hat, hx, hy, hlx, hly, hsx, hsy⟩ := HGET.out k hlt
      have hatr : wr.rangeAt gb (k * 2) [.slice sx X.length cx, .slice sy Y.length cy] := fun j v hj => by rw [hbr.cell (p := ⟨gb, k * 2 + j, none⟩) hl8]; exact hat j v hj
      replace hx := hx.below hbr
      replace hy := hy.below hbr
      have h0 : (wr.alloc (.cells #[.slice sx X.length cx, .slice sy Y.length cy] 31)).cell? ⟨wr.heap.size, 0, none⟩ = some (.slice sx X.length cx) := Lib.cell_of_heap (heap_alloc_new wr _) 0
      have h1 : (wr.alloc (.cells #[.slice sx X.length cx, .slice sy Y.length cy] 31)).cell? ⟨wr.heap.size, 1, none⟩ = some (.slice sy Y.length cy) := Lib.cell_of_heap (heap_alloc_new wr _) 1
      have hb9 : RowKit.Below w8.heap.size w8 (wr.alloc (.cells #[.slice sx X.length cx, .slice sy Y.length cy] 31)) := hbr.alloc hbr.size _
      have hx9 := hx.below (below_alloc1 wr (.cells #[.slice sx X.length cx, .slice sy Y.length cy] 31))
      have hy9 := hy.below (below_alloc1 wr (.cells #[.slice sx X.length cx, .slice sy Y.length cy] 31))
      have ht9 := HT.out.below (below_next HW.out hb9)
      have h5 : ((k : Int) < 5) := by omega
      clear hat hx hy hbr
      go_wp2_with ((with_reducible refine wpList_load_mid (op := ⟨some 41, _, _, _, _, _⟩) ?_ 31 (.tmp 40) ?_ gb (k * 2) ?_ [.slice sx X.length cx, .slice sy Y.length cy] _ ?_ Tryz.underlying31 ?_ ?_ ?_); rfl; rfl; rfl; exact hatr; rfl; kernel_rfl)
      refine joins_r7 wr.heap.size (.slice sx X.length cx) (.slice sy Y.length cy) X Y _ _ h0 h1 hx9 hy9 hlx hly hsx hsy ht9 ?_
      intro u42 u43 u44 u45 u46 u47 u48 u49 u50 u51 u52 u53 u54 u55 u56 u57 u58 u59 u60 u61 u62 u63 u64 u65 u66 u67 u68 u69 u70 u71 u72 u73 u74 u75 wx hb
      have hbx := below_next hb9 hb
      clear h0 h1 hx9 hy9 hb9 ht9 hatr hb
      go_wp2_with fail
      go_roundw
      case rel => exact ⟨k + 1, by omega, by go_num, hbx⟩
      case measure => simp [RowKit.intOf]; omega
    · obtain rfl : k = 5 := by omega
      go_wp2_with fail
      go_ret
      exact ⟨rfl, below_next HW.out hbr⟩
end Go.Proofs.YtanmmooflhomoaaGreatDoor
