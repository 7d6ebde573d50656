/- WireInverse: walked once. -/
import Derived.Test.YtfnlihadibnnoaaDoorWInvB
import Derived.Test.YtfnlihadibnnoaaDoorFlowM
namespace Go.Proofs.YtfnlihadibnnoaaDoor
open Go Go.RowKit Go.Sort Go.Lib
attribute [local go_sem] map_add0

theorem box5 (w : World) (c0 c1 c2 c3 c4 : Value) (T : TypeId) : (w.alloc (.cells #[c0, c1, c2, c3, c4] T)).cell? ⟨w.heap.size, 0, none⟩ = some c0 ∧ (w.alloc (.cells #[c0, c1, c2, c3, c4] T)).cell? ⟨w.heap.size, 1, none⟩ = some c1 ∧ (w.alloc (.cells #[c0, c1, c2, c3, c4] T)).cell? ⟨w.heap.size, 2, none⟩ = some c2 ∧ (w.alloc (.cells #[c0, c1, c2, c3, c4] T)).cell? ⟨w.heap.size, 3, none⟩ = some c3 ∧ (w.alloc (.cells #[c0, c1, c2, c3, c4] T)).cell? ⟨w.heap.size, 4, none⟩ = some c4 :=
  ⟨Lib.cell_of_heap (heap_alloc_new w _) 0, Lib.cell_of_heap (heap_alloc_new w _) 1, Lib.cell_of_heap (heap_alloc_new w _) 2, Lib.cell_of_heap (heap_alloc_new w _) 3, Lib.cell_of_heap (heap_alloc_new w _) 4⟩
/-- How the first loop stands. -/
def Inv1 (w : World) (m : List Val) (v s i : Value) (wr : World) : Prop := ∃ (k : Nat) (qs : List OV) (S : List UInt8), k ≤ m.length ∧ i = .int .i64 k ∧ s = .string ⟨S.toArray⟩ ∧ Hid (qs.map (·.1) = m.take k) ∧ Hid (S = allEnc (m.take k)) ∧ S.length ≤ k * 5000 ∧
  wr.ownsRow w.heap.size 45 5 v k (qs.flatMap ovCells) ∧ (∀ q ∈ qs, OvOk wr v.ownBlock q) ∧ RowKit.Below w.heap.size w wr ∧ Ready wr
set_option maxHeartbeats 8000000 in
set_option maxRecDepth 100000 in
theorem inverse_any {w : World} (v : Value) (l : List Val) (hV : ValsV w v l) (hr : Ready w) :
    Calls Tryd.prog 5 #[v] w fun e w' => e = .returned (.bool true) ∧ RowKit.Below w.heap.size w w' := by
  obtain ⟨hsh, base, c', e, hV⟩ := hV
  obtain ⟨A, c, rfl, hc, hm⟩ := hsh.gen
  injection e with e1 e2 e3
  subst e1 e3
  clear e2
  have hb0 : (0 : Int) ≤ min (l.length : Int) 8 := by omega
  have hb1 : min (l.length : Int) 8 ≤ c := by omega
  have hcut : (min (l.length : Int) 8).toNat = (l.take 8).length := by rw [List.length_take]; omega
  have hm8 : (l.take 8).length ≤ 8 := by rw [List.length_take]; omega
  have hV8 : l.take 8 ≠ [] → ∃ b o, A = some ⟨b, o, none⟩ ∧ ValsAt w b o (l.take 8) := fun hn => by
    obtain ⟨b, o, e, h⟩ := hV (fun e => hn (by rw [e]; simp))
    refine ⟨b, o, e, fun k hk => ?_⟩
    rw [List.length_take] at hk
    have := h k (by omega)
    rw [List.getElem_take]
    exact this
  have HV := Lib.hid hV8
  clear hV8 hV
  have hr0 := hr
  go_enter Tryd.func5, Tryd.ntmps5
  go_wp2_with fail
  refine (sanity_any _ hr).mono ?_
  rintro _ W ⟨rfl, hB⟩
  replace hr := hr.below hB
  go_wp2_with fail
  rw [← List.length_take]
  clear hcut hb0 hb1
  generalize l.take 8 = m at HV hm8 ⊢
  go_loopw [4, 5, 19] (fun v s i wr => Inv1 w m v s i wr) (fun _ _ i _ => m.length - (RowKit.intOf i).toNat)
  case atStart => exact ⟨0, [], [], Nat.zero_le _, rfl, rfl, Lib.hid (by simp), Lib.hid (by simp [allEnc]), by simp, World.ownsRow_nil _ _ _ _, by simp, hB, hr⟩
  case round =>
    clear hB hr
    obtain ⟨k, qs, S, hk, rfl, rfl, HQ, HS, hSl, hown, hok, hB, hr⟩ := hrel
    by_cases hlt : k < m.length
    · obtain ⟨b, o, rfl, hat⟩ := HV.out (fun e => by rw [e] at hlt; simp at hlt)
      obtain ⟨c0, c1, c2, c3, c4, ⟨z0, z1, z2, z3, z4⟩, hx⟩ := hat k hlt
      replace hx := hx
      obtain ⟨⟨rfl, rfl, rfl⟩, -⟩ := id hx
      replace z0 := mv0 hB z0
      replace z1 := mv0 hB z1
      replace z2 := mv0 hB z2
      replace z3 := mv0 hB z3
      replace z4 := mv0 hB z4
      have hOk := hx.ok
      obtain ⟨-, hkd, hF, hz, ⟨hI, hsh3⟩, hT⟩ := hx
      have hx0 : m[k]? = some m[k] := List.getElem?_eq_getElem hlt
      clear hat
      generalize m[k] = x at z0 z1 z2 z3 z4 hkd hF hz hI hsh3 hT hOk hx0
      obtain ⟨A3, cc3, rfl, hc3, hm3⟩ := hsh3.gen
      obtain ⟨A4, cc4, rfl, hl4, hT4⟩ := id hT
      have hIw := hI
      replace hI := hI.below hB
      replace hT := hT.below hB
      have HX0 := Lib.hid hx0
      obtain ⟨hk3, hkm⟩ := kd_le hkd.1
      generalize hkk : kd x = kk at hk3 hkm
      clear hT4 hx0
      have hb0 : (0 : Int) ≤ min (x.s.size : Int) 100 := by omega
      have hb1 : min (x.s.size : Int) 100 ≤ x.s.size := by omega
      have hclip : x.s.extract 0 (min (x.s.size : Int) 100).toNat = clip x.s := rfl
      have hb2 : (0 : Int) ≤ min (x.L.length : Int) 20 := by omega
      have hb3 : min (x.L.length : Int) 20 ≤ cc3 := by omega
      have hcut : (min (x.L.length : Int) 20).toNat = (x.L.take 20).length := by rw [List.length_take]; omega
      go_wp2_with fail
      have hbv := below_alloc1 wr (.cells #[.int .u8 x.kind, .int .i64 x.n, .string (clip x.s), .slice A3 (min 20 x.L.length) cc3, .slice A4 x.T.length cc4] 45)
      obtain ⟨y0, y1, y2, y3, y4⟩ := box5 wr (.int .u8 x.kind) (.int .i64 x.n) (.string (clip x.s)) (.slice A3 (min 20 x.L.length) cc3) (.slice A4 x.T.length cc4) 45
      have f4 : (wr.alloc (.cells #[.int .u8 x.kind, .int .i64 x.n, .string (clip x.s), .slice A3 (min 20 x.L.length) cc3, .slice A4 x.T.length cc4] 45)).frozen? ⟨wr.heap.size, 4, none⟩ = false := by simp [go_sem]
      have hsz : (wr.alloc (.cells #[.int .u8 x.kind, .int .i64 x.n, .string (clip x.s), .slice A3 (min 20 x.L.length) cc3, .slice A4 x.T.length cc4] 45)).heap.size = wr.heap.size + 1 := by simp
      generalize wr.alloc (.cells #[.int .u8 x.kind, .int .i64 x.n, .string (clip x.s), .slice A3 (min 20 x.L.length) cc3, .slice A4 x.T.length cc4] 45) = V1 at hbv y0 y1 y2 y3 y4 f4 hsz ⊢
      refine (cut_law _ x.T V1 (hT.below hbv)).mono ?_
      rintro _ W2 ⟨u, rfl, hu, hb⟩
      have hU := txtsV_own hu (fun y hy => by have := cutL_short x.T y hy; omega)
      obtain ⟨bu, cu, rfl, -⟩ := id hU
      have hbs := hb.size
      replace y0 := mv0 hb y0
      replace y1 := mv0 hb y1
      replace y2 := mv0 hb y2
      replace y3 := mv0 hb y3
      replace y4 := mv0 hb y4
      replace f4 : W2.frozen? ⟨wr.heap.size, 4, none⟩ = false := ((bcell hb).2 _ _ (by omega)).trans f4
      have hW2 : RowKit.Below wr.heap.size wr W2 := hbv.trans (hb.mono (by omega))
      have hW3 : RowKit.Below wr.heap.size wr (W2.setCell ⟨wr.heap.size, 4, none⟩ (.slice bu (cutL x.T).length cu)) := hW2.setCell (Nat.le_refl _) _
      have hUf : Far W2 (some wr.heap.size) (.slice bu (cutL x.T).length cu) (cutL x.T = []) := far_new hu (fun k e => by injection e with e; omega) _ (fun e => List.eq_nil_of_length_eq_zero e)
      have hUo : Far W2 u4.ownBlock (.slice bu (cutL x.T).length cu) (cutL x.T = []) := far_new hu (fun k e => by have := (hown.lt k e).2; omega) _ (fun e => List.eq_nil_of_length_eq_zero e)
      replace hU := hU.grown ((But.refl wr.heap.size W2).set 4 (.slice bu (cutL x.T).length cu)).grown hUf
      replace hUo := hUo.grown ((But.refl wr.heap.size W2).set 4 (.slice bu (cutL x.T).length cu)).size (.inl rfl)
      clear hu hb hUf hbv hW2
      obtain ⟨i0, hi, hz0, hz1, hz2⟩ := info_parts val_info5
      have hkb : (wr.grownBy (W2.setCell ⟨wr.heap.size, 4, none⟩ (.slice bu (cutL x.T).length cu)) none) := ⟨hW3.os, hW3.tape, hW3.output, hW3.size, fun k hk _ => hW3.block k hk⟩
      have hown1 := (hown.kept hkb (by cases hv : u4.ownBlock <;> simp)).alloc (.cells #[.int .u8 x.kind, .int .i64 x.n, .string (clip x.s), .slice A3 (min 20 x.L.length) cc3, .slice bu (cutL x.T).length cu] 45)
      have hnew : ∀ j u, (ovCells (x, .slice A3 (min 20 x.L.length) cc3, .slice bu (cutL x.T).length cu))[j]? = some u → ((W2.setCell ⟨wr.heap.size, 4, none⟩ (.slice bu (cutL x.T).length cu)).alloc (.cells #[.int .u8 x.kind, .int .i64 x.n, .string (clip x.s), .slice A3 (min 20 x.L.length) cc3, .slice bu (cutL x.T).length cu] 45)).cell? ((⟨W2.heap.size, 0, none⟩ : Addr).add j) = some u := by
        intro j u hj
        rw [addr_at]
        have hs : W2.heap.size = (W2.setCell ⟨wr.heap.size, 4, none⟩ (.slice bu (cutL x.T).length cu)).heap.size := by simp
        rw [hs, Lib.cell_of_heap (heap_alloc_new _ _)]
        simpa [ovCells] using hj
      have hsz3 : (W2.setCell ⟨wr.heap.size, 4, none⟩ (.slice bu (cutL x.T).length cu)).heap.size = W2.heap.size := by simp
      have hB3 := hB.size
      go_wp2_with (at_builtin; go_must (refine wpList_append_own_at _ rfl (.tmp 43) (.tmp 45) 43 rfl w.heap.size 45 i0 _ 5 80 Tryd.underlying43 hi hz0 hz1 hz2 rfl (by decide) _ _ _ rfl hown1 ⟨W2.heap.size, 0, none⟩ 1 1 (ovCells (x, .slice A3 (min 20 x.L.length) cc3, .slice bu (cutL x.T).length cu)) rfl rfl hnew (by simp [ovCells, Value.oneCell']) (by unfold maxLen; omega) (by omega) (by simp; omega) ?_); intro v' W5 hown' hgrow _ hat)
      replace hgrow : ((W2.setCell ⟨wr.heap.size, 4, none⟩ (.slice bu (cutL x.T).length cu)).alloc (.cells #[.int .u8 x.kind, .int .i64 x.n, .string (clip x.s), .slice A3 (min 20 x.L.length) cc3, .slice bu (cutL x.T).length cu] 45)).grownBy W5 u4.ownBlock := hgrow
      have hba := below_alloc1 (W2.setCell ⟨wr.heap.size, 4, none⟩ (.slice bu (cutL x.T).length cu)) (.cells #[.int .u8 x.kind, .int .i64 x.n, .string (clip x.s), .slice A3 (min 20 x.L.length) cc3, .slice bu (cutL x.T).length cu] 45)
      have hIt := hI.take 20 cc3
      have hItw := hIw.take 20 cc3
      rw [List.length_take] at hIt hItw
      have hol := fun q hq => (hown.lt q hq).1
      have holt := fun q hq => (hown.lt q hq).2
      have hN5 : OvOk W5 v'.ownBlock (x, .slice A3 (min 20 x.L.length) cc3, .slice bu (cutL x.T).length cu) :=
        (OvOk.mk (w := (W2.setCell ⟨wr.heap.size, 4, none⟩ (.slice bu (cutL x.T).length cu)).alloc (.cells #[.int .u8 x.kind, .int .i64 x.n, .string (clip x.s), .slice A3 (min 20 x.L.length) cc3, .slice bu (cutL x.T).length cu] 45)) (own := u4.ownBlock) hkd hOk ((hIt.below hW3).below hba) (hU.below hba) (far_old hItw (by simp; omega) hol) (hUo.grown hba.size (.inl rfl))).grown hgrow hat
      have hok5 : ∀ q ∈ qs ++ [(x, .slice A3 (min 20 x.L.length) cc3, .slice bu (cutL x.T).length cu)], OvOk W5 v'.ownBlock q := by
        intro q hq
        rcases List.mem_append.1 hq with hq | hq
        · exact (((hok q hq).below hW3).below hba).grown hgrow hat
        · rw [List.mem_singleton.1 hq]; exact hN5
      have hB5 : RowKit.Below w.heap.size w W5 := ((hB.trans (hW3.mono hB3)).alloc (by omega) _).grown hgrow (by simp; omega) hol
      have hno : ∀ b, u4.ownBlock = some b → b ≠ wr.heap.size := fun b hb => by have := holt b hb; omega
      have hcell : ∀ (o : Nat) (c : Value), (W2.setCell ⟨wr.heap.size, 4, none⟩ (.slice bu (cutL x.T).length cu)).cell? ⟨wr.heap.size, o, none⟩ = some c → W5.cell? ⟨wr.heap.size, o, none⟩ = some c := fun o c h => hgrow.cell (mv0 hba h) (fun e => hno _ e.symm rfl)
      have q0 := hcell 0 _ ((World.cell?_setCell_other _ _ _ _ (by simp)).trans y0)
      have q1 := hcell 1 _ ((World.cell?_setCell_other _ _ _ _ (by simp)).trans y1)
      have q2 := hcell 2 _ ((World.cell?_setCell_other _ _ _ _ (by simp)).trans y2)
      have q3 := hcell 3 _ ((World.cell?_setCell_other _ _ _ _ (by simp)).trans y3)
      have q4 := hcell 4 _ (World.cell?_setCell_same _ _ _ y4)
      have hown6 : W5.ownsRow w.heap.size 45 5 v' (k + 1) ((qs ++ [((x, .slice A3 (min 20 x.L.length) cc3, .slice bu (cutL x.T).length cu) : OV)]).flatMap ovCells) := by rw [List.flatMap_append]; simpa using hown'
      have HQ6 : Hid ((qs ++ [(x, (.slice A3 (min 20 x.L.length) cc3 : Value), (.slice bu (cutL x.T).length cu : Value))]).map (·.1) = m.take (k + 1)) := Lib.hid (by rw [List.take_add_one, HX0.out, List.map_append, HQ.out]; rfl)
      have HS6 : Hid (S ++ encK kk x = allEnc (m.take (k + 1))) := Lib.hid (by rw [List.take_add_one, HX0.out, HS.out, ← hkk]; simp [allEnc])
      have hel := (encK_len kk x hOk).2
      have hSl6 : (S ++ encK kk x).length ≤ (k + 1) * 5000 := by rw [List.length_append]; omega
      have hcat : ¬ 9223372036854775807 < S.length + (encK kk x).length := by omega
      have hr5 := hr0.below hB5
      have hS0 : Cells W5 [(wr.heap.size, 0, .int .u8 x.kind), (wr.heap.size, 1, .int .i64 x.n), (wr.heap.size, 2, .string (clip x.s)), (wr.heap.size, 3, .slice A3 (min 20 x.L.length) cc3), (wr.heap.size, 4, .slice bu (cutL x.T).length cu)] W5.drew := (Cells.more q0 (Cells.more q1 (Cells.more q2 (Cells.more q3 (Cells.more q4 (Cells.begin W5)))))).drew
      have hcl := clip_size x.s
      have hcL := cutL_len x.T
      have h20 : (x.L.take 20).length ≤ 20 := by rw [List.length_take]; omega
      have hkI : (kk : Int) < 4 := by omega
      clear hown hok hB hown1 hgrow hat hnew hown' hcell q0 q1 q2 q3 q4 y0 y1 y2 y3 y4 f4 hW3 hU hUo hI hT hIw hIt hItw hba hkb HQ HS hSl z0 z1 z2 z3 z4 hb0 hb1 hb2 hb3 hcut hclip hno hol holt hOk
      go_wp2_with fail
      refine of_onlyN ?_ (fun _ _ h => h)
      refine wp_region_flow (S := Cells W5 [(wr.heap.size, 0, .int .u8 x.kind), (wr.heap.size, 1, .int .i64 x.n), (wr.heap.size, 2, .string (clip x.s)), (wr.heap.size, 3, .slice A3 (min 20 x.L.length) cc3), (wr.heap.size, 4, .slice bu (cutL x.T).length cu)]) [(0, true), (1, true), (2, true), (4, true), (5, true), (7, true), (8, true), (10, true), (11, true), (14, true), (15, true), (16, true), (3, false), (6, false), (9, false), (12, false), (13, false), (17, true), (18, true), (19, true), (20, true)] (by kernel_rfl) (by kernel_rfl) (by kernel_rfl) (by decide) (hS0) ?_
      have hS := hS0
      refine flow_take ⟨some 47, _, _, _, _, _⟩ ?_ rfl (by rfl) ?_ hS ?_
      rotate_left 1
      · intro w hSw; (try dsimp only at hSw); simp only [cells_cons] at hSw; go_simp; (try with_reducible rfl)
      simp only [Act.put, List.setIfInBounds_toArray, List.set_cons_zero, List.set_cons_succ]
      refine flow_take ⟨some 48, _, _, _, _, _⟩ ?_ rfl (by rfl) ?_ hS ?_
      rotate_left 1
      · intro w hSw; (try dsimp only at hSw); simp only [cells_cons] at hSw; go_simp; (try with_reducible rfl)
      simp only [Act.put, List.setIfInBounds_toArray, List.set_cons_zero, List.set_cons_succ]
      refine flow_take ⟨some 49, _, _, _, _, _⟩ ?_ rfl (by rfl) ?_ hS ?_
      rotate_left 1
      · intro w hSw; (try dsimp only at hSw); simp only [cells_cons] at hSw; go_simp; (try with_reducible rfl)
      simp only [Act.put, List.setIfInBounds_toArray, List.set_cons_zero, List.set_cons_succ]
      refine flow_take ⟨some 51, _, _, _, _, _⟩ ?_ rfl (by rfl) ?_ hS ?_
      rotate_left 1
      · intro w hSw; (try dsimp only at hSw); simp only [cells_cons] at hSw; go_simp; (try with_reducible rfl)
      simp only [Act.put, List.setIfInBounds_toArray, List.set_cons_zero, List.set_cons_succ]
      refine flow_take ⟨some 52, _, _, _, _, _⟩ ?_ rfl (by rfl) ?_ hS ?_
      rotate_left 1
      · intro w hSw; (try dsimp only at hSw); simp only [cells_cons] at hSw; go_simp; (try with_reducible rfl)
      simp only [Act.put, List.setIfInBounds_toArray, List.set_cons_zero, List.set_cons_succ]
      refine flow_take ⟨some 54, _, _, _, _, _⟩ ?_ rfl (by rfl) ?_ hS ?_
      rotate_left 1
      · intro w hSw; (try dsimp only at hSw); simp only [cells_cons] at hSw; go_simp; (try with_reducible rfl)
      simp only [Act.put, List.setIfInBounds_toArray, List.set_cons_zero, List.set_cons_succ]
      refine flow_take ⟨some 55, _, _, _, _, _⟩ ?_ rfl (by rfl) ?_ hS ?_
      rotate_left 1
      · intro w hSw; (try dsimp only at hSw); simp only [cells_cons] at hSw; go_simp; (try with_reducible rfl)
      simp only [Act.put, List.setIfInBounds_toArray, List.set_cons_zero, List.set_cons_succ]
      refine flow_take ⟨some 57, _, _, _, _, _⟩ ?_ rfl (by rfl) ?_ hS ?_
      rotate_left 1
      · intro w hSw; (try dsimp only at hSw); simp only [cells_cons] at hSw; go_simp; (try with_reducible rfl)
      simp only [Act.put, List.setIfInBounds_toArray, List.set_cons_zero, List.set_cons_succ]
      refine flow_take ⟨some 58, _, _, _, _, _⟩ ?_ rfl (by rfl) ?_ hS ?_
      rotate_left 1
      · intro w hSw; (try dsimp only at hSw); simp only [cells_cons] at hSw; go_simp; (try with_reducible rfl)
      simp only [Act.put, List.setIfInBounds_toArray, List.set_cons_zero, List.set_cons_succ]
      refine flow_take ⟨some 61, _, _, _, _, _⟩ ?_ rfl (by rfl) ?_ hS ?_
      rotate_left 1
      · intro w hSw; (try dsimp only at hSw); simp only [cells_cons] at hSw; go_simp; (try with_reducible rfl)
      simp only [Act.put, List.setIfInBounds_toArray, List.set_cons_zero, List.set_cons_succ]
      refine flow_take ⟨some 62, _, _, _, _, _⟩ ?_ rfl (by rfl) ?_ hS ?_
      rotate_left 1
      · intro w hSw; (try dsimp only at hSw); simp only [cells_cons] at hSw; go_simp; (try with_reducible rfl)
      simp only [Act.put, List.setIfInBounds_toArray, List.set_cons_zero, List.set_cons_succ]
      refine flow_take ⟨some 63, _, _, _, _, _⟩ ?_ rfl (by rfl) ?_ hS ?_
      rotate_left 1
      · intro w hSw; (try dsimp only at hSw); simp only [cells_cons] at hSw; go_simp; (try with_reducible rfl)
      simp only [Act.put, List.setIfInBounds_toArray, List.set_cons_zero, List.set_cons_succ]
      refine flow_call ⟨some 50, _, _, _, _, _⟩ rfl (by rfl) 12 _ _ (by rfl) _ (by rfl) Tryd.call12 (wireInt_any x.n _ hF.1 hF.2 (hr5.below hS.1).sane.1) ?_; rintro x wn ⟨rfl, hb⟩; replace hS := Cells.next hS hb; refine ⟨_, rfl, hS, ?_⟩; (try clear hb)
      simp only [Act.put, List.setIfInBounds_toArray, List.set_cons_zero, List.set_cons_succ]
      refine flow_call ⟨some 53, _, _, _, _, _⟩ rfl (by rfl) 14 _ _ (by rfl) _ (by rfl) Tryd.call14 (wireText_any (clip x.s) _ (by omega) (hr5.below hS.1).sane.1) ?_; rintro x wn ⟨rfl, hb⟩; replace hS := Cells.next hS hb; refine ⟨_, rfl, hS, ?_⟩; (try clear hb)
      simp only [Act.put, List.setIfInBounds_toArray, List.set_cons_zero, List.set_cons_succ]
      refine flow_call ⟨some 56, _, _, _, _, _⟩ rfl (by rfl) 16 _ _ (by rfl) _ (by rfl) Tryd.call16 (wireIntsV_any (.slice A3 (min 20 x.L.length) cc3) (x.L.take 20) (by omega) _ (hN5.ints.below hS.1) (hr5.below hS.1).sane.1) ?_; rintro x wn ⟨rfl, hb⟩; replace hS := Cells.next hS hb; refine ⟨_, rfl, hS, ?_⟩; (try clear hb)
      simp only [Act.put, List.setIfInBounds_toArray, List.set_cons_zero, List.set_cons_succ]
      refine flow_call ⟨some 59, _, _, _, _, _⟩ rfl (by rfl) 18 _ _ (by rfl) _ (by rfl) Tryd.call18 (wireTextsV_any (.slice bu (cutL x.T).length cu) (cutL x.T) (by omega) _ (hN5.txts.below hS.1) (hr5.below hS.1).sane.1) ?_; rintro x wn ⟨rfl, hb⟩; replace hS := Cells.next hS hb; refine ⟨_, rfl, hS, ?_⟩; (try clear hb)
      simp only [Act.put, List.setIfInBounds_toArray, List.set_cons_zero, List.set_cons_succ]
      refine flow_run ⟨some 60, _, _, _, _, _⟩ (.slice (some ⟨wn.heap.size, 0, none⟩) 4 4) (wn.alloc (.cells #[.string ⟨(wInt x.n).toArray⟩, .string ⟨(wText (clip x.s)).toArray⟩, .string ⟨(wInts (x.L.take 20)).toArray⟩, .string ⟨(wTexts (cutL x.T)).toArray⟩] 9)) rfl (by rfl) (by go_simp) (hS.next (below_alloc1 _ _)) ?_; have hrow := enc_at wn x 9 hk3; replace hS := hS.next (below_alloc1 wn (.cells #[.string ⟨(wInt x.n).toArray⟩, .string ⟨(wText (clip x.s)).toArray⟩, .string ⟨(wInts (x.L.take 20)).toArray⟩, .string ⟨(wTexts (cutL x.T)).toArray⟩] 9)); generalize wn.alloc (.cells #[.string ⟨(wInt x.n).toArray⟩, .string ⟨(wText (clip x.s)).toArray⟩, .string ⟨(wInts (x.L.take 20)).toArray⟩, .string ⟨(wTexts (cutL x.T)).toArray⟩] 9) = V at hrow hS ⊢; refine flow_more _ (fun _ h => h.less) (Cells.more hrow hS) ?_; replace hS := Cells.more hrow hS
      simp only [Act.put, List.setIfInBounds_toArray, List.set_cons_zero, List.set_cons_succ]
      refine flow_take ⟨some 64, _, _, _, _, _⟩ ?_ rfl (by rfl) ?_ hS ?_
      rotate_left 1
      · intro w hSw; (try dsimp only at hSw); simp only [cells_cons] at hSw; go_simp; (try with_reducible rfl)
      simp only [Act.put, List.setIfInBounds_toArray, List.set_cons_zero, List.set_cons_succ]
      refine flow_take ⟨some 65, _, _, _, _, _⟩ ?_ rfl (by rfl) ?_ hS ?_
      rotate_left 1
      · intro w hSw; (try dsimp only at hSw); simp only [cells_cons] at hSw; go_simp; (try with_reducible rfl)
      simp only [Act.put, List.setIfInBounds_toArray, List.set_cons_zero, List.set_cons_succ]
      refine flow_take ⟨some 66, _, _, _, _, _⟩ ?_ rfl (by rfl) ?_ hS ?_
      rotate_left 1
      · intro w hSw; (try dsimp only at hSw); simp only [cells_cons] at hSw; go_simp; (try with_reducible rfl)
      simp only [Act.put, List.setIfInBounds_toArray, List.set_cons_zero, List.set_cons_succ]
      refine flow_take ⟨some 5, _, _, _, _, _⟩ ?_ rfl (by rfl) ?_ hS ?_
      rotate_left 1
      · intro w hSw; (try dsimp only at hSw); simp only [cells_cons] at hSw; go_simp; (try with_reducible rfl)
      simp only [Act.put, List.setIfInBounds_toArray, List.set_cons_zero, List.set_cons_succ]
      simp only [wpFlow, OnlyN]
      have hSb := hS.1
      replace hB5 := below_next hB5 hSb
      have hown7 := hown6.kept (row := none) ⟨hSb.os, hSb.tape, hSb.output, hSb.size, fun k hk _ => hSb.block k hk⟩ (by cases hv : v'.ownBlock <;> simp)
      have hok7 : ∀ q ∈ qs ++ [((x, .slice A3 (min 20 x.L.length) cc3, .slice bu (cutL x.T).length cu) : OV)], OvOk V v'.ownBlock q := fun q hq => (hok5 q hq).below hSb
      clear hown6 hok5 hS hrow hS0 hN5 hSb
      go_wp2_with fail
      go_roundw
      case rel => exact ⟨k + 1, _, _, by omega, by go_num, rfl, HQ6, HS6, hSl6, hown7, hok7, hB5, hr0.below hB5⟩
      case measure => simp [RowKit.intOf]; omega
    · obtain rfl : k = m.length := by omega
      go_wp2_with fail
      obtain ⟨V, hV⟩ : ∃ V, V = wr := ⟨_, rfl⟩
      subst hV
      rw [List.take_length] at HQ HS
      have hql : qs.length = m.length := by rw [← HQ.out, List.length_map]
      have HQ2 : ∀ j (hj : j < qs.length) (hm : j < m.length), qs[j].1 = m[j] := fun j hj hm => by
        have h1 : (qs.map (·.1))[j]? = m[j]? := by rw [HQ.out]
        rw [List.getElem?_map, List.getElem?_eq_getElem hj, List.getElem?_eq_getElem hm] at h1
        simpa using h1
      rw [← hql] at hown
      obtain ⟨Ao, co, rfl, hform⟩ := own_form hown
      have HF := Lib.hid hform
      have HOK := Lib.hid hok
      rw [hql]
      have hSd : S = allEnc (m.drop 0) := by rw [HS.out, List.drop_zero]
      have hdl : Hid (∀ j, (allEnc (m.drop j)).length ≤ S.length) := Lib.hid fun j => by
        have := congrArg List.length (show allEnc m = allEnc (m.take j) ++ allEnc (m.drop j) by unfold allEnc; rw [← List.flatMap_append, List.take_append_drop])
        rw [HS.out, this, List.length_append]; omega
      have hSz : (⟨S.toArray⟩ : ByteArray).size = S.length := by simp [ByteArray.size]
      have hSl2 : S.length ≤ 40000 := by omega
      clear hform hok hown HQ HS hk hlt
      refine (new_any _ V).mono ?_
      rintro _ V2 ⟨p, rfl, hps, hR, hb⟩
      have hP := hr.past hps
      have hpl := hR.lt
      have cl := left_any p _ _ _ hR
      rw [if_neg (by decide), hSz] at cl
      have HB := Lib.hid hB
      clear hB hr
      go_wp2_with fail
      refine cl.mono ?_
      rintro _ _ ⟨rfl, rfl⟩
      clear cl
      go_wp2_with fail
      go_loopw [81] (fun i wr => ∃ j : Nat, j ≤ m.length ∧ i = .int .i64 j ∧ RdAt wr p ⟨(allEnc (m.drop j)).toArray⟩ false ∧ RowKit.Below V.heap.size V wr) (fun i _ => m.length - (RowKit.intOf i).toNat)
      case atStart => exact ⟨0, Nat.zero_le _, rfl, by rw [← hSd]; exact hR, hb⟩
      case round =>
       clear hR hb
       obtain ⟨j, hj, rfl, hR, hBV⟩ := hrel
       by_cases hjl : j < m.length
       · obtain ⟨g, rfl, hcell⟩ := HF.out (by omega)
         have hqx := HQ2 j (by omega) hjl
         have hqo := HOK.out qs[j] (List.getElem_mem (by omega))
         have hjq : j < qs.length := by omega
         have d0 : wr.cell? ⟨g, j * 5, none⟩ = some (.int .u8 qs[j].1.kind) := mv0 hBV (hcell j hjq 0 (by omega))
         have d1 : wr.cell? ⟨g, j * 5 + 1, none⟩ = some (.int .i64 qs[j].1.n) := mv0 hBV (hcell j hjq 1 (by omega))
         have d2 : wr.cell? ⟨g, j * 5 + 2, none⟩ = some (.string (clip qs[j].1.s)) := mv0 hBV (hcell j hjq 2 (by omega))
         have d3 : wr.cell? ⟨g, j * 5 + 3, none⟩ = some (qs[j].2.1) := mv0 hBV (hcell j hjq 3 (by omega))
         have d4 : wr.cell? ⟨g, j * 5 + 4, none⟩ = some (qs[j].2.2) := mv0 hBV (hcell j hjq 4 (by omega))
         have hdr0 : allEnc (m.drop j) = encK (kd m[j]) m[j] ++ allEnc (m.drop (j + 1)) := by rw [List.drop_eq_getElem_cons hjl]; rfl
         rw [← hqx] at hdr0
         clear hcell hqx
         generalize qs[j] = q at hqo d0 d1 d2 d3 d4 hdr0
         obtain ⟨x, c3, c4⟩ := q
         obtain ⟨hkd, hOk, hqi, hqt, -, -⟩ := hqo
         simp only at hkd hOk hqi hqt d0 d1 d2 d3 d4 hdr0
         obtain ⟨b3, k3, rfl, -⟩ := id hqi
         obtain ⟨b4, k4, rfl, -⟩ := id hqt
         rw [List.length_take] at d3 hqi
         obtain ⟨hk3, hkm⟩ := kd_le hkd.1
         have hel := encK_len (kd x) x hOk
         have hrl : (allEnc (m.drop j)).length ≤ 100000000 := by
           have := hdl.out j
           omega
         have hrz : (⟨(allEnc (m.drop j)).toArray⟩ : ByteArray).size ≤ 100000000 := by simpa [ByteArray.size] using hrl
         have hne : wr.heap.size ≠ p := by have := hR.lt; omega
         have hba := below_alloc1 wr (.cells #[.int .u8 x.kind, .int .i64 x.n, .string (clip x.s), .slice b3 (min 20 x.L.length) k3, .slice b4 (cutL x.T).length k4] 45)
         obtain ⟨q0, q1, q2, q3, q4⟩ := box5 wr (.int .u8 x.kind) (.int .i64 x.n) (.string (clip x.s)) (.slice b3 (min 20 x.L.length) k3) (.slice b4 (cutL x.T).length k4) 45
         replace hR := hR.below hba
         replace hBV := hBV.trans (hba.mono hBV.size)
         have hB6 := HB.out.trans (hBV.mono HB.out.size)
         generalize hkk : kd x = kk at hk3 hkm hdr0
         have hdr := hdr0
         obtain rfl | rfl | rfl | rfl : kk = 0 ∨ kk = 1 ∨ kk = 2 ∨ kk = 3 := by omega
         · go_wp2_with fail
           generalize wr.alloc (.cells #[.int .u8 x.kind, .int .i64 x.n, .string (clip x.s), .slice b3 (min 20 x.L.length) k3, .slice b4 (cutL x.T).length k4] 45) = W6 at hR hBV hB6 q0 q1 q2 q3 q4 ⊢
           clear hba
           have hrd : numP (allEnc (m.drop j)) 59 = some (x.n, allEnc (m.drop (j + 1))) := by rw [hdr]; exact intP_int hOk.1 _
           have c := rdInt_any p hP _ hrz false W6.drew hR (hr0.below hB6).sane (hr0.below hB6).errs
           rw [if_neg (by decide), show numP (⟨(allEnc (m.drop j)).toArray⟩ : ByteArray).data.toList 59 = some (x.n, allEnc (m.drop (j + 1))) from hrd] at c
           unfold Reads at c
           dsimp only at c
           have hd : RowKit.Below V.heap.size V W6.drew ∧ W6.drew.cell? ⟨wr.heap.size, 1, none⟩ = some (.int .i64 x.n) := ⟨hBV.drew, q1⟩
           refine of_onlyN ?_ (fun _ _ h => h)
           refine wp_region_flow (S := fun w' => RowKit.Below V.heap.size V w' ∧ w'.cell? ⟨wr.heap.size, 1, none⟩ = some (.int .i64 x.n)) [(0, true), (2, true), (3, true), (1, false), (4, true), (5, true)] (by kernel_rfl) (by kernel_rfl) (by kernel_rfl) (by decide) (hd) ?_
           have hS := hd
           refine flow_take ⟨some 90, _, _, _, _, _⟩ ?_ rfl (by rfl) ?_ hS ?_
           rotate_left 1
           · intro w hSw; (try dsimp only at hSw); go_simp; (try with_reducible rfl)
           simp only [Act.put, List.setIfInBounds_toArray, List.set_cons_zero, List.set_cons_succ]
           refine flow_take ⟨some 92, _, _, _, _, _⟩ ?_ rfl (by rfl) ?_ hS ?_
           rotate_left 1
           · intro w hSw; (try dsimp only at hSw); go_simp; (try with_reducible rfl)
           simp only [Act.put, List.setIfInBounds_toArray, List.set_cons_zero, List.set_cons_succ]
           refine flow_take ⟨some 93, _, _, _, _, _⟩ ?_ rfl (by rfl) ?_ hS ?_
           rotate_left 1
           · intro w hSw; (try dsimp only at hSw); go_simp; (try with_reducible rfl)
           simp only [Act.put, List.setIfInBounds_toArray, List.set_cons_zero, List.set_cons_succ]
           refine flow_call ⟨some 91, _, _, _, _, _⟩ rfl (by rfl) 22 _ _ (by rfl) _ (by rfl) Tryd.call22 (c) ?_; rintro x wn ⟨rfl, hR2, hb⟩; replace hS := (inv_next hps hne) hS hb; refine ⟨_, rfl, hS, ?_⟩; (try clear hb)
           simp only [Act.put, List.setIfInBounds_toArray, List.set_cons_zero, List.set_cons_succ]
           refine flow_take ⟨some 94, _, _, _, _, _⟩ ?_ rfl (by rfl) ?_ hS ?_
           rotate_left 1
           · intro w hSw; (try dsimp only at hSw); go_simp; (try with_reducible rfl)
           simp only [Act.put, List.setIfInBounds_toArray, List.set_cons_zero, List.set_cons_succ]
           refine flow_take ⟨some 11, _, _, _, _, _⟩ ?_ rfl (by rfl) ?_ hS ?_
           rotate_left 1
           · intro w hSw; (try dsimp only at hSw); go_simp; (try with_reducible rfl)
           simp only [Act.put, List.setIfInBounds_toArray, List.set_cons_zero, List.set_cons_succ]
           simp only [wpFlow, OnlyN]
           replace hBV := hS.1
           have cb := bad_any p _ _ _ hR2
           clear hS hd hR
           go_wp2_with fail
           refine cb.mono ?_
           rintro _ _ ⟨rfl, rfl⟩
           go_wp2_with fail
           go_roundw
           case rel => exact ⟨j + 1, by omega, by go_num, hR2, hBV⟩
           case measure => simp [RowKit.intOf]; omega
         · go_wp2_with fail
           generalize wr.alloc (.cells #[.int .u8 x.kind, .int .i64 x.n, .string (clip x.s), .slice b3 (min 20 x.L.length) k3, .slice b4 (cutL x.T).length k4] 45) = W6 at hR hBV hB6 q0 q1 q2 q3 q4 ⊢
           clear hba
           have hrd : txtP (allEnc (m.drop j)) = some (clip x.s, allEnc (m.drop (j + 1))) := by rw [hdr]; exact txtP_text (by have := clip_size x.s; omega) _
           have c := rdText_txt p hP _ hrz false W6.drew hR (hr0.below hB6).sane (hr0.below hB6).errs
           rw [if_neg (by decide), show txtP (⟨(allEnc (m.drop j)).toArray⟩ : ByteArray).data.toList = some (clip x.s, allEnc (m.drop (j + 1))) from hrd] at c
           unfold Reads at c
           dsimp only at c
           have hd : RowKit.Below V.heap.size V W6.drew ∧ W6.drew.cell? ⟨wr.heap.size, 2, none⟩ = some (.string (clip x.s)) := ⟨hBV.drew, q2⟩
           refine of_onlyN ?_ (fun _ _ h => h)
           refine wp_region_flow (S := fun w' => RowKit.Below V.heap.size V w' ∧ w'.cell? ⟨wr.heap.size, 2, none⟩ = some (.string (clip x.s))) [(0, true), (2, true), (3, true), (1, false), (4, true), (5, true)] (by kernel_rfl) (by kernel_rfl) (by kernel_rfl) (by decide) (hd) ?_
           have hS := hd
           refine flow_take ⟨some 97, _, _, _, _, _⟩ ?_ rfl (by rfl) ?_ hS ?_
           rotate_left 1
           · intro w hSw; (try dsimp only at hSw); go_simp; (try with_reducible rfl)
           simp only [Act.put, List.setIfInBounds_toArray, List.set_cons_zero, List.set_cons_succ]
           refine flow_take ⟨some 99, _, _, _, _, _⟩ ?_ rfl (by rfl) ?_ hS ?_
           rotate_left 1
           · intro w hSw; (try dsimp only at hSw); go_simp; (try with_reducible rfl)
           simp only [Act.put, List.setIfInBounds_toArray, List.set_cons_zero, List.set_cons_succ]
           refine flow_take ⟨some 100, _, _, _, _, _⟩ ?_ rfl (by rfl) ?_ hS ?_
           rotate_left 1
           · intro w hSw; (try dsimp only at hSw); go_simp; (try with_reducible rfl)
           simp only [Act.put, List.setIfInBounds_toArray, List.set_cons_zero, List.set_cons_succ]
           refine flow_call ⟨some 98, _, _, _, _, _⟩ rfl (by rfl) 24 _ _ (by rfl) _ (by rfl) Tryd.call24 (c) ?_; rintro x wn ⟨rfl, hR2, hb⟩; replace hS := (inv_next hps hne) hS hb; refine ⟨_, rfl, hS, ?_⟩; (try clear hb)
           simp only [Act.put, List.setIfInBounds_toArray, List.set_cons_zero, List.set_cons_succ]
           refine flow_take ⟨some 101, _, _, _, _, _⟩ ?_ rfl (by rfl) ?_ hS ?_
           rotate_left 1
           · intro w hSw; (try dsimp only at hSw); go_simp; (try with_reducible rfl)
           simp only [Act.put, List.setIfInBounds_toArray, List.set_cons_zero, List.set_cons_succ]
           refine flow_take ⟨some 11, _, _, _, _, _⟩ ?_ rfl (by rfl) ?_ hS ?_
           rotate_left 1
           · intro w hSw; (try dsimp only at hSw); go_simp; (try with_reducible rfl)
           simp only [Act.put, List.setIfInBounds_toArray, List.set_cons_zero, List.set_cons_succ]
           simp only [wpFlow, OnlyN]
           replace hBV := hS.1
           have cb := bad_any p _ _ _ hR2
           clear hS hd hR
           go_wp2_with fail
           refine cb.mono ?_
           rintro _ _ ⟨rfl, rfl⟩
           go_wp2_with fail
           go_roundw
           case rel => exact ⟨j + 1, by omega, by go_num, hR2, hBV⟩
           case measure => simp [RowKit.intOf]; omega
         · go_wp2_with fail
           generalize wr.alloc (.cells #[.int .u8 x.kind, .int .i64 x.n, .string (clip x.s), .slice b3 (min 20 x.L.length) k3, .slice b4 (cutL x.T).length k4] 45) = W6 at hR hBV hB6 q0 q1 q2 q3 q4 ⊢
           clear hba
           have hrd : listP intP (allEnc (m.drop j)) = some (x.L.take 20, allEnc (m.drop (j + 1))) := by rw [hdr]; exact intsP_ints (fun y hy => hOk.2 y (List.mem_of_mem_take hy)) _
           have c := rdInts_any p hP _ hrl false W6.drew hR (hr0.below hB6).sane (hr0.below hB6).errs
           rw [if_neg (by decide), hrd] at c
           unfold ReadsL at c
           dsimp only at c
           have hd : RowKit.Below V.heap.size V W6.drew ∧ W6.drew.cell? ⟨wr.heap.size, 3, none⟩ = some (.slice b3 (min 20 x.L.length) k3) := ⟨hBV.drew, q3⟩
           refine of_onlyN ?_ (fun _ _ h => h)
           refine wp_region_flow (S := fun w' => RowKit.Below V.heap.size V w' ∧ w'.cell? ⟨wr.heap.size, 3, none⟩ = some (.slice b3 (min 20 x.L.length) k3)) [(0, true), (2, true), (3, true), (1, false), (4, false), (5, true)] (by kernel_rfl) (by kernel_rfl) (by kernel_rfl) (by decide) (hd) ?_
           have hS := hd
           refine flow_take ⟨some 104, _, _, _, _, _⟩ ?_ rfl (by rfl) ?_ hS ?_
           rotate_left 1
           · intro w hSw; (try dsimp only at hSw); go_simp; (try with_reducible rfl)
           simp only [Act.put, List.setIfInBounds_toArray, List.set_cons_zero, List.set_cons_succ]
           refine flow_take ⟨some 106, _, _, _, _, _⟩ ?_ rfl (by rfl) ?_ hS ?_
           rotate_left 1
           · intro w hSw; (try dsimp only at hSw); go_simp; (try with_reducible rfl)
           simp only [Act.put, List.setIfInBounds_toArray, List.set_cons_zero, List.set_cons_succ]
           refine flow_take ⟨some 107, _, _, _, _, _⟩ ?_ rfl (by rfl) ?_ hS ?_
           rotate_left 1
           · intro w hSw; (try dsimp only at hSw); go_simp; (try with_reducible rfl)
           simp only [Act.put, List.setIfInBounds_toArray, List.set_cons_zero, List.set_cons_succ]
           refine flow_call ⟨some 105, _, _, _, _, _⟩ rfl (by rfl) 27 _ _ (by rfl) _ (by rfl) Tryd.call27 (c) ?_; rintro x wn ⟨v, rfl, hv, hR1, hb⟩; replace hS := (inv_next hps hne) hS hb; refine ⟨_, rfl, hS, ?_⟩; (try clear hb)
           simp only [Act.put, List.setIfInBounds_toArray, List.set_cons_zero, List.set_cons_succ]
           refine flow_call ⟨some 108, _, _, _, _, _⟩ rfl (by rfl) 26 _ _ (by rfl) _ (by rfl) Tryd.call26 (sameInts_self p _ _ v (.slice b3 (min 20 x.L.length) k3) (x.L.take 20) (by rw [List.length_take]; omega) _ (intsV_own hv (fun y hy => hOk.2 y (List.mem_of_mem_take hy))) (hqi.below hS.1) hR1) ?_; rintro x wn ⟨rfl, hb, hR2⟩; replace hS := (inv_next hps hne) hS hb; refine ⟨_, rfl, hS, ?_⟩; (try clear hb)
           simp only [Act.put, List.setIfInBounds_toArray, List.set_cons_zero, List.set_cons_succ]
           refine flow_take ⟨some 11, _, _, _, _, _⟩ ?_ rfl (by rfl) ?_ hS ?_
           rotate_left 1
           · intro w hSw; (try dsimp only at hSw); go_simp; (try with_reducible rfl)
           simp only [Act.put, List.setIfInBounds_toArray, List.set_cons_zero, List.set_cons_succ]
           simp only [wpFlow, OnlyN]
           replace hBV := hS.1
           have cb := bad_any p _ _ _ hR2
           clear hS hd hR
           go_wp2_with fail
           refine cb.mono ?_
           rintro _ _ ⟨rfl, rfl⟩
           go_wp2_with fail
           go_roundw
           case rel => exact ⟨j + 1, by omega, by go_num, hR2, hBV⟩
           case measure => simp [RowKit.intOf]; omega
         · go_wp2_with fail
           generalize wr.alloc (.cells #[.int .u8 x.kind, .int .i64 x.n, .string (clip x.s), .slice b3 (min 20 x.L.length) k3, .slice b4 (cutL x.T).length k4] 45) = W6 at hR hBV hB6 q0 q1 q2 q3 q4 ⊢
           clear hba
           have hrd : listP txtP (allEnc (m.drop j)) = some (cutL x.T, allEnc (m.drop (j + 1))) := by rw [hdr]; exact txtsP_txts (fun y hy => by have := cutL_short x.T y hy; omega) _
           have c := rdTexts_any p hP _ hrl false W6.drew hR (hr0.below hB6).sane (hr0.below hB6).errs
           rw [if_neg (by decide), hrd] at c
           unfold ReadsL at c
           dsimp only at c
           have hd : RowKit.Below V.heap.size V W6.drew ∧ W6.drew.cell? ⟨wr.heap.size, 4, none⟩ = some (.slice b4 (cutL x.T).length k4) := ⟨hBV.drew, q4⟩
           refine of_onlyN ?_ (fun _ _ h => h)
           refine wp_region_flow (S := fun w' => RowKit.Below V.heap.size V w' ∧ w'.cell? ⟨wr.heap.size, 4, none⟩ = some (.slice b4 (cutL x.T).length k4)) [(0, true), (2, true), (3, true), (1, false), (4, false), (5, true)] (by kernel_rfl) (by kernel_rfl) (by kernel_rfl) (by decide) (hd) ?_
           have hS := hd
           refine flow_take ⟨some 111, _, _, _, _, _⟩ ?_ rfl (by rfl) ?_ hS ?_
           rotate_left 1
           · intro w hSw; (try dsimp only at hSw); go_simp; (try with_reducible rfl)
           simp only [Act.put, List.setIfInBounds_toArray, List.set_cons_zero, List.set_cons_succ]
           refine flow_take ⟨some 113, _, _, _, _, _⟩ ?_ rfl (by rfl) ?_ hS ?_
           rotate_left 1
           · intro w hSw; (try dsimp only at hSw); go_simp; (try with_reducible rfl)
           simp only [Act.put, List.setIfInBounds_toArray, List.set_cons_zero, List.set_cons_succ]
           refine flow_take ⟨some 114, _, _, _, _, _⟩ ?_ rfl (by rfl) ?_ hS ?_
           rotate_left 1
           · intro w hSw; (try dsimp only at hSw); go_simp; (try with_reducible rfl)
           simp only [Act.put, List.setIfInBounds_toArray, List.set_cons_zero, List.set_cons_succ]
           refine flow_call ⟨some 112, _, _, _, _, _⟩ rfl (by rfl) 30 _ _ (by rfl) _ (by rfl) Tryd.call30 (c) ?_; rintro x wn ⟨v, rfl, hv, hR1, hb⟩; replace hS := (inv_next hps hne) hS hb; refine ⟨_, rfl, hS, ?_⟩; (try clear hb)
           simp only [Act.put, List.setIfInBounds_toArray, List.set_cons_zero, List.set_cons_succ]
           refine flow_call ⟨some 115, _, _, _, _, _⟩ rfl (by rfl) 29 _ _ (by rfl) _ (by rfl) Tryd.call29 (sameTexts_self p _ _ v (.slice b4 (cutL x.T).length k4) (cutL x.T) (by have := cutL_len x.T; omega) _ (txtsV_own hv (fun y hy => by have := cutL_short x.T y hy; omega)) (hqt.below hS.1) hR1) ?_; rintro x wn ⟨rfl, hb, hR2⟩; replace hS := (inv_next hps hne) hS hb; refine ⟨_, rfl, hS, ?_⟩; (try clear hb)
           simp only [Act.put, List.setIfInBounds_toArray, List.set_cons_zero, List.set_cons_succ]
           refine flow_take ⟨some 11, _, _, _, _, _⟩ ?_ rfl (by rfl) ?_ hS ?_
           rotate_left 1
           · intro w hSw; (try dsimp only at hSw); go_simp; (try with_reducible rfl)
           simp only [Act.put, List.setIfInBounds_toArray, List.set_cons_zero, List.set_cons_succ]
           simp only [wpFlow, OnlyN]
           replace hBV := hS.1
           have cb := bad_any p _ _ _ hR2
           clear hS hd hR
           go_wp2_with fail
           refine cb.mono ?_
           rintro _ _ ⟨rfl, rfl⟩
           go_wp2_with fail
           go_roundw
           case rel => exact ⟨j + 1, by omega, by go_num, hR2, hBV⟩
           case measure => simp [RowKit.intOf]; omega
       · obtain rfl : j = m.length := by omega
         rw [List.drop_length] at hR
         have cl := left_any p _ _ _ hR
         rw [if_neg (by decide)] at cl
         have hB2 := HB.out.trans (hBV.mono HB.out.size)
         go_wp2_with fail
         refine cl.mono ?_
         rintro _ _ ⟨rfl, rfl⟩
         go_wp2_with fail
         go_ret
         exact ⟨rfl, hB2⟩
end Go.Proofs.YtfnlihadibnnoaaDoor
