/- quadriviumlaw10.EntrySigns, walked. -/
import Derived.Test.YtnkbelbalaeieaaDoorBodH
import Derived.Test.YtnkbelbalaeieaaDoorBodL
import Derived.Test.YtnkbelbalaeieaaDoorSgn3
import Derived.Test.YtnkbelbalaeieaaDoorMm
namespace Go.Proofs.YtnkbelbalaeieaaDoor
open Go Go.RowKit Go.Sort Go.Lib
attribute [local go_sem] Ent.cells
attribute [local go_sem ↓] ent_eql_cells

set_option maxHeartbeats 4000000 in
set_option maxRecDepth 100000 in
theorem signs_r2 {s1 s2 s3 s6 s7 s8 s9 s10 s11 s12 s13 s14 s15 s16 s17 s18 s19 s20 s21 s22 s23 s24 s25 s26 s27 s28 s29 s30 s31 s32 s33 s34 s35 s36 s37 s38 s39 s40 s41 s42 s43 s44 s45 s46 s47 s48 s49 s50 s51 s52 s53 s54 s55 s56 s57 s58 s59 s60 s61 s62 s63 s64 s65 s66 s67 s68 s69 s70 s71 : Value} (A : Option Addr) (n c qb rb : Nat) (a b c' d : Int) (raw : Ent) (W : World) (Q : Exit → Act → World → Prop) (ha : I64 a) (hb : I64 b) (hc : I64 c') (hd : I64 d) (hrc : raw.course.size ≤ 9223372036854775807) (hrm : raw.mark.size ≤ 9223372036854775807) (hq : W.heap[qb]? = some (.cells #[.int .i64 a, .int .i64 b, .int .i64 c', .int .i64 d] 24 (0, 0))) (hr : EntBox W rb raw) (hI : ∀ w', RowKit.Below W.heap.size W w' → IntsIn w'.heap.size A n w')
    (hQ : ∀ (u18 u19 u20 u21 u22 u23 : Value) (g cap : Nat) (es : List Ent) (wx : World), es.length ≤ 1000 → (∀ e ∈ es, Ent.Ok e) → Ents W.heap.size wx (.slice (some ⟨g, 0, none⟩) (es.length + 1) cap) (es ++ [raw.cut]) → RowKit.Below W.heap.size W wx → Q .normal ⟨List.toArray (.slice A n c :: s1 :: s2 :: s3 :: .pointer (some ⟨qb, 0, none⟩) :: .pointer (some ⟨rb, 0, none⟩) :: s6 :: s7 :: s8 :: s9 :: s10 :: s11 :: s12 :: s13 :: s14 :: s15 :: s16 :: s17 :: u18 :: u19 :: u20 :: u21 :: u22 :: u23 :: .slice (some ⟨g, 0, none⟩) (es.length + 1) cap :: .int .i64 ((es.length + 1 : Nat) : Int) :: .int .i64 0 :: s27 :: s28 :: s29 :: s30 :: s31 :: s32 :: s33 :: s34 :: s35 :: s36 :: s37 :: s38 :: s39 :: s40 :: s41 :: s42 :: s43 :: s44 :: s45 :: s46 :: s47 :: s48 :: s49 :: s50 :: s51 :: s52 :: s53 :: s54 :: s55 :: s56 :: s57 :: s58 :: s59 :: s60 :: s61 :: s62 :: s63 :: s64 :: s65 :: s66 :: s67 :: s68 :: s69 :: s70 :: s71 :: []), []⟩ wx) :
    (regionOf Tryd.f6 2).wp Tryd.prog Q ⟨List.toArray (.slice A n c :: s1 :: s2 :: s3 :: .pointer (some ⟨qb, 0, none⟩) :: .pointer (some ⟨rb, 0, none⟩) :: s6 :: s7 :: s8 :: s9 :: s10 :: s11 :: s12 :: s13 :: s14 :: s15 :: s16 :: s17 :: s18 :: s19 :: s20 :: s21 :: s22 :: s23 :: s24 :: s25 :: s26 :: s27 :: s28 :: s29 :: s30 :: s31 :: s32 :: s33 :: s34 :: s35 :: s36 :: s37 :: s38 :: s39 :: s40 :: s41 :: s42 :: s43 :: s44 :: s45 :: s46 :: s47 :: s48 :: s49 :: s50 :: s51 :: s52 :: s53 :: s54 :: s55 :: s56 :: s57 :: s58 :: s59 :: s60 :: s61 :: s62 :: s63 :: s64 :: s65 :: s66 :: s67 :: s68 :: s69 :: s70 :: s71 :: []), []⟩ W := by
  refine of_onlyN (K := Q .normal) ?_ (fun _ _ h => h)
  generalize Q .normal = K at hQ ⊢
  have HQ := Lib.hid hQ; clear hQ
  conv => arg 2; whnf
  obtain ⟨i0, hi0, hz0, hz1, hz2⟩ := info_parts ent_info
  have hbd : RowKit.Below W.heap.size W W.drew := (Below.refl W.heap.size W).drew
  have hS0 := bod_keep hq hr hbd
  go_region_held3 (fun w' => RowKit.Below W.heap.size W w' ∧ (∀ j, w'.cell? ⟨rb, j, none⟩ = raw.cells[j]?) ∧ w'.cell? ⟨qb, 0, none⟩ = some (.int .i64 a) ∧ w'.cell? ⟨qb, 1, none⟩ = some (.int .i64 b) ∧ w'.cell? ⟨qb, 2, none⟩ = some (.int .i64 c') ∧ w'.cell? ⟨qb, 3, none⟩ = some (.int .i64 d)) (first | exact hS0 | exact hSs | exact hSc | exact bod_keep hq hr ((bod_next hq hr hSc (below_alloc1 wc (.cells raw.cut.cells 26))).1.grown hgrow (by simp; have := hSc.1.size; omega) (fun q hq => (World.ownsRow.lt hes q hq).1)) | exact bod_next hq hr hSc (below_alloc1 wc (.cells raw.cut.cells 26)))
    (first
      | ((with_reducible refine (some_any A n c a b c' d _ ha hb hc hd (hI _ (And.left (by assumption)))).mono ?_); rintro x ws ⟨v, es, rfl, hl, hok, hes, hbs⟩; have hSs := bod_next hq hr (by assumption) hbs; replace hes := bod_own hes (by assumption))
      | ((with_reducible refine (cut_any raw _ hrc hrm).mono ?_); rintro x wc ⟨rfl, hbc⟩; have hSc := bod_next hq hr (by assumption) hbc)
      | (refine step_append_lies _ (by rfl) (.tmp 20) (.tmp 23) 28 (by rfl) W.heap.size 26 i0 _ 15 136 Tryd.underlying28 hi0 hz0 hz1 hz2 rfl (by decide) v es.length (entCells es) (by rfl) ((hes.below hbc).below (below_alloc1 wc (.cells raw.cut.cells 26))) ⟨wc.heap.size, 0, none⟩ 1 1 raw.cut.cells.toList (by rfl) rfl (World.news_of_block (heap_alloc_new wc (.cells raw.cut.cells 26))) (ent_one raw.cut) (by decide) (by unfold maxLen; omega) (by omega) (by simp; have := hSc.1.size; omega) _ rfl ?_; intro g cap w5 hown5 hgrow hat hlt))
  refine HQ.out _ _ _ _ _ _ g cap es w5 hl hok ?_ ((bod_next hq hr hSc (below_alloc1 wc (.cells raw.cut.cells 26))).1.grown hgrow (by simp; have := hSc.1.size; omega) (fun q hq => (World.ownsRow.lt hes q hq).1))
  unfold Ents
  rw [← entCells_snoc, List.length_append]
  exact hown5

theorem u16_in (id : Int) : 0 ≤ IntKind.u16.wrap id ∧ IntKind.u16.wrap id < 65536 := by
  have : IntKind.u16.wrap id = id % 65536 := by rfl
  omega
theorem ring_secret (f : Int) : ∀ k ∈ ringL f, k.secret.size ≤ 100000 := by
  intro k hk
  simp only [ringL, List.mem_cons, List.not_mem_nil, or_false] at hk
  rcases hk with rfl | rfl
  · show (5 : Nat) ≤ 100000; omega
  · show (4 : Nat) ≤ 100000; omega

theorem sign_two (g : Nat) (sc f id : Int) (e r : Ent) (m : Int) (hrn : signE (ringL f) sc id e = (r, m)) (w : World) (hk : KeysAt w g (ringL f)) (hg : g < w.heap.size) (hs : I64 sc) (hi : I64 id) (he : e.Ok) (hT : Tabs w) :
    Calls Tryd.prog 25 #[.agg #[.int .i64 sc, .slice (some ⟨g, 0, none⟩) 2 2], .int .i64 id, e.val] w fun x w' => x = .returned (.tuple #[r.val, .int .i64 m]) ∧ RowKit.Below w.heap.size w w' := by
  have h := sign_any g 2 sc (ringL f) id e w (by show (2 : Nat) ≤ 1000; omega) hk (ring_secret f) hg hs hi he hT
  unfold signV at h
  rw [hrn] at h
  exact h
theorem refSign_two (g : Nat) (sc f id : Int) (e r : Ent) (m : Int) (hrn : signE (ringL f) sc id e = (r, m)) (w : World) (hk : KeysAt w g (ringL f)) (hg : g < w.heap.size) (hs : I64 sc) (hi : I64 id) (he : e.Ok) (hT : Tabs w) :
    Calls Tryd.prog 26 #[.agg #[.int .i64 sc, .slice (some ⟨g, 0, none⟩) 2 2], .int .i64 id, e.val] w fun x w' => x = .returned (.tuple #[r.val, .int .i64 m]) ∧ RowKit.Below w.heap.size w w' := by
  have h := refSign_any g 2 sc (ringL f) id e w (by show (2 : Nat) ≤ 1000; omega) hk (ring_secret f) hg hs hi he hT
  unfold signV at h
  rw [hrn] at h
  exact h

set_option maxHeartbeats 4000000 in
set_option maxRecDepth 100000 in
theorem signs_any (A : Option Addr) (n c : Nat) (a b c' d : Int) (raw : Ent) (w : World) (ha : I64 a) (hb : I64 b) (hc : I64 c') (hd : I64 d)
    (hr : I64 raw.id ∧ I64 raw.school ∧ I64 raw.student ∧ I64 raw.kind ∧ I64 raw.day ∧ I64 raw.on ∧ I64 raw.credits ∧ I64 raw.grade ∧ I64 raw.ref ∧ I64 raw.fro ∧ I64 raw.programme ∧ I64 raw.version ∧ I64 raw.key)
    (hrc : raw.course.size ≤ 9223372036854775807) (hrm : raw.mark.size ≤ 9223372036854775807) (hi : IntsIn w.heap.size A n w) (ht : Tabs w) :
    Calls Tryd.prog 6 #[.slice A n c, .agg #[.int .i64 a, .int .i64 b, .int .i64 c', .int .i64 d], raw.val] w fun x w' => x = .returned (.bool true) ∧ RowKit.Below w.heap.size w w' := by
  have hrok : raw.cut.Ok := cut_ok raw hr (cut30 raw.course) (cut30 raw.mark) (Nat.le_trans (cut30_size _) (by omega)) (Nat.le_trans (cut30_size _) (by omega))
  go_enter Tryd.func6, Tryd.ntmps6
  go_wp2_with fail
  refine (sanity_any _ ((ht.alloc _).alloc _)).mono ?_
  rintro x w1 ⟨rfl, hb1⟩
  have hsz := hb1.size
  have hbw : RowKit.Below w.heap.size w w1 := (below2 w _ _).trans (hb1.mono (by simp; omega))
  have hq : w1.heap[w.heap.size]? = some (.cells #[.int .i64 a, .int .i64 b, .int .i64 c', .int .i64 d] 24 (0, 0)) := by
    rw [hb1.block _ (by rw [size_alloc, size_alloc]; omega)]; exact heap_keep (heap_alloc_new w _) _
  have hrb : EntBox w1 (w.heap.size + 1) raw := by
    unfold EntBox
    rw [hb1.block _ (by rw [size_alloc, size_alloc]; omega)]
    have := heap_alloc_new (w.alloc (.cells #[.int .i64 a, .int .i64 b, .int .i64 c', .int .i64 d] 24)) (.cells raw.cells 26)
    rw [size_alloc] at this; exact this
  clear hb1 hsz
  go_wp2_with fail
  have hI : ∀ w', RowKit.Below w1.heap.size w1 w' → IntsIn w'.heap.size A n w' := fun w' h => by
    have h2 : RowKit.Below w.heap.size w w' := hbw.trans (h.mono hbw.size)
    exact (hi.below h2).mono h2.size
  refine signs_r2 A n c w.heap.size (w.heap.size + 1) a b c' d raw w1 _ ha hb hc hd hrc hrm hq hrb hI ?_
  intro u18 u19 u20 u21 u22 u23 g cap es w4 hl hok hes hb4
  have hq4 := (hb4.block _ (lt_of_heap hq)).trans hq
  have hbx4 : RowKit.Below w.heap.size w w4 := hbw.trans (hb4.mono hbw.size)
  have hLok : ∀ e ∈ es ++ [raw.cut], e.Ok := by
    intro e he
    rcases List.mem_append.1 he with he | he
    · exact hok e he
    · simp only [List.mem_singleton] at he; subst he; exact hrok
  have hLl : (es ++ [raw.cut]).length = es.length + 1 := by simp
  generalize es ++ [raw.cut] = L at hes hLok hLl
  obtain ⟨A', cp, hA1, hA2⟩ := hes.form
  simp only [Value.slice.injEq] at hA1
  obtain ⟨g', rfl, hg0, hg1, hat4⟩ := hA2 (by omega)
  obtain ⟨hA1, hNL, rfl⟩ := hA1
  clear hNL
  simp only [Option.some.injEq, Addr.mk.injEq, and_true] at hA1
  subst hA1
  generalize hN : es.length + 1 = N at *
  have ht4 := ht.below hbx4
  have hba8 : 0 ≤ b % 8 ∧ b % 8 < 8 := by omega
  have hbI : -4611686018427387904 * 2 ≤ b ∧ b ≤ 9223372036854775807 := by have h8 := hb; unfold I64 at h8; omega
  have hwr : IntKind.i64.wrap (1 + b % 8) = 1 + b % 8 := IntWalk.i64_in _ (by omega)
  have hscI : I64 (1 + b % 8) := by unfold I64; omega
  have hids : ∀ x ∈ [1, 4, 2, a], I64 x := by
    intro x hx
    simp only [List.mem_cons, List.not_mem_nil, or_false] at hx
    rcases hx with rfl | rfl | rfl | rfl
    · unfold I64; omega
    · unfold I64; omega
    · unfold I64; omega
    · exact ha
  clear hr hrc hrm hb hc hd ha hes hA2 hok hb4 hq hrb hI hbw
  go_wp2_with fail
  have hNb : N ≤ 1001 := by omega
  have HN := Lib.hid hN
  have HLok := Lib.hid hLok
  have HLl := Lib.hid hLl
  have HAt := Lib.hid hat4
  clear hN hLok hLl hat4
  go_loopw [26] (fun i wr => ∃ (k : Nat), k ≤ N ∧ i = .int .i64 k ∧ RowKit.Below w4.heap.size w4 wr) (fun i _ => N - (intOf i).toNat)
  case atStart => exact ⟨0, Nat.zero_le _, rfl, Below.refl _ _⟩
  case round =>
    obtain ⟨k, hk, rfl, hgr⟩ := hrel
    obtain ⟨wo, rfl⟩ : ∃ w', w' = wr := ⟨_, rfl⟩
    by_cases hlt : k < N
    · have hmk : k < L.length := by have := HLl.out; have := HN.out; omega
      have he : L[k]? = some L[k] := List.getElem?_eq_getElem hmk
      have hok := HLok.out _ (List.getElem_mem hmk)
      generalize L[k] = e at he hok
      have hat5 : EntAt wo g (k * 15) e := (show EntAt w4 g (k * 15) e from fun j v hv => HAt.out k e he j v hv).below hgr hg1
      have hqlt : w.heap.size < wo.heap.size := by have h1 := lt_of_heap hq4; have h2 := hgr.size; omega
      have c0 : wo.cell? ⟨w.heap.size, 0, none⟩ = some (.int .i64 a) := (hgr.cell (p := ⟨w.heap.size, 0, none⟩) (lt_of_heap hq4)).trans (Lib.cell_of_heap hq4 0)
      have hab := EntBox.new wo e
      have hir := IntRow.new (wo.alloc (.cells e.cells 26)) [1, 4, 2, a]
      rw [size_alloc] at hir
      have hbB : RowKit.Below w4.heap.size w4 ((wo.alloc (.cells e.cells 26)).alloc (.cells ([1, 4, 2, a].map (Value.int .i64)).toArray 3)) := hgr.trans ((below2 wo _ _).mono hgr.size)
      have habB := hab.below (below_alloc1 _ (.cells ([1, 4, 2, a].map (Value.int .i64)).toArray 3))
      have hqB := (hbB.block _ (lt_of_heap hq4)).trans hq4
      clear he hmk
      go_wp2_with ((with_reducible refine wpList_load_mid (op := ⟨some 29, _, _, _, _, _⟩) ?_ 26 (.tmp 28) ?_ g (k * 15) ?_ (Ent.cells e).toList _ ?_ Tryd.underlying26 ?_ ?_ ?_); rfl; rfl; rfl; exact hat5; rfl; kernel_rfl)
      have hzz : wo.heap.size + 1 < ((wo.alloc (.cells e.cells 26)).alloc (.cells ([1, 4, 2, a].map (Value.int .i64)).toArray 3)).heap.size := by rw [size_alloc, size_alloc]; omega
      clear c0 hat5 hab
      go_loopw [35] (fun i wq => ∃ (j : Nat), j ≤ 4 ∧ i = .int .i64 j ∧ RowKit.Below ((wo.alloc (.cells e.cells 26)).alloc (.cells ([1, 4, 2, a].map (Value.int .i64)).toArray 3)).heap.size ((wo.alloc (.cells e.cells 26)).alloc (.cells ([1, 4, 2, a].map (Value.int .i64)).toArray 3)) wq) (fun i _ => 4 - (intOf i).toNat)
      case atStart => exact ⟨0, Nat.zero_le _, rfl, Below.refl _ _⟩
      case round =>
        obtain ⟨j, hj, rfl, hbq⟩ := hrel
        generalize (wo.alloc (.cells e.cells 26)).alloc (.cells ([1, 4, 2, a].map (Value.int .i64)).toArray 3) = W5 at *
        by_cases hjl : j < 4
        · have hc5 := (hbq.cell (p := ⟨wo.heap.size + 1, j, none⟩) hzz).trans (hir.cell (k := j) (by simpa using hjl))
          have hidI := hids _ (getD_mem (l := [1, 4, 2, a]) (k := j) (by simpa using hjl))
          generalize [1, 4, 2, a].getD j 0 = id at hc5 hidI
          have c1 : wr.cell? ⟨w.heap.size, 1, none⟩ = some (.int .i64 b) := (hbq.cell (p := ⟨w.heap.size, 1, none⟩) (lt_of_heap hqB)).trans (Lib.cell_of_heap hqB 1)
          have hab6 := habB.below hbq
          have hb6 := hbB.trans (hbq.mono hbB.size)
          have hT6 := ht4.below hb6
          go_wp2_with fail
          refine (mod_any b 8 _ (by omega) (by omega)).mono ?_
          rintro x w6 ⟨rfl, rfl⟩
          go_wp2_with fail
          refine (ring_any (1 + b % 8) (IntKind.u16.wrap id) _ (u16_in id)).mono ?_
          rintro x w6 ⟨g2, rfl, hg20, hg21, hks, hb7⟩
          generalize 1 + b % 8 = sc at *
          generalize IntKind.u16.wrap id % 1000 = f at hks
          have hb8 := hb7.trans ((below_alloc1 w6 (.cells #[.int .i64 sc, .slice (some ⟨g2, 0, none⟩) 2 2] 40)).mono hb7.size)
          have hab8 := hab6.below hb8
          have hat8 := hab8.at_
          have hr8 := heap_alloc_new w6 (.cells #[.int .i64 sc, .slice (some ⟨g2, 0, none⟩) 2 2] 40)
          have hks8 := hks.below (below_alloc1 w6 (.cells #[.int .i64 sc, .slice (some ⟨g2, 0, none⟩) 2 2] 40)) hg21
          have hg8 : g2 < (w6.alloc (.cells #[.int .i64 sc, .slice (some ⟨g2, 0, none⟩) 2 2] 40)).heap.size := by rw [size_alloc]; omega
          have hT8 := hT6.below hb8
          obtain ⟨r, m, hrn⟩ : ∃ r m, signE (ringL f) sc id e = (r, m) := ⟨_, _, rfl⟩
          have hS := sign_two g2 sc f id e r m hrn _ hks8 hg8 hscI hidI hok hT8
          have hS2 := refSign_two g2 sc f id e r m hrn
          clear hrn hc5 c1 hab6 hks
          go_wp2_with ((with_reducible refine wpList_load_mid (op := ⟨some 50, _, _, _, _, _⟩) ?_ 26 (.tmp 9) ?_ wo.heap.size 0 ?_ (Ent.cells e).toList _ ?_ Tryd.underlying26 ?_ ?_ ?_); rfl; rfl; rfl; exact hat8; rfl; kernel_rfl)
          refine hS.mono ?_
          rintro x w9 ⟨rfl, hb9⟩
          have hb10 := hb9.trans ((below_alloc1 w9 (.cells r.cells 26)).mono hb9.size)
          have hat10 := (hab8.below hb10).at_
          have hr9 := (hb9.block _ (lt_of_heap hr8)).trans hr8
          have hlt9 : w6.heap.size < w9.heap.size := lt_of_heap hr9
          have c20 : w9.cell? ⟨w6.heap.size, 0, none⟩ = some (.int .i64 sc) := Lib.cell_of_heap hr9 0
          have c21 : w9.cell? ⟨w6.heap.size, 1, none⟩ = some (.slice (some ⟨g2, 0, none⟩) 2 2) := Lib.cell_of_heap hr9 1
          have hrb10 := EntBox.new w9 r
          have hS3 := hS2 _ (hks8.below hb10 hg8) (by have := hb10.size; omega) hscI hidI hok (hT8.below hb10)
          clear hS hS2 hr9 hat8 hr8 hb9
          go_wp2_with ((with_reducible refine wpList_load_mid (op := ⟨some 57, _, _, _, _, _⟩) ?_ 26 (.tmp 9) ?_ wo.heap.size 0 ?_ (Ent.cells e).toList _ ?_ Tryd.underlying26 ?_ ?_ ?_); rfl; rfl; rfl; exact hat10; rfl; kernel_rfl)
          refine hS3.mono ?_
          rintro x w11 ⟨rfl, hb11⟩
          have hb12 := hb11.trans ((below_alloc1 w11 (.cells r.cells 26)).mono hb11.size)
          have hat12 := (hrb10.below hb12).at_
          have hat13 := (EntBox.new w11 r).at_
          have hbF := hbq.trans ((hb8.trans ((hb10.trans (hb12.mono hb10.size)).mono hb8.size)).mono hbq.size)
          clear hS3 hrb10 hat10 c20 c21 hks8 hab8 hb11 hb12
          go_wp2_with (first
            | ((with_reducible refine wpList_load_mid (op := ⟨some 61, _, _, _, _, _⟩) ?_ 26 (.tmp 13) ?_ w9.heap.size 0 ?_ (Ent.cells r).toList _ ?_ Tryd.underlying26 ?_ ?_ ?_); rfl; rfl; rfl; exact hat12; rfl; kernel_rfl)
            | ((with_reducible refine wpList_load_mid (op := ⟨some 62, _, _, _, _, _⟩) ?_ 26 (.tmp 15) ?_ w11.heap.size 0 ?_ (Ent.cells r).toList _ ?_ Tryd.underlying26 ?_ ?_ ?_); rfl; rfl; rfl; exact hat13; rfl; kernel_rfl))
          go_roundw
          case rel => exact ⟨j + 1, by omega, by go_num, hbF⟩
          case measure => simp [intOf]; omega
        · obtain rfl : j = 4 := by omega
          have hbF := hbB.trans (hbq.mono hbB.size)
          go_wp2_with fail
          go_roundw
          case rel => first | exact ⟨k + 1, by omega, by go_num, hbF⟩ | ((repeat apply Exists.intro); exact ⟨⟨k + 1, by omega, by go_num, hbF⟩, rfl⟩)
          case measure => simp [intOf]; omega
    · obtain rfl : k = N := by omega
      go_wp2_with fail
      go_ret
      exact ⟨rfl, hbx4.trans (hgr.mono hbx4.size)⟩
end Go.Proofs.YtnkbelbalaeieaaDoor
