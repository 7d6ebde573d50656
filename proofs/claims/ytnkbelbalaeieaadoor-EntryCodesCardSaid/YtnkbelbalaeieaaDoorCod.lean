/- quadriviumlaw10.EntryCodes, walked. -/
import Derived.Test.YtnkbelbalaeieaaDoorBodH
import Derived.Test.YtnkbelbalaeieaaDoorBodL
import Derived.Test.YtnkbelbalaeieaaDoorDecP
import Derived.Test.YtnkbelbalaeieaaDoorDecR
import Derived.Test.YtnkbelbalaeieaaDoorApp
namespace Go.Proofs.YtnkbelbalaeieaaDoor
open Go Go.RowKit Go.Sort Go.Lib
attribute [local go_sem] Ent.cells
attribute [local go_sem ↓] ent_eql_cells

theorem cod_keep {W w' : World} {rb : Nat} {raw : Ent} (hr : EntBox W rb raw) (hb : RowKit.Below W.heap.size W w') : RowKit.Below W.heap.size W w' ∧ (∀ j, w'.cell? ⟨rb, j, none⟩ = raw.cells[j]?) := ⟨hb, (hr.below hb).cell⟩
theorem cod_next {W w w' : World} {rb : Nat} {raw : Ent} {R : Prop} (hr : EntBox W rb raw) (hb : RowKit.Below W.heap.size W w ∧ R) (h : RowKit.Below w.heap.size w w') : RowKit.Below W.heap.size W w' ∧ (∀ j, w'.cell? ⟨rb, j, none⟩ = raw.cells[j]?) := cod_keep hr (hb.1.trans (h.mono hb.1.size))
theorem made2_any (A : Option Addr) (n c : Nat) (w : World) (hi : IntsIn w.heap.size A n w) : Calls Tryd.prog 22 #[.slice A n c, .int .i64 2] w (SomePost w) := by
  refine (made_any A n c 2 w (by omega) hi).mono ?_
  rintro x w' ⟨v, es, rfl, hok, hes, hb⟩
  exact ⟨v, es, rfl, by have := hok.len; omega, fun e he => (hok.good e he).ok (by omega), hes, hb⟩
theorem flow_run' {P : Program} {ops : Array Oper} {Q : Exit → Act → World → Prop} {S : World → Prop} {i : Nat} {σ : List (Nat × Bool)} {a : Act} {w : World} (oi : Oper) (v : Value) (w' : World) (hi : ops[i]? = some oi) (hw : Region.wanted oi (yielded ops a.tmps) = true) (hr : (execOp a.eval oi).run P w = .ok (.value v) w') (hS : S w')
    (h : wpFlow P ops Q S σ (a.put oi.dst v) w') : wpFlow P ops Q S ((i, false) :: σ) a w :=
  flow_op oi hi hw (by unfold Oper.wp; rw [hr, Oper.upon_value]; exact ⟨hS, h⟩)

set_option maxHeartbeats 4000000 in
set_option maxRecDepth 100000 in
theorem codes_r2 {s1 s2 s3 s5 s6 s7 s8 s9 s10 s11 s12 s13 s14 s15 s16 s17 s18 s19 s20 s21 s22 s23 s24 s25 s26 s27 s28 s29 s30 s31 s32 s33 s34 s35 s36 s37 s38 s39 s40 s41 s42 s43 s44 s45 s46 s47 s48 s49 s50 s51 s52 s53 s54 s55 s56 s57 s58 s59 s60 s61 s62 s63 s64 s65 s66 s67 s68 s69 s70 s71 s72 s73 s74 s75 s76 s77 s78 s79 s80 s81 s82 s83 s84 s85 s86 s87 s88 : Value} (A : Option Addr) (n c rb : Nat) (raw : Ent) (W : World) (Q : Exit → Act → World → Prop) (hrc : raw.course.size ≤ 9223372036854775807) (hrm : raw.mark.size ≤ 9223372036854775807) (hr : EntBox W rb raw) (hI : ∀ w', RowKit.Below W.heap.size W w' → IntsIn w'.heap.size A n w')
    (hQ : ∀ (u20 u21 u22 u23 u24 : Value) (g cap : Nat) (es : List Ent) (wx : World), es.length ≤ 1000 → (∀ e ∈ es, Ent.Ok e) → Ents W.heap.size wx (.slice (some ⟨g, 0, none⟩) (es.length + 1) cap) (es ++ [raw.cut]) → RowKit.Below W.heap.size W wx → Q .normal ⟨List.toArray (.slice A n c :: s1 :: s2 :: s3 :: .pointer (some ⟨rb, 0, none⟩) :: s5 :: s6 :: s7 :: s8 :: s9 :: s10 :: s11 :: s12 :: s13 :: s14 :: s15 :: s16 :: s17 :: s18 :: s19 :: u20 :: u21 :: u22 :: u23 :: u24 :: .slice (some ⟨g, 0, none⟩) (es.length + 1) cap :: .int .i64 ((es.length + 1 : Nat) : Int) :: .int .i64 0 :: s28 :: s29 :: s30 :: s31 :: s32 :: s33 :: s34 :: s35 :: s36 :: s37 :: s38 :: s39 :: s40 :: s41 :: s42 :: s43 :: s44 :: s45 :: s46 :: s47 :: s48 :: s49 :: s50 :: s51 :: s52 :: s53 :: s54 :: s55 :: s56 :: s57 :: s58 :: s59 :: s60 :: s61 :: s62 :: s63 :: s64 :: s65 :: s66 :: s67 :: s68 :: s69 :: s70 :: s71 :: s72 :: s73 :: s74 :: s75 :: s76 :: s77 :: s78 :: s79 :: s80 :: s81 :: s82 :: s83 :: s84 :: s85 :: s86 :: s87 :: s88 :: []), []⟩ wx) :
    (regionOf Tryd.f8 2).wp Tryd.prog Q ⟨List.toArray (.slice A n c :: s1 :: s2 :: s3 :: .pointer (some ⟨rb, 0, none⟩) :: s5 :: s6 :: s7 :: s8 :: s9 :: s10 :: s11 :: s12 :: s13 :: s14 :: s15 :: s16 :: s17 :: s18 :: s19 :: s20 :: s21 :: s22 :: s23 :: s24 :: s25 :: s26 :: s27 :: s28 :: s29 :: s30 :: s31 :: s32 :: s33 :: s34 :: s35 :: s36 :: s37 :: s38 :: s39 :: s40 :: s41 :: s42 :: s43 :: s44 :: s45 :: s46 :: s47 :: s48 :: s49 :: s50 :: s51 :: s52 :: s53 :: s54 :: s55 :: s56 :: s57 :: s58 :: s59 :: s60 :: s61 :: s62 :: s63 :: s64 :: s65 :: s66 :: s67 :: s68 :: s69 :: s70 :: s71 :: s72 :: s73 :: s74 :: s75 :: s76 :: s77 :: s78 :: s79 :: s80 :: s81 :: s82 :: s83 :: s84 :: s85 :: s86 :: s87 :: s88 :: []), []⟩ W := by
  refine of_onlyN (K := Q .normal) ?_ (fun _ _ h => h)
  generalize Q .normal = K at hQ ⊢
  have HQ := Lib.hid hQ; clear hQ
  conv => arg 2; whnf
  obtain ⟨i0, hi0, hz0, hz1, hz2⟩ := info_parts ent_info
  have hbd : RowKit.Below W.heap.size W W.drew := (Below.refl W.heap.size W).drew
  have hS0 := cod_keep hr hbd
  go_region_held3 (fun w' => RowKit.Below W.heap.size W w' ∧ (∀ j, w'.cell? ⟨rb, j, none⟩ = raw.cells[j]?)) (first | exact hS0 | exact hSs | exact hSc | exact cod_keep hr ((cod_next hr hSc (below_alloc1 wc (.cells raw.cut.cells 26))).1.grown hgrow (by simp; have := hSc.1.size; omega) (fun q hq => (World.ownsRow.lt hes q hq).1)) | exact cod_next hr hSc (below_alloc1 wc (.cells raw.cut.cells 26)))
    (first
      | ((with_reducible refine (made2_any A n c _ (hI _ (And.left (by assumption)))).mono ?_); rintro x ws ⟨v, es, rfl, hl, hok, hes, hbs⟩; have hSs := cod_next hr (by assumption) hbs; replace hes := bod_own hes (by assumption))
      | ((with_reducible refine (cut_any raw _ hrc hrm).mono ?_); rintro x wc ⟨rfl, hbc⟩; have hSc := cod_next hr (by assumption) hbc)
      | (refine step_append_lies _ (by rfl) (.tmp 21) (.tmp 24) 28 (by rfl) W.heap.size 26 i0 _ 15 136 Tryd.underlying28 hi0 hz0 hz1 hz2 rfl (by decide) v es.length (entCells es) (by rfl) ((hes.below hbc).below (below_alloc1 wc (.cells raw.cut.cells 26))) ⟨wc.heap.size, 0, none⟩ 1 1 raw.cut.cells.toList (by rfl) rfl (World.news_of_block (heap_alloc_new wc (.cells raw.cut.cells 26))) (ent_one raw.cut) (by decide) (by unfold maxLen; omega) (by omega) (by simp; have := hSc.1.size; omega) _ rfl ?_; intro g cap w5 hown5 hgrow hat hlt))
  refine HQ.out _ _ _ _ _ g cap es w5 hl hok ?_ ((cod_next hr hSc (below_alloc1 wc (.cells raw.cut.cells 26))).1.grown hgrow (by simp; have := hSc.1.size; omega) (fun q hq => (World.ownsRow.lt hes q hq).1))
  unfold Ents
  rw [← entCells_snoc, List.length_append]
  exact hown5

theorem half_in (n : Nat) (h : n ≤ 1000000) : Int.tdiv (n : Int) 2 = ((n / 2 : Nat) : Int) := by
  rw [Int.tdiv_eq_ediv_of_nonneg (by omega)]; omega
theorem cod_three {W w w' : World} {p q r : Addr} {u v x : Value} (h : RowKit.Below W.heap.size W w ∧ w.cell? p = some u ∧ w.cell? q = some v ∧ w.cell? r = some x) (hb : RowKit.Below w.heap.size w w') :
    RowKit.Below W.heap.size W w' ∧ w'.cell? p = some u ∧ w'.cell? q = some v ∧ w'.cell? r = some x :=
  ⟨h.1.trans (hb.mono h.1.size), (hb.cell (World.block_lt_of_cell? w _ h.2.1)).trans h.2.1, (hb.cell (World.block_lt_of_cell? w _ h.2.2.1)).trans h.2.2.1, (hb.cell (World.block_lt_of_cell? w _ h.2.2.2)).trans h.2.2.2⟩
/-- The four texts that are read. -/
theorem four_cells {w : World} {b : Nat} {x0 x1 x2 x3 : ByteArray} (h : w.heap[b]? = some (.cells #[.string x0, .string x1, .string x2, .string x3] 9 (0, 0))) (h0 : x0.size ≤ 1000000) (h1 : x1.size ≤ 1000000) (h2 : x2.size ≤ 1000000) (h3 : x3.size ≤ 1000000) (j : Nat) (hj : j < 4) :
    ∃ x : ByteArray, w.cell? ⟨b, j, none⟩ = some (.string x) ∧ x.size ≤ 1000000 := by
  match j, hj with
  | 0, _ => exact ⟨x0, Lib.cell_of_heap h 0, h0⟩
  | 1, _ => exact ⟨x1, Lib.cell_of_heap h 1, h1⟩
  | 2, _ => exact ⟨x2, Lib.cell_of_heap h 2, h2⟩
  | 3, _ => exact ⟨x3, Lib.cell_of_heap h 3, h3⟩

set_option maxHeartbeats 8000000 in
set_option maxRecDepth 100000 in
theorem entryCodes_any (A : Option Addr) (n c : Nat) (raw : Ent) (at_ ct : Int) (inn : ByteArray) (w : World) (hat_ : 0 ≤ at_ ∧ at_ < 65536) (hct : 0 ≤ ct ∧ ct < 256) (hinn : inn.size ≤ 9223372036854775807)
    (hr : I64 raw.id ∧ I64 raw.school ∧ I64 raw.student ∧ I64 raw.kind ∧ I64 raw.day ∧ I64 raw.on ∧ I64 raw.credits ∧ I64 raw.grade ∧ I64 raw.ref ∧ I64 raw.fro ∧ I64 raw.programme ∧ I64 raw.version ∧ I64 raw.key)
    (hrc : raw.course.size ≤ 9223372036854775807) (hrm : raw.mark.size ≤ 9223372036854775807) (hi : IntsIn w.heap.size A n w) (ht : Wr.Ready w) :
    Calls Tryd.prog 8 #[.slice A n c, raw.val, .agg #[.int .u16 at_, .int .u8 ct, .string inn]] w fun x w' => x = .returned (.bool true) ∧ RowKit.Below w.heap.size w w' := by
  have hrok : raw.cut.Ok := cut_ok raw hr (cut30 raw.course) (cut30 raw.mark) (Nat.le_trans (cut30_size _) (by omega)) (Nat.le_trans (cut30_size _) (by omega))
  have hT := ht.sane.1
  go_enter Tryd.func8, Tryd.ntmps8
  go_wp2_with fail
  refine (sanity_any _ ((hT.alloc _).alloc _)).mono ?_
  rintro x w1 ⟨rfl, hb1⟩
  have hsz := hb1.size
  have hbw : RowKit.Below w.heap.size w w1 := (below2 w _ _).trans (hb1.mono (by simp; omega))
  have hrb : EntBox w1 w.heap.size raw := by
    unfold EntBox
    rw [hb1.block _ (by rw [size_alloc, size_alloc]; omega)]; exact heap_keep (heap_alloc_new w _) _
  have hcb : w1.heap[w.heap.size + 1]? = some (.cells #[.int .u16 at_, .int .u8 ct, .string inn] 49 (0, 0)) := by
    rw [hb1.block _ (by rw [size_alloc, size_alloc]; omega)]
    have := heap_alloc_new (w.alloc (.cells raw.cells 26)) (.cells #[.int .u16 at_, .int .u8 ct, .string inn] 49)
    rw [size_alloc] at this; exact this
  clear hb1 hsz
  go_wp2_with fail
  have hI : ∀ w', RowKit.Below w1.heap.size w1 w' → IntsIn w'.heap.size A n w' := fun w' h => by
    have h2 : RowKit.Below w.heap.size w w' := hbw.trans (h.mono hbw.size)
    exact (hi.below h2).mono h2.size
  refine codes_r2 A n c w.heap.size raw w1 _ hrc hrm hrb hI ?_
  intro u20 u21 u22 u23 u24 g cap es w4 hl hok hes hb4
  have hc4 := (hb4.block _ (lt_of_heap hcb)).trans hcb
  have hbx4 : RowKit.Below w.heap.size w w4 := hbw.trans (hb4.mono hbw.size)
  have hLok : ∀ e ∈ es ++ [raw.cut], e.Ok := by
    intro e he
    rcases List.mem_append.1 he with he | he
    · exact hok e he
    · simp only [List.mem_singleton] at he; subst he; exact hrok
  have hLl : (es ++ [raw.cut]).length = es.length + 1 := by simp
  generalize es ++ [raw.cut] = L at hes hLok hLl
  obtain ⟨A', cp, hA1, hA2⟩ := hes.form
  simp only [Value.slice.injEq] at hA1
  obtain ⟨g', rfl, hg0, hg1, hat4⟩ := hA2 (by omega)
  obtain ⟨hA1, hNL, rfl⟩ := hA1
  clear hNL
  simp only [Option.some.injEq, Addr.mk.injEq, and_true] at hA1
  subst hA1
  generalize hN : es.length + 1 = N at *
  have ht4 := ht.below hbx4
  obtain ⟨m, hm⟩ : ∃ m, min inn.size 20 = m := ⟨_, rfl⟩
  have hmn1 : min (inn.size : Int) 20 = (m : Int) := by omega
  have hmle : m ≤ inn.size := by omega
  have hm20 : m ≤ 20 := by omega
  clear hr hrc hrm hes hA2 hok hb4 hcb hrb hI hbw hT ht hi hm
  go_wp2_with fail
  have hNb : N ≤ 1001 := by omega
  have HN := Lib.hid hN
  have HLok := Lib.hid hLok
  have HLl := Lib.hid hLl
  have HAt := Lib.hid hat4
  clear hN hLok hLl hat4
  go_loopw [27] (fun i wr => ∃ (k : Nat), k ≤ N ∧ i = .int .i64 k ∧ RowKit.Below w4.heap.size w4 wr) (fun i _ => N - (intOf i).toNat)
  case atStart => exact ⟨0, Nat.zero_le _, rfl, Below.refl _ _⟩
  case round =>
    obtain ⟨k, hk, rfl, hgr⟩ := hrel
    obtain ⟨wo, rfl⟩ : ∃ w', w' = wr := ⟨_, rfl⟩
    by_cases hlt : k < N
    · have hmk : k < L.length := by have := HLl.out; have := HN.out; omega
      have he : L[k]? = some L[k] := List.getElem?_eq_getElem hmk
      have hok := HLok.out _ (List.getElem_mem hmk)
      generalize L[k] = e at he hok
      have hat5 : EntAt wo g (k * 15) e := (show EntAt w4 g (k * 15) e from fun j v hv => HAt.out k e he j v hv).below hgr hg1
      have hab := EntBox.new wo e
      have hb5 := hgr.trans ((below_alloc1 wo (.cells e.cells 26)).mono hgr.size)
      have ht5 := ht4.below hb5
      have hat6 := hab.at_
      clear he hmk
      go_wp2_with (first
        | ((with_reducible refine wpList_load_mid (op := ⟨some 30, _, _, _, _, _⟩) ?_ 26 (.tmp 29) ?_ g (k * 15) ?_ (Ent.cells e).toList _ ?_ Tryd.underlying26 ?_ ?_ ?_); rfl; rfl; rfl; exact hat5; rfl; kernel_rfl)
        | ((with_reducible refine wpList_load_mid (op := ⟨some 31, _, _, _, _, _⟩) ?_ 26 (.tmp 9) ?_ wo.heap.size 0 ?_ (Ent.cells e).toList _ ?_ Tryd.underlying26 ?_ ?_ ?_); rfl; rfl; rfl; exact hat6; rfl; kernel_rfl))
      have hEnc := encode_any e hok (wo.alloc (.cells e.cells 26)) ht5.sane.1
      have hlen : e.code.length ≤ 262144 := by
        have h1 := body_len e hok
        have h2 := wText_len e.mark (by have := hok.mark; omega)
        have h3 := hok.course
        have h4 := hok.mark
        show (e.body ++ wText e.mark).length ≤ _
        rw [List.length_append]
        omega
      have hdec := decR_code e hok hlen
      refine hEnc.mono ?_
      rintro x w7 ⟨rfl, hb7⟩
      obtain ⟨E, hE⟩ : ∃ E : ByteArray, E = ⟨e.code.toArray⟩ := ⟨_, rfl⟩
      have hEl : E.data.toList = e.code := by rw [hE]
      have hEs : E.size ≤ 262144 := by rw [hE]; exact hlen
      rw [← hE]
      have hb8 := hb5.trans (hb7.mono hb5.size)
      have ht8 := ht4.below hb8
      have hab8 := hab.below hb7
      have hdc : Calls Tryd.prog 28 #[.string E] w7 fun x w' => x = .returned (.tuple #[e.val, .int .i64 0]) ∧ RowKit.Below w7.heap.size w7 w' := by
        have h := decode_any E (by omega) w7 ht8
        unfold decV at h
        rw [hEl, hdec] at h
        exact h
      clear hE hEl hEnc hdec hlen hat5 hat6 hab hb5 ht5 hb7
      go_wp2_with fail
      refine hdc.mono ?_
      rintro x w9 ⟨rfl, hb9⟩
      have hA9 := below_alloc1 w9 (.cells e.cells 26)
      have hb10 := hb8.trans (((hb9.trans (hA9.mono hb9.size))).mono hb8.size)
      have hab10 := (hab8.below hb9).below hA9
      have hat10 := hab10.at_
      have hat11 := (EntBox.new w9 e).at_
      clear hdc hab8
      go_wp2_with (first
        | ((with_reducible refine wpList_load_g (op := ⟨some 41, _, _, _, _, _⟩) ?_ 26 (.tmp 11) ?_ w9.heap.size 0 ?_ (Ent.cells e).toList _ ?_ Tryd.underlying26 ?_ ?_ ?_); rfl; rfl; rfl; exact hat11; rfl; kernel_rfl)
        | ((with_reducible refine wpList_load_g (op := ⟨some 42, _, _, _, _, _⟩) ?_ 26 (.tmp 9) ?_ wo.heap.size 0 ?_ (Ent.cells e).toList _ ?_ Tryd.underlying26 ?_ ?_ ?_); rfl; rfl; rfl; exact hat10; rfl; kernel_rfl)
        | ((with_reducible refine wpList_load_mid (op := ⟨some 41, _, _, _, _, _⟩) ?_ 26 (.tmp 11) ?_ w9.heap.size 0 ?_ (Ent.cells e).toList _ ?_ Tryd.underlying26 ?_ ?_ ?_); rfl; rfl; rfl; exact hat11; rfl; kernel_rfl)
        | ((with_reducible refine wpList_load_mid (op := ⟨some 42, _, _, _, _, _⟩) ?_ 26 (.tmp 9) ?_ wo.heap.size 0 ?_ (Ent.cells e).toList _ ?_ Tryd.underlying26 ?_ ?_ ?_); rfl; rfl; rfl; exact hat10; rfl; kernel_rfl))
      have hc10 := (hb10.block _ (lt_of_heap hc4)).trans hc4
      have hhalf := half_in E.size (by omega)
      have hhf : E.size / 2 ≤ E.size := Nat.div_le_self _ _
      clear hat10 hat11 hab10 hb9 hA9 hb8 ht8
      have hcatE : ¬ 9223372036854775807 < E.size + 2 := by omega
      obtain ⟨hf, hhq⟩ : ∃ hf, E.size / 2 = hf := ⟨_, rfl⟩
      rw [hhq] at hhalf hhf
      have hwq : IntKind.i64.wrap (hf : Int) = hf := IntWalk.i64_in _ (by omega)
      clear hhq
      have hS0 : RowKit.Below (w9.alloc (.cells e.cells 26)).heap.size (w9.alloc (.cells e.cells 26)) (w9.alloc (.cells e.cells 26)).drew ∧ (w9.alloc (.cells e.cells 26)).drew.cell? ⟨w.heap.size + 1, 0, none⟩ = some (.int .u16 at_) ∧ (w9.alloc (.cells e.cells 26)).drew.cell? ⟨w.heap.size + 1, 1, none⟩ = some (.int .u8 ct) ∧ (w9.alloc (.cells e.cells 26)).drew.cell? ⟨w.heap.size + 1, 2, none⟩ = some (.string inn) := ⟨(Below.refl _ _).drew, Lib.cell_of_heap hc10 0, Lib.cell_of_heap hc10 1, Lib.cell_of_heap hc10 2⟩
      refine of_onlyN ?_ (fun _ _ h => h)
      refine wp_region_flow (S := fun w' => RowKit.Below (w9.alloc (.cells e.cells 26)).heap.size (w9.alloc (.cells e.cells 26)) w' ∧ w'.cell? ⟨w.heap.size + 1, 0, none⟩ = some (.int .u16 at_) ∧ w'.cell? ⟨w.heap.size + 1, 1, none⟩ = some (.int .u8 ct) ∧ w'.cell? ⟨w.heap.size + 1, 2, none⟩ = some (.string inn)) [(0, true), (1, true), (3, true), (4, true), (5, true), (6, true), (7, true), (8, true), (9, true), (10, true), (11, true), (12, true), (13, true), (14, true), (15, true), (16, true), (19, true), (2, false), (17, false), (18, true)] (by kernel_rfl) (by kernel_rfl) (by kernel_rfl) (by decide) (hS0) ?_
      have hS := hS0
      refine flow_take ⟨some 45, _, _, _, _, _⟩ ?_ rfl (by rfl) ?_ ?_
      rotate_left 1
      · intro w hSw; (try dsimp only at hSw); go_simp; (try with_reducible rfl)
      simp only [Act.put, List.setIfInBounds_toArray, List.set_cons_zero, List.set_cons_succ]
      refine flow_take ⟨some 46, _, _, _, _, _⟩ ?_ rfl (by rfl) ?_ ?_
      rotate_left 1
      · intro w hSw; (try dsimp only at hSw); go_simp; (try with_reducible rfl)
      simp only [Act.put, List.setIfInBounds_toArray, List.set_cons_zero, List.set_cons_succ]
      refine flow_take ⟨some 48, _, _, _, _, _⟩ ?_ rfl (by rfl) ?_ ?_
      rotate_left 1
      · intro w hSw; (try dsimp only at hSw); go_simp; (try with_reducible rfl)
      simp only [Act.put, List.setIfInBounds_toArray, List.set_cons_zero, List.set_cons_succ]
      refine flow_take ⟨some 49, _, _, _, _, _⟩ ?_ rfl (by rfl) ?_ ?_
      rotate_left 1
      · intro w hSw; (try dsimp only at hSw); go_simp; (try with_reducible rfl)
      simp only [Act.put, List.setIfInBounds_toArray, List.set_cons_zero, List.set_cons_succ]
      refine flow_take ⟨some 50, _, _, _, _, _⟩ ?_ rfl (by rfl) ?_ ?_
      rotate_left 1
      · intro w hSw; (try dsimp only at hSw); go_simp; (try with_reducible rfl)
      simp only [Act.put, List.setIfInBounds_toArray, List.set_cons_zero, List.set_cons_succ]
      refine flow_take ⟨some 51, _, _, _, _, _⟩ ?_ rfl (by rfl) ?_ ?_
      rotate_left 1
      · intro w hSw; (try dsimp only at hSw); go_simp; (try with_reducible rfl)
      simp only [Act.put, List.setIfInBounds_toArray, List.set_cons_zero, List.set_cons_succ]
      refine flow_take ⟨some 52, _, _, _, _, _⟩ ?_ rfl (by rfl) ?_ ?_
      rotate_left 1
      · intro w hSw; (try dsimp only at hSw); go_simp; (try with_reducible rfl)
      simp only [Act.put, List.setIfInBounds_toArray, List.set_cons_zero, List.set_cons_succ]
      refine flow_take ⟨some 53, _, _, _, _, _⟩ ?_ rfl (by rfl) ?_ ?_
      rotate_left 1
      · intro w hSw; (try dsimp only at hSw); go_simp; (try with_reducible rfl)
      simp only [Act.put, List.setIfInBounds_toArray, List.set_cons_zero, List.set_cons_succ]
      refine flow_take ⟨some 54, _, _, _, _, _⟩ ?_ rfl (by rfl) ?_ ?_
      rotate_left 1
      · intro w hSw; (try dsimp only at hSw); go_simp; (try with_reducible rfl)
      simp only [Act.put, List.setIfInBounds_toArray, List.set_cons_zero, List.set_cons_succ]
      refine flow_take ⟨some 55, _, _, _, _, _⟩ ?_ rfl (by rfl) ?_ ?_
      rotate_left 1
      · intro w hSw; (try dsimp only at hSw); go_simp; (try with_reducible rfl)
      simp only [Act.put, List.setIfInBounds_toArray, List.set_cons_zero, List.set_cons_succ]
      refine flow_take ⟨some 56, _, _, _, _, _⟩ ?_ rfl (by rfl) ?_ ?_
      rotate_left 1
      · intro w hSw; (try dsimp only at hSw); go_simp; (try with_reducible rfl)
      simp only [Act.put, List.setIfInBounds_toArray, List.set_cons_zero, List.set_cons_succ]
      refine flow_take ⟨some 57, _, _, _, _, _⟩ ?_ rfl (by rfl) ?_ ?_
      rotate_left 1
      · intro w hSw; (try dsimp only at hSw); go_simp; (try with_reducible rfl)
      simp only [Act.put, List.setIfInBounds_toArray, List.set_cons_zero, List.set_cons_succ]
      refine flow_take ⟨some 58, _, _, _, _, _⟩ ?_ rfl (by rfl) ?_ ?_
      rotate_left 1
      · intro w hSw; (try dsimp only at hSw); go_simp; (try with_reducible rfl)
      simp only [Act.put, List.setIfInBounds_toArray, List.set_cons_zero, List.set_cons_succ]
      refine flow_take ⟨some 59, _, _, _, _, _⟩ ?_ rfl (by rfl) ?_ ?_
      rotate_left 1
      · intro w hSw; (try dsimp only at hSw); go_simp; (try with_reducible rfl)
      simp only [Act.put, List.setIfInBounds_toArray, List.set_cons_zero, List.set_cons_succ]
      refine flow_take ⟨some 60, _, _, _, _, _⟩ ?_ rfl (by rfl) ?_ ?_
      rotate_left 1
      · intro w hSw; (try dsimp only at hSw); go_simp; (try with_reducible rfl)
      simp only [Act.put, List.setIfInBounds_toArray, List.set_cons_zero, List.set_cons_succ]
      refine flow_take ⟨some 61, _, _, _, _, _⟩ ?_ rfl (by rfl) ?_ ?_
      rotate_left 1
      · intro w hSw; (try dsimp only at hSw); go_simp; (try with_reducible rfl)
      simp only [Act.put, List.setIfInBounds_toArray, List.set_cons_zero, List.set_cons_succ]
      refine flow_take ⟨some 64, _, _, _, _, _⟩ ?_ rfl (by rfl) ?_ ?_
      rotate_left 1
      · intro w hSw; (try dsimp only at hSw); go_simp; (try with_reducible rfl)
      simp only [Act.put, List.setIfInBounds_toArray, List.set_cons_zero, List.set_cons_succ]
      refine flow_call ⟨some 47, _, _, _, _, _⟩ rfl (by rfl) 29 _ _ (by rfl) _ (by rfl) Tryd.call29 (apply_any at_ ct inn E _ hat_ hct hinn (by omega)) ?_; rintro x wn ⟨t, rfl, htz, hb⟩; replace hS := cod_three hS hb; refine ⟨_, rfl, hS, ?_⟩; (try clear hb)
      simp only [Act.put, List.setIfInBounds_toArray, List.set_cons_zero, List.set_cons_succ]
      refine flow_run' ⟨some 62, _, _, _, _, _⟩ (.slice (some ⟨wn.heap.size, 0, none⟩) 4 4) (wn.alloc (.cells #[.string t, .string (E ++ ⟨#[48, 58]⟩), .string (E.extract 0 hf), .string (inn.extract 0 m)] 9)) rfl (by rfl) (by go_simp) (cod_three hS (below_alloc1 _ _)) ?_; have hrow := heap_alloc_new wn (.cells #[.string t, .string (E ++ ⟨#[48, 58]⟩), .string (E.extract 0 hf), .string (inn.extract 0 m)] 9); replace hS := cod_three hS (below_alloc1 wn (.cells #[.string t, .string (E ++ ⟨#[48, 58]⟩), .string (E.extract 0 hf), .string (inn.extract 0 m)] 9))
      simp only [Act.put, List.setIfInBounds_toArray, List.set_cons_zero, List.set_cons_succ]
      refine flow_take ⟨some 63, _, _, _, _, _⟩ ?_ rfl (by rfl) ?_ ?_
      rotate_left 1
      · intro w hSw; (try dsimp only at hSw); go_simp; (try with_reducible rfl)
      simp only [Act.put, List.setIfInBounds_toArray, List.set_cons_zero, List.set_cons_succ]
      simp only [wpFlow, OnlyN]
      have hbS := hS.1
      clear hS hS0 hc10
      have e1 : (E ++ (⟨#[48, 58]⟩ : ByteArray)).size ≤ 1000000 := by rw [append_size]; show E.size + 2 ≤ _; omega
      have e2 : (E.extract 0 hf).size ≤ 1000000 := by rw [ByteArray.size_extract]; omega
      have e3 : (inn.extract 0 m).size ≤ 1000000 := by rw [ByteArray.size_extract]; omega
      have hfour := fun w' (hb : RowKit.Below (wn.alloc (.cells #[.string t, .string (E ++ ⟨#[48, 58]⟩), .string (E.extract 0 hf), .string (inn.extract 0 m)] 9)).heap.size (wn.alloc (.cells #[.string t, .string (E ++ ⟨#[48, 58]⟩), .string (E.extract 0 hf), .string (inn.extract 0 m)] 9)) w') j hj => four_cells ((hb.block _ (lt_of_heap hrow)).trans hrow) (by omega) e1 e2 e3 j hj
      clear e1 e2 e3 hrow htz
      have hb11 := hb10.trans (hbS.mono hb10.size)
      have ht11 := ht4.below hb11
      generalize (wn.alloc (.cells #[.string t, .string (E ++ ⟨#[48, 58]⟩), .string (E.extract 0 hf), .string (inn.extract 0 m)] 9)) = W3 at *
      generalize wn.heap.size = rb3 at *
      go_wp2_with fail
      go_loopw [64] (fun i wr => ∃ (j : Nat), j ≤ 4 ∧ i = .int .i64 j ∧ RowKit.Below W3.heap.size W3 wr) (fun i _ => 4 - (intOf i).toNat)
      case atStart => exact ⟨0, Nat.zero_le _, rfl, Below.refl _ _⟩
      case round =>
        obtain ⟨j, hj, rfl, hbq⟩ := hrel
        by_cases hjl : j < 4
        · obtain ⟨x, hcx, hxs⟩ := hfour wr hbq j hjl
          have d1 := decode_any x hxs wr (ht11.below hbq)
          have d2 := refDecode_any x hxs
          obtain ⟨r, q, hrq⟩ : ∃ r q, decR x.data.toList = (r, q) := ⟨_, _, rfl⟩
          unfold decV at d1 d2
          rw [hrq] at d1 d2
          clear hrq
          go_wp2_with fail
          refine d1.mono ?_
          rintro y w5 ⟨rfl, hb5⟩
          have hA5 := below_alloc1 w5 (.cells r.cells 26)
          have hb6 := hb5.trans (hA5.mono hb5.size)
          have hbx6 := EntBox.new w5 r
          clear d1 hcx
          go_wp2_with fail
          refine (d2 _).mono ?_
          rintro y w7 ⟨rfl, hb7⟩
          have hA7 := below_alloc1 w7 (.cells r.cells 26)
          have hb8 := hb6.trans ((hb7.trans (hA7.mono hb7.size)).mono hb6.size)
          have hbF := hbq.trans (hb8.mono hbq.size)
          have hat7 := ((hbx6.below hb7).below hA7).at_
          have hat8 := (EntBox.new w7 r).at_
          clear d2 hbx6 hb5 hA5 hb6 hb7 hA7 hb8
          go_wp2_with (first
            | ((with_reducible refine wpList_load_mid (op := ⟨some 78, _, _, _, _, _⟩) ?_ 26 (.tmp 15) ?_ w5.heap.size 0 ?_ (Ent.cells r).toList _ ?_ Tryd.underlying26 ?_ ?_ ?_); rfl; rfl; rfl; exact hat7; rfl; kernel_rfl)
            | ((with_reducible refine wpList_load_mid (op := ⟨some 79, _, _, _, _, _⟩) ?_ 26 (.tmp 17) ?_ w7.heap.size 0 ?_ (Ent.cells r).toList _ ?_ Tryd.underlying26 ?_ ?_ ?_); rfl; rfl; rfl; exact hat8; rfl; kernel_rfl))
          go_roundw
          case rel => exact ⟨j + 1, by omega, by go_num, hbF⟩
          case measure => simp [intOf]; omega
        · obtain rfl : j = 4 := by omega
          have hbF := hb11.trans (hbq.mono hb11.size)
          go_wp2_with fail
          go_roundw
          case rel => first | exact ⟨k + 1, by omega, by go_num, hbF⟩ | ((repeat apply Exists.intro); exact ⟨⟨k + 1, by omega, by go_num, hbF⟩, rfl⟩)
          case measure => simp [intOf]; omega
    · obtain rfl : k = N := by omega
      go_wp2_with fail
      go_ret
      exact ⟨rfl, hbx4.trans (hgr.mono hbx4.size)⟩
end Go.Proofs.YtnkbelbalaeieaaDoor
