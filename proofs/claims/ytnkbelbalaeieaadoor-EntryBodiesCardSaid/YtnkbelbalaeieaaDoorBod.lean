/- quadriviumlaw10.EntryBodies, walked. -/
import Derived.Test.YtnkbelbalaeieaaDoorBodR
import Derived.Test.YtnkbelbalaeieaaDoorBodL
import Derived.Test.YtnkbelbalaeieaaDoorMm
namespace Go.Proofs.YtnkbelbalaeieaaDoor
open Go Go.RowKit Go.Sort Go.Lib
attribute [local go_sem] Ent.cells

attribute [local go_sem ↓] run_max_mx run_min_mn

theorem code_len (e : Ent) (h : e.Ok) : e.code.length ≤ e.course.size + 400 + (e.mark.size + 30) := by
  have h1 := body_len e h
  have h2 := wText_len e.mark (by have := h.mark; omega)
  simp only [Ent.code, List.length_append]; omega

set_option maxHeartbeats 4000000 in
set_option maxRecDepth 100000 in
theorem bodies_any (A : Option Addr) (n c : Nat) (a b c' d : Int) (raw : Ent) (w : World) (ha : I64 a) (hb : I64 b) (hc : I64 c') (hd : I64 d)
    (hr : I64 raw.id ∧ I64 raw.school ∧ I64 raw.student ∧ I64 raw.kind ∧ I64 raw.day ∧ I64 raw.on ∧ I64 raw.credits ∧ I64 raw.grade ∧ I64 raw.ref ∧ I64 raw.fro ∧ I64 raw.programme ∧ I64 raw.version ∧ I64 raw.key)
    (hrc : raw.course.size ≤ 9223372036854775807) (hrm : raw.mark.size ≤ 9223372036854775807) (hi : IntsIn w.heap.size A n w) (ht : Tabs w) :
    Calls Tryd.prog 3 #[.slice A n c, .agg #[.int .i64 a, .int .i64 b, .int .i64 c', .int .i64 d], raw.val] w fun x w' => x = .returned (.bool true) ∧ RowKit.Below w.heap.size w w' := by
  have hrok := cut_ok raw hr (cut30 raw.course) (cut30 raw.mark) (Nat.le_trans (cut30_size _) (by omega)) (Nat.le_trans (cut30_size _) (by omega))
  go_enter Tryd.func3, Tryd.ntmps3
  go_wp2_with fail
  refine (sanity_any _ ((ht.alloc _).alloc _)).mono ?_
  rintro x w1 ⟨rfl, hb1⟩
  have hsz := hb1.size
  have hbw : RowKit.Below w.heap.size w w1 := (below2 w _ _).trans (hb1.mono (by simp; omega))
  have hq : w1.heap[w.heap.size]? = some (.cells #[.int .i64 a, .int .i64 b, .int .i64 c', .int .i64 d] 24 (0, 0)) := by
    rw [hb1.block _ (by rw [size_alloc, size_alloc]; omega)]; exact heap_keep (heap_alloc_new w _) _
  have hrb : EntBox w1 (w.heap.size + 1) raw := by
    unfold EntBox
    rw [hb1.block _ (by rw [size_alloc, size_alloc]; omega)]
    have := heap_alloc_new (w.alloc (.cells #[.int .i64 a, .int .i64 b, .int .i64 c', .int .i64 d] 24)) (.cells raw.cells 26)
    rw [size_alloc] at this; exact this
  have hI : ∀ w', RowKit.Below w1.heap.size w1 w' → IntsIn w'.heap.size A n w' := fun w' h => by
    have h2 : RowKit.Below w.heap.size w w' := hbw.trans (h.mono hbw.size)
    exact (hi.below h2).mono h2.size
  have ht1 := ht.below hbw
  clear hb1 hi ht
  go_wp2_with fail
  refine bod_r2 A n c w.heap.size (w.heap.size + 1) a b c' d raw _ _ ha hb hc hd hrc hrm hq hrb hI ?_
  intro u18 u19 u20 u21 u22 u23 u24 g cap es w2 hl hok hes hb2
  have hbw2 : RowKit.Below w.heap.size w w2 := hbw.trans (hb2.mono hbw.size)
  have ht2 := ht1.below (hb2.mono (Nat.le_refl _))
  have hLok : ∀ e ∈ es ++ [raw.cut], e.Ok := by
    intro e he
    rcases List.mem_append.1 he with he | he
    · exact hok e he
    · simp only [List.mem_singleton] at he; subst he; exact hrok
  have hLl : (es ++ [raw.cut]).length = es.length + 1 := by simp
  generalize es ++ [raw.cut] = L at hes hLok hLl
  have hcap := hes.cap
  obtain ⟨A', cp, hA1, hA2⟩ := hes.form
  simp only [Value.slice.injEq] at hA1
  obtain ⟨g', rfl, hg0, hg1, hat⟩ := hA2 (by omega)
  obtain ⟨hA1, hA2, rfl⟩ := hA1
  simp only [Option.some.injEq, Addr.mk.injEq, and_true] at hA1
  subst hA1
  generalize hN : es.length + 1 = N at *
  clear hq hrb hI ht1 hok hes hA2 hrok hbw hb2 hr hrc hrm ha hb hc hd hsz
  obtain ⟨m0, hm0, hm0'⟩ : ∃ m0 : Nat, mx 0 ((N : Int) - 20) = m0 ∧ m0 < N := by
    by_cases h : 20 < N
    · exact ⟨N - 20, by unfold mx; rw [if_pos (by omega)]; omega, by omega⟩
    · exact ⟨0, by unfold mx; rw [if_neg (by omega)]; rfl, by omega⟩
  obtain ⟨m1, hm1, hm1'⟩ : ∃ m1 : Nat, mn (N : Int) 20 = m1 ∧ m1 ≤ N := by
    by_cases h : 20 < N
    · exact ⟨20, by unfold mn; rw [if_pos (by omega)]; rfl, by omega⟩
    · exact ⟨N, by unfold mn; rw [if_neg (by omega)], by omega⟩
  have hNb : N ≤ 1001 := by omega
  have hcm : ¬ cap = m0 := by omega
  go_wp2_with fail
  generalize hM : N - m0 = M at *
  generalize cap - m0 = cm
  go_loopw [32] (fun i wr => ∃ k : Nat, k ≤ M ∧ i = .int .i64 k ∧ RowKit.Below w2.heap.size w2 wr) (fun i _ => M - (intOf i).toNat)
  case atStart => exact ⟨0, Nat.zero_le _, rfl, Below.refl _ _⟩
  case round =>
    obtain ⟨k, hk, rfl, hb3⟩ := hrel
    by_cases hlt : k < M
    · have hmk : m0 + k < L.length := by omega
      have he : L[m0 + k]? = some L[m0 + k] := List.getElem?_eq_getElem hmk
      have hok := hLok _ (List.getElem_mem hmk)
      generalize L[m0 + k] = e at he hok
      have hat1 : EntAt wr g (m0 * 15 + k * 15) e := by
        have := (hat (m0 + k) e he).below hb3 hg1
        rw [Nat.add_mul] at this; exact this
      have hsz := hb3.size
      clear he hmk
      go_wp2_with (refine wpList_load_mid rfl 26 (.tmp 34) rfl _ _ rfl e.cells.toList _ hat1 Tryd.underlying26 rfl (by kernel_rfl) ?_)
      have ht3 := (ht2.below hb3).alloc (.cells e.cells 26)
      have hab := EntBox.new wr e
      refine bod_r6 wr.heap.size e _ _ hok ht3 hab ?_
      intro u36 u37 u38 u39 w4 hb4
      have hb24 : RowKit.Below w2.heap.size w2 w4 := (hb3.trans ((below_alloc1 wr _).mono hb3.size)).trans (hb4.mono (by rw [size_alloc]; omega))
      have ht4 := ht3.below hb4
      replace hab := hab.below hb4
      have hbl := body_len e hok
      have hcl := code_len e hok
      obtain ⟨hst, hext⟩ := code_head e
      have HB := Lib.hid (body_eq e)
      have HC := Lib.hid (code_eq e)
      have hs1 : (⟨e.body.toArray⟩ : ByteArray).size ≤ 1000000 := by rw [ba_size]; have := hok.course; simp; omega
      have ht1 : (⟨e.code.toArray⟩ : ByteArray).size ≤ 1000000 := by rw [ba_size]; have := hok.course; have := hok.mark; simp; omega
      clear hbl hcl hat1 ht3 hb4 hb3
      generalize (⟨e.body.toArray⟩ : ByteArray) = s at *
      generalize (⟨e.code.toArray⟩ : ByteArray) = t at *
      have hnl : ¬ t.size < s.size := by omega
      have hlt4 := lt_of_heap hab
      generalize wr.heap.size = ab at *
      go_wp2_with fail
      clear hext hnl hst hs1 ht1
      go_loopw [59] (fun i wr => ∃ j : Nat, j ≤ m1 ∧ i = .int .i64 j ∧ RowKit.Below w4.heap.size w4 wr) (fun i _ => m1 - (intOf i).toNat)
      case atStart => exact ⟨0, Nat.zero_le _, rfl, Below.refl _ _⟩
      case round =>
        obtain ⟨j, hj, rfl, hb5⟩ := hrel
        by_cases hltj : j < m1
        · have hjl : j < L.length := by omega
          have he' : L[j]? = some L[j] := List.getElem?_eq_getElem hjl
          have hok' := hLok _ (List.getElem_mem hjl)
          generalize L[j] = e' at he' hok'
          have hat2 : EntAt wr g (j * 15) e' := ((hat j e' he').below hb24 hg1).below hb5 (Nat.lt_of_lt_of_le hg1 hb24.size)
          have hsz5 := hb5.size
          clear he' hjl
          go_wp2_with (refine wpList_load_mid rfl 26 (.tmp 61) rfl _ _ rfl e'.cells.toList _ hat2 Tryd.underlying26 rfl (by kernel_rfl) ?_)
          have ht5 := (ht4.below hb5).alloc (.cells e'.cells 26)
          have hbb := EntBox.new wr e'
          have hab5 := (hab.below hb5).below (below_alloc1 wr (.cells e'.cells 26))
          refine bod_r12 ab wr.heap.size e e' _ _ hab5 hbb ?_
          intro u63 u64 xb yb w6 hxb hyb hne hx1 hy1 hb6
          have hwr : RowKit.Below w4.heap.size w4 w6 := (hb5.trans ((below_alloc1 wr _).mono hsz5)).trans (hb6.mono (by rw [size_alloc]; omega))
          have ht6 := ht5.below hb6
          replace hab5 := hab5.below hb6
          replace hbb := hbb.below hb6
          rw [size_alloc] at hx1 hy1
          have hlb : ab < wr.heap.size := by omega
          generalize wr.heap.size = bb at *
          have fx := hxb.frozen 14
          have fy := hyb.frozen 14
          have cx : w6.cell? ⟨xb, 14, none⟩ = some (.string e.mark) := hxb.cell 14
          have cy : w6.cell? ⟨yb, 14, none⟩ = some (.string e'.mark) := hyb.cell 14
          clear hat2 hb5 ht5 hb6
          go_wp2_with fail
          have hX : EntBox ((w6.setCell ⟨xb, 14, none⟩ (.string ⟨#[]⟩)).setCell ⟨yb, 14, none⟩ (.string ⟨#[]⟩)) xb e.bare := (EntBox.set (e' := e.bare) hxb 14 (.string ⟨#[]⟩) rfl).far hne 14 _
          have hY : EntBox ((w6.setCell ⟨xb, 14, none⟩ (.string ⟨#[]⟩)).setCell ⟨yb, 14, none⟩ (.string ⟨#[]⟩)) yb e'.bare := EntBox.set (e' := e'.bare) (hyb.far (fun h => hne h.symm) 14 _) 14 (.string ⟨#[]⟩) rfl
          have hA : EntBox ((w6.setCell ⟨xb, 14, none⟩ (.string ⟨#[]⟩)).setCell ⟨yb, 14, none⟩ (.string ⟨#[]⟩)) ab e := (hab5.far (by omega) 14 _).far (by omega) 14 _
          have hB : EntBox ((w6.setCell ⟨xb, 14, none⟩ (.string ⟨#[]⟩)).setCell ⟨yb, 14, none⟩ (.string ⟨#[]⟩)) bb e' := (hbb.far (by omega) 14 _).far (by omega) 14 _
          have hwr7 : RowKit.Below w4.heap.size w4 ((w6.setCell ⟨xb, 14, none⟩ (.string ⟨#[]⟩)).setCell ⟨yb, 14, none⟩ (.string ⟨#[]⟩)) := (hwr.setCell (by show _ ≤ xb; omega) _).setCell (by show _ ≤ yb; omega) _
          have ht7 := (ht4.below hwr7)
          clear hxb hyb hab5 hbb fx fy cx cy hwr ht6
          refine bod_r14 ab bb xb yb e e' e.bare e'.bare s t ⟨e'.body.toArray⟩ ⟨e'.code.toArray⟩ (eqE e.bare e'.bare) (eqE e e') _ _ ht7 hA hB hX hY (fun w h => body_any e' hok' w h) (fun w h => encode_any e' hok' w h) (HB.out e') rfl (HC.out e') rfl ?_
          intro u67 u68 u69 u70 u71 u72 u73 u74 u75 u76 u77 u78 u79 u80 u81 u82 u83 w8 hb8
          have hwr8 : RowKit.Below w4.heap.size w4 w8 := hwr7.trans (hb8.mono hwr7.size)
          clear hX hY hA hB hwr7 ht7 hb8
          go_wp2_with fail
          go_roundw
          case rel => exact ⟨j + 1, by omega, by go_num, hwr8⟩
          case measure => simp [intOf]; omega
        · obtain rfl : j = m1 := by omega
          go_wp2_with fail
          go_roundw
          case rel => exact ⟨k + 1, by omega, by go_num, hb24.trans (hb5.mono hb24.size)⟩
          case measure => simp [intOf]; omega
    · obtain rfl : k = M := by omega
      go_wp2_with fail
      go_ret
      exact ⟨rfl, hbw2.trans (hb3.mono hbw2.size)⟩
end Go.Proofs.YtnkbelbalaeieaaDoor
