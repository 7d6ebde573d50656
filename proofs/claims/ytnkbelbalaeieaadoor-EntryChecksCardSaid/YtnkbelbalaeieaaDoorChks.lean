/- quadriviumlaw10.EntryChecks, walked. -/
import Derived.Test.YtnkbelbalaeieaaDoorChks4
import Derived.Test.YtnkbelbalaeieaaDoorChksR
import Derived.Test.YtnkbelbalaeieaaDoorRefB
import Derived.Test.YtnkbelbalaeieaaDoorRefKey
import Derived.Test.YtnkbelbalaeieaaDoorMm
import Derived.Test.YtnkbelbalaeieaaDoorBodL
namespace Go.Proofs.YtnkbelbalaeieaaDoor
open Go Go.RowKit Go.Sort Go.Lib
attribute [local go_sem] Ent.cells

theorem Tabs.grown {w w' : World} {b : Nat} (h : Tabs w) (hg : w.grownBy w' (some b)) (hb : b ≠ 1) : Tabs w' := by
  unfold Tabs Lib.TabIs World.var? at *
  rw [gTab] at *
  simp only [Option.bind_some] at *
  rw [hg.block _ (Tabs.lt (by unfold Tabs Lib.TabIs World.var?; rw [gTab]; exact h)) (by simp; omega)]; exact h
theorem heap_setRow_far {W : World} {b b' : Nat} {cs : Array Value} (h : b ≠ b') : (W.setRow b cs).heap[b']? = W.heap[b']? := by
  simp [World.setRow, Array.getElem?_modify, h]
theorem grown_round {w4 wr w7 : World} {o : Obj} {cs : Array Value} {lb : Nat} (h : w4.grownBy wr (some lb)) (hb : RowKit.Below (wr.alloc o).heap.size (wr.alloc o) w7) : w4.grownBy (w7.setRow lb cs) (some lb) := by
  have hsz := hb.size
  rw [size_alloc] at hsz
  have h4 := h.size
  refine ⟨hb.os.trans h.os, hb.tape.trans h.tape, hb.output.trans h.output, by simp [World.setRow]; omega, fun k hk hne => ?_⟩
  rw [heap_setRow_far (by intro h; exact hne (by rw [h])), hb.block k (by rw [size_alloc]; omega), (below_alloc1 wr o).block k (by omega)]
  exact h.block k hk hne
/-- What Made returns is right. -/
theorem good_right {e : Ent} (g : Good 1 e) : chkV e = 0 := by
  obtain ⟨h1, h2, h3, h4, h5, h6, h7, h8, h9, h10, h11, h12, h13, h14⟩ := g
  have hp : plainE e = e := by
    rw [plain_eq]
    refine ⟨?_, ?_, ?_, ?_, ?_, ?_, ?_⟩
    · by_cases h : e.kind = 3 <;> simp [h] at h9 ⊢; exact h9.1
    · by_cases h : e.kind = 3 <;> simp [h] at h9 ⊢; exact h9.2
    · by_cases h : e.kind = 3 ∨ e.kind = 4
      · exact .inl h
      · rw [if_neg h] at h10; exact .inr h10
    · by_cases h : e.kind = 4 ∨ e.kind = 5 ∨ e.kind = 6 ∨ e.kind = 9
      · exact .inl h
      · rw [if_neg h] at h11; exact .inr h11
    · by_cases h : e.kind = 7
      · exact .inl h
      · rw [if_neg h] at h12; exact .inr h12
    · by_cases h : e.kind = 1 ∨ e.kind = 8 ∨ e.kind = 2
      · exact .inl h
      · rw [if_neg h] at h13; exact .inr h13
    · by_cases h : e.kind = 2
      · exact .inl h
      · rw [if_neg h] at h14; exact .inr h14
  have hf := plain_ok e h4
  rw [(eqE_iff _ _).2 hp] at hf
  have bn : ∀ n lo hi : Int, lo ≤ n → n ≤ hi → beyondB n lo hi = false := fun n lo hi a b => by rw [beyond_not]; simp [betweenB, a, b]
  have hcode : ∀ s ∈ codesL, codeL s.data.toList = true := by decide
  unfold chkV
  rw [if_neg (by rw [bn _ _ _ (by omega) (by omega), bn _ _ _ (by omega) (by omega), bn _ _ _ (by omega) (by omega)]; simp), if_neg (by rw [← hf, bn _ _ _ (by omega) (by omega)]; simp), if_neg (by rw [bn _ _ _ (by omega) (by omega), bn _ _ _ (by omega) (by omega)]; simp)]
  have hk : e.kind = 1 ∨ e.kind = 2 ∨ e.kind = 3 ∨ e.kind = 4 ∨ e.kind = 5 ∨ e.kind = 6 ∨ e.kind = 7 ∨ e.kind = 8 ∨ e.kind = 9 := by omega
  clear hf hp
  unfold ruleFrom
  have p0 : (bits .and .i64 (hasv e.kind) 1 != 0) = true → (!codeL e.course.data.toList) = true → False := fun a b => by
    rcases hk with h | h | h | h | h | h | h | h | h <;> rw [h] at a h9 <;> first | exact absurd a (by decide +kernel) | (simp at h9; rw [hcode _ h9.1] at b; exact absurd b (by decide))
  have p1 : (bits .and .i64 (hasv e.kind) 2 != 0) = true → beyondB e.credits 1 60 = true → False := fun a b => by
    rcases hk with h | h | h | h | h | h | h | h | h <;> rw [h] at a h9 <;> first | exact absurd a (by decide +kernel) | (simp at h9; rw [bn _ _ _ (by omega) (by omega)] at b; exact absurd b (by decide))
  have p2 : (bits .and .i64 (hasv e.kind) 4 != 0) = true → beyondB e.grade (-1000) 1000 = true → False := fun a b => by
    rcases hk with h | h | h | h | h | h | h | h | h <;> rw [h] at a h10 <;> first | exact absurd a (by decide +kernel) | (simp at h10; rw [bn _ _ _ (by omega) (by omega)] at b; exact absurd b (by decide))
  have p3 : (bits .and .i64 (hasv e.kind) 32 != 0) = true → decide (e.programme < 1) = true → False := fun a b => by
    rcases hk with h | h | h | h | h | h | h | h | h <;> rw [h] at a h13 <;> first | exact absurd a (by decide +kernel) | (simp at h13 b; omega)
  have p4 : (bits .and .i64 (hasv e.kind) 64 != 0) = true → decide (e.version < 1) = true → False := fun a b => by
    rcases hk with h | h | h | h | h | h | h | h | h <;> rw [h] at a h14 <;> first | exact absurd a (by decide +kernel) | (simp at h14 b; omega)
  have p5 : (bits .and .i64 (hasv e.kind) 16 != 0) = true → (beyondB e.fro 1 8 || e.fro == e.school) = true → False := fun a b => by
    rcases hk with h | h | h | h | h | h | h | h | h <;> rw [h] at a h12 <;> first | exact absurd a (by decide +kernel) | (simp at h12; rw [bn _ _ _ (by omega) (by omega)] at b; simp at b; omega)
  have p6 : (bits .and .i64 (hasv e.kind) 8 != 0) = true → (beyondB e.ref 1 899999 || e.ref == e.id) = true → False := fun a b => by
    rcases hk with h | h | h | h | h | h | h | h | h <;> rw [h] at a h11 <;> first | exact absurd a (by decide +kernel) | (simp at h11; rw [bn _ _ _ (by omega) (by omega)] at b; simp at b; omega)
  rw [if_neg (fun x => p0 x.2.1 x.2.2), if_neg (fun x => p1 x.2.1 x.2.2), if_neg (fun x => p2 x.2.1 x.2.2), if_neg (fun x => p3 x.2.1 x.2.2), if_neg (fun x => p4 x.2.1 x.2.2), if_neg (fun x => p5 x.2.1 x.2.2), if_neg (fun x => p6 x.2.1 x.2.2)]

set_option maxHeartbeats 4000000 in
set_option maxRecDepth 100000 in
theorem checks_any (A : Option Addr) (n c : Nat) (a b c' d : Int) (raw : Ent) (w : World) (ha : I64 a) (hb : I64 b) (hc : I64 c') (hd : I64 d)
    (hr : I64 raw.id ∧ I64 raw.school ∧ I64 raw.student ∧ I64 raw.kind ∧ I64 raw.day ∧ I64 raw.on ∧ I64 raw.credits ∧ I64 raw.grade ∧ I64 raw.ref ∧ I64 raw.fro ∧ I64 raw.programme ∧ I64 raw.version ∧ I64 raw.key)
    (hrc : raw.course.size ≤ 9223372036854775807) (hrm : raw.mark.size ≤ 9223372036854775807) (hi : IntsIn w.heap.size A n w) (ht : Tabs w) :
    Calls Tryd.prog 5 #[.slice A n c, .agg #[.int .i64 a, .int .i64 b, .int .i64 c', .int .i64 d], raw.val] w fun x w' => x = .returned (.bool true) ∧ RowKit.Below w.heap.size w w' := by
  have hrok : raw.cut.Ok := cut_ok raw hr (cut30 raw.course) (cut30 raw.mark) (Nat.le_trans (cut30_size _) (by omega)) (Nat.le_trans (cut30_size _) (by omega))
  go_enter Tryd.func5, Tryd.ntmps5
  go_wp2_with fail
  refine (sanity_any _ ((ht.alloc _).alloc _)).mono ?_
  rintro x w1 ⟨rfl, hb1⟩
  have hsz := hb1.size
  have hbw : RowKit.Below w.heap.size w w1 := (below2 w _ _).trans (hb1.mono (by simp; omega))
  have hq : w1.heap[w.heap.size]? = some (.cells #[.int .i64 a, .int .i64 b, .int .i64 c', .int .i64 d] 24 (0, 0)) := by
    rw [hb1.block _ (by rw [size_alloc, size_alloc]; omega)]; exact heap_keep (heap_alloc_new w _) _
  have hrb : EntBox w1 (w.heap.size + 1) raw := by
    unfold EntBox
    rw [hb1.block _ (by rw [size_alloc, size_alloc]; omega)]
    have := heap_alloc_new (w.alloc (.cells #[.int .i64 a, .int .i64 b, .int .i64 c', .int .i64 d] 24)) (.cells raw.cells 26)
    rw [size_alloc] at this; exact this
  clear hb1 hsz
  have hat := hrb.at_
  go_wp2_with ((with_reducible refine wpList_load_mid (op := ⟨some 14, _, _, _, _, _⟩) ?_ 26 (.tmp 5) ?_ (w.heap.size + 1) 0 ?_ (Ent.cells raw).toList _ ?_ Tryd.underlying26 ?_ ?_ ?_); rfl; rfl; rfl; exact hat; rfl; kernel_rfl)
  refine (cut_any raw _ hrc hrm).mono ?_
  rintro x w2 ⟨rfl, hb2⟩
  have hbw2 : RowKit.Below w.heap.size w w2 := hbw.trans (hb2.mono hbw.size)
  have hq2 := (hb2.block _ (lt_of_heap hq)).trans hq
  have hrb2 : EntBox w2 (w.heap.size + 1) raw := hrb.below hb2
  have hlt2 := lt_of_heap hrb2
  have hcut : EntBox (w2.setRow (w.heap.size + 1) raw.cut.cells) (w.heap.size + 1) raw.cut := heap_setRow hrb2 _
  have hq3 : (w2.setRow (w.heap.size + 1) raw.cut.cells).heap[w.heap.size]? = some (.cells #[.int .i64 a, .int .i64 b, .int .i64 c', .int .i64 d] 24 (0, 0)) := by
    rw [heap_setRow_far (by omega)]; exact hq2
  have hbw3 : RowKit.Below w.heap.size w (w2.setRow (w.heap.size + 1) raw.cut.cells) := below_setRow hbw2 (by omega) _
  have hat3 := hcut.at_
  have hsz3 : (w2.setRow (w.heap.size + 1) raw.cut.cells).heap.size = w2.heap.size := by simp [World.setRow]
  clear hb2 hbw hat hrb hq
  go_wp2_with (first
    | ((with_reducible refine wpList_store_row (o := ⟨none, .store 26 (.tmp 5) (.tmp 15), _, _, _, _⟩) ?_ 26 (.tmp 5) (.tmp 15) ?_ (w.heap.size + 1) (Ent.cells raw.cut) ?_ ?_ 26 (Ent.cells raw) ?_ ?_ ?_ ?_ ?_); rfl; rfl; rfl; rfl; exact hrb2; kernel_rfl; rfl; simp [Ent.cells, Value.oneCell'])
    | ((with_reducible refine wpList_load_mid (op := ⟨some 16, _, _, _, _, _⟩) ?_ 26 (.tmp 5) ?_ (w.heap.size + 1) 0 ?_ (Ent.cells raw.cut).toList _ ?_ Tryd.underlying26 ?_ ?_ ?_); rfl; rfl; rfl; exact hat3; rfl; kernel_rfl))
  have hq4 := heap_keep hq3 (.cells raw.cut.cells 26)
  have hcut4 := hcut.below (below_alloc1 _ (.cells raw.cut.cells 26))
  have hlast := EntBox.new (w2.setRow (w.heap.size + 1) raw.cut.cells) raw.cut
  have hbw4 := hbw3.trans ((below_alloc1 _ (.cells raw.cut.cells 26)).mono hbw3.size)
  rw [hsz3] at hlast
  have hI : ∀ w', RowKit.Below ((w2.setRow (w.heap.size + 1) raw.cut.cells).alloc (.cells raw.cut.cells 26)).heap.size ((w2.setRow (w.heap.size + 1) raw.cut.cells).alloc (.cells raw.cut.cells 26)) w' → IntsIn w'.heap.size A n w' := fun w' h => by
    have h2 : RowKit.Below w.heap.size w w' := hbw4.trans (h.mono hbw4.size)
    exact (hi.below h2).mono h2.size
  refine chks_r4 A n c w.heap.size (w.heap.size + 1) a b c' d raw.cut ((w2.setRow (w.heap.size + 1) raw.cut.cells).alloc (.cells raw.cut.cells 26)) _ ha hb hc hd hq4 hcut4 hI ?_
  intro u17 u18 u19 u20 u21 g cap es w4 hl hok hes hb4
  have hlb := lt_of_heap hlast
  generalize (w2.setRow (w.heap.size + 1) raw.cut.cells).alloc (.cells raw.cut.cells 26) = W3 at *
  have hsz4 := hb4.size
  have hbx4 : RowKit.Below w.heap.size w w4 := hbw4.trans (hb4.mono hbw4.size)
  have hraw4 := hcut4.below hb4
  have hlast4 := hlast.below hb4
  have hge : w.heap.size + 1 < w2.heap.size := hlt2
  generalize w2.heap.size = lb at *
  have hLok : ∀ e ∈ es ++ [raw.cut], e.Ok := by
    intro e he
    rcases List.mem_append.1 he with he | he
    · exact hok e he
    · simp only [List.mem_singleton] at he; subst he; exact hrok
  have hLl : (es ++ [raw.cut]).length = es.length + 1 := by simp
  generalize es ++ [raw.cut] = L at hes hLok hLl
  obtain ⟨A', cp, hA1, hA2⟩ := hes.form
  simp only [Value.slice.injEq] at hA1
  obtain ⟨g', rfl, hg0, hg1, hat4⟩ := hA2 (by omega)
  obtain ⟨hA1, hNL, rfl⟩ := hA1
  clear hNL
  simp only [Option.some.injEq, Addr.mk.injEq, and_true] at hA1
  subst hA1
  generalize hN : es.length + 1 = N at *
  have ht4 := ht.below hbx4
  clear hr hrc hrm ha hb hc hd hsz3
  clear hes hA2 hok hb4 hq4 hcut4 hlast hI hbw4 hbw3 hq3 hcut hat3 hrb2 hq2 hbw2
  go_wp2_with fail
  have hNb : N ≤ 1001 := by omega
  have HN := Lib.hid hN
  have HLok := Lib.hid hLok
  have HLl := Lib.hid hLl
  have HAt := Lib.hid hat4
  clear hN hLok hLl hat4
  go_loopw [24] (fun i wr => ∃ (k : Nat) (l : Ent), k ≤ N ∧ i = .int .i64 k ∧ EntBox wr lb l ∧ w4.grownBy wr (some lb)) (fun i _ => N - (intOf i).toNat)
  case atStart => exact ⟨0, raw.cut, Nat.zero_le _, rfl, hlast4, ⟨rfl, rfl, rfl, Nat.le_refl _, fun _ _ _ => rfl⟩⟩
  case round =>
    obtain ⟨k, l, hk, rfl, hlb3, hgr⟩ := hrel
    by_cases hlt : k < N
    · have hmk : k < L.length := by have := HLl.out; have := HN.out; omega
      have he : L[k]? = some L[k] := List.getElem?_eq_getElem hmk
      have hok := HLok.out _ (List.getElem_mem hmk)
      generalize L[k] = e at he hok
      have hgs := hgr.size
      have hat5 : EntAt wr g (k * 15) e := fun j v hv => (World.cell?_of_block (hgr.block g hg1 (by simp; omega))).trans (HAt.out k e he j v hv)
      have hraw5 : EntBox wr (w.heap.size + 1) raw.cut := (hgr.block _ (lt_of_heap hraw4) (by simp; omega)).trans hraw4
      have ht5 : Tabs wr := ht4.grown hgr (by omega)
      clear he hmk
      go_wp2_with ((with_reducible refine wpList_load_mid (op := ⟨some 27, _, _, _, _, _⟩) ?_ 26 (.tmp 26) ?_ g (k * 15) ?_ (Ent.cells e).toList _ ?_ Tryd.underlying26 ?_ ?_ ?_); rfl; rfl; rfl; exact hat5; rfl; kernel_rfl)
      have hab := EntBox.new wr e
      have hlbA := hlb3.below (below_alloc1 wr (.cells e.cells 26))
      have hrawA := hraw5.below (below_alloc1 wr (.cells e.cells 26))
      have htA := ht5.alloc (.cells e.cells 26)
      refine chks_r7 wr.heap.size lb (w.heap.size + 1) e l raw.cut (chkV e) ⟨e.body.toArray⟩ ⟨e.code.toArray⟩ ⟨(keyV e).toArray⟩ (lessB l e) (lessB e raw.cut) (wr.alloc (.cells e.cells 26)) _ htA hab hlbA hrawA
        (fun w _ => check_any e hok w) (fun w _ => refCheck_any e hok w) (fun w h => body_any e hok w h) (fun w _ => refBody_any e hok w) (fun w h => encode_any e hok w h) (fun w _ => refEncode_any e hok w)
        (fun w _ => key_any e hok w) (fun w _ => refKey_any e hok w) (fun w _ => less_any l e w) (fun w _ => refLess_any l e w) (fun w _ => less_any e raw.cut w) (fun w _ => refLess_any e raw.cut w) ?_
      intro u28_ u29_ u30_ u31_ u32_ u33_ u34_ u35_ u36_ u37_ u38_ u39_ u40_ u41_ u42_ u43_ u44_ u45_ u46_ u47_ u48_ u49_ u50_ u51_ u52_ u53_ u54_ u55_ u56_ u57_ u58_ u59_ u60_ u61_ u62_ u63_ u64_ u65_ u66_ u67_ u68_ u69_ u70_ w7 hb7
      have hat7 := (hab.below hb7).at_
      have hlb7 := hlbA.below hb7
      have hgr7 : w4.grownBy (w7.setRow lb e.cells) (some lb) := grown_round hgr hb7
      clear hab hlbA hrawA htA hb7 hat5 hraw5 ht5 hgr hlb3
      go_wp2_with (first
        | ((with_reducible refine wpList_load_mid (op := ⟨some 72, _, _, _, _, _⟩) ?_ 26 (.tmp 10) ?_ wr.heap.size 0 ?_ (Ent.cells e).toList _ ?_ Tryd.underlying26 ?_ ?_ ?_); rfl; rfl; rfl; exact hat7; rfl; kernel_rfl)
        | ((with_reducible refine wpList_store_row (o := ⟨none, .store 26 (.tmp 8) (.tmp 72), _, _, _, _⟩) ?_ 26 (.tmp 8) (.tmp 72) ?_ lb (Ent.cells e) ?_ ?_ 26 (Ent.cells l) ?_ ?_ ?_ ?_ ?_); rfl; rfl; rfl; rfl; exact hlb7; kernel_rfl; rfl; simp [Ent.cells, Value.oneCell']))
      go_roundw
      case rel => first | exact ⟨k + 1, e, by omega, by go_num, heap_setRow hlb7 _, hgr7⟩ | ((repeat apply Exists.intro); exact ⟨⟨k + 1, e, by omega, by go_num, heap_setRow hlb7 _, hgr7⟩, rfl⟩)
      case measure => simp [intOf]; omega
    · obtain rfl : k = N := by omega
      have hbr : RowKit.Below w.heap.size w wr := hbx4.grown hgr hbx4.size (fun q hq => by simp at hq; omega)
      have hIm := (hi.below hbr).mono hbr.size
      clear hlb3 hgr
      go_wp2_with fail
      refine (made_any A n c 1 _ (by omega) hIm).mono ?_
      rintro x w8 ⟨v2, es2, rfl, hok2, hes2, hb8⟩
      have hb18 := hbr.trans (hb8.mono hbr.size)
      obtain ⟨A2, cp2, rfl, hA3⟩ := hes2.form
      obtain ⟨N2, hN2⟩ : ∃ N2, es2.length = N2 := ⟨_, rfl⟩
      have hlen2 := hok2.len
      rw [hN2] at hA3 hlen2 ⊢
      clear hes2 hIm hbr hb8
      go_wp2_with fail
      go_loopw [77] (fun i wr => ∃ k : Nat, k ≤ N2 ∧ i = .int .i64 k ∧ RowKit.Below w8.heap.size w8 wr) (fun i _ => N2 - (intOf i).toNat)
      case atStart => exact ⟨0, Nat.zero_le _, rfl, Below.refl _ _⟩
      case round =>
        obtain ⟨j, hj, rfl, hb9⟩ := hrel
        by_cases hltj : j < N2
        · obtain ⟨g2, rfl, hg20, hg21, hat8⟩ := hA3 (by omega)
          have hmj : j < es2.length := by omega
          have hej : es2[j]? = some es2[j] := List.getElem?_eq_getElem hmj
          have hgood := hok2.good _ (List.getElem_mem hmj)
          generalize es2[j] = e2 at hej hgood
          have hok' := hgood.ok (by omega)
          have hch := good_right hgood
          have hat9 : EntAt _ g2 (j * 15) e2 := (hat8 j e2 hej).below hb9 hg21
          have hC := fun w => check_any e2 hok' w
          rw [hch] at hC
          clear hej hmj hch hgood
          have hat10 := (EntBox.new wr e2).at_
          have hb10 : RowKit.Below w8.heap.size w8 (wr.alloc (.cells e2.cells 26)) := hb9.trans ((below_alloc1 wr (.cells e2.cells 26)).mono hb9.size)
          clear hat8 hA3 hok'
          go_wp2_with (first
            | ((with_reducible refine wpList_load_mid (op := ⟨some 80, _, _, _, _, _⟩) ?_ 26 (.tmp 79) ?_ g2 (j * 15) ?_ (Ent.cells e2).toList _ ?_ Tryd.underlying26 ?_ ?_ ?_); rfl; rfl; rfl; exact hat9; rfl; kernel_rfl)
            | ((with_reducible refine wpList_load_mid (op := ⟨some 81, _, _, _, _, _⟩) ?_ 26 (.tmp 12) ?_ wr.heap.size 0 ?_ (Ent.cells e2).toList _ ?_ Tryd.underlying26 ?_ ?_ ?_); rfl; rfl; rfl; exact hat10; rfl; kernel_rfl))
          refine (hC _).mono ?_
          rintro x w11 ⟨rfl, hb11⟩
          have hb12 := hb10.trans (hb11.mono hb10.size)
          clear hb10 hb11 hat10 hat9 hb9
          go_wp2_with fail
          go_roundw
          case rel => first | exact ⟨j + 1, by omega, by go_num, hb12⟩ | ((repeat apply Exists.intro); exact ⟨⟨j + 1, by omega, by go_num, hb12⟩, rfl⟩)
          case measure => simp [intOf]; omega
        · obtain rfl : j = N2 := by omega
          go_wp2_with fail
          go_ret
          exact ⟨rfl, hb18.trans (hb9.mono hb18.size)⟩
end Go.Proofs.YtnkbelbalaeieaaDoor
