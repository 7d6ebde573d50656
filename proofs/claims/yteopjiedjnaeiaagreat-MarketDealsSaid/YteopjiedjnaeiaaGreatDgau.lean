/- quadriviumlaw28.Case.made: a catalog, who has met what, the credits, requests. -/
import Derived.Test.YteopjiedjnaeiaaGreatDgap
import Derived.Test.YteopjiedjnaeiaaGreatDgat
import Derived.Test.YteopjiedjnaeiaaGreatDgaq
import Derived.Test.YteopjiedjnaeiaaGreatDgai
/- The reference of layer 07: Copy, Find, Clash. -/
namespace Go.Proofs.YteopjiedjnaeiaaGreat
open Go Go.Proofs Go.RowKit Go.Maps Go.Sort Go.Lib
attribute [local go_sem] Off.cells

/-- An append to a new row. -/
theorem far_new {α : Type} {enc : α → List Value} {k : Nat} {P : Program} {e t : TypeId} (R : RowT P enc k e t) {w w' : World} {b : Nat} {v v' : Value} {L : List α} (hb : b < w.heap.size) (hA : AppT enc k e (w.alloc (.cells #[] e)) w.heap.size v [] L v' w') :
    (∃ p c, v' = .slice p L.length c) ∧ FarRow enc b L w' v' := by
  have h1 := hA.own
  rw [List.nil_append] at h1
  have h2 := rowIn_own R.len R.pos h1
  obtain ⟨p, c, rfl⟩ := own_form h1
  refine ⟨⟨p, c, rfl⟩, p, c, rfl, h2, fun a ha => ?_⟩
  subst ha
  have := (own_lo h1 (q := a.block) rfl).1
  omega
set_option maxHeartbeats 4000000 in
set_option maxRecDepth 100000 in
theorem refCopy_any (o : Off) (w : World) (ho : OffOk w o) (l1 : o.slots.length ≤ 1000000) (l2 : o.needs.length ≤ 1000000) :
    Calls Tryz.prog 64 #[.agg #[.string o.code, .int .i64 o.credits, .int .i64 o.places, .slice o.sp o.slots.length o.sc, .slice o.np o.needs.length o.nc]] w fun e w' => ∃ o', e = .returned o'.val ∧ SameOff o' o ∧ FarRow encI w.heap.size o'.slots w' o'.sv ∧ FarRow encT w.heap.size o'.needs w' o'.nv ∧ RowKit.Below w.heap.size w w' := by
  have hbb := (below_alloc1 w (.cells #[.string o.code, .int .i64 o.credits, .int .i64 o.places, .slice o.sp o.slots.length o.sc, .slice o.np o.needs.length o.nc] 57)).alloc (by simp) (.cells #[.string ⟨#[]⟩, .int .i64 0, .int .i64 0, .slice none 0 0, .slice none 0 0] 57)
  have hx0 : ((w.alloc (.cells #[.string o.code, .int .i64 o.credits, .int .i64 o.places, .slice o.sp o.slots.length o.sc, .slice o.np o.needs.length o.nc] 57)).alloc (.cells #[.string ⟨#[]⟩, .int .i64 0, .int .i64 0, .slice none 0 0, .slice none 0 0] 57)).heap[w.heap.size]? = some (.cells #[.string o.code, .int .i64 o.credits, .int .i64 o.places, .slice o.sp o.slots.length o.sc, .slice o.np o.needs.length o.nc] 57 (0, 0)) := by rw [(below_alloc1 _ _).block _ (by simp)]; exact heap_alloc_new w _
  have hx1 := new_two w (.cells #[.string o.code, .int .i64 o.credits, .int .i64 o.places, .slice o.sp o.slots.length o.sc, .slice o.np o.needs.length o.nc] 57) (.cells #[.string ⟨#[]⟩, .int .i64 0, .int .i64 0, .slice none 0 0, .slice none 0 0] 57)
  have hsl := ho.slots
  have hnd := ho.needs
  obtain ⟨n1, hn1⟩ : ∃ n, o.slots.length = n := ⟨_, rfl⟩
  obtain ⟨n2, hn2⟩ : ∃ n, o.needs.length = n := ⟨_, rfl⟩
  have HN1 := Lib.hid hn1
  have HN2 := Lib.hid hn2
  simp only [Off.sv, Off.nv] at hsl hnd
  rw [hn1] at hbb hx0 hx1 hsl l1 ⊢
  rw [hn2] at hbb hx0 hx1 hnd l2 ⊢
  have HSL := Lib.hid hsl
  have HND := Lib.hid hnd
  clear ho hsl hnd hn1 hn2
  go_enter Tryz.func64, Tryz.ntmps64
  go_upto_region 1 with fail
  generalize World.alloc _ _ = W at hbb hx0 hx1 ⊢
  have lt1 := lt_of_heap hx1
  have hb3 := below_alloc1 W (.cells #[] 3)
  have hown : (W.alloc (.cells #[] 3)).ownsRow W.heap.size 3 1 (.slice (some ⟨W.heap.size, 0, none⟩) ([] : List Int).length 0) ([] : List Int).length (flatE encI []) := World.ownsRow_made W #[] 0 (Nat.le_refl _) (Nat.zero_le _) rfl
  have hx03 := (hb3.block _ (by omega)).trans hx0
  have hc3 : (W.alloc (.cells #[] 3)).cell? ⟨w.heap.size, 3, none⟩ = some (.slice o.sp n1 o.sc) := Lib.cell_of_heap hx03 3
  have HX3 := Lib.hid (HSL.out.below (below_next hbb hb3))
  go_upto_region 2 with (at_builtin; refine wpList_append_row intT rfl (.tmp 3) (.tmp 5) rfl W.heap.size _ _ [] o.slots rfl rfl hown HX3.out (by have := HN1.out; simp; omega) (by simp) ?_; intro v3 w3 hA3; obtain ⟨⟨p3, c3, rfl⟩, hf3⟩ := far_new intT (b := w.heap.size + 1) (by omega) hA3; have hgr3 : (W.alloc (.cells #[] 3)).grownBy w3 (some W.heap.size) := hA3.grown; have hx04 := (hgr3.block w.heap.size (by simp; omega) (fun e => by have := Option.some.inj e; omega)).trans hx03; have hfz := Lib.frozen_of_heap hx04 3; have hc4 : w3.cell? ⟨w.heap.size, 3, none⟩ = some (.slice o.sp n1 o.sc) := Lib.cell_of_heap hx04 3)
  have hx05 := (off_set hx04 (.slice p3 o.slots.length c3)).1
  have hf5 := hf3.set (Nat.le_succ _) 3 (.slice p3 o.slots.length c3)
  have hgW : RowKit.Below W.heap.size W w3 := hb3.grown hgr3 hb3.size (fun q hq => by obtain rfl := Option.some.inj hq; exact Nat.le_refl _)
  have hx15 := (Below.heap_setCell w3 ⟨w.heap.size, 3, none⟩ (.slice p3 o.slots.length c3) (w.heap.size + 1) (show w.heap.size + 1 ≠ w.heap.size by omega)).trans ((hgW.block _ lt1).trans hx1)
  have hbb5 := (below_next hbb hgW).setCell (p := ⟨w.heap.size, 3, none⟩) (Nat.le_refl _) (.slice p3 o.slots.length c3)
  have hs5 : (w3.setCell ⟨w.heap.size, 3, none⟩ (.slice p3 o.slots.length c3)).heap.size = w3.heap.size := World.size_setCell _ _ _
  have lt5 : w.heap.size + 1 < w3.heap.size := Nat.lt_of_lt_of_le lt1 hgW.size
  rw [← hs5] at lt5
  clear hA3 hfz hc4 hc3 hx03 hx04 hown hf3 hgr3 hb3 HX3 hx0 hx1 hbb lt1 hgW hs5
  generalize World.setCell _ _ _ = W5 at hx05 hf5 hx15 hbb5 lt5 ⊢
  rw [HN1.out] at hx05 hf5 ⊢
  have HF5 := Lib.hid hf5
  have hb6 := below_alloc1 W5 (.cells #[] 9)
  have hown : (W5.alloc (.cells #[] 9)).ownsRow W5.heap.size 9 1 (.slice (some ⟨W5.heap.size, 0, none⟩) ([] : List ByteArray).length 0) ([] : List ByteArray).length (flatE encT []) := World.ownsRow_made W5 #[] 0 (Nat.le_refl _) (Nat.zero_le _) rfl
  have hx06 := (hb6.block _ (by omega)).trans hx05
  have hc6 : (W5.alloc (.cells #[] 9)).cell? ⟨w.heap.size, 4, none⟩ = some (.slice o.np n2 o.nc) := Lib.cell_of_heap hx06 4
  have HX6 := Lib.hid (HND.out.below (below_next hbb5 hb6))
  clear hf5
  go_upto_region 3 with (at_builtin; refine wpList_append_row strT rfl (.tmp 8) (.tmp 10) rfl W5.heap.size _ _ [] o.needs rfl rfl hown HX6.out (by have := HN2.out; simp; omega) (by simp) ?_; intro v7 w7 hA7; obtain ⟨⟨p7, c7, rfl⟩, hf7⟩ := far_new strT (b := w.heap.size + 1) (by omega) hA7; have hgr7 : (W5.alloc (.cells #[] 9)).grownBy w7 (some W5.heap.size) := hA7.grown; have hx07 := (hgr7.block w.heap.size (by simp; omega) (fun e => by have := Option.some.inj e; omega)).trans hx06; have hfz := Lib.frozen_of_heap hx07 4; have hc7 : w7.cell? ⟨w.heap.size, 4, none⟩ = some (.slice o.np n2 o.nc) := Lib.cell_of_heap hx07 4)
  have hx08 := (off_set hx07 (.slice p7 o.needs.length c7)).2
  have hgW : RowKit.Below W5.heap.size W5 w7 := hb6.grown hgr7 hb6.size (fun q hq => by obtain rfl := Option.some.inj hq; exact Nat.le_refl _)
  have hf8 := hf7.set (Nat.le_succ _) 4 (.slice p7 o.needs.length c7)
  have HF8 := Lib.hid ((HF5.out.below hgW).set (Nat.le_succ _) 4 (.slice p7 o.needs.length c7))
  have hx18 := (Below.heap_setCell w7 ⟨w.heap.size, 4, none⟩ (.slice p7 o.needs.length c7) (w.heap.size + 1) (show w.heap.size + 1 ≠ w.heap.size by omega)).trans ((hgW.block _ lt5).trans hx15)
  have hbb8 := (below_next hbb5 hgW).setCell (p := ⟨w.heap.size, 4, none⟩) (Nat.le_refl _) (.slice p7 o.needs.length c7)
  clear hA7 hfz hc7 hc6 hx06 hx07 hown hf7 hgr7 hb6 HX6 hx05 hx15 hbb5 lt5 hgW HF5
  generalize World.setCell _ _ _ = W8 at hx08 hf8 hx18 hbb8 HF8 ⊢
  rw [HN2.out] at hx08 hf8 ⊢
  have HG8 := Lib.hid hf8
  clear hf8
  have hc0 : ∀ j, W8.cell? ⟨w.heap.size, j, none⟩ = (#[.string o.code, .int .i64 o.credits, .int .i64 o.places, .slice p3 n1 c3, .slice p7 n2 c7] : Array Value)[j]? := fun j => Lib.cell_of_heap hx08 j
  have hc1 : ∀ j, W8.cell? ⟨w.heap.size + 1, j, none⟩ = (#[.string ⟨#[]⟩, .int .i64 0, .int .i64 0, .slice none 0 0, .slice none 0 0] : Array Value)[j]? := fun j => Lib.cell_of_heap hx18 j
  have hf1 : ∀ j, W8.frozen? ⟨w.heap.size + 1, j, none⟩ = false := fun j => Lib.frozen_of_heap hx18 j
  go_wp2_with fail
  have hst := off_store hx18 (.string o.code) (.int .i64 o.credits) (.int .i64 o.places) (.slice p3 n1 c3) (.slice p7 n2 c7)
  refine bodyPost_ret (v := .agg #[.string o.code, .int .i64 o.credits, .int .i64 o.places, .slice p3 n1 c3, .slice p7 n2 c7]) (results_cell_row (P := Tryz.prog) Tryz.results64 _ _ (w.heap.size + 1) 57 #[.string o.code, .int .i64 o.credits, .int .i64 o.places, .slice p3 n1 c3, .slice p7 n2 c7] (0, 0) _ rfl hst Tryz.underlying57 rfl (by kernel_rfl)) rfl ?_
  have hle : w.heap.size ≤ w.heap.size + 1 := Nat.le_succ _
  have hb9 : RowKit.Below w.heap.size w (((((W8.setCell ⟨w.heap.size + 1, 0, none⟩ (.string o.code)).setCell ⟨w.heap.size + 1, 1, none⟩ (.int .i64 o.credits)).setCell ⟨w.heap.size + 1, 2, none⟩ (.int .i64 o.places)).setCell ⟨w.heap.size + 1, 3, none⟩ (.slice p3 n1 c3)).setCell ⟨w.heap.size + 1, 4, none⟩ (.slice p7 n2 c7)) := ((((hbb8.setCell hle _).setCell hle _).setCell hle _).setCell hle _).setCell hle _
  have l3 := Nat.le_refl (w.heap.size + 1)
  have e1 := HN1.out
  have e2 := HN2.out
  refine ⟨⟨o.code, o.credits, o.places, p3, c3, p7, c7, o.slots, o.needs⟩, by simp only [Off.val, e1, e2], ⟨rfl, rfl, rfl, rfl, rfl⟩, ?_, ?_, hb9⟩
  · have h := (((((HF8.out.set l3 0 (.string o.code)).set l3 1 (.int .i64 o.credits)).set l3 2 (.int .i64 o.places)).set l3 3 (.slice p3 n1 c3)).set l3 4 (.slice p7 n2 c7)).mono hle
    simp only [Off.sv, e1]
    exact h
  · have h := (((((HG8.out.set l3 0 (.string o.code)).set l3 1 (.int .i64 o.credits)).set l3 2 (.int .i64 o.places)).set l3 3 (.slice p3 n1 c3)).set l3 4 (.slice p7 n2 c7)).mono hle
    simp only [Off.nv, e2]
    exact h
theorem find_hit {L : List Off} {c : ByteArray} {k : Nat} {o : Off} (h : findO (L.take k) c = none) (hk : L[k]? = some o) (ho : o.code.toList = c.toList) : findO L c = some o := by
  obtain ⟨hlt, rfl⟩ := List.getElem?_eq_some_iff.1 hk
  have e : L = L.take k ++ L[k] :: L.drop (k + 1) := by rw [List.getElem_cons_drop, List.take_append_drop]
  unfold findO at h ⊢
  refine (congrArg (fun l : List Off => l.find? fun o => decide (o.code.toList = c.toList)) e).trans ?_
  show (List.take k L ++ L[k] :: List.drop (k + 1) L).find? (fun o => decide (o.code.toList = c.toList)) = _
  rw [List.find?_append, h, Option.none_or, List.find?_cons_of_pos (by simpa using ho)]
theorem find_miss {L : List Off} {c : ByteArray} {k : Nat} {o : Off} (h : findO (L.take k) c = none) (hk : L[k]? = some o) (ho : o.code.toList ≠ c.toList) : findO (L.take (k + 1)) c = none := by
  unfold findO at h ⊢
  rw [List.take_add_one, hk, List.find?_append, h, Option.none_or]
  simp [ho]
set_option maxHeartbeats 4000000 in
set_option maxRecDepth 100000 in
theorem refFind_any (v : Value) (L : List Off) (c : ByteArray) (w : World) (h : RowIn Off.cells w v L) (hl : L.length ≤ 1000000) (ho : ∀ o ∈ L, OffOk w o ∧ o.slots.length ≤ 1000000 ∧ o.needs.length ≤ 1000000) :
    Calls Tryz.prog 48 #[v, .string c] w (FindPost L c w) := by
  have hbb := below_alloc1 w (.cells #[.string ⟨#[]⟩, .int .i64 0, .int .i64 0, .slice none 0 0, .slice none 0 0] 57)
  have hx := heap_alloc_new w (.cells #[.string ⟨#[]⟩, .int .i64 0, .int .i64 0, .slice none 0 0, .slice none 0 0] 57)
  obtain ⟨pv, cv, rfl, _⟩ := h.form
  have H := Lib.hid h
  have HO := Lib.hid ho
  clear h ho
  go_enter Tryz.func48, Tryz.ntmps48
  go_wp2_with fail
  generalize w.alloc _ = W at hbb hx ⊢
  have hlt := lt_of_heap hx
  go_loopw [6] (fun i wr => ∃ k : Nat, k ≤ L.length ∧ i = .int .i64 k ∧ Hid (findO (L.take k) c = none) ∧ RowKit.Below W.heap.size W wr) (fun i _ => L.length - (RowKit.intOf i).toNat)
  case atStart => exact ⟨0, Nat.zero_le _, rfl, Lib.hid rfl, Below.refl _ _⟩
  case round =>
    obtain ⟨k, hk, rfl, HK, hb0⟩ := hrel
    by_cases hlt : k < L.length
    · obtain ⟨b, of, c', hv, _, hbl, hxx⟩ := H.out.at_ (k := 5) (fun _ => rfl) (by omega)
      have e1 := (Value.slice.inj hv).1
      subst e1
      obtain ⟨o, hz⟩ : ∃ o, L[k]? = some o := ⟨_, List.getElem?_eq_getElem hlt⟩
      have hat := hxx k _ hz
      have hbw := below_next hbb hb0
      have h0 : wr.cell? ⟨b, of + k * 5, none⟩ = some (.string o.code) := by rw [hbw.cell (p := ⟨b, of + k * 5, none⟩) hbl]; exact hat 0 _ rfl
      have HZ := Lib.hid hz
      by_cases hcc : o.code.toList = c.toList
      · have ht : (o.code.toList == c.toList) = true := by simpa using hcc
        have h1 : wr.cell? ⟨b, of + k * 5 + 1, none⟩ = some (.int .i64 o.credits) := by rw [hbw.cell (p := ⟨b, of + k * 5 + 1, none⟩) hbl]; exact hat 1 _ rfl
        have h2 : wr.cell? ⟨b, of + k * 5 + 2, none⟩ = some (.int .i64 o.places) := by rw [hbw.cell (p := ⟨b, of + k * 5 + 2, none⟩) hbl]; exact hat 2 _ rfl
        have h3 : wr.cell? ⟨b, of + k * 5 + 3, none⟩ = some (.slice o.sp o.slots.length o.sc) := by rw [hbw.cell (p := ⟨b, of + k * 5 + 3, none⟩) hbl]; exact hat 3 _ rfl
        have h4 : wr.cell? ⟨b, of + k * 5 + 4, none⟩ = some (.slice o.np o.needs.length o.nc) := by rw [hbw.cell (p := ⟨b, of + k * 5 + 4, none⟩) hbl]; exact hat 4 _ rfl
        obtain ⟨oo, of1, of2⟩ := HO.out o (List.mem_of_getElem? hz)
        have cc := refCopy_any o wr (oo.below hbw) of1 of2
        have HF := Lib.hid (find_hit HK.out hz hcc)
        have HHX := Lib.hid hx
        have HBW := Lib.hid hbw
        have hxr := (hb0.block _ (lt_of_heap hx)).trans hx
        clear hxx hv hat hz hcc oo of1 of2 hx hbw
        go_wp2_with fail
        refine cc.mono ?_
        rintro _ w2 ⟨o', rfl, hsm, f5, f8, hb2⟩
        have hb02 := below_next HBW.out hb2
        have hr2 := (hb2.block _ (lt_of_heap hxr)).trans hxr
        have hyr : ∀ i, w2.cell? ⟨w.heap.size, i, none⟩ = (#[.string ⟨#[]⟩, .int .i64 0, .int .i64 0, .slice none 0 0, .slice none 0 0] : Array Value)[i]? := fun i => Lib.cell_of_heap hr2 i
        have hyf : ∀ i, w2.frozen? ⟨w.heap.size, i, none⟩ = false := fun i => Lib.frozen_of_heap hr2 i
        have F5 := Lib.hid f5
        have F8 := Lib.hid f8
        have HS := Lib.hid hsm
        have HSZ := Lib.hid HBW.out.size
        clear ht h0 h1 h2 h3 h4 hxr cc hb2 f5 f8 hsm HHX
        go_wp2_with fail
        have hb5 : RowKit.Below w.heap.size w (((((w2.setCell ⟨w.heap.size, 0, none⟩ (.string o'.code)).setCell ⟨w.heap.size, 1, none⟩ (.int .i64 o'.credits)).setCell ⟨w.heap.size, 2, none⟩ (.int .i64 o'.places)).setCell ⟨w.heap.size, 3, none⟩ o'.sv).setCell ⟨w.heap.size, 4, none⟩ o'.nv) := ((((hb02.setCell (Nat.le_refl _) _).setCell (Nat.le_refl _) _).setCell (Nat.le_refl _) _).setCell (Nat.le_refl _) _).setCell (Nat.le_refl _) _
        have hle : w.heap.size ≤ wr.heap.size := HSZ.out
        refine bodyPost_ret (v := .tuple #[o'.val, .bool (findO L c).isSome]) ?_ rfl ⟨o', rfl, ?_, ⟨?_, ?_⟩, hb5⟩
        · rw [HF.out]
          exact off_results Tryz.results48 _ _ w.heap.size _ rfl rfl (off_store hr2 _ _ _ _ _)
        · rw [show getO L c = o by unfold getO; rw [HF.out]; rfl]
          exact HS.out
        · exact (((((F5.out.set hle 0 _).set hle 1 _).set hle 2 _).set hle 3 _).set hle 4 _).row
        · exact (((((F8.out.set hle 0 _).set hle 1 _).set hle 2 _).set hle 3 _).set hle 4 _).row
      · have ht : (o.code.toList == c.toList) = false := by simpa using hcc
        have HN := Lib.hid (find_miss HK.out hz hcc)
        clear hxx hv hat hz hcc
        go_wp2_with fail
        go_roundw
        case rel => exact ⟨k + 1, by omega, by go_num, HN, hb0⟩
        case measure => simp [RowKit.intOf]; omega
    · obtain rfl : k = L.length := by omega
      have hn := HK.out
      rw [List.take_length] at hn
      have HN := Lib.hid hn
      have hr1 := (hb0.block _ (lt_of_heap hx)).trans hx
      have hbw := below_next hbb hb0
      have hxr : ∀ i, wr.cell? ⟨w.heap.size, i, none⟩ = (#[.string ⟨#[]⟩, .int .i64 0, .int .i64 0, .slice none 0 0, .slice none 0 0] : Array Value)[i]? := fun i => Lib.cell_of_heap hr1 i
      have hxf : ∀ i, wr.frozen? ⟨w.heap.size, i, none⟩ = false := fun i => Lib.frozen_of_heap hr1 i
      clear hn hx
      go_wp2_with fail
      have hb5 : RowKit.Below w.heap.size w (((((wr.setCell ⟨w.heap.size, 0, none⟩ (.string ⟨#[]⟩)).setCell ⟨w.heap.size, 1, none⟩ (.int .i64 0)).setCell ⟨w.heap.size, 2, none⟩ (.int .i64 0)).setCell ⟨w.heap.size, 3, none⟩ (.slice none 0 0)).setCell ⟨w.heap.size, 4, none⟩ (.slice none 0 0)) := ((((hbw.setCell (Nat.le_refl _) _).setCell (Nat.le_refl _) _).setCell (Nat.le_refl _) _).setCell (Nat.le_refl _) _).setCell (Nat.le_refl _) _
      refine bodyPost_ret (v := .tuple #[zeroO.val, .bool (findO L c).isSome]) ?_ rfl ⟨zeroO, rfl, ?_, zeroO_ok _, hb5⟩
      · rw [HN.out]
        exact off_results Tryz.results48 _ _ w.heap.size _ rfl rfl (off_store hr1 _ _ _ _ _)
      · rw [show getO L c = zeroO by unfold getO; rw [HN.out]; rfl]
        exact ⟨rfl, rfl, rfl, rfl, rfl⟩
theorem clash_cut {a : List Int} {p : Int → Bool} {k : Nat} {x : Int} (h : (a.take k).any p = false) (hk : a[k]? = some x) (hx : p x = false) : (a.take (k + 1)).any p = false := by
  rw [List.take_add_one, hk, List.any_append, h]
  simp [hx]
theorem not_cut {a : List Int} {i : Nat} {x y : Int} (h : x ∉ a.take i) (hk : a[i]? = some y) (hx : x ≠ y) : x ∉ a.take (i + 1) := by
  rw [List.take_add_one, hk, List.mem_append]
  rintro (h2 | h2)
  · exact h h2
  · simp at h2; exact hx h2
set_option maxHeartbeats 4000000 in
set_option maxRecDepth 100000 in
theorem refClash_any (a b : Off) (w : World) (ha : RowIn encI w a.sv a.slots) (hb : RowIn encI w b.sv b.slots) (la : a.slots.length ≤ 1000000) (lb : b.slots.length ≤ 1000000) :
    Calls Tryz.prog 49 #[.agg #[.string a.code, .int .i64 a.credits, .int .i64 a.places, .slice a.sp a.slots.length a.sc, .slice a.np a.needs.length a.nc], .agg #[.string b.code, .int .i64 b.credits, .int .i64 b.places, .slice b.sp b.slots.length b.sc, .slice b.np b.needs.length b.nc]] w fun e w' => e = .returned (.bool (clashO a b)) ∧ RowKit.Below w.heap.size w w' := by
  have hbb := (below_alloc1 w (.cells #[.string a.code, .int .i64 a.credits, .int .i64 a.places, .slice a.sp a.slots.length a.sc, .slice a.np a.needs.length a.nc] 57)).alloc (by simp) (.cells #[.string b.code, .int .i64 b.credits, .int .i64 b.places, .slice b.sp b.slots.length b.sc, .slice b.np b.needs.length b.nc] 57)
  have hx0 : ((w.alloc (.cells #[.string a.code, .int .i64 a.credits, .int .i64 a.places, .slice a.sp a.slots.length a.sc, .slice a.np a.needs.length a.nc] 57)).alloc (.cells #[.string b.code, .int .i64 b.credits, .int .i64 b.places, .slice b.sp b.slots.length b.sc, .slice b.np b.needs.length b.nc] 57)).heap[w.heap.size]? = some (.cells #[.string a.code, .int .i64 a.credits, .int .i64 a.places, .slice a.sp a.slots.length a.sc, .slice a.np a.needs.length a.nc] 57 (0, 0)) := by rw [(below_alloc1 _ _).block _ (by simp)]; exact heap_alloc_new w _
  have hx1 := new_two w (.cells #[.string a.code, .int .i64 a.credits, .int .i64 a.places, .slice a.sp a.slots.length a.sc, .slice a.np a.needs.length a.nc] 57) (.cells #[.string b.code, .int .i64 b.credits, .int .i64 b.places, .slice b.sp b.slots.length b.sc, .slice b.np b.needs.length b.nc] 57)
  obtain ⟨na, hna⟩ : ∃ n, a.slots.length = n := ⟨_, rfl⟩
  obtain ⟨nb, hnb⟩ : ∃ n, b.slots.length = n := ⟨_, rfl⟩
  have HNA := Lib.hid hna
  have HNB := Lib.hid hnb
  simp only [Off.sv] at ha hb
  rw [hna] at hbb hx0 hx1 ha la ⊢
  rw [hnb] at hbb hx0 hx1 hb lb ⊢
  have HA := Lib.hid ha
  have HB := Lib.hid hb
  clear ha hb hna hnb
  go_enter Tryz.func49, Tryz.ntmps49
  go_wp2_with fail
  generalize World.alloc _ _ = W at hbb hx0 hx1 ⊢
  go_loopw [5] (fun i wr => ∃ k : Nat, k ≤ na ∧ i = .int .i64 k ∧ Hid ((a.slots.take k).any (fun n => decide (n ∈ b.slots)) = false) ∧ RowKit.Below W.heap.size W wr) (fun i _ => na - (RowKit.intOf i).toNat)
  case atStart => exact ⟨0, Nat.zero_le _, rfl, Lib.hid rfl, Below.refl _ _⟩
  case round =>
    obtain ⟨k, hk, rfl, HK, hb0⟩ := hrel
    have hc0 : wr.cell? ⟨w.heap.size, 3, none⟩ = some (.slice a.sp na a.sc) := Lib.cell_of_heap ((hb0.block _ (lt_of_heap hx0)).trans hx0) 3
    by_cases hlt : k < na
    · obtain ⟨q, of, c', hv, _, hbl, hxx⟩ := HA.out.at_ (k := 1) (fun _ => rfl) (by have := HNA.out; omega)
      have e1 := (Value.slice.inj hv).1
      obtain ⟨x, hz⟩ : ∃ x, a.slots[k]? = some x := ⟨_, List.getElem?_eq_getElem (by have := HNA.out; omega)⟩
      have hat := hxx k _ hz
      rw [e1] at hc0
      have HE1 := Lib.hid e1
      have HZ := Lib.hid hz
      have HAT := Lib.hid hat
      have HBL := Lib.hid hbl
      clear hv hxx hz hat hbl e1
      go_wp2_with fail
      generalize wr = W2 at hb0 hc0 ⊢
      go_loopw [6] (fun i wr => ∃ j : Nat, j ≤ nb ∧ i = .int .i64 j ∧ Hid (x ∉ b.slots.take j) ∧ RowKit.Below W2.heap.size W2 wr) (fun i _ => nb - (RowKit.intOf i).toNat)
      case atStart => exact ⟨0, Nat.zero_le _, rfl, Lib.hid (by simp), Below.refl _ _⟩
      case round =>
        obtain ⟨j, hj, rfl, HJ, hb2⟩ := hrel
        have hb02 := below_next hb0 hb2
        have hc0' : wr.cell? ⟨w.heap.size, 3, none⟩ = some (.slice (some ⟨q, of, none⟩) na a.sc) := by rw [← HE1.out]; exact Lib.cell_of_heap ((hb02.block _ (lt_of_heap hx0)).trans hx0) 3
        have hc1 : wr.cell? ⟨w.heap.size + 1, 3, none⟩ = some (.slice b.sp nb b.sc) := Lib.cell_of_heap ((hb02.block _ (lt_of_heap hx1)).trans hx1) 3
        by_cases hjl : j < nb
        · obtain ⟨q2, of2, c2, hv, _, hbl, hxx⟩ := HB.out.at_ (k := 1) (fun _ => rfl) (by have := HNB.out; omega)
          have e1 := (Value.slice.inj hv).1
          obtain ⟨y, hz⟩ : ∃ y, b.slots[j]? = some y := ⟨_, List.getElem?_eq_getElem (by have := HNB.out; omega)⟩
          have hat := hxx j _ hz
          rw [e1] at hc1
          have h0 : wr.cell? ⟨q, of + k, none⟩ = some (.int .i64 x) := by
            rw [(below_next hbb hb02).cell (p := ⟨q, of + k, none⟩) HBL.out]
            have := HAT.out 0 _ rfl
            rwa [Nat.mul_one] at this
          have h1 : wr.cell? ⟨q2, of2 + j, none⟩ = some (.int .i64 y) := by
            rw [(below_next hbb hb02).cell (p := ⟨q2, of2 + j, none⟩) hbl]
            have := hat 0 _ rfl
            rwa [Nat.mul_one] at this
          have HY := Lib.hid hz
          clear hv hxx hz hat hbl e1
          by_cases hxy : x = y
          · subst hxy
            have ht : (x == x) = true := by simp
            have HM : Hid (clashO a b = true) := Lib.hid (by
              unfold clashO
              rw [List.any_eq_true]
              exact ⟨x, List.mem_of_getElem? HZ.out, by rw [decide_eq_true_eq]; exact List.mem_of_getElem? HY.out⟩)
            go_wp2_with fail
            go_quiet (fail)
            go_wp2_with fail
            go_ret
            exact ⟨ret_bool (by rw [HM.out]), blw_drewN (below_next hbb hb02) _⟩
          · have ht : (x == y) = false := by simpa using hxy
            have HJ2 := Lib.hid (not_cut HJ.out HY.out hxy)
            clear hxy
            go_wp2_with fail
            go_quiet (fail)
            go_wp2_with fail
            go_roundw
            case rel => exact ⟨j + 1, by omega, by go_num, HJ2, blw_drewN hb2 _⟩
            case measure => simp [RowKit.intOf]; omega
        · obtain rfl : j = nb := by omega
          have hk2 := HJ.out
          rw [← HNB.out, List.take_length] at hk2
          have HK2 := Lib.hid (clash_cut HK.out HZ.out (decide_eq_false hk2))
          clear hk2
          go_wp2_with fail
          go_roundw
          case rel => exact ⟨k + 1, by omega, by go_num, HK2, hb02⟩
          case measure => simp [RowKit.intOf]; omega
    · obtain rfl : k = na := by omega
      have hk2 := HK.out
      rw [← HNA.out, List.take_length] at hk2
      go_wp2_with fail
      go_ret
      exact ⟨ret_bool (by rw [show clashO a b = false from hk2]), below_next hbb hb0⟩
end Go.Proofs.YteopjiedjnaeiaaGreat
namespace Go.Proofs.YteopjiedjnaeiaaGreat
open Go Go.Proofs Go.RowKit Go.Maps Go.Sort Go.Lib

theorem ints_up {B B' : Nat} {S : Option Addr} {N : Nat} {w : World} (h : IntsIn B S N w) (hB : B ≤ B') : IntsIn B' S N w :=
  ⟨h.1, fun j hj => by
    obtain ⟨b, off, z, hA, hb, hc, hz⟩ := h.2 j hj
    exact ⟨b, off, z, hA, Nat.lt_of_lt_of_le hb hB, hc, hz⟩⟩
theorem ints_at {S : Option Addr} {N : Nat} {w w' : World} (h : IntsIn w.heap.size S N w) (hb : RowKit.Below w.heap.size w w') : IntsIn w'.heap.size S N w' := ints_up (h.below hb) hb.size
theorem intss_at {S : Option Addr} {N : Nat} {w w' : World} (h : IntssIn w.heap.size S N w) (hb : RowKit.Below w.heap.size w w') : IntssIn w'.heap.size S N w' :=
  ⟨h.1, fun j hj => by
    obtain ⟨b, off, A, n, c, hA, hB, hc, hi⟩ := (h.below hb).2 j hj
    exact ⟨b, off, A, n, c, hA, Nat.lt_of_lt_of_le hB hb.size, hc, ints_up hi hb.size⟩⟩
theorem Req.Small.fits {r : Req} (h : r.Small) : r.fits := ⟨h.wf, by have := h.code; omega, by have := h.give; omega⟩
theorem GoodL.calm {k : Nat} {L : List Off} (h : GoodL k L) : Calm L := fun o ho => ⟨(h.1 o ho).c0, by have := (h.1 o ho).c1; omega⟩
theorem codesL_small {c : ByteArray} (h : c ∈ codesL) : c.size ≤ 2 := by
  have : ∀ c ∈ codesL, c.size ≤ 2 := by decide
  exact this c h
theorem GoodL.cat {k : Nat} {w : World} {ov mv : Value} {L : List Off} {M : List Seat} (h : GoodL k L) (ho : RowIn Off.cells w ov L) (hok : ∀ o ∈ L, OffOk w o) (hm : RowIn Seat.cells w mv M) (hs : ∀ s ∈ M, s.wf) (lm : M.length ≤ 1000000) : CatIn w ov mv L M where
  off := ho
  ok o hx := ⟨hok o hx, by have := (h.1 o hx).sl; unfold Off.few; omega⟩
  code o hx := by have := codesL_small (h.1 o hx).code; unfold maxLen; omega
  met := hm
  wf := hs
  lo := by have := h.len; omega
  lm := lm
/-- What 'made' leaves. -/
structure MkCase (w' : World) (ov mv rv : Value) (L : List Off) (M : List Seat) (most : Int) (R : List Req) : Prop where
  cat : CatIn w' ov mv L M
  good : GoodL 6 L
  m0 : 0 ≤ most
  m1 : most ≤ 39
  req : ReqsIn w' rv R
  lr : R.length ≤ 16
  small : ∀ r ∈ R, r.Small
theorem MkCase.below {w w' : World} {ov mv rv : Value} {L : List Off} {M : List Seat} {most : Int} {R : List Req} (h : MkCase w ov mv rv L M most R) (hb : RowKit.Below w.heap.size w w') : MkCase w' ov mv rv L M most R :=
  ⟨h.cat.below hb, h.good, h.m0, h.m1, h.req.below hb, h.lr, h.small⟩
def MkCasePost (w : World) (x : Ending) (w' : World) : Prop := ∃ ov mv rv L M most R, x = .returned (.tuple #[ov, mv, .int .i64 most, rv]) ∧ MkCase w' ov mv rv L M most R ∧ RowKit.Below w.heap.size w w'
set_option maxHeartbeats 4000000 in
set_option maxRecDepth 100000 in
theorem mk_case_any (A0 A1 : Option Addr) (n0 n1 c0 c1 : Nat) (q m : Int) (w : World) (h0 : IntsIn w.heap.size A0 n0 w) (h1 : IntssIn w.heap.size A1 n1 w) (hq0 : 0 ≤ q) (hq1 : q ≤ 4294967295) (hm0 : 0 ≤ m) (hm1 : m ≤ 255) :
    Calls Tryz.prog 6 #[.agg #[.slice A0 n0 c0, .slice A1 n1 c1, .int .u32 q, .int .u8 m]] w (MkCasePost w) := by
  have hb0 := below_alloc1 w (.cells #[.slice A0 n0 c0, .slice A1 n1 c1, .int .u32 q, .int .u8 m] 26)
  have hx0 : ∀ j, (w.alloc (.cells #[.slice A0 n0 c0, .slice A1 n1 c1, .int .u32 q, .int .u8 m] 26)).cell? ⟨w.heap.size, j, none⟩ = (#[.slice A0 n0 c0, .slice A1 n1 c1, .int .u32 q, .int .u8 m] : Array Value)[j]? := fun j => Lib.cell_of_heap (heap_alloc_new w _) j
  have hl0 : w.heap.size < (w.alloc (.cells #[.slice A0 n0 c0, .slice A1 n1 c1, .int .u32 q, .int .u8 m] 26)).heap.size := by simp
  have H0 := Lib.hid h0
  have H1 := Lib.hid h1
  clear h0 h1
  go_enter Tryz.func6, Tryz.ntmps6
  go_wp2_with fail
  generalize w.alloc _ = W at hb0 hx0 hl0 ⊢
  have keepS : ∀ w', RowKit.Below W.heap.size W w' → RowKit.Below W.heap.size W w' ∧ (∀ j, w'.cell? ⟨w.heap.size, j, none⟩ = (#[.slice A0 n0 c0, .slice A1 n1 c1, .int .u32 q, .int .u8 m] : Array Value)[j]?) := fun w' hb => ⟨hb, fun j => (hb.cell (p := ⟨w.heap.size, j, none⟩) hl0).trans (hx0 j)⟩
  have hS0 := keepS _ (Below.refl W.heap.size W).drew
  have hq2 : IntKind.i64.wrap q = q := IntWalk.i64_in _ (by omega)
  have hm2 : IntKind.i64.wrap m = m := IntWalk.i64_in _ (by omega)
  go_region_held3 (fun w' => RowKit.Below W.heap.size W w' ∧ (∀ j, w'.cell? ⟨w.heap.size, j, none⟩ = (#[.slice A0 n0 c0, .slice A1 n1 c1, .int .u32 q, .int .u8 m] : Array Value)[j]?)) (first | exact hS0 | assumption)
    (first
    | (go_at_call 14; refine (made07_any A0 n0 c0 _ (ints_at H0.out (below_next hb0 (Below.refl _ _).drew))).mono ?_; rintro _ w1 ⟨ov, L, rfl, hov, hok, hgood, hb1⟩; have hS1 := keepS w1 (below_next (Below.refl _ _).drew hb1))
    | (go_at_call 15; refine (met_any q _ hq0 hq1).mono ?_; rintro _ w2 ⟨mv, M, rfl, hmv, hMo, hb2⟩; have hS2 := keepS w2 (below_next hS1.1 hb2))
    | (go_at_call 16; refine (made_any A1 n1 c1 _ (intss_at H1.out (below_next hb0 hS2.1))).mono ?_; rintro _ w3 ⟨rv, R, rfl, hRl, hRs, hrv, hb3⟩; have hS3 := keepS w3 (below_next hS2.1 hb3)))
  go_wp2_with fail
  have h31 := below_next hb0 hS3.1
  have hov3 : RowIn Off.cells w3 ov L := (hov.below hb2).below hb3
  have hok3 : ∀ o ∈ L, OffOk w3 o := fun o ho => ((hok o ho).below hb2).below hb3
  have hmv3 : RowIn Seat.cells w3 mv M := (rowIn_own (k := 2) (fun _ => rfl) (by omega) hmv).below hb3
  have hlm : M.length ≤ 1000000 := by have := hMo.1; omega
  have hm40 : 0 ≤ m.tmod 40 ∧ m.tmod 40 ≤ 39 := by
    have : m.tmod 40 = m % 40 := Int.tmod_eq_emod_of_nonneg hm0
    omega
  refine bodyPost_ret (v := .tuple #[ov, mv, .int .i64 (m.tmod 40), rv]) (by simp [results, Tryz.results6, go_sem]) rfl ⟨ov, mv, rv, L, M, m.tmod 40, R, rfl, ⟨hgood.cat hov3 hok3 hmv3 hMo.2.1 hlm, hgood, hm40.1, hm40.2, reqsIn_own hrv, hRl, hRs⟩, h31⟩
end Go.Proofs.YteopjiedjnaeiaaGreat
