/- quadriviumref10.pick and on: they read a row of entries that the call owns. -/
import Derived.Test.YtnkbelbalaeieaaDoorSanity
import Derived.Test.YtnkbelbalaeieaaDoorDraw
namespace Go.Proofs.YtnkbelbalaeieaaDoor
open Go Go.RowKit Go.Sort Go.Lib

theorem int_info : (Tryd.prog.info? 3).map (fun i => (i.zero, i.size, i.bytes)) = some (some (.int .i64 0), 1, 8) := by kernel_rfl

/-- A slice value v that owns the entries es, in blocks from 'base' on. -/
def Ents (base : Nat) (w : World) (v : Value) (es : List Ent) : Prop := w.ownsRow base 26 15 v es.length (entCells es)

theorem entCells_len (l : List Ent) : (entCells l).length = l.length * 15 := by
  induction l with
  | nil => rfl
  | cons a l ih =>
    have : entCells (a :: l) = a.cells.toList ++ entCells l := rfl
    rw [this, List.length_append, ih, List.length_cons]
    have : a.cells.toList.length = 15 := rfl
    omega

theorem Ents.below {base : Nat} {w w' : World} {v : Value} {es : List Ent} (h : Ents base w v es) (hb : Below w.heap.size w w') : Ents base w' v es :=
  World.ownsRow.kept (row := none) h ⟨hb.os, hb.tape, hb.output, hb.size, fun k hk _ => hb.block k hk⟩ (by cases hv : v.ownBlock <;> simp)

/-- The shape of such a value: nil, or a row from its head on. -/
theorem Ents.form {base : Nat} {w : World} {v : Value} {es : List Ent} (h : Ents base w v es) : ∃ A c, v = .slice A es.length c ∧ (0 < es.length → ∃ g, A = some ⟨g, 0, none⟩ ∧ base ≤ g ∧ g < w.heap.size ∧ ∀ k e, es[k]? = some e → EntAt w g (k * 15) e) := by
  rcases h.2 with ⟨hv, h0⟩ | ⟨g, cap, cur, hv, hb, hg, hn, hc, hs, htake⟩
  · exact ⟨none, 0, by rw [hv, h0], fun hp => by omega⟩
  · refine ⟨some ⟨g, 0, none⟩, cap, hv, fun _ => ⟨g, rfl, hb, lt_of_heap hg, fun k e he j u hu => ?_⟩⟩
    have h1 := entCells_at es k e he j u hu
    rw [Lib.cell_of_heap hg]
    rw [← htake, List.getElem?_take] at h1
    split at h1
    · simpa using h1
    · cases h1

/-- What 'pick' returns: 0, or the Id of an entry of the student and of the kind. -/
def PickPost (es : List Ent) (st kd : Int) (w : World) (x : Ending) (w' : World) : Prop :=
  ∃ r : Int, x = .returned (.int .i64 r) ∧ (r = 0 ∨ ∃ e ∈ es, e.student = st ∧ e.kind = kd ∧ r = e.id) ∧ Below w.heap.size w w'

set_option maxHeartbeats 2000000 in
set_option maxRecDepth 100000 in
theorem pick_any (base : Nat) (v : Value) (es : List Ent) (st kd : Int) (n : Nat) (w : World) (h : Ents base w v es) (hl : es.length ≤ 1000) (hn : n ≤ 1000) :
    Calls Tryd.prog 59 #[v, .int .i64 st, .int .i64 kd, .int .i64 n] w (PickPost es st kd w) := by
  obtain ⟨i0, hi, hz0, hz1, hz2⟩ := info_parts int_info
  obtain ⟨A, c, rfl, hA⟩ := h.form
  go_enter Tryd.func59, Tryd.ntmps59
  go_wp2_with fail
  go_loopw [9, 10] (fun v i wr => ∃ (k : Nat) (ids : List Int), k ≤ es.length ∧ i = .int .i64 k ∧ ids.length ≤ k ∧ (∀ r ∈ ids, ∃ e ∈ es, e.student = st ∧ e.kind = kd ∧ r = e.id) ∧ wr.ownsRow w.heap.size 3 1 v ids.length (ids.map (Value.int .i64)) ∧ Below w.heap.size w wr) (fun _ i _ => es.length - (intOf i).toNat)
  case atStart => exact ⟨0, [], Nat.zero_le _, rfl, Nat.le_refl _, by simp, World.ownsRow_nil _ _ _ _, Below.refl _ _⟩
  case round =>
    obtain ⟨k, ids, hk, rfl, hkl, hids, hown, hbe⟩ := hrel
    by_cases hlt : k < es.length
    · obtain ⟨g, rfl, hg0, hg1, hat⟩ := hA (by omega)
      have he : es[k]? = some es[k] := List.getElem?_eq_getElem hlt
      have hm : es[k] ∈ es := List.getElem_mem hlt
      generalize es[k] = e at he hm
      have hat1 := (hat k e he).below hbe hg1
      have c0 : wr.cell? ⟨g, k * 15, none⟩ = some (.int .i64 e.id) := hat1.cell 0 rfl
      have c2 : wr.cell? ⟨g, k * 15 + 2, none⟩ = some (.int .i64 e.student) := hat1.cell 2 rfl
      have c3 : wr.cell? ⟨g, k * 15 + 3, none⟩ = some (.int .i64 e.kind) := hat1.cell 3 rfl
      clear hA hat hat1 h
      by_cases h1 : e.student = st
      · by_cases h2 : e.kind = kd
        · have hnew : ∀ j u, [Value.int .i64 e.id][j]? = some u → (wr.alloc (.cells #[.int .i64 e.id] 3)).cell? ((⟨wr.heap.size, 0, none⟩ : Addr).add j) = some u := by
            intro j u hj
            match j, hj with
            | 0, hj => simp at hj; subst hj; exact Lib.cell_of_heap (heap_alloc_new wr _) 0
          have hown1 := hown.alloc (.cells #[.int .i64 e.id] 3)
          go_wp2_with (at_builtin; go_must (refine wpList_append_own _ rfl (.tmp 33) (.tmp 39) 22 rfl w.heap.size 3 i0 (.int .i64 0) 1 8 Tryd.underlying22 hi hz0 hz1 hz2 rfl (by decide) _ _ _ rfl hown1 ⟨wr.heap.size, 0, none⟩ 1 1 [.int .i64 e.id] rfl rfl hnew (by simp [Value.oneCell']) (by unfold maxLen; omega) (by omega) (by simp; have := hbe.size; omega) ?_); intro v' w1 hown' hgrow _)
          have hbe' : RowKit.Below w.heap.size w w1 := (hbe.trans ((below_alloc1 wr _).mono hbe.size)).grown hgrow (by simp; have := hbe.size; omega) (fun q hq => (hown.lt q hq).1)
          clear hown hown1 hgrow hnew
          go_wp2_with fail
          go_roundw
          case rel =>
            refine ⟨k + 1, ids ++ [e.id], by omega, by go_num, by simp; omega, ?_, by simpa using hown', hbe'⟩
            intro r hr
            rcases List.mem_append.1 hr with hr | hr
            · exact hids r hr
            · simp at hr; exact ⟨e, hm, h1, h2, hr⟩
          case measure => simp [intOf]; omega
        · go_wp2_with fail
          go_roundw
          case rel => exact ⟨k + 1, ids, by omega, by go_num, by omega, hids, hown, hbe⟩
          case measure => simp [intOf]; omega
      · go_wp2_with fail
        go_roundw
        case rel => exact ⟨k + 1, ids, by omega, by go_num, by omega, hids, hown, hbe⟩
        case measure => simp [intOf]; omega
    · obtain rfl : k = es.length := by omega
      clear hA h hlt hk
      obtain ⟨A', c', rfl, hA'⟩ : ∃ A' c', u9 = .slice A' ids.length c' ∧ (0 < ids.length → ∃ g, A' = some ⟨g, 0, none⟩ ∧ ∀ j, j < ids.length → wr.cell? ⟨g, j, none⟩ = some (.int .i64 (ids.getD j 0))) := by
        rcases hown.2 with ⟨hv, h0⟩ | ⟨g, cap, cur, hv, hb, hg, hn', hc', hs, htake⟩
        · exact ⟨none, 0, by rw [hv, h0], fun hp => by omega⟩
        · refine ⟨some ⟨g, 0, none⟩, cap, hv, fun _ => ⟨g, rfl, fun j hj => ?_⟩⟩
          have h1 : (ids.map (Value.int .i64))[j]? = some (.int .i64 (ids.getD j 0)) := by simp [List.getD_eq_getElem?_getD, List.getElem?_eq_getElem hj]
          rw [← htake, List.getElem?_take] at h1
          rw [Lib.cell_of_heap hg]
          split at h1
          · simpa using h1
          · cases h1
      clear hown
      by_cases h0 : ids.length = 0
      · have h0' : (((ids.length : Nat) : Int) == 0) = true := by simp [h0]
        clear hA'
        go_wp2_with fail
        go_ret
        exact ⟨0, rfl, .inl rfl, hbe⟩
      · have h0' : (((ids.length : Nat) : Int) == 0) = false := by simp [h0]
        have hlt : n % ids.length < ids.length := Nat.mod_lt _ (by omega)
        obtain ⟨g, rfl, hcell⟩ := hA' (by omega)
        have hc := hcell _ hlt
        have hmem := hids _ (getD_mem hlt)
        generalize ids.getD (n % ids.length) 0 = r at hc hmem
        clear hcell hA' hids
        go_wp2_with fail
        go_ret
        exact ⟨r, rfl, .inr hmem, hbe⟩

/-- What 'on' returns: 0, or the On of the first entry with the Id. -/
def OnPost (es : List Ent) (w : World) (x : Ending) (w' : World) : Prop :=
  ∃ r : Int, x = .returned (.int .i64 r) ∧ (r = 0 ∨ ∃ e ∈ es, r = e.on) ∧ w = w'

set_option maxHeartbeats 2000000 in
set_option maxRecDepth 100000 in
theorem on_any (base : Nat) (v : Value) (es : List Ent) (id : Int) (w : World) (h : Ents base w v es) (hl : es.length ≤ 1000) :
    Calls Tryd.prog 61 #[v, .int .i64 id] w (OnPost es w) := by
  obtain ⟨A, c, rfl, hA⟩ := h.form
  clear h
  go_enter Tryd.func61, Tryd.ntmps61
  go_wp2_with fail
  go_loop [5] (fun i => ∃ k : Nat, k ≤ es.length ∧ i = .int .i64 k) (fun i => es.length - (intOf i).toNat)
  case atStart => exact ⟨0, Nat.zero_le _, rfl⟩
  case round =>
    obtain ⟨k, hk, rfl⟩ := hrel
    by_cases hlt : k < es.length
    · obtain ⟨g, rfl, hg0, hg1, hat⟩ := hA (by omega)
      have he : es[k]? = some es[k] := List.getElem?_eq_getElem hlt
      have hm : es[k] ∈ es := List.getElem_mem hlt
      generalize es[k] = e at he hm
      have hat1 := hat k e he
      have c0 : w.cell? ⟨g, k * 15, none⟩ = some (.int .i64 e.id) := hat1.cell 0 rfl
      have c5 : w.cell? ⟨g, k * 15 + 5, none⟩ = some (.int .i64 e.on) := hat1.cell 5 rfl
      clear hA hat hat1
      by_cases h1 : e.id = id
      · go_wp2_with fail
        go_ret
        exact ⟨e.on, rfl, .inr ⟨e, hm, rfl⟩, rfl⟩
      · go_wp2_with fail
        go_round
        case rel => exact ⟨k + 1, by omega, by go_num⟩
        case measure => simp [intOf]; omega
    · obtain rfl : k = es.length := by omega
      clear hA hlt hk
      go_wp2_with fail
      go_ret
      exact ⟨0, rfl, .inl rfl, rfl⟩
end Go.Proofs.YtnkbelbalaeieaaDoor
