/- Rings of keys: key.find and the reference's find, each walked once. -/
import Derived.Test.YtnkbelbalaeieaaDoorEnt
namespace Go.Proofs.YtnkbelbalaeieaaDoor
open Go Go.RowKit Go.Sort Go.Lib

structure KeyE where
  id : Int
  secret : ByteArray
  fro : Int
  stolen : Int
@[reducible] def KeyE.cells (k : KeyE) : Array Value := #[.int .i64 k.id, .string k.secret, .int .i64 k.fro, .int .i64 k.stolen]
@[reducible] def KeyE.val (k : KeyE) : Value := .agg #[.int .i64 k.id, .string k.secret, .int .i64 k.fro, .int .i64 k.stolen]
def KeyAt (w : World) (g o : Nat) (e : KeyE) : Prop := w.rangeAt g o e.cells.toList
/-- Keys lie in block g, one behind the other. -/
def KeysAt (w : World) (g : Nat) (l : List KeyE) : Prop := ∀ k e, l[k]? = some e → KeyAt w g (k * 4) e
theorem KeyAt.below {w w' : World} {B g o : Nat} {e : KeyE} (h : KeyAt w g o e) (hb : RowKit.Below B w w') (hB : g < B) : KeyAt w' g o e := fun j v hv => by
  rw [hb.cell (p := ⟨g, o + j, none⟩) hB]; exact h j v hv
theorem KeysAt.below {w w' : World} {B g : Nat} {l : List KeyE} (h : KeysAt w g l) (hb : RowKit.Below B w w') (hB : g < B) : KeysAt w' g l := fun k e he => (h k e he).below hb hB
theorem KeyAt.cell {w : World} {g o : Nat} {e : KeyE} (h : KeyAt w g o e) (j : Nat) {v : Value} (hv : e.cells.toList[j]? = some v) : w.cell? ⟨g, o + j, none⟩ = some v := h j v hv
theorem below_al (w : World) (o : Obj) : RowKit.Below w.heap.size w (w.alloc o) := (Below.refl _ _).alloc (Nat.le_refl _) _
/-- The index of the first key with a number; the list's length, if there is none. -/
def keyIdx (l : List KeyE) (id : Int) : Nat := l.findIdx (fun k => k.id == id)
theorem keyIdx_hit {l : List KeyE} {id : Int} {k : Nat} (hk : k < l.length) (h : ∀ e ∈ l.take k, (e.id == id) = false) (he : (l[k].id == id) = true) : keyIdx l id = k :=
  (List.findIdx_eq hk).2 ⟨he, fun j hj => h _ (List.mem_take_iff_getElem.2 ⟨j, by omega, rfl⟩)⟩
theorem keyIdx_none {l : List KeyE} {id : Int} (h : ∀ e ∈ l.take l.length, (e.id == id) = false) : keyIdx l id = l.length := by
  rw [List.take_length] at h
  exact List.findIdx_eq_length.2 h
theorem take_one {l : List KeyE} {p : KeyE → Prop} {k : Nat} (hk : k < l.length) (h : ∀ e ∈ l.take k, p e) (he : p l[k]) : ∀ e ∈ l.take (k + 1), p e := by
  rw [List.take_succ_eq_append_getElem hk]
  intro e hm
  rcases List.mem_append.1 hm with hm | hm
  · exact h e hm
  · rw [List.mem_singleton] at hm; rw [hm]; exact he

theorem findC_any (e : KeyE) (ib : Nat) (id : Int) (w : World) (hi : w.cell? ⟨ib, 0, none⟩ = some (.int .i64 id)) :
    Calls Tryd.prog 90 #[e.val, .pointer (some ⟨ib, 0, none⟩)] w fun x w' => x = .returned (.bool (e.id == id)) ∧ RowKit.Below w.heap.size w w' := by
  have hlt := World.block_lt_of_cell? w _ hi
  go_enter Tryd.func90, Tryd.ntmps90
  go_wp2_with fail
  go_ret
  exact ⟨rfl, below_al _ _⟩

set_option maxRecDepth 100000 in
theorem idxKey_any (g c ib : Nat) (l : List KeyE) (id : Int) (w : World) (hl : l.length ≤ 1000) (hk : KeysAt w g l) (hg : g < w.heap.size) (hi : w.cell? ⟨ib, 0, none⟩ = some (.int .i64 id)) :
    Calls Tryd.prog 89 #[.slice (some ⟨g, 0, none⟩) l.length c, .func (.func 90) #[] #[.pointer (some ⟨ib, 0, none⟩)]] w
      fun x w' => x = .returned (.int .i64 (if keyIdx l id < l.length then (keyIdx l id : Int) else -1)) ∧ RowKit.Below w.heap.size w w' := by
  have hlt := World.block_lt_of_cell? w _ hi
  have hK := Lib.hid hk
  have hH : ∀ k, k < l.length → (∀ e ∈ l.take k, (e.id == id) = false) → ∀ e, l[k]? = some e → (e.id == id) = true → keyIdx l id = k := fun k hk h e he h2 => by
    rw [List.getElem?_eq_getElem hk] at he; cases he; exact keyIdx_hit hk h h2
  have hO : ∀ k, k < l.length → (∀ e ∈ l.take k, (e.id == id) = false) → ∀ e, l[k]? = some e → (e.id == id) = false → ∀ e ∈ l.take (k + 1), (e.id == id) = false := fun k hk h e he h2 => by
    rw [List.getElem?_eq_getElem hk] at he; cases he; exact take_one hk h h2
  have hN2 := keyIdx_none (l := l) (id := id)
  have hE : ∀ k, k < l.length → ∃ e, l[k]? = some e := fun k hk => ⟨_, List.getElem?_eq_getElem hk⟩
  generalize keyIdx l id = I at *
  generalize l.length = N at *
  have HH := Lib.hid hH
  have HO := Lib.hid hO
  have HN := Lib.hid hN2
  have HE := Lib.hid hE
  clear hk hH hO hN2 hE
  go_enter Tryd.func89, Tryd.ntmps89
  go_wp2_with fail
  go_loopw [8] (fun i wr => ∃ k : Nat, k ≤ N ∧ Hid (∀ e ∈ l.take k, (e.id == id) = false) ∧ i = .int .i64 k ∧ RowKit.Below w.heap.size w wr) (fun i _ => N - (intOf i).toNat)
  case atStart => exact ⟨0, Nat.zero_le _, Lib.hid (by simp), rfl, Below.refl _ _⟩
  case round =>
    obtain ⟨k, hkN, hkI, rfl, hb⟩ := hrel
    by_cases hltk : k < N
    · obtain ⟨e, he⟩ := HE.out k hltk
      have hat := (hK.out k _ he).below hb hg
      have hi2 : wr.cell? ⟨ib, 0, none⟩ = some (.int .i64 id) := (hb.cell (p := ⟨ib, 0, none⟩) hlt).trans hi
      have hC := findC_any e ib id wr hi2
      have h1 : Hid ((e.id == id) = true → I = k) := Lib.hid (HH.out k hltk hkI.out e he)
      have h2 : Hid ((e.id == id) = false → ∀ e ∈ l.take (k + 1), (e.id == id) = false) := Lib.hid (HO.out k hltk hkI.out e he)
      clear he hi2
      generalize (e.id == id) = b at hC h1 h2
      go_wp2_with ((with_reducible refine wpList_load_mid (op := ⟨some 15, _, _, _, _, _⟩) ?_ 82 (.tmp 14) ?_ g (k * 4) ?_ (KeyE.cells e).toList _ ?_ Tryd.underlying82 ?_ ?_ ?_); rfl; rfl; rfl; exact hat; rfl; kernel_rfl)
      refine hC.mono ?_
      rintro x w1 ⟨rfl, hb1⟩
      have hbw := hb.trans (hb1.mono hb.size)
      cases b
      · replace h2 := Lib.hid (h2.out rfl)
        go_wp2_with fail
        go_roundw
        case rel => exact ⟨k + 1, by omega, h2, by go_num, hbw⟩
        case measure => simp [intOf]; omega
      · obtain rfl := h1.out rfl
        go_wp2_with fail
        go_ret
        exact ⟨rfl, hbw⟩
    · obtain rfl : k = N := by omega
      have h3 := HN.out hkI.out
      go_wp2_with fail
      go_ret
      exact ⟨rfl, hb⟩

/-- key.find: where the key lies; nil, if there is none. -/
def keyPtr (g : Nat) (l : List KeyE) (id : Int) : Value := if keyIdx l id < l.length then .pointer (some ⟨g, keyIdx l id * 4, none⟩) else .pointer none
set_option maxRecDepth 100000 in
theorem find_any (b g c : Nat) (sc : Int) (l : List KeyE) (id : Int) (w : World) (hl : l.length ≤ 1000) (hk : KeysAt w g l) (hg : g < w.heap.size) (hr : w.heap[b]? = some (.cells #[.int .i64 sc, .slice (some ⟨g, 0, none⟩) l.length c] 87 (0, 0))) :
    Calls Tryd.prog 64 #[.pointer (some ⟨b, 0, none⟩), .int .i64 id] w
      fun x w' => x = .returned (keyPtr g l id) ∧ RowKit.Below w.heap.size w w' := by
  have c1 : w.cell? ⟨b, 1, none⟩ = some (.slice (some ⟨g, 0, none⟩) l.length c) := Lib.cell_of_heap hr 1
  have hlt := World.block_lt_of_cell? w _ c1
  have hb0 := below_al w (.cells #[.int .i64 id] 3)
  have hC := idxKey_any g c w.heap.size l id (w.alloc (.cells #[.int .i64 id] 3)) hl (hk.below hb0 hg) (by simp; omega) (Lib.cell_of_heap (heap_alloc_new w _) 0)
  unfold keyPtr
  generalize keyIdx l id = I at *
  generalize l.length = N at *
  go_enter Tryd.func64, Tryd.ntmps64
  go_wp2_with fail
  refine hC.mono ?_
  rintro x w1 ⟨rfl, hb1⟩
  have hbw := hb0.trans (hb1.mono hb0.size)
  have c2 : w1.cell? ⟨b, 1, none⟩ = some (.slice (some ⟨g, 0, none⟩) N c) := (hbw.cell (p := ⟨b, 1, none⟩) hlt).trans c1
  by_cases h : I < N
  · rw [if_pos h]
    go_wp2_with fail
    go_ret
    exact ⟨rfl, hbw⟩
  · rw [if_neg h]
    go_wp2_with fail
    go_ret
    exact ⟨rfl, hbw⟩

set_option maxRecDepth 100000 in
theorem refFind_any (g c : Nat) (sc : Int) (l : List KeyE) (id : Int) (w : World) (hl : l.length ≤ 1000) (hk : KeysAt w g l) (hg : g < w.heap.size) :
    Calls Tryd.prog 86 #[.agg #[.int .i64 sc, .slice (some ⟨g, 0, none⟩) l.length c], .int .i64 id] w
      fun x w' => x = .returned (.int .i64 (if keyIdx l id < l.length then (keyIdx l id : Int) else -1)) ∧ RowKit.Below w.heap.size w w' := by
  have hb0 := below_al w (.cells #[.int .i64 sc, .slice (some ⟨g, 0, none⟩) l.length c] 40)
  have hK := Lib.hid (hk.below hb0 hg)
  have hH : ∀ k, k < l.length → (∀ e ∈ l.take k, (e.id == id) = false) → ∀ e, l[k]? = some e → (e.id == id) = true → keyIdx l id = k := fun k hk h e he h2 => by
    rw [List.getElem?_eq_getElem hk] at he; cases he; exact keyIdx_hit hk h h2
  have hO : ∀ k, k < l.length → (∀ e ∈ l.take k, (e.id == id) = false) → ∀ e, l[k]? = some e → (e.id == id) = false → ∀ e ∈ l.take (k + 1), (e.id == id) = false := fun k hk h e he h2 => by
    rw [List.getElem?_eq_getElem hk] at he; cases he; exact take_one hk h h2
  have hN2 := keyIdx_none (l := l) (id := id)
  have hE : ∀ k, k < l.length → ∃ e, l[k]? = some e := fun k hk => ⟨_, List.getElem?_eq_getElem hk⟩
  generalize keyIdx l id = I at *
  generalize l.length = N at *
  have HH := Lib.hid hH
  have HO := Lib.hid hO
  have HN := Lib.hid hN2
  have HE := Lib.hid hE
  clear hk hH hO hN2 hE
  go_enter Tryd.func86, Tryd.ntmps86
  go_wp2_with fail
  go_loopw [5] (fun i wr => ∃ k : Nat, k ≤ N ∧ Hid (∀ e ∈ l.take k, (e.id == id) = false) ∧ i = .int .i64 k ∧ wr = w.alloc (.cells #[.int .i64 sc, .slice (some ⟨g, 0, none⟩) N c] 40)) (fun i _ => N - (intOf i).toNat)
  case atStart => exact ⟨0, Nat.zero_le _, Lib.hid (by simp), rfl, rfl⟩
  case round =>
    obtain ⟨k, hkN, hkI, rfl, rfl⟩ := hrel
    by_cases hltk : k < N
    · obtain ⟨e, he⟩ := HE.out k hltk
      have hat := hK.out k _ he
      have c0 : (w.alloc (.cells #[.int .i64 sc, .slice (some ⟨g, 0, none⟩) N c] 40)).cell? ⟨g, k * 4, none⟩ = some (.int .i64 e.id) := hat.cell 0 rfl
      have h1 : Hid ((e.id == id) = true → I = k) := Lib.hid (HH.out k hltk hkI.out e he)
      have h2 : Hid ((e.id == id) = false → ∀ e ∈ l.take (k + 1), (e.id == id) = false) := Lib.hid (HO.out k hltk hkI.out e he)
      clear he hat
      obtain ⟨b, hbq⟩ : ∃ b, (e.id == id) = b := ⟨_, rfl⟩
      rw [hbq] at h1 h2
      cases b
      · replace h2 := Lib.hid (h2.out rfl)
        go_wp2_with fail
        go_roundw
        case rel => exact ⟨k + 1, by omega, h2, by go_num, by first | rfl | trivial⟩
        case measure => simp [intOf]; omega
      · obtain rfl := h1.out rfl
        go_wp2_with fail
        go_ret
        exact ⟨rfl, hb0⟩
    · obtain rfl : k = N := by omega
      have h3 := HN.out hkI.out
      go_wp2_with fail
      go_ret
      exact ⟨rfl, hb0⟩
end Go.Proofs.YtnkbelbalaeieaaDoor
