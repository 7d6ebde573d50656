/- api.Entry as a value; entry.Body and entry.Encode. -/
import Derived.Test.YtnkbelbalaeieaaDoorWire
import Derived.Test.YtnkbelbalaeieaaDoorBuild
import Derived.Deep.RegionHeld3
namespace Go.Proofs.YtnkbelbalaeieaaDoor
open Go Go.RowKit Go.Sort

structure Ent where
  id : Int
  school : Int
  student : Int
  kind : Int
  day : Int
  on : Int
  course : ByteArray
  credits : Int
  grade : Int
  ref : Int
  fro : Int
  programme : Int
  version : Int
  key : Int
  mark : ByteArray

/-- An int that Go's int holds. -/
def I64 (n : Int) : Prop := -9223372036854775808 ≤ n ∧ n ≤ 9223372036854775807

structure Ent.Ok (e : Ent) : Prop where
  id : I64 e.id
  school : I64 e.school
  student : I64 e.student
  kind : I64 e.kind
  day : I64 e.day
  on : I64 e.on
  credits : I64 e.credits
  grade : I64 e.grade
  ref : I64 e.ref
  fro : I64 e.fro
  programme : I64 e.programme
  version : I64 e.version
  key : I64 e.key
  course : e.course.size ≤ 100000
  mark : e.mark.size ≤ 100000

@[reducible] def Ent.val (e : Ent) : Value := .agg #[.int .i64 e.id, .int .i64 e.school, .int .i64 e.student, .int .i64 e.kind, .int .i64 e.day, .int .i64 e.on, .string e.course, .int .i64 e.credits, .int .i64 e.grade, .int .i64 e.ref, .int .i64 e.fro, .int .i64 e.programme, .int .i64 e.version, .int .i64 e.key, .string e.mark]

def Ent.ints1 (e : Ent) : List Int := [e.id, e.school, e.student, e.kind, e.day, e.on]
def Ent.ints2 (e : Ent) : List Int := [e.credits, e.grade, e.ref, e.fro, e.programme, e.version, e.key]
def wInts (l : List Int) : List UInt8 := l.flatMap wInt
def Ent.body (e : Ent) : List UInt8 := wInts e.ints1 ++ wText e.course ++ wInts e.ints2
def Ent.code (e : Ent) : List UInt8 := e.body ++ wText e.mark

theorem wInts_snoc (l : List Int) (n : Int) : wInts (l ++ [n]) = wInts l ++ wInt n := by simp [wInts]

theorem wInts_take (l : List Int) (k : Nat) (h : k < l.length) : wInts (l.take (k + 1)) = wInts (l.take k) ++ wInt (l.getD k 0) := by
  rw [List.take_succ_eq_append_getElem h, wInts_snoc, List.getD_eq_getElem?_getD, List.getElem?_eq_getElem h]; rfl

theorem wInts_len (l : List Int) (h : ∀ n ∈ l, I64 n) : (wInts l).length ≤ 22 * l.length := by
  induction l with
  | nil => simp [wInts]
  | cons a l ih =>
    have h1 := wInt_len a (h a (by simp)).1 (h a (by simp)).2
    have h2 := ih (fun n hn => h n (by simp [hn]))
    simp only [wInts, List.flatMap_cons, List.length_append, List.length_cons] at *
    omega

theorem getD_mem {l : List Int} {k : Nat} (h : k < l.length) : l.getD k 0 ∈ l := by
  rw [List.getD_eq_getElem?_getD, List.getElem?_eq_getElem h]; simp

theorem Ent.Ok.ints1 {e : Ent} (h : e.Ok) : ∀ n ∈ e.ints1, I64 n := by
  obtain ⟨a, b, c, d, f, g, _⟩ := h
  simp only [Ent.ints1, List.mem_cons, List.not_mem_nil, or_false]
  rintro n (rfl | rfl | rfl | rfl | rfl | rfl) <;> assumption
theorem Ent.Ok.ints2 {e : Ent} (h : e.Ok) : ∀ n ∈ e.ints2, I64 n := by
  obtain ⟨_, _, _, _, _, _, a, b, c, d, f, g, i, _⟩ := h
  simp only [Ent.ints2, List.mem_cons, List.not_mem_nil, or_false]
  rintro n (rfl | rfl | rfl | rfl | rfl | rfl | rfl) <;> assumption

/-- Block b is a row of ints. -/
def IntRow (w : World) (b : Nat) (l : List Int) : Prop := w.heap[b]? = some (.cells (l.map (Value.int .i64)).toArray 3 (0, 0))
theorem IntRow.cell {w : World} {b : Nat} {l : List Int} (h : IntRow w b l) {k : Nat} (hk : k < l.length) : w.cell? ⟨b, k, none⟩ = some (.int .i64 (l.getD k 0)) := by
  unfold IntRow at h
  rw [Lib.cell_of_heap h]
  simp [List.getD_eq_getElem?_getD, List.getElem?_eq_getElem hk]
theorem IntRow.kept {w w' : World} {b c : Nat} {l : List Int} (h : IntRow w b l) (hk : Kept c w w') (hb : b ≠ c) : IntRow w' b l := kept_cell hk h hb (by decide)
theorem lt_of_heap {w : World} {b : Nat} {o : Obj} (h : w.heap[b]? = some o) : b < w.heap.size := by
  rcases Nat.lt_or_ge b w.heap.size with h' | h'
  · exact h'
  · rw [Array.getElem?_eq_none h'] at h; cases h
theorem IntRow.below {w w' : World} {b : Nat} {l : List Int} (h : IntRow w b l) (hk : Below w.heap.size w w') : IntRow w' b l := by
  unfold IntRow at *
  rw [hk.block b (lt_of_heap h)]; exact h

/-- Block b holds an entry. -/
def Ent.cells (e : Ent) : Array Value := #[.int .i64 e.id, .int .i64 e.school, .int .i64 e.student, .int .i64 e.kind, .int .i64 e.day, .int .i64 e.on, .string e.course, .int .i64 e.credits, .int .i64 e.grade, .int .i64 e.ref, .int .i64 e.fro, .int .i64 e.programme, .int .i64 e.version, .int .i64 e.key, .string e.mark]
def EntBox (w : World) (b : Nat) (e : Ent) : Prop := w.heap[b]? = some (.cells e.cells 26 (0, 0))
theorem EntBox.kept {w w' : World} {b c : Nat} {e : Ent} (h : EntBox w b e) (hk : Kept c w w') (hb : b ≠ c) : EntBox w' b e := kept_cell hk h hb (by decide)
theorem EntBox.below {w w' : World} {b : Nat} {e : Ent} (h : EntBox w b e) (hk : Below w.heap.size w w') : EntBox w' b e := by
  unfold EntBox at *
  rw [hk.block b (lt_of_heap h)]; exact h
theorem EntBox.cell {w : World} {b : Nat} {e : Ent} (h : EntBox w b e) (k : Nat) : w.cell? ⟨b, k, none⟩ = e.cells[k]? := Lib.cell_of_heap h k

theorem size_alloc (w : World) (o : Obj) : (w.alloc o).heap.size = w.heap.size + 1 := by simp
theorem IntRow.new (w : World) (l : List Int) : IntRow (w.alloc (.cells (l.map (Value.int .i64)).toArray 3)) w.heap.size l := heap_alloc_new w _
theorem EntBox.new (w : World) (e : Ent) : EntBox (w.alloc (.cells e.cells 26)) w.heap.size e := heap_alloc_new w _
theorem below_alloc1 (w : World) (o : Obj) : Below w.heap.size w (w.alloc o) := (Below.refl _ _).alloc (Nat.le_refl _) _

set_option maxRecDepth 100000 in
theorem body_any (e : Ent) (h : e.Ok) (w : World) (ht : Tabs w) :
    Calls Tryd.prog 12 #[e.val] w fun x w' => x = .returned (.string ⟨e.body.toArray⟩) ∧ Below w.heap.size w w' := by
  have hl1 := wInts_len e.ints1 h.ints1
  have hl2 := wText_len e.course (by have := h.course; omega)
  have hl3 : e.ints1.length = 6 := rfl
  have hcs := h.course
  go_enter Tryd.func12, Tryd.ntmps12
  go_wp2
  go_loopw [22] (fun i wr => ∃ k : Nat, k ≤ 6 ∧ i = .int .i64 k ∧ Bld (w.heap.size + 1) (w.heap.size + 1) (wInts (e.ints1.take k)) wr ∧ Below w.heap.size w wr ∧ EntBox wr w.heap.size e ∧ IntRow wr (w.heap.size + 1 + 1) e.ints1) (fun i _ => 6 - (intOf i).toNat)
  case atStart =>
    refine ⟨0, by omega, rfl, ?_, ?_, ?_, ?_⟩
    · have := (Bld.new (w.alloc (.cells e.cells 26))).alloc (.cells (e.ints1.map (Value.int .i64)).toArray 3)
      rw [size_alloc] at this
      exact this
    · exact (((Below.refl _ _).alloc (Nat.le_refl _) _).alloc (by simp) _).alloc (by simp; omega) _
    · exact ((EntBox.new w e).below (below_alloc1 _ _)).below (below_alloc1 _ _)
    · have := IntRow.new ((w.alloc (.cells e.cells 26)).alloc (.cells #[.pointer none, .slice none 0 0] 60)) e.ints1
      rw [size_alloc, size_alloc] at this
      exact this
  case round =>
    obtain ⟨k, hk, rfl, hbl, hbe, hbox, hrow⟩ := hrel
    by_cases hlt : k < 6
    · have hc := hrow.cell (k := k) (by simpa [Ent.ints1] using hlt)
      have hi := h.ints1 _ (getD_mem (l := e.ints1) (k := k) (by simpa [Ent.ints1] using hlt))
      have htr := ht.below hbe
      have hlen := wInts_len (e.ints1.take k) (fun n hn => h.ints1 n (List.mem_of_mem_take hn))
      have hlen2 : (e.ints1.take k).length ≤ 6 := by simp [Ent.ints1]; omega
      have H := Lib.hid (wInts_take e.ints1 k (by simpa [Ent.ints1] using hlt))
      generalize e.ints1.getD k 0 = n at hc hi H
      have hwl := wInt_len n hi.1 hi.2
      go_wp2_with fail
      refine (wireInt_any n _ hi.1 hi.2 htr).mono ?_
      rintro x w1 ⟨rfl, hb1⟩
      go_wp2_with fail
      refine (bld_write _ _ _ (wInt n) _ (hbl.below hb1) (by omega)).mono ?_
      rintro x w2 ⟨rfl, hbl2, hb2, hk2⟩
      go_wp2_with fail
      go_roundw
      case rel => exact ⟨k + 1, by omega, by go_num, by rw [H.out]; exact hbl2, (hbe.trans (hb1.mono hbe.size)).trans (hb2.mono (by omega)), (hbox.below hb1).kept hk2 (by omega), (hrow.below hb1).kept hk2 (by omega)⟩
      case measure => simp [intOf]; omega
    · obtain rfl : k = 6 := by omega
      have e6 : e.ints1.take 6 = e.ints1 := rfl
      rw [e6] at hbl
      clear hlt hk e6
      have hc6 : wr.cell? ⟨w.heap.size, 6, none⟩ = some (.string e.course) := hbox.cell 6
      go_wp2_with fail
      refine (wireText_any e.course _ (by omega) (ht.below hbe)).mono ?_
      rintro x w1 ⟨rfl, hb1⟩
      go_wp2_with fail
      refine (bld_write _ _ _ (wText e.course) _ (hbl.below hb1) (by omega)).mono ?_
      rintro x w2 ⟨rfl, hbl2, hb2, hk2⟩
      have hbe2 := (hbe.trans (hb1.mono hbe.size)).trans (hb2.mono (by omega))
      have hbox2 := (hbox.below hb1).kept hk2 (by omega)
      clear hbl hb1 hb2 hk2 hbe hbox hrow hc6
      have hc7 : w2.cell? ⟨w.heap.size, 7, none⟩ = some (.int .i64 e.credits) := hbox2.cell 7
      have hc8 : w2.cell? ⟨w.heap.size, 8, none⟩ = some (.int .i64 e.grade) := hbox2.cell 8
      have hc9 : w2.cell? ⟨w.heap.size, 9, none⟩ = some (.int .i64 e.ref) := hbox2.cell 9
      have hc10 : w2.cell? ⟨w.heap.size, 10, none⟩ = some (.int .i64 e.fro) := hbox2.cell 10
      have hc11 : w2.cell? ⟨w.heap.size, 11, none⟩ = some (.int .i64 e.programme) := hbox2.cell 11
      have hc12 : w2.cell? ⟨w.heap.size, 12, none⟩ = some (.int .i64 e.version) := hbox2.cell 12
      have hc13 : w2.cell? ⟨w.heap.size, 13, none⟩ = some (.int .i64 e.key) := hbox2.cell 13
      go_wp2_with fail
      clear hc7 hc8 hc9 hc10 hc11 hc12 hc13
      go_loopw [50] (fun i wr => ∃ k : Nat, k ≤ 7 ∧ i = .int .i64 k ∧ Bld (w.heap.size + 1) (w.heap.size + 1) (wInts e.ints1 ++ wText e.course ++ wInts (e.ints2.take k)) wr ∧ Below w.heap.size w wr ∧ IntRow wr w2.heap.size e.ints2) (fun i _ => 7 - (intOf i).toNat)
      case atStart =>
        refine ⟨0, by omega, rfl, ?_, hbe2.trans ((below_alloc1 _ _).mono hbe2.size), IntRow.new w2 e.ints2⟩
        have := hbl2.alloc (.cells (e.ints2.map (Value.int .i64)).toArray 3)
        have e0 : wInts (e.ints2.take 0) = [] := rfl
        rw [e0, List.append_nil]
        exact this
      case round =>
        have hlt2 := hbl2.lt
        clear hbe2 hbox2 hbl2
        obtain ⟨k, hk, rfl, hbl, hbe, hrow⟩ := hrel
        have hl4 : e.ints2.length = 7 := rfl
        by_cases hlt : k < 7
        · have hc := hrow.cell (k := k) (by simpa [Ent.ints2] using hlt)
          have hi := h.ints2 _ (getD_mem (l := e.ints2) (k := k) (by simpa [Ent.ints2] using hlt))
          have htr := ht.below hbe
          have hlen := wInts_len (e.ints2.take k) (fun n hn => h.ints2 n (List.mem_of_mem_take hn))
          have hlen2 : (e.ints2.take k).length ≤ 7 := by simp [Ent.ints2]; omega
          have H := Lib.hid (wInts_take e.ints2 k (by simpa [Ent.ints2] using hlt))
          generalize e.ints2.getD k 0 = n at hc hi H
          have hwl := wInt_len n hi.1 hi.2
          go_wp2_with fail
          refine (wireInt_any n _ hi.1 hi.2 htr).mono ?_
          rintro x w1 ⟨rfl, hb1⟩
          go_wp2_with fail
          refine (bld_write _ _ _ (wInt n) _ (hbl.below hb1) (by simp only [List.length_append]; omega)).mono ?_
          rintro x w3 ⟨rfl, hbl3, hb3, hk3⟩
          go_wp2_with fail
          go_roundw
          case rel => exact ⟨k + 1, by omega, by go_num, by rw [H.out, ← List.append_assoc]; exact hbl3, (hbe.trans (hb1.mono hbe.size)).trans (hb3.mono (by omega)), (hrow.below hb1).kept hk3 (by omega)⟩
          case measure => simp [intOf]; omega
        · obtain rfl : k = 7 := by omega
          have e7 : e.ints2.take 7 = e.ints2 := rfl
          rw [e7] at hbl
          clear hlt hk e7 hrow
          go_wp2_with fail
          refine (bld_string _ _ _ _ hbl).mono ?_
          rintro x w3 ⟨rfl, _, hb3, _⟩
          go_wp2_with fail
          go_ret
          exact ⟨ret_str (by simp [Ent.body]), hbe.trans (hb3.mono (by omega))⟩

theorem body_len (e : Ent) (h : e.Ok) : e.body.length ≤ e.course.size + 400 := by
  have hl1 := wInts_len e.ints1 h.ints1
  have hl2 := wText_len e.course (by have := h.course; omega)
  have hl3 := wInts_len e.ints2 h.ints2
  have h1 : e.ints1.length = 6 := rfl
  have h2 : e.ints2.length = 7 := rfl
  simp only [Ent.body, List.length_append]; omega

/-- An entry lies in block b from offset o on. -/
def EntAt (w : World) (b o : Nat) (e : Ent) : Prop := w.rangeAt b o e.cells.toList
theorem EntBox.at_ {w : World} {b : Nat} {e : Ent} (h : EntBox w b e) : EntAt w b 0 e := by
  intro j v hv
  rw [Nat.zero_add, h.cell j]; simpa using hv
theorem EntAt.below {w w' : World} {B b o : Nat} {e : Ent} (h : EntAt w b o e) (hb : Below B w w') (hB : b < B) : EntAt w' b o e := fun j v hv => by
  rw [hb.cell (p := ⟨b, o + j, none⟩) hB]; exact h j v hv
theorem EntAt.drew {w : World} {b o : Nat} {e : Ent} (h : EntAt w b o e) : EntAt w.drew b o e := h
theorem EntAt.cell {w : World} {b o : Nat} {e : Ent} (h : EntAt w b o e) (j : Nat) {v : Value} (hv : e.cells.toList[j]? = some v) : w.cell? ⟨b, o + j, none⟩ = some v := h j v hv
theorem ent_load (w : World) (b o : Nat) (e : Ent) (h : EntAt w b o e) : (Instr.loadAt 26 (.pointer (some ⟨b, o, none⟩))).run Tryd.prog w = .ok e.val w :=
  run_loadAt_mid w b o 26 e.cells.toList _ h Tryd.underlying26 rfl (by kernel_rfl)

theorem EntBox.of_cells {b : Nat} {e : Ent} {W w w' : World} (h : Below W.heap.size W w ∧ ∀ j, w.cell? ⟨b, j, none⟩ = e.cells[j]?) (hb : Below w.heap.size w w') : Below W.heap.size W w' ∧ ∀ j, w'.cell? ⟨b, j, none⟩ = e.cells[j]? := by
  have h0 : w.cell? ⟨b, 0, none⟩ = some (.int .i64 e.id) := h.2 0
  have hlt : b < w.heap.size := World.block_lt_of_cell? w _ h0
  exact ⟨h.1.trans (hb.mono h.1.size), fun j => (hb.cell (p := ⟨b, j, none⟩) hlt).trans (h.2 j)⟩
attribute [local go_sem] Ent.cells
theorem encode_any (e : Ent) (h : e.Ok) (w : World) (ht : Tabs w) :
    Calls Tryd.prog 13 #[e.val] w fun x w' => x = .returned (.string ⟨e.code.toArray⟩) ∧ Below w.heap.size w w' := by
  have hl := body_len e h
  have hc := h.course
  have hm := h.mark
  have hl2 := wText_len e.mark (by have := h.mark; omega)
  have hnc : ¬ 9223372036854775807 < e.body.length + (wText e.mark).length := by omega
  go_enter Tryd.func13, Tryd.ntmps13
  go_wp2_with fail
  have hb0 := below_alloc1 w (.cells e.cells 26)
  have hbx := fun j => (EntBox.new w e).cell j
  go_region_held3 (fun w' => Below w.heap.size w w' ∧ ∀ j, w'.cell? ⟨w.heap.size, j, none⟩ = e.cells[j]?) (first | exact ⟨hb0.drew, hbx⟩ | assumption)
    (first
      | (go_at_call 12; refine (body_any e h _ (ht.below (And.left (by assumption)))).mono ?_; rintro x w1 ⟨rfl, hb1⟩; have hS1 := EntBox.of_cells (e := e) (by assumption) hb1)
      | (go_at_call 35; refine (wireText_any e.mark _ (by omega) (ht.below (And.left (by assumption)))).mono ?_; rintro x w2 ⟨rfl, hb2⟩; have hS2 := EntBox.of_cells (e := e) (by assumption) hb2))
  go_wp2_with fail
  go_ret
  exact ⟨ret_str (ba_ext (by simp [Ent.code])), hS2.1⟩
end Go.Proofs.YtnkbelbalaeieaaDoor
