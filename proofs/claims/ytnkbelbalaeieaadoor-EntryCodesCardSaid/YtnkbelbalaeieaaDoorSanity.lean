/- quadriviumlaw10.sanity returns true: the chapter's examples. -/
import Derived.Test.YtnkbelbalaeieaaDoorKey
import Derived.Test.YtnkbelbalaeieaaDoorLoad
namespace Go.Proofs.YtnkbelbalaeieaaDoor
open Go Go.RowKit Go.Sort Go.Lib

/-- The chapter's example. -/
def ex0 : Ent := ⟨7, 1, 5, 3, 120, 100, ⟨#[65, 49]⟩, 5, 80, 0, 0, 0, 0, 0, ⟨#[]⟩⟩

theorem example_any (w : World) :
    Calls Tryd.prog 31 #[] w fun x w' => x = .returned ex0.val ∧ Below w.heap.size w w' := by
  go_enter Tryd.func31, Tryd.ntmps31
  go_wp2_with fail
  exact bodyPost_ret (v := ex0.val) (by simp [results, Tryd.results31, go_sem, ex0]) rfl ⟨rfl, (Below.refl _ _).alloc (Nat.le_refl _) _⟩

def exs : List Ent := [ex0, { ex0 with ref := 3 }, { ex0 with kind := 10 }, { ex0 with on := 121 }, { ex0 with course := ⟨#[97, 49]⟩ }, { ex0 with credits := 0 }, { ex0 with id := 900000 }, { ex0 with kind := 4, ref := 3 }]
def exWant : List Int := [0, 20, 20, 23, 12, 3, 1, 20]

/-- Block b is a row of entries. -/
def entCells (l : List Ent) : List Value := l.flatMap fun e => e.cells.toList
def EntRow (w : World) (b : Nat) (l : List Ent) : Prop := w.heap[b]? = some (.cells (entCells l).toArray 26 (0, 0))
theorem EntRow.below {w w' : World} {b : Nat} {l : List Ent} (h : EntRow w b l) (hk : Below w.heap.size w w') : EntRow w' b l := by
  unfold EntRow at *
  rw [hk.block b (lt_of_heap h)]; exact h
theorem entCells_at (l : List Ent) (k : Nat) (e : Ent) (h : l[k]? = some e) (j : Nat) (v : Value) (hv : e.cells.toList[j]? = some v) : (entCells l)[k * 15 + j]? = some v := by
  induction l generalizing k with
  | nil => simp at h
  | cons a l ih =>
    have hl : a.cells.toList.length = 15 := rfl
    have hj : j < 15 := by
      rcases Nat.lt_or_ge j 15 with h' | h'
      · exact h'
      · rw [List.getElem?_eq_none (by exact h')] at hv; cases hv
    have e0 : entCells (a :: l) = a.cells.toList ++ entCells l := rfl
    rw [e0]
    cases k with
    | zero =>
      simp only [List.getElem?_cons_zero, Option.some.injEq] at h
      subst h
      rw [Nat.zero_mul, Nat.zero_add, List.getElem?_append_left (by omega)]
      exact hv
    | succ k =>
      rw [List.getElem?_append_right (by omega), hl, show (k + 1) * 15 + j - 15 = k * 15 + j by omega]
      exact ih k (by simpa using h)
theorem EntRow.at_ {w : World} {b : Nat} {l : List Ent} (h : EntRow w b l) {k : Nat} {e : Ent} (hk : l[k]? = some e) : EntAt w b (k * 15) e := fun j v hv => by
  unfold EntRow at h
  rw [Lib.cell_of_heap h]
  simpa using entCells_at l k e hk j v hv

/-- Block b is a row of error numbers. -/
def ErrRow (w : World) (b : Nat) (l : List Int) : Prop := w.heap[b]? = some (.cells (l.map (Value.int .i64)).toArray 33 (0, 0))
theorem ErrRow.below {w w' : World} {b : Nat} {l : List Int} (h : ErrRow w b l) (hk : Below w.heap.size w w') : ErrRow w' b l := by
  unfold ErrRow at *
  rw [hk.block b (lt_of_heap h)]; exact h
theorem ErrRow.cell {w : World} {b : Nat} {l : List Int} (h : ErrRow w b l) {k : Nat} {n : Int} (hk : l[k]? = some n) : w.cell? ⟨b, k, none⟩ = some (.int .i64 n) := by
  unfold ErrRow at h
  rw [Lib.cell_of_heap h]
  simp [hk]

theorem ex_ok : ∀ e ∈ exs, e.Ok := by
  intro e he
  simp only [exs, List.mem_cons, List.not_mem_nil, or_false] at he
  rcases he with rfl | rfl | rfl | rfl | rfl | rfl | rfl | rfl <;> constructor <;> first | (unfold I64; decide) | decide

theorem ex_all : ∀ k : Fin 8, chkV (exs[k.1]'(by have h8 : exs.length = 8 := rfl; have := k.2; omega)) = exWant[k.1]'(by have h8 : exWant.length = 8 := rfl; have := k.2; omega) := by decide +kernel
theorem ex_want : ∀ k, k < 8 → ∃ e n, exs[k]? = some e ∧ exWant[k]? = some n ∧ e.Ok ∧ chkV e = n := by
  intro k hk
  have h8 : exs.length = 8 := rfl
  have h8' : exWant.length = 8 := rfl
  refine ⟨_, _, List.getElem?_eq_getElem (by omega), List.getElem?_eq_getElem (by omega), ex_ok _ (List.getElem_mem _), ?_⟩
  exact ex_all ⟨k, hk⟩

theorem ex_body : ex0.body = [55, 59, 49, 59, 53, 59, 51, 59, 49, 50, 48, 59, 49, 48, 48, 59, 50, 58, 65, 49, 53, 59, 56, 48, 59, 48, 59, 48, 59, 48, 59, 48, 59, 48, 59] := by decide +kernel
theorem ex_key : keyV ex0 = [48, 48, 48, 48, 48, 53, 32, 48, 48, 48, 49, 48, 48, 32, 48, 48, 48, 48, 48, 55, 32, 51] := by decide +kernel
theorem ex_key1 : keyV { ex0 with ref := 3 } = [] := by decide +kernel

set_option maxHeartbeats 8000000 in
set_option maxRecDepth 100000 in
theorem sanity_any (w : World) (ht : Tabs w) :
    Calls Tryd.prog 9 #[] w fun x w' => x = .returned (.bool true) ∧ Below w.heap.size w w' := by
  have hkey := fun W => key_any ex0 (ex_ok ex0 (by simp [exs])) W
  have hkey1 := fun W => key_any { ex0 with ref := 3 } (ex_ok _ (by simp [exs])) W
  have hbody := fun W hW => body_any ex0 (ex_ok ex0 (by simp [exs])) W hW
  rw [ex_key] at hkey
  rw [ex_key1] at hkey1
  rw [ex_body] at hbody
  go_enter Tryd.func9, Tryd.ntmps9
  go_wp2_with fail
  refine (example_any _).mono ?_
  rintro x w1 ⟨rfl, hb1⟩
  go_wp2_with fail
  go_loopw [41] (fun i wr => ∃ k : Nat, k ≤ 8 ∧ i = .int .i64 k ∧ Below w.heap.size w wr ∧ EntBox wr w1.heap.size ex0 ∧ EntRow wr (w1.heap.size + 1) exs ∧ ErrRow wr (w1.heap.size + 1 + 1) exWant) (fun i _ => 8 - (intOf i).toNat)
  case atStart =>
    have q1 := EntBox.new w1 ex0
    have q2 := heap_alloc_new (w1.alloc (.cells ex0.cells 26)) (.cells (entCells exs).toArray 26)
    have q3 := heap_alloc_new ((w1.alloc (.cells ex0.cells 26)).alloc (.cells (entCells exs).toArray 26)) (.cells (exWant.map (Value.int .i64)).toArray 33)
    rw [size_alloc] at q2
    rw [size_alloc, size_alloc] at q3
    refine ⟨0, by omega, rfl, ?_, ?_, ?_, ?_⟩
    · exact hb1.trans ((((Below.refl w1.heap.size w1).alloc (Nat.le_refl _) _).alloc (by simp) _).alloc (by simp; omega) _ |>.mono hb1.size)
    · exact (q1.below (below_alloc1 _ _)).below (below_alloc1 _ _)
    · exact EntRow.below (w := (w1.alloc (.cells ex0.cells 26)).alloc (.cells (entCells exs).toArray 26)) q2 (below_alloc1 _ _)
    · exact q3
  case round =>
    obtain ⟨k, hk, rfl, hbe, hbox, hrow, herr⟩ := hrel
    by_cases hlt : k < 8
    · obtain ⟨e, n, he, hn, hok, hch⟩ := ex_want k hlt
      have hcn := herr.cell hn
      have hat := hrow.at_ he
      have hc := fun W => check_any e hok W
      rw [hch] at hc
      clear hch he hn
      go_wp2_with (refine wpList_load_mid rfl 26 (.tmp 48) rfl _ _ rfl e.cells.toList _ hat Tryd.underlying26 rfl (by kernel_rfl) ?_)
      refine (hc _).mono ?_
      rintro x w2 ⟨rfl, hb2⟩
      go_wp2_with fail
      go_roundw
      case rel => exact ⟨k + 1, by omega, by go_num, hbe.trans (hb2.mono hbe.size), hbox.below hb2, hrow.below hb2, herr.below hb2⟩
      case measure => simp [intOf]; omega
    · obtain rfl : k = 8 := by omega
      have hat0 := hbox.at_
      have hat1 := hrow.at_ (k := 1) (e := { ex0 with ref := 3 }) rfl
      clear hlt hk
      go_wp2_with (refine wpList_load_mid rfl 26 (.tmp 1) rfl _ _ rfl ex0.cells.toList _ hat0 Tryd.underlying26 rfl (by kernel_rfl) ?_)
      refine (hbody _ (ht.below hbe)).mono ?_
      rintro x w2 ⟨rfl, hb2⟩
      have hbe2 := hbe.trans (hb2.mono hbe.size)
      have hbox2 := (hbox.below hb2).at_
      have hrow2 := hrow.below hb2
      clear hbe hb2 hbox hrow herr hat0 hat1
      go_wp2_with (refine wpList_load_g (by rfl) 26 (.tmp 1) rfl _ _ rfl ex0.cells.toList _ hbox2 Tryd.underlying26 rfl (by kernel_rfl) ?_)
      refine (hkey _).mono ?_
      rintro x w3 ⟨rfl, hb3⟩
      have hat3 := (hrow2.below hb3).at_ (k := 1) (e := { ex0 with ref := 3 }) rfl
      have hbe3 := hbe2.trans (hb3.mono hbe2.size)
      clear hbe2 hb3 hbox2 hrow2
      go_wp2_with (refine wpList_load_g (by rfl) 26 (.tmp 64) rfl _ _ rfl (Ent.cells { ex0 with ref := 3 }).toList _ hat3 Tryd.underlying26 rfl (by kernel_rfl) ?_)
      refine (hkey1 _).mono ?_
      rintro x w4 ⟨rfl, hb4⟩
      go_wp2_with fail
      go_ret
      exact ⟨rfl, hbe3.trans (hb4.mono hbe3.size)⟩
end Go.Proofs.YtnkbelbalaeieaaDoor
