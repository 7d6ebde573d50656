/- quadriviumlaw10.some, walked once. -/
import Derived.Test.YtnkbelbalaeieaaDoorMade
import Derived.Test.YtnkbelbalaeieaaDoorSomeR
namespace Go.Proofs.YtnkbelbalaeieaaDoor
open Go Go.RowKit Go.Sort Go.Lib
attribute [local go_sem] Ent.cells

theorem IntsIn.mono {B B' : Nat} {A : Option Addr} {n : Nat} {w : World} (h : IntsIn B A n w) (hb : B ≤ B') : IntsIn B' A n w := by
  refine ⟨h.1, fun j hj => ?_⟩
  obtain ⟨g, o, z, h1, h2, h3⟩ := h.2 j hj
  exact ⟨g, o, z, h1, by omega, h3⟩

theorem Ents.mono {base base' : Nat} {w : World} {v : Value} {es : List Ent} (h : Ents base w v es) (hb : base' ≤ base) : Ents base' w v es :=
  ⟨by have := h.1; omega, h.2.imp id (fun ⟨g, cap, cur, h1, h2, h3⟩ => ⟨g, cap, cur, h1, by omega, h3⟩)⟩

theorem codes_size : ∀ s ∈ codesL, s.size ≤ 100000 := by decide
theorem Good.ok {sc : Int} {e : Ent} (g : Good sc e) (hsc : 1 ≤ sc ∧ sc ≤ 100) : e.Ok := by
  obtain ⟨h1, h2, h3, h4, h5, h6, h7, h8, h9, h10, h11, h12, h13, h14⟩ := g
  have hc : e.course.size ≤ 100000 ∧ I64 e.credits := by
    split at h9
    · exact ⟨codes_size _ h9.1, by unfold I64; omega⟩
    · rw [h9.1, h9.2]; exact ⟨by decide, by unfold I64; omega⟩
  have hm : e.mark.size ≤ 100000 := by rw [h8]; decide
  clear h8 h9
  refine ⟨?_, ?_, ?_, ?_, ?_, ?_, hc.2, ?_, ?_, ?_, ?_, ?_, ?_, hc.1, hm⟩ <;> unfold I64 <;> (try split at h10) <;> (try split at h11) <;> (try split at h12) <;> (try split at h13) <;> (try split at h14) <;> omega

/-- What 'some' leaves: a row of its own of right-sized entries. -/
def SomePost (w : World) (x : Ending) (w' : World) : Prop := ∃ v es, x = .returned v ∧ es.length ≤ 1000 ∧ (∀ e ∈ es, Ent.Ok e) ∧ Ents w.heap.size w' v es ∧ RowKit.Below w.heap.size w w'

set_option maxHeartbeats 2000000 in
set_option maxRecDepth 100000 in
theorem some_any (A : Option Addr) (n c : Nat) (a b c' d : Int) (w : World) (_ha : I64 a) (hb : I64 b) (_hc : I64 c') (_hd : I64 d) (hi : IntsIn w.heap.size A n w) :
    Calls Tryd.prog 10 #[.slice A n c, .agg #[.int .i64 a, .int .i64 b, .int .i64 c', .int .i64 d]] w (SomePost w) := by
  go_enter Tryd.func10, Tryd.ntmps10
  go_wp2_with fail
  refine (mod_any b 8 _ (by have h8 := hb; unfold I64 at h8; omega) (by omega)).mono ?_
  rintro x w1 ⟨rfl, rfl⟩
  have hb8 : 0 ≤ b % 8 ∧ b % 8 < 8 := by omega
  have hwr : IntKind.i64.wrap (1 + b % 8) = 1 + b % 8 := IntWalk.i64_in _ (by omega)
  generalize hsc : 1 + b % 8 = sc at hwr
  go_wp2_with fail
  refine (made_any A n c sc _ (by omega) ((hi.below (below_alloc1 _ _)).mono (by simp))).mono ?_
  rintro x w1 ⟨v, es, rfl, hok, hes, hb1⟩
  have hscb : 1 ≤ sc ∧ sc ≤ 100 := by omega
  clear hsc hwr hb8 hi
  have hbox : w1.heap[w.heap.size]? = some (.cells #[.int .i64 a, .int .i64 b, .int .i64 c', .int .i64 d] 24 (0, 0)) := by
    rw [hb1.block _ (by simp)]; exact heap_alloc_new _ _
  have hbe : RowKit.Below w.heap.size w w1 := (below_alloc1 _ _).trans (hb1.mono (by simp))
  have hlt1 : w.heap.size < w1.heap.size := lt_of_heap hbox
  obtain ⟨A', cp, rfl, hA⟩ := hes.form
  have hlen := hok.len
  have hgood : ∀ x ∈ es, Ent.Ok x := fun x hx =>
    (hok.good x hx).ok (by omega)
  clear hb1 hok hes
  go_wp2_with fail
  go_loopw [5, 17] (fun v i wr => ∃ (k : Nat) (out : List Ent), k ≤ es.length ∧ i = .int .i64 k ∧ out.length = 3 * k ∧ (∀ x ∈ out, Ent.Ok x) ∧ wr.ownsRow w1.heap.size 26 15 v out.length (entCells out) ∧ Below w1.heap.size w1 wr) (fun _ i _ => es.length - (intOf i).toNat)
  case atStart => exact ⟨0, [], Nat.zero_le _, rfl, rfl, by simp, World.ownsRow_nil _ _ _ _, Below.refl _ _⟩
  case round =>
    obtain ⟨k, out, hk, rfl, hol, hoo, hown, hb2⟩ := hrel
    by_cases hlt : k < es.length
    · obtain ⟨g, rfl, hg0, hg1, hat⟩ := hA (by omega)
      have he : es[k]? = some es[k] := List.getElem?_eq_getElem hlt
      have hm := hgood _ (List.getElem_mem hlt)
      generalize es[k] = e at he hm
      have hat1 := (hat k e he).below hb2 hg1
      have hbox2 : wr.heap[w.heap.size]? = some (.cells #[.int .i64 a, .int .i64 b, .int .i64 c', .int .i64 d] 24 (0, 0)) := by
        rw [hb2.block _ hlt1]; exact hbox
      have q0 : wr.cell? ⟨w.heap.size, 0, none⟩ = some (.int .i64 a) := Lib.cell_of_heap hbox2 0
      have q1 : wr.cell? ⟨w.heap.size, 1, none⟩ = some (.int .i64 b) := Lib.cell_of_heap hbox2 1
      have hltr : w.heap.size < wr.heap.size := lt_of_heap hbox2
      clear hA hat he
      go_wp2_with (refine wpList_load_mid rfl 26 (.tmp 20) rfl _ _ rfl e.cells.toList _ hat1 Tryd.underlying26 rfl (by kernel_rfl) ?_)
      refine (odd_any e _ _ hm (i64_wrap _) (i64_wrap _) _).mono ?_
      rintro x w3 ⟨e2, rfl, hm2, hb3⟩
      have hba := (below_alloc1 wr (.cells e.cells 26)).trans (hb3.mono (by simp))
      have hbx := (EntBox.new wr e).below hb3
      have hbox3 : w3.heap[w.heap.size]? = some (.cells #[.int .i64 a, .int .i64 b, .int .i64 c', .int .i64 d] 24 (0, 0)) := by
        rw [hba.block _ hltr]; exact hbox2
      have q2 : w3.cell? ⟨w.heap.size, 2, none⟩ = some (.int .i64 c') := Lib.cell_of_heap hbox3 2
      have q3 : w3.cell? ⟨w.heap.size, 3, none⟩ = some (.int .i64 d) := Lib.cell_of_heap hbox3 3
      have hown3 := Ents.below (v := u5) (es := out) hown hba
      have hsz3 := hba.size
      have hownr := hown
      have hb6 : RowKit.Below w1.heap.size w1 (w3.alloc (.cells e2.cells 26)) := (hb2.trans (hba.mono hb2.size)).trans ((below_alloc1 _ _).mono (by have := hb2.size; have := hba.size; omega))
      clear hb3 hba hown hbox2 q0 q1 hat1 hbox
      go_wp2_with fail
      have hbx2 := EntBox.new w3 e2
      have hbx1 := hbx.below (below_alloc1 w3 (.cells e2.cells 26))
      have hown4 := hown3.below (below_alloc1 w3 (.cells e2.cells 26))
      have hbox4 := (below_alloc1 w3 (.cells e2.cells 26)).block _ (lt_of_heap hbox3) |>.trans hbox3
      have hba2 := below_alloc1 w3 (.cells e2.cells 26)
      have hv : ∀ q, u5.ownBlock = some q → q ≠ wr.heap.size ∧ q ≠ w3.heap.size ∧ q ≠ w.heap.size := fun q hq => by
        have h1 := World.ownsRow.lt hownr q hq
        omega
      have hbase : w1.heap.size ≤ (w3.alloc (.cells e2.cells 26)).heap.size := by rw [size_alloc]; have := hb2.size; omega
      refine some_r6 w.heap.size wr.heap.size w3.heap.size w1.heap.size k u5 e e2 out a b c' d _ _ hm2 (by omega) (by omega) hbx1 hbx2 hbox4 hown4 hbase hv ?_
      intro u35 u36 u37 u38 u39 u40 u41 u42 u43 u44 u45 u46 u47 u48 u49 u50 u51 u52 u53 g5 cp5 e4 w5 hm4 hown5 hb5
      go_wp2_with fail
      go_roundw
      case rel =>
        refine ⟨k + 1, out ++ [e, e2, e4], by omega, by go_num, by simp; omega, ?_, ?_, hb6.trans hb5⟩
        · intro x hx
          simp only [List.mem_append, List.mem_cons, List.not_mem_nil, or_false] at hx
          rcases hx with hx | rfl | rfl | rfl
          · exact hoo x hx
          · exact hm
          · exact hm2
          · exact hm4
        · have := hown5
          unfold Ents at this
          simpa using this
      case measure => simp [intOf]; omega
    · obtain rfl : k = es.length := by omega
      clear hA
      go_wp2_with fail
      go_ret
      exact ⟨u5, out, rfl, by omega, hoo, Ents.mono hown hbe.size, hbe.trans (hb2.mono hbe.size)⟩
end Go.Proofs.YtnkbelbalaeieaaDoor
