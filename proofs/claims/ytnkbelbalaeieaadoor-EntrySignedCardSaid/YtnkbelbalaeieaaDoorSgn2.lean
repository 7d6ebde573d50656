/- entry.Sign and the reference's: each walked once. -/
import Derived.Test.YtnkbelbalaeieaaDoorSgn
import Derived.Test.YtnkbelbalaeieaaDoorMade
import Derived.Test.YtnkbelbalaeieaaDoorCheck2
import Derived.Test.YtnkbelbalaeieaaDoorRefB
import Derived.Laws.ResultCell
import Derived.Laws.Rows
namespace Go.Proofs.YtnkbelbalaeieaaDoor
open Go Go.RowKit Go.Sort Go.Lib
attribute [local go_sem] Ent.cells

def entZ : Ent := ⟨0, 0, 0, 0, 0, 0, ⟨#[]⟩, 0, 0, 0, 0, 0, 0, 0, ⟨#[]⟩⟩
/-- What Sign returns. -/
def signE (l : List KeyE) (sc id : Int) (e : Ent) : Ent × Int :=
  if chkV e ≠ 0 then (entZ, chkV e) else if e.school ≠ sc then (entZ, 22) else
  if (keySig l sc id ⟨({ e with key := id } : Ent).body.toArray⟩).2 ≠ 0 then (entZ, (keySig l sc id ⟨({ e with key := id } : Ent).body.toArray⟩).2)
  else ({ e with key := id, mark := (keySig l sc id ⟨({ e with key := id } : Ent).body.toArray⟩).1 }, 0)
theorem signE_eq (l : List KeyE) (sc id : Int) (e : Ent) : signE l sc id e = (if chkV e ≠ 0 then (entZ, chkV e) else if e.school ≠ sc then (entZ, 22) else
  if (keySig l sc id ⟨({ e with key := id } : Ent).body.toArray⟩).2 ≠ 0 then (entZ, (keySig l sc id ⟨({ e with key := id } : Ent).body.toArray⟩).2)
  else ({ e with key := id, mark := (keySig l sc id ⟨({ e with key := id } : Ent).body.toArray⟩).1 }, 0)) := rfl
def signV (l : List KeyE) (sc id : Int) (e : Ent) : Value := .tuple #[(signE l sc id e).1.val, .int .i64 (signE l sc id e).2]
theorem keySig_two (l : List KeyE) (sc id : Int) (t : ByteArray) : ∃ m n, keySig l sc id t = (m, n) ∧ (n = 0 ∨ n = 5) := by
  unfold keySig
  split <;> exact ⟨_, _, rfl, by simp⟩
theorem sgn_keep {W w w' : World} {eb kb : Nat} {e : Ent} {u v : Value} (h : RowKit.Below W.heap.size W w ∧ (∀ j, w.cell? ⟨eb, j, none⟩ = e.cells[j]?) ∧ w.cell? ⟨kb, 0, none⟩ = some u ∧ w.cell? ⟨kb, 1, none⟩ = some v) (hb : RowKit.Below w.heap.size w w') :
    RowKit.Below W.heap.size W w' ∧ (∀ j, w'.cell? ⟨eb, j, none⟩ = e.cells[j]?) ∧ w'.cell? ⟨kb, 0, none⟩ = some u ∧ w'.cell? ⟨kb, 1, none⟩ = some v := by
  have h0 : w.cell? ⟨eb, 0, none⟩ = some (.int .i64 e.id) := h.2.1 0
  have hlt : eb < w.heap.size := World.block_lt_of_cell? w _ h0
  exact ⟨h.1.trans (hb.mono h.1.size), fun j => (hb.cell (p := ⟨eb, j, none⟩) hlt).trans (h.2.1 j), (hb.cell (World.block_lt_of_cell? w _ h.2.2.1)).trans h.2.2.1, (hb.cell (World.block_lt_of_cell? w _ h.2.2.2)).trans h.2.2.2⟩
theorem EntBox.far2 {w : World} {b b' : Nat} {e : Ent} (h : EntBox w b e) (hb : b ≠ b') (j : Nat) (u : Value) : EntBox (w.setCell ⟨b', j, none⟩ u) b e := by
  unfold EntBox at *
  rw [Below.heap_setCell _ _ _ _ hb]; exact h
theorem three_new {w : World} (o1 o2 o3 : Obj) : RowKit.Below w.heap.size w (((w.alloc o1).alloc o2).alloc o3) ∧ (((w.alloc o1).alloc o2).alloc o3).heap[w.heap.size]? = some o1 ∧ (((w.alloc o1).alloc o2).alloc o3).heap[w.heap.size + 1]? = some o2 ∧ (((w.alloc o1).alloc o2).alloc o3).heap[w.heap.size + 1 + 1]? = some o3 := by
  have h1 := heap_alloc_new w o1
  have h2 := heap_alloc_new (w.alloc o1) o2
  have h3 := heap_alloc_new ((w.alloc o1).alloc o2) o3
  rw [size_alloc] at h2
  rw [size_alloc, size_alloc] at h3
  exact ⟨(((Below.refl _ _).alloc (Nat.le_refl _) _).alloc (by simp) _).alloc (by simp; omega) _, heap_keep (heap_keep h1 _) _, heap_keep h2 _, h3⟩
/-- What is returned: an entry out of its cell, and an error. -/
theorem sgn_results {fn : Func} {p u : Tmp} (h : fn.results = #[.cell p 26, .tmp u]) (tmps : Array Value) (w : World) (g : Nat) (e : Ent) (hp : tmps.getD p undef = .pointer (some ⟨g, 0, none⟩)) (hg : EntBox w g e) :
    (results fn tmps).run Tryd.prog w = .ok (.tuple #[e.val, tmps.getD u undef]) w := by
  rw [results_cell_tmp h, hp]
  have := run_loadVar_row (P := Tryd.prog) w g 26 26 e.cells (0, 0) _ hg Tryd.underlying26 rfl (by kernel_rfl)
  simp only [asAddr, Sem.run_pure, Result.andThen_ok, this]
  rfl
/-- The ring of the statements: two keys. -/
def ringL (from_ : Int) : List KeyE := [⟨1, ⟨#[113, 117, 105, 108, 108]⟩, 0, 0⟩, ⟨4, ⟨#[114, 101, 101, 100]⟩, from_, 0⟩]
theorem ring_any (sc from_ : Int) (w : World) (hf : 0 ≤ from_ ∧ from_ < 65536) :
    Calls Tryd.prog 23 #[.int .i64 sc, .int .u16 from_] w
      fun x w' => ∃ g, x = .returned (.agg #[.int .i64 sc, .slice (some ⟨g, 0, none⟩) 2 2]) ∧ w.heap.size ≤ g ∧ g < w'.heap.size ∧ KeysAt w' g (ringL (from_ % 1000)) ∧ RowKit.Below w.heap.size w w' := by
  have hm : Int.tmod from_ 1000 = from_ % 1000 := Int.tmod_eq_emod_of_nonneg hf.1
  go_enter Tryd.func23, Tryd.ntmps23
  go_wp2_with fail
  have h1 := heap_alloc_new w (.cells #[.int .i64 sc, .slice (some ⟨w.heap.size + 1, 0, none⟩) 2 2] 40)
  have h2 := heap_alloc_new (w.alloc (.cells #[.int .i64 sc, .slice (some ⟨w.heap.size + 1, 0, none⟩) 2 2] 40)) (.cells #[.int .i64 1, .string ⟨#[113, 117, 105, 108, 108]⟩, .int .i64 0, .int .i64 0, .int .i64 4, .string ⟨#[114, 101, 101, 100]⟩, .int .i64 (from_ % 1000), .int .i64 0] 82)
  rw [size_alloc] at h2
  have h3 := heap_keep h1 (.cells #[.int .i64 1, .string ⟨#[113, 117, 105, 108, 108]⟩, .int .i64 0, .int .i64 0, .int .i64 4, .string ⟨#[114, 101, 101, 100]⟩, .int .i64 (from_ % 1000), .int .i64 0] 82)
  refine bodyPost_ret (v := .agg #[.int .i64 sc, .slice (some ⟨w.heap.size + 1, 0, none⟩) 2 2]) (results_cell_row (P := Tryd.prog) Tryd.results23 _ _ w.heap.size 40 _ (0, 0) _ rfl h3 Tryd.underlying40 rfl (by kernel_rfl)) rfl ⟨w.heap.size + 1, rfl, by omega, by simp, ?_, ((Below.refl _ _).alloc (Nat.le_refl _) _).alloc (by simp) _⟩
  intro k e he j v hv
  rw [Lib.cell_of_heap h2]
  match k, he with
  | 0, he =>
    simp only [ringL, List.getElem?_cons_zero, Option.some.injEq] at he
    subst he
    match j, hv with
    | 0, hv | 1, hv | 2, hv | 3, hv => simpa using hv
    | j + 4, hv => simp at hv
  | 1, he =>
    simp only [ringL, List.getElem?_cons_succ, List.getElem?_cons_zero, Option.some.injEq] at he
    subst he
    match j, hv with
    | 0, hv | 1, hv | 2, hv | 3, hv => simpa using hv
    | j + 4, hv => simp at hv
  | k + 2, he => simp [ringL] at he

set_option maxHeartbeats 4000000 in
set_option maxRecDepth 100000 in
theorem sign_any (g c : Nat) (sc : Int) (l : List KeyE) (id : Int) (e : Ent) (w : World) (hl : l.length ≤ 1000) (hk : KeysAt w g l) (hsz : ∀ k ∈ l, k.secret.size ≤ 100000) (hg : g < w.heap.size) (hs : I64 sc) (hi : I64 id) (he : e.Ok) (hT : Tabs w) :
    Calls Tryd.prog 25 #[.agg #[.int .i64 sc, .slice (some ⟨g, 0, none⟩) l.length c], .int .i64 id, e.val] w
      fun x w' => x = .returned (signV l sc id e) ∧ RowKit.Below w.heap.size w w' := by
  obtain ⟨hb0, hr0, he0, hz0⟩ := three_new (w := w) (.cells #[.int .i64 sc, .slice (some ⟨g, 0, none⟩) l.length c] 40) (.cells e.cells 26) (.cells entZ.cells 26)
  have hC := check_any e he (((w.alloc (.cells #[.int .i64 sc, .slice (some ⟨g, 0, none⟩) l.length c] 40)).alloc (.cells e.cells 26)).alloc (.cells entZ.cells 26))
  have HV := Lib.hid (show signV l sc id e = .tuple #[(signE l sc id e).1.val, .int .i64 (signE l sc id e).2] from rfl)
  have HE := Lib.hid (signE_eq l sc id e)
  by_cases hc : chkV e = 0
  rotate_left 1
  · have HE1 := Lib.hid (HE.out.trans (if_pos hc))
    have hcb : (chkV e != 0) = true := by simpa using hc
    clear HE hc
    generalize chkV e = cv at *
    go_enter Tryd.func25, Tryd.ntmps25
    go_wp2_with fail
    refine hC.mono ?_
    rintro x w1 ⟨rfl, hb1⟩
    have hbw := hb0.trans (hb1.mono hb0.size)
    have hzb : EntBox w1 (w.heap.size + 1 + 1) entZ := (hb1.block _ (lt_of_heap hz0)).trans hz0
    clear hC hr0 he0 hz0 hb1
    go_wp2_with ((with_reducible refine wpList_store_row (o := ⟨none, .store 26 (.tmp 6) (.tmp 15), _, _, _, _⟩) ?_ 26 (.tmp 6) (.tmp 15) ?_ (w.heap.size + 1 + 1) (Ent.cells entZ) ?_ ?_ 26 (Ent.cells entZ) ?_ ?_ ?_ ?_ ?_); rfl; rfl; rfl; rfl; exact hzb; kernel_rfl; rfl; simp [Ent.cells, entZ, Value.oneCell'])
    (try simp only [Exit.inBlock, Exit.then]); refine bodyPost_ret (sgn_results Tryd.results25 _ _ (w.heap.size + 1 + 1) entZ rfl (heap_setRow hzb _)) rfl ⟨?_, ?_⟩
    · rw [HV.out, HE1.out]; rfl
    · exact below_setRow hbw (by omega) _
  rw [hc] at hC
  by_cases hq : e.school = sc
  rotate_left 1
  · have HE1 := Lib.hid ((HE.out.trans (if_neg (by simp [hc]))).trans (if_pos hq))
    have hqb : (e.school != sc) = true := by simpa using hq
    have hcb : (chkV e != 0) = false := by simpa using hc
    clear HE hc hq
    go_enter Tryd.func25, Tryd.ntmps25
    go_wp2_with fail
    refine hC.mono ?_
    rintro x w1 ⟨rfl, hb1⟩
    have hbw := hb0.trans (hb1.mono hb0.size)
    have hzb : EntBox w1 (w.heap.size + 1 + 1) entZ := (hb1.block _ (lt_of_heap hz0)).trans hz0
    have hc1 := Lib.cell_of_heap ((hb1.block _ (lt_of_heap he0)).trans he0) 1
    have hc2 := Lib.cell_of_heap ((hb1.block _ (lt_of_heap hr0)).trans hr0) 0
    clear hC hr0 he0 hz0 hb1
    go_wp2_with ((with_reducible refine wpList_store_row (o := ⟨none, .store 26 (.tmp 6) (.tmp 22), _, _, _, _⟩) ?_ 26 (.tmp 6) (.tmp 22) ?_ (w.heap.size + 1 + 1) (Ent.cells entZ) ?_ ?_ 26 (Ent.cells entZ) ?_ ?_ ?_ ?_ ?_); rfl; rfl; rfl; rfl; exact hzb; kernel_rfl; rfl; simp [Ent.cells, entZ, Value.oneCell'])
    (try simp only [Exit.inBlock, Exit.then]); refine bodyPost_ret (sgn_results Tryd.results25 _ _ (w.heap.size + 1 + 1) entZ rfl (heap_setRow hzb _)) rfl ⟨?_, ?_⟩
    · rw [HV.out, HE1.out]; rfl
    · exact below_setRow hbw (by omega) _
  have HE1 := Lib.hid ((HE.out.trans (if_neg (by simp [hc]))).trans (if_neg (by simp [hq])))
  have hok : ({ e with key := id } : Ent).Ok := ⟨he.id, he.school, he.student, he.kind, he.day, he.on, he.credits, he.grade, he.ref, he.fro, he.programme, he.version, hi, he.course, he.mark⟩
  have hB := fun w hT => body_any { e with key := id } hok w hT
  have hbl := body_len { e with key := id } hok
  have hcs := he.course
  have hK := fun w hk hg hT => keySign_any g c sc l id ⟨({ e with key := id } : Ent).body.toArray⟩ w hl hk hsz hg hs hi (by show ({ e with key := id } : Ent).body.length ≤ _; have := hbl; simp only at this; omega) hT
  generalize hbd : (⟨({ e with key := id } : Ent).body.toArray⟩ : ByteArray) = bd at HE1 hB hK
  obtain ⟨m, n, hmn, hn⟩ := keySig_two l sc id bd
  rw [hmn] at HE1 hK
  have hqb : (e.school != sc) = false := by simpa using hq
  clear HE hbl hcs hbd hmn
  generalize hk1 : ({ e with key := id } : Ent) = e1 at hB hok HE1
  have hset : Hid (e.cells.setIfInBounds 13 (.int .i64 id) = e1.cells) := Lib.hid (by rw [← hk1]; rfl)
  have hset2 : Hid (e1.cells.setIfInBounds 14 (.string m) = ({ e with key := id, mark := m } : Ent).cells) := Lib.hid (by rw [← hk1]; rfl)
  have HE2 := Lib.hid (show signE l sc id e = (if (n : Int) ≠ 0 then (entZ, n) else ({ e with key := id, mark := m }, 0)) from HE1.out)
  generalize ({ e with key := id, mark := m } : Ent) = e2 at hset2 HE2
  clear hc HE1 hk1 hq
  rcases hn with rfl | rfl
  · replace HE2 := Lib.hid (HE2.out.trans (if_neg (by decide)))
    go_enter Tryd.func25, Tryd.ntmps25
    go_wp2_with fail
    refine hC.mono ?_
    rintro x w1 ⟨rfl, hb1⟩
    have hbw := hb0.trans (hb1.mono hb0.size)
    have hzb : EntBox w1 (w.heap.size + 1 + 1) entZ := (hb1.block _ (lt_of_heap hz0)).trans hz0
    have heb : EntBox w1 (w.heap.size + 1) e := (hb1.block _ (lt_of_heap he0)).trans he0
    have hrb := (hb1.block _ (lt_of_heap hr0)).trans hr0
    have hc1 := heb.cell 1
    have hc2 := Lib.cell_of_heap hrb 0
    have hc3 := Lib.cell_of_heap hrb 1
    have hT1 := hT.below hbw
    have hk1 := hk.below hbw hg
    have hg1 : g < w1.heap.size := by have := hbw.size; omega
    have hfr := heb.frozen 13
    have hc13 : w1.cell? ⟨w.heap.size + 1, 13, none⟩ = some (.int .i64 e.key) := heb.cell 13
    clear hC hr0 he0 hz0 hb1 hb0
    go_wp2_with fail
    have hzb2 := hzb.far2 (b' := w.heap.size + 1) (by omega) 13 (.int .i64 id)
    have heb2 := heb.set 13 (.int .i64 id) hset.out
    have hbw2 := hbw.setCell (p := ⟨w.heap.size + 1, 13, none⟩) (by show w.heap.size ≤ w.heap.size + 1; omega) (.int .i64 id)
    have hrb2 := (Below.heap_setCell w1 ⟨w.heap.size + 1, 13, none⟩ (.int .i64 id) w.heap.size (by show w.heap.size ≠ w.heap.size + 1; omega)).trans hrb
    clear hzb heb hc1 hc2 hc3 hrb hfr hT1 hk1 hg1 hc13
    generalize w1.setCell ⟨w.heap.size + 1, 13, none⟩ (.int .i64 id) = W at *
    have hTW := hT.below hbw2
    have hkW := hk.below hbw2 hg
    have hgW : g < W.heap.size := by have := hbw2.size; omega
    have hS0 : RowKit.Below W.heap.size W W.drew ∧ (∀ j, W.drew.cell? ⟨w.heap.size + 1, j, none⟩ = e1.cells[j]?) ∧ W.drew.cell? ⟨w.heap.size, 0, none⟩ = some (.int .i64 sc) ∧ W.drew.cell? ⟨w.heap.size, 1, none⟩ = some (.slice (some ⟨g, 0, none⟩) l.length c) := ⟨(Below.refl _ _).drew, heb2.cell, Lib.cell_of_heap hrb2 0, Lib.cell_of_heap hrb2 1⟩
    refine of_onlyN ?_ (fun _ _ h => h)
    refine wp_region_flow (S := fun w' => RowKit.Below W.heap.size W w' ∧ (∀ j, w'.cell? ⟨w.heap.size + 1, j, none⟩ = e1.cells[j]?) ∧ w'.cell? ⟨w.heap.size, 0, none⟩ = some (.int .i64 sc) ∧ w'.cell? ⟨w.heap.size, 1, none⟩ = some (.slice (some ⟨g, 0, none⟩) l.length c)) [(0, true), (1, true), (2, true), (3, false), (4, false), (5, true), (6, true), (7, true), (8, true), (9, true)] (by kernel_rfl) (by kernel_rfl) (by kernel_rfl) (by decide) (hS0) ?_
    have hS := hS0
    refine flow_take ⟨some 26, _, _, _, _, _⟩ ?_ rfl (by rfl) ?_ ?_
    rotate_left 1
    · intro w hSw; (try dsimp only at hSw); go_simp; (try with_reducible rfl)
    simp only [Act.put, List.setIfInBounds_toArray, List.set_cons_zero, List.set_cons_succ]
    refine flow_take ⟨some 27, _, _, _, _, _⟩ ?_ rfl (by rfl) ?_ ?_
    rotate_left 1
    · intro w hSw; (try dsimp only at hSw); go_simp; (try with_reducible rfl)
    simp only [Act.put, List.setIfInBounds_toArray, List.set_cons_zero, List.set_cons_succ]
    refine flow_load ⟨some 28, _, _, _, _, _⟩ e1 (w.heap.size + 1) rfl (by rfl) _ (by rfl) (by rfl) (fun w hS => hS.2.1) ?_
    (try simp only [Act.put, List.setIfInBounds_toArray, List.set_cons_zero, List.set_cons_succ])
    refine flow_call ⟨some 29, _, _, _, _, _⟩ rfl (by rfl) 12 _ _ (by rfl) _ (by rfl) Tryd.call12 (hB _ (hTW.below hS.1)) ?_; rintro x wn ⟨rfl, hb⟩; replace hS := sgn_keep hS hb; refine ⟨_, rfl, hS, ?_⟩; (try clear hb)
    simp only [Act.put, List.setIfInBounds_toArray, List.set_cons_zero, List.set_cons_succ]
    refine flow_call ⟨some 30, _, _, _, _, _⟩ rfl (by rfl) 62 _ _ (by rfl) _ (by rfl) Tryd.call62 (hK _ (hkW.below hS.1 hgW) (by have := hS.1.size; omega) (hTW.below hS.1)) ?_; rintro x wn ⟨rfl, hb⟩; replace hS := sgn_keep hS hb; refine ⟨_, rfl, hS, ?_⟩; (try clear hb)
    simp only [Act.put, List.setIfInBounds_toArray, List.set_cons_zero, List.set_cons_succ]
    refine flow_take ⟨some 25, _, _, _, _, _⟩ ?_ rfl (by rfl) ?_ ?_
    rotate_left 1
    · intro w hSw; (try dsimp only at hSw); go_simp; (try with_reducible rfl)
    simp only [Act.put, List.setIfInBounds_toArray, List.set_cons_zero, List.set_cons_succ]
    refine flow_take ⟨some 31, _, _, _, _, _⟩ ?_ rfl (by rfl) ?_ ?_
    rotate_left 1
    · intro w hSw; (try dsimp only at hSw); go_simp; (try with_reducible rfl)
    simp only [Act.put, List.setIfInBounds_toArray, List.set_cons_zero, List.set_cons_succ]
    refine flow_take ⟨some 32, _, _, _, _, _⟩ ?_ rfl (by rfl) ?_ ?_
    rotate_left 1
    · intro w hSw; (try dsimp only at hSw); go_simp; (try with_reducible rfl)
    simp only [Act.put, List.setIfInBounds_toArray, List.set_cons_zero, List.set_cons_succ]
    refine flow_take ⟨some 9, _, _, _, _, _⟩ ?_ rfl (by rfl) ?_ ?_
    rotate_left 1
    · intro w hSw; (try dsimp only at hSw); go_simp; (try with_reducible rfl)
    simp only [Act.put, List.setIfInBounds_toArray, List.set_cons_zero, List.set_cons_succ]
    refine flow_take ⟨some 10, _, _, _, _, _⟩ ?_ rfl (by rfl) ?_ ?_
    rotate_left 1
    · intro w hSw; (try dsimp only at hSw); go_simp; (try with_reducible rfl)
    simp only [Act.put, List.setIfInBounds_toArray, List.set_cons_zero, List.set_cons_succ]
    simp only [wpFlow, OnlyN]
    have hbw3 := hbw2.trans (hS.1.mono hbw2.size)
    have hzb := hzb2.below hS.1
    have heb3 := heb2.below hS.1
    clear hS hS0 hkW hTW hrb2 hzb2 heb2 hB hK hk
    have hfr := heb3.frozen 14
    have hc14 : wn.cell? ⟨w.heap.size + 1, 14, none⟩ = some (.string e1.mark) := heb3.cell 14
    have hat := (heb3.set 14 (.string m) hset2.out).at_
    replace hzb := hzb.far2 (b' := w.heap.size + 1) (by omega) 14 (.string m)
    have hbw4 := hbw3.setCell (p := ⟨w.heap.size + 1, 14, none⟩) (by show w.heap.size ≤ w.heap.size + 1; omega) (.string m)
    clear hbw hbw2 hbw3 heb3 hset2 hset
    go_wp2_with (first
      | ((with_reducible refine wpList_load_mid (op := ⟨some 39, _, _, _, _, _⟩) ?_ 26 (.tmp 5) ?_ (w.heap.size + 1) 0 ?_ (Ent.cells e2).toList _ ?_ Tryd.underlying26 ?_ ?_ ?_); rfl; rfl; rfl; exact hat; rfl; kernel_rfl)
      | ((with_reducible refine wpList_store_row (o := ⟨none, .store 26 (.tmp 6) (.tmp 39), _, _, _, _⟩) ?_ 26 (.tmp 6) (.tmp 39) ?_ (w.heap.size + 1 + 1) (Ent.cells e2) ?_ ?_ 26 (Ent.cells entZ) ?_ ?_ ?_ ?_ ?_); rfl; rfl; rfl; rfl; exact hzb; kernel_rfl; rfl; simp [Ent.cells, Value.oneCell']))
    (try simp only [Exit.inBlock, Exit.then]); refine bodyPost_ret (sgn_results Tryd.results25 _ _ (w.heap.size + 1 + 1) e2 rfl (heap_setRow hzb _)) rfl ⟨?_, ?_⟩
    · rw [HV.out, HE2.out]; rfl
    · exact below_setRow hbw4 (by omega) _
  · replace HE2 := Lib.hid (HE2.out.trans (if_pos (by decide)))
    go_enter Tryd.func25, Tryd.ntmps25
    go_wp2_with fail
    refine hC.mono ?_
    rintro x w1 ⟨rfl, hb1⟩
    have hbw := hb0.trans (hb1.mono hb0.size)
    have hzb : EntBox w1 (w.heap.size + 1 + 1) entZ := (hb1.block _ (lt_of_heap hz0)).trans hz0
    have heb : EntBox w1 (w.heap.size + 1) e := (hb1.block _ (lt_of_heap he0)).trans he0
    have hrb := (hb1.block _ (lt_of_heap hr0)).trans hr0
    have hc1 := heb.cell 1
    have hc2 := Lib.cell_of_heap hrb 0
    have hc3 := Lib.cell_of_heap hrb 1
    have hT1 := hT.below hbw
    have hk1 := hk.below hbw hg
    have hg1 : g < w1.heap.size := by have := hbw.size; omega
    have hfr := heb.frozen 13
    have hc13 : w1.cell? ⟨w.heap.size + 1, 13, none⟩ = some (.int .i64 e.key) := heb.cell 13
    clear hC hr0 he0 hz0 hb1 hb0
    go_wp2_with fail
    have hzb2 := hzb.far2 (b' := w.heap.size + 1) (by omega) 13 (.int .i64 id)
    have heb2 := heb.set 13 (.int .i64 id) hset.out
    have hbw2 := hbw.setCell (p := ⟨w.heap.size + 1, 13, none⟩) (by show w.heap.size ≤ w.heap.size + 1; omega) (.int .i64 id)
    have hrb2 := (Below.heap_setCell w1 ⟨w.heap.size + 1, 13, none⟩ (.int .i64 id) w.heap.size (by show w.heap.size ≠ w.heap.size + 1; omega)).trans hrb
    clear hzb heb hc1 hc2 hc3 hrb hfr hT1 hk1 hg1 hc13
    generalize w1.setCell ⟨w.heap.size + 1, 13, none⟩ (.int .i64 id) = W at *
    have hTW := hT.below hbw2
    have hkW := hk.below hbw2 hg
    have hgW : g < W.heap.size := by have := hbw2.size; omega
    have hS0 : RowKit.Below W.heap.size W W.drew ∧ (∀ j, W.drew.cell? ⟨w.heap.size + 1, j, none⟩ = e1.cells[j]?) ∧ W.drew.cell? ⟨w.heap.size, 0, none⟩ = some (.int .i64 sc) ∧ W.drew.cell? ⟨w.heap.size, 1, none⟩ = some (.slice (some ⟨g, 0, none⟩) l.length c) := ⟨(Below.refl _ _).drew, heb2.cell, Lib.cell_of_heap hrb2 0, Lib.cell_of_heap hrb2 1⟩
    refine of_onlyN ?_ (fun _ _ h => h)
    refine wp_region_flow (S := fun w' => RowKit.Below W.heap.size W w' ∧ (∀ j, w'.cell? ⟨w.heap.size + 1, j, none⟩ = e1.cells[j]?) ∧ w'.cell? ⟨w.heap.size, 0, none⟩ = some (.int .i64 sc) ∧ w'.cell? ⟨w.heap.size, 1, none⟩ = some (.slice (some ⟨g, 0, none⟩) l.length c)) [(0, true), (1, true), (2, true), (3, false), (4, false), (5, true), (6, true), (7, true), (8, true), (9, true)] (by kernel_rfl) (by kernel_rfl) (by kernel_rfl) (by decide) (hS0) ?_
    have hS := hS0
    refine flow_take ⟨some 26, _, _, _, _, _⟩ ?_ rfl (by rfl) ?_ ?_
    rotate_left 1
    · intro w hSw; (try dsimp only at hSw); go_simp; (try with_reducible rfl)
    simp only [Act.put, List.setIfInBounds_toArray, List.set_cons_zero, List.set_cons_succ]
    refine flow_take ⟨some 27, _, _, _, _, _⟩ ?_ rfl (by rfl) ?_ ?_
    rotate_left 1
    · intro w hSw; (try dsimp only at hSw); go_simp; (try with_reducible rfl)
    simp only [Act.put, List.setIfInBounds_toArray, List.set_cons_zero, List.set_cons_succ]
    refine flow_load ⟨some 28, _, _, _, _, _⟩ e1 (w.heap.size + 1) rfl (by rfl) _ (by rfl) (by rfl) (fun w hS => hS.2.1) ?_
    (try simp only [Act.put, List.setIfInBounds_toArray, List.set_cons_zero, List.set_cons_succ])
    refine flow_call ⟨some 29, _, _, _, _, _⟩ rfl (by rfl) 12 _ _ (by rfl) _ (by rfl) Tryd.call12 (hB _ (hTW.below hS.1)) ?_; rintro x wn ⟨rfl, hb⟩; replace hS := sgn_keep hS hb; refine ⟨_, rfl, hS, ?_⟩; (try clear hb)
    simp only [Act.put, List.setIfInBounds_toArray, List.set_cons_zero, List.set_cons_succ]
    refine flow_call ⟨some 30, _, _, _, _, _⟩ rfl (by rfl) 62 _ _ (by rfl) _ (by rfl) Tryd.call62 (hK _ (hkW.below hS.1 hgW) (by have := hS.1.size; omega) (hTW.below hS.1)) ?_; rintro x wn ⟨rfl, hb⟩; replace hS := sgn_keep hS hb; refine ⟨_, rfl, hS, ?_⟩; (try clear hb)
    simp only [Act.put, List.setIfInBounds_toArray, List.set_cons_zero, List.set_cons_succ]
    refine flow_take ⟨some 25, _, _, _, _, _⟩ ?_ rfl (by rfl) ?_ ?_
    rotate_left 1
    · intro w hSw; (try dsimp only at hSw); go_simp; (try with_reducible rfl)
    simp only [Act.put, List.setIfInBounds_toArray, List.set_cons_zero, List.set_cons_succ]
    refine flow_take ⟨some 31, _, _, _, _, _⟩ ?_ rfl (by rfl) ?_ ?_
    rotate_left 1
    · intro w hSw; (try dsimp only at hSw); go_simp; (try with_reducible rfl)
    simp only [Act.put, List.setIfInBounds_toArray, List.set_cons_zero, List.set_cons_succ]
    refine flow_take ⟨some 32, _, _, _, _, _⟩ ?_ rfl (by rfl) ?_ ?_
    rotate_left 1
    · intro w hSw; (try dsimp only at hSw); go_simp; (try with_reducible rfl)
    simp only [Act.put, List.setIfInBounds_toArray, List.set_cons_zero, List.set_cons_succ]
    refine flow_take ⟨some 9, _, _, _, _, _⟩ ?_ rfl (by rfl) ?_ ?_
    rotate_left 1
    · intro w hSw; (try dsimp only at hSw); go_simp; (try with_reducible rfl)
    simp only [Act.put, List.setIfInBounds_toArray, List.set_cons_zero, List.set_cons_succ]
    refine flow_take ⟨some 10, _, _, _, _, _⟩ ?_ rfl (by rfl) ?_ ?_
    rotate_left 1
    · intro w hSw; (try dsimp only at hSw); go_simp; (try with_reducible rfl)
    simp only [Act.put, List.setIfInBounds_toArray, List.set_cons_zero, List.set_cons_succ]
    simp only [wpFlow, OnlyN]
    have hbw3 := hbw2.trans (hS.1.mono hbw2.size)
    have hzb := hzb2.below hS.1
    have heb3 := heb2.below hS.1
    clear hS hS0 hkW hTW hrb2 hzb2 heb2 hB hK hk
    go_wp2_with ((with_reducible refine wpList_store_row (o := ⟨none, .store 26 (.tmp 6) (.tmp 35), _, _, _, _⟩) ?_ 26 (.tmp 6) (.tmp 35) ?_ (w.heap.size + 1 + 1) (Ent.cells entZ) ?_ ?_ 26 (Ent.cells entZ) ?_ ?_ ?_ ?_ ?_); rfl; rfl; rfl; rfl; exact hzb; kernel_rfl; rfl; simp [Ent.cells, entZ, Value.oneCell'])
    (try simp only [Exit.inBlock, Exit.then]); refine bodyPost_ret (sgn_results Tryd.results25 _ _ (w.heap.size + 1 + 1) entZ rfl (heap_setRow hzb _)) rfl ⟨?_, ?_⟩
    · rw [HV.out, HE2.out]; rfl
    · exact below_setRow hbw3 (by omega) _

end Go.Proofs.YtnkbelbalaeieaaDoor
