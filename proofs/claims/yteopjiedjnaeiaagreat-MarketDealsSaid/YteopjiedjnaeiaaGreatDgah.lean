/- The market in plain words: seats, offers, what fits, the deal. -/
import Derived.Test.YteopjiedjnaeiaaGreatDgab
import Derived.Deep.QuietTactic
import Derived.BigQuiet
import Derived.Test.YteopjiedjnaeiaaGreatDgae
import Derived.Test.YteopjiedjnaeiaaGreatDgaf
import Derived.Test.YteopjiedjnaeiaaGreatDgaa
import Derived.Test.YteopjiedjnaeiaaGreatDgag
/- append to an own row of requests: the old slice holds what it held. -/
/- quadriviumref01.Draw.Next: a number from 0 to m - 1; the counter alone moves. -/
namespace Go.Proofs.YteopjiedjnaeiaaGreat
open Go Go.RowKit Go.Sort Go.Lib

theorem modv_eq (n m : Int) : (n.tmod m + m) % m = n % m := by
  rw [Int.add_emod_right]
  by_cases hn : 0 ≤ n
  · rw [Int.tmod_eq_emod_of_nonneg hn, Int.emod_emod_of_dvd _ (Int.dvd_refl m)]
  · have h1 : n.tmod m = -((-n) % m) := by
      rw [← Int.tmod_eq_emod_of_nonneg (by omega), Int.neg_tmod, Int.neg_neg]
    have h2 := Int.emod_add_mul_ediv n m
    have h3 := Int.tmod_add_mul_tdiv n m
    have e : n.tmod m = n % m + m * (n / m - n.tdiv m) := by rw [Int.mul_sub]; omega
    rw [e, Int.add_mul_emod_self_left, Int.emod_emod_of_dvd _ (Int.dvd_refl m)]

theorem mod_any (n m : Int) (w : World) (hm : 0 < m) (hm2 : m ≤ 1000000) :
    Calls Tryz.prog 7 #[.int .i64 n, .int .i64 m] w fun e w' => e = .returned (.int .i64 (n % m)) ∧ w = w' := by
  have hlo := Int.lt_tmod_of_pos n hm
  have hhi := Int.tmod_lt_of_pos n hm
  have hne : (m == 0) = false := by simp; omega
  have H := Lib.hid (modv_eq n m)
  go_enter Tryz.func7, Tryz.ntmps7
  go_wp2
  go_ret
  exact ⟨ret_int H.out, rfl⟩

/-- A slice of ints that came in, below block B: each place can be read. -/
def IntsIn (B : Nat) (A : Option Addr) (n : Nat) (w : World) : Prop :=
  n ≤ 9223372036854775807 ∧ ∀ j, j < n → ∃ b off z, A = some ⟨b, off, none⟩ ∧ b < B ∧ w.cell? ⟨b, off + j, none⟩ = some (.int .i64 z) ∧ I64 z
theorem IntsIn.below {B : Nat} {A : Option Addr} {n : Nat} {w w' : World} (h : IntsIn B A n w) (hb : Below B w w') : IntsIn B A n w' :=
  ⟨h.1, fun j hj => by
    obtain ⟨b, off, z, hA, hB, hc, hz⟩ := h.2 j hj
    exact ⟨b, off, z, hA, hB, (hb.cell (p := ⟨b, off + j, none⟩) hB).trans hc, hz⟩⟩

/-- Block d is a Draw over the slice A, n, c, which has given k numbers. -/
def DrawAt (w : World) (d : Nat) (A : Option Addr) (n c k : Nat) : Prop := w.heap[d]? = some (.cells #[.slice A n c, .int .i64 k] 83 (0, 0))

/-- Only block d has been written, and blocks laid. -/
def Only (d : Nat) (w w' : World) : Prop := w.grownBy w' (some d)

def NextPost (d : Nat) (A : Option Addr) (n c _k : Nat) (m : Int) (w : World) (x : Ending) (w' : World) : Prop :=
  ∃ v : Int, x = .returned (.int .i64 v) ∧ 0 ≤ v ∧ v < m ∧ (∃ k', k' ≤ n ∧ DrawAt w' d A n c k') ∧ Only d w w'

theorem Only.setCell (w : World) (d i : Nat) (u : Value) (n : Nat) : Only d w ((w.setCell ⟨d, i, none⟩ u).drewN n) :=
  ⟨rfl, rfl, rfl, by simp [World.setCell], fun k _ hk => Below.heap_setCell w _ _ _ (by simpa using hk)⟩

theorem quiet_r {P : Program} {f : FuncId} {args : Array Value} {w : World} {n : Nat} {v : Value} (h : Calls P f args (w.drewN n) fun e w' => e = .returned v ∧ w.drewN n = w') :
    Calls P f args (w.drewN n) fun e w'' => e = .returned v ∧ ∃ m, w'' = w.drewN m := h.mono fun _ _ ⟨he, hm⟩ => ⟨he, n, hm.symm⟩
theorem quiet_add_r {P : Program} {f : FuncId} {args : Array Value} {w : World} {a n : Nat} {v : Value} (h : Calls P f args (w.drewN (a + n)) fun e w' => e = .returned v ∧ w.drewN (a + n) = w') :
    Calls P f args (w.drewN (a + n)) fun e w'' => e = .returned v ∧ ∃ m, w'' = w.drewN (a + m) := h.mono fun _ _ ⟨he, hm⟩ => ⟨he, n, hm.symm⟩

set_option maxHeartbeats 2000000 in
set_option maxRecDepth 100000 in
theorem next_any (B d : Nat) (A : Option Addr) (n c k : Nat) (m : Int) (w : World) (hm : 0 < m) (hm2 : m ≤ 1000000) (hd : DrawAt w d A n c k) (hB : B ≤ d) (hk : k ≤ n) (hi : IntsIn B A n w) :
    Calls Tryz.prog 34 #[.pointer (some ⟨d, 0, none⟩), .int .i64 m] w (NextPost d A n c k m w) := by
  have hc0 : w.cell? ⟨d, 0, none⟩ = some (.slice A n c) := Lib.cell_of_heap hd 0
  have hc1 : w.cell? ⟨d, 1, none⟩ = some (.int .i64 k) := Lib.cell_of_heap hd 1
  have hf1 : w.frozen? ⟨d, 1, none⟩ = false := Lib.frozen_of_heap hd 1
  have hn := hi.1
  by_cases hlt : k < n
  · obtain ⟨b, off, z, rfl, hbB, hz, hz2⟩ := hi.2 k hlt
    have hbd : b ≠ d := by omega
    have hlt' : ¬ (n : Int) ≤ (k : Int) := by omega
    have hm' := fun W => mod_any z m W hm hm2
    go_enter Tryz.func34, Tryz.ntmps34
    go_wp2_with fail
    go_quiet (fail)
    go_wp2_with fail
    go_quiet ((go_at_call 7; exact quiet_r (hm' _)))
    go_wp2_with fail
    go_ret
    have h1 := Int.emod_nonneg z (show m ≠ 0 by omega)
    have h2 := Int.emod_lt_of_pos z hm
    refine ⟨z % m, rfl, h1, h2, ⟨k + 1, by omega, ?_⟩, ?_⟩
    · unfold DrawAt at hd ⊢
      show (((w.drewN _).setCell ⟨d, 1, none⟩ (.int .i64 (k + 1))).heap)[d]? = _
      simp [World.setCell, Array.getElem?_modify]
      exact ⟨_, hd, rfl⟩
    · exact ⟨rfl, rfl, rfl, by simp [World.setCell], fun k _ hk => Below.heap_setCell _ _ _ _ (by simpa using hk)⟩
  · have hlt' : (n : Int) ≤ (k : Int) := by omega
    go_enter Tryz.func34, Tryz.ntmps34
    go_wp2_with fail
    go_quiet (fail)
    go_wp2_with fail
    go_ret
    exact ⟨0, rfl, by omega, hm, ⟨k, by omega, hd⟩, ⟨rfl, rfl, rfl, Nat.le_refl _, fun _ _ _ => rfl⟩⟩
def codesL : List ByteArray := [⟨#[65, 49]⟩, ⟨#[66, 49]⟩, ⟨#[66, 50]⟩, ⟨#[67, 49]⟩, ⟨#[68, 49]⟩, ⟨#[69, 57]⟩]

theorem codes_any (w : World) :
    Calls Tryz.prog 33 #[] w fun x w' => x = .returned (.slice (some ⟨w.heap.size, 0, none⟩) 6 6) ∧ w' = w.alloc (.cells #[.string ⟨#[65, 49]⟩, .string ⟨#[66, 49]⟩, .string ⟨#[66, 50]⟩, .string ⟨#[67, 49]⟩, .string ⟨#[68, 49]⟩, .string ⟨#[69, 57]⟩] 9) := by
  go_enter Tryz.func33, Tryz.ntmps33
  go_wp2_with fail
  go_ret
  exact ⟨rfl, rfl⟩

/-- The draw in block d, somewhere on its way. -/
def DrawS (d : Nat) (A : Option Addr) (n c : Nat) (w : World) : Prop := ∃ k, k ≤ n ∧ DrawAt w d A n c k

def NextP (d : Nat) (A : Option Addr) (n c : Nat) (m : Nat) (w : World) (x : Ending) (w' : World) : Prop :=
  ∃ v : Nat, x = .returned (.int .i64 v) ∧ v < m ∧ DrawS d A n c w' ∧ Only d w w'

theorem next_st (d : Nat) (A : Option Addr) (n c : Nat) (m : Nat) (w : World) (hm : 0 < m) (hm2 : m ≤ 1000000) (hd : DrawS d A n c w) (hi : IntsIn d A n w) :
    Calls Tryz.prog 34 #[.pointer (some ⟨d, 0, none⟩), .int .i64 m] w (NextP d A n c m w) := by
  obtain ⟨k, hk, hd⟩ := hd
  refine (next_any d d A n c k m w (by omega) (by omega) hd (Nat.le_refl _) hk hi).mono ?_
  rintro x w' ⟨v, rfl, h0, h1, ⟨k', hk', hd'⟩, ho⟩
  exact ⟨v.toNat, by rw [Int.toNat_of_nonneg h0], by omega, ⟨k', hk', hd'⟩, ho⟩

theorem IntsIn.only {B d : Nat} {A : Option Addr} {n : Nat} {w w' : World} (h : IntsIn B A n w) (hB : B ≤ d) (hw : B ≤ w.heap.size) (ho : Only d w w') : IntsIn B A n w' :=
  h.below ⟨ho.os, ho.tape, ho.output, ho.size, fun k hk => ho.block k (by omega) (by simp; omega)⟩

end Go.Proofs.YteopjiedjnaeiaaGreat
/- quadriviumref27.Made: what a round keeps. -/
namespace Go.Proofs.YteopjiedjnaeiaaGreat
open Go Go.RowKit Go.Sort Go.Lib
attribute [local go_sem] Req.cells

theorem lt_of_heap {w : World} {b : Nat} {o : Obj} (h : w.heap[b]? = some o) : b < w.heap.size := by
  rcases Nat.lt_or_ge b w.heap.size with h' | h'
  · exact h'
  · rw [Array.getElem?_eq_none h'] at h; cases h
theorem below_next {W w w' : World} (h : RowKit.Below W.heap.size W w) (hb : RowKit.Below w.heap.size w w') : RowKit.Below W.heap.size W w' := h.trans (hb.mono h.size)
theorem setCell_size (w : World) (a : Addr) (u : Value) : (w.setCell a u).heap.size = w.heap.size := by simp [World.setCell]
/-- A slice of slices of ints that came in, below block B. -/
def IntssIn (B : Nat) (S : Option Addr) (N : Nat) (w : World) : Prop :=
  N ≤ 9223372036854775807 ∧ ∀ j, j < N → ∃ b off A n c, S = some ⟨b, off, none⟩ ∧ b < B ∧ w.cell? ⟨b, off + j, none⟩ = some (.slice A n c) ∧ IntsIn B A n w
theorem IntssIn.below {B : Nat} {S : Option Addr} {N : Nat} {w w' : World} (h : IntssIn B S N w) (hb : RowKit.Below B w w') : IntssIn B S N w' :=
  ⟨h.1, fun j hj => by
    obtain ⟨b, off, A, n, c, hA, hB, hc, hi⟩ := h.2 j hj
    exact ⟨b, off, A, n, c, hA, hB, (hb.cell (p := ⟨b, off + j, none⟩) hB).trans hc, hi.below hb⟩⟩
/-- Requests whose numbers fit and whose texts are short. -/
structure Req.Small (r : Req) : Prop where
  ok : r.Ok
  code : r.code.size ≤ 12
  give : r.give.size ≤ 12
theorem Req.Small.wf {r : Req} (h : r.Small) : r.wf := by
  have h1 : ∀ n, I64 n → (Lit.int .i64 n).wf = true := fun n hn => by
    unfold I64 at hn
    simp [Lit.wf, IntKind.min, IntKind.max, IntKind.signed, IntKind.bits]; omega
  exact ⟨h1 _ h.ok.server, h1 _ h.ok.seq, h1 _ h.ok.student, h1 _ h.ok.term, by have := h.code; unfold maxLen; omega, by have := h.give; unfold maxLen; omega, h1 _ h.ok.priority, h1 _ h.ok.day⟩
/-- Between two calls of a round. -/
structure RS (w : World) (d : Nat) (A : Option Addr) (n c : Nat) (v : Value) (es : List Req) (wr : World) : Prop where
  below : RowKit.Below w.heap.size w wr
  rows : wr.ownsRow w.heap.size 39 9 v es.length (reqCells es)
  draw : DrawS d A n c wr
  ints : IntsIn w.heap.size A n wr
  dlo : w.heap.size ≤ d
theorem reqs_ne {base : Nat} {w : World} {v : Value} {es : List Req} {d : Nat} {cs : Array Value} {t : TypeId} (h : w.ownsRow base 39 9 v es.length (reqCells es)) (hd : w.heap[d]? = some (.cells cs t (0, 0))) (ht : t ≠ 39) : v.ownBlock ≠ some d := by
  rcases h.2 with ⟨hv, _⟩ | ⟨g, cap, cur, hv, hb, hg, _⟩
  · rw [hv]; simp [Value.ownBlock]
  · rw [hv]
    intro e
    have e' : g = d := by simpa [Value.ownBlock] using e
    subst e'
    rw [hg] at hd
    injection hd with hd
    injection hd with _ hd
    exact ht hd.symm
theorem RS.only {w wr w' : World} {d : Nat} {A : Option Addr} {n c : Nat} {v : Value} {es : List Req} (h : RS w d A n c v es wr) (hd : DrawS d A n c w') (ho : Only d wr w') : RS w d A n c v es w' := by
  obtain ⟨k, hk, hda⟩ := h.draw
  have hB : RowKit.Below w.heap.size wr w' := ⟨ho.os, ho.tape, ho.output, ho.size, fun k hk => ho.block k (by have := h.below.size; omega) (by have := h.dlo; simp; omega)⟩
  refine ⟨h.below.trans hB, ?_, hd, h.ints.below hB, h.dlo⟩
  exact World.ownsRow.kept h.rows ho (.inr (reqs_ne h.rows hda (by decide)))
theorem rows_below {base : Nat} {w w' : World} {v : Value} {n : Nat} {cs : List Value} (h : w.ownsRow base 39 9 v n cs) (hb : RowKit.Below w.heap.size w w') : w'.ownsRow base 39 9 v n cs :=
  h.kept (below_grows (row := none) hb) (by cases v.ownBlock <;> simp)
theorem RS.below' {w wr w' : World} {d : Nat} {A : Option Addr} {n c : Nat} {v : Value} {es : List Req} (h : RS w d A n c v es wr) (hb : RowKit.Below wr.heap.size wr w') : RS w d A n c v es w' := by
  obtain ⟨k, hk, hda⟩ := h.draw
  refine ⟨h.below.trans (hb.mono h.below.size), rows_below h.rows hb, ⟨k, hk, ?_⟩, h.ints.below (hb.mono h.below.size), h.dlo⟩
  unfold DrawAt at *
  rw [hb.block _ (lt_of_heap hda)]; exact hda
theorem RS.set {w wr : World} {d : Nat} {A : Option Addr} {n c : Nat} {v : Value} {es : List Req} (h : RS w d A n c v es wr) {b : Nat} {r : Req} (hbx : ReqBox wr b r) (hb : w.heap.size ≤ b) (hv : v.ownBlock ≠ some b) (j : Nat) (u : Value) : RS w d A n c v es (wr.setCell ⟨b, j, none⟩ u) := by
  obtain ⟨k, hk, hda⟩ := h.draw
  have ho : wr.grownBy (wr.setCell ⟨b, j, none⟩ u) (some b) := ⟨rfl, rfl, rfl, by simp [World.setCell], fun k _ hk => Below.heap_setCell _ _ _ _ (by simpa using hk)⟩
  have hbl : RowKit.Below w.heap.size wr (wr.setCell ⟨b, j, none⟩ u) := ⟨rfl, rfl, rfl, by simp [World.setCell], fun k hk => Below.heap_setCell _ _ _ _ (by show k ≠ b; omega)⟩
  have hne : d ≠ b := by
    rintro rfl
    unfold ReqBox at hbx; unfold DrawAt at hda
    rw [hbx] at hda
    injection hda with hda
    injection hda with _ hda
    exact absurd hda (by decide)
  refine ⟨h.below.trans hbl, World.ownsRow.kept h.rows ho (.inr hv), ⟨k, hk, ?_⟩, h.ints.below hbl, h.dlo⟩
  unfold DrawAt at *
  rw [Below.heap_setCell _ _ _ _ hne]; exact hda
/-- .. with the request of the round, and the codes' row. -/
structure RB (w : World) (d : Nat) (A : Option Addr) (n c : Nat) (v : Value) (es : List Req) (eb : Nat) (r : Req) (wr : World) : Prop where
  rs : RS w d A n c v es wr
  box : ReqBox wr eb r
  fr : v.ownBlock ≠ some eb
  lo : w.heap.size ≤ eb
def CodesAt (cb : Nat) (w : World) : Prop := w.heap[cb]? = some (.cells #[.string ⟨#[65, 49]⟩, .string ⟨#[66, 49]⟩, .string ⟨#[66, 50]⟩, .string ⟨#[67, 49]⟩, .string ⟨#[68, 49]⟩, .string ⟨#[69, 57]⟩] 9 (0, 0))
section
variable {w wr w' : World} {d : Nat} {A : Option Addr} {n c : Nat} {v : Value} {es : List Req} {eb cb : Nat} {r : Req}
theorem RB.ne (h : RB w d A n c v es eb r wr) : eb ≠ d := by
  obtain ⟨k, hk, hda⟩ := h.rs.draw
  have hb := h.box
  rintro rfl
  unfold ReqBox at hb; unfold DrawAt at hda
  rw [hb] at hda
  injection hda with hda
  injection hda with _ hda
  exact absurd hda (by decide)
theorem RB.only (h : RB w d A n c v es eb r wr) (hd : DrawS d A n c w') (ho : Only d wr w') : RB w d A n c v es eb r w' := by
  refine ⟨h.rs.only hd ho, ?_, h.fr, h.lo⟩
  have hb := h.box
  unfold ReqBox at *
  rw [ho.block eb (lt_of_heap hb) (by simpa using h.ne)]; exact hb
theorem RB.below' (h : RB w d A n c v es eb r wr) (hb : RowKit.Below wr.heap.size wr w') : RB w d A n c v es eb r w' := ⟨h.rs.below' hb, h.box.below hb, h.fr, h.lo⟩
theorem RB.set {r' : Req} (h : RB w d A n c v es eb r wr) (j : Nat) (u : Value) (he : r.cells.setIfInBounds j u = r'.cells) : RB w d A n c v es eb r' (wr.setCell ⟨eb, j, none⟩ u) :=
  ⟨h.rs.set h.box h.lo h.fr j u, h.box.set j u he, h.fr, h.lo⟩
theorem CodesAt.only (h : CodesAt cb wr) (hd : DrawS d A n c wr) (ho : Only d wr w') : CodesAt cb w' := by
  obtain ⟨k, hk, hda⟩ := hd
  have hne : cb ≠ d := by
    rintro rfl
    unfold CodesAt at h; unfold DrawAt at hda
    rw [h] at hda
    injection hda with hda
    injection hda with _ hda
    exact absurd hda (by decide)
  unfold CodesAt at *
  rw [ho.block cb (lt_of_heap h) (by simpa using hne)]; exact h
theorem CodesAt.set (h : CodesAt cb wr) (hb : ReqBox wr eb r) (j : Nat) (u : Value) : CodesAt cb (wr.setCell ⟨eb, j, none⟩ u) := by
  have hne : cb ≠ eb := by
    rintro rfl
    unfold CodesAt at h; unfold ReqBox at hb
    rw [h] at hb
    injection hb with hb
    injection hb with _ hb
    exact absurd hb (by decide)
  unfold CodesAt at *
  rw [Below.heap_setCell _ _ _ _ hne]; exact h
theorem CodesAt.cell (h : CodesAt cb wr) {k : Nat} (hk : k < 6) : ∃ s, wr.cell? ⟨cb, k, none⟩ = some (.string s) ∧ s.size ≤ 12 := by
  unfold CodesAt at h
  match k, hk with
  | 0, _ => exact ⟨_, Lib.cell_of_heap h 0, by decide⟩
  | 1, _ => exact ⟨_, Lib.cell_of_heap h 1, by decide⟩
  | 2, _ => exact ⟨_, Lib.cell_of_heap h 2, by decide⟩
  | 3, _ => exact ⟨_, Lib.cell_of_heap h 3, by decide⟩
  | 4, _ => exact ⟨_, Lib.cell_of_heap h 4, by decide⟩
  | 5, _ => exact ⟨_, Lib.cell_of_heap h 5, by decide⟩
end
section
variable (w : World) (d : Nat) (A : Option Addr) (n c : Nat) (v : Value) (es : List Req) (eb cb : Nat) (r : Req) (m : Nat) (W : World)
def NextS (x : Ending) (w' : World) : Prop := ∃ g : Nat, x = .returned (.int .i64 g) ∧ g < m ∧ RS w d A n c v es w'
theorem next_rs (hm : 0 < m) (hm2 : m ≤ 1000000) (h : RS w d A n c v es W) : Calls Tryz.prog 34 #[.pointer (some ⟨d, 0, none⟩), .int .i64 m] W (NextS w d A n c v es m) := by
  refine (next_st d A n c m _ hm hm2 h.draw ⟨h.ints.1, fun j hj => ?_⟩).mono ?_
  · obtain ⟨b, off, z, hA, hB, hc, hz⟩ := h.ints.2 j hj
    exact ⟨b, off, z, hA, Nat.lt_of_lt_of_le hB h.dlo, hc, hz⟩
  rintro x w' ⟨g, rfl, hg, hd, ho⟩
  exact ⟨g, rfl, hg, h.only hd ho⟩
def NextB (x : Ending) (w' : World) : Prop := ∃ g : Nat, x = .returned (.int .i64 g) ∧ g < m ∧ RB w d A n c v es eb r w'
theorem next_rb (hm : 0 < m) (hm2 : m ≤ 1000000) (h : RB w d A n c v es eb r W) : Calls Tryz.prog 34 #[.pointer (some ⟨d, 0, none⟩), .int .i64 m] W (NextB w d A n c v es eb r m) := by
  refine (next_st d A n c m _ hm hm2 h.rs.draw ⟨h.rs.ints.1, fun j hj => ?_⟩).mono ?_
  · obtain ⟨b, off, z, hA, hB, hc, hz⟩ := h.rs.ints.2 j hj
    exact ⟨b, off, z, hA, Nat.lt_of_lt_of_le hB h.rs.dlo, hc, hz⟩
  rintro x w' ⟨g, rfl, hg, hd, ho⟩
  exact ⟨g, rfl, hg, h.only hd ho⟩
def NextC (x : Ending) (w' : World) : Prop := ∃ g : Nat, x = .returned (.int .i64 g) ∧ g < m ∧ RB w d A n c v es eb r w' ∧ CodesAt cb w'
theorem next_rc (hm : 0 < m) (hm2 : m ≤ 1000000) (h : RB w d A n c v es eb r W) (hc : CodesAt cb W) : Calls Tryz.prog 34 #[.pointer (some ⟨d, 0, none⟩), .int .i64 m] W (NextC w d A n c v es eb cb r m) := by
  refine (next_st d A n c m _ hm hm2 h.rs.draw ⟨h.rs.ints.1, fun j hj => ?_⟩).mono ?_
  · obtain ⟨b, off, z, hA, hB, hc, hz⟩ := h.rs.ints.2 j hj
    exact ⟨b, off, z, hA, Nat.lt_of_lt_of_le hB h.rs.dlo, hc, hz⟩
  rintro x w' ⟨g, rfl, hg, hd, ho⟩
  exact ⟨g, rfl, hg, h.only hd ho, hc.only h.rs.draw ho⟩
end
/-- What stands behind an append of a request that was just laid. -/
theorem reqs_one_laid (w : World) (r : Req) : ReqsIn (w.alloc (.cells r.cells 39)) (.slice (some ⟨w.heap.size, 0, none⟩) 1 1) [r] := by
  refine .inr ⟨w.heap.size, 0, 1, rfl, Nat.le_refl _, by simp, fun j u hj => ?_⟩
  rw [Nat.zero_add, Lib.cell_of_heap (heap_alloc_new w _)]
  simpa [reqCells] using hj
theorem reqs_one_at (w : World) (r : Req) (b : Nat) (h : w.heap.size = b) : ReqsIn (w.alloc (.cells r.cells 39)) (.slice (some ⟨b, 0, none⟩) 1 1) [r] := by
  subst h; exact reqs_one_laid w r
theorem RB.append {w wr w' : World} {d : Nat} {A : Option Addr} {n c : Nat} {v : Value} {es : List Req} {eb : Nat} {r : Req} {o : Obj} (h : RB w d A n c v es eb r wr) (hg : (wr.alloc o).grownBy w' v.ownBlock) : RowKit.Below w.heap.size w w' :=
  h.rs.below.trans (((below_alloc1 wr o).mono h.rs.below.size).grown hg (by simp; have := h.rs.below.size; omega) (fun q hq => (h.rs.rows.lt q hq).1))
theorem small_snoc {es : List Req} {r : Req} (h : ∀ e ∈ es, e.Small) (hr : r.Small) : ∀ e ∈ es ++ [r], e.Small := by
  intro e he
  rcases List.mem_append.1 he with he | he
  · exact h e he
  · obtain rfl : e = r := by simpa using he
    exact hr
theorem small_mk {a b d f p q : Int} {cc : Bool} {g k : ByteArray} (h : I64 a ∧ I64 b ∧ I64 d ∧ I64 f ∧ I64 p ∧ I64 q) (hg : g.size ≤ 12) (hk : k.size ≤ 12) : Req.Small ⟨a, b, cc, d, f, g, k, p, q⟩ :=
  ⟨⟨h.1, h.2.1, h.2.2.1, h.2.2.2.1, h.2.2.2.2.1, h.2.2.2.2.2, by show g.size ≤ 100000; omega, by show k.size ≤ 100000; omega⟩, hg, hk⟩
end Go.Proofs.YteopjiedjnaeiaaGreat
namespace Go.Proofs.YteopjiedjnaeiaaGreat
open Go Go.Proofs Go.RowKit Go.Sort Go.Lib

/-- What stands behind an append. -/
structure AppR (w : World) (base : Nat) (v : Value) (X Y : List Req) (v' : Value) (w' : World) : Prop where
  own : w'.ownsRow base 39 9 v' (X ++ Y).length (reqCells (X ++ Y))
  grown : w.grownBy w' v.ownBlock
  old : ReqsIn w' v X
  block : v'.ownBlock = v.ownBlock ∨ ∀ q, v'.ownBlock = some q → w.heap.size ≤ q
set_option maxRecDepth 100000 in
theorem run_append_reqs2 (w : World) (base : Nat) (ty : TypeId) (v xv : Value) (X Y : List Req) (hown : w.ownsRow base 39 9 v X.length (reqCells X)) (hx : ReqsIn w xv Y) (hl : X.length + Y.length ≤ 1000000) (hb : base ≤ w.heap.size) :
    ∃ v' w', (Builtin.append_ #[30, 30] ty #[v, xv]).run Tryz.prog w = .ok v' w' ∧ AppR w base v X Y v' w' := by
  obtain ⟨i0, hi, hz0, hz1, hz2⟩ := info_parts req_info
  rcases hx with ⟨rfl, rfl⟩ | ⟨b, o, c, rfl, h2, h3, h4⟩
  · refine ⟨v, w, run_append_owned_none w base 30 ty 39 i0 9 Tryz.underlying30 hi v X.length (reqCells X) hown, by simpa using hown, ⟨rfl, rfl, rfl, Nat.le_refl _, fun _ _ _ => rfl⟩, reqsIn_own hown, .inl rfl⟩
  · have hnews : ∀ (j : Nat) (u : Value), (reqCells Y)[j]? = some u → w.cell? ((⟨b, o, none⟩ : Addr).add j) = some u := fun j u hj => by rw [add_plain]; exact h4 j u hj
    obtain ⟨v', w', hr, h5, h6, h7⟩ := run_append_own (P := Tryz.prog) w base 30 ty 39 i0 _ 9 88 Tryz.underlying30 hi hz0 hz1 hz2 rfl (by decide) v X.length (reqCells X) hown ⟨b, o, none⟩ Y.length c (reqCells Y) (reqCells_len _)
      hnews (reqs_one _) (by unfold maxLen; omega) (by omega) hb
    suffices h : ReqsIn w' v X ∧ (v'.ownBlock = v.ownBlock ∨ ∀ q, v'.ownBlock = some q → w.heap.size ≤ q) from ⟨v', w', hr, by rw [reqCells_app, List.length_append]; exact h5, h6, h.1, h.2⟩
    rcases id hown.2 with ⟨rfl, h0⟩ | ⟨g, cap, cur, rfl, hbg, hg, hnc, hcm, hcs, htake⟩
    · have hX : X = [] := List.eq_nil_of_length_eq_zero h0
      subst hX
      refine ⟨.inl ⟨rfl, rfl⟩, ?_⟩
      by_cases hm : Y.length = 0
      · left
        rw [h7.2 ⟨rfl, hm⟩]
      · right
        have hr2 := run_append_nil (P := Tryz.prog) w 30 ty 39 i0 _ Tryz.underlying30 hi hz0 ⟨b, o, none⟩ Y.length c (reqCells Y) (by rw [reqCells_len, hz1]) hnews (by omega) (by omega) (by rw [hz2]; omega)
        rw [hr] at hr2
        injection hr2 with e1 e2
        subst e1
        exact fun q hq => by obtain rfl := Option.some.inj hq; exact Nat.le_refl _
    · by_cases hroom : X.length + Y.length ≤ cap
      · have hfit : X.length * i0.size + (reqCells Y).length ≤ cur.size := by rw [reqCells_len, hcs, hz1, ← Nat.add_mul]; exact Nat.mul_le_mul_right _ hroom
        have hr2 := run_append_room (P := Tryz.prog) w 30 ty 39 i0 Tryz.underlying30 hi g X.length cap cur hg ⟨b, o, none⟩ Y.length c (reqCells Y) (by rw [reqCells_len, hz1]) hnews (reqs_one _) hroom hfit
        rw [hr] at hr2
        injection hr2 with e1 e2
        subst e1
        refine ⟨.inr ⟨g, 0, cap, rfl, hnc, ?_, fun j u hj => ?_⟩, .inl rfl⟩
        · exact (h5.lt g rfl).2
        · have := h5.cells (g := g) rfl j u (by rw [List.getElem?_append_left (List.getElem?_eq_some_iff.1 hj).1]; exact hj)
          rw [add_plain] at this; exact this
      · have holds : ∀ j u, (reqCells X)[j]? = some u → w.cell? ((⟨g, 0, none⟩ : Addr).add j) = some u := hown.cells (g := g) rfl
        have hr2 := run_append_grow (P := Tryz.prog) w 30 ty 39 i0 _ Tryz.underlying30 hi hz0 ⟨g, 0, none⟩ X.length cap (reqCells X) (by rw [reqCells_len, hz1]) holds ⟨b, o, none⟩ Y.length c (reqCells Y) (by rw [reqCells_len, hz1]) hnews (by omega) (by omega) (growslice_fits (by omega) (by rw [hz2]; omega))
        rw [hr] at hr2
        injection hr2 with e1 e2
        subst e1 e2
        exact ⟨(reqsIn_own hown).below ((Below.refl _ w).drew.alloc (Nat.le_refl _) _), .inr fun q hq => by obtain rfl := Option.some.inj hq; exact Nat.le_refl _⟩
end Go.Proofs.YteopjiedjnaeiaaGreat
/- The reference's Same: two lists are equal. -/
namespace Go.Proofs.YteopjiedjnaeiaaGreat
open Go Go.Proofs Go.RowKit Go.Maps Go.Sort Go.Lib
attribute [local go_sem] Req.cells
attribute [local go_sem ↓] req_eql_cells req_neq_cells



















































































end Go.Proofs.YteopjiedjnaeiaaGreat
namespace Go.Proofs.YteopjiedjnaeiaaGreat
open Go Go.Proofs Go.RowKit Go.Sort Go.Lib

structure Seat where
  student : Int
  code : ByteArray
def eqSeat (a b : Seat) : Bool := decide (a.student = b.student) && decide (a.code.toList = b.code.toList)
theorem eqSeat_iff (a b : Seat) : eqSeat a b = true ↔ a = b := by
  simp only [eqSeat, Bool.and_eq_true, decide_eq_true_eq, req_ba]
  constructor
  · rintro ⟨h0, h1⟩; cases a; cases b; simp_all
  · rintro rfl; simp
instance : DecidableEq Seat := fun a b => decidable_of_iff _ (eqSeat_iff a b)
theorem eqSeat_dec (a b : Seat) : eqSeat a b = decide (a = b) := by
  rw [Bool.eq_iff_iff, eqSeat_iff, decide_eq_true_eq]
structure Off where
  code : ByteArray
  credits : Int
  places : Int
  sp : Option Addr
  sc : Nat
  np : Option Addr
  nc : Nat
  slots : List Int
  needs : List ByteArray
def zeroO : Off := ⟨⟨#[]⟩, 0, 0, none, 0, none, 0, [], []⟩
def findO (L : List Off) (c : ByteArray) : Option Off := L.find? fun o => decide (o.code.toList = c.toList)
def getO (L : List Off) (c : ByteArray) : Off := (findO L c).getD zeroO
def clashO (a b : Off) : Bool := a.slots.any fun n => decide (n ∈ b.slots)
def addC (L : List Off) (st : Int) (c : Int) (x : Seat) : Int := if x.student = st then IntKind.i64.wrap (c + (getO L x.code).credits) else c
def creditsF (L : List Off) (l : List Seat) (st : Int) (c0 : Int) : Int := l.foldl (addC L st) c0
def takenF (l : List Seat) (c : ByteArray) : Nat := l.countP fun x => decide (x.code.toList = c.toList)
def clashF (L : List Off) (o : Off) (l : List Seat) (st : Int) : Bool := l.any fun x => decide (x.student = st) && clashO o (getO L x.code)
/-- The error of a seat, for seats (0: none). -/
def fitsP (L : List Off) (met : List Seat) (most : Int) (l : List Seat) (s : Seat) : Int :=
  if (findO L s.code).isNone then 5
  else if s ∈ l then 6
  else if s ∉ met then 13
  else if (getO L s.code).places ≤ (takenF l s.code : Int) then 50
  else if clashF L (getO L s.code) l s.student then 51
  else if most < creditsF L l s.student (getO L s.code).credits then 3 else 0
structure Deal where
  seats : List Seat
  waits : List Seat
def seatOf (r : Req) : Seat := ⟨r.student, r.code⟩
def giveOf (r : Req) : Seat := ⟨r.student, r.give⟩
def othersD (l : List Seat) (r : Req) : List Seat := if r.give.size = 0 then l else l.filter fun x => decide (x ≠ giveOf r)
def fineD (l : List Seat) (r : Req) : Bool := decide (r.give.size = 0) || decide (giveOf r ∈ l)
/-- What one request does. -/
def stepD (L : List Off) (met : List Seat) (most : Int) (d : Deal) (r : Req) : Deal :=
  if fineD d.seats r = true ∧ fitsP L met most (othersD d.seats r) (seatOf r) = 0 then ⟨othersD d.seats r ++ [seatOf r], d.waits⟩
  else if seatOf r ∈ d.waits then d else ⟨d.seats, d.waits ++ [seatOf r]⟩
def dealP (L : List Off) (met : List Seat) (most : Int) (O : List Req) : Deal := O.foldl (stepD L met most) ⟨[], []⟩
theorem dealP_snoc (L : List Off) (met : List Seat) (most : Int) (O : List Req) (r : Req) : dealP L met most (O ++ [r]) = stepD L met most (dealP L met most O) r := by
  unfold dealP; rw [List.foldl_append]; rfl

/-- .. comes before another one. -/
def cmpB (a b : Req) : Int := if Lib.compareInt b.priority a.priority = 0 then if Lib.compareInt a.day b.day = 0 then if Lib.compareInt a.server b.server = 0 then Lib.compareInt a.seq b.seq else Lib.compareInt a.server b.server else Lib.compareInt a.day b.day else Lib.compareInt b.priority a.priority
theorem cmpB_ok : CmpOK cmpB := by
  have h : CmpOK (fun a b : Req => Lib.compareInt b.priority a.priority) := ⟨fun _ _ => ci_ok.swap _ _, fun _ _ _ h1 h2 => ci_ok.le _ _ _ h2 h1⟩
  exact h.lex ((ci_ok.on Req.day).lex ((ci_ok.on Req.server).lex (ci_ok.on Req.seq)))
theorem swoB : SWO (ltOf cmpB) where
  irrefl x := by have := cmpB_ok.swap x x; simp [ltOf]; omega
  trans x y z h1 h2 := by
    have a1 := cmpB_ok.swap x y; have a2 := cmpB_ok.swap y z; have a3 := cmpB_ok.swap x z
    have b1 := cmpB_ok.le x y z; have b2 := cmpB_ok.le y z x
    simp only [ltOf, decide_eq_true_eq] at *
    omega
  ntrans x y z h1 h2 := by
    have a1 := cmpB_ok.swap x y; have a2 := cmpB_ok.swap y z; have a3 := cmpB_ok.swap x z
    have b1 := cmpB_ok.le z y x
    simp only [ltOf, decide_eq_false_iff_not] at *
    omega
theorem cmpB_zero {a b : Req} (h : cmpB a b = 0) : numR a = numR b := by
  unfold cmpB at h
  split at h
  · split at h
    · split at h
      · rename_i h3
        rw [ci_zero] at h h3
        unfold numR; rw [h, h3]
      · contradiction
    · contradiction
  · contradiction
/-- O are the requests of A in the order in which they are dealt with. -/
def IsOrd (O A : List Req) : Prop := O.Perm A ∧ O.Pairwise fun a b => cmpB a b < 0
theorem IsOrd.same {O O' A A' : List Req} (h : IsOrd O A) (h' : IsOrd O' A') (e : ∀ r, r ∈ A ↔ r ∈ A') : O = O' :=
  sorted_same (fun a b => cmpB a b < 0) (fun a h => by have := cmpB_ok.swap a a; omega) (fun a b h h2 => by have := cmpB_ok.swap a b; omega) O O' h.2 h'.2
    fun r => (h.1.mem_iff).trans ((e r).trans h'.1.mem_iff.symm)
/-- .. if they are ordered weakly, with numbers of their own. -/
theorem isOrd_of {O A : List Req} (hp : O.Perm A) (hn : A.Pairwise fun a b => numR a ≠ numR b) (hs : O.Pairwise fun a b => cmpB b a < 0 → False) : IsOrd O A := by
  refine ⟨hp, ?_⟩
  have hn' : O.Pairwise fun a b => numR a ≠ numR b := (List.Perm.pairwise_iff (fun {a b} h e => h e.symm) hp).2 hn
  exact (hn'.and hs).imp fun {a b} h => by
    have h0 : cmpB a b ≠ 0 := fun e => h.1 (cmpB_zero e)
    have := cmpB_ok.swap a b
    have h2 : ¬ cmpB b a < 0 := h.2
    omega

/-! ### What fits, taken apart -/
theorem fitsP_zero {L : List Off} {met : List Seat} {most : Int} {l : List Seat} {s : Seat} : fitsP L met most l s = 0 ↔
    (findO L s.code).isSome = true ∧ s ∉ l ∧ s ∈ met ∧ (takenF l s.code : Int) < (getO L s.code).places ∧ clashF L (getO L s.code) l s.student = false ∧ creditsF L l s.student (getO L s.code).credits ≤ most := by
  unfold fitsP
  by_cases h1 : (findO L s.code).isNone = true
  · rw [if_pos h1]
    have : (findO L s.code).isSome = false := by cases h : findO L s.code <;> simp_all
    simp [this]
  · rw [if_neg h1]
    have h1' : (findO L s.code).isSome = true := by cases h : findO L s.code <;> simp_all
    by_cases h2 : s ∈ l
    · simp [h2]
    · rw [if_neg h2]
      by_cases h3 : s ∈ met
      · rw [if_neg (fun h => h h3)]
        by_cases h4 : (getO L s.code).places ≤ (takenF l s.code : Int)
        · rw [if_pos h4]; constructor
          · intro h; cases h
          · rintro ⟨_, _, _, h, _⟩; omega
        · rw [if_neg h4]
          cases h5 : clashF L (getO L s.code) l s.student
          · rw [if_neg (by simp)]
            by_cases h6 : most < creditsF L l s.student (getO L s.code).credits
            · rw [if_pos h6]; constructor
              · intro h; cases h
              · rintro ⟨_, _, _, _, _, h⟩; omega
            · rw [if_neg h6]; simp only [true_iff]; exact ⟨h1', h2, h3, by omega, trivial, by omega⟩
          · rw [if_pos rfl]; simp
      · rw [if_pos h3]; simp [h3]
/-- Catalogs whose credits are small. -/
def Calm (L : List Off) : Prop := ∀ o ∈ L, 0 ≤ o.credits ∧ o.credits ≤ 1000
theorem getO_calm {L : List Off} (h : Calm L) (c : ByteArray) : 0 ≤ (getO L c).credits ∧ (getO L c).credits ≤ 1000 := by
  unfold getO
  cases hf : findO L c with
  | none => exact ⟨by decide, by decide⟩
  | some o => exact h o (List.mem_of_find?_eq_some hf)
/-- The credits, as a plain sum. -/
def sumC (L : List Off) (l : List Seat) (st : Int) : Int := ((l.filter fun x => decide (x.student = st)).map fun x => (getO L x.code).credits).sum
theorem sumC_cons (L : List Off) (x : Seat) (l : List Seat) (st : Int) : sumC L (x :: l) st = (if x.student = st then (getO L x.code).credits else 0) + sumC L l st := by
  unfold sumC
  by_cases h : x.student = st <;> simp [h]
theorem sumC_nonneg {L : List Off} (h : Calm L) (l : List Seat) (st : Int) : 0 ≤ sumC L l st := by
  induction l with
  | nil => simp [sumC]
  | cons x l ih =>
    rw [sumC_cons]
    have := getO_calm h x.code
    split <;> omega
theorem sumC_le {L : List Off} (h : Calm L) (l : List Seat) (st : Int) : sumC L l st ≤ 1000 * l.length := by
  induction l with
  | nil => simp [sumC]
  | cons x l ih =>
    rw [sumC_cons]
    have := getO_calm h x.code
    simp only [List.length_cons]
    split <;> omega
theorem i64_id {n : Int} (h0 : 0 ≤ n) (h1 : n ≤ 1000000000) : IntKind.i64.wrap n = n := IntWalk.i64_in _ (by omega)
theorem creditsF_eq {L : List Off} (h : Calm L) : ∀ (l : List Seat) (st c0 : Int), 0 ≤ c0 → c0 + 1000 * l.length ≤ 1000000000 → creditsF L l st c0 = c0 + sumC L l st
  | [], st, c0, _, _ => by simp [creditsF, sumC]
  | x :: l, st, c0, h0, h1 => by
    have hx := getO_calm h x.code
    simp only [List.length_cons] at h1
    have h2 : creditsF L (x :: l) st c0 = creditsF L l st (addC L st c0 x) := rfl
    rw [h2, sumC_cons]
    unfold addC
    by_cases hst : x.student = st
    · rw [if_pos hst, if_pos hst, i64_id (by omega) (by omega), creditsF_eq h l st _ (by omega) (by omega)]; omega
    · rw [if_neg hst, if_neg hst, creditsF_eq h l st _ h0 (by omega)]; omega
theorem sumC_sub {L : List Off} (h : Calm L) {l' l : List Seat} (hl : l'.Sublist l) (st : Int) : sumC L l' st ≤ sumC L l st := by
  induction hl with
  | slnil => exact Int.le_refl _
  | cons x _ ih => rw [sumC_cons]; have := getO_calm h x.code; split <;> omega
  | cons_cons x _ ih => rw [sumC_cons, sumC_cons]; omega
theorem fits_sub {L : List Off} {met : List Seat} {most : Int} {l l' : List Seat} {s : Seat} (hc : Calm L) (hl : l'.Sublist l) (hn : l.length ≤ 1000) (h : fitsP L met most l s = 0) : fitsP L met most l' s = 0 := by
  rw [fitsP_zero] at h ⊢
  obtain ⟨h1, h2, h3, h4, h5, h6⟩ := h
  have hg := getO_calm hc s.code
  have hn' := hl.length_le
  refine ⟨h1, fun h => h2 (hl.subset h), h3, ?_, ?_, ?_⟩
  · have : takenF l' s.code ≤ takenF l s.code := hl.countP_le
    omega
  · unfold clashF at h5 ⊢
    rw [List.any_eq_false] at h5 ⊢
    exact fun x hx => h5 x (hl.subset hx)
  · rw [creditsF_eq hc _ _ _ hg.1 (by omega)] at h6 ⊢
    have := sumC_sub hc hl s.student
    omega

/-! ### A permitted list of seats -/
/-- Each seat fits those before it. -/
def OkS (L : List Off) (met : List Seat) (most : Int) (l : List Seat) : Prop := ∀ k s, l[k]? = some s → fitsP L met most (l.take k) s = 0
theorem okS_nil (L : List Off) (met : List Seat) (most : Int) : OkS L met most [] := fun k s h => by simp at h
theorem okS_snoc {L : List Off} {met : List Seat} {most : Int} {l : List Seat} {s : Seat} : OkS L met most (l ++ [s]) ↔ OkS L met most l ∧ fitsP L met most l s = 0 := by
  constructor
  · intro h
    refine ⟨fun k x hk => ?_, ?_⟩
    · have hlt : k < l.length := by
        rcases Nat.lt_or_ge k l.length with h' | h'
        · exact h'
        · rw [List.getElem?_eq_none h'] at hk; cases hk
      have := h k x (by rw [List.getElem?_append_left hlt]; exact hk)
      rwa [List.take_append_of_le_length (by omega)] at this
    · have := h l.length s (by simp)
      simpa using this
  · rintro ⟨h1, h2⟩ k x hk
    rcases Nat.lt_trichotomy k l.length with h' | h' | h'
    · rw [List.getElem?_append_left h'] at hk
      rw [List.take_append_of_le_length (by omega)]
      exact h1 k x hk
    · subst h'
      simp at hk
      subst hk
      simpa using h2
    · rw [List.getElem?_eq_none (by simp; omega)] at hk; cases hk
theorem snoc_cases {α : Type} (l : List α) : l = [] ∨ ∃ a x, l = a ++ [x] := by
  rcases List.eq_nil_or_concat l with h | ⟨a, x, h⟩
  · exact .inl h
  · exact .inr ⟨a, x, by simpa using h⟩
theorem okS_sub {L : List Off} {met : List Seat} {most : Int} (hc : Calm L) : ∀ (n : Nat) (l l' : List Seat), l.length = n → n ≤ 1000 → l'.Sublist l → OkS L met most l → OkS L met most l' := by
  intro n
  induction n with
  | zero =>
    intro l l' hn _ hl _
    have : l' = [] := by have := hl.length_le; exact List.eq_nil_of_length_eq_zero (by omega)
    subst this; exact okS_nil _ _ _
  | succ n ih =>
    intro l l' hn h1 hl h
    rcases snoc_cases l with rfl | ⟨a, x, rfl⟩
    · simp at hn
    · rw [okS_snoc] at h
      simp only [List.length_append, List.length_singleton] at hn
      obtain ⟨u, v, rfl, hu, hv⟩ := List.sublist_append_iff.1 hl
      have hva := ih a u (by omega) (by omega) hu h.1
      rcases snoc_cases v with rfl | ⟨b, y, rfl⟩
      · simpa using hva
      · have hl2 := hv.length_le
        simp only [List.length_append, List.length_singleton] at hl2
        obtain rfl : b = [] := List.eq_nil_of_length_eq_zero (by omega)
        have : y = x := by simpa using hv
        subst this
        rw [List.nil_append, okS_snoc]
        exact ⟨hva, fits_sub hc hu (by omega) h.2⟩
theorem okS_nodup {L : List Off} {met : List Seat} {most : Int} : ∀ (n : Nat) (l : List Seat), l.length = n → OkS L met most l → l.Nodup := by
  intro n
  induction n with
  | zero => intro l hn _; rw [List.eq_nil_of_length_eq_zero hn]; exact List.nodup_nil
  | succ n ih =>
    intro l hn h
    rcases snoc_cases l with rfl | ⟨a, x, rfl⟩
    · exact List.nodup_nil
    · rw [okS_snoc] at h
      simp only [List.length_append, List.length_singleton] at hn
      rw [List.nodup_append]
      refine ⟨ih a (by omega) h.1, by simp, fun y hy z hz e => ?_⟩
      simp at hz
      subst e; subst hz
      exact (fitsP_zero.1 h.2).2.1 hy
end Go.Proofs.YteopjiedjnaeiaaGreat
