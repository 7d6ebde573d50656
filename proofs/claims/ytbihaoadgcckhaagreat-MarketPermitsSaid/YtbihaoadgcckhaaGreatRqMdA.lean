/- append to an own row of requests: the old slice holds what it held. -/
import Derived.Test.YtbihaoadgcckhaaGreatRqChk
import Derived.Deep.QuietTactic
import Derived.BigQuiet
import Derived.Test.YtbihaoadgcckhaaGreatRqPutL
import Derived.Test.YtbihaoadgcckhaaGreatRqAc2
import Derived.Test.YtbihaoadgcckhaaGreatRqDof
/- quadriviumref01.Draw.Next: a number from 0 to m - 1; the counter alone moves. -/
namespace Go.Proofs.YtbihaoadgcckhaaGreat
open Go Go.RowKit Go.Sort Go.Lib

theorem modv_eq (n m : Int) : (n.tmod m + m) % m = n % m := by
  rw [Int.add_emod_right]
  by_cases hn : 0 ≤ n
  · rw [Int.tmod_eq_emod_of_nonneg hn, Int.emod_emod_of_dvd _ (Int.dvd_refl m)]
  · have h1 : n.tmod m = -((-n) % m) := by
      rw [← Int.tmod_eq_emod_of_nonneg (by omega), Int.neg_tmod, Int.neg_neg]
    have h2 := Int.emod_add_mul_ediv n m
    have h3 := Int.tmod_add_mul_tdiv n m
    have e : n.tmod m = n % m + m * (n / m - n.tdiv m) := by rw [Int.mul_sub]; omega
    rw [e, Int.add_mul_emod_self_left, Int.emod_emod_of_dvd _ (Int.dvd_refl m)]

theorem mod_any (n m : Int) (w : World) (hm : 0 < m) (hm2 : m ≤ 1000000) :
    Calls Tryz.prog 8 #[.int .i64 n, .int .i64 m] w fun e w' => e = .returned (.int .i64 (n % m)) ∧ w = w' := by
  have hlo := Int.lt_tmod_of_pos n hm
  have hhi := Int.tmod_lt_of_pos n hm
  have hne : (m == 0) = false := by simp; omega
  have H := Lib.hid (modv_eq n m)
  go_enter Tryz.func8, Tryz.ntmps8
  go_wp2
  go_ret
  exact ⟨ret_int H.out, rfl⟩

/-- A slice of ints that came in, below block B: each place can be read. -/
def IntsIn (B : Nat) (A : Option Addr) (n : Nat) (w : World) : Prop :=
  n ≤ 9223372036854775807 ∧ ∀ j, j < n → ∃ b off z, A = some ⟨b, off, none⟩ ∧ b < B ∧ w.cell? ⟨b, off + j, none⟩ = some (.int .i64 z) ∧ I64 z
theorem IntsIn.below {B : Nat} {A : Option Addr} {n : Nat} {w w' : World} (h : IntsIn B A n w) (hb : Below B w w') : IntsIn B A n w' :=
  ⟨h.1, fun j hj => by
    obtain ⟨b, off, z, hA, hB, hc, hz⟩ := h.2 j hj
    exact ⟨b, off, z, hA, hB, (hb.cell (p := ⟨b, off + j, none⟩) hB).trans hc, hz⟩⟩

/-- Block d is a Draw over the slice A, n, c, which has given k numbers. -/
def DrawAt (w : World) (d : Nat) (A : Option Addr) (n c k : Nat) : Prop := w.heap[d]? = some (.cells #[.slice A n c, .int .i64 k] 104 (0, 0))

/-- Only block d has been written, and blocks laid. -/
def Only (d : Nat) (w w' : World) : Prop := w.grownBy w' (some d)

def NextPost (d : Nat) (A : Option Addr) (n c _k : Nat) (m : Int) (w : World) (x : Ending) (w' : World) : Prop :=
  ∃ v : Int, x = .returned (.int .i64 v) ∧ 0 ≤ v ∧ v < m ∧ (∃ k', k' ≤ n ∧ DrawAt w' d A n c k') ∧ Only d w w'

theorem Only.setCell (w : World) (d i : Nat) (u : Value) (n : Nat) : Only d w ((w.setCell ⟨d, i, none⟩ u).drewN n) :=
  ⟨rfl, rfl, rfl, by simp [World.setCell], fun k _ hk => Below.heap_setCell w _ _ _ (by simpa using hk)⟩

theorem quiet_r {P : Program} {f : FuncId} {args : Array Value} {w : World} {n : Nat} {v : Value} (h : Calls P f args (w.drewN n) fun e w' => e = .returned v ∧ w.drewN n = w') :
    Calls P f args (w.drewN n) fun e w'' => e = .returned v ∧ ∃ m, w'' = w.drewN m := h.mono fun _ _ ⟨he, hm⟩ => ⟨he, n, hm.symm⟩
theorem quiet_add_r {P : Program} {f : FuncId} {args : Array Value} {w : World} {a n : Nat} {v : Value} (h : Calls P f args (w.drewN (a + n)) fun e w' => e = .returned v ∧ w.drewN (a + n) = w') :
    Calls P f args (w.drewN (a + n)) fun e w'' => e = .returned v ∧ ∃ m, w'' = w.drewN (a + m) := h.mono fun _ _ ⟨he, hm⟩ => ⟨he, n, hm.symm⟩

set_option maxHeartbeats 2000000 in
set_option maxRecDepth 100000 in
theorem next_any (B d : Nat) (A : Option Addr) (n c k : Nat) (m : Int) (w : World) (hm : 0 < m) (hm2 : m ≤ 1000000) (hd : DrawAt w d A n c k) (hB : B ≤ d) (hk : k ≤ n) (hi : IntsIn B A n w) :
    Calls Tryz.prog 51 #[.pointer (some ⟨d, 0, none⟩), .int .i64 m] w (NextPost d A n c k m w) := by
  have hc0 : w.cell? ⟨d, 0, none⟩ = some (.slice A n c) := Lib.cell_of_heap hd 0
  have hc1 : w.cell? ⟨d, 1, none⟩ = some (.int .i64 k) := Lib.cell_of_heap hd 1
  have hf1 : w.frozen? ⟨d, 1, none⟩ = false := Lib.frozen_of_heap hd 1
  have hn := hi.1
  by_cases hlt : k < n
  · obtain ⟨b, off, z, rfl, hbB, hz, hz2⟩ := hi.2 k hlt
    have hbd : b ≠ d := by omega
    have hlt' : ¬ (n : Int) ≤ (k : Int) := by omega
    have hm' := fun W => mod_any z m W hm hm2
    go_enter Tryz.func51, Tryz.ntmps51
    go_wp2_with fail
    go_quiet (fail)
    go_wp2_with fail
    go_quiet ((go_at_call 8; exact quiet_r (hm' _)))
    go_wp2_with fail
    go_ret
    have h1 := Int.emod_nonneg z (show m ≠ 0 by omega)
    have h2 := Int.emod_lt_of_pos z hm
    refine ⟨z % m, rfl, h1, h2, ⟨k + 1, by omega, ?_⟩, ?_⟩
    · unfold DrawAt at hd ⊢
      show (((w.drewN _).setCell ⟨d, 1, none⟩ (.int .i64 (k + 1))).heap)[d]? = _
      simp [World.setCell, Array.getElem?_modify]
      exact ⟨_, hd, rfl⟩
    · exact ⟨rfl, rfl, rfl, by simp [World.setCell], fun k _ hk => Below.heap_setCell _ _ _ _ (by simpa using hk)⟩
  · have hlt' : (n : Int) ≤ (k : Int) := by omega
    go_enter Tryz.func51, Tryz.ntmps51
    go_wp2_with fail
    go_quiet (fail)
    go_wp2_with fail
    go_ret
    exact ⟨0, rfl, by omega, hm, ⟨k, by omega, hd⟩, ⟨rfl, rfl, rfl, Nat.le_refl _, fun _ _ _ => rfl⟩⟩
def codesL : List ByteArray := [⟨#[65, 49]⟩, ⟨#[66, 49]⟩, ⟨#[66, 50]⟩, ⟨#[67, 49]⟩, ⟨#[68, 49]⟩, ⟨#[69, 57]⟩]

theorem codes_any (w : World) :
    Calls Tryz.prog 50 #[] w fun x w' => x = .returned (.slice (some ⟨w.heap.size, 0, none⟩) 6 6) ∧ w' = w.alloc (.cells #[.string ⟨#[65, 49]⟩, .string ⟨#[66, 49]⟩, .string ⟨#[66, 50]⟩, .string ⟨#[67, 49]⟩, .string ⟨#[68, 49]⟩, .string ⟨#[69, 57]⟩] 9) := by
  go_enter Tryz.func50, Tryz.ntmps50
  go_wp2_with fail
  go_ret
  exact ⟨rfl, rfl⟩

/-- The draw in block d, somewhere on its way. -/
def DrawS (d : Nat) (A : Option Addr) (n c : Nat) (w : World) : Prop := ∃ k, k ≤ n ∧ DrawAt w d A n c k

def NextP (d : Nat) (A : Option Addr) (n c : Nat) (m : Nat) (w : World) (x : Ending) (w' : World) : Prop :=
  ∃ v : Nat, x = .returned (.int .i64 v) ∧ v < m ∧ DrawS d A n c w' ∧ Only d w w'

theorem next_st (d : Nat) (A : Option Addr) (n c : Nat) (m : Nat) (w : World) (hm : 0 < m) (hm2 : m ≤ 1000000) (hd : DrawS d A n c w) (hi : IntsIn d A n w) :
    Calls Tryz.prog 51 #[.pointer (some ⟨d, 0, none⟩), .int .i64 m] w (NextP d A n c m w) := by
  obtain ⟨k, hk, hd⟩ := hd
  refine (next_any d d A n c k m w (by omega) (by omega) hd (Nat.le_refl _) hk hi).mono ?_
  rintro x w' ⟨v, rfl, h0, h1, ⟨k', hk', hd'⟩, ho⟩
  exact ⟨v.toNat, by rw [Int.toNat_of_nonneg h0], by omega, ⟨k', hk', hd'⟩, ho⟩

theorem IntsIn.only {B d : Nat} {A : Option Addr} {n : Nat} {w w' : World} (h : IntsIn B A n w) (hB : B ≤ d) (hw : B ≤ w.heap.size) (ho : Only d w w') : IntsIn B A n w' :=
  h.below ⟨ho.os, ho.tape, ho.output, ho.size, fun k hk => ho.block k (by omega) (by simp; omega)⟩

end Go.Proofs.YtbihaoadgcckhaaGreat
/- quadriviumref27.Made: what a round keeps. -/
namespace Go.Proofs.YtbihaoadgcckhaaGreat
open Go Go.RowKit Go.Sort Go.Lib
attribute [local go_sem] Req.cells

theorem lt_of_heap {w : World} {b : Nat} {o : Obj} (h : w.heap[b]? = some o) : b < w.heap.size := by
  rcases Nat.lt_or_ge b w.heap.size with h' | h'
  · exact h'
  · rw [Array.getElem?_eq_none h'] at h; cases h
theorem below_next {W w w' : World} (h : RowKit.Below W.heap.size W w) (hb : RowKit.Below w.heap.size w w') : RowKit.Below W.heap.size W w' := h.trans (hb.mono h.size)
theorem setCell_size (w : World) (a : Addr) (u : Value) : (w.setCell a u).heap.size = w.heap.size := by simp [World.setCell]
/-- A slice of slices of ints that came in, below block B. -/
def IntssIn (B : Nat) (S : Option Addr) (N : Nat) (w : World) : Prop :=
  N ≤ 9223372036854775807 ∧ ∀ j, j < N → ∃ b off A n c, S = some ⟨b, off, none⟩ ∧ b < B ∧ w.cell? ⟨b, off + j, none⟩ = some (.slice A n c) ∧ IntsIn B A n w
theorem IntssIn.below {B : Nat} {S : Option Addr} {N : Nat} {w w' : World} (h : IntssIn B S N w) (hb : RowKit.Below B w w') : IntssIn B S N w' :=
  ⟨h.1, fun j hj => by
    obtain ⟨b, off, A, n, c, hA, hB, hc, hi⟩ := h.2 j hj
    exact ⟨b, off, A, n, c, hA, hB, (hb.cell (p := ⟨b, off + j, none⟩) hB).trans hc, hi.below hb⟩⟩
/-- Requests whose numbers fit and whose texts are short. -/
structure Req.Small (r : Req) : Prop where
  ok : r.Ok
  code : r.code.size ≤ 12
  give : r.give.size ≤ 12
theorem Req.Small.wf {r : Req} (h : r.Small) : r.wf := by
  have h1 : ∀ n, I64 n → (Lit.int .i64 n).wf = true := fun n hn => by
    unfold I64 at hn
    simp [Lit.wf, IntKind.min, IntKind.max, IntKind.signed, IntKind.bits]; omega
  exact ⟨h1 _ h.ok.server, h1 _ h.ok.seq, h1 _ h.ok.student, h1 _ h.ok.term, by have := h.code; unfold maxLen; omega, by have := h.give; unfold maxLen; omega, h1 _ h.ok.priority, h1 _ h.ok.day⟩
/-- Between two calls of a round. -/
structure RS (w : World) (d : Nat) (A : Option Addr) (n c : Nat) (v : Value) (es : List Req) (wr : World) : Prop where
  below : RowKit.Below w.heap.size w wr
  rows : wr.ownsRow w.heap.size 39 9 v es.length (reqCells es)
  draw : DrawS d A n c wr
  ints : IntsIn w.heap.size A n wr
  dlo : w.heap.size ≤ d
theorem reqs_ne {base : Nat} {w : World} {v : Value} {es : List Req} {d : Nat} {cs : Array Value} {t : TypeId} (h : w.ownsRow base 39 9 v es.length (reqCells es)) (hd : w.heap[d]? = some (.cells cs t (0, 0))) (ht : t ≠ 39) : v.ownBlock ≠ some d := by
  rcases h.2 with ⟨hv, _⟩ | ⟨g, cap, cur, hv, hb, hg, _⟩
  · rw [hv]; simp [Value.ownBlock]
  · rw [hv]
    intro e
    have e' : g = d := by simpa [Value.ownBlock] using e
    subst e'
    rw [hg] at hd
    injection hd with hd
    injection hd with _ hd
    exact ht hd.symm
theorem RS.only {w wr w' : World} {d : Nat} {A : Option Addr} {n c : Nat} {v : Value} {es : List Req} (h : RS w d A n c v es wr) (hd : DrawS d A n c w') (ho : Only d wr w') : RS w d A n c v es w' := by
  obtain ⟨k, hk, hda⟩ := h.draw
  have hB : RowKit.Below w.heap.size wr w' := ⟨ho.os, ho.tape, ho.output, ho.size, fun k hk => ho.block k (by have := h.below.size; omega) (by have := h.dlo; simp; omega)⟩
  refine ⟨h.below.trans hB, ?_, hd, h.ints.below hB, h.dlo⟩
  exact World.ownsRow.kept h.rows ho (.inr (reqs_ne h.rows hda (by decide)))
theorem rows_below {base : Nat} {w w' : World} {v : Value} {n : Nat} {cs : List Value} (h : w.ownsRow base 39 9 v n cs) (hb : RowKit.Below w.heap.size w w') : w'.ownsRow base 39 9 v n cs :=
  h.kept (below_grows (row := none) hb) (by cases v.ownBlock <;> simp)
theorem RS.below' {w wr w' : World} {d : Nat} {A : Option Addr} {n c : Nat} {v : Value} {es : List Req} (h : RS w d A n c v es wr) (hb : RowKit.Below wr.heap.size wr w') : RS w d A n c v es w' := by
  obtain ⟨k, hk, hda⟩ := h.draw
  refine ⟨h.below.trans (hb.mono h.below.size), rows_below h.rows hb, ⟨k, hk, ?_⟩, h.ints.below (hb.mono h.below.size), h.dlo⟩
  unfold DrawAt at *
  rw [hb.block _ (lt_of_heap hda)]; exact hda
theorem RS.set {w wr : World} {d : Nat} {A : Option Addr} {n c : Nat} {v : Value} {es : List Req} (h : RS w d A n c v es wr) {b : Nat} {r : Req} (hbx : ReqBox wr b r) (hb : w.heap.size ≤ b) (hv : v.ownBlock ≠ some b) (j : Nat) (u : Value) : RS w d A n c v es (wr.setCell ⟨b, j, none⟩ u) := by
  obtain ⟨k, hk, hda⟩ := h.draw
  have ho : wr.grownBy (wr.setCell ⟨b, j, none⟩ u) (some b) := ⟨rfl, rfl, rfl, by simp [World.setCell], fun k _ hk => Below.heap_setCell _ _ _ _ (by simpa using hk)⟩
  have hbl : RowKit.Below w.heap.size wr (wr.setCell ⟨b, j, none⟩ u) := ⟨rfl, rfl, rfl, by simp [World.setCell], fun k hk => Below.heap_setCell _ _ _ _ (by show k ≠ b; omega)⟩
  have hne : d ≠ b := by
    rintro rfl
    unfold ReqBox at hbx; unfold DrawAt at hda
    rw [hbx] at hda
    injection hda with hda
    injection hda with _ hda
    exact absurd hda (by decide)
  refine ⟨h.below.trans hbl, World.ownsRow.kept h.rows ho (.inr hv), ⟨k, hk, ?_⟩, h.ints.below hbl, h.dlo⟩
  unfold DrawAt at *
  rw [Below.heap_setCell _ _ _ _ hne]; exact hda
/-- .. with the request of the round, and the codes' row. -/
structure RB (w : World) (d : Nat) (A : Option Addr) (n c : Nat) (v : Value) (es : List Req) (eb : Nat) (r : Req) (wr : World) : Prop where
  rs : RS w d A n c v es wr
  box : ReqBox wr eb r
  fr : v.ownBlock ≠ some eb
  lo : w.heap.size ≤ eb
def CodesAt (cb : Nat) (w : World) : Prop := w.heap[cb]? = some (.cells #[.string ⟨#[65, 49]⟩, .string ⟨#[66, 49]⟩, .string ⟨#[66, 50]⟩, .string ⟨#[67, 49]⟩, .string ⟨#[68, 49]⟩, .string ⟨#[69, 57]⟩] 9 (0, 0))
section
variable {w wr w' : World} {d : Nat} {A : Option Addr} {n c : Nat} {v : Value} {es : List Req} {eb cb : Nat} {r : Req}
theorem RB.ne (h : RB w d A n c v es eb r wr) : eb ≠ d := by
  obtain ⟨k, hk, hda⟩ := h.rs.draw
  have hb := h.box
  rintro rfl
  unfold ReqBox at hb; unfold DrawAt at hda
  rw [hb] at hda
  injection hda with hda
  injection hda with _ hda
  exact absurd hda (by decide)
theorem RB.only (h : RB w d A n c v es eb r wr) (hd : DrawS d A n c w') (ho : Only d wr w') : RB w d A n c v es eb r w' := by
  refine ⟨h.rs.only hd ho, ?_, h.fr, h.lo⟩
  have hb := h.box
  unfold ReqBox at *
  rw [ho.block eb (lt_of_heap hb) (by simpa using h.ne)]; exact hb
theorem RB.below' (h : RB w d A n c v es eb r wr) (hb : RowKit.Below wr.heap.size wr w') : RB w d A n c v es eb r w' := ⟨h.rs.below' hb, h.box.below hb, h.fr, h.lo⟩
theorem RB.set {r' : Req} (h : RB w d A n c v es eb r wr) (j : Nat) (u : Value) (he : r.cells.setIfInBounds j u = r'.cells) : RB w d A n c v es eb r' (wr.setCell ⟨eb, j, none⟩ u) :=
  ⟨h.rs.set h.box h.lo h.fr j u, h.box.set j u he, h.fr, h.lo⟩
theorem CodesAt.only (h : CodesAt cb wr) (hd : DrawS d A n c wr) (ho : Only d wr w') : CodesAt cb w' := by
  obtain ⟨k, hk, hda⟩ := hd
  have hne : cb ≠ d := by
    rintro rfl
    unfold CodesAt at h; unfold DrawAt at hda
    rw [h] at hda
    injection hda with hda
    injection hda with _ hda
    exact absurd hda (by decide)
  unfold CodesAt at *
  rw [ho.block cb (lt_of_heap h) (by simpa using hne)]; exact h
theorem CodesAt.set (h : CodesAt cb wr) (hb : ReqBox wr eb r) (j : Nat) (u : Value) : CodesAt cb (wr.setCell ⟨eb, j, none⟩ u) := by
  have hne : cb ≠ eb := by
    rintro rfl
    unfold CodesAt at h; unfold ReqBox at hb
    rw [h] at hb
    injection hb with hb
    injection hb with _ hb
    exact absurd hb (by decide)
  unfold CodesAt at *
  rw [Below.heap_setCell _ _ _ _ hne]; exact h
theorem CodesAt.cell (h : CodesAt cb wr) {k : Nat} (hk : k < 6) : ∃ s, wr.cell? ⟨cb, k, none⟩ = some (.string s) ∧ s.size ≤ 12 := by
  unfold CodesAt at h
  match k, hk with
  | 0, _ => exact ⟨_, Lib.cell_of_heap h 0, by decide⟩
  | 1, _ => exact ⟨_, Lib.cell_of_heap h 1, by decide⟩
  | 2, _ => exact ⟨_, Lib.cell_of_heap h 2, by decide⟩
  | 3, _ => exact ⟨_, Lib.cell_of_heap h 3, by decide⟩
  | 4, _ => exact ⟨_, Lib.cell_of_heap h 4, by decide⟩
  | 5, _ => exact ⟨_, Lib.cell_of_heap h 5, by decide⟩
end
section
variable (w : World) (d : Nat) (A : Option Addr) (n c : Nat) (v : Value) (es : List Req) (eb cb : Nat) (r : Req) (m : Nat) (W : World)
def NextS (x : Ending) (w' : World) : Prop := ∃ g : Nat, x = .returned (.int .i64 g) ∧ g < m ∧ RS w d A n c v es w'
theorem next_rs (hm : 0 < m) (hm2 : m ≤ 1000000) (h : RS w d A n c v es W) : Calls Tryz.prog 51 #[.pointer (some ⟨d, 0, none⟩), .int .i64 m] W (NextS w d A n c v es m) := by
  refine (next_st d A n c m _ hm hm2 h.draw ⟨h.ints.1, fun j hj => ?_⟩).mono ?_
  · obtain ⟨b, off, z, hA, hB, hc, hz⟩ := h.ints.2 j hj
    exact ⟨b, off, z, hA, Nat.lt_of_lt_of_le hB h.dlo, hc, hz⟩
  rintro x w' ⟨g, rfl, hg, hd, ho⟩
  exact ⟨g, rfl, hg, h.only hd ho⟩
def NextB (x : Ending) (w' : World) : Prop := ∃ g : Nat, x = .returned (.int .i64 g) ∧ g < m ∧ RB w d A n c v es eb r w'
theorem next_rb (hm : 0 < m) (hm2 : m ≤ 1000000) (h : RB w d A n c v es eb r W) : Calls Tryz.prog 51 #[.pointer (some ⟨d, 0, none⟩), .int .i64 m] W (NextB w d A n c v es eb r m) := by
  refine (next_st d A n c m _ hm hm2 h.rs.draw ⟨h.rs.ints.1, fun j hj => ?_⟩).mono ?_
  · obtain ⟨b, off, z, hA, hB, hc, hz⟩ := h.rs.ints.2 j hj
    exact ⟨b, off, z, hA, Nat.lt_of_lt_of_le hB h.rs.dlo, hc, hz⟩
  rintro x w' ⟨g, rfl, hg, hd, ho⟩
  exact ⟨g, rfl, hg, h.only hd ho⟩
def NextC (x : Ending) (w' : World) : Prop := ∃ g : Nat, x = .returned (.int .i64 g) ∧ g < m ∧ RB w d A n c v es eb r w' ∧ CodesAt cb w'
theorem next_rc (hm : 0 < m) (hm2 : m ≤ 1000000) (h : RB w d A n c v es eb r W) (hc : CodesAt cb W) : Calls Tryz.prog 51 #[.pointer (some ⟨d, 0, none⟩), .int .i64 m] W (NextC w d A n c v es eb cb r m) := by
  refine (next_st d A n c m _ hm hm2 h.rs.draw ⟨h.rs.ints.1, fun j hj => ?_⟩).mono ?_
  · obtain ⟨b, off, z, hA, hB, hc, hz⟩ := h.rs.ints.2 j hj
    exact ⟨b, off, z, hA, Nat.lt_of_lt_of_le hB h.rs.dlo, hc, hz⟩
  rintro x w' ⟨g, rfl, hg, hd, ho⟩
  exact ⟨g, rfl, hg, h.only hd ho, hc.only h.rs.draw ho⟩
end
/-- What stands behind an append of a request that was just laid. -/
theorem reqs_one_laid (w : World) (r : Req) : ReqsIn (w.alloc (.cells r.cells 39)) (.slice (some ⟨w.heap.size, 0, none⟩) 1 1) [r] := by
  refine .inr ⟨w.heap.size, 0, 1, rfl, Nat.le_refl _, by simp, fun j u hj => ?_⟩
  rw [Nat.zero_add, Lib.cell_of_heap (heap_alloc_new w _)]
  simpa [reqCells] using hj
theorem reqs_one_at (w : World) (r : Req) (b : Nat) (h : w.heap.size = b) : ReqsIn (w.alloc (.cells r.cells 39)) (.slice (some ⟨b, 0, none⟩) 1 1) [r] := by
  subst h; exact reqs_one_laid w r
theorem RB.append {w wr w' : World} {d : Nat} {A : Option Addr} {n c : Nat} {v : Value} {es : List Req} {eb : Nat} {r : Req} {o : Obj} (h : RB w d A n c v es eb r wr) (hg : (wr.alloc o).grownBy w' v.ownBlock) : RowKit.Below w.heap.size w w' :=
  h.rs.below.trans (((below_alloc1 wr o).mono h.rs.below.size).grown hg (by simp; have := h.rs.below.size; omega) (fun q hq => (h.rs.rows.lt q hq).1))
theorem small_snoc {es : List Req} {r : Req} (h : ∀ e ∈ es, e.Small) (hr : r.Small) : ∀ e ∈ es ++ [r], e.Small := by
  intro e he
  rcases List.mem_append.1 he with he | he
  · exact h e he
  · obtain rfl : e = r := by simpa using he
    exact hr
theorem small_mk {a b d f p q : Int} {cc : Bool} {g k : ByteArray} (h : I64 a ∧ I64 b ∧ I64 d ∧ I64 f ∧ I64 p ∧ I64 q) (hg : g.size ≤ 12) (hk : k.size ≤ 12) : Req.Small ⟨a, b, cc, d, f, g, k, p, q⟩ :=
  ⟨⟨h.1, h.2.1, h.2.2.1, h.2.2.2.1, h.2.2.2.2.1, h.2.2.2.2.2, by show g.size ≤ 100000; omega, by show k.size ≤ 100000; omega⟩, hg, hk⟩
end Go.Proofs.YtbihaoadgcckhaaGreat
namespace Go.Proofs.YtbihaoadgcckhaaGreat
open Go Go.Proofs Go.RowKit Go.Sort Go.Lib

/-- What stands behind an append. -/
structure AppR (w : World) (base : Nat) (v : Value) (X Y : List Req) (v' : Value) (w' : World) : Prop where
  own : w'.ownsRow base 39 9 v' (X ++ Y).length (reqCells (X ++ Y))
  grown : w.grownBy w' v.ownBlock
  old : ReqsIn w' v X
  block : v'.ownBlock = v.ownBlock ∨ ∀ q, v'.ownBlock = some q → w.heap.size ≤ q
set_option maxRecDepth 100000 in
theorem run_append_reqs2 (w : World) (base : Nat) (ty : TypeId) (v xv : Value) (X Y : List Req) (hown : w.ownsRow base 39 9 v X.length (reqCells X)) (hx : ReqsIn w xv Y) (hl : X.length + Y.length ≤ 1000000) (hb : base ≤ w.heap.size) :
    ∃ v' w', (Builtin.append_ #[30, 30] ty #[v, xv]).run Tryz.prog w = .ok v' w' ∧ AppR w base v X Y v' w' := by
  obtain ⟨i0, hi, hz0, hz1, hz2⟩ := info_parts req_info
  rcases hx with ⟨rfl, rfl⟩ | ⟨b, o, c, rfl, h2, h3, h4⟩
  · refine ⟨v, w, run_append_owned_none w base 30 ty 39 i0 9 Tryz.underlying30 hi v X.length (reqCells X) hown, by simpa using hown, ⟨rfl, rfl, rfl, Nat.le_refl _, fun _ _ _ => rfl⟩, reqsIn_own hown, .inl rfl⟩
  · have hnews : ∀ (j : Nat) (u : Value), (reqCells Y)[j]? = some u → w.cell? ((⟨b, o, none⟩ : Addr).add j) = some u := fun j u hj => by rw [add_plain]; exact h4 j u hj
    obtain ⟨v', w', hr, h5, h6, h7⟩ := run_append_own (P := Tryz.prog) w base 30 ty 39 i0 _ 9 88 Tryz.underlying30 hi hz0 hz1 hz2 rfl (by decide) v X.length (reqCells X) hown ⟨b, o, none⟩ Y.length c (reqCells Y) (reqCells_len _)
      hnews (reqs_one _) (by unfold maxLen; omega) (by omega) hb
    suffices h : ReqsIn w' v X ∧ (v'.ownBlock = v.ownBlock ∨ ∀ q, v'.ownBlock = some q → w.heap.size ≤ q) from ⟨v', w', hr, by rw [reqCells_app, List.length_append]; exact h5, h6, h.1, h.2⟩
    rcases id hown.2 with ⟨rfl, h0⟩ | ⟨g, cap, cur, rfl, hbg, hg, hnc, hcm, hcs, htake⟩
    · have hX : X = [] := List.eq_nil_of_length_eq_zero h0
      subst hX
      refine ⟨.inl ⟨rfl, rfl⟩, ?_⟩
      by_cases hm : Y.length = 0
      · left
        rw [h7.2 ⟨rfl, hm⟩]
      · right
        have hr2 := run_append_nil (P := Tryz.prog) w 30 ty 39 i0 _ Tryz.underlying30 hi hz0 ⟨b, o, none⟩ Y.length c (reqCells Y) (by rw [reqCells_len, hz1]) hnews (by omega) (by omega) (by rw [hz2]; omega)
        rw [hr] at hr2
        injection hr2 with e1 e2
        subst e1
        exact fun q hq => by obtain rfl := Option.some.inj hq; exact Nat.le_refl _
    · by_cases hroom : X.length + Y.length ≤ cap
      · have hfit : X.length * i0.size + (reqCells Y).length ≤ cur.size := by rw [reqCells_len, hcs, hz1, ← Nat.add_mul]; exact Nat.mul_le_mul_right _ hroom
        have hr2 := run_append_room (P := Tryz.prog) w 30 ty 39 i0 Tryz.underlying30 hi g X.length cap cur hg ⟨b, o, none⟩ Y.length c (reqCells Y) (by rw [reqCells_len, hz1]) hnews (reqs_one _) hroom hfit
        rw [hr] at hr2
        injection hr2 with e1 e2
        subst e1
        refine ⟨.inr ⟨g, 0, cap, rfl, hnc, ?_, fun j u hj => ?_⟩, .inl rfl⟩
        · exact (h5.lt g rfl).2
        · have := h5.cells (g := g) rfl j u (by rw [List.getElem?_append_left (List.getElem?_eq_some_iff.1 hj).1]; exact hj)
          rw [add_plain] at this; exact this
      · have holds : ∀ j u, (reqCells X)[j]? = some u → w.cell? ((⟨g, 0, none⟩ : Addr).add j) = some u := hown.cells (g := g) rfl
        have hr2 := run_append_grow (P := Tryz.prog) w 30 ty 39 i0 _ Tryz.underlying30 hi hz0 ⟨g, 0, none⟩ X.length cap (reqCells X) (by rw [reqCells_len, hz1]) holds ⟨b, o, none⟩ Y.length c (reqCells Y) (by rw [reqCells_len, hz1]) hnews (by omega) (by omega) (growslice_fits (by omega) (by rw [hz2]; omega))
        rw [hr] at hr2
        injection hr2 with e1 e2
        subst e1 e2
        exact ⟨(reqsIn_own hown).below ((Below.refl _ w).drew.alloc (Nat.le_refl _) _), .inr fun q hq => by obtain rfl := Option.some.inj hq; exact Nat.le_refl _⟩
end Go.Proofs.YtbihaoadgcckhaaGreat
