/- append to an own row of requests: the old slice holds what it held. -/
import Derived.Test.YtjcogpalmgcpbaaRqChk
import Derived.Deep.QuietTactic
import Derived.BigQuiet
import Derived.Test.YtjcogpalmgcpbaaRqPutL
import Derived.Test.YtjcogpalmgcpbaaRqAc2
import Derived.Test.YtjcogpalmgcpbaaRqDof
/- quadriviumref01.Draw.Next: a number from 0 to m - 1; the counter alone moves. -/
namespace Go.Proofs.Ytjcogpalmgcpbaa
open Go Go.RowKit Go.Sort Go.Lib

theorem modv_eq (n m : Int) : (n.tmod m + m) % m = n % m := by
  rw [Int.add_emod_right]
  by_cases hn : 0 ≤ n
  · rw [Int.tmod_eq_emod_of_nonneg hn, Int.emod_emod_of_dvd _ (Int.dvd_refl m)]
  · have h1 : n.tmod m = -((-n) % m) := by
      rw [← Int.tmod_eq_emod_of_nonneg (by omega), Int.neg_tmod, Int.neg_neg]
    have h2 := Int.emod_add_mul_ediv n m
    have h3 := Int.tmod_add_mul_tdiv n m
    have e : n.tmod m = n % m + m * (n / m - n.tdiv m) := by rw [Int.mul_sub]; omega
    rw [e, Int.add_mul_emod_self_left, Int.emod_emod_of_dvd _ (Int.dvd_refl m)]












/-- A slice of ints that came in, below block B: each place can be read. -/
def IntsIn (B : Nat) (A : Option Addr) (n : Nat) (w : World) : Prop :=
  n ≤ 9223372036854775807 ∧ ∀ j, j < n → ∃ b off z, A = some ⟨b, off, none⟩ ∧ b < B ∧ w.cell? ⟨b, off + j, none⟩ = some (.int .i64 z) ∧ I64 z
theorem IntsIn.below {B : Nat} {A : Option Addr} {n : Nat} {w w' : World} (h : IntsIn B A n w) (hb : Below B w w') : IntsIn B A n w' :=
  ⟨h.1, fun j hj => by
    obtain ⟨b, off, z, hA, hB, hc, hz⟩ := h.2 j hj
    exact ⟨b, off, z, hA, hB, (hb.cell (p := ⟨b, off + j, none⟩) hB).trans hc, hz⟩⟩




/-- Only block d has been written, and blocks laid. -/
def Only (d : Nat) (w w' : World) : Prop := w.grownBy w' (some d)




theorem Only.setCell (w : World) (d i : Nat) (u : Value) (n : Nat) : Only d w ((w.setCell ⟨d, i, none⟩ u).drewN n) :=
  ⟨rfl, rfl, rfl, by simp [World.setCell], fun k _ hk => Below.heap_setCell w _ _ _ (by simpa using hk)⟩

theorem quiet_r {P : Program} {f : FuncId} {args : Array Value} {w : World} {n : Nat} {v : Value} (h : Calls P f args (w.drewN n) fun e w' => e = .returned v ∧ w.drewN n = w') :
    Calls P f args (w.drewN n) fun e w'' => e = .returned v ∧ ∃ m, w'' = w.drewN m := h.mono fun _ _ ⟨he, hm⟩ => ⟨he, n, hm.symm⟩
theorem quiet_add_r {P : Program} {f : FuncId} {args : Array Value} {w : World} {a n : Nat} {v : Value} (h : Calls P f args (w.drewN (a + n)) fun e w' => e = .returned v ∧ w.drewN (a + n) = w') :
    Calls P f args (w.drewN (a + n)) fun e w'' => e = .returned v ∧ ∃ m, w'' = w.drewN (a + m) := h.mono fun _ _ ⟨he, hm⟩ => ⟨he, n, hm.symm⟩




































def codesL : List ByteArray := [⟨#[65, 49]⟩, ⟨#[66, 49]⟩, ⟨#[66, 50]⟩, ⟨#[67, 49]⟩, ⟨#[68, 49]⟩, ⟨#[69, 57]⟩]





















theorem IntsIn.only {B d : Nat} {A : Option Addr} {n : Nat} {w w' : World} (h : IntsIn B A n w) (hB : B ≤ d) (hw : B ≤ w.heap.size) (ho : Only d w w') : IntsIn B A n w' :=
  h.below ⟨ho.os, ho.tape, ho.output, ho.size, fun k hk => ho.block k (by omega) (by simp; omega)⟩

end Go.Proofs.Ytjcogpalmgcpbaa
/- quadriviumref27.Made: what a round keeps. -/
namespace Go.Proofs.Ytjcogpalmgcpbaa
open Go Go.RowKit Go.Sort Go.Lib
attribute [local go_sem] Req.cells

theorem lt_of_heap {w : World} {b : Nat} {o : Obj} (h : w.heap[b]? = some o) : b < w.heap.size := by
  rcases Nat.lt_or_ge b w.heap.size with h' | h'
  · exact h'
  · rw [Array.getElem?_eq_none h'] at h; cases h
theorem below_next {W w w' : World} (h : RowKit.Below W.heap.size W w) (hb : RowKit.Below w.heap.size w w') : RowKit.Below W.heap.size W w' := h.trans (hb.mono h.size)
theorem setCell_size (w : World) (a : Addr) (u : Value) : (w.setCell a u).heap.size = w.heap.size := by simp [World.setCell]
/-- A slice of slices of ints that came in, below block B. -/
def IntssIn (B : Nat) (S : Option Addr) (N : Nat) (w : World) : Prop :=
  N ≤ 9223372036854775807 ∧ ∀ j, j < N → ∃ b off A n c, S = some ⟨b, off, none⟩ ∧ b < B ∧ w.cell? ⟨b, off + j, none⟩ = some (.slice A n c) ∧ IntsIn B A n w
theorem IntssIn.below {B : Nat} {S : Option Addr} {N : Nat} {w w' : World} (h : IntssIn B S N w) (hb : RowKit.Below B w w') : IntssIn B S N w' :=
  ⟨h.1, fun j hj => by
    obtain ⟨b, off, A, n, c, hA, hB, hc, hi⟩ := h.2 j hj
    exact ⟨b, off, A, n, c, hA, hB, (hb.cell (p := ⟨b, off + j, none⟩) hB).trans hc, hi.below hb⟩⟩
/-- Requests whose numbers fit and whose texts are short. -/
structure Req.Small (r : Req) : Prop where
  ok : r.Ok
  code : r.code.size ≤ 12
  give : r.give.size ≤ 12
theorem Req.Small.wf {r : Req} (h : r.Small) : r.wf := by
  have h1 : ∀ n, I64 n → (Lit.int .i64 n).wf = true := fun n hn => by
    unfold I64 at hn
    simp [Lit.wf, IntKind.min, IntKind.max, IntKind.signed, IntKind.bits]; omega
  exact ⟨h1 _ h.ok.server, h1 _ h.ok.seq, h1 _ h.ok.student, h1 _ h.ok.term, by have := h.code; unfold maxLen; omega, by have := h.give; unfold maxLen; omega, h1 _ h.ok.priority, h1 _ h.ok.day⟩







theorem reqs_ne {base : Nat} {w : World} {v : Value} {es : List Req} {d : Nat} {cs : Array Value} {t : TypeId} (h : w.ownsRow base 37 9 v es.length (reqCells es)) (hd : w.heap[d]? = some (.cells cs t (0, 0))) (ht : t ≠ 37) : v.ownBlock ≠ some d := by
  rcases h.2 with ⟨hv, _⟩ | ⟨g, cap, cur, hv, hb, hg, _⟩
  · rw [hv]; simp [Value.ownBlock]
  · rw [hv]
    intro e
    have e' : g = d := by simpa [Value.ownBlock] using e
    subst e'
    rw [hg] at hd
    injection hd with hd
    injection hd with _ hd
    exact ht hd.symm





theorem rows_below {base : Nat} {w w' : World} {v : Value} {n : Nat} {cs : List Value} (h : w.ownsRow base 37 9 v n cs) (hb : RowKit.Below w.heap.size w w') : w'.ownsRow base 37 9 v n cs :=
  h.kept (below_grows (row := none) hb) (by cases v.ownBlock <;> simp)

























def CodesAt (cb : Nat) (w : World) : Prop := w.heap[cb]? = some (.cells #[.string ⟨#[65, 49]⟩, .string ⟨#[66, 49]⟩, .string ⟨#[66, 50]⟩, .string ⟨#[67, 49]⟩, .string ⟨#[68, 49]⟩, .string ⟨#[69, 57]⟩] 9 (0, 0))
section
variable {w wr w' : World} {d : Nat} {A : Option Addr} {n c : Nat} {v : Value} {es : List Req} {eb cb : Nat} {r : Req}




























theorem CodesAt.set (h : CodesAt cb wr) (hb : ReqBox wr eb r) (j : Nat) (u : Value) : CodesAt cb (wr.setCell ⟨eb, j, none⟩ u) := by
  have hne : cb ≠ eb := by
    rintro rfl
    unfold CodesAt at h; unfold ReqBox at hb
    rw [h] at hb
    injection hb with hb
    injection hb with _ hb
    exact absurd hb (by decide)
  unfold CodesAt at *
  rw [Below.heap_setCell _ _ _ _ hne]; exact h
theorem CodesAt.cell (h : CodesAt cb wr) {k : Nat} (hk : k < 6) : ∃ s, wr.cell? ⟨cb, k, none⟩ = some (.string s) ∧ s.size ≤ 12 := by
  unfold CodesAt at h
  match k, hk with
  | 0, _ => exact ⟨_, Lib.cell_of_heap h 0, by decide⟩
  | 1, _ => exact ⟨_, Lib.cell_of_heap h 1, by decide⟩
  | 2, _ => exact ⟨_, Lib.cell_of_heap h 2, by decide⟩
  | 3, _ => exact ⟨_, Lib.cell_of_heap h 3, by decide⟩
  | 4, _ => exact ⟨_, Lib.cell_of_heap h 4, by decide⟩
  | 5, _ => exact ⟨_, Lib.cell_of_heap h 5, by decide⟩
end
section
variable (w : World) (d : Nat) (A : Option Addr) (n c : Nat) (v : Value) (es : List Req) (eb cb : Nat) (r : Req) (m : Nat) (W : World)





















end
/-- What stands behind an append of a request that was just laid. -/
theorem reqs_one_laid (w : World) (r : Req) : ReqsIn (w.alloc (.cells r.cells 37)) (.slice (some ⟨w.heap.size, 0, none⟩) 1 1) [r] := by
  refine .inr ⟨w.heap.size, 0, 1, rfl, Nat.le_refl _, by simp, fun j u hj => ?_⟩
  rw [Nat.zero_add, Lib.cell_of_heap (heap_alloc_new w _)]
  simpa [reqCells] using hj
theorem reqs_one_at (w : World) (r : Req) (b : Nat) (h : w.heap.size = b) : ReqsIn (w.alloc (.cells r.cells 37)) (.slice (some ⟨b, 0, none⟩) 1 1) [r] := by
  subst h; exact reqs_one_laid w r


theorem small_snoc {es : List Req} {r : Req} (h : ∀ e ∈ es, e.Small) (hr : r.Small) : ∀ e ∈ es ++ [r], e.Small := by
  intro e he
  rcases List.mem_append.1 he with he | he
  · exact h e he
  · obtain rfl : e = r := by simpa using he
    exact hr
theorem small_mk {a b d f p q : Int} {cc : Bool} {g k : ByteArray} (h : I64 a ∧ I64 b ∧ I64 d ∧ I64 f ∧ I64 p ∧ I64 q) (hg : g.size ≤ 12) (hk : k.size ≤ 12) : Req.Small ⟨a, b, cc, d, f, g, k, p, q⟩ :=
  ⟨⟨h.1, h.2.1, h.2.2.1, h.2.2.2.1, h.2.2.2.2.1, h.2.2.2.2.2, by show g.size ≤ 100000; omega, by show k.size ≤ 100000; omega⟩, hg, hk⟩
end Go.Proofs.Ytjcogpalmgcpbaa
namespace Go.Proofs.Ytjcogpalmgcpbaa
open Go Go.Proofs Go.RowKit Go.Sort Go.Lib

/-- What stands behind an append. -/
structure AppR (w : World) (base : Nat) (v : Value) (X Y : List Req) (v' : Value) (w' : World) : Prop where
  own : w'.ownsRow base 37 9 v' (X ++ Y).length (reqCells (X ++ Y))
  grown : w.grownBy w' v.ownBlock
  old : ReqsIn w' v X
  block : v'.ownBlock = v.ownBlock ∨ ∀ q, v'.ownBlock = some q → w.heap.size ≤ q
set_option maxRecDepth 100000 in
theorem run_append_reqs2 (w : World) (base : Nat) (ty : TypeId) (v xv : Value) (X Y : List Req) (hown : w.ownsRow base 37 9 v X.length (reqCells X)) (hx : ReqsIn w xv Y) (hl : X.length + Y.length ≤ 1000000) (hb : base ≤ w.heap.size) :
    ∃ v' w', (Builtin.append_ #[38, 38] ty #[v, xv]).run Try.prog w = .ok v' w' ∧ AppR w base v X Y v' w' := by
  obtain ⟨i0, hi, hz0, hz1, hz2⟩ := info_parts req_info
  rcases hx with ⟨rfl, rfl⟩ | ⟨b, o, c, rfl, h2, h3, h4⟩
  · refine ⟨v, w, run_append_owned_none w base 38 ty 37 i0 9 Try.underlying38 hi v X.length (reqCells X) hown, by simpa using hown, ⟨rfl, rfl, rfl, Nat.le_refl _, fun _ _ _ => rfl⟩, reqsIn_own hown, .inl rfl⟩
  · have hnews : ∀ (j : Nat) (u : Value), (reqCells Y)[j]? = some u → w.cell? ((⟨b, o, none⟩ : Addr).add j) = some u := fun j u hj => by rw [add_plain]; exact h4 j u hj
    obtain ⟨v', w', hr, h5, h6, h7⟩ := run_append_own (P := Try.prog) w base 38 ty 37 i0 _ 9 88 Try.underlying38 hi hz0 hz1 hz2 rfl (by decide) v X.length (reqCells X) hown ⟨b, o, none⟩ Y.length c (reqCells Y) (reqCells_len _)
      hnews (reqs_one _) (by unfold maxLen; omega) (by omega) hb
    suffices h : ReqsIn w' v X ∧ (v'.ownBlock = v.ownBlock ∨ ∀ q, v'.ownBlock = some q → w.heap.size ≤ q) from ⟨v', w', hr, by rw [reqCells_app, List.length_append]; exact h5, h6, h.1, h.2⟩
    rcases id hown.2 with ⟨rfl, h0⟩ | ⟨g, cap, cur, rfl, hbg, hg, hnc, hcm, hcs, htake⟩
    · have hX : X = [] := List.eq_nil_of_length_eq_zero h0
      subst hX
      refine ⟨.inl ⟨rfl, rfl⟩, ?_⟩
      by_cases hm : Y.length = 0
      · left
        rw [h7.2 ⟨rfl, hm⟩]
      · right
        have hr2 := run_append_nil (P := Try.prog) w 38 ty 37 i0 _ Try.underlying38 hi hz0 ⟨b, o, none⟩ Y.length c (reqCells Y) (by rw [reqCells_len, hz1]) hnews (by omega) (by omega) (by rw [hz2]; omega)
        rw [hr] at hr2
        injection hr2 with e1 e2
        subst e1
        exact fun q hq => by obtain rfl := Option.some.inj hq; exact Nat.le_refl _
    · by_cases hroom : X.length + Y.length ≤ cap
      · have hfit : X.length * i0.size + (reqCells Y).length ≤ cur.size := by rw [reqCells_len, hcs, hz1, ← Nat.add_mul]; exact Nat.mul_le_mul_right _ hroom
        have hr2 := run_append_room (P := Try.prog) w 38 ty 37 i0 Try.underlying38 hi g X.length cap cur hg ⟨b, o, none⟩ Y.length c (reqCells Y) (by rw [reqCells_len, hz1]) hnews (reqs_one _) hroom hfit
        rw [hr] at hr2
        injection hr2 with e1 e2
        subst e1
        refine ⟨.inr ⟨g, 0, cap, rfl, hnc, ?_, fun j u hj => ?_⟩, .inl rfl⟩
        · exact (h5.lt g rfl).2
        · have := h5.cells (g := g) rfl j u (by rw [List.getElem?_append_left (List.getElem?_eq_some_iff.1 hj).1]; exact hj)
          rw [add_plain] at this; exact this
      · have holds : ∀ j u, (reqCells X)[j]? = some u → w.cell? ((⟨g, 0, none⟩ : Addr).add j) = some u := hown.cells (g := g) rfl
        have hr2 := run_append_grow (P := Try.prog) w 38 ty 37 i0 _ Try.underlying38 hi hz0 ⟨g, 0, none⟩ X.length cap (reqCells X) (by rw [reqCells_len, hz1]) holds ⟨b, o, none⟩ Y.length c (reqCells Y) (by rw [reqCells_len, hz1]) hnews (by omega) (by omega) (growslice_fits (by omega) (by rw [hz2]; omega))
        rw [hr] at hr2
        injection hr2 with e1 e2
        subst e1 e2
        exact ⟨(reqsIn_own hown).below ((Below.refl _ w).drew.alloc (Nat.le_refl _) _), .inr fun q hq => by obtain rfl := Option.some.inj hq; exact Nat.le_refl _⟩
end Go.Proofs.Ytjcogpalmgcpbaa
