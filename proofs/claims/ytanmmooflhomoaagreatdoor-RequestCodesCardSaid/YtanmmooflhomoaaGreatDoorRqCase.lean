/- Case.made: three lists of requests, the first with a changed one behind it. -/
import Derived.Test.YtanmmooflhomoaaGreatDoorRqMade
import Derived.Test.YtanmmooflhomoaaGreatDoorRqOdd
import Derived.Test.YtanmmooflhomoaaGreatDoorRqMdA
import Derived.Test.YtanmmooflhomoaaGreatDoorRqPutR
import Derived.Test.YtanmmooflhomoaaGreatDoorQFlow
import Derived.Test.YtanmmooflhomoaaGreatDoorPiece
namespace Go.Proofs.YtanmmooflhomoaaGreatDoor
open Go Go.Proofs Go.RowKit Go.Sort Go.Lib

theorem IntsIn.up {B B' : Nat} {S : Option Addr} {N : Nat} {w : World} (h : IntsIn B S N w) (hB : B ≤ B') : IntsIn B' S N w :=
  ⟨h.1, fun j hj => by
    obtain ⟨b, off, z, hA, hb, hc, hz⟩ := h.2 j hj
    exact ⟨b, off, z, hA, Nat.lt_of_lt_of_le hb hB, hc, hz⟩⟩
theorem IntssIn.at_ {S : Option Addr} {N : Nat} {w w' : World} (h : IntssIn w.heap.size S N w) (hb : RowKit.Below w.heap.size w w') : IntssIn w'.heap.size S N w' :=
  ⟨h.1, fun j hj => by
    obtain ⟨b, off, A, n, c, hA, hB, hc, hi⟩ := (h.below hb).2 j hj
    exact ⟨b, off, A, n, c, hA, Nat.lt_of_lt_of_le hB hb.size, hc, hi.up hb.size⟩⟩
theorem flow_append_reqs {ops : Array Oper} {Q : Exit → Act → World → Prop} {S : World → Prop} {i : Nat} {σ : List (Nat × Bool)} {a : Act} {w : World} (oi : Oper) (hi : ops[i]? = some oi) (hw : Region.wanted oi (yielded ops a.tmps) = true)
    (s x : Operand) (ho : oi.op = .call { callee := .builtin .append, args := #[s, x], argTypes := #[26, 26] })
    (base : Nat) (v xv : Value) (X Y : List Req) (hs : a.eval s = v) (hxv : a.eval x = xv) (hown : w.ownsRow base 46 9 v X.length (reqCells X)) (hx : ReqsIn w xv Y) (hl : X.length + Y.length ≤ 1000000) (hb : base ≤ w.heap.size)
    (h : ∀ v' w', AppR w base v X Y v' w' → S w' ∧ wpFlow Tryz.prog ops Q S σ (a.put oi.dst v') w') : wpFlow Tryz.prog ops Q S ((i, false) :: σ) a w :=
  flow_op oi hi hw (by
    obtain ⟨v', w', hr, hA⟩ := run_append_reqs2 w base oi.type v xv X Y hown hx hl hb
    unfold Oper.wp execOp
    simp only [ho, resolve, invoke, builtin, Sem.run_bind, Sem.run_pure, Result.andThen_ok, List.map_toArray, List.map_cons, List.map_nil, hs, hxv, hr]
    exact h v' w' hA)
theorem flow_req_at {ops : Array Oper} {Q : Exit → Act → World → Prop} {S : World → Prop} {i : Nat} {σ : List (Nat × Bool)} {a : Act} {w : World} (oi : Oper) (e : Req) (b o : Nat) (hi : ops[i]? = some oi) (hw : Region.wanted oi (yielded ops a.tmps) = true)
    (p : Operand) (ho : oi.op = .load 46 p) (hp : a.eval p = .pointer (some ⟨b, o, none⟩)) (hc : ∀ w, S w → ReqAt w b o e)
    (h : wpFlow Tryz.prog ops Q S σ (a.put oi.dst e.val) w) : wpFlow Tryz.prog ops Q S ((i, true) :: σ) a w :=
  flow_take oi e.val hi hw (fun w hS => by
    have hl := req_load w b o e (hc w hS)
    unfold execOp
    simp only [ho, hp, Sem.run_bind, Sem.run_pure, hl, Result.andThen_ok]) h
theorem own_form {base : Nat} {w : World} {v : Value} {L : List Req} (h : w.ownsRow base 46 9 v L.length (reqCells L)) (hl : 0 < L.length) : ∃ g cap, v = .slice (some ⟨g, 0, none⟩) L.length cap := by
  rcases h.2 with ⟨_, h0⟩ | ⟨g, cap, cur, rfl, _⟩
  · omega
  · exact ⟨g, cap, rfl⟩
theorem own_nil {base : Nat} {w : World} {v : Value} {L : List Req} (h : w.ownsRow base 46 9 v L.length (reqCells L)) : ∃ S cap, v = .slice S L.length cap := by
  rcases h.2 with ⟨rfl, h0⟩ | ⟨g, cap, cur, rfl, _⟩
  · exact ⟨none, 0, by rw [h0]⟩
  · exact ⟨_, cap, rfl⟩
/-- What 'made' leaves. -/
structure CaseOk (w : World) (va vb vd : Value) (A B D : List Req) (w' : World) : Prop where
  a : w'.ownsRow w.heap.size 46 9 va A.length (reqCells A)
  b : ReqsIn w' vb B
  d : w'.ownsRow w.heap.size 46 9 vd D.length (reqCells D)
  ne : ∀ q, vd.ownBlock = some q → va.ownBlock ≠ some q ∧ vb.ownBlock ≠ some q
  la : A.length ≤ 17
  lb : B.length ≤ 16
  ld : D.length ≤ 16
  sa : ∀ r ∈ A, r.Small
  sb : ∀ r ∈ B, r.Small
  sd : ∀ r ∈ D, r.Small
  below : RowKit.Below w.heap.size w w'
def CasePost (w : World) (x : Ending) (w' : World) : Prop := ∃ va vb vd A B D, x = .returned (.tuple #[va, vb, vd]) ∧ CaseOk w va vb vd A B D w'
theorem case_keep {W w w' : World} {B bx : Nat} {cs : Array Value} (hbx : bx < W.heap.size) (hB : B ≤ W.heap.size) (h : RowKit.Below B W w ∧ ∀ j, w.cell? ⟨bx, j, none⟩ = cs[j]?) (hb : RowKit.Below w.heap.size w w') : RowKit.Below B W w' ∧ ∀ j, w'.cell? ⟨bx, j, none⟩ = cs[j]? :=
  ⟨h.1.trans (hb.mono (Nat.le_trans hB h.1.size)), fun j => by rw [hb.cell (p := ⟨bx, j, none⟩) (Nat.lt_of_lt_of_le hbx h.1.size)]; exact h.2 j⟩
theorem case_keep2 {W w w' : World} {B bx : Nat} {cs : Array Value} {v : Value} {L : List Req} (hbx : bx < W.heap.size) (hB : B ≤ W.heap.size) (h : RowKit.Below B W w ∧ (∀ j, w.cell? ⟨bx, j, none⟩ = cs[j]?) ∧ ReqsIn w v L) (hb : RowKit.Below w.heap.size w w') : RowKit.Below B W w' ∧ (∀ j, w'.cell? ⟨bx, j, none⟩ = cs[j]?) ∧ ReqsIn w' v L :=
  ⟨(case_keep hbx hB ⟨h.1, h.2.1⟩ hb).1, (case_keep hbx hB ⟨h.1, h.2.1⟩ hb).2, h.2.2.below hb⟩
theorem grown_cell {w w' : World} {row : Option Nat} {b j : Nat} (hg : w.grownBy w' row) (hb : b < w.heap.size) (hne : some b ≠ row) : w'.cell? ⟨b, j, none⟩ = w.cell? ⟨b, j, none⟩ := World.cell?_of_block (hg.block b hb hne)
theorem row_at {w : World} {g cap k : Nat} {L : List Req} {x : Req} (h : ReqsIn w (.slice (some ⟨g, 0, none⟩) L.length cap) L) (hx : L[k]? = some x) : ReqAt w g (k * 9) x := by
  obtain ⟨b, o, c, hv, _, _, hat⟩ := h.at_ (by have := (List.getElem?_eq_some_iff.1 hx).1; omega)
  have e1 := (Value.slice.inj hv).1
  simp only [Option.some.injEq, Addr.mk.injEq, and_true] at e1
  obtain ⟨rfl, rfl⟩ := e1
  have := hat k x hx
  rwa [Nat.zero_add] at this
theorem ReqsIn.lt {w : World} {v : Value} {L : List Req} (h : ReqsIn w v L) : ∀ q, v.ownBlock = some q → q < w.heap.size := by
  intro q hq
  rcases h with ⟨rfl, _⟩ | ⟨b, o, c, rfl, _, h3, _⟩
  · simp [Value.ownBlock] at hq
  · simp [Value.ownBlock] at hq; omega
set_option maxHeartbeats 4000000 in
set_option maxRecDepth 100000 in
theorem case_any (A0 A1 A2 : Option Addr) (n0 n1 n2 c0 c1 c2 : Nat) (q0 q1 q2 : Int) (w : World) (h0 : IntssIn w.heap.size A0 n0 w) (h1 : IntssIn w.heap.size A1 n1 w) (h2 : IntssIn w.heap.size A2 n2 w) (i0 : I64 q0) (i1 : I64 q1) (_i2 : I64 q2) :
    Calls Tryz.prog 6 #[.agg #[.slice A0 n0 c0, .slice A1 n1 c1, .slice A2 n2 c2, .int .i64 q0, .int .i64 q1, .int .i64 q2]] w (CasePost w) := by
  have H0 := Lib.hid h0
  have H1 := Lib.hid h1
  have H2 := Lib.hid h2
  clear h0 h1 h2
  go_enter Tryz.func6, Tryz.ntmps6
  go_wp2_with fail
  have hbW : RowKit.Below w.heap.size w (w.alloc (.cells #[.slice A0 n0 c0, .slice A1 n1 c1, .slice A2 n2 c2, .int .i64 q0, .int .i64 q1, .int .i64 q2] 25)) := below_alloc1 _ _
  have hcW : ∀ j, (w.alloc (.cells #[.slice A0 n0 c0, .slice A1 n1 c1, .slice A2 n2 c2, .int .i64 q0, .int .i64 q1, .int .i64 q2] 25)).cell? ⟨w.heap.size, j, none⟩ = (#[.slice A0 n0 c0, .slice A1 n1 c1, .slice A2 n2 c2, .int .i64 q0, .int .i64 q1, .int .i64 q2] : Array Value)[j]? := fun j => Lib.cell_of_heap (heap_alloc_new w _) j
  have hlW : w.heap.size < (w.alloc (.cells #[.slice A0 n0 c0, .slice A1 n1 c1, .slice A2 n2 c2, .int .i64 q0, .int .i64 q1, .int .i64 q2] 25)).heap.size := by simp
  generalize w.alloc _ = W at hbW hcW hlW ⊢
  have hS0 : RowKit.Below W.heap.size W W.drew ∧ ∀ j, W.drew.cell? ⟨w.heap.size, j, none⟩ = (#[.slice A0 n0 c0, .slice A1 n1 c1, .slice A2 n2 c2, .int .i64 q0, .int .i64 q1, .int .i64 q2] : Array Value)[j]? := ⟨(Below.refl _ _).drew, hcW⟩
  refine of_onlyN ?_ (fun _ _ h => h)
  refine wp_region_flow (S := fun w' => RowKit.Below W.heap.size W w' ∧ ∀ j, w'.cell? ⟨w.heap.size, j, none⟩ = (#[.slice A0 n0 c0, .slice A1 n1 c1, .slice A2 n2 c2, .int .i64 q0, .int .i64 q1, .int .i64 q2] : Array Value)[j]?) [(0, true), (1, true), (3, true), (4, true), (2, false), (5, false), (6, true), (7, true)] (by kernel_rfl) (by kernel_rfl) (by kernel_rfl) (by decide) (hS0) ?_
  have hS := hS0
  refine flow_take ⟨some 7, _, _, _, _, _⟩ ?_ rfl (by rfl) ?_ ?_
  rotate_left 1
  · intro w hSw; (try dsimp only at hSw); go_simp; (try with_reducible rfl)
  simp only [Act.put, List.setIfInBounds_toArray, List.set_cons_zero, List.set_cons_succ]
  refine flow_take ⟨some 8, _, _, _, _, _⟩ ?_ rfl (by rfl) ?_ ?_
  rotate_left 1
  · intro w hSw; (try dsimp only at hSw); go_simp; (try with_reducible rfl)
  simp only [Act.put, List.setIfInBounds_toArray, List.set_cons_zero, List.set_cons_succ]
  refine flow_take ⟨some 10, _, _, _, _, _⟩ ?_ rfl (by rfl) ?_ ?_
  rotate_left 1
  · intro w hSw; (try dsimp only at hSw); go_simp; (try with_reducible rfl)
  simp only [Act.put, List.setIfInBounds_toArray, List.set_cons_zero, List.set_cons_succ]
  refine flow_take ⟨some 11, _, _, _, _, _⟩ ?_ rfl (by rfl) ?_ ?_
  rotate_left 1
  · intro w hSw; (try dsimp only at hSw); go_simp; (try with_reducible rfl)
  simp only [Act.put, List.setIfInBounds_toArray, List.set_cons_zero, List.set_cons_succ]
  (first | (refine flow_call ⟨some 9, _, _, _, _, _⟩ rfl (by rfl) 21 _ _ (by rfl) _ (by rfl) Tryz.call21 (made_any A0 n0 c0 _ (H0.out.at_ (below_next hbW hS.1))) ?_; rintro x wn ⟨va, ea, rfl, hla, hsa, hra, hb⟩; replace hS := case_keep hlW (Nat.le_refl _) hS hb; refine ⟨_, rfl, hS, ?_⟩; (try clear hb)) | (refine flow_call ⟨some 9, _, _, _, _, _⟩ rfl (by rfl) 21 _ _ (by rfl) _ (by rfl) Tryz.call21 (made_any A1 n1 c1 _ (H1.out.at_ (below_next hbW hS.1))) ?_; rintro x wn ⟨vb, eb, rfl, hlb, hsb, hrb, hb⟩; replace hS := case_keep hlW (Nat.le_refl _) hS hb; have hne : ∀ q, vb.ownBlock = some q → va.ownBlock ≠ some q := fun q hq ha => absurd (hrb.lt q hq).1 (by have := (hra.lt q ha).2; omega); replace hra := rows_below hra hb; refine ⟨_, rfl, hS, ?_⟩; (try clear hb)))
  simp only [Act.put, List.setIfInBounds_toArray, List.set_cons_zero, List.set_cons_succ]
  (first | (refine flow_call ⟨some 12, _, _, _, _, _⟩ rfl (by rfl) 21 _ _ (by rfl) _ (by rfl) Tryz.call21 (made_any A0 n0 c0 _ (H0.out.at_ (below_next hbW hS.1))) ?_; rintro x wn ⟨va, ea, rfl, hla, hsa, hra, hb⟩; replace hS := case_keep hlW (Nat.le_refl _) hS hb; refine ⟨_, rfl, hS, ?_⟩; (try clear hb)) | (refine flow_call ⟨some 12, _, _, _, _, _⟩ rfl (by rfl) 21 _ _ (by rfl) _ (by rfl) Tryz.call21 (made_any A1 n1 c1 _ (H1.out.at_ (below_next hbW hS.1))) ?_; rintro x wn ⟨vb, eb, rfl, hlb, hsb, hrb, hb⟩; replace hS := case_keep hlW (Nat.le_refl _) hS hb; have hne : ∀ q, vb.ownBlock = some q → va.ownBlock ≠ some q := fun q hq ha => absurd (hrb.lt q hq).1 (by have := (hra.lt q ha).2; omega); replace hra := rows_below hra hb; refine ⟨_, rfl, hS, ?_⟩; (try clear hb)))
  simp only [Act.put, List.setIfInBounds_toArray, List.set_cons_zero, List.set_cons_succ]
  refine flow_take ⟨some 5, _, _, _, _, _⟩ ?_ rfl (by rfl) ?_ ?_
  rotate_left 1
  · intro w hSw; (try dsimp only at hSw); go_simp; (try with_reducible rfl)
  simp only [Act.put, List.setIfInBounds_toArray, List.set_cons_zero, List.set_cons_succ]
  refine flow_take ⟨some 6, _, _, _, _, _⟩ ?_ rfl (by rfl) ?_ ?_
  rotate_left 1
  · intro w hSw; (try dsimp only at hSw); go_simp; (try with_reducible rfl)
  simp only [Act.put, List.setIfInBounds_toArray, List.set_cons_zero, List.set_cons_succ]
  simp only [wpFlow, OnlyN]
  obtain ⟨hbS, hcS⟩ := hS
  have hW3 := below_next hbW hbS
  have hl3 : w.heap.size < wn.heap.size := Nat.lt_of_lt_of_le hlW hbS.size
  have ra0 := row_base hra (show w.heap.size + 1 ≤ _ from hlW)
  clear hcW hlW hbW hS0 hra
  by_cases hpos : 0 < ea.length
  · obtain ⟨g, cap, rfl⟩ := own_form ra0 hpos
    have hp : (ea.length : Int) > 0 := by omega
    obtain ⟨m, hm⟩ := Int.eq_ofNat_of_zero_le (Int.emod_nonneg q2 (show (ea.length : Int) ≠ 0 by omega))
    have hm2 := Int.emod_lt_of_pos q2 (show (0 : Int) < ea.length by omega)
    have cm := fun W => mod_any q2 ea.length W (by omega) (by omega)
    rw [hm] at cm hm2
    clear hm
    have hx := List.getElem?_eq_getElem (show m < ea.length by omega)
    have hxs := hsa _ (List.getElem_mem (show m < ea.length by omega))
    generalize ea[m] = x at hx hxs
    have HX := Lib.hid hx
    have hm0 : (0 : Int) ≤ (m : Int) := by omega
    clear hx
    go_wp2_with fail
    have hS0 : RowKit.Below w.heap.size wn wn.drew ∧ (∀ j, wn.drew.cell? ⟨w.heap.size, j, none⟩ = (#[.slice A0 n0 c0, .slice A1 n1 c1, .slice A2 n2 c2, .int .i64 q0, .int .i64 q1, .int .i64 q2] : Array Value)[j]?) ∧ ReqsIn wn.drew (.slice (some ⟨g, 0, none⟩) ea.length cap) ea := ⟨(Below.refl _ _).drew, hcS, reqsIn_own ra0⟩
    obtain ⟨W3, rfl⟩ : ∃ W3, W3 = wn := ⟨_, rfl⟩
    refine of_onlyN ?_ (fun _ _ h => h)
    refine wp_region_flow (S := fun w' => RowKit.Below w.heap.size W3 w' ∧ (∀ j, w'.cell? ⟨w.heap.size, j, none⟩ = (#[.slice A0 n0 c0, .slice A1 n1 c1, .slice A2 n2 c2, .int .i64 q0, .int .i64 q1, .int .i64 q2] : Array Value)[j]?) ∧ ReqsIn w' (.slice (some ⟨g, 0, none⟩) ea.length cap) ea) [(0, true), (1, true), (2, true), (3, true), (4, true), (5, true), (6, true), (10, true), (11, true), (12, true), (13, true), (14, true), (15, true), (16, true), (7, false), (8, true), (9, true), (17, false), (18, false), (19, false), (20, true)] (by kernel_rfl) (by kernel_rfl) (by kernel_rfl) (by decide) (hS0) ?_
    have hS := hS0
    refine flow_take ⟨some 16, _, _, _, _, _⟩ ?_ rfl (by rfl) ?_ ?_
    rotate_left 1
    · intro w hSw; (try dsimp only at hSw); go_simp; (try with_reducible rfl)
    simp only [Act.put, List.setIfInBounds_toArray, List.set_cons_zero, List.set_cons_succ]
    refine flow_take ⟨some 17, _, _, _, _, _⟩ ?_ rfl (by rfl) ?_ ?_
    rotate_left 1
    · intro w hSw; (try dsimp only at hSw); go_simp; (try with_reducible rfl)
    simp only [Act.put, List.setIfInBounds_toArray, List.set_cons_zero, List.set_cons_succ]
    refine flow_take ⟨some 18, _, _, _, _, _⟩ ?_ rfl (by rfl) ?_ ?_
    rotate_left 1
    · intro w hSw; (try dsimp only at hSw); go_simp; (try with_reducible rfl)
    simp only [Act.put, List.setIfInBounds_toArray, List.set_cons_zero, List.set_cons_succ]
    refine flow_take ⟨some 19, _, _, _, _, _⟩ ?_ rfl (by rfl) ?_ ?_
    rotate_left 1
    · intro w hSw; (try dsimp only at hSw); go_simp; (try with_reducible rfl)
    simp only [Act.put, List.setIfInBounds_toArray, List.set_cons_zero, List.set_cons_succ]
    refine flow_take ⟨some 20, _, _, _, _, _⟩ ?_ rfl (by rfl) ?_ ?_
    rotate_left 1
    · intro w hSw; (try dsimp only at hSw); go_simp; (try with_reducible rfl)
    simp only [Act.put, List.setIfInBounds_toArray, List.set_cons_zero, List.set_cons_succ]
    refine flow_take ⟨some 21, _, _, _, _, _⟩ ?_ rfl (by rfl) ?_ ?_
    rotate_left 1
    · intro w hSw; (try dsimp only at hSw); go_simp; (try with_reducible rfl)
    simp only [Act.put, List.setIfInBounds_toArray, List.set_cons_zero, List.set_cons_succ]
    refine flow_take ⟨some 22, _, _, _, _, _⟩ ?_ rfl (by rfl) ?_ ?_
    rotate_left 1
    · intro w hSw; (try dsimp only at hSw); go_simp; (try with_reducible rfl)
    simp only [Act.put, List.setIfInBounds_toArray, List.set_cons_zero, List.set_cons_succ]
    refine flow_take ⟨some 26, _, _, _, _, _⟩ ?_ rfl (by rfl) ?_ ?_
    rotate_left 1
    · intro w hSw; (try dsimp only at hSw); go_simp; (try with_reducible rfl)
    simp only [Act.put, List.setIfInBounds_toArray, List.set_cons_zero, List.set_cons_succ]
    refine flow_take ⟨some 27, _, _, _, _, _⟩ ?_ rfl (by rfl) ?_ ?_
    rotate_left 1
    · intro w hSw; (try dsimp only at hSw); go_simp; (try with_reducible rfl)
    simp only [Act.put, List.setIfInBounds_toArray, List.set_cons_zero, List.set_cons_succ]
    refine flow_take ⟨some 28, _, _, _, _, _⟩ ?_ rfl (by rfl) ?_ ?_
    rotate_left 1
    · intro w hSw; (try dsimp only at hSw); go_simp; (try with_reducible rfl)
    simp only [Act.put, List.setIfInBounds_toArray, List.set_cons_zero, List.set_cons_succ]
    refine flow_take ⟨some 29, _, _, _, _, _⟩ ?_ rfl (by rfl) ?_ ?_
    rotate_left 1
    · intro w hSw; (try dsimp only at hSw); go_simp; (try with_reducible rfl)
    simp only [Act.put, List.setIfInBounds_toArray, List.set_cons_zero, List.set_cons_succ]
    refine flow_take ⟨some 30, _, _, _, _, _⟩ ?_ rfl (by rfl) ?_ ?_
    rotate_left 1
    · intro w hSw; (try dsimp only at hSw); go_simp; (try with_reducible rfl)
    simp only [Act.put, List.setIfInBounds_toArray, List.set_cons_zero, List.set_cons_succ]
    refine flow_take ⟨some 31, _, _, _, _, _⟩ ?_ rfl (by rfl) ?_ ?_
    rotate_left 1
    · intro w hSw; (try dsimp only at hSw); go_simp; (try with_reducible rfl)
    simp only [Act.put, List.setIfInBounds_toArray, List.set_cons_zero, List.set_cons_succ]
    refine flow_take ⟨some 32, _, _, _, _, _⟩ ?_ rfl (by rfl) ?_ ?_
    rotate_left 1
    · intro w hSw; (try dsimp only at hSw); go_simp; (try with_reducible rfl)
    simp only [Act.put, List.setIfInBounds_toArray, List.set_cons_zero, List.set_cons_succ]
    refine flow_call ⟨some 23, _, _, _, _, _⟩ rfl (by rfl) 23 _ _ (by rfl) _ (by rfl) Tryz.call23 (cm _) ?_; rintro x wn ⟨rfl, rfl⟩; refine ⟨_, rfl, hS, ?_⟩
    simp only [Act.put, List.setIfInBounds_toArray, List.set_cons_zero, List.set_cons_succ]
    refine flow_take ⟨some 24, _, _, _, _, _⟩ ?_ rfl (by rfl) ?_ ?_
    rotate_left 1
    · intro w hSw; (try dsimp only at hSw); go_simp; (try with_reducible rfl)
    simp only [Act.put, List.setIfInBounds_toArray, List.set_cons_zero, List.set_cons_succ]
    refine flow_req_at ⟨some 25, _, _, _, _, _⟩ x g (m * 9) rfl (by rfl) (.tmp 24) (by rfl) (by rfl) (fun w hS => row_at hS.2.2 HX.out) ?_
    (try simp only [Act.put, List.setIfInBounds_toArray, List.set_cons_zero, List.set_cons_succ])
    refine flow_call ⟨some 33, _, _, _, _, _⟩ rfl (by rfl) 22 _ _ (by rfl) _ (by rfl) Tryz.call22 (odd_any x q0 q1 hxs i0 i1 _) ?_; rintro x wn ⟨r, rfl, hr, hb⟩; replace hS := case_keep2 hl3 (Nat.le_of_lt hl3) hS hb; have ra1 := rows_below (show (World.drew W3).ownsRow _ _ _ _ _ _ from ra0) hb; have rb1 := (show ReqsIn (World.drew W3) vb eb from reqsIn_own hrb).below hb; refine ⟨_, rfl, hS, ?_⟩; (try clear hb)
    simp only [Act.put, List.setIfInBounds_toArray, List.set_cons_zero, List.set_cons_succ]
    refine flow_run ⟨some 34, _, _, _, _, _⟩ (.slice (some ⟨wn.heap.size, 0, none⟩) 1 1) (wn.alloc (.cells r.cells 46)) rfl (by rfl) (by simp only [Req.cells]; go_simp) (case_keep2 hl3 (Nat.le_of_lt hl3) hS (below_alloc1 _ _)) ?_; replace hS := case_keep2 hl3 (Nat.le_of_lt hl3) hS (below_alloc1 _ (.cells r.cells 46))
    simp only [Act.put, List.setIfInBounds_toArray, List.set_cons_zero, List.set_cons_succ]
    refine flow_append_reqs ⟨some 35, _, _, _, _, _⟩ rfl (by rfl) (.tmp 16) (.tmp 34) (by rfl) (w.heap.size + 1) _ _ ea [r] (by rfl) (by rfl) (ra1.alloc _) (reqs_one_laid _ _) (by simp; omega) (Nat.lt_of_lt_of_le hl3 hS.1.size) ?_; intro va' w4 hA; have hB4 : RowKit.Below w.heap.size w w4 := (hW3.trans hS.1).grown hA.grown (hW3.trans hS.1).size (fun q hq => Nat.le_of_succ_le (ra1.lt q hq).1); have hvb := (rb1.below (below_alloc1 _ (.cells r.cells 46))).grown hA.grown (by cases e : vb.ownBlock with | none => exact .inl rfl | some q => right; intro h; exact hne q e h.symm); replace hS : RowKit.Below w.heap.size W3 w4 ∧ (∀ j, w4.cell? ⟨w.heap.size, j, none⟩ = (#[.slice A0 n0 c0, .slice A1 n1 c1, .slice A2 n2 c2, .int .i64 q0, .int .i64 q1, .int .i64 q2] : Array Value)[j]?) ∧ ReqsIn w4 (.slice (some ⟨g, 0, none⟩) ea.length cap) ea := ⟨hS.1.grown hA.grown (hW3.trans hS.1).size (fun q hq => Nat.le_of_succ_le (ra1.lt q hq).1), fun j => by rw [← hS.2.1 j]; exact grown_cell hA.grown (Nat.lt_of_lt_of_le hl3 hS.1.size) (by intro h; have := (ra1.lt _ h.symm).1; omega), hA.old⟩; refine ⟨hS, ?_⟩
    simp only [Act.put, List.setIfInBounds_toArray, List.set_cons_zero, List.set_cons_succ]
    refine flow_take ⟨some 5, _, _, _, _, _⟩ ?_ rfl (by rfl) ?_ ?_
    rotate_left 1
    · intro w hSw; (try dsimp only at hSw); go_simp; (try with_reducible rfl)
    simp only [Act.put, List.setIfInBounds_toArray, List.set_cons_zero, List.set_cons_succ]
    simp only [wpFlow, OnlyN]
    have ra2 := hA.own
    have hcS4 := hS.2.1
    go_wp2_with fail
    refine (made_any A2 n2 c2 _ (H2.out.at_ hB4)).mono ?_
    rintro x w5 ⟨vd, ed, rfl, hld, hsd, hrd, hb⟩
    go_wp2_with fail
    refine bodyPost_ret (v := .tuple #[va', vb, vd]) (by simp [results, Tryz.results6, go_sem]) rfl ⟨va', vb, vd, (ea ++ [r]), eb, ed, rfl, ?_⟩
    exact ⟨row_base (rows_below ra2 hb) (by omega), hvb.below hb, row_base hrd hB4.size, fun q hq => ⟨fun h => absurd (hrd.lt q hq).1 (by have := (ra2.lt q h).2; omega), fun h => absurd (hrd.lt q hq).1 (by have := hvb.lt q h; omega)⟩, (by simp; omega), hlb, hld, (small_snoc hsa hr), hsb, hsd, below_next hB4 hb⟩
  · have hp : ¬ ((ea.length : Int) > 0) := by omega
    obtain ⟨SA, capA, rfl⟩ := own_nil ra0
    have hB4 := hW3
    have hvb := reqsIn_own hrb
    clear hW3
    go_wp2_with fail
    refine (made_any A2 n2 c2 _ (H2.out.at_ hB4)).mono ?_
    rintro x w5 ⟨vd, ed, rfl, hld, hsd, hrd, hb⟩
    go_wp2_with fail
    refine bodyPost_ret (v := .tuple #[.slice SA ea.length capA, vb, vd]) (by simp [results, Tryz.results6, go_sem]) rfl ⟨.slice SA ea.length capA, vb, vd, ea, eb, ed, rfl, ?_⟩
    exact ⟨row_base (rows_below ra0 hb) (by omega), hvb.below hb, row_base hrd hB4.size, fun q hq => ⟨fun h => absurd (hrd.lt q hq).1 (by have := (ra0.lt q h).2; omega), fun h => absurd (hrd.lt q hq).1 (by have := hvb.lt q h; omega)⟩, (by omega), hlb, hld, hsa, hsb, hsd, below_next hB4 hb⟩
end Go.Proofs.YtanmmooflhomoaaGreatDoor
