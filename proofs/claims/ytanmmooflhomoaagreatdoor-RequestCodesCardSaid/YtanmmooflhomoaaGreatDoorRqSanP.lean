/- Pieces of sanity: its drawn regions, a theorem each. -/
import Derived.Test.YtanmmooflhomoaaGreatDoorRqCase
import Derived.Test.YtanmmooflhomoaaGreatDoorRqPl
import Derived.Test.YtanmmooflhomoaaGreatDoorRqDig
import Derived.Test.YtanmmooflhomoaaGreatDoorRqSame
import Derived.Test.YtanmmooflhomoaaGreatDoorRqChf
import Derived.Test.YtanmmooflhomoaaGreatDoorWPar
/- The examples of the chapter: what the functions return there. -/
namespace Go.Proofs.YtanmmooflhomoaaGreatDoor
open Go Go.Proofs Go.RowKit Go.Sort Go.Lib

theorem rec_ok {r : Req} (h : r.Small) : r.fits := ⟨h.wf, by have := h.code; omega, by have := h.give; omega⟩
theorem small_l (L : List Req) (h : ∀ r ∈ L, r.Small) : ∀ r ∈ L, r.fits := fun r hr => rec_ok (h r hr)
theorem reqs_laid (w : World) (L : List Req) : ReqsIn (w.alloc (.cells (reqCells L).toArray 46)) (.slice (some ⟨w.heap.size, 0, none⟩) L.length L.length) L := by
  refine .inr ⟨w.heap.size, 0, L.length, rfl, Nat.le_refl _, by simp, fun j u hj => ?_⟩
  rw [Nat.zero_add, Lib.cell_of_heap (heap_alloc_new w _)]
  simpa using hj
theorem ck_at (r : Req) (n : Int) (h : chkR r = n) (hg : r.code.size ≤ 12) (hk : r.give.size ≤ 12) (w : World) :
    Calls Tryz.prog 19 #[r.val] w fun x w' => x = .returned (.int .i64 n) ∧ RowKit.Below w.heap.size w w' := by
  have := rqCheck_any r (by omega) (by omega) w
  rw [h] at this; exact this
def Ret (L : List Req) (w : World) (x : Ending) (w' : World) : Prop := ∃ v, x = .returned v ∧ ReqsIn w' v L ∧ RowKit.Below w.heap.size w w'
theorem join_at {A B L : List Req} (h : IsSet L (A ++ B)) (hs : ∀ r ∈ A ++ B, r.Small) (hl : A.length + B.length ≤ 1000000) (a b : Value) (w : World) (ha : ReqsIn w a A) (hb : ReqsIn w b B) :
    Calls Tryz.prog 9 #[a, b] w (Ret L w) := by
  refine (join_any a b A B w ha hb hl fun r hr => (hs r hr).wf).mono ?_
  rintro x w' ⟨v, M, rfl, hM, hr, hb⟩
  obtain rfl := hM.same h
  exact ⟨v, rfl, reqsIn_own hr, hb⟩
theorem active_at {A L K : List Req} (h : IsSet L A) (hk : actR L = K) (hs : ∀ r ∈ A, r.Small) (hl : A.length ≤ 1000000) (a : Value) (w : World) (ha : ReqsIn w a A) :
    Calls Tryz.prog 20 #[a] w (Ret K w) := by
  refine (active_any a A w ha hl (small_l A hs)).mono ?_
  rintro x w' ⟨v, M, rfl, hM, hr, hb⟩
  obtain rfl := hM.same h
  subst hk
  exact ⟨v, rfl, reqsIn_own hr, hb⟩
theorem missing_at {A B L : List Req} (h : IsSet L (A.filter fun r => !B.any (eqReq r))) (hs : ∀ r ∈ A, r.Small) (hsb : ∀ r ∈ B, r.Small) (hl : A.length ≤ 1000000) (hlb : B.length ≤ 1000000) (a b : Value) (w : World) (ha : ReqsIn w a A) (hb : ReqsIn w b B) :
    Calls Tryz.prog 11 #[a, b] w (Ret L w) := by
  refine (missing_any a b A B w ha hb hl hlb (fun r hr => (hs r hr).wf) (fun r hr => (hsb r hr).wf)).mono ?_
  rintro x w' ⟨v, M, rfl, hM, hr, hb⟩
  obtain rfl := hM.same h
  exact ⟨v, rfl, reqsIn_own hr, hb⟩
theorem same_at {A B : List Req} (h : A = B) (hl : A.length ≤ 1000000) (a b : Value) (w : World) (ha : ReqsIn w a A) (hb : ReqsIn w b B) :
    Calls Tryz.prog 8 #[a, b] w fun x w' => x = .returned (.bool true) ∧ RowKit.Below w.heap.size w w' := by
  refine (same_any a b A B w ha hb hl).mono ?_
  rintro x w' ⟨t, rfl, ht, hb⟩
  rw [ht.2 h]
  exact ⟨rfl, hb⟩
def RetS (n : Nat) (w : World) (x : Ending) (w' : World) : Prop := ∃ s : ByteArray, x = .returned (.string s) ∧ s.size = n ∧ RowKit.Below w.heap.size w w'
theorem digest_at {A : List Req} (hs : ∀ r ∈ A, r.Small) (hl : A.length ≤ 400) (a : Value) (w : World) (ha : ReqsIn w a A) (ht : Tabs w) :
    Calls Tryz.prog 13 #[a] w (RetS 8 w) := by
  refine (digest_any a A w ha hl (fun r hr => (hs r hr).wf) (fun r hr => (hs r hr).ok) ht).mono ?_
  rintro x w' ⟨M, hM, rfl, hb⟩
  exact ⟨_, rfl, rfl, hb⟩
theorem set_acb : IsSet [⟨1, 1, false, 5, 4, ⟨#[65, 49]⟩, ⟨#[]⟩, 2, 400⟩, ⟨1, 1, true, 0, 0, ⟨#[]⟩, ⟨#[]⟩, 0, 0⟩, ⟨1, 2, false, 5, 4, ⟨#[66, 49]⟩, ⟨#[65, 49]⟩, 2, 400⟩] ([⟨1, 1, true, 0, 0, ⟨#[]⟩, ⟨#[]⟩, 0, 0⟩, ⟨1, 1, false, 5, 4, ⟨#[65, 49]⟩, ⟨#[]⟩, 2, 400⟩] ++ [⟨1, 2, false, 5, 4, ⟨#[66, 49]⟩, ⟨#[65, 49]⟩, 2, 400⟩, ⟨1, 1, false, 5, 4, ⟨#[65, 49]⟩, ⟨#[]⟩, 2, 400⟩]) :=
  ⟨by decide +kernel, fun r => by
    simp only [List.mem_cons, List.cons_append, List.nil_append, List.not_mem_nil, or_false]
    constructor
    · rintro (h | h | h) <;> simp [h]
    · rintro (h | h | h | h) <;> simp [h]⟩
theorem set_acb' : IsSet [⟨1, 1, false, 5, 4, ⟨#[65, 49]⟩, ⟨#[]⟩, 2, 400⟩, ⟨1, 1, true, 0, 0, ⟨#[]⟩, ⟨#[]⟩, 0, 0⟩, ⟨1, 2, false, 5, 4, ⟨#[66, 49]⟩, ⟨#[65, 49]⟩, 2, 400⟩] [⟨1, 1, false, 5, 4, ⟨#[65, 49]⟩, ⟨#[]⟩, 2, 400⟩, ⟨1, 1, true, 0, 0, ⟨#[]⟩, ⟨#[]⟩, 0, 0⟩, ⟨1, 2, false, 5, 4, ⟨#[66, 49]⟩, ⟨#[65, 49]⟩, 2, 400⟩] := ⟨set_acb.1, fun _ => Iff.rfl⟩
theorem set_ab : IsSet [⟨1, 1, false, 5, 4, ⟨#[65, 49]⟩, ⟨#[]⟩, 2, 400⟩, ⟨1, 2, false, 5, 4, ⟨#[66, 49]⟩, ⟨#[65, 49]⟩, 2, 400⟩] [⟨1, 2, false, 5, 4, ⟨#[66, 49]⟩, ⟨#[65, 49]⟩, 2, 400⟩, ⟨1, 1, false, 5, 4, ⟨#[65, 49]⟩, ⟨#[]⟩, 2, 400⟩] :=
  ⟨by decide +kernel, fun r => by
    simp only [List.mem_cons, List.not_mem_nil, or_false]
    constructor
    · rintro (h | h) <;> simp [h]
    · rintro (h | h) <;> simp [h]⟩
theorem set_mi : IsSet [⟨1, 2, false, 5, 4, ⟨#[66, 49]⟩, ⟨#[65, 49]⟩, 2, 400⟩] ([⟨1, 1, false, 5, 4, ⟨#[65, 49]⟩, ⟨#[]⟩, 2, 400⟩, ⟨1, 2, false, 5, 4, ⟨#[66, 49]⟩, ⟨#[65, 49]⟩, 2, 400⟩].filter fun r => !([⟨1, 1, true, 0, 0, ⟨#[]⟩, ⟨#[]⟩, 0, 0⟩, ⟨1, 1, false, 5, 4, ⟨#[65, 49]⟩, ⟨#[]⟩, 2, 400⟩]).any (eqReq r)) := by
  rw [show ([⟨1, 1, false, 5, 4, ⟨#[65, 49]⟩, ⟨#[]⟩, 2, 400⟩, ⟨1, 2, false, 5, 4, ⟨#[66, 49]⟩, ⟨#[65, 49]⟩, 2, 400⟩].filter fun r => !([⟨1, 1, true, 0, 0, ⟨#[]⟩, ⟨#[]⟩, 0, 0⟩, ⟨1, 1, false, 5, 4, ⟨#[65, 49]⟩, ⟨#[]⟩, 2, 400⟩]).any (eqReq r)) = [⟨1, 2, false, 5, 4, ⟨#[66, 49]⟩, ⟨#[65, 49]⟩, 2, 400⟩] by kernel_rfl]
  exact ⟨by decide +kernel, fun _ => Iff.rfl⟩
theorem act_acb : actR [⟨1, 1, false, 5, 4, ⟨#[65, 49]⟩, ⟨#[]⟩, 2, 400⟩, ⟨1, 1, true, 0, 0, ⟨#[]⟩, ⟨#[]⟩, 0, 0⟩, ⟨1, 2, false, 5, 4, ⟨#[66, 49]⟩, ⟨#[65, 49]⟩, 2, 400⟩] = [⟨1, 2, false, 5, 4, ⟨#[66, 49]⟩, ⟨#[65, 49]⟩, 2, 400⟩] := by kernel_rfl
theorem act_ab : actR [⟨1, 1, false, 5, 4, ⟨#[65, 49]⟩, ⟨#[]⟩, 2, 400⟩, ⟨1, 2, false, 5, 4, ⟨#[66, 49]⟩, ⟨#[65, 49]⟩, 2, 400⟩] = [⟨1, 1, false, 5, 4, ⟨#[65, 49]⟩, ⟨#[]⟩, 2, 400⟩, ⟨1, 2, false, 5, 4, ⟨#[66, 49]⟩, ⟨#[65, 49]⟩, 2, 400⟩] := by kernel_rfl
theorem sm_acb : ∀ r ∈ ([⟨1, 1, false, 5, 4, ⟨#[65, 49]⟩, ⟨#[]⟩, 2, 400⟩, ⟨1, 1, true, 0, 0, ⟨#[]⟩, ⟨#[]⟩, 0, 0⟩, ⟨1, 2, false, 5, 4, ⟨#[66, 49]⟩, ⟨#[65, 49]⟩, 2, 400⟩] : List Req), r.Small := by intro r hr; simp only [List.mem_cons, List.not_mem_nil, or_false] at hr; rcases hr with rfl | rfl | rfl <;> exact small_mk (by unfold I64; omega) (by decide) (by decide)
theorem sm_ba : ∀ r ∈ ([⟨1, 2, false, 5, 4, ⟨#[66, 49]⟩, ⟨#[65, 49]⟩, 2, 400⟩, ⟨1, 1, false, 5, 4, ⟨#[65, 49]⟩, ⟨#[]⟩, 2, 400⟩] : List Req), r.Small := by intro r hr; simp only [List.mem_cons, List.not_mem_nil, or_false] at hr; rcases hr with rfl | rfl <;> exact small_mk (by unfold I64; omega) (by decide) (by decide)
theorem sm_ab : ∀ r ∈ ([⟨1, 1, false, 5, 4, ⟨#[65, 49]⟩, ⟨#[]⟩, 2, 400⟩, ⟨1, 2, false, 5, 4, ⟨#[66, 49]⟩, ⟨#[65, 49]⟩, 2, 400⟩] : List Req), r.Small := by intro r hr; simp only [List.mem_cons, List.not_mem_nil, or_false] at hr; rcases hr with rfl | rfl <;> exact small_mk (by unfold I64; omega) (by decide) (by decide)
theorem sm_ca : ∀ r ∈ ([⟨1, 1, true, 0, 0, ⟨#[]⟩, ⟨#[]⟩, 0, 0⟩, ⟨1, 1, false, 5, 4, ⟨#[65, 49]⟩, ⟨#[]⟩, 2, 400⟩] : List Req), r.Small := by intro r hr; simp only [List.mem_cons, List.not_mem_nil, or_false] at hr; rcases hr with rfl | rfl <;> exact small_mk (by unfold I64; omega) (by decide) (by decide)
theorem sm_caba : ∀ r ∈ ([⟨1, 1, true, 0, 0, ⟨#[]⟩, ⟨#[]⟩, 0, 0⟩, ⟨1, 1, false, 5, 4, ⟨#[65, 49]⟩, ⟨#[]⟩, 2, 400⟩] ++ [⟨1, 2, false, 5, 4, ⟨#[66, 49]⟩, ⟨#[65, 49]⟩, 2, 400⟩, ⟨1, 1, false, 5, 4, ⟨#[65, 49]⟩, ⟨#[]⟩, 2, 400⟩] : List Req), r.Small := by intro r hr; simp only [List.mem_cons, List.cons_append, List.nil_append, List.not_mem_nil, or_false] at hr; rcases hr with rfl | rfl | rfl | rfl <;> exact small_mk (by unfold I64; omega) (by decide) (by decide)
theorem ck_a (w : World) : Calls Tryz.prog 19 #[.agg #[.int .i64 1, .int .i64 1, .bool false, .int .i64 5, .int .i64 4, .string ⟨#[65, 49]⟩, .string ⟨#[]⟩, .int .i64 2, .int .i64 400]] w fun x w' => x = .returned (.int .i64 0) ∧ RowKit.Below w.heap.size w w' :=
  ck_at ⟨1, 1, false, 5, 4, ⟨#[65, 49]⟩, ⟨#[]⟩, 2, 400⟩ 0 (by decide +kernel) (by decide) (by decide) w
theorem ck_g (w : World) : Calls Tryz.prog 19 #[.agg #[.int .i64 1, .int .i64 1, .bool false, .int .i64 5, .int .i64 4, .string ⟨#[65, 49]⟩, .string ⟨#[65, 49]⟩, .int .i64 2, .int .i64 400]] w fun x w' => x = .returned (.int .i64 12) ∧ RowKit.Below w.heap.size w w' :=
  ck_at ⟨1, 1, false, 5, 4, ⟨#[65, 49]⟩, ⟨#[65, 49]⟩, 2, 400⟩ 12 (by decide +kernel) (by decide) (by decide) w
theorem ck_s (w : World) : Calls Tryz.prog 19 #[.agg #[.int .i64 1, .int .i64 0, .bool false, .int .i64 5, .int .i64 4, .string ⟨#[65, 49]⟩, .string ⟨#[]⟩, .int .i64 2, .int .i64 400]] w fun x w' => x = .returned (.int .i64 1) ∧ RowKit.Below w.heap.size w w' :=
  ck_at ⟨1, 0, false, 5, 4, ⟨#[65, 49]⟩, ⟨#[]⟩, 2, 400⟩ 1 (by decide +kernel) (by decide) (by decide) w
theorem ck_c (w : World) : Calls Tryz.prog 19 #[.agg #[.int .i64 1, .int .i64 1, .bool true, .int .i64 0, .int .i64 0, .string ⟨#[]⟩, .string ⟨#[]⟩, .int .i64 0, .int .i64 0]] w fun x w' => x = .returned (.int .i64 0) ∧ RowKit.Below w.heap.size w w' :=
  ck_at ⟨1, 1, true, 0, 0, ⟨#[]⟩, ⟨#[]⟩, 0, 0⟩ 0 (by decide +kernel) (by decide) (by decide) w
theorem ck_k (w : World) : Calls Tryz.prog 19 #[.agg #[.int .i64 1, .int .i64 1, .bool true, .int .i64 5, .int .i64 0, .string ⟨#[]⟩, .string ⟨#[]⟩, .int .i64 0, .int .i64 0]] w fun x w' => x = .returned (.int .i64 20) ∧ RowKit.Below w.heap.size w w' :=
  ck_at ⟨1, 1, true, 5, 0, ⟨#[]⟩, ⟨#[]⟩, 0, 0⟩ 20 (by decide +kernel) (by decide) (by decide) w
end Go.Proofs.YtanmmooflhomoaaGreatDoor
namespace Go.Proofs.YtanmmooflhomoaaGreatDoor
open Go Go.Proofs Go.RowKit Go.Sort Go.Lib
attribute [local go_sem] Req.cells

theorem exec_req {oi : Oper} {a : Act} {w : World} (p : Operand) (b o : Nat) (e : Req) (ho : oi.op = .load 46 p) (hp : a.eval p = .pointer (some ⟨b, o, none⟩)) (hat : ReqAt w b o e) : (execOp a.eval oi).run Tryz.prog w = .ok (.value e.val) w := by
  have hl := req_load w b o e hat
  unfold execOp
  simp only [ho, hp, Sem.run_bind, Sem.run_pure, hl, Result.andThen_ok]
/-- A variable of a drawn region: laid or not, written or not. -/
def VBox (W : World) (al st : Bool) (v : Value) (r : Req) (w : World) : Prop := al = true → ∃ b, v = .pointer (some ⟨b, 0, none⟩) ∧ W.heap.size ≤ b ∧ w.heap[b]? = some (.cells (if st = true then r.cells else zeroCells) 46 (0, 0))
theorem VBox.below {W w w' : World} {al st : Bool} {v : Value} {r : Req} (h : VBox W al st v r w) (hb : RowKit.Below w.heap.size w w') : VBox W al st v r w' := fun e => by
  obtain ⟨b, h1, h2, h3⟩ := h e
  exact ⟨b, h1, h2, (hb.block b (lt_of_heap h3)).trans h3⟩
theorem VBox.new {W w : World} (r : Req) (h : W.heap.size ≤ w.heap.size) : VBox W true false (.pointer (some ⟨w.heap.size, 0, none⟩)) r (w.alloc (.cells zeroCells 46)) := fun _ => ⟨w.heap.size, rfl, h, heap_alloc_new w _⟩
theorem VBox.ne {W w : World} {al st : Bool} {v : Value} {r : Req} (h : VBox W al st v r w) (e : al = true) : v ≠ .pointer (some ⟨w.heap.size, 0, none⟩) := by
  obtain ⟨b, rfl, _, h3⟩ := h e
  intro hh
  injection hh with hh
  injection hh with hh
  have hb : b = w.heap.size := by injection hh
  have := lt_of_heap h3
  omega
theorem VBox.set {W w : World} {b : Nat} {r : Req} {cs : Array Value} (hB : W.heap.size ≤ b) (h : w.heap[b]? = some (.cells cs 46 (0, 0))) : VBox W true true (.pointer (some ⟨b, 0, none⟩)) r (w.setRow b r.cells) := fun _ => ⟨b, rfl, hB, heap_setRow h _⟩
theorem VBox.far {W w : World} {al st : Bool} {v : Value} {r : Req} {b' : Nat} (h : VBox W al st v r w) (hne : al = true → v ≠ .pointer (some ⟨b', 0, none⟩)) (cs : Array Value) : VBox W al st v r (w.setRow b' cs) := fun e => by
  obtain ⟨b, rfl, h2, h3⟩ := h e
  refine ⟨b, rfl, h2, ?_⟩
  rw [← h3]
  show (w.heap.modify b' _)[b]? = w.heap[b]?
  rw [Array.getElem?_modify, if_neg]
  intro hh
  exact hne e (by rw [hh])
theorem old_keep {w w' : World} {B g : Nat} {cs : Array Value} (hg : g < B) (hk : RowKit.Below B w w') (h : ∀ j, w.cell? ⟨g, j, none⟩ = cs[j]?) : ∀ j, w'.cell? ⟨g, j, none⟩ = cs[j]? := fun j => by rw [hk.cell (p := ⟨g, j, none⟩) hg]; exact h j

set_option maxHeartbeats 4000000 in
set_option maxRecDepth 100000 in
theorem san_r4 {s0 s2 s4 s5 s6 s7 s8 s9 s10 s11 s12 s13 s14 s15 s16 s17 s18 s19 s20 s21 s22 s23 s24 s25 s26 s27 s28 s29 s30 s31 s32 s33 s34 s35 s36 s37 s38 s39 s40 s41 s42 s43 s44 s45 s46 s47 s48 s49 s50 s51 s52 s53 s54 s55 s56 s57 s58 s59 s60 s61 s62 s63 s64 s65 s66 s67 s68 s69 s70 s71 s72 s73 s74 s75 s76 s77 s78 s79 s80 s81 s82 s83 s84 s85 s86 s87 s88 s89 s90 s91 s92 s93 : Value} (g1 g3 : Nat) (W : World) (Q : Exit → Act → World → Prop) (h1 : ReqBox W g1 ⟨1, 1, false, 5, 4, ⟨#[65, 49]⟩, ⟨#[]⟩, 2, 400⟩) (h3 : ReqBox W g3 ⟨1, 1, true, 0, 0, ⟨#[]⟩, ⟨#[]⟩, 0, 0⟩)
    (hQ : ∀ (b0 b1 b2 : Nat) (wx : World), b0 ≠ b1 → b0 ≠ b2 → b1 ≠ b2 → RowKit.Below W.heap.size W wx → W.heap.size ≤ b0 → W.heap.size ≤ b1 → W.heap.size ≤ b2 → ReqBox wx b0 ⟨1, 1, false, 5, 4, ⟨#[65, 49]⟩, ⟨#[]⟩, 2, 400⟩ → ReqBox wx b1 ⟨1, 1, false, 5, 4, ⟨#[65, 49]⟩, ⟨#[]⟩, 2, 400⟩ → ReqBox wx b2 ⟨1, 1, true, 0, 0, ⟨#[]⟩, ⟨#[]⟩, 0, 0⟩ → Q .normal ⟨List.toArray (s0 :: .pointer (some ⟨g1, 0, none⟩) :: s2 :: .pointer (some ⟨g3, 0, none⟩) :: .pointer (some ⟨b0, 0, none⟩) :: .pointer (some ⟨b1, 0, none⟩) :: .pointer (some ⟨b2, 0, none⟩) :: s7 :: s8 :: s9 :: s10 :: s11 :: s12 :: .agg #[.int .i64 1, .int .i64 1, .bool false, .int .i64 5, .int .i64 4, .string ⟨#[65, 49]⟩, .string ⟨#[]⟩, .int .i64 2, .int .i64 400] :: .agg #[.int .i64 1, .int .i64 1, .bool false, .int .i64 5, .int .i64 4, .string ⟨#[65, 49]⟩, .string ⟨#[]⟩, .int .i64 2, .int .i64 400] :: .agg #[.int .i64 1, .int .i64 1, .bool true, .int .i64 0, .int .i64 0, .string ⟨#[]⟩, .string ⟨#[]⟩, .int .i64 0, .int .i64 0] :: s16 :: s17 :: s18 :: s19 :: s20 :: s21 :: s22 :: s23 :: s24 :: s25 :: s26 :: s27 :: s28 :: s29 :: s30 :: s31 :: s32 :: s33 :: s34 :: s35 :: s36 :: s37 :: s38 :: s39 :: s40 :: s41 :: s42 :: s43 :: s44 :: s45 :: s46 :: s47 :: s48 :: s49 :: s50 :: s51 :: s52 :: s53 :: s54 :: s55 :: s56 :: s57 :: s58 :: s59 :: s60 :: s61 :: s62 :: s63 :: s64 :: s65 :: s66 :: s67 :: s68 :: s69 :: s70 :: s71 :: s72 :: s73 :: s74 :: s75 :: s76 :: s77 :: s78 :: s79 :: s80 :: s81 :: s82 :: s83 :: s84 :: s85 :: s86 :: s87 :: s88 :: s89 :: s90 :: s91 :: s92 :: s93 :: []), []⟩ wx) :
    (regionOf Tryz.f5 4).wp Tryz.prog Q ⟨List.toArray (s0 :: .pointer (some ⟨g1, 0, none⟩) :: s2 :: .pointer (some ⟨g3, 0, none⟩) :: s4 :: s5 :: s6 :: s7 :: s8 :: s9 :: s10 :: s11 :: s12 :: s13 :: s14 :: s15 :: s16 :: s17 :: s18 :: s19 :: s20 :: s21 :: s22 :: s23 :: s24 :: s25 :: s26 :: s27 :: s28 :: s29 :: s30 :: s31 :: s32 :: s33 :: s34 :: s35 :: s36 :: s37 :: s38 :: s39 :: s40 :: s41 :: s42 :: s43 :: s44 :: s45 :: s46 :: s47 :: s48 :: s49 :: s50 :: s51 :: s52 :: s53 :: s54 :: s55 :: s56 :: s57 :: s58 :: s59 :: s60 :: s61 :: s62 :: s63 :: s64 :: s65 :: s66 :: s67 :: s68 :: s69 :: s70 :: s71 :: s72 :: s73 :: s74 :: s75 :: s76 :: s77 :: s78 :: s79 :: s80 :: s81 :: s82 :: s83 :: s84 :: s85 :: s86 :: s87 :: s88 :: s89 :: s90 :: s91 :: s92 :: s93 :: []), []⟩ W := by
  refine of_onlyN (K := Q .normal) ?_ (fun _ _ h => h)
  generalize Q .normal = K at hQ ⊢
  have HQ := Lib.hid hQ; clear hQ
  conv => arg 2; whnf
  have keep : ∀ w', RowKit.Below W.heap.size W w' → RowKit.Below W.heap.size W w' ∧ (∀ j, w'.cell? ⟨g1, j, none⟩ = (#[.int .i64 1, .int .i64 1, .bool false, .int .i64 5, .int .i64 4, .string ⟨#[65, 49]⟩, .string ⟨#[]⟩, .int .i64 2, .int .i64 400] : Array Value)[j]?) ∧ (∀ j, w'.cell? ⟨g3, j, none⟩ = (#[.int .i64 1, .int .i64 1, .bool true, .int .i64 0, .int .i64 0, .string ⟨#[]⟩, .string ⟨#[]⟩, .int .i64 0, .int .i64 0] : Array Value)[j]?) := fun w' hb => ⟨hb, old_keep h1.lt hb h1.cell, old_keep h3.lt hb h3.cell⟩
  refine wp_region_par (S := fun w' => RowKit.Below W.heap.size W w' ∧ (∀ j, w'.cell? ⟨g1, j, none⟩ = (#[.int .i64 1, .int .i64 1, .bool false, .int .i64 5, .int .i64 4, .string ⟨#[65, 49]⟩, .string ⟨#[]⟩, .int .i64 2, .int .i64 400] : Array Value)[j]?) ∧ (∀ j, w'.cell? ⟨g3, j, none⟩ = (#[.int .i64 1, .int .i64 1, .bool true, .int .i64 0, .int .i64 0, .string ⟨#[]⟩, .string ⟨#[]⟩, .int .i64 0, .int .i64 0] : Array Value)[j]?)) (I := fun L a w => ∃ v0 v1 v2 : Value, a = ⟨List.toArray (s0 :: .pointer (some ⟨g1, 0, none⟩) :: s2 :: .pointer (some ⟨g3, 0, none⟩) :: v0 :: v1 :: v2 :: s7 :: s8 :: s9 :: s10 :: s11 :: s12 :: .agg #[.int .i64 1, .int .i64 1, .bool false, .int .i64 5, .int .i64 4, .string ⟨#[65, 49]⟩, .string ⟨#[]⟩, .int .i64 2, .int .i64 400] :: .agg #[.int .i64 1, .int .i64 1, .bool false, .int .i64 5, .int .i64 4, .string ⟨#[65, 49]⟩, .string ⟨#[]⟩, .int .i64 2, .int .i64 400] :: .agg #[.int .i64 1, .int .i64 1, .bool true, .int .i64 0, .int .i64 0, .string ⟨#[]⟩, .string ⟨#[]⟩, .int .i64 0, .int .i64 0] :: s16 :: s17 :: s18 :: s19 :: s20 :: s21 :: s22 :: s23 :: s24 :: s25 :: s26 :: s27 :: s28 :: s29 :: s30 :: s31 :: s32 :: s33 :: s34 :: s35 :: s36 :: s37 :: s38 :: s39 :: s40 :: s41 :: s42 :: s43 :: s44 :: s45 :: s46 :: s47 :: s48 :: s49 :: s50 :: s51 :: s52 :: s53 :: s54 :: s55 :: s56 :: s57 :: s58 :: s59 :: s60 :: s61 :: s62 :: s63 :: s64 :: s65 :: s66 :: s67 :: s68 :: s69 :: s70 :: s71 :: s72 :: s73 :: s74 :: s75 :: s76 :: s77 :: s78 :: s79 :: s80 :: s81 :: s82 :: s83 :: s84 :: s85 :: s86 :: s87 :: s88 :: s89 :: s90 :: s91 :: s92 :: s93 :: []), []⟩ ∧ RowKit.Below W.heap.size W w ∧ VBox W (L.getD 3 false) (L.getD 6 false) v0 ⟨1, 1, false, 5, 4, ⟨#[65, 49]⟩, ⟨#[]⟩, 2, 400⟩ w ∧ VBox W (L.getD 4 false) (L.getD 7 false) v1 ⟨1, 1, false, 5, 4, ⟨#[65, 49]⟩, ⟨#[]⟩, 2, 400⟩ w ∧ VBox W (L.getD 5 false) (L.getD 8 false) v2 ⟨1, 1, true, 0, 0, ⟨#[]⟩, ⟨#[]⟩, 0, 0⟩ w ∧ (L.getD 3 false = true → L.getD 4 false = true → v0 ≠ v1) ∧ (L.getD 3 false = true → L.getD 5 false = true → v0 ≠ v2) ∧ (L.getD 4 false = true → L.getD 5 false = true → v1 ≠ v2)) (pre := fun i L => L.size == 9 && ((i == 3 && !L.getD 3 false && !L.getD 6 false) || (i == 4 && !L.getD 4 false && !L.getD 7 false) || (i == 5 && !L.getD 5 false && !L.getD 8 false) || (i == 6 && !L.getD 6 false && L.getD 3 false) || (i == 7 && !L.getD 7 false && L.getD 4 false) || (i == 8 && !L.getD 8 false && L.getD 5 false))) (fin := fun L => L.getD 3 false && L.getD 6 false && L.getD 4 false && L.getD 7 false && L.getD 5 false && L.getD 8 false) [0, 1, 2] 6 (by kernel_rfl) (by kernel_rfl) (by kernel_rfl) (by kernel_rfl) (by decide) (keep _ (Below.refl W.heap.size W).drew) ?_ ?_ ?_
  · intro i L a w hp hI
    obtain ⟨v0, v1, v2, rfl, hbw, hB0, hB1, hB2, hN01, hN02, hN12⟩ := hI
    simp only [Bool.and_eq_true, Bool.or_eq_true, Bool.not_eq_true', beq_iff_eq] at hp
    obtain ⟨hsz, hp⟩ := hp
    rcases hp with (((((⟨⟨rfl, hno⟩, hno2⟩ | ⟨⟨rfl, hno⟩, hno2⟩) | ⟨⟨rfl, hno⟩, hno2⟩) | ⟨⟨rfl, hno⟩, hal⟩) | ⟨⟨rfl, hno⟩, hal⟩) | ⟨⟨rfl, hno⟩, hal⟩)
    · have g3 : (L.setIfInBounds 3 true).getD 3 false = true := by rw [up_set, if_pos ⟨rfl, by omega⟩]
      have g6 : (L.setIfInBounds 3 true).getD 6 false = L.getD 6 false := by rw [up_set, if_neg (by omega)]
      have g4 : (L.setIfInBounds 3 true).getD 4 false = L.getD 4 false := by rw [up_set, if_neg (by omega)]
      have g7 : (L.setIfInBounds 3 true).getD 7 false = L.getD 7 false := by rw [up_set, if_neg (by omega)]
      have g5 : (L.setIfInBounds 3 true).getD 5 false = L.getD 5 false := by rw [up_set, if_neg (by omega)]
      have g8 : (L.setIfInBounds 3 true).getD 8 false = L.getD 8 false := by rw [up_set, if_neg (by omega)]
      have hb := below_alloc1 w (.cells zeroCells 46)
      have hbn := below_next hbw hb
      refine par_run ⟨some 4, _, _, _, _, _⟩ (.pointer (some ⟨w.heap.size, 0, none⟩)) (w.alloc (.cells zeroCells 46)) rfl (by rfl) (by simp only [zeroCells]; go_simp) ?_
      exact ⟨keep _ hbn, (.pointer (some ⟨w.heap.size, 0, none⟩)), v1, v2, by simp only [Act.put, List.setIfInBounds_toArray, List.set_cons_zero, List.set_cons_succ], hbn, by rw [g3, g6, hno2]; exact VBox.new _ hbw.size, by rw [g4, g7]; exact hB1.below hb, by rw [g5, g8]; exact hB2.below hb, by rw [g4]; exact fun _ e => (hB1.ne e).symm, by rw [g5]; exact fun _ e => (hB2.ne e).symm, by rw [g4, g5]; exact hN12⟩
    · have g3 : (L.setIfInBounds 4 true).getD 3 false = L.getD 3 false := by rw [up_set, if_neg (by omega)]
      have g6 : (L.setIfInBounds 4 true).getD 6 false = L.getD 6 false := by rw [up_set, if_neg (by omega)]
      have g4 : (L.setIfInBounds 4 true).getD 4 false = true := by rw [up_set, if_pos ⟨rfl, by omega⟩]
      have g7 : (L.setIfInBounds 4 true).getD 7 false = L.getD 7 false := by rw [up_set, if_neg (by omega)]
      have g5 : (L.setIfInBounds 4 true).getD 5 false = L.getD 5 false := by rw [up_set, if_neg (by omega)]
      have g8 : (L.setIfInBounds 4 true).getD 8 false = L.getD 8 false := by rw [up_set, if_neg (by omega)]
      have hb := below_alloc1 w (.cells zeroCells 46)
      have hbn := below_next hbw hb
      refine par_run ⟨some 5, _, _, _, _, _⟩ (.pointer (some ⟨w.heap.size, 0, none⟩)) (w.alloc (.cells zeroCells 46)) rfl (by rfl) (by simp only [zeroCells]; go_simp) ?_
      exact ⟨keep _ hbn, v0, (.pointer (some ⟨w.heap.size, 0, none⟩)), v2, by simp only [Act.put, List.setIfInBounds_toArray, List.set_cons_zero, List.set_cons_succ], hbn, by rw [g3, g6]; exact hB0.below hb, by rw [g4, g7, hno2]; exact VBox.new _ hbw.size, by rw [g5, g8]; exact hB2.below hb, by rw [g3]; exact fun e _ => hB0.ne e, by rw [g3, g5]; exact hN02, by rw [g5]; exact fun _ e => (hB2.ne e).symm⟩
    · have g3 : (L.setIfInBounds 5 true).getD 3 false = L.getD 3 false := by rw [up_set, if_neg (by omega)]
      have g6 : (L.setIfInBounds 5 true).getD 6 false = L.getD 6 false := by rw [up_set, if_neg (by omega)]
      have g4 : (L.setIfInBounds 5 true).getD 4 false = L.getD 4 false := by rw [up_set, if_neg (by omega)]
      have g7 : (L.setIfInBounds 5 true).getD 7 false = L.getD 7 false := by rw [up_set, if_neg (by omega)]
      have g5 : (L.setIfInBounds 5 true).getD 5 false = true := by rw [up_set, if_pos ⟨rfl, by omega⟩]
      have g8 : (L.setIfInBounds 5 true).getD 8 false = L.getD 8 false := by rw [up_set, if_neg (by omega)]
      have hb := below_alloc1 w (.cells zeroCells 46)
      have hbn := below_next hbw hb
      refine par_run ⟨some 6, _, _, _, _, _⟩ (.pointer (some ⟨w.heap.size, 0, none⟩)) (w.alloc (.cells zeroCells 46)) rfl (by rfl) (by simp only [zeroCells]; go_simp) ?_
      exact ⟨keep _ hbn, v0, v1, (.pointer (some ⟨w.heap.size, 0, none⟩)), by simp only [Act.put, List.setIfInBounds_toArray, List.set_cons_zero, List.set_cons_succ], hbn, by rw [g3, g6]; exact hB0.below hb, by rw [g4, g7]; exact hB1.below hb, by rw [g5, g8, hno2]; exact VBox.new _ hbw.size, by rw [g3, g4]; exact hN01, by rw [g3]; exact fun e _ => hB0.ne e, by rw [g4]; exact fun e _ => hB1.ne e⟩
    · have g3 : (L.setIfInBounds 6 true).getD 3 false = L.getD 3 false := by rw [up_set, if_neg (by omega)]
      have g6 : (L.setIfInBounds 6 true).getD 6 false = true := by rw [up_set, if_pos ⟨rfl, by omega⟩]
      have g4 : (L.setIfInBounds 6 true).getD 4 false = L.getD 4 false := by rw [up_set, if_neg (by omega)]
      have g7 : (L.setIfInBounds 6 true).getD 7 false = L.getD 7 false := by rw [up_set, if_neg (by omega)]
      have g5 : (L.setIfInBounds 6 true).getD 5 false = L.getD 5 false := by rw [up_set, if_neg (by omega)]
      have g8 : (L.setIfInBounds 6 true).getD 8 false = L.getD 8 false := by rw [up_set, if_neg (by omega)]
      obtain ⟨b, rfl, hBb, hh⟩ := hB0 hal
      have hbn : RowKit.Below W.heap.size W (w.setRow b (Req.cells ⟨1, 1, false, 5, 4, ⟨#[65, 49]⟩, ⟨#[]⟩, 2, 400⟩)) := below_setRow hbw hBb _
      refine par_store ⟨none, _, _, _, _, _⟩ (w.setRow b (Req.cells ⟨1, 1, false, 5, 4, ⟨#[65, 49]⟩, ⟨#[]⟩, 2, 400⟩)) rfl (by rfl) ⟨keep _ hbn, (.pointer (some ⟨b, 0, none⟩)), v1, v2, rfl, hbn, by rw [g3, g6, hal]; exact VBox.set hBb hh, by rw [g4, g7]; exact hB1.far (fun e h => hN01 hal e h.symm) _, by rw [g5, g8]; exact hB2.far (fun e h => hN02 hal e h.symm) _, by rw [g3, g4]; exact hN01, by rw [g3, g5]; exact hN02, by rw [g4, g5]; exact hN12⟩ (fun K' hk => ?_)
      exact wp_store_row 46 (.tmp 4) (.tmp 13) (by rfl) b (Req.cells ⟨1, 1, false, 5, 4, ⟨#[65, 49]⟩, ⟨#[]⟩, 2, 400⟩) (by rfl) (by rfl) 46 _ hh (by kernel_rfl) (by split <;> rfl) (by kernel_rfl) hk
    · have g3 : (L.setIfInBounds 7 true).getD 3 false = L.getD 3 false := by rw [up_set, if_neg (by omega)]
      have g6 : (L.setIfInBounds 7 true).getD 6 false = L.getD 6 false := by rw [up_set, if_neg (by omega)]
      have g4 : (L.setIfInBounds 7 true).getD 4 false = L.getD 4 false := by rw [up_set, if_neg (by omega)]
      have g7 : (L.setIfInBounds 7 true).getD 7 false = true := by rw [up_set, if_pos ⟨rfl, by omega⟩]
      have g5 : (L.setIfInBounds 7 true).getD 5 false = L.getD 5 false := by rw [up_set, if_neg (by omega)]
      have g8 : (L.setIfInBounds 7 true).getD 8 false = L.getD 8 false := by rw [up_set, if_neg (by omega)]
      obtain ⟨b, rfl, hBb, hh⟩ := hB1 hal
      have hbn : RowKit.Below W.heap.size W (w.setRow b (Req.cells ⟨1, 1, false, 5, 4, ⟨#[65, 49]⟩, ⟨#[]⟩, 2, 400⟩)) := below_setRow hbw hBb _
      refine par_store ⟨none, _, _, _, _, _⟩ (w.setRow b (Req.cells ⟨1, 1, false, 5, 4, ⟨#[65, 49]⟩, ⟨#[]⟩, 2, 400⟩)) rfl (by rfl) ⟨keep _ hbn, v0, (.pointer (some ⟨b, 0, none⟩)), v2, rfl, hbn, by rw [g3, g6]; exact hB0.far (fun e => hN01 e hal) _, by rw [g4, g7, hal]; exact VBox.set hBb hh, by rw [g5, g8]; exact hB2.far (fun e h => hN12 hal e h.symm) _, by rw [g3, g4]; exact hN01, by rw [g3, g5]; exact hN02, by rw [g4, g5]; exact hN12⟩ (fun K' hk => ?_)
      exact wp_store_row 46 (.tmp 5) (.tmp 14) (by rfl) b (Req.cells ⟨1, 1, false, 5, 4, ⟨#[65, 49]⟩, ⟨#[]⟩, 2, 400⟩) (by rfl) (by rfl) 46 _ hh (by kernel_rfl) (by split <;> rfl) (by kernel_rfl) hk
    · have g3 : (L.setIfInBounds 8 true).getD 3 false = L.getD 3 false := by rw [up_set, if_neg (by omega)]
      have g6 : (L.setIfInBounds 8 true).getD 6 false = L.getD 6 false := by rw [up_set, if_neg (by omega)]
      have g4 : (L.setIfInBounds 8 true).getD 4 false = L.getD 4 false := by rw [up_set, if_neg (by omega)]
      have g7 : (L.setIfInBounds 8 true).getD 7 false = L.getD 7 false := by rw [up_set, if_neg (by omega)]
      have g5 : (L.setIfInBounds 8 true).getD 5 false = L.getD 5 false := by rw [up_set, if_neg (by omega)]
      have g8 : (L.setIfInBounds 8 true).getD 8 false = true := by rw [up_set, if_pos ⟨rfl, by omega⟩]
      obtain ⟨b, rfl, hBb, hh⟩ := hB2 hal
      have hbn : RowKit.Below W.heap.size W (w.setRow b (Req.cells ⟨1, 1, true, 0, 0, ⟨#[]⟩, ⟨#[]⟩, 0, 0⟩)) := below_setRow hbw hBb _
      refine par_store ⟨none, _, _, _, _, _⟩ (w.setRow b (Req.cells ⟨1, 1, true, 0, 0, ⟨#[]⟩, ⟨#[]⟩, 0, 0⟩)) rfl (by rfl) ⟨keep _ hbn, v0, v1, (.pointer (some ⟨b, 0, none⟩)), rfl, hbn, by rw [g3, g6]; exact hB0.far (fun e => hN02 e hal) _, by rw [g4, g7]; exact hB1.far (fun e => hN12 e hal) _, by rw [g5, g8, hal]; exact VBox.set hBb hh, by rw [g3, g4]; exact hN01, by rw [g3, g5]; exact hN02, by rw [g4, g5]; exact hN12⟩ (fun K' hk => ?_)
      exact wp_store_row 46 (.tmp 6) (.tmp 15) (by rfl) b (Req.cells ⟨1, 1, true, 0, 0, ⟨#[]⟩, ⟨#[]⟩, 0, 0⟩) (by rfl) (by rfl) 46 _ hh (by kernel_rfl) (by split <;> rfl) (by kernel_rfl) hk
  · intro L a w hp hI
    obtain ⟨v0, v1, v2, rfl, hbw, hB0, hB1, hB2, hN01, hN02, hN12⟩ := hI
    simp only [Bool.and_eq_true] at hp
    obtain ⟨⟨⟨⟨⟨p3, p6⟩, p4⟩, p7⟩, p5⟩, p8⟩ := hp
    have n01 := hN01 p3 p4
    have n02 := hN02 p3 p5
    have n12 := hN12 p4 p5
    obtain ⟨b0, rfl, hB0, x0⟩ := hB0 p3
    obtain ⟨b1, rfl, hB1, x1⟩ := hB1 p4
    obtain ⟨b2, rfl, hB2, x2⟩ := hB2 p5
    rw [p6, if_pos rfl] at x0
    rw [p7, if_pos rfl] at x1
    rw [p8, if_pos rfl] at x2
    exact HQ.out b0 b1 b2 w (fun e => n01 (by rw [e])) (fun e => n02 (by rw [e])) (fun e => n12 (by rw [e])) hbw hB0 hB1 hB2 x0 x1 x2
  · refine par_take ⟨some 13, _, _, _, _, _⟩ ?_ rfl (by rfl) ?_ ?_
    rotate_left 1
    · intro w hSw; (try dsimp only at hSw); go_simp; (try with_reducible rfl)
    simp only [Act.put, List.setIfInBounds_toArray, List.set_cons_zero, List.set_cons_succ]
    refine par_take ⟨some 14, _, _, _, _, _⟩ ?_ rfl (by rfl) ?_ ?_
    rotate_left 1
    · intro w hSw; (try dsimp only at hSw); go_simp; (try with_reducible rfl)
    simp only [Act.put, List.setIfInBounds_toArray, List.set_cons_zero, List.set_cons_succ]
    refine par_take ⟨some 15, _, _, _, _, _⟩ ?_ rfl (by rfl) ?_ ?_
    rotate_left 1
    · intro w hSw; (try dsimp only at hSw); go_simp; (try with_reducible rfl)
    simp only [Act.put, List.setIfInBounds_toArray, List.set_cons_zero, List.set_cons_succ]
    exact ⟨_, _, _, rfl, (Below.refl W.heap.size W).drew, fun e => absurd e (by decide +kernel), fun e => absurd e (by decide +kernel), fun e => absurd e (by decide +kernel), fun e => absurd e (by decide +kernel), fun e => absurd e (by decide +kernel), fun e => absurd e (by decide +kernel)⟩
end Go.Proofs.YtanmmooflhomoaaGreatDoor
