/- A region that draws its order, where calls and allocs come up in any order: an invariant over what has come up, shown at each operation once. -/
import Derived.Test.YteopjiedjnaeiaaGreatDgaa
import Derived.Sort.Grow
import Derived.Deep.Draws
/- request.truth, the numbers of a request that compare asks for, cmp.Or: each walked once. -/
namespace Go.Proofs.YteopjiedjnaeiaaGreat
open Go Go.RowKit Go.Sort Go.Lib
attribute [local go_sem] Req.cells

/-- Draws, and blocks laid behind. -/
def Grows (w w' : World) : Prop := ∃ q os, w' = Go.Sort.grow (w.drewN q) os
theorem Grows.refl (w : World) : Grows w w := ⟨0, #[], by simp [Go.Sort.grow, World.drewN]⟩
theorem Grows.al (w : World) (o : Obj) : Grows w (w.alloc o) := ⟨0, #[o], by rw [Go.Sort.alloc_eq_grow]; rfl⟩
theorem Grows.trans {a b c : World} (h : Grows a b) (k : Grows b c) : Grows a c := by
  obtain ⟨q, os, rfl⟩ := h
  obtain ⟨r, os', rfl⟩ := k
  exact ⟨q + r, os ++ os', by simp [Go.Sort.grow, World.drewN, Nat.add_assoc, Array.append_assoc]⟩
theorem Grows.drew {a b : World} (h : Grows a b) : Grows a b.drew := h.trans ⟨1, #[], by rw [Go.Sort.grow_empty]; rfl⟩
theorem Grows.toB {a b : World} (h : Grows a b) : RowKit.Below a.heap.size a b := by
  obtain ⟨q, os, rfl⟩ := h
  exact ⟨rfl, rfl, rfl, by simp [Go.Sort.grow, World.drewN], fun k hk => by simp [Go.Sort.grow, World.drewN, Array.getElem?_append, hk]⟩
def truthN (b : Bool) : Int := if b = true then 1 else 0
theorem truth_any (b : Bool) (w : World) : Calls Tryz.prog 82 #[.bool b] w fun x w' => x = .returned (.int .i64 (truthN b)) ∧ w = w' := by
  cases b <;>
  · go_enter Tryz.func82, Tryz.ntmps82
    go_wp2_with fail
    go_ret
    exact ⟨rfl, rfl⟩
theorem num1_any (r : Req) (w : World) : Calls Tryz.prog 79 #[r.val] w fun x w' => x = .returned (.int .i64 r.server) ∧ Grows w w' := by
  go_enter Tryz.func79, Tryz.ntmps79
  go_wp2_with fail
  go_ret
  exact ⟨rfl, Grows.al _ _⟩
theorem num2_any (r : Req) (w : World) : Calls Tryz.prog 80 #[r.val] w fun x w' => x = .returned (.int .i64 r.seq) ∧ Grows w w' := by
  go_enter Tryz.func80, Tryz.ntmps80
  go_wp2_with fail
  go_ret
  exact ⟨rfl, Grows.al _ _⟩
theorem num3_any (r : Req) (w : World) : Calls Tryz.prog 81 #[r.val] w fun x w' => x = .returned (.int .i64 (truthN r.cancel)) ∧ Grows w w' := by
  go_enter Tryz.func81, Tryz.ntmps81
  go_wp2_with fail
  refine (truth_any r.cancel _).mono ?_
  rintro x w1 ⟨rfl, rfl⟩
  go_wp2_with fail
  go_ret
  exact ⟨rfl, Grows.al _ _⟩
theorem num4_any (r : Req) (w : World) : Calls Tryz.prog 83 #[r.val] w fun x w' => x = .returned (.int .i64 r.student) ∧ Grows w w' := by
  go_enter Tryz.func83, Tryz.ntmps83
  go_wp2_with fail
  go_ret
  exact ⟨rfl, Grows.al _ _⟩
theorem num5_any (r : Req) (w : World) : Calls Tryz.prog 84 #[r.val] w fun x w' => x = .returned (.int .i64 r.term) ∧ Grows w w' := by
  go_enter Tryz.func84, Tryz.ntmps84
  go_wp2_with fail
  go_ret
  exact ⟨rfl, Grows.al _ _⟩
/-- The first that is not 0. -/
def orL : List Int → Int
  | [] => 0
  | x :: l => if x = 0 then orL l else x
theorem orL_hit : ∀ (l : List Int) (k : Nat) (x : Int), (∀ j, j < k → l[j]? = some 0) → l[k]? = some x → x ≠ 0 → orL l = x
  | [], k, x, _, h, _ => by simp at h
  | a :: l, 0, x, _, h, hx => by simp at h; subst h; unfold orL; rw [if_neg hx]
  | a :: l, k + 1, x, h0, h, hx => by
    have ha := h0 0 (by omega)
    simp only [List.getElem?_cons_zero, Option.some.injEq] at ha
    unfold orL; rw [if_pos ha]
    exact orL_hit l k x (fun j hj => by have := h0 (j + 1) (by omega); simpa using this) (by simpa using h) hx
theorem orL_none : ∀ (l : List Int), (∀ j, j < l.length → l[j]? = some 0) → orL l = 0
  | [], _ => rfl
  | a :: l, h0 => by
    have ha := h0 0 (by simp)
    simp only [List.getElem?_cons_zero, Option.some.injEq] at ha
    unfold orL; rw [if_pos ha]
    exact orL_none l (fun j hj => by have := h0 (j + 1) (by simp; omega); simpa using this)
set_option maxRecDepth 100000 in
theorem orL_any (b : Nat) (l : List Int) (w : World) (hb : w.heap[b]? = some (.cells (l.map (Value.int .i64)).toArray 3 (0, 0))) (hl : l.length ≤ 1000) :
    Calls Tryz.prog 42 #[.slice (some ⟨b, 0, none⟩) l.length l.length] w fun x w' => x = .returned (.int .i64 (orL l)) ∧ w = w' := by
  have hC : ∀ k x, l[k]? = some x → w.cell? ⟨b, k, none⟩ = some (.int .i64 x) := fun k x h => by rw [Lib.cell_of_heap hb]; simp [h]
  have hH := orL_hit l
  have hN := orL_none l
  have hE : ∀ k, k < l.length → ∃ x, l[k]? = some x := fun k hk => ⟨_, List.getElem?_eq_getElem hk⟩
  generalize orL l = O at *
  generalize l.length = N at *
  have HC := Lib.hid hC
  have HH := Lib.hid hH
  have HN := Lib.hid hN
  have HE := Lib.hid hE
  clear hC hH hN hE hb
  go_enter Tryz.func42, Tryz.ntmps42
  go_wp2_with fail
  go_loopw [8] (fun i wr => ∃ k : Nat, k ≤ N ∧ Hid (∀ j, j < k → l[j]? = some 0) ∧ i = .int .i64 k ∧ wr = w) (fun i _ => N - (intOf i).toNat)
  case atStart => exact ⟨0, Nat.zero_le _, Lib.hid (by omega), rfl, rfl⟩
  case round =>
    obtain ⟨k, hk, hz, rfl, rfl⟩ := hrel
    by_cases hlt : k < N
    · obtain ⟨x, hx⟩ := HE.out k hlt
      have hc := HC.out k x hx
      by_cases h0 : x = 0
      · subst h0
        have hz2 : Hid (∀ j, j < k + 1 → l[j]? = some 0) := Lib.hid (fun j hj => by
          rcases Nat.lt_or_ge j k with h | h
          · exact hz.out j h
          · obtain rfl : j = k := by omega
            exact hx)
        clear hx
        go_wp2_with fail
        go_roundw
        case rel => exact ⟨k + 1, by omega, hz2, by go_num, by first | rfl | trivial⟩
        case measure => simp [intOf]; omega
      · have hO := HH.out k x hz.out hx h0
        have hne : (x != 0) = true := by simpa using h0
        clear hx h0
        go_wp2_with fail
        go_ret
        exact ⟨ret_int hO.symm, rfl⟩
    · obtain rfl : k = N := by omega
      have hO := HN.out hz.out
      go_wp2_with fail
      go_ret
      exact ⟨ret_int hO.symm, rfl⟩
end Go.Proofs.YteopjiedjnaeiaaGreat
/- request.Check and the reference's, date.Right and the reference's, Mod: each walked once. -/
namespace Go.Proofs.YteopjiedjnaeiaaGreat
open Go Go.RowKit Go.Sort Go.Lib
attribute [local go_sem] Req.cells
attribute [local go_sem ↓] req_eql_cells

def I64 (n : Int) : Prop := -9223372036854775808 ≤ n ∧ n ≤ 9223372036854775807
structure Req.Ok (e : Req) : Prop where
  server : I64 e.server
  seq : I64 e.seq
  student : I64 e.student
  term : I64 e.term
  priority : I64 e.priority
  day : I64 e.day
  code : e.code.size ≤ 100000
  give : e.give.size ≤ 100000
def rightB (d : Int) : Bool := decide (0 ≤ d) && decide (d ≤ 100000)
theorem right_any (d : Int) (w : World) : Calls Tryz.prog 56 #[.int .i64 d] w fun x w' => x = .returned (.bool (rightB d)) ∧ w = w' := by
  unfold rightB
  by_cases h : 0 ≤ d <;> by_cases h2 : d ≤ 100000 <;>
  · go_enter Tryz.func56, Tryz.ntmps56
    go_wp2_with fail
    go_ret
    exact ⟨ret_bool (by simp [h, h2]), rfl⟩
theorem refRight_any (d : Int) (w : World) : Calls Tryz.prog 63 #[.int .i64 d] w fun x w' => x = .returned (.bool (rightB d)) ∧ w = w' := by
  unfold rightB
  by_cases h : 0 ≤ d <;> by_cases h2 : d ≤ 100000 <;>
  · go_enter Tryz.func63, Tryz.ntmps63
    go_wp2_with fail
    go_ret
    exact ⟨ret_bool (by simp [h, h2]), rfl⟩
def bareR (r : Req) : Req := ⟨r.server, r.seq, true, 0, 0, ⟨#[]⟩, ⟨#[]⟩, 0, 0⟩
/-- What Check returns. -/
def chkR (r : Req) : Int :=
  if r.server < 1 then 1 else if 8 < r.server then 1 else if r.seq < 1 then 1
  else if eqReq r (bareR r) = true then 0 else if r.cancel = true then 20
  else if r.student < 1 then 1 else if 999999 < r.student then 1
  else if r.term < 0 then 3 else if 1000 < r.term then 3 else if r.priority < 0 then 3 else if 100 < r.priority then 3
  else if codeL r.code.data.toList = false then 12 else if r.give.toList ≠ [] ∧ codeL r.give.data.toList = false then 12
  else if (r.give.toList == r.code.toList) = true then 12 else if rightB r.day = false then 23 else 0
theorem chkR_eq (a b : Int) (cc : Bool) (d f : Int) (g k : ByteArray) (p q : Int) : chkR ⟨a, b, cc, d, f, g, k, p, q⟩ = (
  if a < 1 then 1 else if 8 < a then 1 else if b < 1 then 1
  else if eqReq ⟨a, b, cc, d, f, g, k, p, q⟩ ⟨a, b, true, 0, 0, ⟨#[]⟩, ⟨#[]⟩, 0, 0⟩ = true then 0 else if cc = true then 20
  else if d < 1 then 1 else if 999999 < d then 1
  else if f < 0 then 3 else if 1000 < f then 3 else if p < 0 then 3 else if 100 < p then 3
  else if codeL g.data.toList = false then 12 else if k.toList ≠ [] ∧ codeL k.data.toList = false then 12
  else if (k.toList == g.toList) = true then 12 else if rightB q = false then 23 else 0) := rfl
theorem code_full {g : ByteArray} (h : codeL g.data.toList = true) : g.toList.isEmpty = false := by
  unfold codeL at h
  simp only [Bool.and_eq_true, decide_eq_true_eq] at h
  rw [ByteArray.toList_eq]
  cases hg : g.data.toList with
  | nil => rw [hg] at h; simp at h
  | cons => rfl
theorem below_new (w : World) (o : Obj) : RowKit.Below w.heap.size w (w.alloc o) := (Below.refl _ _).alloc (Nat.le_refl _) _
set_option maxHeartbeats 4000000 in
set_option maxRecDepth 100000 in
theorem rqCheck_any (r : Req) (hgs : r.code.size ≤ 9223372036854775807) (hks : r.give.size ≤ 9223372036854775807) (w : World) :
    Calls Tryz.prog 41 #[r.val] w fun x w' => x = .returned (.int .i64 (chkR r)) ∧ RowKit.Below w.heap.size w w' := by
  obtain ⟨a, b, cc, d, f, g, k, p, q⟩ := r
  have HC := Lib.hid (chkR_eq a b cc d f g k p q)
  generalize chkR ⟨a, b, cc, d, f, g, k, p, q⟩ = R at HC ⊢
  simp only at hgs hks
  have hb0 := below_new w (.cells #[.int .i64 a, .int .i64 b, .bool cc, .int .i64 d, .int .i64 f, .string g, .string k, .int .i64 p, .int .i64 q] 39)
  have hb1 : RowKit.Below w.heap.size w ((w.alloc (.cells #[.int .i64 a, .int .i64 b, .bool cc, .int .i64 d, .int .i64 f, .string g, .string k, .int .i64 p, .int .i64 q] 39)).alloc (.cells #[.int .i64 a, .int .i64 b, .bool true, .int .i64 0, .int .i64 0, .string ⟨#[]⟩, .string ⟨#[]⟩, .int .i64 0, .int .i64 0] 39)) := hb0.trans ((below_new (w.alloc (.cells #[.int .i64 a, .int .i64 b, .bool cc, .int .i64 d, .int .i64 f, .string g, .string k, .int .i64 p, .int .i64 q] 39)) (.cells #[.int .i64 a, .int .i64 b, .bool true, .int .i64 0, .int .i64 0, .string ⟨#[]⟩, .string ⟨#[]⟩, .int .i64 0, .int .i64 0] 39)).mono hb0.size)
  by_cases h0 : a < 1
  · replace HC := Lib.hid (HC.out.trans (if_pos h0))
    go_enter Tryz.func41, Tryz.ntmps41
    go_wp2_with fail
    go_ret
    exact ⟨ret_int HC.out.symm, hb1⟩
  replace HC := Lib.hid (HC.out.trans (if_neg h0))
  by_cases h1 : 8 < a
  · replace HC := Lib.hid (HC.out.trans (if_pos h1))
    go_enter Tryz.func41, Tryz.ntmps41
    go_wp2_with fail
    go_ret
    exact ⟨ret_int HC.out.symm, hb1⟩
  replace HC := Lib.hid (HC.out.trans (if_neg h1))
  by_cases h2 : b < 1
  · replace HC := Lib.hid (HC.out.trans (if_pos h2))
    go_enter Tryz.func41, Tryz.ntmps41
    go_wp2_with fail
    go_ret
    exact ⟨ret_int HC.out.symm, hb1⟩
  replace HC := Lib.hid (HC.out.trans (if_neg h2))
  by_cases h3 : eqReq ⟨a, b, cc, d, f, g, k, p, q⟩ ⟨a, b, true, 0, 0, ⟨#[]⟩, ⟨#[]⟩, 0, 0⟩ = true
  · replace HC := Lib.hid (HC.out.trans (if_pos h3))
    go_enter Tryz.func41, Tryz.ntmps41
    go_wp2_with fail
    go_ret
    exact ⟨ret_int HC.out.symm, hb1⟩
  replace HC := Lib.hid (HC.out.trans (if_neg h3))
  simp only [Bool.not_eq_true] at h3
  by_cases h4 : cc = true
  · replace HC := Lib.hid (HC.out.trans (if_pos h4))
    subst h4
    go_enter Tryz.func41, Tryz.ntmps41
    go_wp2_with fail
    go_ret
    exact ⟨ret_int HC.out.symm, hb1⟩
  replace HC := Lib.hid (HC.out.trans (if_neg h4))
  simp only [Bool.not_eq_true] at h4
  subst h4
  by_cases h5 : d < 1
  · replace HC := Lib.hid (HC.out.trans (if_pos h5))
    go_enter Tryz.func41, Tryz.ntmps41
    go_wp2_with fail
    go_ret
    exact ⟨ret_int HC.out.symm, hb1⟩
  replace HC := Lib.hid (HC.out.trans (if_neg h5))
  by_cases h6 : 999999 < d
  · replace HC := Lib.hid (HC.out.trans (if_pos h6))
    go_enter Tryz.func41, Tryz.ntmps41
    go_wp2_with fail
    go_ret
    exact ⟨ret_int HC.out.symm, hb1⟩
  replace HC := Lib.hid (HC.out.trans (if_neg h6))
  by_cases h7 : f < 0
  · replace HC := Lib.hid (HC.out.trans (if_pos h7))
    go_enter Tryz.func41, Tryz.ntmps41
    go_wp2_with fail
    go_ret
    exact ⟨ret_int HC.out.symm, hb1⟩
  replace HC := Lib.hid (HC.out.trans (if_neg h7))
  by_cases h8 : 1000 < f
  · replace HC := Lib.hid (HC.out.trans (if_pos h8))
    go_enter Tryz.func41, Tryz.ntmps41
    go_wp2_with fail
    go_ret
    exact ⟨ret_int HC.out.symm, hb1⟩
  replace HC := Lib.hid (HC.out.trans (if_neg h8))
  by_cases h9 : p < 0
  · replace HC := Lib.hid (HC.out.trans (if_pos h9))
    go_enter Tryz.func41, Tryz.ntmps41
    go_wp2_with fail
    go_ret
    exact ⟨ret_int HC.out.symm, hb1⟩
  replace HC := Lib.hid (HC.out.trans (if_neg h9))
  by_cases h10 : 100 < p
  · replace HC := Lib.hid (HC.out.trans (if_pos h10))
    go_enter Tryz.func41, Tryz.ntmps41
    go_wp2_with fail
    go_ret
    exact ⟨ret_int HC.out.symm, hb1⟩
  replace HC := Lib.hid (HC.out.trans (if_neg h10))
  have c1 := fun w => code_any g w hgs
  have c2 := fun w => code_any k w hks
  have c3 := fun w => right_any q w
  have hbx : ReqBox ((w.alloc (.cells #[.int .i64 a, .int .i64 b, .bool false, .int .i64 d, .int .i64 f, .string g, .string k, .int .i64 p, .int .i64 q] 39)).alloc (.cells #[.int .i64 a, .int .i64 b, .bool true, .int .i64 0, .int .i64 0, .string ⟨#[]⟩, .string ⟨#[]⟩, .int .i64 0, .int .i64 0] 39)) w.heap.size ⟨a, b, false, d, f, g, k, p, q⟩ := (ReqBox.new w ⟨a, b, false, d, f, g, k, p, q⟩).below (below_new _ _)
  by_cases h11 : codeL g.data.toList = false
  · replace HC := Lib.hid (HC.out.trans (if_pos h11))
    simp only [h11] at c1
    go_enter Tryz.func41, Tryz.ntmps41
    go_wp2_with fail
    refine (c1 _).mono ?_
    rintro x w11 ⟨rfl, hb11⟩
    have hB := hb1.trans (hb11.mono hb1.size)
    have hbx1 := hbx.below hb11
    have e5 := hbx1.cell 5
    have e6 := hbx1.cell 6
    have e8 := hbx1.cell 8
    clear hbx hb11 hb0
    go_wp2_with fail
    go_ret
    exact ⟨ret_int HC.out.symm, hB⟩
  replace HC := Lib.hid (HC.out.trans (if_neg h11))
  simp only [Bool.not_eq_false] at h11
  simp only [h11] at c1
  by_cases h12 : k.toList ≠ [] ∧ codeL k.data.toList = false
  · replace HC := Lib.hid (HC.out.trans (if_pos h12))
    obtain ⟨hk1, hk2⟩ := h12
    simp only [hk2] at c2
    have hk3 : (!k.toList.isEmpty) = true := by simpa using hk1
    go_enter Tryz.func41, Tryz.ntmps41
    go_wp2_with fail
    refine (c1 _).mono ?_
    rintro x w11 ⟨rfl, hb11⟩
    have hB := hb1.trans (hb11.mono hb1.size)
    have hbx1 := hbx.below hb11
    have e5 := hbx1.cell 5
    have e6 := hbx1.cell 6
    have e8 := hbx1.cell 8
    clear hbx hb11 hb0
    go_wp2_with fail
    refine (c2 _).mono ?_
    rintro x w12 ⟨rfl, hb12⟩
    replace hB := hB.trans (hb12.mono hB.size)
    have hbx2 := hbx1.below hb12
    clear e5 e6 e8
    have e5 := hbx2.cell 5
    have e6 := hbx2.cell 6
    have e8 := hbx2.cell 8
    clear hb12 hb1
    go_wp2_with fail
    go_ret
    exact ⟨ret_int HC.out.symm, hB⟩
  replace HC := Lib.hid (HC.out.trans (if_neg h12))
  by_cases hk1 : k.toList = []
  · have hk3 : (!k.toList.isEmpty) = false := by simp [hk1]
    clear h12
    have hge : g.toList.isEmpty = false := code_full h11
    have h13 : ¬ (k.toList == g.toList) = true := by rw [hk1]; intro h; rw [← beq_iff_eq.1 h] at hge; simp at hge
    replace HC := Lib.hid (HC.out.trans (if_neg h13))
    simp only [Bool.not_eq_true] at h13
    by_cases h14 : rightB q = false
    · replace HC := Lib.hid (HC.out.trans (if_pos h14))
      simp only [h14] at c3
      go_enter Tryz.func41, Tryz.ntmps41
      go_wp2_with fail
      refine (c1 _).mono ?_
      rintro x w11 ⟨rfl, hb11⟩
      have hB := hb1.trans (hb11.mono hb1.size)
      have hbx1 := hbx.below hb11
      have e5 := hbx1.cell 5
      have e6 := hbx1.cell 6
      have e8 := hbx1.cell 8
      clear hbx hb11 hb0
      go_wp2_with fail
      refine (c3 _).mono ?_
      rintro x w13 ⟨rfl, rfl⟩
      go_wp2_with fail
      go_ret
      exact ⟨ret_int HC.out.symm, hB⟩
    replace HC := Lib.hid (HC.out.trans (if_neg h14))
    simp only [Bool.not_eq_false] at h14
    simp only [h14] at c3
    go_enter Tryz.func41, Tryz.ntmps41
    go_wp2_with fail
    refine (c1 _).mono ?_
    rintro x w11 ⟨rfl, hb11⟩
    have hB := hb1.trans (hb11.mono hb1.size)
    have hbx1 := hbx.below hb11
    have e5 := hbx1.cell 5
    have e6 := hbx1.cell 6
    have e8 := hbx1.cell 8
    clear hbx hb11 hb0
    go_wp2_with fail
    refine (c3 _).mono ?_
    rintro x w13 ⟨rfl, rfl⟩
    go_wp2_with fail
    go_ret
    exact ⟨ret_int HC.out.symm, hB⟩
  · have hk2 : codeL k.data.toList = true := by simpa [hk1] using h12
    simp only [hk2] at c2
    have hk3 : (!k.toList.isEmpty) = true := by simpa using hk1
    clear h12
    by_cases h13 : (k.toList == g.toList) = true
    · replace HC := Lib.hid (HC.out.trans (if_pos h13))
      go_enter Tryz.func41, Tryz.ntmps41
      go_wp2_with fail
      refine (c1 _).mono ?_
      rintro x w11 ⟨rfl, hb11⟩
      have hB := hb1.trans (hb11.mono hb1.size)
      have hbx1 := hbx.below hb11
      have e5 := hbx1.cell 5
      have e6 := hbx1.cell 6
      have e8 := hbx1.cell 8
      clear hbx hb11 hb0
      go_wp2_with fail
      refine (c2 _).mono ?_
      rintro x w12 ⟨rfl, hb12⟩
      replace hB := hB.trans (hb12.mono hB.size)
      have hbx2 := hbx1.below hb12
      clear e5 e6 e8
      have e5 := hbx2.cell 5
      have e6 := hbx2.cell 6
      have e8 := hbx2.cell 8
      clear hb12 hb1
      go_wp2_with fail
      go_ret
      exact ⟨ret_int HC.out.symm, hB⟩
    replace HC := Lib.hid (HC.out.trans (if_neg h13))
    simp only [Bool.not_eq_true] at h13
    by_cases h14 : rightB q = false
    · replace HC := Lib.hid (HC.out.trans (if_pos h14))
      simp only [h14] at c3
      go_enter Tryz.func41, Tryz.ntmps41
      go_wp2_with fail
      refine (c1 _).mono ?_
      rintro x w11 ⟨rfl, hb11⟩
      have hB := hb1.trans (hb11.mono hb1.size)
      have hbx1 := hbx.below hb11
      have e5 := hbx1.cell 5
      have e6 := hbx1.cell 6
      have e8 := hbx1.cell 8
      clear hbx hb11 hb0
      go_wp2_with fail
      refine (c2 _).mono ?_
      rintro x w12 ⟨rfl, hb12⟩
      replace hB := hB.trans (hb12.mono hB.size)
      have hbx2 := hbx1.below hb12
      clear e5 e6 e8
      have e5 := hbx2.cell 5
      have e6 := hbx2.cell 6
      have e8 := hbx2.cell 8
      clear hb12 hb1
      go_wp2_with fail
      refine (c3 _).mono ?_
      rintro x w13 ⟨rfl, rfl⟩
      go_wp2_with fail
      go_ret
      exact ⟨ret_int HC.out.symm, hB⟩
    replace HC := Lib.hid (HC.out.trans (if_neg h14))
    simp only [Bool.not_eq_false] at h14
    simp only [h14] at c3
    go_enter Tryz.func41, Tryz.ntmps41
    go_wp2_with fail
    refine (c1 _).mono ?_
    rintro x w11 ⟨rfl, hb11⟩
    have hB := hb1.trans (hb11.mono hb1.size)
    have hbx1 := hbx.below hb11
    have e5 := hbx1.cell 5
    have e6 := hbx1.cell 6
    have e8 := hbx1.cell 8
    clear hbx hb11 hb0
    go_wp2_with fail
    refine (c2 _).mono ?_
    rintro x w12 ⟨rfl, hb12⟩
    replace hB := hB.trans (hb12.mono hB.size)
    have hbx2 := hbx1.below hb12
    clear e5 e6 e8
    have e5 := hbx2.cell 5
    have e6 := hbx2.cell 6
    have e8 := hbx2.cell 8
    clear hb12 hb1
    go_wp2_with fail
    refine (c3 _).mono ?_
    rintro x w13 ⟨rfl, rfl⟩
    go_wp2_with fail
    go_ret
    exact ⟨ret_int HC.out.symm, hB⟩
end Go.Proofs.YteopjiedjnaeiaaGreat
namespace Go.Proofs.YteopjiedjnaeiaaGreat
open Go

/-- Operations that may be taken first, one behind the other. -/
def takesOk (md : Region.Mode) (ops : Array Oper) : Array Bool → List Nat → Bool
  | _, [] => true
  | L, i :: σ => (Region.ready md ops L).contains i && Region.free md ops L i && takesOk md ops (L.setIfInBounds i true) σ
def wpTakes (P : Program) (ops : Array Oper) (S : World → Prop) : List Nat → Act → (Act → Prop) → Prop
  | [], a, K => K a
  | i :: σ, a, K => ∃ oi v, ops[i]? = some oi ∧ YieldsIf P ops S oi v a ∧ wpTakes P ops S σ (a.put oi.dst v) K
/-- What comes up behind one more operation. -/
def stepAll (md : Region.Mode) (ops : Array Oper) (Ls : List (Array Bool)) : List (Array Bool) := (Ls.flatMap fun L => (Region.ready md ops L).map fun i => L.setIfInBounds i true).eraseDups
def layOk (md : Region.Mode) (ops : Array Oper) (pre : Nat → Array Bool → Bool) (fin : Array Bool → Bool) : Nat → List (Array Bool) → Bool
  | 0, Ls => Ls.all fun L => (Region.ready md ops L).isEmpty && fin L
  | n + 1, Ls => (Ls.all fun L => !(Region.ready md ops L).isEmpty && (Region.ready md ops L).all fun i => pre i L) && layOk md ops pre fin n (stepAll md ops Ls)
section
variable {P : Program} {ops : Array Oper} {Q : Exit → Act → World → Prop} {md : Region.Mode} {S : World → Prop}
theorem takes_sound (hs : Region.noSelect ops = true) (hQ : ∀ d c v a w, Q (.panic c) (Act.put a d v) w → Q (.panic c) a w) :
    ∀ (σ : List Nat) (L : Array Bool) (fuel : Nat) (a : Act) (w : World), takesOk md ops L σ = true → S w → wpTakes P ops S σ a (fun a' => wpAnyH P md ops Q S fuel (σ.foldl (fun L i => L.setIfInBounds i true) L) a' w) → wpAnyH P md ops Q S (fuel + σ.length) L a w
  | [], _, _, _, _, _, _, h => h
  | i :: σ, L, fuel, a, w, hf, hS, h => by
    obtain ⟨oi, v, hi, hy, h⟩ := h
    simp only [takesOk, Bool.and_eq_true] at hf
    exact wpAnyH_take hi hs hf.1.2 hf.1.1 (fun c a w => hQ _ c v a w) hy hS (takes_sound hs hQ σ _ fuel _ w hf.2 hS h)
theorem lay_sound {I : Array Bool → Act → World → Prop} {pre : Nat → Array Bool → Bool} {fin : Array Bool → Bool}
    (hstep : ∀ i L a w, pre i L = true → I L a w → wpOp P ops Q i (fun a' w' => S w' ∧ I (L.setIfInBounds i true) a' w') a w) (hfin : ∀ L a w, fin L = true → I L a w → Q .normal a w) :
    ∀ (n : Nat) (Ls : List (Array Bool)) (L : Array Bool) (a : Act) (w : World), layOk md ops pre fin n Ls = true → L ∈ Ls → I L a w → wpAnyH P md ops Q S n L a w
  | 0, Ls, L, a, w, hok, hL, hI => by
    have h := List.all_eq_true.1 hok L hL
    simp only [Bool.and_eq_true, List.isEmpty_iff] at h
    exact ⟨h.1, hfin L a w h.2 hI⟩
  | n + 1, Ls, L, a, w, hok, hL, hI => by
    simp only [layOk, Bool.and_eq_true] at hok
    have h := List.all_eq_true.1 hok.1 L hL
    simp only [Bool.and_eq_true, Bool.not_eq_true', List.isEmpty_eq_false_iff, List.all_eq_true] at h
    refine ⟨fun h0 => absurd h0 h.1, fun i hi => wpOp_mono (fun a' w' h' => ⟨h'.1, lay_sound hstep hfin n _ _ a' w' hok.2 ?_ h'.2⟩) (hstep i L a w (h.2 i hi) hI)⟩
    exact List.mem_eraseDups.2 (List.mem_flatMap.2 ⟨L, hL, List.mem_map.2 ⟨i, hi, rfl⟩⟩)
/-- The region: what may be taken first, then an invariant over what has come up. -/
theorem wp_region_par {K : Act → World → Prop} {id : Nat} {a : Act} {w : World} (σ : List Nat) (n : Nat) {I : Array Bool → Act → World → Prop} {pre : Nat → Array Bool → Bool} {fin : Array Bool → Bool} (hm : P.follows .mixedOrders = true) (hs : Region.noSelect ops = true)
    (hf : takesOk .any ops (Array.replicate ops.size false) σ = true) (hl : layOk .any ops pre fin n [σ.foldl (fun L i => L.setIfInBounds i true) (Array.replicate ops.size false)] = true) (hn : n + σ.length = ops.size) (hS : S w.drew)
    (hstep : ∀ i L a w, pre i L = true → I L a w → wpOp P ops (OnlyN K) i (fun a' w' => S w' ∧ I (L.setIfInBounds i true) a' w') a w) (hfin : ∀ L a w, fin L = true → I L a w → K a w)
    (h : wpTakes P ops S σ a (fun a' => I (σ.foldl (fun L i => L.setIfInBounds i true) (Array.replicate ops.size false)) a' w.drew)) : (Code.region id ops true).wp P (OnlyN K) a w := by
  have go : ∀ (σ' : List Nat) (a : Act), wpTakes P ops S σ' a (fun a' => I (σ.foldl (fun L i => L.setIfInBounds i true) (Array.replicate ops.size false)) a' w.drew) → wpTakes P ops S σ' a (fun a' => wpAnyH P .any ops (OnlyN K) S n (σ.foldl (fun L i => L.setIfInBounds i true) (Array.replicate ops.size false)) a' w.drew) := by
    intro σ'
    induction σ' with
    | nil => intro a h; exact lay_sound hstep hfin n _ _ a w.drew hl (List.mem_singleton.2 rfl) h
    | cons i σ' ih => intro a ⟨oi, v, hi, hy, h⟩; exact ⟨oi, v, hi, hy, ih _ h⟩
  have key := takes_sound (S := S) (Q := OnlyN K) hs (fun _ _ _ _ _ h => h) σ (Array.replicate ops.size false) n a w.drew hf hS (go σ a h)
  rw [hn] at key
  exact wp_region_held (S := S) hm key
theorem par_take {i : Nat} {σ : List Nat} {a : Act} {K : Act → Prop} (oi : Oper) (v : Value) (hi : ops[i]? = some oi) (hw : Region.wanted oi (yielded ops a.tmps) = true) (hy : ∀ w, S w → (execOp a.eval oi).run P w = .ok (.value v) w)
    (h : wpTakes P ops S σ (a.put oi.dst v) K) : wpTakes P ops S (i :: σ) a K := ⟨oi, v, hi, .inl ⟨hw, hy⟩, h⟩
theorem par_op {i : Nat} {K : Act → World → Prop} {a : Act} {w : World} (oi : Oper) (hi : ops[i]? = some oi) (hw : Region.wanted oi (yielded ops a.tmps) = true) (h : oi.wp P a w K Q) : wpOp P ops Q i K a w := by
  unfold wpOp
  simp only [hi, hw, if_true]
  exact .inl h
theorem par_call {i : Nat} {K : Act → World → Prop} {a : Act} {w : World} (oi : Oper) (hi : ops[i]? = some oi) (hw : Region.wanted oi (yielded ops a.tmps) = true) (f : FuncId) (args : Array Operand) (tys : Array TypeId)
    (ho : oi.op = .call { callee := .value (.func f), args := args, argTypes := tys }) (vs : List Value) (hvs : args.toList.map a.eval = vs) (hc : ∀ xs w, (callFunc f xs).run P w = .ok (.enter f xs) w) {R : Ending → World → Prop} (h : Calls P f vs.toArray w R)
    (hK : ∀ e w', R e w' → ∃ v, e = .returned v ∧ K (a.put oi.dst v) w') : wpOp P ops Q i K a w :=
  par_op oi hi hw (wp_call f args tys ho vs hvs hc h hK)
theorem par_store {i : Nat} {K : Act → World → Prop} {a : Act} {w : World} (oi : Oper) (w' : World) (hi : ops[i]? = some oi) (hw : Region.wanted oi (yielded ops a.tmps) = true) (hk : K a w') (h : ∀ K' : Act → World → Prop, K' a w' → oi.wp P a w K' Q) : wpOp P ops Q i K a w :=
  par_op oi hi hw (h K hk)
theorem par_run {i : Nat} {K : Act → World → Prop} {a : Act} {w : World} (oi : Oper) (v : Value) (w' : World) (hi : ops[i]? = some oi) (hw : Region.wanted oi (yielded ops a.tmps) = true) (hr : (execOp a.eval oi).run P w = .ok (.value v) w') (h : K (a.put oi.dst v) w') : wpOp P ops Q i K a w :=
  par_op oi hi hw (by unfold Oper.wp; rw [hr, Oper.upon_value]; exact h)
end
/-- Has it come up? -/
theorem up_set (L : Array Bool) (i j : Nat) : (L.setIfInBounds i true).getD j false = if i = j ∧ i < L.size then true else L.getD j false := by
  simp only [Array.getD_eq_getD_getElem?, Array.getElem?_setIfInBounds]
  by_cases h : i = j
  · subst h
    by_cases h2 : i < L.size
    · simp [h2]
    · simp [h2]
  · simp [h]
end Go.Proofs.YteopjiedjnaeiaaGreat
