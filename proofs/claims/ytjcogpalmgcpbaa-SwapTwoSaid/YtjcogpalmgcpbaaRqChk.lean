/- request.Check and the reference's, date.Right and the reference's, Mod: each walked once. -/
import Derived.Test.YtjcogpalmgcpbaaReq
import Derived.Test.YtjcogpalmgcpbaaCode
namespace Go.Proofs.Ytjcogpalmgcpbaa
open Go Go.RowKit Go.Sort Go.Lib
attribute [local go_sem] Req.cells
attribute [local go_sem ↓] req_eql_cells

def I64 (n : Int) : Prop := -9223372036854775808 ≤ n ∧ n ≤ 9223372036854775807
structure Req.Ok (e : Req) : Prop where
  server : I64 e.server
  seq : I64 e.seq
  student : I64 e.student
  term : I64 e.term
  priority : I64 e.priority
  day : I64 e.day
  code : e.code.size ≤ 100000
  give : e.give.size ≤ 100000
def rightB (d : Int) : Bool := decide (0 ≤ d) && decide (d ≤ 100000)
theorem right_any (d : Int) (w : World) : Calls Try.prog 48 #[.int .i64 d] w fun x w' => x = .returned (.bool (rightB d)) ∧ w = w' := by
  unfold rightB
  by_cases h : 0 ≤ d <;> by_cases h2 : d ≤ 100000 <;>
  · go_enter Try.func48, Try.ntmps48
    go_wp2_with fail
    go_ret
    exact ⟨ret_bool (by simp [h, h2]), rfl⟩







def bareR (r : Req) : Req := ⟨r.server, r.seq, true, 0, 0, ⟨#[]⟩, ⟨#[]⟩, 0, 0⟩
/-- What Check returns. -/
def chkR (r : Req) : Int :=
  if r.server < 1 then 1 else if 8 < r.server then 1 else if r.seq < 1 then 1
  else if eqReq r (bareR r) = true then 0 else if r.cancel = true then 20
  else if r.student < 1 then 1 else if 999999 < r.student then 1
  else if r.term < 0 then 3 else if 1000 < r.term then 3 else if r.priority < 0 then 3 else if 100 < r.priority then 3
  else if codeL r.code.data.toList = false then 12 else if r.give.toList ≠ [] ∧ codeL r.give.data.toList = false then 12
  else if (r.give.toList == r.code.toList) = true then 12 else if rightB r.day = false then 23 else 0
theorem chkR_eq (a b : Int) (cc : Bool) (d f : Int) (g k : ByteArray) (p q : Int) : chkR ⟨a, b, cc, d, f, g, k, p, q⟩ = (
  if a < 1 then 1 else if 8 < a then 1 else if b < 1 then 1
  else if eqReq ⟨a, b, cc, d, f, g, k, p, q⟩ ⟨a, b, true, 0, 0, ⟨#[]⟩, ⟨#[]⟩, 0, 0⟩ = true then 0 else if cc = true then 20
  else if d < 1 then 1 else if 999999 < d then 1
  else if f < 0 then 3 else if 1000 < f then 3 else if p < 0 then 3 else if 100 < p then 3
  else if codeL g.data.toList = false then 12 else if k.toList ≠ [] ∧ codeL k.data.toList = false then 12
  else if (k.toList == g.toList) = true then 12 else if rightB q = false then 23 else 0) := rfl
theorem code_full {g : ByteArray} (h : codeL g.data.toList = true) : g.toList.isEmpty = false := by
  unfold codeL at h
  simp only [Bool.and_eq_true, decide_eq_true_eq] at h
  rw [ByteArray.toList_eq]
  cases hg : g.data.toList with
  | nil => rw [hg] at h; simp at h
  | cons => rfl
theorem below_new (w : World) (o : Obj) : RowKit.Below w.heap.size w (w.alloc o) := (Below.refl _ _).alloc (Nat.le_refl _) _
set_option maxHeartbeats 4000000 in
set_option maxRecDepth 100000 in
theorem rqCheck_any (r : Req) (hgs : r.code.size ≤ 1000000) (hks : r.give.size ≤ 1000000) (w : World) :
    Calls Try.prog 38 #[r.val] w fun x w' => x = .returned (.int .i64 (chkR r)) ∧ RowKit.Below w.heap.size w w' := by
  obtain ⟨a, b, cc, d, f, g, k, p, q⟩ := r
  have HC := Lib.hid (chkR_eq a b cc d f g k p q)
  generalize chkR ⟨a, b, cc, d, f, g, k, p, q⟩ = R at HC ⊢
  simp only at hgs hks
  have hb0 := below_new w (.cells #[.int .i64 a, .int .i64 b, .bool cc, .int .i64 d, .int .i64 f, .string g, .string k, .int .i64 p, .int .i64 q] 37)
  have hb1 : RowKit.Below w.heap.size w ((w.alloc (.cells #[.int .i64 a, .int .i64 b, .bool cc, .int .i64 d, .int .i64 f, .string g, .string k, .int .i64 p, .int .i64 q] 37)).alloc (.cells #[.int .i64 a, .int .i64 b, .bool true, .int .i64 0, .int .i64 0, .string ⟨#[]⟩, .string ⟨#[]⟩, .int .i64 0, .int .i64 0] 37)) := hb0.trans ((below_new (w.alloc (.cells #[.int .i64 a, .int .i64 b, .bool cc, .int .i64 d, .int .i64 f, .string g, .string k, .int .i64 p, .int .i64 q] 37)) (.cells #[.int .i64 a, .int .i64 b, .bool true, .int .i64 0, .int .i64 0, .string ⟨#[]⟩, .string ⟨#[]⟩, .int .i64 0, .int .i64 0] 37)).mono hb0.size)
  by_cases h0 : a < 1
  · replace HC := Lib.hid (HC.out.trans (if_pos h0))
    go_enter Try.func38, Try.ntmps38
    go_wp2_with fail
    go_ret
    exact ⟨ret_int HC.out.symm, hb1⟩
  replace HC := Lib.hid (HC.out.trans (if_neg h0))
  by_cases h1 : 8 < a
  · replace HC := Lib.hid (HC.out.trans (if_pos h1))
    go_enter Try.func38, Try.ntmps38
    go_wp2_with fail
    go_ret
    exact ⟨ret_int HC.out.symm, hb1⟩
  replace HC := Lib.hid (HC.out.trans (if_neg h1))
  by_cases h2 : b < 1
  · replace HC := Lib.hid (HC.out.trans (if_pos h2))
    go_enter Try.func38, Try.ntmps38
    go_wp2_with fail
    go_ret
    exact ⟨ret_int HC.out.symm, hb1⟩
  replace HC := Lib.hid (HC.out.trans (if_neg h2))
  by_cases h3 : eqReq ⟨a, b, cc, d, f, g, k, p, q⟩ ⟨a, b, true, 0, 0, ⟨#[]⟩, ⟨#[]⟩, 0, 0⟩ = true
  · replace HC := Lib.hid (HC.out.trans (if_pos h3))
    go_enter Try.func38, Try.ntmps38
    go_wp2_with fail
    go_ret
    exact ⟨ret_int HC.out.symm, hb1⟩
  replace HC := Lib.hid (HC.out.trans (if_neg h3))
  simp only [Bool.not_eq_true] at h3
  by_cases h4 : cc = true
  · replace HC := Lib.hid (HC.out.trans (if_pos h4))
    subst h4
    go_enter Try.func38, Try.ntmps38
    go_wp2_with fail
    go_ret
    exact ⟨ret_int HC.out.symm, hb1⟩
  replace HC := Lib.hid (HC.out.trans (if_neg h4))
  simp only [Bool.not_eq_true] at h4
  subst h4
  by_cases h5 : d < 1
  · replace HC := Lib.hid (HC.out.trans (if_pos h5))
    go_enter Try.func38, Try.ntmps38
    go_wp2_with fail
    go_ret
    exact ⟨ret_int HC.out.symm, hb1⟩
  replace HC := Lib.hid (HC.out.trans (if_neg h5))
  by_cases h6 : 999999 < d
  · replace HC := Lib.hid (HC.out.trans (if_pos h6))
    go_enter Try.func38, Try.ntmps38
    go_wp2_with fail
    go_ret
    exact ⟨ret_int HC.out.symm, hb1⟩
  replace HC := Lib.hid (HC.out.trans (if_neg h6))
  by_cases h7 : f < 0
  · replace HC := Lib.hid (HC.out.trans (if_pos h7))
    go_enter Try.func38, Try.ntmps38
    go_wp2_with fail
    go_ret
    exact ⟨ret_int HC.out.symm, hb1⟩
  replace HC := Lib.hid (HC.out.trans (if_neg h7))
  by_cases h8 : 1000 < f
  · replace HC := Lib.hid (HC.out.trans (if_pos h8))
    go_enter Try.func38, Try.ntmps38
    go_wp2_with fail
    go_ret
    exact ⟨ret_int HC.out.symm, hb1⟩
  replace HC := Lib.hid (HC.out.trans (if_neg h8))
  by_cases h9 : p < 0
  · replace HC := Lib.hid (HC.out.trans (if_pos h9))
    go_enter Try.func38, Try.ntmps38
    go_wp2_with fail
    go_ret
    exact ⟨ret_int HC.out.symm, hb1⟩
  replace HC := Lib.hid (HC.out.trans (if_neg h9))
  by_cases h10 : 100 < p
  · replace HC := Lib.hid (HC.out.trans (if_pos h10))
    go_enter Try.func38, Try.ntmps38
    go_wp2_with fail
    go_ret
    exact ⟨ret_int HC.out.symm, hb1⟩
  replace HC := Lib.hid (HC.out.trans (if_neg h10))
  have c1 := fun w => code_any g w hgs
  have c2 := fun w => code_any k w hks
  have c3 := fun w => right_any q w
  have hbx : ReqBox ((w.alloc (.cells #[.int .i64 a, .int .i64 b, .bool false, .int .i64 d, .int .i64 f, .string g, .string k, .int .i64 p, .int .i64 q] 37)).alloc (.cells #[.int .i64 a, .int .i64 b, .bool true, .int .i64 0, .int .i64 0, .string ⟨#[]⟩, .string ⟨#[]⟩, .int .i64 0, .int .i64 0] 37)) w.heap.size ⟨a, b, false, d, f, g, k, p, q⟩ := (ReqBox.new w ⟨a, b, false, d, f, g, k, p, q⟩).below (below_new _ _)
  by_cases h11 : codeL g.data.toList = false
  · replace HC := Lib.hid (HC.out.trans (if_pos h11))
    simp only [h11] at c1
    go_enter Try.func38, Try.ntmps38
    go_wp2_with fail
    refine (c1 _).mono ?_
    rintro x w11 ⟨rfl, hb11⟩
    have hB := hb1.trans (hb11.mono hb1.size)
    have hbx1 := hbx.below hb11
    have e5 := hbx1.cell 5
    have e6 := hbx1.cell 6
    have e8 := hbx1.cell 8
    clear hbx hb11 hb0
    go_wp2_with fail
    go_ret
    exact ⟨ret_int HC.out.symm, hB⟩
  replace HC := Lib.hid (HC.out.trans (if_neg h11))
  simp only [Bool.not_eq_false] at h11
  simp only [h11] at c1
  by_cases h12 : k.toList ≠ [] ∧ codeL k.data.toList = false
  · replace HC := Lib.hid (HC.out.trans (if_pos h12))
    obtain ⟨hk1, hk2⟩ := h12
    simp only [hk2] at c2
    have hk3 : (!k.toList.isEmpty) = true := by simpa using hk1
    go_enter Try.func38, Try.ntmps38
    go_wp2_with fail
    refine (c1 _).mono ?_
    rintro x w11 ⟨rfl, hb11⟩
    have hB := hb1.trans (hb11.mono hb1.size)
    have hbx1 := hbx.below hb11
    have e5 := hbx1.cell 5
    have e6 := hbx1.cell 6
    have e8 := hbx1.cell 8
    clear hbx hb11 hb0
    go_wp2_with fail
    refine (c2 _).mono ?_
    rintro x w12 ⟨rfl, hb12⟩
    replace hB := hB.trans (hb12.mono hB.size)
    have hbx2 := hbx1.below hb12
    clear e5 e6 e8
    have e5 := hbx2.cell 5
    have e6 := hbx2.cell 6
    have e8 := hbx2.cell 8
    clear hb12 hb1
    go_wp2_with fail
    go_ret
    exact ⟨ret_int HC.out.symm, hB⟩
  replace HC := Lib.hid (HC.out.trans (if_neg h12))
  by_cases hk1 : k.toList = []
  · have hk3 : (!k.toList.isEmpty) = false := by simp [hk1]
    clear h12
    have hge : g.toList.isEmpty = false := code_full h11
    have h13 : ¬ (k.toList == g.toList) = true := by rw [hk1]; intro h; rw [← beq_iff_eq.1 h] at hge; simp at hge
    replace HC := Lib.hid (HC.out.trans (if_neg h13))
    simp only [Bool.not_eq_true] at h13
    by_cases h14 : rightB q = false
    · replace HC := Lib.hid (HC.out.trans (if_pos h14))
      simp only [h14] at c3
      go_enter Try.func38, Try.ntmps38
      go_wp2_with fail
      refine (c1 _).mono ?_
      rintro x w11 ⟨rfl, hb11⟩
      have hB := hb1.trans (hb11.mono hb1.size)
      have hbx1 := hbx.below hb11
      have e5 := hbx1.cell 5
      have e6 := hbx1.cell 6
      have e8 := hbx1.cell 8
      clear hbx hb11 hb0
      go_wp2_with fail
      refine (c3 _).mono ?_
      rintro x w13 ⟨rfl, rfl⟩
      go_wp2_with fail
      go_ret
      exact ⟨ret_int HC.out.symm, hB⟩
    replace HC := Lib.hid (HC.out.trans (if_neg h14))
    simp only [Bool.not_eq_false] at h14
    simp only [h14] at c3
    go_enter Try.func38, Try.ntmps38
    go_wp2_with fail
    refine (c1 _).mono ?_
    rintro x w11 ⟨rfl, hb11⟩
    have hB := hb1.trans (hb11.mono hb1.size)
    have hbx1 := hbx.below hb11
    have e5 := hbx1.cell 5
    have e6 := hbx1.cell 6
    have e8 := hbx1.cell 8
    clear hbx hb11 hb0
    go_wp2_with fail
    refine (c3 _).mono ?_
    rintro x w13 ⟨rfl, rfl⟩
    go_wp2_with fail
    go_ret
    exact ⟨ret_int HC.out.symm, hB⟩
  · have hk2 : codeL k.data.toList = true := by simpa [hk1] using h12
    simp only [hk2] at c2
    have hk3 : (!k.toList.isEmpty) = true := by simpa using hk1
    clear h12
    by_cases h13 : (k.toList == g.toList) = true
    · replace HC := Lib.hid (HC.out.trans (if_pos h13))
      go_enter Try.func38, Try.ntmps38
      go_wp2_with fail
      refine (c1 _).mono ?_
      rintro x w11 ⟨rfl, hb11⟩
      have hB := hb1.trans (hb11.mono hb1.size)
      have hbx1 := hbx.below hb11
      have e5 := hbx1.cell 5
      have e6 := hbx1.cell 6
      have e8 := hbx1.cell 8
      clear hbx hb11 hb0
      go_wp2_with fail
      refine (c2 _).mono ?_
      rintro x w12 ⟨rfl, hb12⟩
      replace hB := hB.trans (hb12.mono hB.size)
      have hbx2 := hbx1.below hb12
      clear e5 e6 e8
      have e5 := hbx2.cell 5
      have e6 := hbx2.cell 6
      have e8 := hbx2.cell 8
      clear hb12 hb1
      go_wp2_with fail
      go_ret
      exact ⟨ret_int HC.out.symm, hB⟩
    replace HC := Lib.hid (HC.out.trans (if_neg h13))
    simp only [Bool.not_eq_true] at h13
    by_cases h14 : rightB q = false
    · replace HC := Lib.hid (HC.out.trans (if_pos h14))
      simp only [h14] at c3
      go_enter Try.func38, Try.ntmps38
      go_wp2_with fail
      refine (c1 _).mono ?_
      rintro x w11 ⟨rfl, hb11⟩
      have hB := hb1.trans (hb11.mono hb1.size)
      have hbx1 := hbx.below hb11
      have e5 := hbx1.cell 5
      have e6 := hbx1.cell 6
      have e8 := hbx1.cell 8
      clear hbx hb11 hb0
      go_wp2_with fail
      refine (c2 _).mono ?_
      rintro x w12 ⟨rfl, hb12⟩
      replace hB := hB.trans (hb12.mono hB.size)
      have hbx2 := hbx1.below hb12
      clear e5 e6 e8
      have e5 := hbx2.cell 5
      have e6 := hbx2.cell 6
      have e8 := hbx2.cell 8
      clear hb12 hb1
      go_wp2_with fail
      refine (c3 _).mono ?_
      rintro x w13 ⟨rfl, rfl⟩
      go_wp2_with fail
      go_ret
      exact ⟨ret_int HC.out.symm, hB⟩
    replace HC := Lib.hid (HC.out.trans (if_neg h14))
    simp only [Bool.not_eq_false] at h14
    simp only [h14] at c3
    go_enter Try.func38, Try.ntmps38
    go_wp2_with fail
    refine (c1 _).mono ?_
    rintro x w11 ⟨rfl, hb11⟩
    have hB := hb1.trans (hb11.mono hb1.size)
    have hbx1 := hbx.below hb11
    have e5 := hbx1.cell 5
    have e6 := hbx1.cell 6
    have e8 := hbx1.cell 8
    clear hbx hb11 hb0
    go_wp2_with fail
    refine (c2 _).mono ?_
    rintro x w12 ⟨rfl, hb12⟩
    replace hB := hB.trans (hb12.mono hB.size)
    have hbx2 := hbx1.below hb12
    clear e5 e6 e8
    have e5 := hbx2.cell 5
    have e6 := hbx2.cell 6
    have e8 := hbx2.cell 8
    clear hb12 hb1
    go_wp2_with fail
    refine (c3 _).mono ?_
    rintro x w13 ⟨rfl, rfl⟩
    go_wp2_with fail
    go_ret
    exact ⟨ret_int HC.out.symm, hB⟩
end Go.Proofs.Ytjcogpalmgcpbaa
