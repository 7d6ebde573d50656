/- request.truth, the numbers of a request that compare asks for, cmp.Or: each walked once. -/
import Derived.Test.YtjcogpalmgcpbaaReq
import Derived.Sort.Grow
import Derived.Deep.Draws
namespace Go.Proofs.Ytjcogpalmgcpbaa
open Go Go.RowKit Go.Sort Go.Lib
attribute [local go_sem] Req.cells

/-- Draws, and blocks laid behind. -/
def Grows (w w' : World) : Prop := ∃ q os, w' = Go.Sort.grow (w.drewN q) os
theorem Grows.refl (w : World) : Grows w w := ⟨0, #[], by simp [Go.Sort.grow, World.drewN]⟩
theorem Grows.al (w : World) (o : Obj) : Grows w (w.alloc o) := ⟨0, #[o], by rw [Go.Sort.alloc_eq_grow]; rfl⟩
theorem Grows.trans {a b c : World} (h : Grows a b) (k : Grows b c) : Grows a c := by
  obtain ⟨q, os, rfl⟩ := h
  obtain ⟨r, os', rfl⟩ := k
  exact ⟨q + r, os ++ os', by simp [Go.Sort.grow, World.drewN, Nat.add_assoc, Array.append_assoc]⟩
theorem Grows.drew {a b : World} (h : Grows a b) : Grows a b.drew := h.trans ⟨1, #[], by rw [Go.Sort.grow_empty]; rfl⟩
theorem Grows.toB {a b : World} (h : Grows a b) : RowKit.Below a.heap.size a b := by
  obtain ⟨q, os, rfl⟩ := h
  exact ⟨rfl, rfl, rfl, by simp [Go.Sort.grow, World.drewN], fun k hk => by simp [Go.Sort.grow, World.drewN, Array.getElem?_append, hk]⟩
def truthN (b : Bool) : Int := if b = true then 1 else 0
theorem truth_any (b : Bool) (w : World) : Calls Try.prog 61 #[.bool b] w fun x w' => x = .returned (.int .i64 (truthN b)) ∧ w = w' := by
  cases b <;>
  · go_enter Try.func61, Try.ntmps61
    go_wp2_with fail
    go_ret
    exact ⟨rfl, rfl⟩
theorem num1_any (r : Req) (w : World) : Calls Try.prog 58 #[r.val] w fun x w' => x = .returned (.int .i64 r.server) ∧ Grows w w' := by
  go_enter Try.func58, Try.ntmps58
  go_wp2_with fail
  go_ret
  exact ⟨rfl, Grows.al _ _⟩
theorem num2_any (r : Req) (w : World) : Calls Try.prog 59 #[r.val] w fun x w' => x = .returned (.int .i64 r.seq) ∧ Grows w w' := by
  go_enter Try.func59, Try.ntmps59
  go_wp2_with fail
  go_ret
  exact ⟨rfl, Grows.al _ _⟩
theorem num3_any (r : Req) (w : World) : Calls Try.prog 60 #[r.val] w fun x w' => x = .returned (.int .i64 (truthN r.cancel)) ∧ Grows w w' := by
  go_enter Try.func60, Try.ntmps60
  go_wp2_with fail
  refine (truth_any r.cancel _).mono ?_
  rintro x w1 ⟨rfl, rfl⟩
  go_wp2_with fail
  go_ret
  exact ⟨rfl, Grows.al _ _⟩
theorem num4_any (r : Req) (w : World) : Calls Try.prog 62 #[r.val] w fun x w' => x = .returned (.int .i64 r.student) ∧ Grows w w' := by
  go_enter Try.func62, Try.ntmps62
  go_wp2_with fail
  go_ret
  exact ⟨rfl, Grows.al _ _⟩
theorem num5_any (r : Req) (w : World) : Calls Try.prog 63 #[r.val] w fun x w' => x = .returned (.int .i64 r.term) ∧ Grows w w' := by
  go_enter Try.func63, Try.ntmps63
  go_wp2_with fail
  go_ret
  exact ⟨rfl, Grows.al _ _⟩
/-- The first that is not 0. -/
def orL : List Int → Int
  | [] => 0
  | x :: l => if x = 0 then orL l else x
theorem orL_hit : ∀ (l : List Int) (k : Nat) (x : Int), (∀ j, j < k → l[j]? = some 0) → l[k]? = some x → x ≠ 0 → orL l = x
  | [], k, x, _, h, _ => by simp at h
  | a :: l, 0, x, _, h, hx => by simp at h; subst h; unfold orL; rw [if_neg hx]
  | a :: l, k + 1, x, h0, h, hx => by
    have ha := h0 0 (by omega)
    simp only [List.getElem?_cons_zero, Option.some.injEq] at ha
    unfold orL; rw [if_pos ha]
    exact orL_hit l k x (fun j hj => by have := h0 (j + 1) (by omega); simpa using this) (by simpa using h) hx
theorem orL_none : ∀ (l : List Int), (∀ j, j < l.length → l[j]? = some 0) → orL l = 0
  | [], _ => rfl
  | a :: l, h0 => by
    have ha := h0 0 (by simp)
    simp only [List.getElem?_cons_zero, Option.some.injEq] at ha
    unfold orL; rw [if_pos ha]
    exact orL_none l (fun j hj => by have := h0 (j + 1) (by simp; omega); simpa using this)
set_option maxRecDepth 100000 in
theorem orL_any (b : Nat) (l : List Int) (w : World) (hb : w.heap[b]? = some (.cells (l.map (Value.int .i64)).toArray 3 (0, 0))) (hl : l.length ≤ 1000) :
    Calls Try.prog 65 #[.slice (some ⟨b, 0, none⟩) l.length l.length] w fun x w' => x = .returned (.int .i64 (orL l)) ∧ w = w' := by
  have hC : ∀ k x, l[k]? = some x → w.cell? ⟨b, k, none⟩ = some (.int .i64 x) := fun k x h => by rw [Lib.cell_of_heap hb]; simp [h]
  have hH := orL_hit l
  have hN := orL_none l
  have hE : ∀ k, k < l.length → ∃ x, l[k]? = some x := fun k hk => ⟨_, List.getElem?_eq_getElem hk⟩
  generalize orL l = O at *
  generalize l.length = N at *
  have HC := Lib.hid hC
  have HH := Lib.hid hH
  have HN := Lib.hid hN
  have HE := Lib.hid hE
  clear hC hH hN hE hb
  go_enter Try.func65, Try.ntmps65
  go_wp2_with fail
  go_loopw [8] (fun i wr => ∃ k : Nat, k ≤ N ∧ Hid (∀ j, j < k → l[j]? = some 0) ∧ i = .int .i64 k ∧ wr = w) (fun i _ => N - (intOf i).toNat)
  case atStart => exact ⟨0, Nat.zero_le _, Lib.hid (by omega), rfl, rfl⟩
  case round =>
    obtain ⟨k, hk, hz, rfl, rfl⟩ := hrel
    by_cases hlt : k < N
    · obtain ⟨x, hx⟩ := HE.out k hlt
      have hc := HC.out k x hx
      by_cases h0 : x = 0
      · subst h0
        have hz2 : Hid (∀ j, j < k + 1 → l[j]? = some 0) := Lib.hid (fun j hj => by
          rcases Nat.lt_or_ge j k with h | h
          · exact hz.out j h
          · obtain rfl : j = k := by omega
            exact hx)
        clear hx
        go_wp2_with fail
        go_roundw
        case rel => exact ⟨k + 1, by omega, hz2, by go_num, by first | rfl | trivial⟩
        case measure => simp [intOf]; omega
      · have hO := HH.out k x hz.out hx h0
        have hne : (x != 0) = true := by simpa using h0
        clear hx h0
        go_wp2_with fail
        go_ret
        exact ⟨ret_int hO.symm, rfl⟩
    · obtain rfl : k = N := by omega
      have hO := HN.out hz.out
      go_wp2_with fail
      go_ret
      exact ⟨ret_int hO.symm, rfl⟩
end Go.Proofs.Ytjcogpalmgcpbaa
