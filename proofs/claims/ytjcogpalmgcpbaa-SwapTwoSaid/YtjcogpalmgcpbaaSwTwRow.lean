/- The law SwapTwo: for every input it returns true, and each argument reads as it read before. -/
import Derived.Test.YtjcogpalmgcpbaaRows
import Derived.Test.YtjcogpalmgcpbaaSwTw
import Derived.Test.YtjcogpalmgcpbaaMkPost
namespace Go.Proofs.Ytjcogpalmgcpbaa
open Go Go.ChangeShapes Go.WideShapes Go.ChangeAt Go.WideElems Go.RowKit Go.Lib

theorem u16_has {n : Int} (h : IntKind.u16.has n) : 0 ≤ n ∧ n ≤ 65535 := by
  simp [IntKind.has, IntKind.min, IntKind.max, IntKind.signed, IntKind.bits] at h
  omega
set_option maxRecDepth 100000 in
theorem open_two16 {w : World} {r : Go.Reach} {b0 : Nat} {v : Value} (hv : Value.okWide Try.prog w r b0 23 v) : ∃ x0 x1 : Nat, v = .agg #[.int .u16 x0, .int .u16 x1] ∧ x0 ≤ 65535 ∧ x1 ≤ 65535 := by
  unfold Value.okWide at hv
  rw [Try.underlying23] at hv
  obtain ⟨cs, rfl, hsz, ts, hts, _, hat⟩ := hv
  have hc : Try.prog.cellTypes Try.prog.depth 23 = some [22, 22] := by kernel_rfl
  have hn : Try.prog.cellsOf 23 = 2 := by kernel_rfl
  obtain rfl := Option.some.inj (hts.symm.trans hc)
  rw [hn] at hsz
  obtain ⟨l⟩ := cs
  match l, hsz with
  | [c0, c1], _ =>
    have one : ∀ (k : Nat) (u : Value), k < 2 → (#[c0, c1] : Array Value)[k]? = some u → ∃ x : Nat, u = .int .u16 x ∧ x ≤ 65535 := fun k u hk hu => by
      obtain ⟨t, r, o⟩ := hat k u hu
      have ht : 22 = t := by
        have : k = 0 ∨ k = 1 := by omega
        rcases this with rfl | rfl <;> exact Option.some.inj r
      subst ht
      obtain ⟨x, rfl, y⟩ := cell_int Try.underlying22 o
      obtain ⟨n, rfl⟩ := Int.eq_ofNat_of_zero_le (u16_has y).1
      exact ⟨n, rfl, by have := (u16_has y).2; omega⟩
    obtain ⟨x0, rfl, y0⟩ := one 0 c0 (by omega) rfl
    obtain ⟨x1, rfl, y1⟩ := one 1 c1 (by omega) rfl
    exact ⟨x0, x1, rfl, y0, y1⟩
set_option maxRecDepth 100000 in
theorem open_two8 {w : World} {r : Go.Reach} {b0 : Nat} {v : Value} (hv : Value.okWide Try.prog w r b0 24 v) : ∃ x0 x1 : Nat, v = .agg #[.int .u8 x0, .int .u8 x1] ∧ x0 ≤ 255 ∧ x1 ≤ 255 := by
  unfold Value.okWide at hv
  rw [Try.underlying24] at hv
  obtain ⟨cs, rfl, hsz, ts, hts, _, hat⟩ := hv
  have hc : Try.prog.cellTypes Try.prog.depth 24 = some [5, 5] := by kernel_rfl
  have hn : Try.prog.cellsOf 24 = 2 := by kernel_rfl
  obtain rfl := Option.some.inj (hts.symm.trans hc)
  rw [hn] at hsz
  obtain ⟨l⟩ := cs
  match l, hsz with
  | [c0, c1], _ =>
    have one : ∀ (k : Nat) (u : Value), k < 2 → (#[c0, c1] : Array Value)[k]? = some u → ∃ x : Nat, u = .int .u8 x ∧ x ≤ 255 := fun k u hk hu => by
      obtain ⟨t, r, o⟩ := hat k u hu
      have ht : 5 = t := by
        have : k = 0 ∨ k = 1 := by omega
        rcases this with rfl | rfl <;> exact Option.some.inj r
      subst ht
      obtain ⟨x, rfl, y⟩ := cell_int Try.underlying5 o
      obtain ⟨n, rfl⟩ := Int.eq_ofNat_of_zero_le (has_u8 y).1
      exact ⟨n, rfl, by have := (has_u8 y).2; omega⟩
    obtain ⟨x0, rfl, y0⟩ := one 0 c0 (by omega) rfl
    obtain ⟨x1, rfl, y1⟩ := one 1 c1 (by omega) rfl
    exact ⟨x0, x1, rfl, y0, y1⟩
set_option maxRecDepth 100000 in
theorem open_one8 {w : World} {r : Go.Reach} {b0 : Nat} {v : Value} (hv : Value.okWide Try.prog w r b0 5 v) : ∃ x0 : Nat, v = .int .u8 x0 ∧ x0 ≤ 255 := by
  unfold Value.okWide at hv
  rw [Try.underlying5] at hv
  obtain ⟨x, rfl, y⟩ := cell_int Try.underlying5 hv
  obtain ⟨n, rfl⟩ := Int.eq_ofNat_of_zero_le (has_u8 y).1
  exact ⟨n, rfl, by have := (has_u8 y).2; omega⟩
set_option maxRecDepth 100000 in
theorem swapTwo_lifted (os : Os) (started : os.Started) (H : Type) (enc : TypeId × Value → H) :
    ReturnsInHanded {} Try.checked os 3 .any (Rows.swapTwoSpec.pre6 enc Try.prog Try.f3 Rows.swapTwoRow.domain false) (Rows.swapTwoSpec.post enc Try.prog Try.f3 false true false false) := by
  refine returnsInHanded_of_change (C := Try.checked) own started (by kernel_rfl) Try.func3
    (ChangeSpec.witness6 (enc := enc) (C := Try.checked) false ⟨#[], #[.agg #[.int .u16 0, .int .u16 0], .int .u8 0, .agg #[.int .u8 0, .int .u8 0]], []⟩ 8 (by kernel_rfl) (by kernel_rfl) (by kernel_rfl) (by kernel_rfl)) ?_
  intro W base args ds gs before hval0 hW _ _
  have hval : ∀ (j : Nat) t v, Try.f3.params[j]? = some t → args[j]? = some v → Value.okWide Try.prog W .any base t v := hval0
  have hW' := hW
  obtain ⟨p, q, hA0, hV, rfl, hfz, hnd⟩ := hW
  have hA : DataW.TrodAll enc Try.prog W 0 (fun _ => true) true Try.f3.params.toList args.toList ds p := hA0
  have hA2 := hA
  obtain ⟨rfl, rfl⟩ := trodVars_none hV
  simp only [List.append_nil] at hW'
  rw [Try.params3] at hA2 hval
  obtain ⟨v0, v1, v2, d0, d1, d2, p0, p1, p2, rfl, rfl, rfl, h0, h1, h2⟩ := trodAll_three hA2
  obtain ⟨q0, q1, rfl, y0, y1⟩ := open_two16 (hval 0 23 v0 rfl rfl)
  obtain ⟨n0, rfl, z0⟩ := open_one8 (hval 1 5 v1 rfl rfl)
  obtain ⟨x0, x1, rfl, u0, u1⟩ := open_two8 (hval 2 24 v2 rfl rfl)
  refine (two_law q0 q1 n0 x0 x1 W y0 y1 z0 u0 u1).mono fun e W' ⟨he, hbe⟩ => ?_
  subst he
  exact ⟨_, rfl, law_post A_laidOut (by rw [Try.params3]; decide +kernel) rfl (by kernel_rfl) Try.underlying4 rfl hW' hA hbe⟩

theorem swapTwo_holds : Rows.SwapTwoSaid :=
  OpenClaim.holds_of_wide 3 Try.f3 rfl rfl rfl rfl rfl rfl rfl ⟨rfl, rfl, rfl, rfl, rfl⟩ rfl rfl rfl rfl rfl (by kernel_rfl) Try.func3 (by kernel_rfl)
    (of_decide_eq_true (by kernel_rfl)) (by unfold Func.isWrapper; first | (rw [if_pos (by decide +kernel)]; kernel_rfl) | (rw [if_neg (by decide +kernel)]; exact ⟨rfl, rfl⟩))
    (fun os started H enc _ => swapTwo_lifted os started H enc)
end Go.Proofs.Ytjcogpalmgcpbaa
