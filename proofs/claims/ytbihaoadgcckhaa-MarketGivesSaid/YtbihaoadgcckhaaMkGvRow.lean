/- The law MarketGives: for every input it returns true, and each argument reads as it read before. -/
import Derived.Test.YtbihaoadgcckhaaRows
import Derived.Test.YtbihaoadgcckhaaMkGv
import Derived.Test.YtbihaoadgcckhaaMkPost
namespace Go.Proofs.Ytbihaoadgcckhaa
open Go Go.ChangeShapes Go.WideShapes Go.ChangeAt Go.WideElems Go.RowKit Go.Lib

set_option maxRecDepth 100000 in
theorem open_three {w : World} {r : Reach} {b0 : Nat} {v : Value} (hv : Value.okWide Try.prog w r b0 51 v) : ∃ x0 x1 x2 : Nat, v = .agg #[.int .u8 x0, .int .u8 x1, .int .u8 x2] ∧ x0 ≤ 255 ∧ x1 ≤ 255 ∧ x2 ≤ 255 := by
  unfold Value.okWide at hv
  rw [Try.underlying51] at hv
  obtain ⟨cs, rfl, hsz, ts, hts, _, hat⟩ := hv
  have hc : Try.prog.cellTypes Try.prog.depth 51 = some [5, 5, 5] := by kernel_rfl
  have hn : Try.prog.cellsOf 51 = 3 := by kernel_rfl
  obtain rfl := Option.some.inj (hts.symm.trans hc)
  rw [hn] at hsz
  obtain ⟨l⟩ := cs
  match l, hsz with
  | [c0, c1, c2], _ =>
    have one : ∀ (k : Nat) (u : Value), k < 3 → (#[c0, c1, c2] : Array Value)[k]? = some u → ∃ x : Nat, u = .int .u8 x ∧ x ≤ 255 := fun k u hk hu => by
      obtain ⟨t, r, o⟩ := hat k u hu
      have ht : 5 = t := by
        have : k = 0 ∨ k = 1 ∨ k = 2 := by omega
        rcases this with rfl | rfl | rfl <;> exact Option.some.inj r
      subst ht
      obtain ⟨x, rfl, y⟩ := cell_int Try.underlying5 o
      obtain ⟨n, rfl⟩ := Int.eq_ofNat_of_zero_le (has_u8 y).1
      exact ⟨n, rfl, by have := (has_u8 y).2; omega⟩
    obtain ⟨x0, rfl, y0⟩ := one 0 c0 (by omega) rfl
    obtain ⟨x1, rfl, y1⟩ := one 1 c1 (by omega) rfl
    obtain ⟨x2, rfl, y2⟩ := one 2 c2 (by omega) rfl
    exact ⟨x0, x1, x2, rfl, y0, y1, y2⟩
set_option maxRecDepth 100000 in
theorem marketGives_lifted (os : Os) (started : os.Started) (H : Type) (enc : TypeId × Value → H) :
    ReturnsInHanded {} Try.checked os 5 .any (Rows.marketGivesSpec.pre6 enc Try.prog Try.f5 Rows.marketGivesRow.domain false) (Rows.marketGivesSpec.post enc Try.prog Try.f5 false true false false) := by
  refine returnsInHanded_of_change (C := Try.checked) own started (by kernel_rfl) Try.func5
    (ChangeSpec.witness6 (enc := enc) (C := Try.checked) false ⟨#[], #[.agg #[.slice none 0 0, .slice none 0 0, .int .u32 0, .int .u8 0], .agg #[.int .u8 0, .int .u8 0, .int .u8 0]], []⟩ 8 (by kernel_rfl) (by kernel_rfl) (by kernel_rfl) (by kernel_rfl)) ?_
  intro W base args ds gs before hval0 hW _ _
  have hval : ∀ (j : Nat) t v, Try.f5.params[j]? = some t → args[j]? = some v → Value.okWide Try.prog W .any base t v := hval0
  have hW' := hW
  obtain ⟨p, q, hA0, hV, rfl, hfz, hnd⟩ := hW
  have hA : DataW.TrodAll enc Try.prog W 0 (fun _ => true) true Try.f5.params.toList args.toList ds p := hA0
  have hA2 := hA
  obtain ⟨rfl, rfl⟩ := trodVars_none hV
  simp only [List.append_nil] at hW'
  rw [Try.params5] at hA2 hval
  obtain ⟨v0, v1, d0, d1, p0, p1, rfl, rfl, rfl, h0, h1⟩ := trodAll_two hA2
  obtain ⟨A0, A1, n0, n1, c0, c1, q, m, rfl, g0, g1, q0, q1, m0, m1⟩ := open_case h0 (hval 0 26 v0 rfl rfl)
  obtain ⟨x0, x1, x2, rfl, y0, y1, y2⟩ := open_three (hval 1 51 v1 rfl rfl)
  refine (gives_law A0 A1 n0 n1 c0 c1 q m x0 x1 x2 W g0 g1 q0 q1 m0 m1 y0 y1 y2).mono fun e W' ⟨he, hbe⟩ => ?_
  subst he
  exact ⟨_, rfl, law_post A_laidOut (by rw [Try.params5]; decide +kernel) rfl (by kernel_rfl) Try.underlying4 rfl hW' hA hbe⟩

theorem marketGives_holds : Rows.MarketGivesSaid :=
  OpenClaim.holds_of_wide 5 Try.f5 rfl rfl rfl rfl rfl rfl rfl ⟨rfl, rfl, rfl, rfl, rfl⟩ rfl rfl rfl rfl rfl (by kernel_rfl) Try.func5 (by kernel_rfl)
    (of_decide_eq_true (by kernel_rfl)) (by unfold Func.isWrapper; first | (rw [if_pos (by decide +kernel)]; kernel_rfl) | (rw [if_neg (by decide +kernel)]; exact ⟨rfl, rfl⟩))
    (fun os started H enc _ => marketGives_lifted os started H enc)
end Go.Proofs.Ytbihaoadgcckhaa
