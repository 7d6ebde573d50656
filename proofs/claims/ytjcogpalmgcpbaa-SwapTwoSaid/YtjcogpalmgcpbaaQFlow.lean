/- A region that draws its order, walked along ONE schedule: operations that yield the same in every world that meets S are taken first, the others (calls, allocs, stores) come up alone. The schedule's conditions are one closed fact. -/
import Derived.Test.YtjcogpalmgcpbaaPiece
import Derived.OrdersHeld
namespace Go.Proofs.Ytjcogpalmgcpbaa
open Go

/-- The schedule's conditions: (i, true): may come up and is apart from all that has not; (i, false): it alone may come up. -/
def flowOk (md : Region.Mode) (ops : Array Oper) : Array Bool → List (Nat × Bool) → Bool
  | listed, [] => (Region.ready md ops listed).isEmpty
  | listed, (i, true) :: σ => (Region.ready md ops listed).contains i && Region.free md ops listed i && flowOk md ops (listed.setIfInBounds i true) σ
  | listed, (i, false) :: σ => (Region.ready md ops listed == [i]) && flowOk md ops (listed.setIfInBounds i true) σ

/-- Along a schedule. -/
def wpFlow (P : Program) (ops : Array Oper) (Q : Exit → Act → World → Prop) (S : World → Prop) : List (Nat × Bool) → Act → World → Prop
  | [], a, w => Q .normal a w
  | (i, true) :: σ, a, w => ∃ oi v, ops[i]? = some oi ∧ YieldsIf P ops S oi v a ∧ wpFlow P ops Q S σ (a.put oi.dst v) w
  | (i, false) :: σ, a, w => wpOp P ops Q i (fun a' w' => S w' ∧ wpFlow P ops Q S σ a' w') a w

section
variable {P : Program} {ops : Array Oper} {Q : Exit → Act → World → Prop} {md : Region.Mode} {S : World → Prop}
theorem flow_sound (hs : Region.noSelect ops = true) (hQ : ∀ d c v a w, Q (.panic c) (Act.put a d v) w → Q (.panic c) a w) :
    ∀ (σ : List (Nat × Bool)) (listed : Array Bool) (fuel : Nat) (a : Act) (w : World), flowOk md ops listed σ = true → σ.length ≤ fuel → S w → wpFlow P ops Q S σ a w → wpAnyH P md ops Q S fuel listed a w
  | [], listed, fuel, a, w, hf, _, _, h => by
    refine wpAnyH_done ?_ h fuel
    simpa [flowOk] using hf
  | (i, true) :: σ, listed, fuel, a, w, hf, hl, hS, h => by
    obtain ⟨oi, v, hi, hy, h⟩ := h
    simp only [flowOk, Bool.and_eq_true] at hf
    cases fuel with
    | zero => simp at hl
    | succ fuel => exact wpAnyH_take hi hs hf.1.2 hf.1.1 (fun c a w => hQ _ c v a w) hy hS (flow_sound hs hQ σ _ fuel _ w hf.2 (by simpa using hl) hS h)
  | (i, false) :: σ, listed, fuel, a, w, hf, hl, hS, h => by
    simp only [flowOk, Bool.and_eq_true, beq_iff_eq] at hf
    cases fuel with
    | zero => simp at hl
    | succ fuel =>
      refine wpAnyH_all hf.1 (by simp) fun j hj => ?_
      obtain rfl : j = i := by simpa using hj
      exact wpOp_mono (fun a' w' h' => ⟨h'.1, flow_sound hs hQ σ _ fuel a' w' hf.2 (by simpa using hl) h'.1 h'.2⟩) h

/-- The region. -/
theorem wp_region_flow {K : Act → World → Prop} {id : Nat} {a : Act} {w : World} (σ : List (Nat × Bool)) (hm : P.follows .mixedOrders = true) (hs : Region.noSelect ops = true)
    (hf : flowOk .any ops (Array.replicate ops.size false) σ = true) (hl : σ.length ≤ ops.size) (hS : S w.drew) (h : wpFlow P ops (OnlyN K) S σ a w.drew) : (Code.region id ops true).wp P (OnlyN K) a w :=
  wp_region_held hm (flow_sound hs (fun _ _ _ _ _ h => h) σ _ _ a w.drew hf hl hS h)

theorem flow_take {i : Nat} {σ : List (Nat × Bool)} {a : Act} {w : World} (oi : Oper) (v : Value) (hi : ops[i]? = some oi) (hw : Region.wanted oi (yielded ops a.tmps) = true) (hy : ∀ w, S w → (execOp a.eval oi).run P w = .ok (.value v) w)
    (h : wpFlow P ops Q S σ (a.put oi.dst v) w) : wpFlow P ops Q S ((i, true) :: σ) a w := ⟨oi, v, hi, .inl ⟨hw, hy⟩, h⟩
theorem flow_skip {i : Nat} {σ : List (Nat × Bool)} {a : Act} {w : World} (oi : Oper) (hi : ops[i]? = some oi) (hw : Region.wanted oi (yielded ops a.tmps) = false)
    (h : wpFlow P ops Q S σ (a.put oi.dst undef) w) : wpFlow P ops Q S ((i, true) :: σ) a w := ⟨oi, undef, hi, .inr ⟨hw, rfl⟩, h⟩
theorem flow_skip' {i : Nat} {σ : List (Nat × Bool)} {a : Act} {w : World} (oi : Oper) (hi : ops[i]? = some oi) (hw : Region.wanted oi (yielded ops a.tmps) = false) (hS : S w)
    (h : wpFlow P ops Q S σ (a.put oi.dst undef) w) : wpFlow P ops Q S ((i, false) :: σ) a w := by
  unfold wpFlow wpOp
  simp only [hi, hw, Bool.false_eq_true, if_false]
  exact ⟨hS, h⟩
/-- An operation that comes up alone. -/
theorem flow_op {i : Nat} {σ : List (Nat × Bool)} {a : Act} {w : World} (oi : Oper) (hi : ops[i]? = some oi) (hw : Region.wanted oi (yielded ops a.tmps) = true)
    (h : oi.wp P a w (fun a' w' => S w' ∧ wpFlow P ops Q S σ a' w') Q) : wpFlow P ops Q S ((i, false) :: σ) a w := by
  unfold wpFlow wpOp
  simp only [hi, hw, if_true]
  exact .inl h
/-- .. a call of a Go function. -/
theorem flow_call {i : Nat} {σ : List (Nat × Bool)} {a : Act} {w : World} (oi : Oper) (hi : ops[i]? = some oi) (hw : Region.wanted oi (yielded ops a.tmps) = true) (f : FuncId) (args : Array Operand) (tys : Array TypeId)
    (ho : oi.op = .call { callee := .value (.func f), args := args, argTypes := tys }) (vs : List Value) (hvs : args.toList.map a.eval = vs) (hc : ∀ xs w, (callFunc f xs).run P w = .ok (.enter f xs) w) {R : Ending → World → Prop} (h : Calls P f vs.toArray w R)
    (hK : ∀ e w', R e w' → ∃ v, e = .returned v ∧ S w' ∧ wpFlow P ops Q S σ (a.put oi.dst v) w') : wpFlow P ops Q S ((i, false) :: σ) a w :=
  flow_op oi hi hw (wp_call f args tys ho vs hvs hc h fun e w' hR => let ⟨v, he, hS, h⟩ := hK e w' hR; ⟨v, he, hS, h⟩)
end

/-- .. an operation whose run is known. -/
theorem flow_run {P : Program} {ops : Array Oper} {Q : Exit → Act → World → Prop} {S : World → Prop} {i : Nat} {σ : List (Nat × Bool)} {a : Act} {w : World} (oi : Oper) (v : Value) (w' : World) (hi : ops[i]? = some oi) (hw : Region.wanted oi (yielded ops a.tmps) = true) (hr : (execOp a.eval oi).run P w = .ok (.value v) w')
    (hS : S w') (h : wpFlow P ops Q S σ (a.put oi.dst v) w') : wpFlow P ops Q S ((i, false) :: σ) a w :=
  flow_op oi hi hw (by unfold Oper.wp; rw [hr, Oper.upon_value]; exact ⟨hS, h⟩)
/-- The operations of a region. -/
def opsIn : Code → Array Oper
  | .region _ ops _ => ops
  | _ => #[]
end Go.Proofs.Ytjcogpalmgcpbaa
