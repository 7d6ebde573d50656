/- As Flow, where two operations may come up together: a schedule that branches. -/
import Derived.Test.YtbihaoadgcckhaaQFlow
namespace Go.Proofs.Ytbihaoadgcckhaa
open Go

inductive FlowT where
  | done
  | take (i : Nat) (t : FlowT)
  | one (i : Nat) (t : FlowT)
  | two (i j : Nat) (t u : FlowT)

def treeOk (md : Region.Mode) (ops : Array Oper) : Array Bool → FlowT → Bool
  | listed, .done => (Region.ready md ops listed).isEmpty
  | listed, .take i t => (Region.ready md ops listed).contains i && Region.free md ops listed i && treeOk md ops (listed.setIfInBounds i true) t
  | listed, .one i t => (Region.ready md ops listed == [i]) && treeOk md ops (listed.setIfInBounds i true) t
  | listed, .two i j t u => (Region.ready md ops listed == [i, j]) && treeOk md ops (listed.setIfInBounds i true) t && treeOk md ops (listed.setIfInBounds j true) u
def FlowT.deep : FlowT → Nat
  | .done => 0
  | .take _ t => t.deep + 1
  | .one _ t => t.deep + 1
  | .two _ _ t u => max t.deep u.deep + 1

def wpTree (P : Program) (ops : Array Oper) (Q : Exit → Act → World → Prop) (S : World → Prop) : FlowT → Act → World → Prop
  | .done, a, w => Q .normal a w
  | .take i t, a, w => ∃ oi v, ops[i]? = some oi ∧ YieldsIf P ops S oi v a ∧ wpTree P ops Q S t (a.put oi.dst v) w
  | .one i t, a, w => wpOp P ops Q i (fun a' w' => S w' ∧ wpTree P ops Q S t a' w') a w
  | .two i j t u, a, w => wpOp P ops Q i (fun a' w' => S w' ∧ wpTree P ops Q S t a' w') a w ∧ wpOp P ops Q j (fun a' w' => S w' ∧ wpTree P ops Q S u a' w') a w

section
variable {P : Program} {ops : Array Oper} {Q : Exit → Act → World → Prop} {md : Region.Mode} {S : World → Prop}
theorem tree_sound (hs : Region.noSelect ops = true) (hQ : ∀ d c v a w, Q (.panic c) (Act.put a d v) w → Q (.panic c) a w) :
    ∀ (t : FlowT) (listed : Array Bool) (fuel : Nat) (a : Act) (w : World), treeOk md ops listed t = true → t.deep ≤ fuel → S w → wpTree P ops Q S t a w → wpAnyH P md ops Q S fuel listed a w
  | .done, listed, fuel, a, w, hf, _, _, h => by
    refine wpAnyH_done ?_ h fuel
    simpa [treeOk] using hf
  | .take i t, listed, fuel, a, w, hf, hl, hS, h => by
    obtain ⟨oi, v, hi, hy, h⟩ := h
    simp only [treeOk, Bool.and_eq_true] at hf
    cases fuel with
    | zero => simp [FlowT.deep] at hl
    | succ fuel => exact wpAnyH_take hi hs hf.1.2 hf.1.1 (fun c a w => hQ _ c v a w) hy hS (tree_sound hs hQ t _ fuel _ w hf.2 (by simpa [FlowT.deep] using hl) hS h)
  | .one i t, listed, fuel, a, w, hf, hl, hS, h => by
    simp only [treeOk, Bool.and_eq_true, beq_iff_eq] at hf
    cases fuel with
    | zero => simp [FlowT.deep] at hl
    | succ fuel =>
      refine wpAnyH_all hf.1 (by simp) fun j hj => ?_
      obtain rfl : j = i := by simpa using hj
      exact wpOp_mono (fun a' w' h' => ⟨h'.1, tree_sound hs hQ t _ fuel a' w' hf.2 (by simpa [FlowT.deep] using hl) h'.1 h'.2⟩) h
  | .two i j t u, listed, fuel, a, w, hf, hl, hS, h => by
    simp only [treeOk, Bool.and_eq_true, beq_iff_eq] at hf
    cases fuel with
    | zero => simp [FlowT.deep] at hl
    | succ fuel =>
      have hl' : max t.deep u.deep ≤ fuel := by simpa [FlowT.deep] using hl
      refine wpAnyH_all hf.1.1 (by simp) fun k hk => ?_
      have hk' : k = i ∨ k = j := by simpa using hk
      by_cases hki : k = i
      · subst hki
        exact wpOp_mono (fun a' w' h' => ⟨h'.1, tree_sound hs hQ t _ fuel a' w' hf.1.2 (by omega) h'.1 h'.2⟩) h.1
      · obtain rfl : k = j := hk'.resolve_left hki
        exact wpOp_mono (fun a' w' h' => ⟨h'.1, tree_sound hs hQ u _ fuel a' w' hf.2 (by omega) h'.1 h'.2⟩) h.2

theorem wp_region_tree {K : Act → World → Prop} {id : Nat} {a : Act} {w : World} (t : FlowT) (hm : P.follows .mixedOrders = true) (hs : Region.noSelect ops = true)
    (hf : treeOk .any ops (Array.replicate ops.size false) t = true) (hl : t.deep ≤ ops.size) (hS : S w.drew) (h : wpTree P ops (OnlyN K) S t a w.drew) : (Code.region id ops true).wp P (OnlyN K) a w :=
  wp_region_held hm (tree_sound hs (fun _ _ _ _ _ h => h) t _ _ a w.drew hf hl hS h)

theorem tree_take {i : Nat} {t : FlowT} {a : Act} {w : World} (oi : Oper) (v : Value) (hi : ops[i]? = some oi) (hw : Region.wanted oi (yielded ops a.tmps) = true) (hy : ∀ w, S w → (execOp a.eval oi).run P w = .ok (.value v) w)
    (h : wpTree P ops Q S t (a.put oi.dst v) w) : wpTree P ops Q S (.take i t) a w := ⟨oi, v, hi, .inl ⟨hw, hy⟩, h⟩
theorem tree_skip {i : Nat} {t : FlowT} {a : Act} {w : World} (oi : Oper) (hi : ops[i]? = some oi) (hw : Region.wanted oi (yielded ops a.tmps) = false)
    (h : wpTree P ops Q S t (a.put oi.dst undef) w) : wpTree P ops Q S (.take i t) a w := ⟨oi, undef, hi, .inr ⟨hw, rfl⟩, h⟩
theorem tree_one {i : Nat} {t : FlowT} {a : Act} {w : World} (h : wpOp P ops Q i (fun a' w' => S w' ∧ wpTree P ops Q S t a' w') a w) : wpTree P ops Q S (.one i t) a w := h
theorem tree_two {i j : Nat} {t u : FlowT} {a : Act} {w : World} (h : wpOp P ops Q i (fun a' w' => S w' ∧ wpTree P ops Q S t a' w') a w) (h' : wpOp P ops Q j (fun a' w' => S w' ∧ wpTree P ops Q S u a' w') a w) : wpTree P ops Q S (.two i j t u) a w := ⟨h, h'⟩
/-- What comes up: an operation .. -/
theorem come_op {i : Nat} {K : Act → World → Prop} {a : Act} {w : World} (oi : Oper) (hi : ops[i]? = some oi) (hw : Region.wanted oi (yielded ops a.tmps) = true) (h : oi.wp P a w K Q) : wpOp P ops Q i K a w := by
  unfold wpOp
  simp only [hi, hw, if_true]
  exact .inl h
/-- .. whose guard is not met .. -/
theorem come_skip {i : Nat} {K : Act → World → Prop} {a : Act} {w : World} (oi : Oper) (hi : ops[i]? = some oi) (hw : Region.wanted oi (yielded ops a.tmps) = false) (h : K (a.put oi.dst undef) w) : wpOp P ops Q i K a w := by
  unfold wpOp
  simp only [hi, hw, Bool.false_eq_true, if_false]
  exact h
/-- .. a call of a Go function .. -/
theorem come_call {i : Nat} {K : Act → World → Prop} {a : Act} {w : World} (oi : Oper) (hi : ops[i]? = some oi) (hw : Region.wanted oi (yielded ops a.tmps) = true) (f : FuncId) (args : Array Operand) (tys : Array TypeId)
    (ho : oi.op = .call { callee := .value (.func f), args := args, argTypes := tys }) (vs : List Value) (hvs : args.toList.map a.eval = vs) (hc : ∀ xs w, (callFunc f xs).run P w = .ok (.enter f xs) w) {R : Ending → World → Prop} (h : Calls P f vs.toArray w R)
    (hK : ∀ e w', R e w' → ∃ v, e = .returned v ∧ K (a.put oi.dst v) w') : wpOp P ops Q i K a w :=
  come_op oi hi hw (wp_call f args tys ho vs hvs hc h hK)
/-- .. an operation whose run is known. -/
theorem come_run {i : Nat} {K : Act → World → Prop} {a : Act} {w : World} (oi : Oper) (v : Value) (w' : World) (hi : ops[i]? = some oi) (hw : Region.wanted oi (yielded ops a.tmps) = true) (hr : (execOp a.eval oi).run P w = .ok (.value v) w') (h : K (a.put oi.dst v) w') : wpOp P ops Q i K a w :=
  come_op oi hi hw (by unfold Oper.wp; rw [hr, Oper.upon_value]; exact h)
end
end Go.Proofs.Ytbihaoadgcckhaa
