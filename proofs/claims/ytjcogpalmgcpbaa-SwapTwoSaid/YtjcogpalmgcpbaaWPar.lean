/- A region that draws its order, where calls and allocs come up in any order: an invariant over what has come up, shown at each operation once. -/
import Derived.Test.YtjcogpalmgcpbaaQFlow
namespace Go.Proofs.Ytjcogpalmgcpbaa
open Go

/-- Operations that may be taken first, one behind the other. -/
def takesOk (md : Region.Mode) (ops : Array Oper) : Array Bool → List Nat → Bool
  | _, [] => true
  | L, i :: σ => (Region.ready md ops L).contains i && Region.free md ops L i && takesOk md ops (L.setIfInBounds i true) σ
def wpTakes (P : Program) (ops : Array Oper) (S : World → Prop) : List Nat → Act → (Act → Prop) → Prop
  | [], a, K => K a
  | i :: σ, a, K => ∃ oi v, ops[i]? = some oi ∧ YieldsIf P ops S oi v a ∧ wpTakes P ops S σ (a.put oi.dst v) K
/-- What comes up behind one more operation. -/
def stepAll (md : Region.Mode) (ops : Array Oper) (Ls : List (Array Bool)) : List (Array Bool) := (Ls.flatMap fun L => (Region.ready md ops L).map fun i => L.setIfInBounds i true).eraseDups
def layOk (md : Region.Mode) (ops : Array Oper) (pre : Nat → Array Bool → Bool) (fin : Array Bool → Bool) : Nat → List (Array Bool) → Bool
  | 0, Ls => Ls.all fun L => (Region.ready md ops L).isEmpty && fin L
  | n + 1, Ls => (Ls.all fun L => !(Region.ready md ops L).isEmpty && (Region.ready md ops L).all fun i => pre i L) && layOk md ops pre fin n (stepAll md ops Ls)
section
variable {P : Program} {ops : Array Oper} {Q : Exit → Act → World → Prop} {md : Region.Mode} {S : World → Prop}
theorem takes_sound (hs : Region.noSelect ops = true) (hQ : ∀ d c v a w, Q (.panic c) (Act.put a d v) w → Q (.panic c) a w) :
    ∀ (σ : List Nat) (L : Array Bool) (fuel : Nat) (a : Act) (w : World), takesOk md ops L σ = true → S w → wpTakes P ops S σ a (fun a' => wpAnyH P md ops Q S fuel (σ.foldl (fun L i => L.setIfInBounds i true) L) a' w) → wpAnyH P md ops Q S (fuel + σ.length) L a w
  | [], _, _, _, _, _, _, h => h
  | i :: σ, L, fuel, a, w, hf, hS, h => by
    obtain ⟨oi, v, hi, hy, h⟩ := h
    simp only [takesOk, Bool.and_eq_true] at hf
    exact wpAnyH_take hi hs hf.1.2 hf.1.1 (fun c a w => hQ _ c v a w) hy hS (takes_sound hs hQ σ _ fuel _ w hf.2 hS h)
theorem lay_sound {I : Array Bool → Act → World → Prop} {pre : Nat → Array Bool → Bool} {fin : Array Bool → Bool}
    (hstep : ∀ i L a w, pre i L = true → I L a w → wpOp P ops Q i (fun a' w' => S w' ∧ I (L.setIfInBounds i true) a' w') a w) (hfin : ∀ L a w, fin L = true → I L a w → Q .normal a w) :
    ∀ (n : Nat) (Ls : List (Array Bool)) (L : Array Bool) (a : Act) (w : World), layOk md ops pre fin n Ls = true → L ∈ Ls → I L a w → wpAnyH P md ops Q S n L a w
  | 0, Ls, L, a, w, hok, hL, hI => by
    have h := List.all_eq_true.1 hok L hL
    simp only [Bool.and_eq_true, List.isEmpty_iff] at h
    exact ⟨h.1, hfin L a w h.2 hI⟩
  | n + 1, Ls, L, a, w, hok, hL, hI => by
    simp only [layOk, Bool.and_eq_true] at hok
    have h := List.all_eq_true.1 hok.1 L hL
    simp only [Bool.and_eq_true, Bool.not_eq_true', List.isEmpty_eq_false_iff, List.all_eq_true] at h
    refine ⟨fun h0 => absurd h0 h.1, fun i hi => wpOp_mono (fun a' w' h' => ⟨h'.1, lay_sound hstep hfin n _ _ a' w' hok.2 ?_ h'.2⟩) (hstep i L a w (h.2 i hi) hI)⟩
    exact List.mem_eraseDups.2 (List.mem_flatMap.2 ⟨L, hL, List.mem_map.2 ⟨i, hi, rfl⟩⟩)
/-- The region: what may be taken first, then an invariant over what has come up. -/
theorem wp_region_par {K : Act → World → Prop} {id : Nat} {a : Act} {w : World} (σ : List Nat) (n : Nat) {I : Array Bool → Act → World → Prop} {pre : Nat → Array Bool → Bool} {fin : Array Bool → Bool} (hm : P.follows .mixedOrders = true) (hs : Region.noSelect ops = true)
    (hf : takesOk .any ops (Array.replicate ops.size false) σ = true) (hl : layOk .any ops pre fin n [σ.foldl (fun L i => L.setIfInBounds i true) (Array.replicate ops.size false)] = true) (hn : n + σ.length = ops.size) (hS : S w.drew)
    (hstep : ∀ i L a w, pre i L = true → I L a w → wpOp P ops (OnlyN K) i (fun a' w' => S w' ∧ I (L.setIfInBounds i true) a' w') a w) (hfin : ∀ L a w, fin L = true → I L a w → K a w)
    (h : wpTakes P ops S σ a (fun a' => I (σ.foldl (fun L i => L.setIfInBounds i true) (Array.replicate ops.size false)) a' w.drew)) : (Code.region id ops true).wp P (OnlyN K) a w := by
  have go : ∀ (σ' : List Nat) (a : Act), wpTakes P ops S σ' a (fun a' => I (σ.foldl (fun L i => L.setIfInBounds i true) (Array.replicate ops.size false)) a' w.drew) → wpTakes P ops S σ' a (fun a' => wpAnyH P .any ops (OnlyN K) S n (σ.foldl (fun L i => L.setIfInBounds i true) (Array.replicate ops.size false)) a' w.drew) := by
    intro σ'
    induction σ' with
    | nil => intro a h; exact lay_sound hstep hfin n _ _ a w.drew hl (List.mem_singleton.2 rfl) h
    | cons i σ' ih => intro a ⟨oi, v, hi, hy, h⟩; exact ⟨oi, v, hi, hy, ih _ h⟩
  have key := takes_sound (S := S) (Q := OnlyN K) hs (fun _ _ _ _ _ h => h) σ (Array.replicate ops.size false) n a w.drew hf hS (go σ a h)
  rw [hn] at key
  exact wp_region_held (S := S) hm key
theorem par_take {i : Nat} {σ : List Nat} {a : Act} {K : Act → Prop} (oi : Oper) (v : Value) (hi : ops[i]? = some oi) (hw : Region.wanted oi (yielded ops a.tmps) = true) (hy : ∀ w, S w → (execOp a.eval oi).run P w = .ok (.value v) w)
    (h : wpTakes P ops S σ (a.put oi.dst v) K) : wpTakes P ops S (i :: σ) a K := ⟨oi, v, hi, .inl ⟨hw, hy⟩, h⟩
theorem par_op {i : Nat} {K : Act → World → Prop} {a : Act} {w : World} (oi : Oper) (hi : ops[i]? = some oi) (hw : Region.wanted oi (yielded ops a.tmps) = true) (h : oi.wp P a w K Q) : wpOp P ops Q i K a w := by
  unfold wpOp
  simp only [hi, hw, if_true]
  exact .inl h
theorem par_call {i : Nat} {K : Act → World → Prop} {a : Act} {w : World} (oi : Oper) (hi : ops[i]? = some oi) (hw : Region.wanted oi (yielded ops a.tmps) = true) (f : FuncId) (args : Array Operand) (tys : Array TypeId)
    (ho : oi.op = .call { callee := .value (.func f), args := args, argTypes := tys }) (vs : List Value) (hvs : args.toList.map a.eval = vs) (hc : ∀ xs w, (callFunc f xs).run P w = .ok (.enter f xs) w) {R : Ending → World → Prop} (h : Calls P f vs.toArray w R)
    (hK : ∀ e w', R e w' → ∃ v, e = .returned v ∧ K (a.put oi.dst v) w') : wpOp P ops Q i K a w :=
  par_op oi hi hw (wp_call f args tys ho vs hvs hc h hK)
theorem par_store {i : Nat} {K : Act → World → Prop} {a : Act} {w : World} (oi : Oper) (w' : World) (hi : ops[i]? = some oi) (hw : Region.wanted oi (yielded ops a.tmps) = true) (hk : K a w') (h : ∀ K' : Act → World → Prop, K' a w' → oi.wp P a w K' Q) : wpOp P ops Q i K a w :=
  par_op oi hi hw (h K hk)
theorem par_run {i : Nat} {K : Act → World → Prop} {a : Act} {w : World} (oi : Oper) (v : Value) (w' : World) (hi : ops[i]? = some oi) (hw : Region.wanted oi (yielded ops a.tmps) = true) (hr : (execOp a.eval oi).run P w = .ok (.value v) w') (h : K (a.put oi.dst v) w') : wpOp P ops Q i K a w :=
  par_op oi hi hw (by unfold Oper.wp; rw [hr, Oper.upon_value]; exact h)
end
/-- Has it come up? -/
theorem up_set (L : Array Bool) (i j : Nat) : (L.setIfInBounds i true).getD j false = if i = j ∧ i < L.size then true else L.getD j false := by
  simp only [Array.getD_eq_getD_getElem?, Array.getElem?_setIfInBounds]
  by_cases h : i = j
  · subst h
    by_cases h2 : i < L.size
    · simp [h2]
    · simp [h2]
  · simp [h]
end Go.Proofs.Ytjcogpalmgcpbaa
