/- Pieces of a function's code (a region by its number, a block, an if), and a law for a call inside a region that draws its order. -/
import Derived.Test.YtjcogpalmgcpbaaRows
import Derived.WalkKit
import Derived.BigCall
import Derived.Deep.RegionHeld3
import Derived.Deep.AppendLies
namespace Go.Proofs.Ytjcogpalmgcpbaa
open Go
/-- The region of a number. -/
def regionAt (n : Nat) : Code → Option Code
  | .region id ops b => if id = n then some (.region id ops b) else none
  | .seq a b => match regionAt n a with
    | some c => some c
    | none => regionAt n b
  | .cond _ a b => match regionAt n a with
    | some c => some c
    | none => regionAt n b
  | .block _ c => regionAt n c
  | .loop c => regionAt n c
  | .scope c => regionAt n c
  | _ => none
noncomputable def regionOf (f : Func) (n : Nat) : Code := (f.body.bind (regionAt n)).getD .skip
/-- The block of a number. -/
def blockAt (n : Nat) : Code → Option Code
  | .block id c => if id = n then some (.block id c) else blockAt n c
  | .seq a b => match blockAt n a with
    | some c => some c
    | none => blockAt n b
  | .cond _ a b => match blockAt n a with
    | some c => some c
    | none => blockAt n b
  | .loop c => blockAt n c
  | .scope c => blockAt n c
  | _ => none
noncomputable def blockOf (f : Func) (n : Nat) : Code := (f.body.bind (blockAt n)).getD .skip
/-- The first 'if' that asks a slot. -/
def condAt (n : Nat) : Code → Option Code
  | .cond (.tmp t) a b => if t = n then some (.cond (.tmp t) a b) else match condAt n a with
    | some c => some c
    | none => condAt n b
  | .cond _ a b => match condAt n a with
    | some c => some c
    | none => condAt n b
  | .seq a b => match condAt n a with
    | some c => some c
    | none => condAt n b
  | .block _ c => condAt n c
  | .loop c => condAt n c
  | .scope c => condAt n c
  | _ => none
noncomputable def condOf (f : Func) (n : Nat) : Code := (f.body.bind (condAt n)).getD .skip

/-- A post that only a normal end meets. -/
def OnlyN (K : Act → World → Prop) : Exit → Act → World → Prop
  | .normal, a, w => K a w
  | _, _, _ => False
theorem of_onlyN {P : Program} {c : Code} {K : Act → World → Prop} {Q : Exit → Act → World → Prop} {a : Act} {w : World} (h : c.wp P (OnlyN K) a w) (hk : ∀ a w, K a w → Q .normal a w) : c.wp P Q a w :=
  Code.wp_mono (fun e a w h => by cases e <;> first | exact hk _ _ h | exact (h : False).elim) h
theorem wp_call {P : Program} {w : World} {o : Oper} {a : Act} {K : Act → World → Prop} {Q : Exit → Act → World → Prop} (f : FuncId) (args : Array Operand) (tys : Array TypeId)
    (ho : o.op = .call { callee := .value (.func f), args := args, argTypes := tys }) (vs : List Value) (hvs : args.toList.map a.eval = vs) (hc : ∀ xs w, (callFunc f xs).run P w = .ok (.enter f xs) w) {R : Ending → World → Prop} (h : Calls P f vs.toArray w R)
    (hK : ∀ e w', R e w' → ∃ v, e = .returned v ∧ K (a.put o.dst v) w') : Oper.wp P o a w K Q := by
  obtain ⟨dst, op, type, pos, after, guard⟩ := o
  simp only at ho
  subst ho
  unfold Oper.wp
  rw [execOp_call_go, hc, Oper.upon_enter]
  have hv : #[] ++ args.map a.eval ++ #[] = vs.toArray := by subst hvs; simp [← Array.toList_map]
  rw [hv]
  refine h.mono fun e w' hR => ?_
  obtain ⟨v, rfl, hk⟩ := hK e w' hR
  exact hk
/-- A call of a Go function, at a step of a region that draws its order. -/
theorem step_call {P : Program} {w : World} {ops : Array Oper} {o : Oper} {a : Act} {K : Act → World → Prop} {Q : Exit → Act → World → Prop} {E : Prop} (hgd : o.guard = none) (f : FuncId) (args : Array Operand) (tys : Array TypeId)
    (ho : o.op = .call { callee := .value (.func f), args := args, argTypes := tys }) (vs : List Value) (hvs : args.toList.map a.eval = vs) (hc : ∀ xs w, (callFunc f xs).run P w = .ok (.enter f xs) w) {R : Ending → World → Prop} (h : Calls P f vs.toArray w R)
    (hK : ∀ e w', R e w' → ∃ v, e = .returned v ∧ K (a.put o.dst v) w') : if Region.wanted o (yielded ops a.tmps) = true then Oper.wp P o a w K Q else E := by
  have hw : Region.wanted o (yielded ops a.tmps) = true := by simp [Region.wanted, hgd]
  rw [if_pos hw]
  exact wp_call f args tys ho vs hvs hc h hK
/-- A call of a Go function, in a region that draws nothing. -/
theorem wpList_call {P : Program} {w : World} {ops : Array Oper} {rest : List Oper} {o : Oper} {a : Act} {Q : Exit → Act → World → Prop} (hgd : o.guard = none) (f : FuncId) (args : Array Operand) (tys : Array TypeId)
    (ho : o.op = .call { callee := .value (.func f), args := args, argTypes := tys }) (vs : List Value) (hvs : args.toList.map a.eval = vs) (hc : ∀ xs w, (callFunc f xs).run P w = .ok (.enter f xs) w) {R : Ending → World → Prop} (h : Calls P f vs.toArray w R)
    (hK : ∀ e w', R e w' → ∃ v, e = .returned v ∧ wpList P ops Q rest (a.put o.dst v) w') : wpList P ops Q (o :: rest) a w :=
  wpList_plain hgd fun _ hk => wp_call f args tys ho vs hvs hc h fun e w' hR => let ⟨v, he, h⟩ := hK e w' hR; ⟨v, he, hk _ _ h⟩
end Go.Proofs.Ytjcogpalmgcpbaa
