/- wire.Int, wire.Text and the reference's Int, Text, decimal: each walked once. -/
import Derived.Test.YteopjiedjnaeiaaGreatRows
import Derived.Test.YteopjiedjnaeiaaGreatShelf
import Derived.WalkKit
import Derived.WalkSmall
import Derived.Lib.Hide
import Derived.Lib.LaidTab
import Derived.Lib.ItoaLen
import Derived.Lib.ItoaMem
import Derived.Deep.QuietTactic
import Derived.Deep.Draws
import Derived.BigQuiet
import Derived.Laws.BytesArg
import Derived.Deep.DeepMust
import Derived.Deep.DeepCutAuto
import Derived.BigCall
import Derived.Deep.RegionHeld3
import Derived.Deep.AppendLies
import Derived.Sort.Statements
import Derived.Sort.Lot0
import Derived.Laws.StructEq
import Derived.Deep.MidRow
import Derived.OrdersHeld
import Derived.Laws.RangeString
import Derived.Laws.RangeAny
import Derived.LoopTactic
import Derived.OwnWalk
import Derived.Laws.MakeOwn
import Derived.Lib.ConvBytes
import Derived.Lib.AtoiErrMem
/- Words and small lemmas that all walks of this seat use: worlds below a block, tables, builders, strings. -/
namespace Go.Proofs.YteopjiedjnaeiaaGreat
open Go Go.RowKit Go.Sort

theorem ret_int {k : IntKind} {a b : Int} (h : a = b) : Ending.returned (.int k a) = .returned (.int k b) := by rw [h]
theorem ret_bool {a b : Bool} (h : a = b) : Ending.returned (.bool a) = .returned (.bool b) := by rw [h]
theorem ret_str {a b : ByteArray} (h : a = b) : Ending.returned (.string a) = .returned (.string b) := by rw [h]




/-- The table that strconv.Itoa reads lies as it was laid. -/
def Tabs (w : World) : Prop := Lib.TabIs Tryz.prog w "internal/strconv.uint64pow10" .u64 Lib.pow10Tab









theorem Tabs.drewN {w : World} (h : Tabs w) (n : Nat) : Tabs (w.drewN n) := h
theorem Tabs.drew {w : World} (h : Tabs w) : Tabs w.drew := h


theorem bcell {W w1 : World} (hb : Below W.heap.size W w1) : (∀ b o, b < W.heap.size → w1.cell? ⟨b, o, none⟩ = W.cell? ⟨b, o, none⟩) ∧ (∀ b o, b < W.heap.size → w1.frozen? ⟨b, o, none⟩ = W.frozen? ⟨b, o, none⟩) :=
  ⟨fun b o h => hb.cell (p := ⟨b, o, none⟩) h, fun b o h => hb.frozen (p := ⟨b, o, none⟩) h⟩

theorem below_grow (w : World) (k : Nat) (os : Array Obj) : Below w.heap.size w (grow (w.drewN k) os) := by
  refine ⟨rfl, rfl, rfl, by simp [grow], fun i hi => ?_⟩
  show (w.heap ++ os)[i]? = w.heap[i]?
  rw [Array.getElem?_append_left hi]

theorem Below.le {B : Nat} {w w' : World} (h : Below B w w') : w.heap.size ≤ w'.heap.size := h.size

theorem ba_data (l : List UInt8) : (⟨l.toArray⟩ : ByteArray).data.toList = l := rfl
theorem ba_ext {a b : ByteArray} (h : a.data.toList = b.data.toList) : a = b := by
  cases a; cases b; simp at h; rw [h]
theorem ba_app (a b : ByteArray) : (a ++ b).data.toList = a.data.toList ++ b.data.toList := by
  rw [ByteArray.data_append]; simp
theorem ba_size (a : ByteArray) : a.size = a.data.toList.length := by cases a; rfl














end Go.Proofs.YteopjiedjnaeiaaGreat
/- Pieces of a function's code (a region by its number, a block, an if), and a law for a call inside a region that draws its order. -/
namespace Go.Proofs.YteopjiedjnaeiaaGreat
open Go
/-- The region of a number. -/
def regionAt (n : Nat) : Code → Option Code
  | .region id ops b => if id = n then some (.region id ops b) else none
  | .seq a b => match regionAt n a with
    | some c => some c
    | none => regionAt n b
  | .cond _ a b => match regionAt n a with
    | some c => some c
    | none => regionAt n b
  | .block _ c => regionAt n c
  | .loop c => regionAt n c
  | .scope c => regionAt n c
  | _ => none
noncomputable def regionOf (f : Func) (n : Nat) : Code := (f.body.bind (regionAt n)).getD .skip
/-- The block of a number. -/
def blockAt (n : Nat) : Code → Option Code
  | .block id c => if id = n then some (.block id c) else blockAt n c
  | .seq a b => match blockAt n a with
    | some c => some c
    | none => blockAt n b
  | .cond _ a b => match blockAt n a with
    | some c => some c
    | none => blockAt n b
  | .loop c => blockAt n c
  | .scope c => blockAt n c
  | _ => none
noncomputable def blockOf (f : Func) (n : Nat) : Code := (f.body.bind (blockAt n)).getD .skip
/-- The first 'if' that asks a slot. -/
def condAt (n : Nat) : Code → Option Code
  | .cond (.tmp t) a b => if t = n then some (.cond (.tmp t) a b) else match condAt n a with
    | some c => some c
    | none => condAt n b
  | .cond _ a b => match condAt n a with
    | some c => some c
    | none => condAt n b
  | .seq a b => match condAt n a with
    | some c => some c
    | none => condAt n b
  | .block _ c => condAt n c
  | .loop c => condAt n c
  | .scope c => condAt n c
  | _ => none
noncomputable def condOf (f : Func) (n : Nat) : Code := (f.body.bind (condAt n)).getD .skip

/-- A post that only a normal end meets. -/
def OnlyN (K : Act → World → Prop) : Exit → Act → World → Prop
  | .normal, a, w => K a w
  | _, _, _ => False
theorem of_onlyN {P : Program} {c : Code} {K : Act → World → Prop} {Q : Exit → Act → World → Prop} {a : Act} {w : World} (h : c.wp P (OnlyN K) a w) (hk : ∀ a w, K a w → Q .normal a w) : c.wp P Q a w :=
  Code.wp_mono (fun e a w h => by cases e <;> first | exact hk _ _ h | exact (h : False).elim) h
theorem wp_call {P : Program} {w : World} {o : Oper} {a : Act} {K : Act → World → Prop} {Q : Exit → Act → World → Prop} (f : FuncId) (args : Array Operand) (tys : Array TypeId)
    (ho : o.op = .call { callee := .value (.func f), args := args, argTypes := tys }) (vs : List Value) (hvs : args.toList.map a.eval = vs) (hc : ∀ xs w, (callFunc f xs).run P w = .ok (.enter f xs) w) {R : Ending → World → Prop} (h : Calls P f vs.toArray w R)
    (hK : ∀ e w', R e w' → ∃ v, e = .returned v ∧ K (a.put o.dst v) w') : Oper.wp P o a w K Q := by
  obtain ⟨dst, op, type, pos, after, guard⟩ := o
  simp only at ho
  subst ho
  unfold Oper.wp
  rw [execOp_call_go, hc, Oper.upon_enter]
  have hv : #[] ++ args.map a.eval ++ #[] = vs.toArray := by subst hvs; simp [← Array.toList_map]
  rw [hv]
  refine h.mono fun e w' hR => ?_
  obtain ⟨v, rfl, hk⟩ := hK e w' hR
  exact hk
/-- A call of a Go function, at a step of a region that draws its order. -/
theorem step_call {P : Program} {w : World} {ops : Array Oper} {o : Oper} {a : Act} {K : Act → World → Prop} {Q : Exit → Act → World → Prop} {E : Prop} (hgd : o.guard = none) (f : FuncId) (args : Array Operand) (tys : Array TypeId)
    (ho : o.op = .call { callee := .value (.func f), args := args, argTypes := tys }) (vs : List Value) (hvs : args.toList.map a.eval = vs) (hc : ∀ xs w, (callFunc f xs).run P w = .ok (.enter f xs) w) {R : Ending → World → Prop} (h : Calls P f vs.toArray w R)
    (hK : ∀ e w', R e w' → ∃ v, e = .returned v ∧ K (a.put o.dst v) w') : if Region.wanted o (yielded ops a.tmps) = true then Oper.wp P o a w K Q else E := by
  have hw : Region.wanted o (yielded ops a.tmps) = true := by simp [Region.wanted, hgd]
  rw [if_pos hw]
  exact wp_call f args tys ho vs hvs hc h hK
/-- A call of a Go function, in a region that draws nothing. -/
theorem wpList_call {P : Program} {w : World} {ops : Array Oper} {rest : List Oper} {o : Oper} {a : Act} {Q : Exit → Act → World → Prop} (hgd : o.guard = none) (f : FuncId) (args : Array Operand) (tys : Array TypeId)
    (ho : o.op = .call { callee := .value (.func f), args := args, argTypes := tys }) (vs : List Value) (hvs : args.toList.map a.eval = vs) (hc : ∀ xs w, (callFunc f xs).run P w = .ok (.enter f xs) w) {R : Ending → World → Prop} (h : Calls P f vs.toArray w R)
    (hK : ∀ e w', R e w' → ∃ v, e = .returned v ∧ wpList P ops Q rest (a.put o.dst v) w') : wpList P ops Q (o :: rest) a w :=
  wpList_plain hgd fun _ hk => wp_call f args tys ho vs hvs hc h fun e w' hR => let ⟨v, he, h⟩ := hK e w' hR; ⟨v, he, hk _ _ h⟩
end Go.Proofs.YteopjiedjnaeiaaGreat
/- What the merging of a stable sort does, in plain words: an exchange of segments, a rotation, two sorted segments into one. -/
namespace Go.Proofs.YteopjiedjnaeiaaGreat
open Go.Sort
variable {α : Type}

theorem get_at [Inhabited α] (L1 L2 : List α) (x : α) : (List.toArray (L1 ++ x :: L2))[L1.length]! = x := by
  rw [getElem!_pos _ _ (by simp)]; simp
theorem set_at (L1 L2 : List α) (x y : α) : (L1 ++ x :: L2).set L1.length y = L1 ++ y :: L2 := by
  rw [List.set_append_right _ _ (Nat.le_refl _)]; simp
theorem swp_list [Inhabited α] (L1 L2 L3 : List α) (x y : α) : swp (List.toArray (L1 ++ x :: (L2 ++ y :: L3))) L1.length (L1.length + 1 + L2.length) = List.toArray (L1 ++ y :: (L2 ++ x :: L3)) := by
  have e1 := get_at L1 (L2 ++ y :: L3) x
  have e2 : (List.toArray (L1 ++ x :: (L2 ++ y :: L3)))[L1.length + 1 + L2.length]! = y := by
    have := get_at (L1 ++ x :: L2) L3 y
    simp only [List.append_assoc, List.cons_append, List.length_append, List.length_cons] at this
    rw [show L1.length + 1 + L2.length = L1.length + (L2.length + 1) by omega]
    exact this
  unfold swp
  rw [e1, e2]
  simp only [List.setIfInBounds_toArray]
  congr 1
  rw [set_at]
  have := set_at (L1 ++ y :: L2) L3 y x
  simp only [List.append_assoc, List.cons_append, List.length_append, List.length_cons] at this
  rw [show L1.length + 1 + L2.length = L1.length + (L2.length + 1) by omega]
  exact this
/-- k elements of X and Z exchanged. -/
def midX (P X Y Z S : List α) (k : Nat) : List α := P ++ (Z.take k ++ (X.drop k ++ (Y ++ (X.take k ++ (Z.drop k ++ S)))))
theorem midX_zero (P X Y Z S : List α) : midX P X Y Z S 0 = P ++ (X ++ (Y ++ (Z ++ S))) := by simp [midX]
theorem midX_last {P X Y Z S : List α} {n : Nat} (hx : X.length = n) (hz : Z.length = n) : midX P X Y Z S n = P ++ (Z ++ (Y ++ (X ++ S))) := by
  unfold midX
  rw [List.take_of_length_le (by omega), List.take_of_length_le (by omega), List.drop_eq_nil_of_le (by omega), List.drop_eq_nil_of_le (by omega)]
  simp
theorem midX_len {P X Y Z S : List α} {n k : Nat} (hx : X.length = n) (hz : Z.length = n) (hk : k ≤ n) : (midX P X Y Z S k).length = P.length + n + Y.length + n + S.length := by
  simp only [midX, List.length_append, List.length_take, List.length_drop]; omega
theorem midX_step [Inhabited α] {P X Y Z S : List α} {n k : Nat} (hx : X.length = n) (hz : Z.length = n) (hk : k < n) : swp (List.toArray (midX P X Y Z S k)) (P.length + k) (P.length + n + Y.length + k) = List.toArray (midX P X Y Z S (k + 1)) := by
  have hX : X.drop k = X[k]'(by omega) :: X.drop (k + 1) := List.drop_eq_getElem_cons (by omega)
  have hZ : Z.drop k = Z[k]'(by omega) :: Z.drop (k + 1) := List.drop_eq_getElem_cons (by omega)
  have tX : X.take (k + 1) = X.take k ++ [X[k]'(by omega)] := by rw [List.take_add_one, List.getElem?_eq_getElem (by omega)]; rfl
  have tZ : Z.take (k + 1) = Z.take k ++ [Z[k]'(by omega)] := by rw [List.take_add_one, List.getElem?_eq_getElem (by omega)]; rfl
  have h := swp_list (P ++ Z.take k) (X.drop (k + 1) ++ (Y ++ X.take k)) (Z.drop (k + 1) ++ S) (X[k]'(by omega)) (Z[k]'(by omega))
  have l1 : (P ++ Z.take k).length = P.length + k := by simp; omega
  have l2 : (P ++ Z.take k).length + 1 + (X.drop (k + 1) ++ (Y ++ X.take k)).length = P.length + n + Y.length + k := by simp; omega
  rw [l2, l1] at h
  have e1 : midX P X Y Z S k = P ++ Z.take k ++ X[k]'(by omega) :: (X.drop (k + 1) ++ (Y ++ X.take k) ++ Z[k]'(by omega) :: (Z.drop (k + 1) ++ S)) := by
    unfold midX; rw [hX, hZ]; simp only [List.append_assoc, List.cons_append]
  have e2 : midX P X Y Z S (k + 1) = P ++ Z.take k ++ Z[k]'(by omega) :: (X.drop (k + 1) ++ (Y ++ X.take k) ++ X[k]'(by omega) :: (Z.drop (k + 1) ++ S)) := by
    unfold midX; rw [tX, tZ]; simp only [List.append_assoc, List.cons_append, List.nil_append]
  rw [e1, e2]; exact h
/-- Sorted, each element not less than those ahead of it. -/
def Srt (lt : α → α → Bool) (l : List α) : Prop := l.Pairwise fun a b => lt b a = false
variable {lt : α → α → Bool}
theorem srt_app {A B : List α} : Srt lt (A ++ B) ↔ Srt lt A ∧ Srt lt B ∧ ∀ a ∈ A, ∀ b ∈ B, lt b a = false := List.pairwise_append
theorem lt_not (h : SWO lt) {x y : α} (hx : lt x y = true) : lt y x = false := by
  cases hy : lt y x with
  | false => rfl
  | true => have := h.trans x y x hx hy; rw [h.irrefl] at this; cases this
/-- The halves of a merge. -/
theorem sym_halves (h : SWO lt) {A1 A2 B1 B2 C1 C2 : List α} (hA : Srt lt (A1 ++ A2)) (hB : Srt lt (B1 ++ B2)) (h1 : ∀ x ∈ A1, ∀ y ∈ B2, lt y x = false) (h2 : ∀ y ∈ B1, ∀ x ∈ A2, lt y x = true)
    (p1 : C1.Perm (A1 ++ B1)) (s1 : Srt lt C1) (p2 : C2.Perm (A2 ++ B2)) (s2 : Srt lt C2) : (C1 ++ C2).Perm ((A1 ++ A2) ++ (B1 ++ B2)) ∧ Srt lt (C1 ++ C2) := by
  obtain ⟨_, _, a12⟩ := srt_app.1 hA
  obtain ⟨_, _, b12⟩ := srt_app.1 hB
  constructor
  · refine (p1.append p2).trans ?_
    have : (A1 ++ B1 ++ (A2 ++ B2)).Perm (A1 ++ A2 ++ (B1 ++ B2)) := by
      rw [List.append_assoc, List.append_assoc, ← List.append_assoc B1, ← List.append_assoc A2]
      exact (List.perm_append_comm.append_right B2).append_left A1
    exact this
  · refine srt_app.2 ⟨s1, s2, fun c hc e he => ?_⟩
    rcases List.mem_append.1 (p1.mem_iff.1 hc) with hc | hc <;> rcases List.mem_append.1 (p2.mem_iff.1 he) with he | he
    · exact a12 c hc e he
    · exact h1 c hc e he
    · exact lt_not h (h2 c hc e he)
    · exact b12 c hc e he
/-- One element into a sorted list. -/
theorem srt_left (h : SWO lt) {x : α} {B1 B2 : List α} (hB : Srt lt (B1 ++ B2)) (h1 : ∀ y ∈ B1, lt y x = true) (h2 : ∀ y ∈ B2, lt y x = false) : Srt lt (B1 ++ x :: B2) := by
  obtain ⟨s1, s2, b⟩ := srt_app.1 hB
  refine srt_app.2 ⟨s1, List.pairwise_cons.2 ⟨h2, s2⟩, fun y hy z hz => ?_⟩
  rcases List.mem_cons.1 hz with rfl | hz
  · exact lt_not h (h1 y hy)
  · exact b y hy z hz
theorem srt_right (h : SWO lt) {y : α} {A1 A2 : List α} (hA : Srt lt (A1 ++ A2)) (h1 : ∀ x ∈ A1, lt y x = false) (h2 : ∀ x ∈ A2, lt y x = true) : Srt lt (A1 ++ y :: A2) := by
  obtain ⟨s1, s2, b⟩ := srt_app.1 hA
  refine srt_app.2 ⟨s1, List.pairwise_cons.2 ⟨fun x hx => lt_not h (h2 x hx), s2⟩, fun x hx z hz => ?_⟩
  rcases List.mem_cons.1 hz with rfl | hz
  · exact h1 x hx
  · exact b x hx z hz
/-- Sorted: what stands ahead of an element that passes a test, and behind one that fails. -/
theorem srt_get {l : List α} (hs : Srt lt l) {i j : Nat} (hij : i ≤ j) (hj : j < l.length) (h : SWO lt) : lt l[j] (l[i]'(by omega)) = false := by
  rcases Nat.lt_or_eq_of_le hij with hl | rfl
  · exact (List.pairwise_iff_getElem.1 hs) i j (by omega) hj hl
  · exact h.irrefl _
theorem lt_le (h : SWO lt) {x y z : α} (hxy : lt x y = true) (hyz : lt z y = false) : lt x z = true := by
  cases hxz : lt x z with
  | true => rfl
  | false => have := h.ntrans x z y hxz hyz; rw [hxy] at this; cases this
theorem le_lt (h : SWO lt) {x y z : α} (hxy : lt y x = false) (hyz : lt y z = true) : lt x z = true := by
  cases hxz : lt x z with
  | true => rfl
  | false => have := h.ntrans y x z hxy hxz; rw [hyz] at this; cases this
end Go.Proofs.YteopjiedjnaeiaaGreat
/- api.Request as a value: cells, boxes, rows, ==. -/
namespace Go.Proofs.YteopjiedjnaeiaaGreat
open Go Go.RowKit Go.Sort Go.Lib

structure Req where
  server : Int
  seq : Int
  cancel : Bool
  student : Int
  term : Int
  code : ByteArray
  give : ByteArray
  priority : Int
  day : Int
def Req.cells (e : Req) : Array Value := #[.int .i64 e.server, .int .i64 e.seq, .bool e.cancel, .int .i64 e.student, .int .i64 e.term, .string e.code, .string e.give, .int .i64 e.priority, .int .i64 e.day]
@[reducible] def Req.val (e : Req) : Value := .agg #[.int .i64 e.server, .int .i64 e.seq, .bool e.cancel, .int .i64 e.student, .int .i64 e.term, .string e.code, .string e.give, .int .i64 e.priority, .int .i64 e.day]
/-- Block b holds one. -/
def ReqBox (w : World) (b : Nat) (e : Req) : Prop := w.heap[b]? = some (.cells e.cells 39 (0, 0))
/-- One lies in block b from offset o on. -/
def ReqAt (w : World) (b o : Nat) (e : Req) : Prop := w.rangeAt b o e.cells.toList
theorem ReqBox.lt {w : World} {b : Nat} {e : Req} (h : ReqBox w b e) : b < w.heap.size := by
  rcases Nat.lt_or_ge b w.heap.size with h' | h'
  · exact h'
  · unfold ReqBox at h; rw [Array.getElem?_eq_none h'] at h; cases h
theorem ReqBox.below {w w' : World} {b : Nat} {e : Req} (h : ReqBox w b e) (hk : RowKit.Below w.heap.size w w') : ReqBox w' b e := (hk.block b h.lt).trans h
theorem ReqBox.cell {w : World} {b : Nat} {e : Req} (h : ReqBox w b e) (k : Nat) : w.cell? ⟨b, k, none⟩ = e.cells[k]? := Lib.cell_of_heap h k
theorem ReqBox.new (w : World) (e : Req) : ReqBox (w.alloc (.cells e.cells 39)) w.heap.size e := heap_alloc_new w _
theorem ReqBox.at_ {w : World} {b : Nat} {e : Req} (h : ReqBox w b e) : ReqAt w b 0 e := by
  intro j v hv
  rw [Nat.zero_add, h.cell j]; simpa using hv
theorem ReqBox.set {w : World} {b : Nat} {e e' : Req} (h : ReqBox w b e) (j : Nat) (u : Value) (he : e.cells.setIfInBounds j u = e'.cells) : ReqBox (w.setCell ⟨b, j, none⟩ u) b e' := by
  unfold ReqBox at *
  rw [← he]
  simp [World.setCell, Array.getElem?_modify, h]
theorem ReqBox.frozen {w : World} {b : Nat} {e : Req} (h : ReqBox w b e) (j : Nat) : w.frozen? ⟨b, j, none⟩ = false := Lib.frozen_of_heap h j
theorem ReqBox.far {w : World} {b b' : Nat} {e : Req} (h : ReqBox w b e) (hb : b ≠ b') (j : Nat) (u : Value) : ReqBox (w.setCell ⟨b', j, none⟩ u) b e := by
  unfold ReqBox at *
  rw [Below.heap_setCell _ _ _ _ hb]; exact h
theorem ReqAt.below {w w' : World} {B b o : Nat} {e : Req} (h : ReqAt w b o e) (hb : RowKit.Below B w w') (hB : b < B) : ReqAt w' b o e := fun j v hv => by
  rw [hb.cell (p := ⟨b, o + j, none⟩) hB]; exact h j v hv
theorem ReqAt.cell {w : World} {b o : Nat} {e : Req} (h : ReqAt w b o e) (j : Nat) {v : Value} (hv : e.cells.toList[j]? = some v) : w.cell? ⟨b, o + j, none⟩ = some v := h j v hv
theorem req_load (w : World) (b o : Nat) (e : Req) (h : ReqAt w b o e) : (Instr.loadAt 39 (.pointer (some ⟨b, o, none⟩))).run Tryz.prog w = .ok e.val w :=
  run_loadAt_mid w b o 39 e.cells.toList _ h Tryz.underlying39 rfl (by kernel_rfl)
/-- Equal as Go compares them. -/
def eqReq (a b : Req) : Bool := decide (a.server = b.server) && (decide (a.seq = b.seq) && (decide (a.cancel = b.cancel) && (decide (a.student = b.student) && (decide (a.term = b.term) && (decide (a.code.toList = b.code.toList) && (decide (a.give.toList = b.give.toList) && (decide (a.priority = b.priority) && (decide (a.day = b.day)))))))))
theorem req_ba {a b : ByteArray} : a.toList = b.toList ↔ a = b := by
  rw [ByteArray.toList_eq, ByteArray.toList_eq]
  constructor
  · intro h; cases a; cases b; simp_all
  · rintro rfl; rfl
theorem eqReq_iff (a b : Req) : eqReq a b = true ↔ a = b := by
  simp only [eqReq, Bool.and_eq_true, decide_eq_true_eq, req_ba]
  constructor
  · rintro ⟨h0, h1, h2, h3, h4, h5, h6, h7, h8⟩; cases a; cases b; simp_all
  · rintro rfl; simp
theorem req_ok_and (p : Prop) [Decidable p] (q : Bool) (w : World) : Result.ok (decide p && q) w = if p then Result.ok q w else Result.ok false w := by by_cases h : p <;> simp [h]
theorem req_ok_dec (p : Prop) [Decidable p] (w : World) : Result.ok (decide p) w = if p then Result.ok true w else Result.ok false w := by by_cases h : p <;> simp [h]
set_option maxRecDepth 100000 in
theorem req_eqIn (a b : Req) (w : World) : (Op.equalIn 10000 39 a.val b.val).run Tryz.prog w = .ok (eqReq a b) w := by
  have hp : Tryz.prog.stoodInHeld 39 = false := by kernel_rfl
  rw [show (10000 : Nat) = 9999 + 1 from rfl, run_equalIn_agg w _ _ _ _ (by kernel_rfl) hp]
  unfold Program.fieldsOf
  rw [Tryz.underlying39]
  go_simp
  simp only [eqReq, req_ok_and]
  rw [req_ok_dec]
theorem req_eql (a b : Req) (w : World) : (binOp .eql 39 a.val b.val).run Tryz.prog w = .ok (.bool (eqReq a b)) w := by
  rw [run_eql_struct, req_eqIn]; rfl
/-- .. written out. -/
theorem req_eql_cells (x0 x1 x3 x4 x7 x8 : Int) (x5 x6 : ByteArray) (x2 : Bool) (y0 y1 y3 y4 y7 y8 : Int) (y5 y6 : ByteArray) (y2 : Bool) (w : World) : (binOp .eql 39 (.agg #[.int .i64 x0, .int .i64 x1, .bool x2, .int .i64 x3, .int .i64 x4, .string x5, .string x6, .int .i64 x7, .int .i64 x8]) (.agg #[.int .i64 y0, .int .i64 y1, .bool y2, .int .i64 y3, .int .i64 y4, .string y5, .string y6, .int .i64 y7, .int .i64 y8])).run Tryz.prog w = .ok (.bool (eqReq ⟨x0, x1, x2, x3, x4, x5, x6, x7, x8⟩ ⟨y0, y1, y2, y3, y4, y5, y6, y7, y8⟩)) w :=
  req_eql ⟨x0, x1, x2, x3, x4, x5, x6, x7, x8⟩ ⟨y0, y1, y2, y3, y4, y5, y6, y7, y8⟩ w
theorem req_neq (a b : Req) (w : World) : (binOp .neq 39 a.val b.val).run Tryz.prog w = .ok (.bool (!eqReq a b)) w := by
  rw [run_neq_struct, req_eqIn]; rfl
theorem req_neq_cells (x0 x1 x3 x4 x7 x8 : Int) (x5 x6 : ByteArray) (x2 : Bool) (y0 y1 y3 y4 y7 y8 : Int) (y5 y6 : ByteArray) (y2 : Bool) (w : World) : (binOp .neq 39 (.agg #[.int .i64 x0, .int .i64 x1, .bool x2, .int .i64 x3, .int .i64 x4, .string x5, .string x6, .int .i64 x7, .int .i64 x8]) (.agg #[.int .i64 y0, .int .i64 y1, .bool y2, .int .i64 y3, .int .i64 y4, .string y5, .string y6, .int .i64 y7, .int .i64 y8])).run Tryz.prog w = .ok (.bool (!eqReq ⟨x0, x1, x2, x3, x4, x5, x6, x7, x8⟩ ⟨y0, y1, y2, y3, y4, y5, y6, y7, y8⟩)) w :=
  req_neq ⟨x0, x1, x2, x3, x4, x5, x6, x7, x8⟩ ⟨y0, y1, y2, y3, y4, y5, y6, y7, y8⟩ w
end Go.Proofs.YteopjiedjnaeiaaGreat
/- A region that draws its order, walked along ONE schedule: operations that yield the same in every world that meets S are taken first, the others (calls, allocs, stores) come up alone. The schedule's conditions are one closed fact. -/
namespace Go.Proofs.YteopjiedjnaeiaaGreat
open Go

/-- The schedule's conditions: (i, true): may come up and is apart from all that has not; (i, false): it alone may come up. -/
def flowOk (md : Region.Mode) (ops : Array Oper) : Array Bool → List (Nat × Bool) → Bool
  | listed, [] => (Region.ready md ops listed).isEmpty
  | listed, (i, true) :: σ => (Region.ready md ops listed).contains i && Region.free md ops listed i && flowOk md ops (listed.setIfInBounds i true) σ
  | listed, (i, false) :: σ => (Region.ready md ops listed == [i]) && flowOk md ops (listed.setIfInBounds i true) σ

/-- Along a schedule. -/
def wpFlow (P : Program) (ops : Array Oper) (Q : Exit → Act → World → Prop) (S : World → Prop) : List (Nat × Bool) → Act → World → Prop
  | [], a, w => Q .normal a w
  | (i, true) :: σ, a, w => ∃ oi v, ops[i]? = some oi ∧ YieldsIf P ops S oi v a ∧ wpFlow P ops Q S σ (a.put oi.dst v) w
  | (i, false) :: σ, a, w => wpOp P ops Q i (fun a' w' => S w' ∧ wpFlow P ops Q S σ a' w') a w

section
variable {P : Program} {ops : Array Oper} {Q : Exit → Act → World → Prop} {md : Region.Mode} {S : World → Prop}
theorem flow_sound (hs : Region.noSelect ops = true) (hQ : ∀ d c v a w, Q (.panic c) (Act.put a d v) w → Q (.panic c) a w) :
    ∀ (σ : List (Nat × Bool)) (listed : Array Bool) (fuel : Nat) (a : Act) (w : World), flowOk md ops listed σ = true → σ.length ≤ fuel → S w → wpFlow P ops Q S σ a w → wpAnyH P md ops Q S fuel listed a w
  | [], listed, fuel, a, w, hf, _, _, h => by
    refine wpAnyH_done ?_ h fuel
    simpa [flowOk] using hf
  | (i, true) :: σ, listed, fuel, a, w, hf, hl, hS, h => by
    obtain ⟨oi, v, hi, hy, h⟩ := h
    simp only [flowOk, Bool.and_eq_true] at hf
    cases fuel with
    | zero => simp at hl
    | succ fuel => exact wpAnyH_take hi hs hf.1.2 hf.1.1 (fun c a w => hQ _ c v a w) hy hS (flow_sound hs hQ σ _ fuel _ w hf.2 (by simpa using hl) hS h)
  | (i, false) :: σ, listed, fuel, a, w, hf, hl, hS, h => by
    simp only [flowOk, Bool.and_eq_true, beq_iff_eq] at hf
    cases fuel with
    | zero => simp at hl
    | succ fuel =>
      refine wpAnyH_all hf.1 (by simp) fun j hj => ?_
      obtain rfl : j = i := by simpa using hj
      exact wpOp_mono (fun a' w' h' => ⟨h'.1, flow_sound hs hQ σ _ fuel a' w' hf.2 (by simpa using hl) h'.1 h'.2⟩) h

/-- The region. -/
theorem wp_region_flow {K : Act → World → Prop} {id : Nat} {a : Act} {w : World} (σ : List (Nat × Bool)) (hm : P.follows .mixedOrders = true) (hs : Region.noSelect ops = true)
    (hf : flowOk .any ops (Array.replicate ops.size false) σ = true) (hl : σ.length ≤ ops.size) (hS : S w.drew) (h : wpFlow P ops (OnlyN K) S σ a w.drew) : (Code.region id ops true).wp P (OnlyN K) a w :=
  wp_region_held hm (flow_sound hs (fun _ _ _ _ _ h => h) σ _ _ a w.drew hf hl hS h)

theorem flow_take {i : Nat} {σ : List (Nat × Bool)} {a : Act} {w : World} (oi : Oper) (v : Value) (hi : ops[i]? = some oi) (hw : Region.wanted oi (yielded ops a.tmps) = true) (hy : ∀ w, S w → (execOp a.eval oi).run P w = .ok (.value v) w)
    (h : wpFlow P ops Q S σ (a.put oi.dst v) w) : wpFlow P ops Q S ((i, true) :: σ) a w := ⟨oi, v, hi, .inl ⟨hw, hy⟩, h⟩
theorem flow_skip {i : Nat} {σ : List (Nat × Bool)} {a : Act} {w : World} (oi : Oper) (hi : ops[i]? = some oi) (hw : Region.wanted oi (yielded ops a.tmps) = false)
    (h : wpFlow P ops Q S σ (a.put oi.dst undef) w) : wpFlow P ops Q S ((i, true) :: σ) a w := ⟨oi, undef, hi, .inr ⟨hw, rfl⟩, h⟩
theorem flow_skip' {i : Nat} {σ : List (Nat × Bool)} {a : Act} {w : World} (oi : Oper) (hi : ops[i]? = some oi) (hw : Region.wanted oi (yielded ops a.tmps) = false) (hS : S w)
    (h : wpFlow P ops Q S σ (a.put oi.dst undef) w) : wpFlow P ops Q S ((i, false) :: σ) a w := by
  unfold wpFlow wpOp
  simp only [hi, hw, Bool.false_eq_true, if_false]
  exact ⟨hS, h⟩
/-- An operation that comes up alone. -/
theorem flow_op {i : Nat} {σ : List (Nat × Bool)} {a : Act} {w : World} (oi : Oper) (hi : ops[i]? = some oi) (hw : Region.wanted oi (yielded ops a.tmps) = true)
    (h : oi.wp P a w (fun a' w' => S w' ∧ wpFlow P ops Q S σ a' w') Q) : wpFlow P ops Q S ((i, false) :: σ) a w := by
  unfold wpFlow wpOp
  simp only [hi, hw, if_true]
  exact .inl h
/-- .. a call of a Go function. -/
theorem flow_call {i : Nat} {σ : List (Nat × Bool)} {a : Act} {w : World} (oi : Oper) (hi : ops[i]? = some oi) (hw : Region.wanted oi (yielded ops a.tmps) = true) (f : FuncId) (args : Array Operand) (tys : Array TypeId)
    (ho : oi.op = .call { callee := .value (.func f), args := args, argTypes := tys }) (vs : List Value) (hvs : args.toList.map a.eval = vs) (hc : ∀ xs w, (callFunc f xs).run P w = .ok (.enter f xs) w) {R : Ending → World → Prop} (h : Calls P f vs.toArray w R)
    (hK : ∀ e w', R e w' → ∃ v, e = .returned v ∧ S w' ∧ wpFlow P ops Q S σ (a.put oi.dst v) w') : wpFlow P ops Q S ((i, false) :: σ) a w :=
  flow_op oi hi hw (wp_call f args tys ho vs hvs hc h fun e w' hR => let ⟨v, he, hS, h⟩ := hK e w' hR; ⟨v, he, hS, h⟩)
end

/-- .. an operation whose run is known. -/
theorem flow_run {P : Program} {ops : Array Oper} {Q : Exit → Act → World → Prop} {S : World → Prop} {i : Nat} {σ : List (Nat × Bool)} {a : Act} {w : World} (oi : Oper) (v : Value) (w' : World) (hi : ops[i]? = some oi) (hw : Region.wanted oi (yielded ops a.tmps) = true) (hr : (execOp a.eval oi).run P w = .ok (.value v) w')
    (hS : S w') (h : wpFlow P ops Q S σ (a.put oi.dst v) w') : wpFlow P ops Q S ((i, false) :: σ) a w :=
  flow_op oi hi hw (by unfold Oper.wp; rw [hr, Oper.upon_value]; exact ⟨hS, h⟩)
/-- The operations of a region. -/
def opsIn : Code → Array Oper
  | .region _ ops _ => ops
  | _ => #[]
end Go.Proofs.YteopjiedjnaeiaaGreat
/- course.Code and the reference's Code return the same: whether a text is 1 to 8 letters and digits. -/
namespace Go.Proofs.YteopjiedjnaeiaaGreat
open Go Go.RowKit Go.Sort Go.Lib

/-- Is a rune (or a byte) no capital letter and no digit? -/
def wrongR (r : Nat) : Bool := (decide (r < 65) || decide (90 < r)) && (decide (r < 48) || decide (57 < r))
def codeL (l : List UInt8) : Bool := decide (1 ≤ l.length) && decide (l.length ≤ 8) && l.all (fun c => !wrongR c.toNat)

theorem wrong_high (r : Nat) (h : 128 ≤ r) : wrongR r = true := by
  have a : 90 < r := by omega
  have b : 57 < r := by omega
  simp [wrongR, a, b]

theorem idx_all (s : ByteArray) (f pos : Nat) (hf : s.size ≤ f + pos) : decide (Lib.idxFuncFrom wrongR true s f pos < 0) = (s.data.toList.drop pos).all (fun c => !wrongR c.toNat) := by
  induction f generalizing pos with
  | zero =>
    have h1 : s.data.toList.drop pos = [] := List.drop_eq_nil_of_le (by rw [← ba_size]; omega)
    rw [h1]; simp [Lib.idxFuncFrom]
  | succ f ih =>
    by_cases hp : pos < s.size
    · have hl : pos < s.data.toList.length := by rw [← ba_size]; exact hp
      have hg : s.data.toList[pos]'hl = s[pos]'hp := rfl
      rw [List.drop_eq_getElem_cons hl, List.all_cons, hg]
      unfold Lib.idxFuncFrom
      rw [if_pos hp]
      by_cases ha : (s[pos]'hp).toNat < 128
      · rw [decode_ascii s pos hp ha]
        by_cases hw : wrongR (s[pos]'hp).toNat = true
        · rw [if_pos hw, hw]; simp
        · have hw' : wrongR (s[pos]'hp).toNat = false := by simpa using hw
          rw [if_neg hw, hw', ih (pos + 1) (by omega)]; simp
      · have hd := decode_high s pos hp (by omega)
        have hw := wrong_high _ hd.1
        have hw2 := wrong_high (s[pos]'hp).toNat (by omega)
        rw [if_pos hw, hw2]; simp
    · have h1 : s.data.toList.drop pos = [] := List.drop_eq_nil_of_le (by rw [← ba_size]; omega)
      rw [h1, Lib.idxFuncFrom_end _ _ _ _ _ hp]; rfl

theorem pred_wrong (w : World) : PredAt Tryz.prog 71 #[] encR wrongR w := fun W r _ => by
  unfold FnGives
  by_cases h1 : r < 65 <;> by_cases h2 : 90 < r <;> by_cases h3 : r < 48 <;> by_cases h4 : 57 < r
  all_goals first | (exfalso; omega) | skip
  all_goals
    go_enter Tryz.func71, Tryz.ntmps71
    go_wp2
    all_goals first | (exfalso; omega) | (go_ret; exact ⟨by simp [wrongR, h1, h2, h3, h4] <;> omega, 0, rfl⟩)

theorem code_any (s : ByteArray) (w : World) (hs : s.size ≤ 9223372036854775807) :
    Calls Tryz.prog 55 #[.string s] w fun e w' => e = .returned (.bool (codeL s.data.toList)) ∧ Below w.heap.size w w' := by
  have hC := fun W => Tryz.strings_IndexFunc 71 #[] (enters_of Tryz.func71 (by kernel_rfl) rfl) wrongR s W (pred_wrong W)
  have hi := idx_all s s.size 0 (by omega)
  have hsz := ba_size s
  have hz : Lib.idxFunc wrongR true s = Lib.idxFuncFrom wrongR true s s.size 0 := rfl
  rw [← hz, List.drop_zero] at hi
  clear hz
  by_cases h0 : s.data.toList = []
  · have hr : codeL s.data.toList = false := by simp [codeL, h0]
    have h1 : (!s.toList.isEmpty) = false := by rw [ByteArray.toList_eq]; simp [h0]
    have h2 : s.toList = [] := by rw [ByteArray.toList_eq]; exact h0
    have H := Lib.hid hr
    clear hr hC hi h0 hsz
    go_enter Tryz.func55, Tryz.ntmps55
    go_wp2_with fail
    go_ret
    exact ⟨ret_bool H.out.symm, Below.refl _ _⟩
  · have h1 : (!s.toList.isEmpty) = true := by rw [ByteArray.toList_eq]; simpa using h0
    have h2 : ¬ s.toList = [] := by rw [ByteArray.toList_eq]; exact h0
    by_cases h8 : s.size ≤ 8
    · have hr : codeL s.data.toList = s.data.toList.all (fun c => !wrongR c.toNat) := by
        have : 1 ≤ s.data.toList.length := by rcases h : s.data.toList with _ | ⟨a, l⟩; exact absurd h h0; simp
        have h9 : s.data.toList.length ≤ 8 := by omega
        simp only [codeL, this, h9, decide_true, Bool.true_and]
      rw [← hi] at hr
      have H := Lib.hid hr
      clear hr hi h0 hsz
      go_enter Tryz.func55, Tryz.ntmps55
      go_wp2_with fail
      refine (hC _).mono ?_
      rintro x w1 ⟨rfl, hb⟩
      go_wp2_with fail
      go_ret
      exact ⟨ret_bool H.out.symm, hb⟩
    · have hr : codeL s.data.toList = false := by
        have h9 : ¬ s.data.toList.length ≤ 8 := by omega
        simp only [codeL, h9, decide_false, Bool.and_false, Bool.false_and]
      have H := Lib.hid hr
      clear hr hC hi h0 hsz
      go_enter Tryz.func55, Tryz.ntmps55
      go_wp2_with fail
      go_ret
      exact ⟨ret_bool H.out.symm, Below.refl _ _⟩

theorem all_snoc (l : List UInt8) (k : Nat) (h : k < l.length) (p : UInt8 → Bool) : (l.take (k + 1)).all p = ((l.take k).all p && p l[k]) := by
  rw [List.take_succ_eq_append_getElem h, List.all_append]; simp

theorem refCode_any (s : ByteArray) (w : World) (hs : s.size ≤ 9223372036854775807) :
    Calls Tryz.prog 62 #[.string s] w fun e w' => e = .returned (.bool (codeL s.data.toList)) ∧ w = w' := by
  go_enter Tryz.func62, Tryz.ntmps62
  go_wp2_with fail
  go_loop [3] (fun i => ∃ k : Nat, k ≤ s.size ∧ i = .int .i64 k ∧ Hid ((s.data.toList.take k).all (fun c => !wrongR c.toNat) = true)) (fun i => s.size - (intOf i).toNat)
  case atStart => exact ⟨0, Nat.zero_le _, rfl, rfl⟩
  case round =>
    obtain ⟨k, hk, rfl, H⟩ := hrel
    by_cases hlt : k < s.size
    · have hl : k < s.data.toList.length := by rw [← ba_size]; exact hlt
      have hts := all_snoc s.data.toList k hl (fun c => !wrongR c.toNat)
      have hg : s.data.toList[k]'hl = s[k]'hlt := rfl
      rw [hg] at hts
      by_cases h1 : (65 : Int) ≤ (s[k].toNat : Int) <;> by_cases h2 : (s[k].toNat : Int) ≤ 90 <;> by_cases h3 : (48 : Int) ≤ (s[k].toNat : Int) <;> by_cases h4 : (s[k].toNat : Int) ≤ 57
      all_goals first | (exfalso; omega) | skip
      all_goals
        have h1' : s[k].toNat < 65 ↔ ¬ (65 : Int) ≤ (s[k].toNat : Int) := by omega
        have h2' : 90 < s[k].toNat ↔ ¬ (s[k].toNat : Int) ≤ 90 := by omega
        have h3' : s[k].toNat < 48 ↔ ¬ (48 : Int) ≤ (s[k].toNat : Int) := by omega
        have h4' : 57 < s[k].toNat ↔ ¬ (s[k].toNat : Int) ≤ 57 := by omega
        have hw : wrongR s[k].toNat = ((decide (s[k].toNat < 65) || decide (90 < s[k].toNat)) && (decide (s[k].toNat < 48) || decide (57 < s[k].toNat))) := rfl
        simp only [h1', h2', h3', h4', h1, h2, h3, h4, not_true_eq_false, not_false_eq_true, decide_true, decide_false, Bool.or_true, Bool.or_false, Bool.and_true, Bool.and_false] at hw
        have HT := Lib.hid hts
        have HW := Lib.hid hw
        clear hts hw h1' h2' h3' h4' hg
        go_wp2_with fail
        first
          | (go_round
             case rel => exact ⟨k + 1, by omega, by go_num, by unfold Hid; rw [HT.out, HW.out, H.out]; rfl⟩
             case measure => simp [intOf]; omega)
          | (go_ret
             exact ⟨ret_bool (by
               have hall : s.data.toList.all (fun c => !wrongR c.toNat) = false := by
                 have h5 : (s.data.toList.take (k + 1)).all (fun c => !wrongR c.toNat) = false := by rw [HT.out, HW.out]; simp
                 rw [← Bool.not_eq_true, List.all_eq_true] at h5 ⊢
                 exact fun h6 => h5 fun x hx => h6 x (List.mem_of_mem_take hx)
               simp [codeL, hall]), rfl⟩)
    · obtain rfl : k = s.size := by omega
      have e1 : s.data.toList.take s.size = s.data.toList := by rw [ba_size]; exact List.take_length
      rw [e1] at H
      clear hlt e1 hk
      by_cases hs1 : 1 ≤ s.size
      · have hs1' : (1 : Int) ≤ (s.size : Int) := by omega
        go_wp2_with fail
        go_ret
        exact ⟨ret_bool (by simp only [codeL, H.out, ← ba_size]; simp [hs1]; omega), rfl⟩
      · have hs0 : s.data.toList = [] := by rw [← List.length_eq_zero_iff, ← ba_size]; omega
        have HS := Lib.hid hs0
        clear hs0
        go_wp2_with fail
        go_ret
        exact ⟨ret_bool (by rw [HS.out]; rfl), rfl⟩
end Go.Proofs.YteopjiedjnaeiaaGreat
/- digest.Of. -/
/- digest.number: walked once (a seat without the reference). -/
namespace Go.Proofs.YteopjiedjnaeiaaGreat
open Go Go.RowKit Go.Sort

theorem below_alloc1 (w : World) (o : Obj) : Below w.heap.size w (w.alloc o) := (Below.refl _ _).alloc (Nat.le_refl _) _
/-- A number as eight bytes, the greatest ahead. -/
def be8 (n : Nat) : List UInt8 := [UInt8.ofNat (n / 72057594037927936), UInt8.ofNat (n / 281474976710656), UInt8.ofNat (n / 1099511627776), UInt8.ofNat (n / 4294967296), UInt8.ofNat (n / 16777216), UInt8.ofNat (n / 65536), UInt8.ofNat (n / 256), UInt8.ofNat n]
theorem ofNat_mod (m : Nat) : UInt8.ofNat (m % 256) = UInt8.ofNat m := UInt8.toNat_inj.1 (by rw [UInt8.toNat_ofNat', UInt8.toNat_ofNat']; omega)




























end Go.Proofs.YteopjiedjnaeiaaGreat
/- digest.of: walked once. -/
namespace Go.Proofs.YteopjiedjnaeiaaGreat
open Go Go.RowKit Go.Sort Go.Lib

def dgX (l : List UInt8) (a : Int) : Int := l.foldl (fun x c => (69621 * x + c.toNat + 1) % 2147483647) a
def dgY (l : List UInt8) (a : Int) : Int := l.foldl (fun x c => (45991 * x + c.toNat + 1) % 2147483629) a
theorem dgX_app (l m : List UInt8) (a : Int) : dgX (l ++ m) a = dgX m (dgX l a) := by unfold dgX; rw [List.foldl_append]
theorem dgY_app (l m : List UInt8) (a : Int) : dgY (l ++ m) a = dgY m (dgY l a) := by unfold dgY; rw [List.foldl_append]
theorem or_join (X Y : Nat) (hX : X < 2147483648) (hY : Y < 4294967296) : bits BinOp.or IntKind.i64 ((X : Int) * 4294967296) (Y : Int) = ((X * 4294967296 + Y : Nat) : Int) := by
  have e1 : (BitVec.ofInt 64 ((X : Int) * 4294967296)).toNat = X * 4294967296 := by rw [BitVec.toNat_ofInt]; omega
  have e2 : (BitVec.ofInt 64 (Y : Int)).toNat = Y := by rw [BitVec.toNat_ofInt]; omega
  have e3 : X * 4294967296 ||| Y = X * 4294967296 + Y := by
    have := Nat.two_pow_add_eq_or_of_lt (i := 32) (b := Y) (by omega) X
    rw [show (2 : Nat) ^ 32 = 4294967296 from rfl, Nat.mul_comm] at this
    exact this.symm
  change IntKind.i64.wrap (((BitVec.ofInt 64 ((X : Int) * 4294967296) ||| BitVec.ofInt 64 (Y : Int)).toNat : Nat) : Int) = _
  rw [BitVec.toNat_or, e1, e2, e3]
  exact IntWalk.i64_in _ (by omega)
/-- Texts lie in a row. -/
def PartsAt (w : World) (b o : Nat) (l : List ByteArray) : Prop := ∀ k (h : k < l.length), w.cell? ⟨b, o + k, none⟩ = some (.string l[k]) ∧ l[k].size ≤ 100000000
def joined (l : List ByteArray) : List UInt8 := l.flatMap fun s => s.data.toList




















































































end Go.Proofs.YteopjiedjnaeiaaGreat
namespace Go.Proofs.YteopjiedjnaeiaaGreat
open Go Go.RowKit Go.Sort Go.Lib

/-- A digest. -/
def dg (l : List UInt8) : List UInt8 := be8 (dgX l 11 * 4294967296 + dgY l 17).toNat
theorem dg_len (l : List UInt8) : (dg l).length = 8 := rfl





















end Go.Proofs.YteopjiedjnaeiaaGreat
/- A load of a struct out of a block, at a guarded operation. -/
namespace Go.Proofs.YteopjiedjnaeiaaGreat
open Go Go.RowKit Go.Sort
theorem wpList_load_g {P : Program} {ops : Array Oper} {rest : List Oper} {op : Oper} {a : Act} {w : World} {Q : Exit → Act → World → Prop} (hw : Region.wanted op (yielded ops a.tmps) = true) (ty : TypeId) (x : Operand) (ho : op.op = .load ty x)
    (b o : Nat) (hx : a.eval x = .pointer (some ⟨b, o, none⟩)) (cs : List Value) (d : TypeDesc) (hc : w.rangeAt b o cs)
    (hu : P.underlying ty = some d) (hd : d.isRow = true) (hi : (P.info? ty).map (·.size) = some cs.length)
    (h : wpList P ops Q rest (a.put op.dst (.agg cs.toArray)) w) : wpList P ops Q (op :: rest) a w :=
  wpList_step fun K hK => by rw [if_pos hw]; exact wp_load_mid ty x ho b o hx cs d hc hu hd hi (hK _ _ h)

end Go.Proofs.YteopjiedjnaeiaaGreat
/- A strings.Builder of the call's own, by its bytes. -/
namespace Go.Proofs.YteopjiedjnaeiaaGreat
open Go Go.RowKit Go.Sort




/-- All blocks but b, and but rows of bytes, lie as they lay. -/
abbrev Kept (b : Nat) (w w' : World) : Prop := Lib.OthersKept 5 (some b) w w'

theorem kept_below {b : Nat} {w w' : World} (h : Below w.heap.size w w') : Kept b w w' := fun k o hk _ _ => by
  have hlt : k < w.heap.size := by
    rcases Nat.lt_or_ge k w.heap.size with h' | h'
    · exact h'
    · rw [Array.getElem?_eq_none h'] at hk; cases hk
  rw [h.block k hlt]; exact hk

theorem kept_cell {b : Nat} {w w' : World} (h : Kept b w w') {k : Nat} {cs : Array Value} {t : TypeId} {fz : Nat × Nat} (hk : w.heap[k]? = some (.cells cs t fz)) (hb : k ≠ b) (ht : t ≠ 5) : w'.heap[k]? = some (.cells cs t fz) :=
  h k _ hk (by simpa using hb) (by intro c f e; injection e with _ e2; exact ht e2)







theorem bldF_below {T e B b : Nat} {p : Value} {bs : List Value} {w w' : World} (h : Lib.BuilderAtF T e B b p bs w) (hb : Below w.heap.size w w') : Lib.BuilderAtF T e B b p bs w' := by
  obtain ⟨hB, v, hh, ho, hn⟩ := h
  have hlt : b < w.heap.size := by
    rcases Nat.lt_or_ge b w.heap.size with h' | h'
    · exact h'
    · rw [Array.getElem?_eq_none h'] at hh; cases hh
  refine ⟨hB, v, by rw [hb.block b hlt]; exact hh, ?_, hn⟩
  exact ho.kept (row := none) ⟨hb.os, hb.tape, hb.output, hb.size, fun k hk _ => hb.block k hk⟩ (by cases hv : v.ownBlock <;> simp)






theorem byteCells_app (l m : List UInt8) : Lib.byteCells l ++ Lib.strCells ⟨m.toArray⟩ = Lib.byteCells (l ++ m) := by simp [Lib.byteCells, Lib.strCells]













end Go.Proofs.YteopjiedjnaeiaaGreat
namespace Go.Proofs.YteopjiedjnaeiaaGreat
open Go Go.RowKit Go.Sort

/-- The bytes of wire.Int. -/
def wInt (n : Int) : List UInt8 := Lib.itoa n ++ [59]
/-- The bytes of wire.Text. -/
def wText (s : ByteArray) : List UInt8 := Lib.itoa s.size ++ 58 :: s.data.toList

theorem wInt_len (n : Int) (h0 : -9223372036854775808 ≤ n) (h1 : n ≤ 9223372036854775807) : (wInt n).length ≤ 22 := by
  have := Lib.itoa_length_le n h0 h1; simp [wInt]; omega
theorem wText_len (s : ByteArray) (hs : s.size ≤ 1000000) : (wText s).length ≤ s.size + 22 := by
  have := Lib.itoa_length_le s.size (by omega) (by omega)
  have h2 := ba_size s
  simp [wText] at *; omega
















end Go.Proofs.YteopjiedjnaeiaaGreat
