/- api.Seat and api.Offer as values: cells, rows, ==, keys of maps. -/
import Derived.Test.YtjcogpalmgcpbaaMkPl3
import Derived.Test.YtjcogpalmgcpbaaRw
import Derived.Test.YtjcogpalmgcpbaaRqMdA
import Derived.StringKeys
namespace Go.Proofs.Ytjcogpalmgcpbaa
open Go Go.Proofs Go.RowKit Go.Sort Go.Lib Go.Maps

def Seat.cells (s : Seat) : List Value := [.int .i64 s.student, .string s.code]
@[reducible] def Seat.val (s : Seat) : Value := .agg #[.int .i64 s.student, .string s.code]
@[reducible] def Off.sv (o : Off) : Value := .slice o.sp o.slots.length o.sc
@[reducible] def Off.nv (o : Off) : Value := .slice o.np o.needs.length o.nc
def Off.cells (o : Off) : List Value := [.string o.code, .int .i64 o.credits, .int .i64 o.places, .slice o.sp o.slots.length o.sc, .slice o.np o.needs.length o.nc]
@[reducible] def Off.val (o : Off) : Value := .agg #[.string o.code, .int .i64 o.credits, .int .i64 o.places, .slice o.sp o.slots.length o.sc, .slice o.np o.needs.length o.nc]
def encI (n : Int) : List Value := [.int .i64 n]
def encT (s : ByteArray) : List Value := [.string s]
/-- An offer's lists are there. -/
structure OffOk (w : World) (o : Off) : Prop where
  slots : RowIn encI w o.sv o.slots
  needs : RowIn encT w o.nv o.needs
theorem OffOk.below {w w' : World} {o : Off} (h : OffOk w o) (hb : RowKit.Below w.heap.size w w') : OffOk w' o := ⟨h.slots.below hb, h.needs.below hb⟩
theorem zeroO_ok (w : World) : OffOk w zeroO := ⟨RowIn.nil _ _, RowIn.nil _ _⟩
theorem getO_ok {w : World} {L : List Off} (h : ∀ o ∈ L, OffOk w o) (c : ByteArray) : OffOk w (getO L c) := by
  unfold getO
  cases hf : findO L c with
  | none => exact zeroO_ok w
  | some o => exact h o (List.mem_of_find?_eq_some hf)
theorem seatT : RowT Try.prog Seat.cells 2 32 33 where
  len _ := rfl
  one s u hu := by simp [Seat.cells] at hu; rcases hu with rfl | rfl <;> rfl
  pos := by decide
  und := Try.underlying33
  info := by
    obtain ⟨i0, hi, h1, h2, h3⟩ := info_parts (show (Try.prog.info? 32).map (fun i => (i.zero, i.size, i.bytes)) = some (some (.agg #[.int .i64 0, .string ⟨#[]⟩]), 2, 24) by kernel_rfl)
    exact ⟨i0, _, hi, h1, h2, rfl, by omega⟩
theorem seat_ok_and (p : Prop) [Decidable p] (q : Bool) (w : World) : Result.ok (decide p && q) w = if p then Result.ok q w else Result.ok false w := by by_cases h : p <;> simp [h]
theorem seat_ok_dec (p : Prop) [Decidable p] (w : World) : Result.ok (decide p) w = if p then Result.ok true w else Result.ok false w := by by_cases h : p <;> simp [h]
set_option maxRecDepth 100000 in
theorem seat_eqIn (a b : Seat) (w : World) : (Op.equalIn 10000 32 a.val b.val).run Try.prog w = .ok (eqSeat a b) w := by
  have hp : Try.prog.stoodInHeld 32 = false := by kernel_rfl
  rw [show (10000 : Nat) = 9999 + 1 from rfl, run_equalIn_agg w _ _ _ _ (by kernel_rfl) hp]
  unfold Program.fieldsOf
  rw [Try.underlying32]
  go_simp
  simp only [eqSeat, seat_ok_and]
  rw [seat_ok_dec]
theorem seat_eql (x0 : Int) (x1 : ByteArray) (y0 : Int) (y1 : ByteArray) (w : World) : (binOp .eql 32 (.agg #[.int .i64 x0, .string x1]) (.agg #[.int .i64 y0, .string y1])).run Try.prog w = .ok (.bool (eqSeat ⟨x0, x1⟩ ⟨y0, y1⟩)) w := by
  rw [run_eql_struct, seat_eqIn ⟨x0, x1⟩ ⟨y0, y1⟩]; rfl
theorem seat_neq (x0 : Int) (x1 : ByteArray) (y0 : Int) (y1 : ByteArray) (w : World) : (binOp .neq 32 (.agg #[.int .i64 x0, .string x1]) (.agg #[.int .i64 y0, .string y1])).run Try.prog w = .ok (.bool (!eqSeat ⟨x0, x1⟩ ⟨y0, y1⟩)) w := by
  rw [run_neq_struct, seat_eqIn ⟨x0, x1⟩ ⟨y0, y1⟩]; rfl
theorem seat_load (w : World) (b o : Nat) (s : Seat) (h : w.rangeAt b o s.cells) : (Instr.loadAt 32 (.pointer (some ⟨b, o, none⟩))).run Try.prog w = .ok s.val w :=
  run_loadAt_mid w b o 32 s.cells _ h Try.underlying32 rfl (by kernel_rfl)
theorem off_load (w : World) (b o : Nat) (s : Off) (h : w.rangeAt b o s.cells) : (Instr.loadAt 29 (.pointer (some ⟨b, o, none⟩))).run Try.prog w = .ok s.val w :=
  run_loadAt_mid w b o 29 s.cells _ h Try.underlying29 rfl (by kernel_rfl)

/-! ### keys -/
theorem st_keyed : Maps.Keyed Try.prog 32 :=
  Maps.Keyed.of_law (deep_law_laid rq_laidOut (m := 2) (by omega) (of_decide_eq_true (by kernel_rfl)) (by kernel_rfl) (by rw [Try.underlying32]))
theorem str_keyed : Maps.Keyed Try.prog 9 := string_keyed Try.underlying9
/-- A seat that can be a key. -/
def Seat.wf (s : Seat) : Prop := (Lit.int .i64 s.student).wf = true ∧ s.code.size ≤ maxLen
def litS (s : Seat) : Lit := .string (keyBytes [.int .i64 s.student, .string s.code.data.toList])
def litC (c : ByteArray) : Lit := .string c.data.toList
set_option maxRecDepth 100000 in
theorem key_seat (s : Seat) (h : s.wf) : keyOf Try.prog 32 (.agg #[.int .i64 s.student, .string s.code]) = some (litS s) := by
  obtain ⟨h1, h2⟩ := h
  have hn : Try.prog.cellsOf 32 = 2 := by kernel_rfl
  have c1 : Try.prog.cellsOf 3 = 1 := by kernel_rfl
  have c3 : Try.prog.cellsOf 9 = 1 := by kernel_rfl
  have hk : Try.prog.keyType 32 = true := by kernel_rfl
  obtain ⟨sz, hsz⟩ : ∃ sz, Try.prog.types.size = sz + 1 := ⟨Try.prog.types.size - 1, by kernel_rfl⟩
  unfold keyOf
  rw [Try.underlying32]
  simp only [hk, Value.formed, Try.underlying32, hn]
  unfold Program.keyLits
  rw [Try.underlying32, hsz]
  simp [hn, c1, c3, Value.cells, lits_int, lits_str, h1, h2, litS]
theorem litS_inj {a b : Seat} (ha : a.wf) (hb : b.wf) (h : litS a = litS b) : a = b := by
  have := st_keyed.inj (key_seat a ha) (by rw [h]; exact key_seat b hb)
  cases a; cases b
  simpa using this
theorem key_code (c : ByteArray) (h : c.size ≤ maxLen) : keyOf Try.prog 9 (.string c) = some (litC c) := Go.WideMaps.keyOf_string_mk Try.underlying9 h
theorem litC_inj {a b : ByteArray} (h : litC a = litC b) : a = b := by
  unfold litC at h
  injection h with h
  cases a; cases b
  simp at h
  rw [h]
/-- A map of seats: those of a list. -/
def SeatsAre (D : DataW Unit) (L : List Seat) : Prop := ∀ s : Seat, s.wf → D.atKey (litS s) (.lit (.bool false)) = .lit (.bool (decide (s ∈ L)))
theorem SeatsAre.put {D : DataW Unit} {L : List Seat} (h : SeatsAre D L) (hm : Maps.IsMap D) {s : Seat} (hs : s.wf) : SeatsAre (D.put (litS s) (.lit (.bool true))) (L ++ [s]) := fun s' hs' => by
  by_cases e : s' = s
  · subst e
    rw [Maps.atKey_put_same hm (k := litS s') (by simp [litS, WideAt.IsKeyLit])]
    simp
  · rw [Maps.atKey_put_other (fun e' => e (litS_inj hs' hs e')), h s' hs']
    simp [e]
/-- A map of offers: an element as it is. -/
def heldV (v : Value) : Option (DataW Value × List MemPlace) := some (.held v, [])
theorem heldV_inv {v : Value} {d : DataW Value} {ps : List MemPlace} (h : heldV v = some (d, ps)) : d = .held v := by
  unfold heldV at h
  injection h with h
  injection h with h _
  exact h.symm
def OffsAre (D : DataW Value) (L : List Off) : Prop := ∀ c : ByteArray, Maps.has D (litC c) = (findO L c).isSome ∧ D.atKey (litC c) (.held zeroO.val) = .held (getO L c).val
theorem findO_snoc (L : List Off) (o : Off) (c : ByteArray) : findO (L ++ [o]) c = (findO L c).or (if o.code.toList = c.toList then some o else none) := by
  unfold findO
  rw [List.find?_append]
  congr 1
  by_cases h : o.code.toList = c.toList <;> simp [h]
theorem OffsAre.old {D : DataW Value} {L : List Off} (h : OffsAre D L) {o : Off} (ho : (findO L o.code).isSome = true) : OffsAre D (L ++ [o]) := fun c => by
  have e : findO (L ++ [o]) c = findO L c := by
    rw [findO_snoc]
    by_cases hc : o.code.toList = c.toList
    · obtain rfl := req_ba.1 hc
      obtain ⟨x, hx⟩ := Option.isSome_iff_exists.1 ho
      rw [hx]; rfl
    · rw [if_neg hc]; cases findO L c <;> rfl
  unfold getO
  rw [e]; exact h c
theorem OffsAre.put {D : DataW Value} {L : List Off} (h : OffsAre D L) (hm : Maps.IsMap D) {o : Off} (ho : (findO L o.code).isSome = false) : OffsAre (D.put (litC o.code) (.held o.val)) (L ++ [o]) := fun c => by
  have hn : findO L o.code = none := by cases hx : findO L o.code <;> simp_all
  by_cases e : c = o.code
  · subst e
    have e2 : findO (L ++ [o]) o.code = some o := by rw [findO_snoc, hn, if_pos rfl]; rfl
    unfold getO
    rw [e2, Maps.has_put_same hm (k := litC o.code) (by simp [litC, WideAt.IsKeyLit]), Maps.atKey_put_same hm (k := litC o.code) (by simp [litC, WideAt.IsKeyLit])]
    exact ⟨rfl, rfl⟩
  · have e2 : findO (L ++ [o]) c = findO L c := by
      rw [findO_snoc, if_neg (fun h => e (req_ba.1 h).symm)]
      cases findO L c <;> rfl
    unfold getO
    rw [e2, Maps.has_put_other (fun e' => e (litC_inj e')), Maps.atKey_put_other (fun e' => e (litC_inj e'))]
    exact h c
/-- 'm[k]' at a map of elements as they are. -/
theorem wpList_lookup_held {P : Program} (w : World) {ops : Array Oper} {rest : List Oper} {o : Oper} {a : Act} {Q : Exit → Act → World → Prop}
    (hg : o.guard = none) (m x : Operand) (t : TypeId) (hop : o.op = Op.lookup t m x false)
    (k e : TypeId) (K : Keyed P k) (ht : P.underlying t = some (.map k e)) {z : Value} (hz : (zeroValue e).run P w = .ok z w) (b n : Nat) (D : DataW Value)
    (hm : a.eval m = .map (some b)) (hown : w.ownsMap P k heldV b n D) (key : Value) (kl : Lit) (hx : a.eval x = key) (hkey : keyOf P k key = some kl) (v : Value) (hat : D.atKey kl (.held z) = .held v)
    (hK : wpList P ops Q rest (a.put o.dst v) w) :
    wpList P ops Q (o :: rest) a w := by
  refine wpList_plain hg fun K' hK' => ?_
  obtain ⟨v', ps, hrun, hv⟩ := hown.lookup K ht hz (zd := .held z) (zp := []) rfl hkey
  rw [hat] at hv
  have hvb := heldV_inv hv
  injection hvb with hvb
  subst hvb
  unfold Oper.wp
  simp [execOp, hop, hm, hx, hrun, Result.andThen]
  exact hK' _ _ hK
theorem wpList_lookup_held_ok {P : Program} (w : World) {ops : Array Oper} {rest : List Oper} {o : Oper} {a : Act} {Q : Exit → Act → World → Prop}
    (hg : o.guard = none) (m x : Operand) (t : TypeId) (hop : o.op = Op.lookup t m x true)
    (k e : TypeId) (K : Keyed P k) (ht : P.underlying t = some (.map k e)) {z : Value} (hz : (zeroValue e).run P w = .ok z w) (b n : Nat) (D : DataW Value)
    (hm : a.eval m = .map (some b)) (hown : w.ownsMap P k heldV b n D) (key : Value) (kl : Lit) (hx : a.eval x = key) (hkey : keyOf P k key = some kl) (v : Value) (hat : D.atKey kl (.held z) = .held v) (c : Bool) (hh : Maps.has D kl = c)
    (hK : wpList P ops Q rest (a.put o.dst (.tuple #[v, .bool c])) w) :
    wpList P ops Q (o :: rest) a w := by
  subst hh
  refine wpList_lookup_own_ok w hg m x t hop k e K ht heldV hz (.held z) [] rfl b n D hm hown key kl hx hkey fun v' ps hv => ?_
  rw [hat] at hv
  have hvb := heldV_inv hv
  injection hvb with hvb
  subst hvb
  exact hK
theorem blw_drewN {B : Nat} {a w : World} (h : Below B a w) (n : Nat) : Below B a (w.drewN n) := h.trans ⟨rfl, rfl, rfl, Nat.le_refl _, fun _ _ => rfl⟩
/-- The rules, as they were prepared. -/
structure RulesAt (w : World) (b1 b2 : Nat) (L : List Off) (met : List Seat) : Prop where
  off : ∃ n D, w.ownsMap Try.prog 9 heldV b1 n D ∧ OffsAre D L
  met : ∃ n D, w.ownsMap Try.prog 32 (plainElem Try.prog 4) b2 n D ∧ SeatsAre D met
theorem RulesAt.below {w w' : World} {b1 b2 : Nat} {L : List Off} {met : List Seat} (h : RulesAt w b1 b2 L met) (hb : RowKit.Below w.heap.size w w') : RulesAt w' b1 b2 L met := by
  obtain ⟨⟨n1, D1, h1, h2⟩, ⟨n2, D2, h3, h4⟩⟩ := h
  exact ⟨⟨n1, D1, h1.kept (row := none) (below_grows hb) (by simp), h2⟩, ⟨n2, D2, h3.kept (row := none) (below_grows hb) (by simp), h4⟩⟩
end Go.Proofs.Ytjcogpalmgcpbaa
