/- Regions in which rows are appended to, a struct is laid and written, and calls are made, in any order: what each operation leaves. -/
import Derived.Test.YtjcogpalmgcpbaaMkFs
import Derived.Test.YtjcogpalmgcpbaaWPar
namespace Go.Proofs.Ytjcogpalmgcpbaa
open Go Go.Proofs Go.RowKit Go.Maps Go.Sort Go.Lib

theorem reqT : RowT Try.prog encR 9 37 38 where
  len _ := rfl
  one r u hu := by
    simp [encR, Req.cells] at hu
    rcases hu with rfl | rfl | rfl | rfl | rfl | rfl | rfl | rfl | rfl <;> rfl
  pos := by decide
  und := Try.underlying38
  info := by
    obtain ⟨i0, hi, h1, h2, h3⟩ := info_parts req_info
    exact ⟨i0, _, hi, h1, h2, rfl, by omega⟩
/-- Block b, from B on, holds o. -/
def Laid (B : Nat) (w : World) (f : Nat → Value) (o : Obj) (u : Value) : Prop := ∃ b, u = f b ∧ B ≤ b ∧ w.heap[b]? = some o
theorem ReqsIn.row {w : World} {v : Value} {L : List Req} (h : ReqsIn w v L) : RowIn encR w v L := by
  rcases h with ⟨rfl, rfl⟩ | ⟨b, o, c, rfl, h2, h3, h4⟩
  · exact RowIn.nil _ _
  · exact ⟨_, c, rfl, h2, fun e => (by cases e), fun _ => ⟨b, o, rfl, h3, h4⟩⟩
section
variable {B : Nat} {w wn : World} {f : Nat → Value} {o : Obj} {u v : Value} {ro : Option Nat}
theorem Laid.grown (h : Laid B w f o u) (hg : w.grownBy wn ro) (hne : ∀ q, ro = some q → w.heap[q]? ≠ some o) : Laid B wn f o u := by
  obtain ⟨b, rfl, hB, hb⟩ := h
  exact ⟨b, rfl, hB, (hg.block b (lt_of_heap hb) (fun e => hne b e.symm hb)).trans hb⟩
theorem Laid.below (h : Laid B w f o u) (hb : RowKit.Below w.heap.size w wn) : Laid B wn f o u := h.grown (below_grows (row := none) hb) (fun _ e => by cases e)
theorem Laid.new (w : World) (f : Nat → Value) (cs : Array Value) (t : TypeId) (hB : B ≤ w.heap.size) : Laid B (w.alloc (.cells cs t)) f (.cells cs t (0, 0)) (f w.heap.size) := ⟨_, rfl, hB, heap_alloc_new w _⟩
theorem Laid.own {e : TypeId} {k : Nat} (h : Laid B w (fun b => .slice (some ⟨b, 0, none⟩) 0 0) (.cells #[] e (0, 0)) u) : w.ownsRow B e k u 0 [] := by
  obtain ⟨b, rfl, hB, hb⟩ := h
  exact ⟨by simp, .inr ⟨b, 0, #[], rfl, hB, hb, Nat.le_refl _, Nat.zero_le _, by simp, by simp⟩⟩
theorem Laid.row {α : Type} {enc : α → List Value} {e : TypeId} {cs : Array Value} {n : Nat} (h : Laid B w (fun b => .slice (some ⟨b, 0, none⟩) n n) (.cells cs e (0, 0)) u) (L : List α) (hcs : cs.toList = flatE enc L) (hn : L.length = n) : RowIn enc w u L := by
  subst hn
  obtain ⟨b, rfl, hB, hb⟩ := h
  refine ⟨_, _, rfl, Nat.le_refl _, fun hn => (by cases hn), fun _ => ⟨_, _, rfl, lt_of_heap hb, fun j u hj => ?_⟩⟩
  rw [Nat.zero_add, Lib.cell_of_heap hb]
  rw [← hcs] at hj
  simpa using hj
/-- The empty row's block, and another one. -/
theorem Laid.apart {e : TypeId} (h : Laid B w (fun b => .slice (some ⟨b, 0, none⟩) 0 0) (.cells #[] e (0, 0)) u) (hne : o ≠ .cells #[] e (0, 0)) : ∀ q, u.ownBlock = some q → w.heap[q]? ≠ some o := by
  obtain ⟨b, rfl, hB, hb⟩ := h
  intro q hq
  obtain rfl := Option.some.inj hq
  rw [hb]
  exact fun e => hne (Option.some.inj e).symm
theorem own_apart {base k n : Nat} {e t : TypeId} {xs : List Value} {cs : Array Value} (h : w.ownsRow base e k v n xs) (hne : t ≠ e) : ∀ q, v.ownBlock = some q → w.heap[q]? ≠ some (.cells cs t (0, 0)) := by
  rcases h.2 with ⟨rfl, _⟩ | ⟨g, cap, cur, rfl, _, hg, _⟩
  · intro q hq; simp [Value.ownBlock] at hq
  · intro q hq
    obtain rfl : g = q := by simpa [Value.ownBlock] using hq
    rw [hg]
    intro e
    injection e with e
    injection e with _ e
    exact hne e.symm
theorem own_apart' {base k n b : Nat} {e t : TypeId} {xs : List Value} {cs : Array Value} (h : w.ownsRow base e k v n xs) (hne : t ≠ e) (hb : w.heap[b]? = some (.cells cs t (0, 0))) : v.ownBlock = none ∨ v.ownBlock ≠ some b := .inr fun e => own_apart h hne b e hb
theorem own_below {base k n : Nat} {e : TypeId} {xs : List Value} (h : w.ownsRow base e k v n xs) (hb : RowKit.Below w.heap.size w wn) : wn.ownsRow base e k v n xs := h.kept (row := none) (below_grows hb) (by cases v.ownBlock <;> simp)
theorem setRow_grown {b : Nat} {old : Array Value} {t : TypeId} {fz : Nat × Nat} (_h : w.heap[b]? = some (.cells old t fz)) (cs : Array Value) : w.grownBy (w.setRow b cs) (some b) :=
  ⟨rfl, rfl, rfl, by simp [World.setRow], fun k _ hk => by
    have : k ≠ b := fun e => hk (by rw [e])
    simp [World.setRow, Array.getElem?_modify, Ne.symm this]⟩
/-- Rows of seats, and a block that holds no seat. -/
def NoInt (w : World) (b : Nat) : Prop := ∀ i n, w.cell? ⟨b, i, none⟩ ≠ some (.int .i64 n)
theorem NoInt.deal {b : Nat} {p q : Option Addr} {n m c e : Nat} {t : TypeId} (h : w.heap[b]? = some (.cells #[.slice p n c, .slice q m e] t (0, 0))) : NoInt w b := fun i n => by
  rw [Lib.cell_of_heap h]
  match i with
  | 0 => simp
  | 1 => simp
  | i + 2 => simp
theorem RowIn.grownSeat {L : List Seat} (h : RowIn Seat.cells w v L) (hg : w.grownBy wn ro) (hne : ∀ q, ro = some q → NoInt w q) : RowIn Seat.cells wn v L := by
  obtain ⟨p, c, rfl, hc, hz, hr⟩ := h
  refine ⟨p, c, rfl, hc, hz, fun hl => ?_⟩
  obtain ⟨b, o, rfl, hb, hx⟩ := hr hl
  have hd : some b ≠ ro := fun e => by
    obtain ⟨x, L', rfl⟩ := List.exists_cons_of_ne_nil (List.ne_nil_of_length_pos hl)
    exact hne b e.symm (o + 0) x.student (hx 0 _ rfl)
  exact ⟨b, o, rfl, Nat.lt_of_lt_of_le hb hg.size, fun j u hj => hg.cell (hx j u hj) hd⟩
theorem DealIn.grown {d : Deal} (h : DealIn w v d) (hg : w.grownBy wn ro) (hne : ∀ q, ro = some q → NoInt w q) : DealIn wn v d := by
  obtain ⟨⟨p, c, q, e, h1, h2, h3⟩, h4, h5⟩ := h
  exact ⟨⟨p, c, q, e, h1, h2.grownSeat hg hne, h3.grownSeat hg hne⟩, h4, h5⟩










end
section
variable {P : Program} {ops : Array Oper} {Q : Exit → Act → World → Prop} {S : World → Prop}
theorem par_append {α : Type} {enc : α → List Value} {k : Nat} {e t : TypeId} (R : RowT P enc k e t) {i : Nat} {K : Act → World → Prop} {a : Act} {w : World} (oi : Oper) (hi : ops[i]? = some oi) (hw : Region.wanted oi (yielded ops a.tmps) = true) (s x : Operand) (ho : oi.op = .call { callee := .builtin .append, args := #[s, x], argTypes := #[t, t] })
    (base : Nat) (v xv : Value) (X Y : List α) (hs : a.eval s = v) (hxv : a.eval x = xv) (hown : w.ownsRow base e k v X.length (flatE enc X)) (hx : RowIn enc w xv Y) (hl : X.length + Y.length ≤ 1000000) (hb : base ≤ w.heap.size)
    (h : ∀ v' w', AppT enc k e w base v X Y v' w' → K (a.put oi.dst v') w') : wpOp P ops Q i K a w :=
  par_op oi hi hw (wp_append_row R s x ho base v xv X Y hs hxv hown hx hl hb h)
theorem par_store_row {i : Nat} {K : Act → World → Prop} {a : Act} {w : World} (oi : Oper) (hi : ops[i]? = some oi) (hw : Region.wanted oi (yielded ops a.tmps) = true) (ty : TypeId) (x y : Operand) (ho : oi.op = .store ty x y)
    (g : Nat) (cells : Array Value) (hx : a.eval x = .pointer (some ⟨g, 0, none⟩)) (hy : a.eval y = .agg cells) (t : TypeId) (old : Array Value) (hg : w.heap[g]? = some (.cells old t (0, 0))) (hi2 : (P.info? ty).map (·.size) = some cells.size)
    (hold : old.size = cells.size) (h1 : cells.all (·.oneCell') = true) (h : K (a.put oi.dst undef) (w.setRow g cells)) : wpOp P ops Q i K a w :=
  par_op oi hi hw (wp_store_row ty x y ho g cells hx hy t old hg hi2 hold h1 h)
theorem par_take_row {i : Nat} {σ : List Nat} {a : Act} {K : Act → Prop} (oi : Oper) (hi : ops[i]? = some oi) (hw : Region.wanted oi (yielded ops a.tmps) = true) (ty : TypeId) (x : Operand) (ho : oi.op = .load ty x)
    (b o : Nat) (hx : a.eval x = .pointer (some ⟨b, o, none⟩)) (cs : List Value) (d : TypeDesc) (hS : ∀ w, S w → w.rangeAt b o cs) (hu : P.underlying ty = some d) (hd : d.isRow = true) (hi2 : (P.info? ty).map (·.size) = some cs.length)
    (h : wpTakes P ops S σ (a.put oi.dst (.agg cs.toArray)) K) : wpTakes P ops S (i :: σ) a K := ⟨oi, _, hi, yieldsIf_load_mid hw ty x ho b o hx cs d hS hu hd hi2, h⟩
theorem par_skip {i : Nat} {σ : List Nat} {a : Act} {K : Act → Prop} (oi : Oper) (hi : ops[i]? = some oi) (hw : Region.wanted oi (yielded ops a.tmps) = false) (h : wpTakes P ops S σ (a.put oi.dst undef) K) : wpTakes P ops S (i :: σ) a K := ⟨oi, undef, hi, .inr ⟨hw, rfl⟩, h⟩
end
end Go.Proofs.Ytjcogpalmgcpbaa
