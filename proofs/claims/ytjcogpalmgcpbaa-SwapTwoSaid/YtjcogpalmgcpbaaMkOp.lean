/- The law MarketOrder: two regions as pieces. -/
import Derived.Test.YtjcogpalmgcpbaaMkCs
import Derived.Test.YtjcogpalmgcpbaaMkSa
import Derived.Test.YtjcogpalmgcpbaaMkSn
import Derived.Test.YtjcogpalmgcpbaaQFlow
namespace Go.Proofs.Ytjcogpalmgcpbaa
open Go Go.Proofs Go.RowKit Go.Maps Go.Sort Go.Lib
attribute [local go_sem] Req.cells

theorem own_empty_at (w : World) (base b : Nat) (h : w.heap.size = b) (hb : base ≤ b) : (w.alloc (.cells #[] 37)).ownsRow base 37 9 (.slice (some ⟨b, 0, none⟩) 0 0) 0 (reqCells []) := by
  subst h; exact World.ownsRow_made w #[] 0 hb (Nat.zero_le _) rfl
theorem ReqsIn.grown {w w' : World} {v : Value} {L : List Req} {row : Option Nat} (h : ReqsIn w v L) (hg : w.grownBy w' row) (hne : v.ownBlock = none ∨ v.ownBlock ≠ row) : ReqsIn w' v L := by
  rcases h with h | ⟨b, o, c, rfl, h2, h3, h4⟩
  · exact .inl h
  · refine .inr ⟨b, o, c, rfl, h2, Nat.lt_of_lt_of_le h3 hg.size, fun j u hj => hg.cell (h4 j u hj) ?_⟩
    rcases hne with hne | hne
    · simp [Value.ownBlock] at hne
    · simpa [Value.ownBlock] using hne
theorem ReqsIn.take {w : World} {b o c : Nat} {L : List Req} (h : ReqsIn w (.slice (some ⟨b, o, none⟩) L.length c) L) (k : Nat) (hk : k ≤ L.length) : ReqsIn w (.slice (some ⟨b, o, none⟩) k c) (L.take k) := by
  rcases h with ⟨h, _⟩ | ⟨b', o', c', h1, h2, h3, h4⟩
  · injection h with h; cases h
  · injection h1 with e1 e2 e3
    simp only [Option.some.injEq, Addr.mk.injEq, and_true] at e1
    obtain ⟨rfl, rfl⟩ := e1
    have hl : (L.take k).length = k := by simp; omega
    refine .inr ⟨b, o, c, by rw [hl], by rw [hl, e3]; omega, h3, fun j u hj => h4 j u ?_⟩
    conv => lhs; rw [← List.take_append_drop k L, reqCells_app]
    rw [List.getElem?_append_left (List.getElem?_eq_some_iff.1 hj).1]; exact hj
theorem ReqsIn.drop {w : World} {b o c : Nat} {L : List Req} (h : ReqsIn w (.slice (some ⟨b, o, none⟩) L.length c) L) (k : Nat) (hk : k ≤ L.length) (a : Nat) (ha : L.length = k ∨ a = o + k * 9) : ReqsIn w (.slice (some ⟨b, a, none⟩) (L.length - k) (c - k)) (L.drop k) := by
  rcases h with ⟨h, _⟩ | ⟨b', o', c', h1, h2, h3, h4⟩
  · injection h with h; cases h
  · injection h1 with e1 e2 e3
    simp only [Option.some.injEq, Addr.mk.injEq, and_true] at e1
    obtain ⟨rfl, rfl⟩ := e1
    refine .inr ⟨b, a, c - k, by rw [List.length_drop], by rw [List.length_drop, e3]; omega, h3, fun j u hj => ?_⟩
    rcases ha with ha | rfl
    · rw [show L.drop k = [] from List.drop_eq_nil_of_le (by omega)] at hj
      simp [reqCells] at hj
    · rw [Nat.add_assoc]
      refine h4 _ u ?_
      conv => lhs; rw [← List.take_append_drop k L, reqCells_app]
      rw [List.getElem?_append_right (by rw [reqCells_len]; simp; omega), reqCells_len, show (L.take k).length = k by simp; omega, show k * 9 + j - k * 9 = j by omega]
      exact hj
theorem flow_append_reqs {ops : Array Oper} {Q : Exit → Act → World → Prop} {S : World → Prop} {i : Nat} {σ : List (Nat × Bool)} {a : Act} {w : World} (oi : Oper) (hi : ops[i]? = some oi) (hw : Region.wanted oi (yielded ops a.tmps) = true)
    (s x : Operand) (ho : oi.op = .call { callee := .builtin .append, args := #[s, x], argTypes := #[38, 38] })
    (base : Nat) (v xv : Value) (X Y : List Req) (hs : a.eval s = v) (hxv : a.eval x = xv) (hown : w.ownsRow base 37 9 v X.length (reqCells X)) (hx : ReqsIn w xv Y) (hl : X.length + Y.length ≤ 1000000) (hb : base ≤ w.heap.size)
    (h : ∀ v' w', AppR w base v X Y v' w' → S w' ∧ wpFlow Try.prog ops Q S σ (a.put oi.dst v') w') : wpFlow Try.prog ops Q S ((i, false) :: σ) a w :=
  flow_op oi hi hw (by
    obtain ⟨v', w', hr, hA⟩ := run_append_reqs2 w base oi.type v xv X Y hown hx hl hb
    unfold Oper.wp execOp
    simp only [ho, resolve, invoke, builtin, Sem.run_bind, Sem.run_pure, Result.andThen_ok, List.map_toArray, List.map_cons, List.map_nil, hs, hxv, hr]
    exact h v' w' hA)

theorem flow_deal_at {ops : Array Oper} {Q : Exit → Act → World → Prop} {S : World → Prop} {i : Nat} {σ : List (Nat × Bool)} {a : Act} {w : World} (oi : Oper) (sv wv : Value) (g : Nat) (hi : ops[i]? = some oi) (hw : Region.wanted oi (yielded ops a.tmps) = true)
    (p : Operand) (ho : oi.op = .load 35 p) (hp : a.eval p = .pointer (some ⟨g, 0, none⟩)) (hc : ∀ w, S w → w.rangeAt g 0 [sv, wv])
    (h : wpFlow Try.prog ops Q S σ (a.put oi.dst (.agg #[sv, wv])) w) : wpFlow Try.prog ops Q S ((i, true) :: σ) a w :=
  flow_take oi (.agg #[sv, wv]) hi hw (fun w hS => by
    have hl : (Instr.loadAt 35 (.pointer (some ⟨g, 0, none⟩))).run Try.prog w = .ok (.agg #[sv, wv]) w := run_loadAt_mid w g 0 35 [sv, wv] _ (hc w hS) Try.underlying35 rfl (by kernel_rfl)
    unfold execOp
    simp only [ho, hp, Sem.run_bind, Sem.run_pure, hl, Result.andThen_ok]) h
/-- A list that is dealt with in the order O. -/
structure Again (O R : List Req) : Prop where
  len : R.length ≤ 1000
  fits : ∀ r ∈ R, r.fits
  few : ∀ M, IsSet M R → (actR M).length ≤ 19
  ord : ∀ O', ActOrd R O' → O' = O











theorem or_keep {W0 w w' : World} {tv av : Value} {T C : List Req} (h : RowKit.Below W0.heap.size W0 w ∧ ReqsIn w tv T ∧ ReqsIn w av C) (hb : RowKit.Below w.heap.size w w') : RowKit.Below W0.heap.size W0 w' ∧ ReqsIn w' tv T ∧ ReqsIn w' av C := ⟨below_next h.1 hb, h.2.1.below hb, h.2.2.below hb⟩
















































































































theorem ord_r5_form {w : World} {va : Value} {A : List Req} (h : ReqsIn w va A) : (va = .slice none 0 0 ∧ A = []) ∨ ∃ b o c, va = .slice (some ⟨b, o, none⟩) A.length c ∧ A.length ≤ c := by
  rcases h with h | ⟨b, o, c, h1, h2, _⟩
  · exact .inl h
  · exact .inr ⟨b, o, c, h1, h2⟩















theorem or_at {W0 w : World} {g : Nat} {sv wv : Value} (h : g < W0.heap.size ∧ ∀ j, W0.cell? ⟨g, j, none⟩ = (#[sv, wv] : Array Value)[j]?) (hB : RowKit.Below W0.heap.size W0 w) : w.rangeAt g 0 [sv, wv] := by
  intro j u hj
  rw [Nat.zero_add, hB.cell (p := ⟨g, j, none⟩) h.1, h.2 j]
  simpa using hj


































































































































end Go.Proofs.Ytjcogpalmgcpbaa
