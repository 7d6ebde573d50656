/- market.Deal, walked: what it deals out. -/
import Derived.Test.YtjcogpalmgcpbaaMkVs
namespace Go.Proofs.Ytjcogpalmgcpbaa
open Go Go.Proofs Go.RowKit Go.Maps Go.Sort Go.Lib
attribute [local go_sem] Seat.cells Req.cells

/-- A deal while it is made: its box, its rows. -/
structure DSt (w0 : World) (db : Nat) (d : Deal) (sv wv : Value) (w : World) : Prop where
  keep : w0.grownBy w (some db)
  box : w.heap[db]? = some (.cells #[sv, wv] 35 (0, 0))
  seats : w.ownsRow w0.heap.size 32 2 sv d.seats.length (flatE Seat.cells d.seats)
  waits : w.ownsRow w0.heap.size 32 2 wv d.waits.length (flatE Seat.cells d.waits)
  apart : sv.ownBlock = none ∨ sv.ownBlock ≠ wv.ownBlock
  low : db < w0.heap.size
variable {w0 w w' w'' : World} {db : Nat} {d : Deal} {sv wv v' ov : Value} {X : List Seat} {s : Seat}
theorem DSt.lt (h : DSt w0 db d sv wv w) : db < w.heap.size := (Array.getElem?_eq_some_iff.1 h.box).1
theorem DSt.size (h : DSt w0 db d sv wv w) : w0.heap.size ≤ w.heap.size := h.keep.size
theorem DSt.below (h : DSt w0 db d sv wv w) (hb : RowKit.Below w.heap.size w w') : DSt w0 db d sv wv w' :=
  ⟨grows_trans h.keep (below_grows hb), (hb.block db h.lt).trans h.box, h.seats.kept (row := none) (below_grows hb) (by cases sv.ownBlock <;> simp), h.waits.kept (row := none) (below_grows hb) (by cases wv.ownBlock <;> simp), h.apart, h.low⟩
theorem DSt.cell (h : DSt w0 db d sv wv w) (j : Nat) : w.cell? ⟨db, j, none⟩ = (#[sv, wv] : Array Value)[j]? := Lib.cell_of_heap h.box j
theorem DSt.frozen (h : DSt w0 db d sv wv w) (j : Nat) : w.frozen? ⟨db, j, none⟩ = false := Lib.frozen_of_heap h.box j
theorem grow_keep {w0 w w' : World} {db : Nat} {row : Option Nat} (h : w0.grownBy w (some db)) (hg : w.grownBy w' row) (hr : ∀ q, row = some q → w0.heap.size ≤ q) : w0.grownBy w' (some db) :=
  ⟨hg.1.trans h.1, hg.2.trans h.2, hg.3.trans h.3, Nat.le_trans h.size hg.size, fun i hi hne => (hg.block i (Nat.lt_of_lt_of_le hi h.size) (fun e => by have := hr i e.symm; omega)).trans (h.block i hi hne)⟩
theorem own_lo {w : World} {base k : Nat} {e : TypeId} {v : Value} {n : Nat} {xs : List Value} (h : w.ownsRow base e k v n xs) {q : Nat} (hq : v.ownBlock = some q) : base ≤ q ∧ q < w.heap.size := h.lt q hq
theorem own_form {w : World} {base k n : Nat} {e : TypeId} {v : Value} {xs : List Value} (h : w.ownsRow base e k v n xs) : ∃ p c, v = .slice p n c := by
  rcases h.2 with ⟨rfl, rfl⟩ | ⟨g, cap, _, rfl, _⟩
  · exact ⟨_, _, rfl⟩
  · exact ⟨_, _, rfl⟩
theorem own_set {w : World} {base k n : Nat} {e : TypeId} {v : Value} {xs : List Value} (h : w.ownsRow base e k v n xs) {b : Nat} (hb : b < base) (j : Nat) (u : Value) : (w.setCell ⟨b, j, none⟩ u).ownsRow base e k v n xs := by
  refine h.kept (row := some b) (Only.setCell w b j u 0) ?_
  cases hq : v.ownBlock with
  | none => exact .inl rfl
  | some q => exact .inr (by have := (own_lo h hq).1; intro e; injection e with e; omega)
theorem DSt.seat (h : DSt w0 db d sv wv w) (hb : RowKit.Below w.heap.size w w') (hA : AppT Seat.cells 2 32 w' w.heap.size ov X [s] v' w'') (ho : w'.ownsRow w.heap.size 32 2 ov X.length (flatE Seat.cells X)) :
    DSt w0 db ⟨X ++ [s], d.waits⟩ v' wv (w''.setCell ⟨db, 0, none⟩ v') := by
  have h1 := h.below hb
  have hov : ∀ q, ov.ownBlock = some q → w.heap.size ≤ q := fun q hq => (own_lo ho hq).1
  have hne : some db ≠ ov.ownBlock := fun e => by have := hov db e.symm; have := h.lt; omega
  have hbx : w''.heap[db]? = some (.cells #[sv, wv] 35 (0, 0)) := (hA.grown.block db h1.lt (fun e => hne e)).trans h1.box
  have hw : w''.ownsRow w0.heap.size 32 2 wv d.waits.length (flatE Seat.cells d.waits) := h1.waits.kept hA.grown (by
    cases hq : wv.ownBlock with
    | none => exact .inl rfl
    | some q => exact .inr (fun e => by have := hov q e.symm; have := (own_lo h.waits hq).2; omega))
  have hs : w''.ownsRow w0.heap.size 32 2 v' (X ++ [s]).length (flatE Seat.cells (X ++ [s])) := row_base hA.own h.size
  have hlt := h.low
  refine ⟨grows_trans (grow_keep h1.keep hA.grown (fun q hq => Nat.le_trans h.size (hov q hq))) (Only.setCell _ db 0 _ 0), by simp [World.setCell, Array.getElem?_modify, hbx], own_set hs hlt _ _, own_set hw hlt _ _, ?_, hlt⟩
  cases hq : v'.ownBlock with
  | none => exact .inl rfl
  | some q =>
    refine .inr fun e => ?_
    have h2 : w.heap.size ≤ q := (own_lo hA.own hq).1
    have h3 := (own_lo h.waits e.symm).2
    omega
theorem DSt.wait (h : DSt w0 db d sv wv w) (hb : RowKit.Below w.heap.size w w') (hA : AppT Seat.cells 2 32 w' w0.heap.size wv d.waits [s] v' w'') :
    DSt w0 db ⟨d.seats, d.waits ++ [s]⟩ sv v' (w''.setCell ⟨db, 1, none⟩ v') := by
  have h1 := h.below hb
  have hov : ∀ q, wv.ownBlock = some q → w0.heap.size ≤ q := fun q hq => (own_lo h.waits hq).1
  have hlt := h.low
  have hne : some db ≠ wv.ownBlock := fun e => by have := hov db e.symm; omega
  have hbx : w''.heap[db]? = some (.cells #[sv, wv] 35 (0, 0)) := (hA.grown.block db h1.lt (fun e => hne e)).trans h1.box
  have hw : w''.ownsRow w0.heap.size 32 2 sv d.seats.length (flatE Seat.cells d.seats) := h1.seats.kept hA.grown h.apart
  refine ⟨grows_trans (grow_keep h1.keep hA.grown hov) (Only.setCell _ db 1 _ 0), by simp [World.setCell, Array.getElem?_modify, hbx], own_set hw hlt _ _, own_set hA.own hlt _ _, ?_, hlt⟩
  cases hq : sv.ownBlock with
  | none => exact .inl rfl
  | some q =>
    refine .inr fun e => ?_
    rcases hA.block with h2 | h2
    · rw [h2, ← hq] at e
      rcases h.apart with h3 | h3
      · rw [hq] at h3; cases h3
      · exact h3 e
    · have := h2 q e.symm
      have := (own_lo h1.seats hq).2
      omega
theorem RulesAt.lt {b1 b2 : Nat} {L : List Off} {M : List Seat} (h : RulesAt w b1 b2 L M) : b1 < w.heap.size ∧ b2 < w.heap.size := by
  obtain ⟨⟨n1, D1, h1, _⟩, ⟨n2, D2, h3, _⟩⟩ := h
  exact ⟨h1.lt, h3.lt⟩
theorem RulesAt.grown {b1 b2 q : Nat} {L : List Off} {M : List Seat} (h : RulesAt w b1 b2 L M) (hg : w.grownBy w' (some q)) (h1 : b1 ≠ q) (h2 : b2 ≠ q) : RulesAt w' b1 b2 L M := by
  obtain ⟨⟨n1, D1, o1, o2⟩, ⟨n2, D2, o3, o4⟩⟩ := h
  exact ⟨⟨n1, D1, o1.kept hg (by simpa using h1), o2⟩, ⟨n2, D2, o3.kept hg (by simpa using h2), o4⟩⟩
theorem stepD_named {L : List Off} {M : List Seat} {most : Int} {d : Deal} {x : Req} {Ot : List Seat} {fin : Bool} (h1 : Ot = othersD d.seats x) (h2 : fin = fineD d.seats x) :
    stepD L M most d x = if fin = true ∧ fitsP L M most Ot (seatOf x) = 0 then ⟨Ot ++ [seatOf x], d.waits⟩ else if seatOf x ∈ d.waits then d else ⟨d.seats, d.waits ++ [seatOf x]⟩ := by
  rw [h1, h2]; rfl
theorem DSt.after (h : DSt w0 db d sv wv w) {row : Option Nat} (hg : w.grownBy w' row) (hr : ∀ q, row = some q → w0.heap.size ≤ q) : w'.heap[db]? = some (.cells #[sv, wv] 35 (0, 0)) :=
  (hg.block db h.lt (fun e => by have := hr db e.symm; have := h.low; omega)).trans h.box
def DealPost (L : List Off) (M : List Seat) (most : Int) (R : List Req) (w : World) (e : Ending) (w' : World) : Prop :=
  ∃ sv wv O, e = .returned (.agg #[sv, wv]) ∧ ActOrd R O ∧ RowIn Seat.cells w' sv (dealP L M most O).seats ∧ RowIn Seat.cells w' wv (dealP L M most O).waits ∧ RowKit.Below w.heap.size w w'
theorem ord_of {O A : List Req} (hp : O.Perm A) (hs : O.Pairwise fun a b => ltOf cmpB b a = false) (hn : A.Pairwise fun a b => numR a ≠ numR b) : IsOrd O A :=
  isOrd_of hp hn (hs.imp fun {a b} h h2 => by simp [ltOf] at h; omega)
theorem deal_wf {L : List Off} {M : List Seat} {most : Int} (O : List Req) : (∀ r ∈ O, (seatOf r).wf) → ∀ x ∈ (dealP L M most O).seats, x.wf := by
  refine snoc_ind (p := fun O => (∀ r ∈ O, (seatOf r).wf) → ∀ x ∈ (dealP L M most O).seats, x.wf) (fun _ x hx => by cases hx) (fun a x ih h y hy => ?_) O
  have ih := ih fun r hr => h r (List.mem_append_left _ hr)
  rw [dealP_snoc] at hy
  unfold stepD at hy
  split at hy
  · simp only [List.mem_append, List.mem_singleton] at hy
    rcases hy with hy | rfl
    · exact ih y ((others_sub _ _).subset hy)
    · exact h x (by simp)
  · split at hy <;> exact ih y hy
/-- One taken out of a list without repetition. -/
theorem out_filter : ∀ (l : List Seat) (k : Nat) (s : Seat), l.Nodup → l[k]? = some s → l.take k ++ l.drop (k + 1) = l.filter fun x => decide (x ≠ s)
  | [], k, s, _, h => by simp at h
  | a :: l, 0, s, hn, h => by
    simp only [List.getElem?_cons_zero, Option.some.injEq] at h
    subst h
    have h1 := (List.nodup_cons.1 hn).1
    have : l.filter (fun x => decide (x ≠ a)) = l := List.filter_eq_self.2 fun x hx => by simp; exact fun e => h1 (by rw [← e]; exact hx)
    rw [List.filter_cons, if_neg (by simp), this]; rfl
  | a :: l, k + 1, s, hn, h => by
    simp only [List.getElem?_cons_succ] at h
    have h1 := (List.nodup_cons.1 hn).1
    have hne : a ≠ s := fun e => h1 (by rw [e]; exact List.mem_of_getElem? h)
    have ih := out_filter l k s (List.nodup_cons.1 hn).2 h
    simp only [List.take_succ_cons, List.drop_succ_cons, List.cons_append, ih]
    simp [hne]
theorem give_test (g : ByteArray) : (!g.toList.isEmpty) = !decide (g.size = 0) := by
  rw [ByteArray.toList_eq, ba_size]
  cases g.data.toList <;> simp











































































































































































































































































































































end Go.Proofs.Ytjcogpalmgcpbaa
