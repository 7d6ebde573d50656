/- quadriviumlaw28.Case.made: a catalog, who has met what, the credits, requests. -/
import Derived.Test.YtjcogpalmgcpbaaGreatGeao
import Derived.Test.YtjcogpalmgcpbaaGreatGeab
import Derived.Test.YtjcogpalmgcpbaaGreatGeah
/- quadriviumref07.Made, walked. -/
/- quadriviumref07.Made: a catalog that numbers make; its first statement of a round, in whatever order. -/
namespace Go.Proofs.YtjcogpalmgcpbaaGreat
open Go Go.Proofs Go.RowKit Go.Maps Go.Sort Go.Lib

/-- Worlds behind W in which only the draw has moved. -/
def StD (W : World) (d : Nat) (A : Option Addr) (n c : Nat) (w : World) : Prop := W.grownBy w (some d) ∧ DrawS d A n c w
section
variable {W w w' : World} {d n c : Nat} {A : Option Addr} {u : Value} {l : List Int} {cc : ByteArray}
theorem StD.step (h : StD W d A n c w) (hs : w.grownBy w' (some d)) (hd : DrawS d A n c w') : StD W d A n c w' := ⟨grows_trans h.1 hs, hd⟩
theorem DrawS.lt (h : DrawS d A n c w) : d < w.heap.size := by
  obtain ⟨_, _, h⟩ := h
  exact (Array.getElem?_eq_some_iff.1 h).1
theorem DrawS.below (h : DrawS d A n c w) (hb : RowKit.Below w.heap.size w w') : DrawS d A n c w' := by
  obtain ⟨k, hk, hh⟩ := h
  exact ⟨k, hk, (hb.block d (Array.getElem?_eq_some_iff.1 hh).1).trans hh⟩
theorem StD.below (h : StD W d A n c w) (hb : RowKit.Below w.heap.size w w') : StD W d A n c w' := ⟨grows_trans h.1 (below_grows hb), h.2.below hb⟩
theorem StD.set (h : StD W d A n c w) (hd : d < W.heap.size) {b : Nat} (hb : W.heap.size ≤ b) (j : Nat) (u : Value) : StD W d A n c (w.setCell ⟨b, j, none⟩ u) := by
  refine ⟨grow_keep h.1 (Only.setCell w b j u 0) (fun q hq => by injection hq with hq; omega), ?_⟩
  obtain ⟨k, hk, hh⟩ := h.2
  exact ⟨k, hk, by unfold DrawAt at hh ⊢; rw [Below.heap_setCell _ _ _ _ (by show d ≠ b; omega)]; exact hh⟩
def Six (W w : World) (u : Value) (l : List Int) : Prop := ∃ b, u = .slice (some ⟨b, 0, none⟩) 6 6 ∧ W.heap.size ≤ b ∧ w.heap[b]? = some (.cells (l.map (Value.int .i64)).toArray 3 (0, 0))
def SixAt (W w : World) (u : Value) (l : List Int) : Prop := ∃ b g : Nat, u = .pointer (some ⟨b, g, none⟩) ∧ g < 6 ∧ W.heap.size ≤ b ∧ w.heap[b]? = some (.cells (l.map (Value.int .i64)).toArray 3 (0, 0))
theorem Six.step (h : Six W w u l) (hs : w.grownBy w' (some d)) (hd : d < W.heap.size) : Six W w' u l := by
  obtain ⟨b, h1, h2, h3⟩ := h
  exact ⟨b, h1, h2, (hs.block b (Array.getElem?_eq_some_iff.1 h3).1 (by simp; omega)).trans h3⟩
theorem SixAt.step (h : SixAt W w u l) (hs : w.grownBy w' (some d)) (hd : d < W.heap.size) : SixAt W w' u l := by
  obtain ⟨b, g, h1, h0, h2, h3⟩ := h
  exact ⟨b, g, h1, h0, h2, (hs.block b (Array.getElem?_eq_some_iff.1 h3).1 (by simp; omega)).trans h3⟩
def Below6 (u : Value) : Prop := ∃ g : Nat, u = .int .i64 g ∧ g < 6
def Small20 (u : Value) : Prop := ∃ x : Int, u = .int .i64 x ∧ 0 ≤ x ∧ x ≤ 20
def Small200 (u : Value) : Prop := ∃ x : Int, u = .int .i64 x ∧ 0 ≤ x ∧ x ≤ 200
def BuiltO (cc : ByteArray) (u : Value) : Prop := ∃ x y : Int, u = .agg #[.string cc, .int .i64 x, .int .i64 y, .slice none 0 0, .slice none 0 0] ∧ 0 ≤ x ∧ x ≤ 20 ∧ 0 ≤ y ∧ y ≤ 200
def BoxO (W : World) (cc : ByteArray) (st : Bool) (u : Value) (w : World) : Prop := ∃ b, u = .pointer (some ⟨b, 0, none⟩) ∧ W.heap.size ≤ b ∧ (st = false → w.heap[b]? = some (.cells #[.string ⟨#[]⟩, .int .i64 0, .int .i64 0, .slice none 0 0, .slice none 0 0] 72 (0, 0))) ∧
  (st = true → ∃ x y : Int, w.heap[b]? = some (.cells #[.string cc, .int .i64 x, .int .i64 y, .slice none 0 0, .slice none 0 0] 72 (0, 0)) ∧ 0 ≤ x ∧ x ≤ 20 ∧ 0 ≤ y ∧ y ≤ 200)
theorem BoxO.step {st : Bool} (h : BoxO W cc st u w) (hs : w.grownBy w' (some d)) (hd : d < W.heap.size) : BoxO W cc st u w' := by
  obtain ⟨b, h1, h2, h3, h4⟩ := h
  refine ⟨b, h1, h2, fun e => ?_, fun e => ?_⟩
  · have h := h3 e
    exact (hs.block b (Array.getElem?_eq_some_iff.1 h).1 (by simp; omega)).trans h
  · obtain ⟨x, y, h, hr⟩ := h4 e
    exact ⟨x, y, (hs.block b (Array.getElem?_eq_some_iff.1 h).1 (by simp; omega)).trans h, hr⟩
theorem six_cr {g : Nat} (hg : g < 6) : ∃ x : Int, ([5, 6, 3, 10, 5, 20] : List Int)[g]? = some x ∧ 0 ≤ x ∧ x ≤ 20 := by
  have h : g = 0 ∨ g = 1 ∨ g = 2 ∨ g = 3 ∨ g = 4 ∨ g = 5 := by omega
  rcases h with rfl | rfl | rfl | rfl | rfl | rfl <;> exact ⟨_, rfl, by omega, by omega⟩
theorem six_pl {g : Nat} (hg : g < 6) : ∃ x : Int, ([2, 1, 0, 30, 200, 3] : List Int)[g]? = some x ∧ 0 ≤ x ∧ x ≤ 200 := by
  have h : g = 0 ∨ g = 1 ∨ g = 2 ∨ g = 3 ∨ g = 4 ∨ g = 5 := by omega
  rcases h with rfl | rfl | rfl | rfl | rfl | rfl <;> exact ⟨_, rfl, by omega, by omega⟩
theorem six_cell {b g : Nat} {x : Int} (h : w.heap[b]? = some (.cells (l.map (Value.int .i64)).toArray 3 (0, 0))) (hx : l[g]? = some x) : w.cell? ⟨b, g, none⟩ = some (.int .i64 x) := by
  rw [Lib.cell_of_heap h]; simp [hx]
end














































































































































































































































end Go.Proofs.YtjcogpalmgcpbaaGreat
/- quadriviumref07.Made: what a round keeps. -/
namespace Go.Proofs.YtjcogpalmgcpbaaGreat
open Go Go.Proofs Go.RowKit Go.Maps Go.Sort Go.Lib

section
variable {W w w' w'' wr : World} {d n c B ob : Nat} {A : Option Addr} {v v' : Value} {L : List Off} {o : Off}
theorem own_type {w : World} {base k n b : Nat} {e t : TypeId} {v : Value} {xs : List Value} {cs : Array Value} {fz : Nat × Nat} (h : w.ownsRow base e k v n xs) (hb : w.heap[b]? = some (.cells cs t fz)) (ht : t ≠ e) : v.ownBlock ≠ some b := by
  rcases h.2 with ⟨rfl, _⟩ | ⟨g, cap, cur, rfl, _, hg, _⟩
  · simp [Value.ownBlock]
  · intro e'
    have e' : g = b := by simpa [Value.ownBlock] using e'
    subst e'
    rw [hg] at hb
    injection hb with hb
    injection hb with _ hb
    exact ht hb.symm
theorem own_own {w : World} {base base' k k' n n' : Nat} {e e' : TypeId} {v v' : Value} {xs xs' : List Value} (h : w.ownsRow base e k v n xs) (h' : w.ownsRow base' e' k' v' n' xs') (ht : e ≠ e') : v.ownBlock = none ∨ v.ownBlock ≠ v'.ownBlock := by
  rcases h'.2 with ⟨rfl, _⟩ | ⟨g, cap, cur, rfl, _, hg, _⟩
  · cases hq : v.ownBlock with
    | none => exact .inl rfl
    | some q => exact .inr (by simp [Value.ownBlock])
  · exact .inr (own_type h hg (Ne.symm ht))
/-- Who owns a block. -/
def Mine (v : Value) (L : List Off) (q : Nat) : Prop := v.ownBlock = some q ∨ ∃ o ∈ L, o.sv.ownBlock = some q ∨ o.nv.ownBlock = some q
structure MS (W : World) (d : Nat) (A : Option Addr) (n c : Nat) (v : Value) (L : List Off) (w : World) : Prop where
  keep : W.grownBy w (some d)
  draw : DrawS d A n c w
  rows : w.ownsRow W.heap.size 72 5 v L.length (flatE Off.cells L)
  ok : ∀ o ∈ L, w.ownsRow W.heap.size 3 1 o.sv o.slots.length (flatE encI o.slots) ∧ w.ownsRow W.heap.size 9 1 o.nv o.needs.length (flatE encT o.needs)
  dl : d < W.heap.size
theorem kept_if {w w' : World} {base k n : Nat} {e : TypeId} {v : Value} {xs : List Value} {row : Option Nat} (h : w.ownsRow base e k v n xs) (hg : w.grownBy w' row) (hm : ∀ q, row = some q → v.ownBlock ≠ some q) : w'.ownsRow base e k v n xs := by
  refine h.kept hg ?_
  cases hr : row with
  | none => cases hv : v.ownBlock <;> simp
  | some q => exact .inr (hm q hr)
theorem MS.mine (h : MS W d A n c v L w) {q : Nat} (hq : Mine v L q) : W.heap.size ≤ q ∧ q < w.heap.size := by
  rcases hq with hq | ⟨o, ho, hq | hq⟩
  · exact own_lo h.rows hq
  · exact own_lo (h.ok o ho).1 hq
  · exact own_lo (h.ok o ho).2 hq
theorem MS.kept (h : MS W d A n c v L w) {row : Option Nat} (hg : w.grownBy w' row) (hr : ∀ q, row = some q → q = d ∨ W.heap.size ≤ q) (hm : ∀ q, row = some q → ¬ Mine v L q) (hd : DrawS d A n c w') : MS W d A n c v L w' where
  keep := ⟨hg.os.trans h.keep.os, hg.tape.trans h.keep.tape, hg.output.trans h.keep.output, Nat.le_trans h.keep.size hg.size, fun i hi hne => (hg.block i (Nat.lt_of_lt_of_le hi h.keep.size) (fun e => by
    rcases hr i e.symm with e2 | e2
    · subst e2; exact hne rfl
    · omega)).trans (h.keep.block i hi hne)⟩
  draw := hd
  rows := kept_if h.rows hg fun q hq e => hm q hq (.inl e)
  ok o ho := ⟨kept_if (h.ok o ho).1 hg fun q hq e => hm q hq (.inr ⟨o, ho, .inl e⟩), kept_if (h.ok o ho).2 hg fun q hq e => hm q hq (.inr ⟨o, ho, .inr e⟩)⟩
  dl := h.dl
theorem MS.below (h : MS W d A n c v L w) (hb : RowKit.Below w.heap.size w w') : MS W d A n c v L w' := h.kept (row := none) (below_grows hb) (fun q e => by cases e) (fun q e => by cases e) (h.draw.below hb)
theorem MS.next (h : MS W d A n c v L w) (ho : Only d w w') (hd : DrawS d A n c w') : MS W d A n c v L w' :=
  h.kept ho (fun q e => by injection e with e; exact .inl e.symm) (fun q e hm => by injection e with e; subst e; have := (h.mine hm).1; have := h.dl; omega) hd
theorem MS.std (h : MS W d A n c v L w) (hs : StD w d A n c w') : MS W d A n c v L w' := h.next hs.1 hs.2
theorem MS.ints (h : MS W d A n c v L w) (hi : IntsIn d A n W) : IntsIn d A n w := hi.only (Nat.le_refl _) (Nat.le_of_lt h.dl) h.keep
/-- .. within a round: the offer in its box. -/
structure R7 (W : World) (B d : Nat) (A : Option Addr) (n c : Nat) (v : Value) (L : List Off) (ob : Nat) (o : Off) (w : World) : Prop where
  ms : MS W d A n c v L w
  lo : ∀ q, Mine v L q → q < B
  bl : W.heap.size ≤ B
  ol : B ≤ ob
  box : w.heap[ob]? = some (.cells #[.string o.code, .int .i64 o.credits, .int .i64 o.places, .slice o.sp o.slots.length o.sc, .slice o.np o.needs.length o.nc] 72 (0, 0))
  sl : w.ownsRow B 3 1 (.slice o.sp o.slots.length o.sc) o.slots.length (flatE encI o.slots)
  nd : w.ownsRow B 9 1 (.slice o.np o.needs.length o.nc) o.needs.length (flatE encT o.needs)
theorem R7.cell (h : R7 W B d A n c v L ob o w) (j : Nat) : w.cell? ⟨ob, j, none⟩ = (#[.string o.code, .int .i64 o.credits, .int .i64 o.places, .slice o.sp o.slots.length o.sc, .slice o.np o.needs.length o.nc] : Array Value)[j]? := Lib.cell_of_heap h.box j
theorem R7.next (h : R7 W B d A n c v L ob o w) (hs : Only d w w') (hd : DrawS d A n c w') : R7 W B d A n c v L ob o w' where
  ms := h.ms.next hs hd
  lo := h.lo
  bl := h.bl
  ol := h.ol
  box := (hs.block ob (Array.getElem?_eq_some_iff.1 h.box).1 (by have := h.ms.dl; have := h.bl; have := h.ol; simp; omega)).trans h.box
  sl := kept_if h.sl hs fun q hq e => by injection hq with hq; subst hq; have := (own_lo h.sl e).1; have := h.ms.dl; have := h.bl; omega
  nd := kept_if h.nd hs fun q hq e => by injection hq with hq; subst hq; have := (own_lo h.nd e).1; have := h.ms.dl; have := h.bl; omega
theorem R7.below (h : R7 W B d A n c v L ob o w) (hb : RowKit.Below w.heap.size w w') : R7 W B d A n c v L ob o w' where
  ms := h.ms.below hb
  lo := h.lo
  bl := h.bl
  ol := h.ol
  box := (hb.block ob (Array.getElem?_eq_some_iff.1 h.box).1).trans h.box
  sl := kept_if h.sl (row := none) (below_grows hb) fun q hq => by cases hq
  nd := kept_if h.nd (row := none) (below_grows hb) fun q hq => by cases hq
theorem DrawS.kept {row : Option Nat} (h : DrawS d A n c w) (hg : w.grownBy w' row) (hne : ∀ q, row = some q → q ≠ d) : DrawS d A n c w' := by
  obtain ⟨k, hk, hh⟩ := h
  exact ⟨k, hk, (hg.block d (Array.getElem?_eq_some_iff.1 hh).1 (fun e => hne d e.symm rfl)).trans hh⟩
theorem R7.lit (_hB : B ≤ w.heap.size) (h : MS W d A n c v L w) (hlo : ∀ q, Mine v L q → q < B) (hbl : W.heap.size ≤ B) (hol : B ≤ ob) {cc : ByteArray} {x y : Int}
    (hbx : w.heap[ob]? = some (.cells #[.string cc, .int .i64 x, .int .i64 y, .slice none 0 0, .slice none 0 0] 72 (0, 0))) : R7 W B d A n c v L ob ⟨cc, x, y, none, 0, none, 0, [], []⟩ w :=
  ⟨h, hlo, hbl, hol, hbx, World.ownsRow_nil _ _ _ _, World.ownsRow_nil _ _ _ _⟩
theorem R7.slot (h : R7 W B d A n c v L ob o w) {x : Int} {p : Option Addr} {cp : Nat} (hA : AppT encI 1 3 w B (.slice o.sp o.slots.length o.sc) o.slots [x] (.slice p (o.slots.length + 1) cp) w') :
    R7 W B d A n c v L ob { o with sp := p, sc := cp, slots := o.slots ++ [x] } (w'.setCell ⟨ob, 3, none⟩ (.slice p (o.slots.length + 1) cp)) := by
  have hlt := (Array.getElem?_eq_some_iff.1 h.box).1
  have hob : ∀ q, (Value.slice o.sp o.slots.length o.sc).ownBlock = some q → q ≠ ob := fun q hq e => by subst e; exact own_type h.sl h.box (by decide) hq
  have hq1 : ∀ q, (Value.slice o.sp o.slots.length o.sc).ownBlock = some q → B ≤ q := fun q hq => (own_lo h.sl hq).1
  have hbl := h.bl; have hdl := h.ms.dl; have hol := h.ol
  have hbx : w'.heap[ob]? = _ := (hA.grown.block ob hlt (fun e => hob ob e.symm rfl)).trans h.box
  have m1 : MS W d A n c v L w' := h.ms.kept hA.grown (fun q hq => .inr (by have := hq1 q hq; omega)) (fun q hq hm => by have := h.lo q hm; have := hq1 q hq; omega) (h.ms.draw.kept hA.grown fun q hq => by have := hq1 q hq; omega)
  have hs2 := Only.setCell w' ob 3 (.slice p (o.slots.length + 1) cp) 0
  have e1 : (o.slots ++ [x]).length = o.slots.length + 1 := by simp
  have hown := hA.own
  rw [e1] at hown
  refine ⟨m1.kept hs2 (fun q hq => .inr (by injection hq with hq; omega)) (fun q hq hm => by injection hq with hq; have := h.lo q hm; omega) (m1.draw.kept hs2 fun q hq => by injection hq with hq; omega), h.lo, h.bl, h.ol, ?_, ?_, ?_⟩
  · simp [World.setCell, Array.getElem?_modify, hbx]
  · have : (w'.setCell ⟨ob, 3, none⟩ (.slice p (o.slots.length + 1) cp)).ownsRow B 3 1 (.slice p (o.slots.length + 1) cp) (o.slots.length + 1) (flatE encI (o.slots ++ [x])) := kept_if hown hs2 fun q hq e => by injection hq with hq; subst hq; exact own_type hown hbx (by decide) e
    simpa using this
  · have k1 := h.nd.kept hA.grown (own_own h.nd h.sl (by decide))
    exact kept_if k1 hs2 fun q hq e => by injection hq with hq; subst hq; exact own_type k1 hbx (by decide) e
theorem R7.need (h : R7 W B d A n c v L ob o w) {x : ByteArray} {p : Option Addr} {cp : Nat} (hA : AppT encT 1 9 w B (.slice o.np o.needs.length o.nc) o.needs [x] (.slice p (o.needs.length + 1) cp) w') :
    R7 W B d A n c v L ob { o with np := p, nc := cp, needs := o.needs ++ [x] } (w'.setCell ⟨ob, 4, none⟩ (.slice p (o.needs.length + 1) cp)) := by
  have hlt := (Array.getElem?_eq_some_iff.1 h.box).1
  have hob : ∀ q, (Value.slice o.np o.needs.length o.nc).ownBlock = some q → q ≠ ob := fun q hq e => by subst e; exact own_type h.nd h.box (by decide) hq
  have hq1 : ∀ q, (Value.slice o.np o.needs.length o.nc).ownBlock = some q → B ≤ q := fun q hq => (own_lo h.nd hq).1
  have hbl := h.bl; have hdl := h.ms.dl; have hol := h.ol
  have hbx : w'.heap[ob]? = _ := (hA.grown.block ob hlt (fun e => hob ob e.symm rfl)).trans h.box
  have m1 : MS W d A n c v L w' := h.ms.kept hA.grown (fun q hq => .inr (by have := hq1 q hq; omega)) (fun q hq hm => by have := h.lo q hm; have := hq1 q hq; omega) (h.ms.draw.kept hA.grown fun q hq => by have := hq1 q hq; omega)
  have hs2 := Only.setCell w' ob 4 (.slice p (o.needs.length + 1) cp) 0
  have e1 : (o.needs ++ [x]).length = o.needs.length + 1 := by simp
  have hown := hA.own
  rw [e1] at hown
  refine ⟨m1.kept hs2 (fun q hq => .inr (by injection hq with hq; omega)) (fun q hq hm => by injection hq with hq; have := h.lo q hm; omega) (m1.draw.kept hs2 fun q hq => by injection hq with hq; omega), h.lo, h.bl, h.ol, ?_, ?_, ?_⟩
  · simp [World.setCell, Array.getElem?_modify, hbx]
  · have k1 := h.sl.kept hA.grown (own_own h.sl h.nd (by decide))
    exact kept_if k1 hs2 fun q hq e => by injection hq with hq; subst hq; exact own_type k1 hbx (by decide) e
  · have : (w'.setCell ⟨ob, 4, none⟩ (.slice p (o.needs.length + 1) cp)).ownsRow B 9 1 (.slice p (o.needs.length + 1) cp) (o.needs.length + 1) (flatE encT (o.needs ++ [x])) := kept_if hown hs2 fun q hq e => by injection hq with hq; subst hq; exact own_type hown hbx (by decide) e
    simpa using this
theorem R7.done (h : R7 W B d A n c v L ob o w) (hA : AppT Off.cells 5 72 w W.heap.size v L [o] v' w') : MS W d A n c v' (L ++ [o]) w' where
  keep := grow_keep h.ms.keep hA.grown fun q hq => (own_lo h.ms.rows hq).1
  draw := h.ms.draw.kept hA.grown fun q hq => by have := (own_lo h.ms.rows hq).1; have := h.ms.dl; omega
  rows := hA.own
  ok x hx := by
    rw [List.mem_append, List.mem_singleton] at hx
    rcases hx with hx | rfl
    · exact ⟨(h.ms.ok x hx).1.kept hA.grown (own_own (h.ms.ok x hx).1 h.ms.rows (by decide)), (h.ms.ok x hx).2.kept hA.grown (own_own (h.ms.ok x hx).2 h.ms.rows (by decide))⟩
    · exact ⟨row_base (h.sl.kept hA.grown (own_own h.sl h.ms.rows (by decide))) h.bl, row_base (h.nd.kept hA.grown (own_own h.nd h.ms.rows (by decide))) h.bl⟩
  dl := h.ms.dl
end
/-- A right offer that was made. -/
structure GoodO (o : Off) : Prop where
  code : o.code ∈ codesL
  c0 : 0 ≤ o.credits
  c1 : o.credits ≤ 20
  p0 : 0 ≤ o.places
  p1 : o.places ≤ 200
  sl : o.slots.length ≤ 4
  nd : o.needs.length ≤ 2
/-- A catalog that was made of the first k codes. -/
def GoodL (k : Nat) (L : List Off) : Prop := (∀ o ∈ L, GoodO o) ∧ (L.map Off.code).Sublist (codesL.take k)
theorem GoodL.skip {k : Nat} {L : List Off} (h : GoodL k L) : GoodL (k + 1) L := ⟨h.1, h.2.trans (by rw [List.take_add_one]; exact List.sublist_append_left _ _)⟩
theorem GoodL.put {k : Nat} {L : List Off} {o : Off} (h : GoodL k L) (ho : GoodO o) (hc : codesL[k]? = some o.code) : GoodL (k + 1) (L ++ [o]) := by
  refine ⟨fun x hx => ?_, ?_⟩
  · rw [List.mem_append, List.mem_singleton] at hx
    rcases hx with hx | rfl
    · exact h.1 x hx
    · exact ho
  · rw [take_one hc, List.map_append]
    exact h.2.append (List.Sublist.refl _)
theorem GoodL.len {k : Nat} {L : List Off} (h : GoodL k L) : L.length ≤ 6 := by
  have := h.2.length_le
  simp only [List.length_map, List.length_take] at this
  have : codesL.length = 6 := rfl
  omega
theorem intT : RowT Tryz.prog encI 1 3 22 where
  len _ := rfl
  one s u hu := by simp [encI] at hu; subst hu; rfl
  pos := by decide
  und := Tryz.underlying22
  info := by
    obtain ⟨i0, hi, h1, h2, h3⟩ := info_parts (show (Tryz.prog.info? 3).map (fun i => (i.zero, i.size, i.bytes)) = some (some (.int .i64 0), 1, 8) by kernel_rfl)
    exact ⟨i0, _, hi, h1, h2, rfl, by omega⟩
theorem strT : RowT Tryz.prog encT 1 9 70 where
  len _ := rfl
  one s u hu := by simp [encT] at hu; subst hu; rfl
  pos := by decide
  und := Tryz.underlying70
  info := by
    obtain ⟨i0, hi, h1, h2, h3⟩ := info_parts (show (Tryz.prog.info? 9).map (fun i => (i.zero, i.size, i.bytes)) = some (some (.string ⟨#[]⟩), 1, 16) by kernel_rfl)
    exact ⟨i0, _, hi, h1, h2, rfl, by omega⟩
theorem offT : RowT Tryz.prog Off.cells 5 72 27 where
  len _ := rfl
  one s u hu := by simp [Off.cells] at hu; rcases hu with rfl | rfl | rfl | rfl | rfl <;> rfl
  pos := by decide
  und := Tryz.underlying27
  info := by
    obtain ⟨i0, hi, h1, h2, h3⟩ := info_parts (show (Tryz.prog.info? 72).map (fun i => (i.zero, i.size, i.bytes)) = some (some (.agg #[.string ⟨#[]⟩, .int .i64 0, .int .i64 0, .slice none 0 0, .slice none 0 0]), 5, 80) by kernel_rfl)
    exact ⟨i0, _, hi, h1, h2, rfl, by omega⟩
end Go.Proofs.YtjcogpalmgcpbaaGreat
/- quadriviumref07.Made: what a course requires is put on. -/
namespace Go.Proofs.YtjcogpalmgcpbaaGreat
open Go Go.Proofs Go.RowKit Go.Maps Go.Sort Go.Lib

/-- .. while an offer is made. -/
structure RoundSt (W : World) (B d : Nat) (A : Option Addr) (n c k : Nat) (v : Value) (L : List Off) (ob : Nat) (o : Off) (w : World) : Prop where
  r7 : R7 W B d A n c v L ob o w
  good : GoodO o
  code : codesL[k]? = some o.code
section
variable {W w w' : World} {B d n c k ob gp op : Nat} {A : Option Addr} {v u : Value} {L : List Off} {o : Off} {cd : ByteArray}
theorem RoundSt.next (h : RoundSt W B d A n c k v L ob o w) (hs : Only d w w') (hd : DrawS d A n c w') : RoundSt W B d A n c k v L ob o w' := ⟨h.r7.next hs hd, h.good, h.code⟩
theorem RoundSt.below (h : RoundSt W B d A n c k v L ob o w) (hb : RowKit.Below w.heap.size w w') : RoundSt W B d A n c k v L ob o w' := ⟨h.r7.below hb, h.good, h.code⟩
def OneT (w : World) (cd : ByteArray) (u : Value) : Prop := ∃ b, u = .slice (some ⟨b, 0, none⟩) 1 1 ∧ RowIn encT w (.slice (some ⟨b, 0, none⟩) 1 1) [cd]
def Added (W : World) (B d : Nat) (A : Option Addr) (n c k : Nat) (v : Value) (L : List Off) (ob : Nat) (o : Off) (cd : ByteArray) (u : Value) (w : World) : Prop := ∃ w0 p cp, u = .slice p (o.needs.length + 1) cp ∧ RoundSt W B d A n c k v L ob o w0 ∧ AppT encT 1 9 w0 B (.slice o.np o.needs.length o.nc) o.needs [cd] (.slice p (o.needs.length + 1) cp) w
def MoreN (W : World) (B d : Nat) (A : Option Addr) (n c k : Nat) (v : Value) (L : List Off) (ob : Nat) (w : World) : Prop := ∃ o', RoundSt W B d A n c k v L ob o' w
theorem Added.box (h : Added W B d A n c k v L ob o cd u w) : w.heap[ob]? = some (.cells #[.string o.code, .int .i64 o.credits, .int .i64 o.places, .slice o.sp o.slots.length o.sc, .slice o.np o.needs.length o.nc] 72 (0, 0)) := by
  obtain ⟨w0, p, cp, _, hr, hA⟩ := h
  exact (hA.grown.block ob (Array.getElem?_eq_some_iff.1 hr.r7.box).1 (fun e => own_type hr.r7.nd hr.r7.box (by decide) e.symm)).trans hr.r7.box
end












































































































end Go.Proofs.YtjcogpalmgcpbaaGreat
namespace Go.Proofs.YtjcogpalmgcpbaaGreat
open Go Go.Proofs Go.RowKit Go.Maps Go.Sort Go.Lib

/-- Between two rounds. -/
def MadeSt (W : World) (d : Nat) (A : Option Addr) (n c k : Nat) (v : Value) (w : World) : Prop := ∃ (L : List Off) (p : Option Addr) (e : Nat), v = .slice p L.length e ∧ GoodL k L ∧ MS W d A n c (.slice p L.length e) L w
def Made07Post (w : World) (x : Ending) (w' : World) : Prop := ∃ v L, x = .returned v ∧ RowIn Off.cells w' v L ∧ (∀ o ∈ L, OffOk w' o) ∧ GoodL 6 L ∧ RowKit.Below w.heap.size w w'
section
variable {W w w' : World} {B d n c k ob : Nat} {A : Option Addr} {v : Value} {L : List Off} {o : Off}
def SlotSt (W : World) (B d : Nat) (A : Option Addr) (n c k : Nat) (v : Value) (L : List Off) (ob s : Nat) (w : World) : Prop := ∃ o, RoundSt W B d A n c k v L ob o w ∧ (s = 0 ∨ o.slots.length < s)
theorem own_last {w : World} {base k : Nat} {e : TypeId} {p : Option Addr} {cp : Nat} {l : List Int} {x : Int} (h : w.ownsRow base e 1 (.slice p (l.length + 1) cp) (l.length + 1) (flatE encI (l ++ [x]))) (_hk : k = l.length) : ∃ g, p = some ⟨g, 0, none⟩ ∧ w.cell? ⟨g, k, none⟩ = some (.int .i64 x) ∧ l.length + 1 ≤ cp := by
  subst _hk
  rcases h.2 with ⟨_, h0⟩ | ⟨g, cap, cur, hv, _, hg, h2, _, _, h5⟩
  · omega
  · injection hv with e1 e2 e3
    subst e1; subst e3
    refine ⟨g, rfl, ?_, h2⟩
    have hl : (flatE encI (l ++ [x])).length = l.length + 1 := by rw [flatE_len (k := 1) (fun _ => rfl)]; simp
    have hx : (flatE encI (l ++ [x]))[l.length]? = some (.int .i64 x) := by
      have := flatE_at (enc := encI) (k := 1) (fun _ => rfl) (L := l ++ [x]) (i := l.length) (j := 0) (x := x) (u := .int .i64 x) (by simp) rfl
      simpa using this
    rw [Lib.cell_of_heap hg]
    rw [← h5, List.getElem?_take] at hx
    split at hx
    · simpa using hx
    · cases hx
end























































































































































































































end Go.Proofs.YtjcogpalmgcpbaaGreat
namespace Go.Proofs.YtjcogpalmgcpbaaGreat
open Go Go.Proofs Go.RowKit Go.Maps Go.Sort Go.Lib

theorem ints_up {B B' : Nat} {S : Option Addr} {N : Nat} {w : World} (h : IntsIn B S N w) (hB : B ≤ B') : IntsIn B' S N w :=
  ⟨h.1, fun j hj => by
    obtain ⟨b, off, z, hA, hb, hc, hz⟩ := h.2 j hj
    exact ⟨b, off, z, hA, Nat.lt_of_lt_of_le hb hB, hc, hz⟩⟩
theorem ints_at {S : Option Addr} {N : Nat} {w w' : World} (h : IntsIn w.heap.size S N w) (hb : RowKit.Below w.heap.size w w') : IntsIn w'.heap.size S N w' := ints_up (h.below hb) hb.size
theorem intss_at {S : Option Addr} {N : Nat} {w w' : World} (h : IntssIn w.heap.size S N w) (hb : RowKit.Below w.heap.size w w') : IntssIn w'.heap.size S N w' :=
  ⟨h.1, fun j hj => by
    obtain ⟨b, off, A, n, c, hA, hB, hc, hi⟩ := (h.below hb).2 j hj
    exact ⟨b, off, A, n, c, hA, Nat.lt_of_lt_of_le hB hb.size, hc, ints_up hi hb.size⟩⟩
theorem Req.Small.fits {r : Req} (h : r.Small) : r.fits := ⟨h.wf, by have := h.code; omega, by have := h.give; omega⟩
theorem GoodL.calm {k : Nat} {L : List Off} (h : GoodL k L) : Calm L := fun o ho => ⟨(h.1 o ho).c0, by have := (h.1 o ho).c1; omega⟩
theorem codesL_small {c : ByteArray} (h : c ∈ codesL) : c.size ≤ 2 := by
  have : ∀ c ∈ codesL, c.size ≤ 2 := by decide
  exact this c h
theorem GoodL.cat {k : Nat} {w : World} {ov mv : Value} {L : List Off} {M : List Seat} (h : GoodL k L) (ho : RowIn Off.cells w ov L) (hok : ∀ o ∈ L, OffOk w o) (hm : RowIn Seat.cells w mv M) (hs : ∀ s ∈ M, s.wf) (lm : M.length ≤ 1000000) : CatIn w ov mv L M where
  off := ho
  ok o hx := ⟨hok o hx, by have := (h.1 o hx).sl; unfold Off.few; omega⟩
  code o hx := by have := codesL_small (h.1 o hx).code; unfold maxLen; omega
  met := hm
  wf := hs
  lo := by have := h.len; omega
  lm := lm
/-- What 'made' leaves. -/
structure MkCase (w' : World) (ov mv rv : Value) (L : List Off) (M : List Seat) (most : Int) (R : List Req) : Prop where
  cat : CatIn w' ov mv L M
  good : GoodL 6 L
  m0 : 0 ≤ most
  m1 : most ≤ 39
  req : ReqsIn w' rv R
  lr : R.length ≤ 16
  small : ∀ r ∈ R, r.Small
theorem MkCase.below {w w' : World} {ov mv rv : Value} {L : List Off} {M : List Seat} {most : Int} {R : List Req} (h : MkCase w ov mv rv L M most R) (hb : RowKit.Below w.heap.size w w') : MkCase w' ov mv rv L M most R :=
  ⟨h.cat.below hb, h.good, h.m0, h.m1, h.req.below hb, h.lr, h.small⟩
def MkCasePost (w : World) (x : Ending) (w' : World) : Prop := ∃ ov mv rv L M most R, x = .returned (.tuple #[ov, mv, .int .i64 most, rv]) ∧ MkCase w' ov mv rv L M most R ∧ RowKit.Below w.heap.size w w'
































end Go.Proofs.YtjcogpalmgcpbaaGreat
